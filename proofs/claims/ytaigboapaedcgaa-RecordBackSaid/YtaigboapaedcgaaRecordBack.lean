/- Layer 7, the law: what is framed is taken apart as it was, wherever it ends. No condition. -/
import Derived.Test.YtaigboapaedcgaaRecLaw
namespace Go.Proofs.Ytaigboapaedcgaa
open Go Go.RowKit Hg
set_option linter.unusedVariables false
set_option linter.unusedSimpArgs false
attribute [local go_sem] Lib.run_eql_slice_nil run_min2 run_max2 run_min_two run_max_two bstr_size
set_option maxHeartbeats 3200000 in
set_option maxRecDepth 100000 in
theorem back_calls (vb : Value) (size cut : Int) (w : World) {lb : List UInt8} (hb : Reads w vb lb) (h1 : lb.length ≤ 140737488351232) (hs : -9223372036854775808 ≤ size ∧ size ≤ 9223372036854775807) (hcut : -9223372036854775808 ≤ cut ∧ cut ≤ 9223372036854775807) :
    Calls Try.prog 5 #[vb, .int .i64 size, .int .i64 cut] w fun e w' => e = .returned (.bool true) ∧ Below w.heap.size w w' := by
  obtain ⟨ab, cb, rfl, hcb, hcb2⟩ := Reads.form hb
  have HXB := Lib.hid hb
  clear hb
  unfold maxLen at hcb2
  by_cases e1 : (3000 : Int) < lb.length
  · have d1 : decide ((3000 : Int) < lb.length) = true := by simpa using e1
    go_enter Try.func5, Try.ntmps5
    go_wp2_with (go_at_call 9; refine (small_calls [] w _ (sat_start w)).mono ?_; rintro e w1 ⟨rfl, H1⟩; have HS := Lib.hid H1; clear H1)
    go_ret
    exact ⟨rfl, HS.out.below⟩
  have d1 : decide ((3000 : Int) < lb.length) = false := by simpa using e1
  obtain ⟨F, hF⟩ : ∃ F, F = frameL size lb := ⟨_, rfl⟩
  have HAL := Lib.hid (show allL F = (lb, -1, 0) by rw [hF]; exact back_all size lb)
  obtain ⟨FL, hFL⟩ : ∃ FL, FL = F.length := ⟨_, rfl⟩
  have hFl : FL ≤ 18000 := by
    have h := (frameL_run size lb).2.2
    have h2 := (nCh_spec (len := lb.length) (frN_eq size).2.1).2
    rw [← hF, ← hFL] at h
    have h3 : nCh (frN size) lb.length ≤ lb.length := by
      rcases Nat.eq_zero_or_pos (nCh (frN size) lb.length) with h0 | h0
      · omega
      · have h4 := h2 (nCh (frN size) lb.length - 1) (by omega)
        have h5 : (nCh (frN size) lb.length - 1) * 1 ≤ (nCh (frN size) lb.length - 1) * frN size := Nat.mul_le_mul_left _ (frN_eq size).2.1
        omega
    omega
  have HFF := Lib.hid hF
  have HFL := Lib.hid hFL
  have q1 : ((bstr lb).toList != (bstr lb).toList) = false := by simp
  clear hFL
  by_cases hneg : cut < 0
  · have d2 : decide (cut < 0) = true := by simpa using hneg
    clear hF
    go_enter Try.func5, Try.ntmps5
    go_wp2_with (first
      | (go_at_call 9; refine (small_calls [] w _ (sat_start w)).mono ?_; rintro e w1 ⟨rfl, H1⟩; have HS := Lib.hid H1; clear H1)
      | (go_at_call 17; refine (framef_calls _ lb size _ w _ HS.out (Rd.old HXB.out) (by omega)).mono ?_; rw [← HFF.out]; rintro r w2 ⟨v2, rfl, H2⟩; obtain ⟨a2, c2, rfl, hc2, hm2⟩ := Row.form H2; rw [← HFL.out] at H2 hc2 ⊢; unfold maxLen at hm2; have HB := Lib.hid H2; clear H2 HS)
      | (go_at_call 15; refine (all_calls _ F _ w _ HB.out Rd.row (by rw [← HFL.out]; omega)).mono ?_; rw [HAL.out]; dsimp only; rintro r w3 ⟨v3, rfl, H3⟩; have HC := Lib.hid H3.swap; clear H3 HB)
      | (refine BigFrame.wpList_want (by rfl) fun K' hK' => ?_; refine op_conv_str (v := v3) (by rfl) Try.underlying22 Try.underlying5 Try.underlying9 (by rfl) (Rd.row.weak _ HC.out) ?_; refine hK' _ _ ?_; clear hK' K')
      | (refine BigFrame.wpList_want (by rfl) fun K' hK' => ?_; refine op_conv_str (v := .slice ab lb.length cb) (by rfl) Try.underlying22 Try.underlying5 Try.underlying9 (by rfl) (Rd.old HXB.out _ HC.out) ?_; refine hK' _ _ ?_; clear hK' K')
      | (go_at_call 15; refine (all_calls (.slice a2 n c2) (F.take n) _ w _ HC.out (fun u hu => Reads.take' (RowC.readsC hu) (by rw [← HFL.out]; omega)) (by rw [List.length_take]; omega)).mono ?_; rw [HCU.out]; dsimp only; rintro r w4 ⟨v4, rfl, H4⟩; obtain ⟨a4, c4, rfl, _, _⟩ := Row.form H4; have HD := Lib.hid H4; clear H4 HC))
    go_ret
    exact ⟨rfl, HC.out.below⟩
  have d2 : decide (cut < 0) = false := by simpa using hneg
  obtain ⟨n, rfl⟩ : ∃ n : Nat, cut = n := ⟨cut.toNat, by omega⟩
  by_cases hbig : FL < n
  · have d3 : decide ((FL : Int) < (n : Int)) = true := by simp; omega
    clear hF
    go_enter Try.func5, Try.ntmps5
    go_wp2_with (first
      | (go_at_call 9; refine (small_calls [] w _ (sat_start w)).mono ?_; rintro e w1 ⟨rfl, H1⟩; have HS := Lib.hid H1; clear H1)
      | (go_at_call 17; refine (framef_calls _ lb size _ w _ HS.out (Rd.old HXB.out) (by omega)).mono ?_; rw [← HFF.out]; rintro r w2 ⟨v2, rfl, H2⟩; obtain ⟨a2, c2, rfl, hc2, hm2⟩ := Row.form H2; rw [← HFL.out] at H2 hc2 ⊢; unfold maxLen at hm2; have HB := Lib.hid H2; clear H2 HS)
      | (go_at_call 15; refine (all_calls _ F _ w _ HB.out Rd.row (by rw [← HFL.out]; omega)).mono ?_; rw [HAL.out]; dsimp only; rintro r w3 ⟨v3, rfl, H3⟩; have HC := Lib.hid H3.swap; clear H3 HB)
      | (refine BigFrame.wpList_want (by rfl) fun K' hK' => ?_; refine op_conv_str (v := v3) (by rfl) Try.underlying22 Try.underlying5 Try.underlying9 (by rfl) (Rd.row.weak _ HC.out) ?_; refine hK' _ _ ?_; clear hK' K')
      | (refine BigFrame.wpList_want (by rfl) fun K' hK' => ?_; refine op_conv_str (v := .slice ab lb.length cb) (by rfl) Try.underlying22 Try.underlying5 Try.underlying9 (by rfl) (Rd.old HXB.out _ HC.out) ?_; refine hK' _ _ ?_; clear hK' K')
      | (go_at_call 15; refine (all_calls (.slice a2 n c2) (F.take n) _ w _ HC.out (fun u hu => Reads.take' (RowC.readsC hu) (by rw [← HFL.out]; omega)) (by rw [List.length_take]; omega)).mono ?_; rw [HCU.out]; dsimp only; rintro r w4 ⟨v4, rfl, H4⟩; obtain ⟨a4, c4, rfl, _, _⟩ := Row.form H4; have HD := Lib.hid H4; clear H4 HC))
    go_ret
    exact ⟨rfl, HC.out.below⟩
  have d3 : decide ((FL : Int) < (n : Int)) = false := by simp; omega
  obtain ⟨p, hp1, hp2, hp3⟩ := back_cut size lb n
  rw [← hF] at hp1
  have HCU := Lib.hid hp1
  have HP3 := Lib.hid hp3
  have dm : mn (p.length : Int) (lb.length : Int) = p.length := by rw [mn_eq]; omega
  have dl : decide ((p.length : Int) ≤ (lb.length : Int)) = true := by simp; omega
  have q2 : ((bstr p).toList == (bstr p).toList) = true := by simp
  clear hF hp1 hp3
  go_enter Try.func5, Try.ntmps5
  go_wp2_with (first
    | (go_at_call 9; refine (small_calls [] w _ (sat_start w)).mono ?_; rintro e w1 ⟨rfl, H1⟩; have HS := Lib.hid H1; clear H1)
    | (go_at_call 17; refine (framef_calls _ lb size _ w _ HS.out (Rd.old HXB.out) (by omega)).mono ?_; rw [← HFF.out]; rintro r w2 ⟨v2, rfl, H2⟩; obtain ⟨a2, c2, rfl, hc2, hm2⟩ := Row.form H2; rw [← HFL.out] at H2 hc2 ⊢; unfold maxLen at hm2; have HB := Lib.hid H2; clear H2 HS)
    | (go_at_call 15; refine (all_calls _ F _ w _ HB.out Rd.row (by rw [← HFL.out]; omega)).mono ?_; rw [HAL.out]; dsimp only; rintro r w3 ⟨v3, rfl, H3⟩; have HC := Lib.hid H3.swap; clear H3 HB)
    | (refine BigFrame.wpList_want (by rfl) fun K' hK' => ?_; refine op_conv_str (v := v3) (by rfl) Try.underlying22 Try.underlying5 Try.underlying9 (by rfl) (Rd.row.weak _ HC.out) ?_; refine hK' _ _ ?_; clear hK' K')
    | (refine BigFrame.wpList_want (by rfl) fun K' hK' => ?_; refine op_conv_str (v := .slice ab lb.length cb) (by rfl) Try.underlying22 Try.underlying5 Try.underlying9 (by rfl) (Rd.old HXB.out _ HC.out) ?_; refine hK' _ _ ?_; clear hK' K')
    | (go_at_call 15; refine (all_calls (.slice a2 n c2) (F.take n) _ w _ HC.out (fun u hu => Reads.take' (RowC.readsC hu) (by rw [← HFL.out]; omega)) (by rw [List.length_take]; omega)).mono ?_; rw [HCU.out]; dsimp only; rintro r w4 ⟨v4, rfl, H4⟩; obtain ⟨a4, c4, rfl, _, _⟩ := Row.form H4; have HD := Lib.hid H4; clear H4 HC))
  have hnon : Nonempty (SW w []) := ⟨⟨_, HD.out.tail.tail.tail⟩⟩
  refine wp_region_mix (fun u => ∃ x : SW w [], u = x.w) [0, 1, 2, 3, 4, 5, 6, 7, 8, 9, 10, 11, 12, 13, 14, 15, 16, 17, 18, 19, 20, 21, 22, 23, 24, 25, 26, 27, 28, 29] [] (by kernel_rfl) (by kernel_rfl) ⟨⟨_, HD.out.tail.tail.tail.drew⟩, rfl⟩ ?_
  repeat (first | ((first | refine mix_a rfl (by decide +kernel) rfl (fun K hK => ?_) | refine mix_q rfl (by decide +kernel) rfl (fun K hK => ?_)); go_big_quiet_op; refine hK _ ?_; clear hK K) | (refine mix_s rfl rfl (by decide +kernel) ?_; simp only [Act.put, List.setIfInBounds_toArray, List.set_cons_zero, List.set_cons_succ]))
  refine mix_a rfl (by decide +kernel) rfl (fun K hK => ?_)
  refine quiet_conv_str (v := .slice a4 p.length c4) rfl Try.underlying22 Try.underlying5 Try.underlying9 rfl (fun u hu => by subst hu; exact Rd.row _ HD.out.drew) ?_
  refine hK _ ?_
  clear hK K
  simp only [Act.put, List.setIfInBounds_toArray, List.set_cons_zero, List.set_cons_succ]
  repeat (first | ((first | refine mix_a rfl (by decide +kernel) rfl (fun K hK => ?_) | refine mix_q rfl (by decide +kernel) rfl (fun K hK => ?_)); go_big_quiet_op; refine hK _ ?_; clear hK K) | (refine mix_s rfl rfl (by decide +kernel) ?_; simp only [Act.put, List.setIfInBounds_toArray, List.set_cons_zero, List.set_cons_succ]))
  refine mix_a rfl (by decide +kernel) rfl (fun K hK => ?_)
  refine quiet_conv_str (v := .slice ab p.length cb) rfl Try.underlying22 Try.underlying5 Try.underlying9 rfl (fun u hu => by subst hu; have h := (Rd.old HXB.out _ HD.out.drew).take' (n := p.length) hp2; rw [← HP3.out] at h; exact h) ?_
  refine hK _ ?_
  clear hK K
  simp only [Act.put, List.setIfInBounds_toArray, List.set_cons_zero, List.set_cons_succ]
  repeat (first | ((first | refine mix_a rfl (by decide +kernel) rfl (fun K hK => ?_) | refine mix_q rfl (by decide +kernel) rfl (fun K hK => ?_)); go_big_quiet_op; refine hK _ ?_; clear hK K) | (refine mix_s rfl rfl (by decide +kernel) ?_; simp only [Act.put, List.setIfInBounds_toArray, List.set_cons_zero, List.set_cons_succ]))
  refine mix_nil ?_
  go_wp2
  go_ret
  exact ⟨rfl, HD.out.drew.below⟩
end Go.Proofs.Ytaigboapaedcgaa
