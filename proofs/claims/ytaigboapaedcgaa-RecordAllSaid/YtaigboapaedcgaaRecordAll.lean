/- Layer 7, the law: what all bytes are, and how they are framed. No condition. -/
import Derived.Test.YtaigboapaedcgaaRec11
namespace Go.Proofs.Ytaigboapaedcgaa
open Go Go.RowKit Hg
set_option linter.unusedVariables false
set_option linter.unusedSimpArgs false
attribute [local go_sem] Lib.run_eql_slice_nil run_min2 run_max2 run_min_two run_max_two bstr_size
set_option maxHeartbeats 3200000 in
set_option maxRecDepth 100000 in
theorem lall_calls (vb : Value) (size : Int) (w : World) {lb : List UInt8} (hb : Reads w vb lb) (h1 : lb.length ≤ 140737488351232) (hs : -9223372036854775808 ≤ size ∧ size ≤ 9223372036854775807) :
    Calls Try.prog 4 #[vb, .int .i64 size] w fun e w' => e = .returned (.bool true) ∧ Below w.heap.size w w' := by
  obtain ⟨ab, cb, rfl, _, _⟩ := Reads.form hb
  have HXB := Lib.hid hb
  clear hb
  by_cases e1 : (5000 : Int) < lb.length
  · have d1 : decide ((5000 : Int) < lb.length) = true := by simpa using e1
    go_enter Try.func4, Try.ntmps4
    go_wp2_with (go_at_call 9; refine (small_calls [] w _ (sat_start w)).mono ?_; rintro e w1 ⟨rfl, H1⟩; have HS := Lib.hid H1; clear H1)
    go_ret
    exact ⟨rfl, HS.out.below⟩
  have d1 : decide ((5000 : Int) < lb.length) = false := by simpa using e1
  obtain ⟨A, hA⟩ : ∃ A, A = (allL lb).1 := ⟨_, rfl⟩
  obtain ⟨at', hat⟩ : ∃ a, a = (allL lb).2.1 := ⟨_, rfl⟩
  obtain ⟨E, hE⟩ : ∃ E, E = (allL lb).2.2 := ⟨_, rfl⟩
  have HA := Lib.hid (And.intro hA (And.intro hat hE))
  obtain ⟨F, hF⟩ : ∃ F, F = frameL size lb := ⟨_, rfl⟩
  have HFF := Lib.hid hF
  have q1 : ((bstr A).toList == (bstr A).toList) = true := by simp
  have q2 : ((bstr F).toList == (bstr F).toList) = true := by simp
  clear hA hat hE hF
  go_enter Try.func4, Try.ntmps4
  go_wp2_with (first | (go_at_call 9; refine (small_calls [] w _ (sat_start w)).mono ?_; rintro e w1 ⟨rfl, H1⟩; have HS := Lib.hid H1; clear H1) | (go_at_call 15; refine (all_calls _ lb _ w _ HS.out (Rd.old HXB.out) (by omega)).mono ?_; rw [← HA.out.1, ← HA.out.2.1, ← HA.out.2.2]; rintro r w2 ⟨v2, rfl, H2⟩; have HB := Lib.hid H2; clear H2 HS) | (go_at_call 16; refine (rall_calls _ lb _ w _ HB.out (Rd.old HXB.out) (by omega)).mono ?_; rw [← HA.out.1, ← HA.out.2.1, ← HA.out.2.2]; rintro r w3 ⟨v3, rfl, H3⟩; have HC := Lib.hid H3; clear H3 HB))
  have hnon : Nonempty (SW w (Row v3 A :: Row v2 A :: [])) := ⟨⟨_, HC.out⟩⟩
  refine wp_region_mix (fun u => ∃ x : SW w (Row v3 A :: Row v2 A :: []), u = x.w) [0, 1, 2, 3, 4, 5, 6, 7, 8, 9, 10, 11, 12, 13, 14, 15, 16, 17, 18, 19, 20, 23, 24, 21, 22, 25, 26, 27, 28, 29] [23, 24, 22] (by kernel_rfl) (by kernel_rfl) ⟨⟨_, HC.out.drew⟩, rfl⟩ ?_
  repeat (first | ((first | refine mix_a rfl (by decide +kernel) rfl (fun K hK => ?_) | refine mix_q rfl (by decide +kernel) rfl (fun K hK => ?_)); go_big_quiet_op; refine hK _ ?_; clear hK K) | (refine mix_s rfl rfl (by decide +kernel) ?_; simp only [Act.put, List.setIfInBounds_toArray, List.set_cons_zero, List.set_cons_succ]))
  refine mix_a rfl (by decide +kernel) rfl (fun K hK => ?_)
  refine quiet_conv_str (v := v2) rfl Try.underlying22 Try.underlying5 Try.underlying9 rfl (fun u hu => by subst hu; exact Rd.row.weak _ HC.out.drew) ?_
  refine hK _ ?_
  clear hK K
  simp only [Act.put, List.setIfInBounds_toArray, List.set_cons_zero, List.set_cons_succ]
  repeat (first | ((first | refine mix_a rfl (by decide +kernel) rfl (fun K hK => ?_) | refine mix_q rfl (by decide +kernel) rfl (fun K hK => ?_)); go_big_quiet_op; refine hK _ ?_; clear hK K) | (refine mix_s rfl rfl (by decide +kernel) ?_; simp only [Act.put, List.setIfInBounds_toArray, List.set_cons_zero, List.set_cons_succ]))
  refine mix_a rfl (by decide +kernel) rfl (fun K hK => ?_)
  refine quiet_conv_str (v := v3) rfl Try.underlying22 Try.underlying5 Try.underlying9 rfl (fun u hu => by subst hu; exact Rd.row _ HC.out.drew) ?_
  refine hK _ ?_
  clear hK K
  simp only [Act.put, List.setIfInBounds_toArray, List.set_cons_zero, List.set_cons_succ]
  repeat (first | ((first | refine mix_a rfl (by decide +kernel) rfl (fun K hK => ?_) | refine mix_q rfl (by decide +kernel) rfl (fun K hK => ?_)); go_big_quiet_op; refine hK _ ?_; clear hK K) | (refine mix_s rfl rfl (by decide +kernel) ?_; simp only [Act.put, List.setIfInBounds_toArray, List.set_cons_zero, List.set_cons_succ]))
  refine mix_lN rfl rfl rfl (fun K hK => ?_)
  refine op_call rfl Try.func17 (by kernel_rfl) (by kernel_rfl) (framef_calls _ lb size _ w _ HC.out.drew (Rd.old HXB.out) (by omega)) rfl ?_
  rintro r w4 h4
  rw [← HFF.out] at h4
  obtain ⟨v4, rfl, H4⟩ := h4
  have HD := Lib.hid H4
  clear H4
  have hnon2 : Nonempty (SW w (Row v4 F :: Row v3 A :: Row v2 A :: [])) := ⟨⟨_, HD.out⟩⟩
  refine ⟨_, rfl, hK _ _ (fun u => ∃ x : SW w (Row v4 F :: Row v3 A :: Row v2 A :: []), u = x.w) (fun u hu => by obtain ⟨x, rfl⟩ := hu; exact ⟨⟨x.w, x.h.tail⟩, rfl⟩) ⟨⟨_, HD.out⟩, rfl⟩ ?_⟩
  clear hK K
  simp only [Act.put, List.setIfInBounds_toArray, List.set_cons_zero, List.set_cons_succ]
  refine mix_q rfl (by decide +kernel) rfl (fun K hK => ?_)
  refine quiet_conv_str (v := v4) rfl Try.underlying22 Try.underlying5 Try.underlying9 rfl (fun u hu => by obtain ⟨x, rfl⟩ := hu; exact Rd.row _ x.h) ?_
  refine hK _ ?_
  clear hK K
  simp only [Act.put, List.setIfInBounds_toArray, List.set_cons_zero, List.set_cons_succ]
  refine mix_lC rfl rfl rfl (fun K hK => ?_)
  refine op_call rfl Try.func18 (by kernel_rfl) (by kernel_rfl) (rframef_calls _ lb size _ w _ HD.out (Rd.old HXB.out) (by omega)) rfl ?_
  rintro r w5 h5
  rw [← HFF.out] at h5
  obtain ⟨v5, rfl, H5⟩ := h5
  refine ⟨_, rfl, hK _ _ ⟨⟨_, H5.tail⟩, rfl⟩ ?_⟩
  clear hK K
  simp only [Act.put, List.setIfInBounds_toArray, List.set_cons_zero, List.set_cons_succ]
  have HG := Lib.hid H5
  clear H5
  refine mix_a rfl (by decide +kernel) rfl (fun K hK => ?_)
  refine quiet_conv_str (v := v5) rfl Try.underlying22 Try.underlying5 Try.underlying9 rfl (fun u hu => by subst hu; exact Rd.row _ HG.out) ?_
  refine hK _ ?_
  clear hK K
  simp only [Act.put, List.setIfInBounds_toArray, List.set_cons_zero, List.set_cons_succ]
  repeat (first | ((first | refine mix_a rfl (by decide +kernel) rfl (fun K hK => ?_) | refine mix_q rfl (by decide +kernel) rfl (fun K hK => ?_)); go_big_quiet_op; refine hK _ ?_; clear hK K) | (refine mix_s rfl rfl (by decide +kernel) ?_; simp only [Act.put, List.setIfInBounds_toArray, List.set_cons_zero, List.set_cons_succ]))
  refine mix_nil ?_
  go_wp2
  go_ret
  exact ⟨rfl, HG.out.below⟩
end Go.Proofs.Ytaigboapaedcgaa
