/- Layer 8, the law: a message, byte by byte. No condition. -/
import Derived.Test.YtjekkaajagncpaaShakeRef5
namespace Go.Proofs.Ytjekkaajagncpaa
open Go Go.RowKit Hg
set_option linter.unusedVariables false
set_option linter.unusedSimpArgs false
attribute [local go_sem] Lib.run_eql_slice_nil run_min2 run_max2 run_min_two run_max_two bstr_size
set_option maxHeartbeats 3200000 in
set_option maxRecDepth 100000 in
theorem takes_calls (vb : Value) (w : World) {lb : List UInt8} (hb : Reads w vb lb) (h1 : lb.length ≤ 140737488351232) :
    Calls Try.prog 3 #[vb] w fun e w' => e = .returned (.bool true) ∧ Below w.heap.size w w' := by
  obtain ⟨ab, cb, rfl, _, _⟩ := Reads.form hb
  have HXB := Lib.hid hb
  clear hb
  by_cases e1 : (3000 : Int) < lb.length
  · have d1 : decide ((3000 : Int) < lb.length) = true := by simpa using e1
    go_enter Try.func3, Try.ntmps3
    go_wp2_with (first | (go_at_call 9; refine (small_calls [] w _ (sat_start w)).mono ?_; rintro e w1 ⟨rfl, H1⟩; have HS := Lib.hid H1; clear H1) | (go_at_call 10; refine (new_calls [] w _ HS.out).mono ?_; rintro r w2 ⟨g, rfl, H2⟩; have HA := Lib.hid H2; clear H2 HS))
    go_ret
    exact ⟨rfl, (HA.out.alloc (.cells #[.slice none 0 0, .int .i64 0] 29)).below⟩
  have d1 : decide ((3000 : Int) < lb.length) = false := by simpa using e1
  go_enter Try.func3, Try.ntmps3
  go_wp2_with (first | (go_at_call 9; refine (small_calls [] w _ (sat_start w)).mono ?_; rintro e w1 ⟨rfl, H1⟩; have HS := Lib.hid H1; clear H1) | (go_at_call 10; refine (new_calls [] w _ HS.out).mono ?_; rintro r w2 ⟨g, rfl, H2⟩; have HA := Lib.hid (show sat w _ (RM w2.heap.size (.slice none 0 0) 0 :: Row (.slice none 0 0) [] :: MS g (.slice none 0 0) Msg.new :: Row (.slice none 0 0) Msg.new.l :: []) from (Row.nil H2).alloc (.cells #[.slice none 0 0, .int .i64 0] 29)); clear H2 HS))
  go_loopw [6] (fun i wr => ∃ (k : Nat) (u v : Value) (m : Msg) (B : List UInt8) (e : Int), k ≤ lb.length ∧ i = .int .i64 k ∧ m.ok ∧ B.length ≤ k ∧ Same m B e ∧ sat w wr (RM w2.heap.size v e :: Row v B :: MS g u m :: Row u m.l :: [])) (fun i _ => lb.length - (intOf i).toNat)
  case atStart => exact ⟨0, _, _, Msg.new, [], 0, Nat.zero_le _, rfl, Msg.ok_new, Nat.le_refl _, same_new, HA.out⟩
  case round =>
    obtain ⟨k, u, v, m, B, e, hk, rfl, hmo, hBk, hsame, HS⟩ := hrel
    clear HA
    by_cases hlt : k < lb.length
    · obtain ⟨b, off, c0, hv, cc, _⟩ := Reads.at' HXB.out k hlt
      injection hv with a1 _ a2
      subst a1 a2
      generalize lb.getD k 0 = y at cc
      have CW := Lib.hid cc
      replace cc := HS.cell cc
      obtain ⟨m2, hm2⟩ : ∃ m2, m2 = m.take y := ⟨_, rfl⟩
      obtain ⟨B2, hB2⟩ : ∃ B2, B2 = (takeR B e y).1 := ⟨_, rfl⟩
      obtain ⟨E2, hE2⟩ : ∃ E2, E2 = (takeR B e y).2 := ⟨_, rfl⟩
      have ho := Msg.ok_take hmo y
      have hs := same_take hmo hsame y
      have hl := takeR_len B e y
      rw [← hm2] at ho hs
      rw [← hB2, ← hE2] at hs
      rw [← hB2] at hl
      have hBl : B2.length ≤ 3001 := by omega
      have HM2 := Lib.hid hm2
      have HB2 := Lib.hid hB2
      have HE2 := Lib.hid hE2
      have HSM := Lib.hid hs
      have HW := Lib.hid (same_whole' hs)
      have HN := Lib.hid (same_want hs)
      have HBO := Lib.hid (same_body hs)
      have HEE := Lib.hid hs.1
      obtain ⟨b2, hb2⟩ : ∃ b2, b2 = m2.whole := ⟨_, rfl⟩
      obtain ⟨W2, hW2⟩ : ∃ W2, W2 = m2.want := ⟨_, rfl⟩
      obtain ⟨L2, hL2⟩ : ∃ L2, L2 = m2.body := ⟨_, rfl⟩
      have HX2 := Lib.hid hb2
      have HW2 := Lib.hid hW2
      have HL2 := Lib.hid hL2
      have HC := Lib.hid (show sat w wr (MS g u m :: Row u m.l :: RM w2.heap.size v e :: Row v B :: []) from HS.re 4 [2, 3, 0, 1] [] rfl)
      have db : (b2 != b2) = false := by simp
      have dE : (E2 != E2) = false := by simp
      have dW : (W2 != W2) = false := by simp
      have dL : ((bstr L2).toList != (bstr L2).toList) = false := by simp
      have hB6 : B.length ≤ 1000000 := by omega
      clear HS hsame hm2 hB2 hE2 hs hb2 hW2 hL2 hl
      go_wp2_with (first
        | (go_at_call 11; refine (mtake_calls g u m hmo _ w _ HC.out y rfl).mono ?_; rw [← HM2.out, ← HX2.out, HEE.out]; rintro r w7 ⟨v7, rfl, H7⟩; clear cc; have cc := H7.cell CW.out; have HD := Lib.hid (show sat w w7 (RM w2.heap.size v e :: Row v B :: MS g v7 m2 :: Row v7 m2.l :: []) from H7.re 4 [2, 3, 0, 1] [] rfl); clear H7 HC)
        | (go_at_call 12; refine (rtake_calls w2.heap.size v B e y _ w _ HD.out hB6).mono ?_; rw [← HB2.out, ← HE2.out, HW.out, ← HX2.out]; rintro r w8 ⟨v8, rfl, H8⟩; have HF := Lib.hid H8; clear H8 HD))
      have HG := Lib.hid (show sat w _ (MS g v7 m2 :: Row v7 m2.l :: RM w2.heap.size v8 E2 :: Row v8 B2 :: []) from HF.out.drew.re 4 [2, 3, 0, 1] [] rfl)
      clear HF
      have hnon : Nonempty (SW w []) := ⟨⟨_, HG.out.tail.tail.tail.tail⟩⟩
      refine wp_region_mix (fun u => ∃ x : SW w [], u = x.w) [0, 1, 2, 3, 4, 5, 6, 7, 8, 9, 11, 10, 12, 13, 14, 15, 16, 19, 17, 18, 20, 21, 22, 23] [11, 19, 18] (by kernel_rfl) (by kernel_rfl) ⟨⟨_, HG.out.tail.tail.tail.tail⟩, rfl⟩ ?_
      repeat (first | ((first | refine mix_a rfl (by decide +kernel) rfl (fun K hK => ?_) | refine mix_q rfl (by decide +kernel) rfl (fun K hK => ?_)); go_big_quiet_op; refine hK _ ?_; clear hK K) | (refine mix_s rfl rfl (by decide +kernel) ?_; simp only [Act.put, List.setIfInBounds_toArray, List.set_cons_zero, List.set_cons_succ]))
      refine mix_lC rfl rfl rfl (fun K hK => ?_)
      refine op_call rfl Try.func13 (by kernel_rfl) (by kernel_rfl) (mwant_calls g v7 m2 ho _ w _ HG.out) rfl ?_
      rintro r w9 h9
      rw [← HW2.out] at h9
      obtain ⟨rfl, H9⟩ := h9
      refine ⟨_, rfl, hK _ _ ⟨⟨_, H9.tail.tail.tail.tail⟩, rfl⟩ ?_⟩
      clear hK K
      simp only [Act.put, List.setIfInBounds_toArray, List.set_cons_zero, List.set_cons_succ]
      have HI := Lib.hid (show sat w w9 (RM w2.heap.size v8 E2 :: Row v8 B2 :: MS g v7 m2 :: Row v7 m2.l :: []) from H9.re 4 [2, 3, 0, 1] [] rfl)
      clear H9 HG
      repeat (first | ((first | refine mix_a rfl (by decide +kernel) rfl (fun K hK => ?_) | refine mix_q rfl (by decide +kernel) rfl (fun K hK => ?_)); go_big_quiet_op; refine hK _ ?_; clear hK K) | (refine mix_s rfl rfl (by decide +kernel) ?_; simp only [Act.put, List.setIfInBounds_toArray, List.set_cons_zero, List.set_cons_succ]))
      refine mix_lC rfl rfl rfl (fun K hK => ?_)
      refine op_call rfl Try.func14 (by kernel_rfl) (by kernel_rfl) (rwant_calls w2.heap.size v8 B2 E2 _ w _ HI.out (by omega)) rfl ?_
      rintro r w10 h10
      rw [HN.out, ← HW2.out] at h10
      obtain ⟨rfl, n10, rfl⟩ := h10
      refine ⟨_, rfl, hK _ _ ⟨⟨_, (HI.out.drewN n10).tail.tail.tail.tail⟩, rfl⟩ ?_⟩
      clear hK K
      simp only [Act.put, List.setIfInBounds_toArray, List.set_cons_zero, List.set_cons_succ]
      have HJ := Lib.hid (show sat w _ (MS g v7 m2 :: Row v7 m2.l :: RM w2.heap.size v8 E2 :: Row v8 B2 :: []) from (HI.out.drewN n10).re 4 [2, 3, 0, 1] [] rfl)
      clear HI
      repeat (first | ((first | refine mix_a rfl (by decide +kernel) rfl (fun K hK => ?_) | refine mix_q rfl (by decide +kernel) rfl (fun K hK => ?_)); go_big_quiet_op; refine hK _ ?_; clear hK K) | (refine mix_s rfl rfl (by decide +kernel) ?_; simp only [Act.put, List.setIfInBounds_toArray, List.set_cons_zero, List.set_cons_succ]))
      refine mix_lN rfl rfl rfl (fun K hK => ?_)
      refine op_call rfl Try.func15 (by kernel_rfl) (by kernel_rfl) (mbody_calls g v7 m2 ho _ w _ HJ.out) rfl ?_
      rintro r w11 h11
      rw [← HL2.out] at h11
      obtain ⟨v11, rfl, H11⟩ := h11
      have HP := Lib.hid (show sat w w11 (RM w2.heap.size v8 E2 :: Row v8 B2 :: MS g v7 m2 :: Row v7 m2.l :: Row v11 L2 :: []) from H11.re 5 [3, 4, 0, 1, 2] [] rfl)
      clear H11 HJ
      have hnon2 : Nonempty (SW w (Row v11 L2 :: [])) := ⟨⟨_, HP.out.tail.tail.tail.tail⟩⟩
      refine ⟨_, rfl, hK _ _ (fun u => ∃ x : SW w (Row v11 L2 :: []), u = x.w) (fun u hu => by obtain ⟨x, rfl⟩ := hu; exact ⟨⟨x.w, x.h.tail⟩, rfl⟩) ⟨⟨_, HP.out.tail.tail.tail.tail⟩, rfl⟩ ?_⟩
      clear hK K
      simp only [Act.put, List.setIfInBounds_toArray, List.set_cons_zero, List.set_cons_succ]
      refine mix_q rfl (by decide +kernel) rfl (fun K hK => ?_)
      refine quiet_conv_str (v := v11) rfl Try.underlying22 Try.underlying5 Try.underlying9 rfl (fun u hu => by obtain ⟨x, rfl⟩ := hu; exact Rd.row _ x.h) ?_
      refine hK _ ?_
      clear hK K
      simp only [Act.put, List.setIfInBounds_toArray, List.set_cons_zero, List.set_cons_succ]
      refine mix_lC rfl rfl rfl (fun K hK => ?_)
      refine op_call rfl Try.func16 (by kernel_rfl) (by kernel_rfl) (rbody_calls w2.heap.size v8 B2 E2 _ w _ HP.out (by omega)) rfl ?_
      rintro r w12 h12
      rw [HBO.out, ← HL2.out] at h12
      obtain ⟨v12, rfl, hrd12, n12, rfl⟩ := h12
      refine ⟨_, rfl, hK _ _ ⟨⟨_, (HP.out.drewN n12).tail.tail.tail.tail⟩, rfl⟩ ?_⟩
      clear hK K
      simp only [Act.put, List.setIfInBounds_toArray, List.set_cons_zero, List.set_cons_succ]
      have HQ := Lib.hid (HP.out.drewN n12)
      have HR := Lib.hid hrd12
      clear HP hrd12
      repeat (first | ((first | refine mix_a rfl (by decide +kernel) rfl (fun K hK => ?_) | refine mix_q rfl (by decide +kernel) rfl (fun K hK => ?_)); go_big_quiet_op; refine hK _ ?_; clear hK K) | (refine mix_s rfl rfl (by decide +kernel) ?_; simp only [Act.put, List.setIfInBounds_toArray, List.set_cons_zero, List.set_cons_succ]))
      refine mix_a rfl (by decide +kernel) rfl (fun K hK => ?_)
      refine quiet_conv_str (v := v12) rfl Try.underlying22 Try.underlying5 Try.underlying9 rfl (fun u hu => by subst hu; exact HR.out _ HQ.out) ?_
      refine hK _ ?_
      clear hK K
      simp only [Act.put, List.setIfInBounds_toArray, List.set_cons_zero, List.set_cons_succ]
      repeat (first | ((first | refine mix_a rfl (by decide +kernel) rfl (fun K hK => ?_) | refine mix_q rfl (by decide +kernel) rfl (fun K hK => ?_)); go_big_quiet_op; refine hK _ ?_; clear hK K) | (refine mix_s rfl rfl (by decide +kernel) ?_; simp only [Act.put, List.setIfInBounds_toArray, List.set_cons_zero, List.set_cons_succ]))
      refine mix_nil ?_
      go_wp2
      go_roundw
      case rel =>
        have hk1 : k + 1 ≤ lb.length := by omega
        have hi : Value.int .i64 ((k : Int) + 1) = Value.int .i64 ((k + 1 : Nat) : Int) := by go_num
        have hb1 : B2.length ≤ k + 1 := by have := takeR_len B e y; rw [← HB2.out] at this; omega
        have hc := show sat w _ (RM w2.heap.size v8 E2 :: Row v8 B2 :: MS g v7 m2 :: Row v7 m2.l :: []) from HQ.out.re 5 [0, 1, 2, 3] [4] rfl
        first
          | exact ⟨k + 1, _, _, m2, B2, E2, hk1, hi, ho, hb1, HSM.out, hc⟩
          | (repeat apply Exists.intro
             exact ⟨⟨k + 1, _, _, m2, B2, E2, hk1, hi, ho, hb1, HSM.out, hc⟩, rfl⟩)
      case measure => simp [intOf]; omega
    · have HB := Lib.hid HS
      clear HS
      go_wp2
      go_ret
      exact ⟨rfl, HB.out.below⟩
end Go.Proofs.Ytjekkaajagncpaa
