/- Layer 7, the law: a deframer, byte by byte. No condition. -/
import Derived.Test.YtaigboapaedcgaaRec11
namespace Go.Proofs.Ytaigboapaedcgaa
open Go Go.RowKit Hg
set_option linter.unusedVariables false
set_option linter.unusedSimpArgs false
attribute [local go_sem] Lib.run_eql_slice_nil run_min2 run_max2 run_min_two run_max_two bstr_size
set_option maxHeartbeats 3200000 in
set_option maxRecDepth 100000 in
theorem takes_calls (vb : Value) (w : World) {lb : List UInt8} (hb : Reads w vb lb) (h1 : lb.length ≤ 140737488351232) :
    Calls Try.prog 3 #[vb] w fun e w' => e = .returned (.bool true) ∧ Below w.heap.size w w' := by
  obtain ⟨ab, cb, rfl, _, _⟩ := Reads.form hb
  have HXB := Lib.hid hb
  clear hb
  by_cases e1 : (20000 : Int) < lb.length
  · have d1 : decide ((20000 : Int) < lb.length) = true := by simpa using e1
    go_enter Try.func3, Try.ntmps3
    go_wp2_with (first | (go_at_call 9; refine (small_calls [] w _ (sat_start w)).mono ?_; rintro e w1 ⟨rfl, H1⟩; have HS := Lib.hid H1; clear H1) | (go_at_call 10; refine (new_calls [] w _ HS.out).mono ?_; rintro r w2 ⟨g, rfl, H2⟩; have HA := Lib.hid H2; clear H2 HS))
    go_ret
    exact ⟨rfl, (HA.out.alloc (.cells #[.int .i64 0, .int .i64 0, .int .i64 0, .int .i64 0] 29)).below⟩
  have d1 : decide ((20000 : Int) < lb.length) = false := by simpa using e1
  go_enter Try.func3, Try.ntmps3
  go_wp2_with (first | (go_at_call 9; refine (small_calls [] w _ (sat_start w)).mono ?_; rintro e w1 ⟨rfl, H1⟩; have HS := Lib.hid H1; clear H1) | (go_at_call 10; refine (new_calls [] w _ HS.out).mono ?_; rintro r w2 ⟨g, rfl, H2⟩; have HA := Lib.hid (show sat w _ (RS w2.heap.size Rf.new :: DS g Df.new :: []) from H2.alloc (.cells #[.int .i64 0, .int .i64 0, .int .i64 0, .int .i64 0] 29)); clear H2 HS))
  go_loopw [6] (fun i wr => ∃ (k : Nat) (d : Df) (r : Rf), k ≤ lb.length ∧ i = .int .i64 k ∧ d.ok ∧ d.c ≤ k ∧ Hid (Same d r) ∧ sat w wr (RS w2.heap.size r :: DS g d :: [])) (fun i _ => lb.length - (intOf i).toNat)
  case atStart => exact ⟨0, Df.new, Rf.new, Nat.zero_le _, rfl, Df.ok_new, Nat.le_refl _, Lib.hid same_new, HA.out⟩
  case round =>
    obtain ⟨k, d, r, hk, rfl, hdo, hdc, HSM, HS⟩ := hrel
    clear HA
    by_cases hlt : k < lb.length
    · obtain ⟨b, off, c0, hv, cc, _⟩ := Reads.at' HXB.out k hlt
      injection hv with a1 _ a2
      subst a1 a2
      generalize lb.getD k 0 = x at cc
      have CW := Lib.hid cc
      replace cc := HS.cell cc
      obtain ⟨d2, hd2⟩ : ∃ d2, d2 = d.take x := ⟨_, rfl⟩
      obtain ⟨r2, hr2⟩ : ∃ r2, r2 = r.take x := ⟨_, rfl⟩
      obtain ⟨E, hE⟩ : ∃ E, E = d2.e := ⟨_, rfl⟩
      obtain ⟨p, hp⟩ : ∃ p, p = d.pay := ⟨_, rfl⟩
      obtain ⟨C2, hC2⟩ : ∃ C2, C2 = d2.c := ⟨_, rfl⟩
      obtain ⟨op, hop⟩ : ∃ op, op = d2.opened := ⟨_, rfl⟩
      have ho2 := Df.ok_take hdo x
      have hc2 := Df.take_c d x
      have hro := same_ok hdo HSM.out (by omega)
      have hs2 := same_take hdo HSM.out x
      have HP2 := Lib.hid (same_pay HSM.out x)
      rw [← hd2] at ho2 hc2 hs2
      rw [← hr2] at hs2
      have he2 := hs2.1
      have hcc := hs2.2.1
      have hoo := same_open hs2
      rw [← hE] at he2
      rw [← hC2] at hcc
      rw [← hop] at hoo
      rw [he2] at hoo
      have HD2 := Lib.hid hd2
      have HE := Lib.hid hE
      have HPP := Lib.hid hp
      have HC2 := Lib.hid hC2
      have HOP := Lib.hid hop
      have HR2 := Lib.hid hr2
      have HEE := Lib.hid he2
      have HCC := Lib.hid hcc
      have HS2 := Lib.hid hs2
      have HB := Lib.hid HS.swap
      have db : (p != p) = false := by simp
      have dE : (E != E) = false := by simp
      have dC : ((C2 : Int) != C2) = false := by simp
      clear HS HSM hd2 hr2 hE hp hC2 hop he2 hcc hs2
      by_cases he : E = 0
      · subst he
        have dO : decide ((0 : Int) < (r2.a : Int)) = op := by rw [← hoo]; simp
        have dN : decide (0 < r2.a) = op := by rw [← hoo]; simp
        have dO2 : (op != op) = false := by simp
        have dO3 : (!op == op) = false := by cases op <;> rfl
        have dO4 : (!op == decide (0 < r2.a)) = false := by rw [dN]; exact dO3
        clear hoo
        go_wp2_with (first
          | (go_at_call 11; refine (take_calls g d hdo (by omega) x _ w _ HB.out rfl).mono ?_; rw [← HD2.out, ← HE.out, ← HPP.out]; rintro u w7 ⟨rfl, H7⟩; have cc := H7.cell CW.out; have HC := Lib.hid H7.swap; clear H7 HB)
          | (go_at_call 12; refine (rtake_calls w2.heap.size r hro x _ w _ HC.out rfl).mono ?_; rw [HP2.out, ← HPP.out, ← HR2.out, HEE.out]; rintro u w8 ⟨rfl, H8⟩; have HF := Lib.hid H8; clear H8 HC))
        have k0 : ∀ x : SW w (RS w2.heap.size r2 :: []), x.w.cell? ⟨w2.heap.size, 0, none⟩ = some (.int .i64 r2.a) := fun x => cellAt x.h.get.1 0
        have k2 : ∀ x : SW w (RS w2.heap.size r2 :: []), x.w.cell? ⟨w2.heap.size, 2, none⟩ = some (.int .i64 0) := fun x => by rw [← HEE.out]; exact cellAt x.h.get.1 2
        have k3 : ∀ x : SW w (RS w2.heap.size r2 :: []), x.w.cell? ⟨w2.heap.size, 3, none⟩ = some (.int .i64 (C2 : Nat)) := fun x => by rw [← HCC.out]; exact cellAt x.h.get.1 3
        have hnon : Nonempty (SW w (RS w2.heap.size r2 :: [])) := ⟨⟨_, HF.out.head⟩⟩
        refine wp_region_mix (fun u => ∃ x : SW w (RS w2.heap.size r2 :: []), u = x.w) [0, 1, 2, 3, 4, 5, 6, 7, 8, 9, 11, 12, 13, 14, 10, 15, 16, 17, 18, 20, 21, 22, 23, 24, 19, 25, 26, 27, 28, 29, 30, 31, 32, 33] [11, 12, 13, 14, 20, 21, 22, 23, 24] (by kernel_rfl) (by kernel_rfl) ⟨⟨_, HF.out.drew.head⟩, rfl⟩ ?_
        have HG := Lib.hid (show sat w w8.drew (DS g d2 :: RS w2.heap.size r2 :: []) from HF.out.drew.swap)
        have b0 : w8.drew.cell? ⟨w2.heap.size, 0, none⟩ = some (.int .i64 r2.a) := cellAt HF.out.drew.get.1 0
        repeat (first | ((first | refine mix_a rfl (by decide +kernel) rfl (fun K hK => ?_) | refine mix_q rfl (by decide +kernel) rfl (fun K hK => ?_)); go_big_quiet_op; refine hK _ ?_; clear hK K) | (refine mix_s rfl rfl (by decide +kernel) ?_; simp only [Act.put, List.setIfInBounds_toArray, List.set_cons_zero, List.set_cons_succ]))
        refine mix_lC rfl rfl rfl (fun K hK => ?_)
        refine op_call rfl Try.func13 (by kernel_rfl) (by kernel_rfl) (dcount_calls g d2 _ w _ HG.out) rfl ?_
        rintro u w9 h9
        rw [← HC2.out] at h9
        obtain ⟨rfl, rfl⟩ := h9
        refine ⟨_, rfl, hK _ _ ⟨⟨_, HF.out.drew.head⟩, rfl⟩ ?_⟩
        clear hK K
        simp only [Act.put, List.setIfInBounds_toArray, List.set_cons_zero, List.set_cons_succ]
        repeat (first | ((first | refine mix_a rfl (by decide +kernel) rfl (fun K hK => ?_) | refine mix_q rfl (by decide +kernel) rfl (fun K hK => ?_)); go_big_quiet_op; refine hK _ ?_; clear hK K) | (refine mix_s rfl rfl (by decide +kernel) ?_; simp only [Act.put, List.setIfInBounds_toArray, List.set_cons_zero, List.set_cons_succ]))
        refine mix_lC rfl rfl rfl (fun K hK => ?_)
        refine op_call rfl Try.func14 (by kernel_rfl) (by kernel_rfl) (dopen_calls g d2 _ w _ HG.out) rfl ?_
        rintro u w10 h10
        rw [← HOP.out] at h10
        obtain ⟨rfl, rfl⟩ := h10
        refine ⟨_, rfl, hK _ _ ⟨⟨_, HF.out.drew.head⟩, rfl⟩ ?_⟩
        clear hK K
        simp only [Act.put, List.setIfInBounds_toArray, List.set_cons_zero, List.set_cons_succ]
        repeat (first | ((first | refine mix_a rfl (by decide +kernel) rfl (fun K hK => ?_) | refine mix_q rfl (by decide +kernel) rfl (fun K hK => ?_)); go_big_quiet_op; refine hK _ ?_; clear hK K) | (refine mix_s rfl rfl (by decide +kernel) ?_; simp only [Act.put, List.setIfInBounds_toArray, List.set_cons_zero, List.set_cons_succ]))
        refine mix_nil ?_
        go_wp2
        go_roundw
        case rel =>
          have hk1 : k + 1 ≤ lb.length := by omega
          have hi : Value.int .i64 ((k : Int) + 1) = Value.int .i64 ((k + 1 : Nat) : Int) := by go_num
          have hc3 : d2.c ≤ k + 1 := by omega
          first
            | exact ⟨k + 1, d2, r2, hk1, hi, ho2, hc3, HS2, HF.out.drew⟩
            | (repeat apply Exists.intro
               exact ⟨⟨k + 1, d2, r2, hk1, hi, ho2, hc3, HS2, HF.out.drew⟩, rfl⟩)
        case measure => simp [intOf]; omega
      · have dz : (E == 0) = false := by simpa using he
        obtain rfl : op = false := by rw [← hoo]; simp [he]
        clear hoo
        go_wp2_with (first
          | (go_at_call 11; refine (take_calls g d hdo (by omega) x _ w _ HB.out rfl).mono ?_; rw [← HD2.out, ← HE.out, ← HPP.out]; rintro u w7 ⟨rfl, H7⟩; have cc := H7.cell CW.out; have HC := Lib.hid H7.swap; clear H7 HB)
          | (go_at_call 12; refine (rtake_calls w2.heap.size r hro x _ w _ HC.out rfl).mono ?_; rw [HP2.out, ← HPP.out, ← HR2.out, HEE.out]; rintro u w8 ⟨rfl, H8⟩; have HF := Lib.hid H8; clear H8 HC))
        have k0 : ∀ x : SW w (RS w2.heap.size r2 :: []), x.w.cell? ⟨w2.heap.size, 0, none⟩ = some (.int .i64 r2.a) := fun x => cellAt x.h.get.1 0
        have k2 : ∀ x : SW w (RS w2.heap.size r2 :: []), x.w.cell? ⟨w2.heap.size, 2, none⟩ = some (.int .i64 E) := fun x => by rw [← HEE.out]; exact cellAt x.h.get.1 2
        have k3 : ∀ x : SW w (RS w2.heap.size r2 :: []), x.w.cell? ⟨w2.heap.size, 3, none⟩ = some (.int .i64 (C2 : Nat)) := fun x => by rw [← HCC.out]; exact cellAt x.h.get.1 3
        have hnon : Nonempty (SW w (RS w2.heap.size r2 :: [])) := ⟨⟨_, HF.out.head⟩⟩
        refine wp_region_mix (fun u => ∃ x : SW w (RS w2.heap.size r2 :: []), u = x.w) [0, 1, 2, 3, 4, 5, 6, 7, 8, 9, 11, 12, 13, 14, 10, 15, 16, 17, 18, 20, 21, 22, 23, 24, 19, 25, 26, 27, 28, 29, 30, 31, 32, 33] [11, 12, 13, 14, 20, 21, 22, 23, 24] (by kernel_rfl) (by kernel_rfl) ⟨⟨_, HF.out.drew.head⟩, rfl⟩ ?_
        have HG := Lib.hid (show sat w w8.drew (DS g d2 :: RS w2.heap.size r2 :: []) from HF.out.drew.swap)
        have b0 : w8.drew.cell? ⟨w2.heap.size, 0, none⟩ = some (.int .i64 r2.a) := cellAt HF.out.drew.get.1 0
        repeat (first | ((first | refine mix_a rfl (by decide +kernel) rfl (fun K hK => ?_) | refine mix_q rfl (by decide +kernel) rfl (fun K hK => ?_)); go_big_quiet_op; refine hK _ ?_; clear hK K) | (refine mix_s rfl rfl (by decide +kernel) ?_; simp only [Act.put, List.setIfInBounds_toArray, List.set_cons_zero, List.set_cons_succ]))
        refine mix_lC rfl rfl rfl (fun K hK => ?_)
        refine op_call rfl Try.func13 (by kernel_rfl) (by kernel_rfl) (dcount_calls g d2 _ w _ HG.out) rfl ?_
        rintro u w9 h9
        rw [← HC2.out] at h9
        obtain ⟨rfl, rfl⟩ := h9
        refine ⟨_, rfl, hK _ _ ⟨⟨_, HF.out.drew.head⟩, rfl⟩ ?_⟩
        clear hK K
        simp only [Act.put, List.setIfInBounds_toArray, List.set_cons_zero, List.set_cons_succ]
        repeat (first | ((first | refine mix_a rfl (by decide +kernel) rfl (fun K hK => ?_) | refine mix_q rfl (by decide +kernel) rfl (fun K hK => ?_)); go_big_quiet_op; refine hK _ ?_; clear hK K) | (refine mix_s rfl rfl (by decide +kernel) ?_; simp only [Act.put, List.setIfInBounds_toArray, List.set_cons_zero, List.set_cons_succ]))
        refine mix_lC rfl rfl rfl (fun K hK => ?_)
        refine op_call rfl Try.func14 (by kernel_rfl) (by kernel_rfl) (dopen_calls g d2 _ w _ HG.out) rfl ?_
        rintro u w10 h10
        rw [← HOP.out] at h10
        obtain ⟨rfl, rfl⟩ := h10
        refine ⟨_, rfl, hK _ _ ⟨⟨_, HF.out.drew.head⟩, rfl⟩ ?_⟩
        clear hK K
        simp only [Act.put, List.setIfInBounds_toArray, List.set_cons_zero, List.set_cons_succ]
        repeat (first | ((first | refine mix_a rfl (by decide +kernel) rfl (fun K hK => ?_) | refine mix_q rfl (by decide +kernel) rfl (fun K hK => ?_)); go_big_quiet_op; refine hK _ ?_; clear hK K) | (refine mix_s rfl rfl (by decide +kernel) ?_; simp only [Act.put, List.setIfInBounds_toArray, List.set_cons_zero, List.set_cons_succ]))
        refine mix_nil ?_
        go_wp2
        go_roundw
        case rel =>
          have hk1 : k + 1 ≤ lb.length := by omega
          have hi : Value.int .i64 ((k : Int) + 1) = Value.int .i64 ((k + 1 : Nat) : Int) := by go_num
          have hc3 : d2.c ≤ k + 1 := by omega
          first
            | exact ⟨k + 1, d2, r2, hk1, hi, ho2, hc3, HS2, HF.out.drew⟩
            | (repeat apply Exists.intro
               exact ⟨⟨k + 1, d2, r2, hk1, hi, ho2, hc3, HS2, HF.out.drew⟩, rfl⟩)
        case measure => simp [intOf]; omega
    · have HB := Lib.hid HS
      clear HS
      go_wp2
      go_ret
      exact ⟨rfl, HB.out.below⟩
end Go.Proofs.Ytaigboapaedcgaa
