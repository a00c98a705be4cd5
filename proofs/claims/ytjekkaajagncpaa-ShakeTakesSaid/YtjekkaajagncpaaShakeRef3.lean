/- Layer 8: the document's message: Want, Body. No condition. -/
import Derived.Test.YtjekkaajagncpaaShakeRef2
namespace Go.Proofs.Ytjekkaajagncpaa
open Go Go.RowKit Hg
set_option linter.unusedVariables false
set_option linter.unusedSimpArgs false
attribute [local go_sem] Lib.run_eql_slice_nil run_min2 run_max2 run_min_two run_max_two
def wantR (B : List UInt8) (e : Int) : Int := if e = 0 then if B.length < 4 then 4 - B.length else 4 + (sizeR B : Int) - B.length else 0
set_option maxHeartbeats 800000 in
theorem rwant_calls (g : Nat) (v : Value) (B : List UInt8) (e : Int) (R : List Asn) (w0 w : World) (H : sat w0 w (RM g v e :: Row v B :: R)) (hB : B.length ≤ 140737488351232) :
    Calls Try.prog 14 #[.pointer (some ⟨g, 0, none⟩)] w fun r w' => r = .returned (.int .i64 (wantR B e)) ∧ ∃ m, w' = w.drewN m := by
  obtain ⟨a, c, rfl, hc, _⟩ := Row.form H.tail
  have c0 : w.cell? ⟨g, 0, none⟩ = some (.slice a B.length c) := cellAt H.get.1 0
  have c1 : w.cell? ⟨g, 1, none⟩ = some (.int .i64 e) := cellAt H.get.1 1
  by_cases he : e = 0
  · subst he
    by_cases h4 : B.length < 4
    · have d : decide ((B.length : Int) < 4) = true := by simp; omega
      have HF : Hid (wantR B 0 = 4 - B.length) := Lib.hid (by simp [wantR, h4])
      clear H
      go_enter Try.func14, Try.ntmps14
      go_wp2
      go_ret
      exact ⟨by rw [HF.out]; rfl, 0, rfl⟩
    · have d : decide ((B.length : Int) < 4) = false := by simp; omega
      obtain ⟨S, hS⟩ : ∃ S, S = sizeR B := ⟨_, rfl⟩
      have hSb : S ≤ 16777215 := by rw [hS]; exact sizeR_le B
      have HF : Hid (wantR B 0 = 4 + (S : Int) - B.length) := Lib.hid (by simp [wantR, h4, hS])
      have HS := Lib.hid hS
      have HH := Lib.hid H
      have hnon : Nonempty (SW w0 (RM g (.slice a B.length c) 0 :: [])) := ⟨⟨_, H.head⟩⟩
      have k0 : ∀ x : SW w0 (RM g (.slice a B.length c) 0 :: []), x.w.cell? ⟨g, 0, none⟩ = some (.slice a B.length c) := fun x => cellAt x.h.get.1 0
      clear H hS
      go_enter Try.func14, Try.ntmps14
      go_wp2
      refine wp_region_mix (fun u => ∃ x : SW w0 (RM g (.slice a B.length c) 0 :: []), u = x.w) [0, 3, 4, 5, 6, 7, 1, 2, 8, 9] [3, 4, 5, 6, 7] (by kernel_rfl) (by kernel_rfl) ⟨⟨_, HH.out.drew.head⟩, rfl⟩ ?_
      repeat (first | ((first | refine mix_a rfl (by decide +kernel) rfl (fun K hK => ?_) | refine mix_q rfl (by decide +kernel) rfl (fun K hK => ?_)); go_big_quiet_op; refine hK _ ?_; clear hK K) | (refine mix_s rfl rfl (by decide +kernel) ?_; simp only [Act.put, List.setIfInBounds_toArray, List.set_cons_zero, List.set_cons_succ]))
      refine mix_lC rfl rfl rfl (fun K hK => ?_)
      refine op_call rfl Try.func22 (by kernel_rfl) (by kernel_rfl) (size_calls g _ B 0 R w0 _ HH.out.drew) rfl ?_
      rintro r w8 h8
      rw [← HS.out] at h8
      obtain ⟨rfl, rfl⟩ := h8
      refine ⟨_, rfl, hK _ _ ⟨⟨_, HH.out.drew.head⟩, rfl⟩ ?_⟩
      clear hK K
      simp only [Act.put, List.setIfInBounds_toArray, List.set_cons_zero, List.set_cons_succ]
      repeat (first | ((first | refine mix_a rfl (by decide +kernel) rfl (fun K hK => ?_) | refine mix_q rfl (by decide +kernel) rfl (fun K hK => ?_)); go_big_quiet_op; refine hK _ ?_; clear hK K) | (refine mix_s rfl rfl (by decide +kernel) ?_; simp only [Act.put, List.setIfInBounds_toArray, List.set_cons_zero, List.set_cons_succ]))
      refine mix_nil ?_
      go_wp2
      go_ret
      exact ⟨by rw [HF.out]; rfl, 1, rfl⟩
  · have d : (e != 0) = true := by simpa using he
    have HF : Hid (wantR B e = 0) := Lib.hid (by simp [wantR, he])
    clear H
    go_enter Try.func14, Try.ntmps14
    go_wp2
    go_ret
    exact ⟨by rw [HF.out]; rfl, 0, rfl⟩
def bodyR (B : List UInt8) (e : Int) : List UInt8 := if e = 0 ∧ wholeR B = true then B.drop 4 else []
theorem rd_nil' (w0 : World) (R : List Asn) : Rd w0 R (.slice none 0 0) [] := fun w _ => ⟨by simp, .inl ⟨rfl, rfl⟩⟩
set_option maxHeartbeats 800000 in
theorem rbody_calls (g : Nat) (v : Value) (B : List UInt8) (e : Int) (R : List Asn) (w0 w : World) (H : sat w0 w (RM g v e :: Row v B :: R)) (hB : B.length ≤ 140737488351232) :
    Calls Try.prog 16 #[.pointer (some ⟨g, 0, none⟩)] w fun r w' => ∃ v', r = .returned v' ∧ Rd w0 (RM g v e :: Row v B :: R) v' (bodyR B e) ∧ ∃ m, w' = w.drewN m := by
  obtain ⟨a, c, rfl, hc, hcm⟩ := Row.form H.tail
  have c0 : w.cell? ⟨g, 0, none⟩ = some (.slice a B.length c) := cellAt H.get.1 0
  have c1 : w.cell? ⟨g, 1, none⟩ = some (.int .i64 e) := cellAt H.get.1 1
  by_cases he : e = 0
  · subst he
    cases hw : wholeR B with
    | false =>
      have HF : Hid (bodyR B 0 = []) := Lib.hid (by simp [bodyR, hw])
      have HH := Lib.hid H
      clear H
      go_enter Try.func16, Try.ntmps16
      go_wp2_with (go_at_call 21; refine (rwhole_calls g _ B 0 R w0 _ HH.out).mono ?_; rw [hw]; rintro r w1 ⟨rfl, m1, rfl⟩)
      go_ret
      exact ⟨_, rfl, by rw [HF.out]; exact rd_nil' _ _, m1, rfl⟩
    | true =>
      have h4 : 4 ≤ B.length := by
        unfold wholeR at hw
        simp at hw
        omega
      have HF : Hid (bodyR B 0 = B.drop 4) := Lib.hid (by simp [bodyR, hw])
      obtain ⟨gg, c', hv, _, _, _, _, _⟩ := Row.set H.tail (j := 0) (by omega) 0 rfl
      injection hv with b1 _ b2
      subst b1 b2
      have HH := Lib.hid H
      clear H
      unfold maxLen at hcm
      obtain ⟨N, hN⟩ : ∃ N, B.length = 4 + N := ⟨B.length - 4, by omega⟩
      have HR : Hid (Rd w0 (RM g (.slice (some ⟨gg, 0, none⟩) B.length c) 0 :: Row (.slice (some ⟨gg, 0, none⟩) B.length c) B :: R) (.slice (some ⟨gg, 0, none⟩) B.length c) B) := Lib.hid Rd.row.weak
      have HN := Lib.hid hN
      by_cases hcap : c = 4
      · subst hcap
        have hl4 : B.length = 4 := by omega
        clear hN
        go_enter Try.func16, Try.ntmps16
        go_wp2_with (go_at_call 21; refine (rwhole_calls g _ B 0 R w0 _ HH.out).mono ?_; rw [hw]; rintro r w1 ⟨rfl, m1, rfl⟩; have c0 := cellAt (HH.out.drewN m1).get.1 0; simp at c0)
        go_ret
        refine ⟨_, rfl, ?_, m1, rfl⟩
        rw [HF.out]
        intro u hu
        have := (HR.out u hu).dropAll (n := 4) (a' := some ⟨gg, 0, none⟩) (c' := 0) (by omega) ⟨rfl, rfl, by unfold maxLen; omega⟩
        simpa [hl4] using this
      · clear hN
        go_enter Try.func16, Try.ntmps16
        go_wp2_with (go_at_call 21; refine (rwhole_calls g _ B 0 R w0 _ HH.out).mono ?_; rw [hw]; rintro r w1 ⟨rfl, m1, rfl⟩; have c0 := cellAt (HH.out.drewN m1).get.1 0; simp at c0)
        go_ret
        refine ⟨_, rfl, ?_, m1, rfl⟩
        rw [HF.out]
        intro u hu
        have := (HR.out u hu).drop 4 (N := B.length - 4) (by omega)
        simpa using this
  · have d : (e != 0) = true := by simpa using he
    have HF : Hid (bodyR B e = []) := Lib.hid (by simp [bodyR, he])
    clear H
    go_enter Try.func16, Try.ntmps16
    go_wp2
    go_ret
    exact ⟨_, rfl, by rw [HF.out]; exact rd_nil' _ _, 0, rfl⟩
end Go.Proofs.Ytjekkaajagncpaa
