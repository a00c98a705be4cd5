/- Layer 8: the document's message: is it whole? No condition. -/
import Derived.Test.YtjekkaajagncpaaShakeRef1
namespace Go.Proofs.Ytjekkaajagncpaa
open Go Go.RowKit Hg
set_option linter.unusedVariables false
set_option linter.unusedSimpArgs false
attribute [local go_sem] Lib.run_eql_slice_nil run_min2 run_max2 run_min_two run_max_two
def wholeR (B : List UInt8) : Bool := decide (4 ≤ B.length) && decide (B.length = 4 + sizeR B)
theorem sizeR_le (B : List UInt8) : sizeR B ≤ 16777215 := by
  have := bt_le B 1
  have := bt_le B 2
  have := bt_le B 3
  unfold sizeR
  omega
set_option maxHeartbeats 800000 in
theorem rwhole_calls (g : Nat) (v : Value) (B : List UInt8) (e : Int) (R : List Asn) (w0 w : World) (H : sat w0 w (RM g v e :: Row v B :: R)) :
    Calls Try.prog 21 #[.pointer (some ⟨g, 0, none⟩)] w fun r w' => r = .returned (.bool (wholeR B)) ∧ ∃ m, w' = w.drewN m := by
  obtain ⟨a, c, rfl, hc, _⟩ := Row.form H.tail
  have c0 : w.cell? ⟨g, 0, none⟩ = some (.slice a B.length c) := cellAt H.get.1 0
  by_cases h4 : B.length < 4
  · have d : decide ((4 : Int) ≤ B.length) = false := by simp; omega
    have HF : Hid (wholeR B = false) := Lib.hid (by unfold wholeR; rw [decide_eq_false (by omega)]; rfl)
    clear H
    go_enter Try.func21, Try.ntmps21
    go_wp2
    go_quiet (fail)
    go_wp2
    go_ret
    exact ⟨by rw [HF.out]; rfl, _, rfl⟩
  · have d : decide ((4 : Int) ≤ B.length) = true := by simp; omega
    obtain ⟨S, hS⟩ : ∃ S, S = sizeR B := ⟨_, rfl⟩
    have hSb : S ≤ 16777215 := by rw [hS]; exact sizeR_le B
    have hT : wholeR B = ((B.length : Int) == 4 + (S : Int)) := by
      unfold wholeR
      rw [decide_eq_true (by omega : 4 ≤ B.length), Bool.true_and, ← hS, Bool.eq_iff_iff]
      simp
      omega
    have HT := Lib.hid hT
    have HS := Lib.hid hS
    have HH := Lib.hid H
    have hnon : Nonempty (SW w0 (RM g (.slice a B.length c) e :: [])) := ⟨⟨_, H.head⟩⟩
    have k0 : ∀ x : SW w0 (RM g (.slice a B.length c) e :: []), x.w.cell? ⟨g, 0, none⟩ = some (.slice a B.length c) := fun x => cellAt x.h.get.1 0
    clear H hT hS
    go_enter Try.func21, Try.ntmps21
    go_wp2
    have d0 : w.drew.cell? ⟨g, 0, none⟩ = some (.slice a B.length c) := c0
    refine wp_region_mix (fun u => ∃ x : SW w0 (RM g (.slice a B.length c) e :: []), u = x.w) [0, 1, 2, 3, 4, 5, 6, 7, 8, 9, 10, 11, 12, 13, 14, 15, 16, 17] [7, 8, 9, 10, 11] (by kernel_rfl) (by kernel_rfl) ⟨⟨_, HH.out.drew.head⟩, rfl⟩ ?_
    repeat (first | ((first | refine mix_a rfl (by decide +kernel) rfl (fun K hK => ?_) | refine mix_q rfl (by decide +kernel) rfl (fun K hK => ?_)); go_big_quiet_op; refine hK _ ?_; clear hK K) | (refine mix_s rfl rfl (by decide +kernel) ?_; simp only [Act.put, List.setIfInBounds_toArray, List.set_cons_zero, List.set_cons_succ]))
    refine mix_lC rfl rfl rfl (fun K hK => ?_)
    refine op_call rfl Try.func22 (by kernel_rfl) (by kernel_rfl) (size_calls g _ B e R w0 _ HH.out.drew) rfl ?_
    rintro r w8 h8
    rw [← HS.out] at h8
    obtain ⟨rfl, rfl⟩ := h8
    refine ⟨_, rfl, hK _ _ ⟨⟨_, HH.out.drew.head⟩, rfl⟩ ?_⟩
    clear hK K
    simp only [Act.put, List.setIfInBounds_toArray, List.set_cons_zero, List.set_cons_succ]
    repeat (first | ((first | refine mix_a rfl (by decide +kernel) rfl (fun K hK => ?_) | refine mix_q rfl (by decide +kernel) rfl (fun K hK => ?_)); go_big_quiet_op; refine hK _ ?_; clear hK K) | (refine mix_s rfl rfl (by decide +kernel) ?_; simp only [Act.put, List.setIfInBounds_toArray, List.set_cons_zero, List.set_cons_succ]))
    refine mix_nil ?_
    go_wp2
    go_ret
    exact ⟨by rw [HT.out]; rfl, 1, rfl⟩
end Go.Proofs.Ytjekkaajagncpaa
