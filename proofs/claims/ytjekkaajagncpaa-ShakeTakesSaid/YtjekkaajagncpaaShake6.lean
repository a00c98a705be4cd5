/- Layer 8: Wrap, the code's and the document's. No condition. -/
import Derived.Test.YtjekkaajagncpaaShake5
namespace Go.Proofs.Ytjekkaajagncpaa
open Go Go.RowKit Hg
set_option linter.unusedVariables false
set_option linter.unusedSimpArgs false
attribute [local go_sem] Lib.run_eql_slice_nil run_min2 run_max2 run_min_two run_max_two
set_option maxHeartbeats 800000 in
theorem vec_calls (v x : Value) (l m : List UInt8) (R : List Asn) (w0 w : World) (H : sat w0 w R) (hv : Rd w0 R v l) (hx : Rd w0 R x m) (hl : l.length ≤ 1000000) (hm : m.length ≤ 16777215) :
    Calls Try.prog 24 #[v, .int .i64 3, x] w fun r w' => ∃ v', r = .returned (.tuple #[v', .bool true]) ∧ sat w0 w' (Row v' (l ++ be24 m.length ++ m) :: R) := by
  obtain ⟨a, c, rfl, _, _⟩ := (hv w H).form
  obtain ⟨a', c', rfl, _, _⟩ := (hx w H).form
  have HH := Lib.hid H
  have HV := Lib.hid hv
  have HX := Lib.hid hx
  have d1 : ((m.length : Int) / 16777216 != 0) = false := by simp; omega
  have hbl : (be24 m.length).length = 3 := rfl
  clear H hv hx
  go_enter Try.func24, Try.ntmps24
  go_wp2_with (first | (go_at_call 25; refine (clamp_calls _).mono ?_; rintro r w1 ⟨rfl, rfl⟩) | (go_at_call 26; refine (put_calls _ l m.length R w0 _ HH.out HV.out hl hm).mono ?_; rintro r w2 ⟨v2, rfl, H2⟩; have HY := Lib.hid H2; clear H2) | (refine BigFrame.wpList_want (by rfl) fun K' hK' => ?_; refine op_append_bytes (v := v2) (m := m) (y := .slice a' m.length c') (by rfl) Try.underlying22 info5 (by rfl) (by rfl) HY.out (HX.out _ HY.out.tail) (by simp only [List.length_append]; omega) ?_; intro v5 w5 H5 _; refine hK' _ _ ?_; clear hK' K'; have HC := Lib.hid H5; clear H5 HY))
  go_ret2
  exact ⟨_, rfl, HC.out⟩
def wrapL (m : List UInt8) : List UInt8 := if 16384 < m.length then [] else [1] ++ be24 m.length ++ m
set_option maxHeartbeats 800000 in
theorem wrap_calls (x : Value) (m : List UInt8) (R : List Asn) (w0 w : World) (H : sat w0 w R) (hx : Rd w0 R x m) (hm : m.length ≤ 140737488351232) :
    Calls Try.prog 17 #[x] w fun r w' => ∃ v', r = .returned (.tuple #[v', .bool (decide (m.length ≤ 16384))]) ∧ sat w0 w' (Row v' (wrapL m) :: R) := by
  obtain ⟨a', c', rfl, _, _⟩ := (hx w H).form
  have HH := Lib.hid H
  have HX := Lib.hid hx
  clear H hx
  by_cases hbig : 16384 < m.length
  · have d1 : decide ((16384 : Int) < m.length) = true := by simp; omega
    have d2 : Hid (decide (m.length ≤ 16384) = false) := Lib.hid (by simp; omega)
    have d3 : Hid (wrapL m = []) := Lib.hid (by simp [wrapL, hbig])
    clear hbig
    go_enter Try.func17, Try.ntmps17
    go_wp2
    go_ret2
    exact ⟨_, by rw [d2.out]; rfl, by rw [d3.out]; exact Row.nil HH.out⟩
  · have d1 : decide ((16384 : Int) < m.length) = false := by simp; omega
    have d2 : Hid (decide (m.length ≤ 16384) = true) := Lib.hid (by simp; omega)
    have d3 : Hid (wrapL m = [1] ++ be24 m.length ++ m) := Lib.hid (by simp [wrapL, hbig])
    go_enter Try.func17, Try.ntmps17
    go_wp2_with (go_at_call 24; refine (vec_calls _ _ [1] m _ w0 _ (HH.out.alloc (.cells ([1].map B8).toArray 5)) (Rd.blk [1] (by decide)) HX.out.weak (by decide) (by omega)).mono ?_; rintro r w2 ⟨v2, rfl, H2⟩; have HY := Lib.hid (H2.re 2 [0] [1] rfl); clear H2)
    go_ret2
    exact ⟨_, by rw [d2.out]; rfl, by rw [d3.out]; exact HY.out⟩
set_option maxHeartbeats 800000 in
theorem rwrap_calls (x : Value) (m : List UInt8) (R : List Asn) (w0 w : World) (H : sat w0 w R) (hx : Rd w0 R x m) (hm : m.length ≤ 140737488351232) :
    Calls Try.prog 18 #[x] w fun r w' => ∃ v', r = .returned (.tuple #[v', .bool (decide (m.length ≤ 16384))]) ∧ sat w0 w' (Row v' (wrapL m) :: R) := by
  obtain ⟨a', c', rfl, _, _⟩ := (hx w H).form
  have HH := Lib.hid H
  have HX := Lib.hid hx
  clear H hx
  by_cases hbig : 16384 < m.length
  · have d1 : decide ((16384 : Int) < m.length) = true := by simp; omega
    have d2 : Hid (decide (m.length ≤ 16384) = false) := Lib.hid (by simp; omega)
    have d3 : Hid (wrapL m = []) := Lib.hid (by simp [wrapL, hbig])
    clear hbig
    go_enter Try.func18, Try.ntmps18
    go_wp2
    go_ret2
    exact ⟨_, by rw [d2.out]; rfl, by rw [d3.out]; exact Row.nil HH.out⟩
  · have d1 : decide ((16384 : Int) < m.length) = false := by simp; omega
    have d2 : Hid (decide (m.length ≤ 16384) = true) := Lib.hid (by simp; omega)
    obtain ⟨b1, hb1⟩ : ∃ b1, b1 = UInt8.ofNat (m.length / 256) := ⟨_, rfl⟩
    obtain ⟨b0, hb0⟩ : ∃ b0, b0 = UInt8.ofNat m.length := ⟨_, rfl⟩
    have d3 : Hid (wrapL m = [1, 0, b1, b0] ++ m) := Lib.hid (by
      rw [wrapL, if_neg hbig, be24, ← hb1, ← hb0, show m.length / 65536 = 0 by omega]
      rfl)
    have e1 : (m.length : Int) / 256 = b1.toNat := by rw [hb1, UInt8.toNat_ofNat']; omega
    have e0 : (m.length : Int) % 256 = b0.toNat := by rw [hb0, UInt8.toNat_ofNat']; omega
    clear hb1 hb0
    go_enter Try.func18, Try.ntmps18
    go_wp2_with (refine BigFrame.wpList_want (by rfl) fun K' hK' => ?_; refine op_append_bytes (l := [1, 0, b1, b0]) (m := m) (v := .slice (some ⟨w.heap.size, 0, none⟩) 4 4) (y := .slice a' m.length c') (by rfl) Try.underlying22 info5 (by rfl) (by rfl) (RowC.of_blk (cap := 4) (sz := 1) (HH.out.alloc (.cells ([1, 0, b1, b0].map B8).toArray 5)) 4 ([1, 0, b1, b0].map B8) rfl (by decide) (by decide) rfl rfl) (HX.out _ (HH.out.alloc _).tail) (by simp; omega) ?_; intro v5 w5 H5 _; refine hK' _ _ ?_; clear hK' K'; have HC := Lib.hid H5; clear H5)
    go_ret2
    exact ⟨_, by rw [d2.out]; rfl, by rw [d3.out]; exact HC.out⟩
end Go.Proofs.Ytjekkaajagncpaa
