/- Layer 8: the document's message takes a byte. No condition. -/
import Derived.Test.YtjekkaajagncpaaShakeRef3
namespace Go.Proofs.Ytjekkaajagncpaa
open Go Go.RowKit Hg
set_option linter.unusedVariables false
set_option linter.unusedSimpArgs false
attribute [local go_sem] Lib.run_eql_slice_nil run_min2 run_max2 run_min_two run_max_two
def errR (B : List UInt8) : Int := if bt B 0 = 1 then if 16384 < sizeR B then 6 else 0 else 4
def takeR (B : List UInt8) (e : Int) (c : UInt8) : List UInt8 × Int := if e ≠ 0 then (B, e) else if wholeR B then (B, e) else (B ++ [c], errR (B ++ [c]))
theorem row_ne {w0 w : World} {R : List Asn} {g gg n c : Nat} {o : Obj} {l : List UInt8} (h : sat w0 w (blk g o :: Row (.slice (some ⟨gg, 0, none⟩) n c) l :: R)) : g ≠ gg := by
  rcases (RowC.blk_of h.swap).2 with ⟨h1, _, _⟩ | ⟨g', c', cur, h1, _, _, _, _, h2⟩
  · cases h1
  · injection h1 with h1 _ _
    injection h1 with h1
    injection h1 with h1 _ _
    subst h1
    exact h2.ne.symm
theorem row_first {w0 w : World} {R : List Asn} {v : Value} {l : List UInt8} (h : sat w0 w (Row v l :: R)) {N : Nat} (hN : N = l.length) (h1 : 1 ≤ N) {y : Int} (hy : y = bt l 0) :
    ∃ gg c, v = .slice (some ⟨gg, 0, none⟩) N c ∧ w.cell? ⟨gg, 0, none⟩ = some (.int .u8 y) := by
  obtain ⟨gg, c, hv, _, _, cc, _, _⟩ := Row.set h (j := 0) (by omega) 0 rfl
  exact ⟨gg, c, by rw [hN]; exact hv, by rw [hy]; exact cc⟩
set_option maxHeartbeats 1600000 in
theorem rtake_calls (g : Nat) (v : Value) (B : List UInt8) (e : Int) (c : UInt8) (R : List Asn) (w0 w : World) (H : sat w0 w (RM g v e :: Row v B :: R)) (hB : B.length ≤ 1000000) :
    Calls Try.prog 12 #[.pointer (some ⟨g, 0, none⟩), .int .u8 c.toNat] w fun r w' => ∃ v' : Value, r = .returned (.tuple #[.bool (decide ((takeR B e c).2 = 0) && wholeR (takeR B e c).1), .int .i64 (takeR B e c).2]) ∧ sat w0 w' (RM g v' (takeR B e c).2 :: Row v' (takeR B e c).1 :: R) := by
  obtain ⟨a, cp, rfl, hc, hcm⟩ := Row.form H.tail
  have c0 : w.cell? ⟨g, 0, none⟩ = some (.slice a B.length cp) := cellAt H.get.1 0
  have c1 : w.cell? ⟨g, 1, none⟩ = some (.int .i64 e) := cellAt H.get.1 1
  have hx : c.toNat ≤ 255 := by have := c.toNat_lt; omega
  have HH := Lib.hid H
  clear H
  by_cases he : e ≠ 0
  · have d : (e != 0) = true := by simpa using he
    have HT := Lib.hid (show takeR B e c = (B, e) by rw [takeR, if_pos he])
    have HE := Lib.hid (show decide (e = 0) = false by simpa using he)
    obtain ⟨x, hcx⟩ : ∃ x, c.toNat = x := ⟨_, rfl⟩
    rw [hcx]
    go_enter Try.func12, Try.ntmps12
    go_wp2
    go_quiet (fail)
    go_wp2
    go_ret2
    exact ⟨_, by rw [HT.out]; dsimp only; rw [HE.out]; rfl, by rw [HT.out]; exact HH.out.drewN _⟩
  obtain rfl : e = 0 := by simpa using he
  cases hw : wholeR B with
  | true =>
    have HT := Lib.hid (show takeR B 0 c = (B, 0) by rw [takeR, if_neg he, if_pos hw])
    obtain ⟨x, hcx⟩ : ∃ x, c.toNat = x := ⟨_, rfl⟩
    rw [hcx]
    go_enter Try.func12, Try.ntmps12
    go_wp2_with (go_at_call 21; refine (rwhole_calls g _ B 0 R w0 _ HH.out).mono ?_; rw [hw]; rintro r w1 ⟨rfl, m1, rfl⟩)
    go_ret2
    exact ⟨_, by rw [HT.out]; dsimp only; rw [hw]; rfl, by rw [HT.out]; exact HH.out.drewN _⟩
  | false =>
  obtain ⟨B2, hB2⟩ : ∃ B2, B2 = B ++ [c] := ⟨_, rfl⟩
  have HT := Lib.hid (show takeR B 0 c = (B2, errR B2) by rw [takeR, if_neg he, hw, hB2]; rfl)
  have hB2l : B2.length = B.length + 1 := by rw [hB2]; simp
  have HB2 := Lib.hid hB2
  obtain ⟨N, hN⟩ : ∃ N, N = B2.length := ⟨_, rfl⟩
  have HN := Lib.hid hN
  have hN1 : 1 ≤ N := by omega
  have HW0 := Lib.hid hw
  clear hB2 hN hB2l
  obtain ⟨y, hy⟩ : ∃ y : Int, y = bt B2 0 := ⟨_, rfl⟩
  obtain ⟨S, hS⟩ : ∃ S, S = sizeR B2 := ⟨_, rfl⟩
  obtain ⟨b, hb⟩ : ∃ b, b = wholeR B2 := ⟨_, rfl⟩
  have hy2 : 0 ≤ y ∧ y ≤ 255 := by have := bt_le B2 0; omega
  have hSb : S ≤ 16777215 := by rw [hS]; exact sizeR_le B2
  have HY0 := Lib.hid hy
  have HS0 := Lib.hid hS
  have HB0 := Lib.hid hb
  have hE : errR B2 = if y = 1 then if 16384 < S then 6 else 0 else 4 := by
    rw [hy, hS, errR]
    simp only [show ((bt B2 0 : Int) = 1) = (bt B2 0 = 1) by rw [eq_iff_iff]; omega]
  clear hy hS hb
  rw [HT.out]
  dsimp only
  rw [← HB0.out]
  by_cases h1 : y = 1
  · subst h1
    by_cases hs : 16384 < S
    · have d : decide ((16384 : Int) < S) = true := by simp; omega
      have HE := Lib.hid (show errR B2 = 6 by rw [hE, if_pos rfl, if_pos hs])
      rw [HE.out]
      clear hE hs
      go_enter Try.func12, Try.ntmps12
      go_wp2_with (first
        | (go_at_call 21; refine (rwhole_calls g _ B 0 R w0 _ HH.out).mono ?_; rw [hw]; rintro r w1 ⟨rfl, m1, rfl⟩; have HX := Lib.hid (HH.out.drewN m1); have c0 := cellAt HX.out.get.1 0; simp at c0; clear hw)
        | (refine BigFrame.wpList_want (by rfl) fun K' hK' => ?_; refine op_append_bytes (l := B) (m := [c]) (v := .slice a B.length cp) (y := .slice (some ⟨w.heap.size, 0, none⟩) 1 1) (by rfl) Try.underlying22 info5 (by rfl) (by rfl) (show sat w0 ((w.drewN m1).alloc (.cells #[.int .u8 c.toNat] 5)) (Row (.slice a B.length cp) B :: blk w.heap.size (.cells ([c].map B8).toArray 5) :: RM g (.slice a B.length cp) 0 :: R) from (HX.out.alloc _).re 3 [2, 0, 1] [] rfl) (Rd.blk (R := RM g (.slice a B.length cp) 0 :: Row (.slice a B.length cp) B :: R) [c] (show (1 : Nat) ≤ maxLen by decide) _ (HX.out.alloc _)) (by simp; omega) ?_; intro v5 w5 H5 _; rw [← HB2.out] at H5; obtain ⟨gg, c5, hv5, cc⟩ := row_first H5 HN.out hN1 HY0.out; subst hv5; refine hK' _ _ ?_; clear hK' K'; have HV := Lib.hid (show sat w0 w5 (RM g (.slice a B.length cp) 0 :: Row (.slice (some ⟨gg, 0, none⟩) N c5) B2 :: R) from H5.re 3 [2, 0] [1] rfl); clear H5 HX c0; have c0 : w5.cell? ⟨g, 0, none⟩ = some (.slice a B.length cp) := cellAt HV.out.get.1 0; have c1 : w5.cell? ⟨g, 1, none⟩ = some (.int .i64 0) := cellAt HV.out.get.1 1; have f0 := frozenAt HV.out.get.1 0; have f1 := frozenAt HV.out.get.1 1; have ne : g ≠ gg := row_ne HV.out; have HZ := Lib.hid (show sat w0 _ (RM g (.slice (some ⟨gg, 0, none⟩) N c5) 0 :: Row (.slice (some ⟨gg, 0, none⟩) N c5) B2 :: R) from HV.out.store (i := 0) (.slice (some ⟨gg, 0, none⟩) N c5)))
        | (go_at_call 22; refine (size_calls g _ B2 0 R w0 _ HZ.out).mono ?_; rw [← HS0.out]; rintro r w7 ⟨rfl, rfl⟩)
        )
      go_quiet (fail)
      go_wp2
      go_ret2
      exact ⟨_, rfl, (show sat w0 _ (RM g (.slice (some ⟨gg, 0, none⟩) N c5) 6 :: Row (.slice (some ⟨gg, 0, none⟩) N c5) B2 :: R) from HZ.out.store (i := 1) (.int .i64 6)).drewN _⟩
    · have d : decide ((16384 : Int) < S) = false := by simp; omega
      have HE := Lib.hid (show errR B2 = 0 by rw [hE, if_pos rfl, if_neg hs])
      rw [HE.out]
      clear hE hs
      go_enter Try.func12, Try.ntmps12
      go_wp2_with (first
        | ((go_at_call 21; refine (rwhole_calls g _ B 0 R w0 _ HH.out).mono ?_; rw [hw]; rintro r w1 ⟨rfl, m1, rfl⟩; have HX := Lib.hid (HH.out.drewN m1); have c0 := cellAt HX.out.get.1 0; simp at c0; clear hw))
        | (refine BigFrame.wpList_want (by rfl) fun K' hK' => ?_; refine op_append_bytes (l := B) (m := [c]) (v := .slice a B.length cp) (y := .slice (some ⟨w.heap.size, 0, none⟩) 1 1) (by rfl) Try.underlying22 info5 (by rfl) (by rfl) (show sat w0 ((w.drewN m1).alloc (.cells #[.int .u8 c.toNat] 5)) (Row (.slice a B.length cp) B :: blk w.heap.size (.cells ([c].map B8).toArray 5) :: RM g (.slice a B.length cp) 0 :: R) from (HX.out.alloc _).re 3 [2, 0, 1] [] rfl) (Rd.blk (R := RM g (.slice a B.length cp) 0 :: Row (.slice a B.length cp) B :: R) [c] (show (1 : Nat) ≤ maxLen by decide) _ (HX.out.alloc _)) (by simp; omega) ?_; intro v5 w5 H5 _; rw [← HB2.out] at H5; obtain ⟨gg, c5, hv5, cc⟩ := row_first H5 HN.out hN1 HY0.out; subst hv5; refine hK' _ _ ?_; clear hK' K'; have HV := Lib.hid (show sat w0 w5 (RM g (.slice a B.length cp) 0 :: Row (.slice (some ⟨gg, 0, none⟩) N c5) B2 :: R) from H5.re 3 [2, 0] [1] rfl); clear H5 HX c0; have c0 : w5.cell? ⟨g, 0, none⟩ = some (.slice a B.length cp) := cellAt HV.out.get.1 0; have c1 : w5.cell? ⟨g, 1, none⟩ = some (.int .i64 0) := cellAt HV.out.get.1 1; have f0 := frozenAt HV.out.get.1 0; have f1 := frozenAt HV.out.get.1 1; have ne : g ≠ gg := row_ne HV.out; have HZ := Lib.hid (show sat w0 _ (RM g (.slice (some ⟨gg, 0, none⟩) N c5) 0 :: Row (.slice (some ⟨gg, 0, none⟩) N c5) B2 :: R) from HV.out.store (i := 0) (.slice (some ⟨gg, 0, none⟩) N c5)))
        | (go_at_call 22; refine (size_calls g _ B2 0 R w0 _ HZ.out).mono ?_; rw [← HS0.out]; rintro r w7 ⟨rfl, rfl⟩)
        | (go_at_call 21; refine (rwhole_calls g _ B2 0 R w0 _ HZ.out).mono ?_; rw [← HB0.out]; rintro r w7 ⟨rfl, m7, rfl⟩)
        )
      go_ret2
      exact ⟨_, by simp, HZ.out.drewN _⟩
  · have d : (y != 1) = true := by simpa using h1
    have HE := Lib.hid (show errR B2 = 4 by rw [hE, if_neg h1])
    rw [HE.out]
    clear hE h1
    go_enter Try.func12, Try.ntmps12
    go_wp2_with (first
      | (go_at_call 21; refine (rwhole_calls g _ B 0 R w0 _ HH.out).mono ?_; rw [hw]; rintro r w1 ⟨rfl, m1, rfl⟩; have HX := Lib.hid (HH.out.drewN m1); have c0 := cellAt HX.out.get.1 0; simp at c0; clear hw)
      | (refine BigFrame.wpList_want (by rfl) fun K' hK' => ?_; refine op_append_bytes (l := B) (m := [c]) (v := .slice a B.length cp) (y := .slice (some ⟨w.heap.size, 0, none⟩) 1 1) (by rfl) Try.underlying22 info5 (by rfl) (by rfl) (show sat w0 ((w.drewN m1).alloc (.cells #[.int .u8 c.toNat] 5)) (Row (.slice a B.length cp) B :: blk w.heap.size (.cells ([c].map B8).toArray 5) :: RM g (.slice a B.length cp) 0 :: R) from (HX.out.alloc _).re 3 [2, 0, 1] [] rfl) (Rd.blk (R := RM g (.slice a B.length cp) 0 :: Row (.slice a B.length cp) B :: R) [c] (show (1 : Nat) ≤ maxLen by decide) _ (HX.out.alloc _)) (by simp; omega) ?_; intro v5 w5 H5 _; rw [← HB2.out] at H5; obtain ⟨gg, c5, hv5, cc⟩ := row_first H5 HN.out hN1 HY0.out; subst hv5; refine hK' _ _ ?_; clear hK' K'; have HV := Lib.hid (show sat w0 w5 (RM g (.slice a B.length cp) 0 :: Row (.slice (some ⟨gg, 0, none⟩) N c5) B2 :: R) from H5.re 3 [2, 0] [1] rfl); clear H5 HX c0; have c0 : w5.cell? ⟨g, 0, none⟩ = some (.slice a B.length cp) := cellAt HV.out.get.1 0; have c1 : w5.cell? ⟨g, 1, none⟩ = some (.int .i64 0) := cellAt HV.out.get.1 1; have f0 := frozenAt HV.out.get.1 0; have f1 := frozenAt HV.out.get.1 1; have ne : g ≠ gg := row_ne HV.out; have HZ := Lib.hid (show sat w0 _ (RM g (.slice (some ⟨gg, 0, none⟩) N c5) 0 :: Row (.slice (some ⟨gg, 0, none⟩) N c5) B2 :: R) from HV.out.store (i := 0) (.slice (some ⟨gg, 0, none⟩) N c5)))
      )
    go_quiet (fail)
    go_wp2
    go_ret2
    exact ⟨_, rfl, (show sat w0 _ (RM g (.slice (some ⟨gg, 0, none⟩) N c5) 4 :: Row (.slice (some ⟨gg, 0, none⟩) N c5) B2 :: R) from HZ.out.store (i := 1) (.int .i64 4)).drewN _⟩
end Go.Proofs.Ytjekkaajagncpaa
