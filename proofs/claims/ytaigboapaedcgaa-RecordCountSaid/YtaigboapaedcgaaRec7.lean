/- Layer 7: the document's deframer takes a byte. No condition. -/
import Derived.Test.YtaigboapaedcgaaRec2
namespace Go.Proofs.Ytaigboapaedcgaa
open Go Go.RowKit Hg
set_option linter.unusedVariables false
set_option linter.unusedSimpArgs false
attribute [local go_sem] Lib.run_eql_slice_nil run_min2 run_max2 run_min_two run_max_two
/-- The document's deframer, told plainly. -/
structure Rf : Type where
  a : Nat
  s : Nat
  e : Int
  c : Nat
def Rf.new : Rf := ⟨0, 0, 0, 0⟩
def rE (a s x : Nat) : Int := if a ≤ 4 then headE a s x else 0
def Rf.pay (r : Rf) : Bool := decide (r.e = 0) && decide (5 ≤ r.a)
def Rf.take (r : Rf) (x : UInt8) : Rf :=
  if r.e ≠ 0 then r else if rE r.a r.s x.toNat ≠ 0 then ⟨r.a, headL r.a r.s x.toNat, rE r.a r.s x.toNat, r.c⟩
  else if 5 ≤ r.a ∧ r.a + 1 = 5 + headL r.a r.s x.toNat then ⟨0, headL r.a r.s x.toNat, 0, r.c + 1⟩ else ⟨r.a + 1, headL r.a r.s x.toNat, 0, r.c⟩
/-- What is held of it: no more than that its numbers are small. -/
def Rf.ok (r : Rf) : Prop := r.a ≤ 20000 ∧ r.s ≤ 70000 ∧ r.c ≤ 1000000 ∧ (r.e = 0 → r.a = 4 → r.s ≤ 16384)
def RB (g : Nat) (a s e c : Int) : Asn := blk g (.cells #[.int .i64 a, .int .i64 s, .int .i64 e, .int .i64 c] 29)
def RS (g : Nat) (r : Rf) : Asn := RB g r.a r.s r.e r.c
theorem ret_pair {b b' : Bool} {x y : Int} (h1 : b = b') (h2 : x = y) : Ending.returned (.tuple #[.bool b, .int .i64 x]) = .returned (.tuple #[.bool b', .int .i64 y]) := by rw [h1, h2]
set_option maxHeartbeats 3200000 in
theorem rtake_calls (g : Nat) (r : Rf) (hr : r.ok) (x : UInt8) (R : List Asn) (w0 w : World) (H : sat w0 w (RS g r :: R)) {y : Int} (hy : y = x.toNat) :
    Calls Try.prog 12 #[.pointer (some ⟨g, 0, none⟩), .int .u8 y] w fun u w' => u = .returned (.tuple #[.bool (r.pay && decide ((r.take x).e = 0)), .int .i64 (r.take x).e]) ∧ sat w0 w' (RS g (r.take x) :: R) := by
  subst hy
  obtain ⟨h1, h2, h3, h4⟩ := hr
  have hx : x.toNat ≤ 255 := by have := x.toNat_lt; omega
  obtain ⟨z, hz⟩ : ∃ z, x.toNat = z := ⟨_, rfl⟩
  obtain ⟨a, s, e, c⟩ := r
  simp only at h1 h2 h3 h4
  have HH : Hid (sat w0 w (RB g a s e c :: R)) := Lib.hid H
  have c0 : w.cell? ⟨g, 0, none⟩ = some (.int .i64 a) := cellAt H.get.1 0
  have c1 : w.cell? ⟨g, 1, none⟩ = some (.int .i64 s) := cellAt H.get.1 1
  have c2 : w.cell? ⟨g, 2, none⟩ = some (.int .i64 e) := cellAt H.get.1 2
  have c3 : w.cell? ⟨g, 3, none⟩ = some (.int .i64 c) := cellAt H.get.1 3
  have f0 := frozenAt H.get.1 0
  have f1 := frozenAt H.get.1 1
  have f2 := frozenAt H.get.1 2
  have f3 := frozenAt H.get.1 3
  obtain ⟨M, hM⟩ : ∃ M, M = Rf.take ⟨a, s, e, c⟩ x := ⟨_, rfl⟩
  obtain ⟨b, hb⟩ : ∃ b, b = (Rf.pay ⟨a, s, e, c⟩ && decide (M.e = 0)) := ⟨_, rfl⟩
  rw [← hM, ← hb]
  clear H
  by_cases he : e ≠ 0
  · have d1 : (e != 0) = true := by simpa using he
    have HT := Lib.hid (show M = ⟨a, s, e, c⟩ by rw [hM, Rf.take, if_pos he])
    have HB := Lib.hid (show b = false by rw [hb]; simp [Rf.pay, he])
    clear hM hb h4
    rw [hz]
    go_enter Try.func12, Try.ntmps12
    go_wp2
    go_quiet (fail)
    go_wp2
    go_ret2
    exact ⟨by rw [HT.out, HB.out]; rfl, by rw [HT.out]; exact HH.out.drewN _⟩
  obtain rfl : e = 0 := by simpa using he
  rw [hz] at hx ⊢
  by_cases ha0 : a = 0
  · subst ha0
    by_cases hx1 : z = 22
    · subst hx1
      have d3 : ((1 : Int) == 5 + (s : Int)) = false := by simp; omega
      have HT := Lib.hid (show M = ⟨1, s, 0, c⟩ by rw [hM, Rf.take, if_neg he, hz]; simp [rE, headE, headL])
      have HB := Lib.hid (show b = false by rw [hb, HT.out]; simp [Rf.pay])
      clear hM hb h4 he
      go_enter Try.func12, Try.ntmps12
      go_wp2
      go_quiet (fail)
      go_wp2
      go_ret2
      exact ⟨by rw [HT.out, HB.out]; rfl, by rw [HT.out]; exact (show sat w0 _ (RB g _ _ _ _ :: R) from ((HH.out.store (i := 0) (.int .i64 1)).drewN nq))⟩
    · have d1 : ((z : Int) != 22) = true := by simp; omega
      have HT := Lib.hid (show M = ⟨0, s, 4, c⟩ by rw [hM, Rf.take, if_neg he, hz]; simp [rE, headE, headL, hx1])
      have HB := Lib.hid (show b = false by rw [hb, HT.out]; simp)
      clear hM hb h4 he
      go_enter Try.func12, Try.ntmps12
      go_wp2
      go_quiet (fail)
      go_wp2
      go_ret2
      exact ⟨by rw [HT.out, HB.out]; rfl, by rw [HT.out]; exact (show sat w0 _ (RB g _ _ _ _ :: R) from (HH.out.store (i := 2) (.int .i64 4))).drewN _⟩
  by_cases ha1 : a = 1
  · subst ha1
    by_cases hx1 : z = 3
    · subst hx1
      have d3 : ((2 : Int) == 5 + (s : Int)) = false := by simp; omega
      have HT := Lib.hid (show M = ⟨2, s, 0, c⟩ by rw [hM, Rf.take, if_neg he, hz]; simp [rE, headE, headL])
      have HB := Lib.hid (show b = false by rw [hb, HT.out]; simp [Rf.pay])
      clear hM hb h4 he
      go_enter Try.func12, Try.ntmps12
      go_wp2
      go_quiet (fail)
      go_wp2
      go_ret2
      exact ⟨by rw [HT.out, HB.out]; rfl, by rw [HT.out]; exact (show sat w0 _ (RB g _ _ _ _ :: R) from ((HH.out.store (i := 0) (.int .i64 2)).drewN nq))⟩
    · have d1 : ((z : Int) != 3) = true := by simp; omega
      have HT := Lib.hid (show M = ⟨1, s, 5, c⟩ by rw [hM, Rf.take, if_neg he, hz]; simp [rE, headE, headL, hx1])
      have HB := Lib.hid (show b = false by rw [hb, HT.out]; simp)
      clear hM hb h4 he
      go_enter Try.func12, Try.ntmps12
      go_wp2
      go_quiet (fail)
      go_wp2
      go_ret2
      exact ⟨by rw [HT.out, HB.out]; rfl, by rw [HT.out]; exact (show sat w0 _ (RB g _ _ _ _ :: R) from (HH.out.store (i := 2) (.int .i64 5))).drewN _⟩
  by_cases ha2 : a = 2
  · subst ha2
    by_cases hx1 : z ≤ 4
    · have d1 : decide ((4 : Int) < z) = false := by simp; omega
      have d3 : ((3 : Int) == 5 + (s : Int)) = false := by simp; omega
      have HT := Lib.hid (show M = ⟨3, s, 0, c⟩ by rw [hM, Rf.take, if_neg he, hz]; simp [rE, headE, headL, hx1])
      have HB := Lib.hid (show b = false by rw [hb, HT.out]; simp [Rf.pay])
      clear hM hb h4 he
      go_enter Try.func12, Try.ntmps12
      go_wp2
      go_quiet (fail)
      go_wp2
      go_ret2
      exact ⟨by rw [HT.out, HB.out]; rfl, by rw [HT.out]; exact (show sat w0 _ (RB g _ _ _ _ :: R) from ((HH.out.store (i := 0) (.int .i64 3)).drewN nq))⟩
    · have d1 : decide ((4 : Int) < z) = true := by simp; omega
      have HT := Lib.hid (show M = ⟨2, s, 5, c⟩ by rw [hM, Rf.take, if_neg he, hz]; simp [rE, headE, headL, hx1])
      have HB := Lib.hid (show b = false by rw [hb, HT.out]; simp)
      clear hM hb h4 he
      go_enter Try.func12, Try.ntmps12
      go_wp2
      go_quiet (fail)
      go_wp2
      go_ret2
      exact ⟨by rw [HT.out, HB.out]; rfl, by rw [HT.out]; exact (show sat w0 _ (RB g _ _ _ _ :: R) from (HH.out.store (i := 2) (.int .i64 5))).drewN _⟩
  by_cases ha3 : a = 3
  · subst ha3
    by_cases hx1 : 16384 < z * 256
    · have d1 : decide ((16384 : Int) < (z : Int) * 256) = true := by simp; omega
      have hc : ((z * 256 : Nat) : Int) = (z : Int) * 256 := by omega
      have HT := Lib.hid (show M = ⟨3, z * 256, 6, c⟩ by rw [hM, Rf.take, if_neg he, hz]; simp [rE, headE, headL, hx1])
      have HB := Lib.hid (show b = false by rw [hb, HT.out]; simp)
      clear hM hb h4 he
      go_enter Try.func12, Try.ntmps12
      go_wp2
      go_quiet (fail)
      go_wp2
      go_ret2
      exact ⟨by rw [HT.out, HB.out]; rfl, by rw [HT.out]; exact (show sat w0 _ (RB g _ _ _ _ :: R) from ((HH.out.store (i := 1) (.int .i64 ((z : Int) * 256))).store (i := 2) (.int .i64 6))).drewN _⟩
    · have d1 : decide ((16384 : Int) < (z : Int) * 256) = false := by simp; omega
      have d3 : ((4 : Int) == 5 + (z : Int) * 256) = false := by simp; omega
      have HT := Lib.hid (show M = ⟨4, z * 256, 0, c⟩ by rw [hM, Rf.take, if_neg he, hz]; simp [rE, headE, headL, hx1])
      have HB := Lib.hid (show b = false by rw [hb, HT.out]; simp [Rf.pay])
      clear hM hb h4 he
      go_enter Try.func12, Try.ntmps12
      go_wp2
      go_quiet (fail)
      go_wp2
      go_ret2
      exact ⟨by rw [HT.out, HB.out]; rfl, by rw [HT.out]; exact (show sat w0 _ (RB g _ _ _ _ :: R) from (((HH.out.store (i := 1) (.int .i64 ((z : Int) * 256))).store (i := 0) (.int .i64 4)).drewN nq))⟩
  by_cases ha4 : a = 4
  · subst ha4
    have h4' := h4 rfl rfl
    obtain ⟨y, hy⟩ : ∃ y, y = s + z := ⟨_, rfl⟩
    have hyi : ((s : Int) + z) = y := by omega
    have hL : headL 4 s z = y := by simp [headL, hy]
    have hE : headE 4 s z = if y = 0 ∨ 16384 < y then 6 else 0 := by simp [headE, hy]
    clear hy
    by_cases hx0 : y = 0
    · have hE2 : headE 4 s z = 6 := by rw [hE, if_pos (by omega)]
      have d0 : ((y : Int) == 0) = true := by simp; omega
      clear hE hx0
      have HT := Lib.hid (show M = ⟨4, y, 6, c⟩ by rw [hM, Rf.take, if_neg he, hz]; simp [rE, hE2, hL])
      have HB := Lib.hid (show b = false by rw [hb, HT.out]; simp)
      clear hM hb h4 he
      go_enter Try.func12, Try.ntmps12
      go_wp2
      go_quiet (fail)
      go_wp2
      go_ret2
      exact ⟨by rw [HT.out, HB.out]; rfl, by rw [HT.out]; exact (show sat w0 _ (RB g _ _ _ _ :: R) from ((HH.out.store (i := 1) (.int .i64 y)).store (i := 2) (.int .i64 6))).drewN _⟩
    · have d0 : ((y : Int) == 0) = false := by simp; omega
      by_cases hx1 : 16384 < y
      · have hE2 : headE 4 s z = 6 := by rw [hE, if_pos (by omega)]
        clear hE
        have d1 : decide ((16384 : Int) < (y : Int)) = true := by simp; omega
        have HT := Lib.hid (show M = ⟨4, y, 6, c⟩ by rw [hM, Rf.take, if_neg he, hz]; simp [rE, hE2, hL])
        have HB := Lib.hid (show b = false by rw [hb, HT.out]; simp)
        clear hM hb h4 he
        go_enter Try.func12, Try.ntmps12
        go_wp2
        go_quiet (fail)
        go_wp2
        go_ret2
        exact ⟨by rw [HT.out, HB.out]; rfl, by rw [HT.out]; exact (show sat w0 _ (RB g _ _ _ _ :: R) from ((HH.out.store (i := 1) (.int .i64 y)).store (i := 2) (.int .i64 6))).drewN _⟩
      · have hE2 : headE 4 s z = 0 := by rw [hE, if_neg (by omega)]
        clear hE
        have d1 : decide ((16384 : Int) < (y : Int)) = false := by simp; omega
        have d3 : ((5 : Int) == 5 + (y : Int)) = false := by simp; omega
        have HT := Lib.hid (show M = ⟨5, y, 0, c⟩ by rw [hM, Rf.take, if_neg he, hz]; simp [rE, hE2, hL])
        have HB := Lib.hid (show b = false by rw [hb, HT.out]; simp [Rf.pay])
        clear hM hb h4 he
        go_enter Try.func12, Try.ntmps12
        go_wp2
        go_quiet (fail)
        go_wp2
        go_ret2
        exact ⟨by rw [HT.out, HB.out]; rfl, by rw [HT.out]; exact (show sat w0 _ (RB g _ _ _ _ :: R) from (((HH.out.store (i := 1) (.int .i64 y)).store (i := 0) (.int .i64 5)).drewN nq))⟩
  have h5 : 5 ≤ a := by omega
  have e0 : ((a : Int) == 0) = false := by simp; omega
  have e1 : ((a : Int) == 1) = false := by simp; omega
  have e2 : ((a : Int) == 2) = false := by simp; omega
  have e3 : ((a : Int) == 3) = false := by simp; omega
  have e4 : ((a : Int) == 4) = false := by simp; omega
  have e5 : decide ((5 : Int) < (a : Int) + 1) = true := by simp; omega
  by_cases hend : a + 1 = 5 + s
  · have d3 : ((a : Int) + 1 == 5 + (s : Int)) = true := by simp; omega
    have HT := Lib.hid (show M = ⟨0, s, 0, c + 1⟩ by rw [hM, Rf.take, if_neg he, hz]; simp [rE, headE, headL, ha0, ha1, ha2, ha3, ha4, h5, hend]; omega)
    have HB := Lib.hid (show b = true by rw [hb, HT.out]; simp [Rf.pay]; omega)
    clear hM hb h4 he
    go_enter Try.func12, Try.ntmps12
    go_wp2
    go_quiet (fail)
    go_wp2
    go_ret2
    exact ⟨by rw [HT.out, HB.out]; rfl, by rw [HT.out]; exact (show sat w0 _ (RB g _ _ _ _ :: R) from ((((HH.out.store (i := 0) (.int .i64 ((a : Int) + 1))).drewN nq).store (i := 0) (.int .i64 0)).store (i := 3) (.int .i64 ((c : Int) + 1))))⟩
  · have d3 : ((a : Int) + 1 == 5 + (s : Int)) = false := by simp; omega
    have HT := Lib.hid (show M = ⟨a + 1, s, 0, c⟩ by rw [hM, Rf.take, if_neg he, hz]; simp [rE, headE, headL, ha0, ha1, ha2, ha3, ha4, h5, hend]; omega)
    have HB := Lib.hid (show b = true by rw [hb, HT.out]; simp [Rf.pay]; omega)
    clear hM hb h4 he
    go_enter Try.func12, Try.ntmps12
    go_wp2
    go_quiet (fail)
    go_wp2
    go_ret2
    exact ⟨by rw [HT.out, HB.out]; rfl, by rw [HT.out]; exact (show sat w0 _ (RB g _ _ _ _ :: R) from ((HH.out.store (i := 0) (.int .i64 ((a : Int) + 1))).drewN nq))⟩
end Go.Proofs.Ytaigboapaedcgaa
