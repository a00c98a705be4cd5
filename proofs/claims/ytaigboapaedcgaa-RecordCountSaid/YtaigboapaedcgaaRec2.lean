/- Layer 7: a deframer takes a byte. No condition. -/
import Derived.Test.YtaigboapaedcgaaRec1
namespace Go.Proofs.Ytaigboapaedcgaa
open Go Go.RowKit Hg
set_option linter.unusedVariables false
set_option linter.unusedSimpArgs false
attribute [local go_sem] Lib.run_eql_slice_nil run_min2 run_max2 run_min_two run_max_two
/-- A deframer, told plainly. -/
structure Df : Type where
  p : Nat
  l : Nat
  e : Int
  c : Nat
def Df.new : Df := ⟨0, 0, 0, 0⟩
def Df.pay (d : Df) : Bool := decide (d.e = 0) && decide (d.p = 5)
def Df.take (d : Df) (x : UInt8) : Df :=
  if d.e ≠ 0 then d else if d.p < 5 then ⟨headP d.p d.l x.toNat, headL d.p d.l x.toNat, headE d.p d.l x.toNat, d.c⟩ else if d.l = 1 then ⟨0, 0, 0, d.c + 1⟩ else ⟨5, d.l - 1, 0, d.c⟩
def Df.opened (d : Df) : Bool := decide (d.e = 0) && !decide (d.p = 0)
def Df.ok (d : Df) : Prop := d.p ≤ 5 ∧ (d.e = 0 → d.p ≤ 4 → ∃ k, k ≤ 64 ∧ d.l = k * 256) ∧ (d.e = 0 → d.p = 5 → 1 ≤ d.l ∧ d.l ≤ 16384)
theorem Df.ok_new : Df.new.ok := ⟨by decide, fun _ _ => ⟨0, by omega, rfl⟩, fun _ h => by cases h⟩
theorem headE_le {p l x : Nat} (h : headE p l x = 0) (hp : p ≤ 4) (hl : ∃ k, k ≤ 64 ∧ l = k * 256) :
    headP p l x = p + 1 ∧ (p ≤ 3 → ∃ k, k ≤ 64 ∧ headL p l x = k * 256) ∧ (p = 4 → 1 ≤ headL p l x ∧ headL p l x ≤ 16384) := by
  refine ⟨by simp [headP, h], fun h3 => ?_, fun h4 => ?_⟩
  · unfold headL
    by_cases h5 : p = 3
    · subst h5
      simp only [headE] at h
      simp at h
      exact ⟨x, by omega, by simp⟩
    · rw [if_neg h5, if_neg (by omega)]
      exact hl
  · subst h4
    simp only [headE] at h
    simp at h
    simp [headL]
    omega
theorem Df.ok_take {d : Df} (hd : d.ok) (x : UInt8) : (d.take x).ok := by
  obtain ⟨h1, h2, h3⟩ := hd
  unfold Df.take
  by_cases he : d.e ≠ 0
  · rw [if_pos he]; exact ⟨h1, h2, h3⟩
  rw [if_neg he]
  have he' : d.e = 0 := by simpa using he
  by_cases hp : d.p < 5
  · rw [if_pos hp]
    have hk := h2 he' (by omega)
    by_cases hz : headE d.p d.l x.toNat = 0
    · obtain ⟨a, b, c⟩ := headE_le hz (by omega) hk
      refine ⟨by show headP _ _ _ ≤ 5; omega, fun _ hh => b ?_, fun _ hh => c ?_⟩
      · have hh' : headP d.p d.l x.toNat ≤ 4 := hh
        omega
      · have hh' : headP d.p d.l x.toNat = 5 := hh
        omega
    · refine ⟨?_, fun hh => absurd hh hz, fun hh => absurd hh hz⟩
      show headP d.p d.l x.toNat ≤ 5
      unfold headP
      rw [if_neg hz]
      exact h1
  · rw [if_neg hp]
    have hl := h3 he' (by omega)
    by_cases h6 : d.l = 1
    · rw [if_pos h6]
      exact ⟨by simp, fun _ _ => ⟨0, by omega, rfl⟩, fun _ hh => by simp at hh⟩
    · rw [if_neg h6]
      exact ⟨by simp, fun _ hh => by simp at hh, fun _ _ => by simp; omega⟩
theorem Df.take_c (d : Df) (x : UInt8) : (d.take x).c ≤ d.c + 1 := by
  unfold Df.take
  split
  · omega
  · split
    · simp
    · split <;> simp
def DS (g : Nat) (d : Df) : Asn := DB g d.p d.l d.e d.c
set_option maxHeartbeats 1600000 in
theorem take_calls (g : Nat) (d : Df) (hd : d.ok) (hc : d.c ≤ 1000000) (x : UInt8) (R : List Asn) (w0 w : World) (H : sat w0 w (DS g d :: R)) {y : Int} (hy : y = x.toNat) :
    Calls Try.prog 11 #[.pointer (some ⟨g, 0, none⟩), .int .u8 y] w fun r w' => r = .returned (.tuple #[.bool d.pay, .int .i64 (d.take x).e]) ∧ sat w0 w' (DS g (d.take x) :: R) := by
  subst hy
  obtain ⟨h1, h2, h3⟩ := hd
  have hx : x.toNat ≤ 255 := by have := x.toNat_lt; omega
  obtain ⟨z, hz⟩ : ∃ z, x.toNat = z := ⟨_, rfl⟩
  obtain ⟨p, l, e, c⟩ := d
  simp only at h1 h2 h3 hc
  have HH : Hid (sat w0 w (DB g p l e c :: R)) := Lib.hid H
  have c0 : w.cell? ⟨g, 0, none⟩ = some (.int .i64 p) := cellAt H.get.1 0
  have c1 : w.cell? ⟨g, 1, none⟩ = some (.int .i64 l) := cellAt H.get.1 1
  have c2 : w.cell? ⟨g, 2, none⟩ = some (.int .i64 e) := cellAt H.get.1 2
  have c3 : w.cell? ⟨g, 3, none⟩ = some (.int .i64 c) := cellAt H.get.1 3
  have f0 := frozenAt H.get.1 0
  have f1 := frozenAt H.get.1 1
  have f3 := frozenAt H.get.1 3
  obtain ⟨M, hM⟩ : ∃ M, M = Df.take ⟨p, l, e, c⟩ x := ⟨_, rfl⟩
  obtain ⟨b, hb⟩ : ∃ b, b = Df.pay ⟨p, l, e, c⟩ := ⟨_, rfl⟩
  rw [← hM, ← hb]
  clear H
  by_cases he : e ≠ 0
  · have d1 : (e != 0) = true := by simpa using he
    have HT := Lib.hid (show M = ⟨p, l, e, c⟩ by rw [hM, Df.take, if_pos he])
    have HB := Lib.hid (show b = false by rw [hb]; simp [Df.pay, he])
    clear hM hb h2 h3
    rw [hz]
    go_enter Try.func11, Try.ntmps11
    go_wp2
    go_quiet (fail)
    go_wp2
    go_ret2
    exact ⟨by rw [HT.out, HB.out]; rfl, by rw [HT.out]; exact HH.out.drewN _⟩
  obtain rfl : e = 0 := by simpa using he
  by_cases hp : p < 5
  · obtain ⟨k, hk, rfl⟩ := h2 rfl (by omega)
    obtain ⟨E, hE⟩ : ∃ E, E = headE p (k * 256) z := ⟨_, rfl⟩
    obtain ⟨L, hL⟩ : ∃ L, L = headL p (k * 256) z := ⟨_, rfl⟩
    obtain ⟨P, hP⟩ : ∃ P, P = headP p (k * 256) z := ⟨_, rfl⟩
    have HT := Lib.hid (show M = ⟨P, L, E, c⟩ by rw [hM, Df.take, if_neg he, if_pos hp, hE, hL, hP, hz])
    have HB := Lib.hid (show b = false by rw [hb]; simp [Df.pay]; omega)
    have HC := Lib.hid (And.intro hE (And.intro hL hP))
    have d1 : decide ((p : Int) < 5) = true := by simp; omega
    rw [hz] at hx ⊢
    clear hM hb h2 h3 hE hL hP
    go_enter Try.func11, Try.ntmps11
    go_wp2_with (go_at_call 19; refine (head_calls g p k 0 c z R w0 _ HH.out (by omega) hk hx).mono ?_; rw [← HC.out.1, ← HC.out.2.1, ← HC.out.2.2]; rintro r w2 ⟨rfl, H2⟩; have c2 := cellAt H2.get.1 2; have f2 := frozenAt H2.get.1 2; simp at c2; have HX := Lib.hid H2; clear H2)
    go_quiet (fail)
    go_wp2
    go_ret2
    exact ⟨by rw [HT.out, HB.out]; rfl, by rw [HT.out]; exact (show sat w0 _ (DB g P L E c :: R) from HX.out.store (i := 2) (.int .i64 E)).drewN _⟩
  · obtain rfl : p = 5 := by omega
    obtain ⟨h4, h5⟩ := h3 rfl rfl
    have HB := Lib.hid (show b = true by rw [hb]; rfl)
    by_cases hl : l = 1
    · subst hl
      have HT := Lib.hid (show M = ⟨0, 0, 0, c + 1⟩ by rw [hM, Df.take, if_neg he, if_neg hp, if_pos rfl])
      clear hM hb h2 h3
      rw [hz]
      go_enter Try.func11, Try.ntmps11
      go_wp2
      go_ret2
      exact ⟨by rw [HT.out, HB.out]; rfl, by rw [HT.out]; exact (((HH.out.store (i := 1) (.int .i64 0)).store (i := 0) (.int .i64 0)).store (i := 3) (.int .i64 (c + 1)))⟩
    · have d2 : ((l : Int) - 1 == 0) = false := by simp; omega
      have HT := Lib.hid (show M = ⟨5, l - 1, 0, c⟩ by rw [hM, Df.take, if_neg he, if_neg hp, if_neg hl])
      have HL := Lib.hid (show ((l - 1 : Nat) : Int) = (l : Int) - 1 by omega)
      clear hM hb h2 h3 hl
      rw [hz]
      go_enter Try.func11, Try.ntmps11
      go_wp2
      go_ret2
      exact ⟨by rw [HT.out, HB.out]; rfl, by rw [HT.out]; unfold DS; dsimp only; rw [HL.out]; exact HH.out.store (i := 1) (.int .i64 ((l : Int) - 1))⟩
end Go.Proofs.Ytaigboapaedcgaa
