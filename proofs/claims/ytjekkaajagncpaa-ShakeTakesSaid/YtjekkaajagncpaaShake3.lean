/- Layer 8: a message takes a byte. No condition. -/
import Derived.Test.YtjekkaajagncpaaShake2
namespace Go.Proofs.Ytjekkaajagncpaa
open Go Go.RowKit Hg
set_option linter.unusedVariables false
set_option linter.unusedSimpArgs false
attribute [local go_sem] Lib.run_eql_slice_nil run_min2 run_max2 run_min_two run_max_two
/-- A message, told plainly. -/
structure Msg : Type where
  h : Nat
  s : Nat
  e : Int
  l : List UInt8
def Msg.whole (m : Msg) : Bool := wholeB m.h m.s m.e m.l.length
def Msg.want (m : Msg) : Int := wantI m.h m.s m.e m.l.length
def Msg.body (m : Msg) : List UInt8 := bodyL m.h m.s m.e m.l
def Msg.take (m : Msg) (c : UInt8) : Msg :=
  if m.e ≠ 0 then m else if m.whole then m else if m.h < 4 then ⟨m.h + 1, firstS m.h m.s c.toNat, firstE m.h m.s c.toNat, m.l⟩ else ⟨m.h, m.s, m.e, m.l ++ [c]⟩
def Msg.ok (m : Msg) : Prop := m.h ≤ 4 ∧ m.s ≤ 16777215 ∧ (m.e = 0 → m.s ≤ 16384) ∧ m.l.length ≤ 16384 ∧ (m.e = 0 → m.h < 4 → m.l = [] ∧ (m.h ≤ 1 → m.s = 0)) ∧ (m.e = 0 → m.h = 4 → m.l.length ≤ m.s) ∧ (m.e = 0 ∨ m.e = 4 ∨ m.e = 6)
def Msg.new : Msg := ⟨0, 0, 0, []⟩
theorem Msg.ok_new : Msg.new.ok := by simp [Msg.ok, Msg.new]
theorem firstE_cases (h s x : Nat) : firstE h s x = 0 ∨ firstE h s x = 4 ∨ firstE h s x = 6 := by
  unfold firstE
  split
  · split <;> simp
  · split <;> simp
theorem firstE_zero {h s x : Nat} (hh : h < 4) (hs : h = 0 → s = 0) (he : firstE h s x = 0) : firstS h s x ≤ 16384 ∧ (h = 0 → firstS h s x = 0) := by
  unfold firstE at he
  unfold firstS
  by_cases h0 : h = 0
  · rw [if_pos h0]; have := hs h0; omega
  · rw [if_neg h0] at he ⊢
    have hp : 1 ≤ 2 ^ (8 * (3 - h)) := Nat.one_le_two_pow
    have : ¬ 16384 < (s * 256 + x) * 2 ^ (8 * (3 - h)) := by
      intro hlt; rw [if_pos hlt] at he; cases he
    have h2 : (s * 256 + x) * 1 ≤ (s * 256 + x) * 2 ^ (8 * (3 - h)) := Nat.mul_le_mul_left _ hp
    omega
theorem Msg.ok_take {m : Msg} (hm : m.ok) (c : UInt8) : (m.take c).ok := by
  obtain ⟨h1, h2, h3, h4, h5, h6, h7⟩ := hm
  have hc : c.toNat ≤ 255 := by have := c.toNat_lt; omega
  unfold Msg.take
  by_cases he : m.e ≠ 0
  · rw [if_pos he]; exact ⟨h1, h2, h3, h4, h5, h6, h7⟩
  rw [if_neg he]
  have he' : m.e = 0 := by simpa using he
  by_cases hw : m.whole = true
  · rw [if_pos hw]; exact ⟨h1, h2, h3, h4, h5, h6, h7⟩
  rw [if_neg hw]
  by_cases hh : m.h < 4
  · rw [if_pos hh]
    have hs := h3 he'
    have hl := h5 he' hh
    refine ⟨hh, ?_, fun h => (firstE_zero hh (fun h0 => hl.2 (by omega)) h).1, h4, fun h _ => ⟨hl.1, fun h1 => (firstE_zero hh (fun h0 => hl.2 (by omega)) h).2 (by simpa using h1)⟩, fun h _ => ?_, firstE_cases _ _ _⟩
    · show firstS m.h m.s c.toNat ≤ 16777215
      unfold firstS
      split <;> omega
    · show m.l.length ≤ _
      rw [hl.1]; exact Nat.zero_le _
  · rw [if_neg hh]
    have hh4 : m.h = 4 := by omega
    have hl := h6 he' hh4
    have hne : m.l.length ≠ m.s := fun h => hw (by simp [Msg.whole, wholeB, he', hh4, h])
    have hs := h3 he'
    refine ⟨h1, h2, h3, ?_, fun _ h => absurd h hh, fun _ _ => ?_, h7⟩
    · simp; omega
    · simp; omega
end Go.Proofs.Ytjekkaajagncpaa
