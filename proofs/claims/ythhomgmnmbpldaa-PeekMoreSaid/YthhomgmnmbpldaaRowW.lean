/- Words for the rows of this seat's laws: how an argument that is bytes reads, and how long it is. No condition. -/
import Derived.SizedLaws
import Derived.ChangeSlices
import Derived.Test.YthhomgmnmbpldaaBase
namespace Go.Proofs.Ythhomgmnmbpldaa.Hg
open Go Go.RowKit Go.ChangeShapes Go.WideShapes
set_option linter.unusedVariables false
set_option linter.unusedSimpArgs false
/-- A slice of bytes that came in: it reads, and is no longer than its weight allows. -/
theorem bytes_in {H : Type} {enc : TypeId × Value → H} {P : Program} {W : World} {base : Nat} {spare : Nat → Bool} {held : Bool} {t e : TypeId} {a : Option Addr} {len cap : Nat} {d : DataW H} {ps : List MemPlace} {ts : List TypeId} {ds : List (DataW H)} {j : Nat}
    (hsz : (DataW.weightsEach P ts ds).all (· ≤ reachBytes) = true) (ht : ts[j]? = some t) (hd : ds[j]? = some d) (hu : P.underlying t = some (.slice e)) (he : P.underlying e = some (.int .u8)) (hc : P.cellsOf e = 1) (hB : P.bytesOf e = 1)
    (h : DataW.Trod enc P W base spare held t (.slice a len cap) d ps) : ∃ l : List UInt8, Reads W (.slice a len cap) l ∧ l.length ≤ 140737488351232 := by
  obtain ⟨fuel, hf⟩ := h
  rcases open_ints hu he hc hf with ⟨hcs, _⟩ | ⟨x, l, c, zs, hcs, _, hl, hm, hz, hx, hcell, hwf⟩
  · simp [Value.cells] at hcs
    obtain ⟨rfl, rfl, rfl⟩ := hcs
    exact ⟨[], ⟨rfl, .inl ⟨rfl, rfl⟩⟩, by simp⟩
  · simp [Value.cells] at hcs
    obtain ⟨rfl, rfl, rfl⟩ := hcs
    obtain ⟨hx, _⟩ := Prod.mk.inj hx
    subst hx
    have z := sized_slice hsz ht hd hu
    rw [hB] at z
    have hl2 : len ≤ zs.length := by
      rw [hz]
      split
      · exact hl
      · exact Nat.le_refl _
    have h1 : (lits (H := H) .u8 (zs.take len)).length + (lits (H := H) .u8 (zs.drop len)).length = zs.length := by
      simp [lits]
      omega
    rw [h1, Nat.mul_one] at z
    have hz' : len ≤ 140737488351232 := Nat.le_trans hl2 z
    -- the length as the slice's value has it; the cells, as many as are read
    obtain ⟨bl, hbl, hr⟩ := Reads.of_ints (w := W) (ad := x) (len := len) (cap := zs.length) (zs := zs) hl2 (by
      have : reachBytes = 140737488351232 := rfl
      unfold maxLen; omega) rfl hcell hwf
    refine ⟨bl, ?_, by omega⟩
    subst hbl
    obtain ⟨hr1, hr2⟩ := hr
    refine ⟨hr1, ?_⟩
    rcases hr2 with ⟨hh, _⟩ | ⟨ad, cap', hh, _, _, hh3⟩
    · cases hh
    · injection hh with hh _ _
      injection hh with hh
      subst hh
      exact .inr ⟨_, _, rfl, hl, hm, hh3⟩
theorem wf_i64 {n : Int} (h : (Lit.int .i64 n).wf = true) : -9223372036854775808 ≤ n ∧ n ≤ 9223372036854775807 := by
  have h1 : IntKind.i64.min = -9223372036854775808 := rfl
  have h2 : IntKind.i64.max = 9223372036854775807 := rfl
  simp only [Lit.wf, Bool.and_eq_true, decide_eq_true_eq] at h
  omega
theorem wf_u8 {n : Int} (h : (Lit.int .u8 n).wf = true) : 0 ≤ n ∧ n ≤ 255 := by
  have h1 : IntKind.u8.min = 0 := rfl
  have h2 : IntKind.u8.max = 255 := rfl
  simp only [Lit.wf, Bool.and_eq_true, decide_eq_true_eq] at h
  omega
end Go.Proofs.Ythhomgmnmbpldaa.Hg
