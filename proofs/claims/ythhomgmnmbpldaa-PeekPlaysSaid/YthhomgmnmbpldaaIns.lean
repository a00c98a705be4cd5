/- What comes in, told once for the empty and the filled. No condition. -/
import Derived.Test.YthhomgmnmbpldaaBase
namespace Go.Proofs.Ythhomgmnmbpldaa.Hg
open Go Go.RowKit
set_option linter.unusedVariables false
theorem ListsIn.all {w : World} {v : Value} {ls : List (Value × List UInt8)} (h : ListsIn w v ls) : ∃ a cap, v = .slice a ls.length cap ∧ ls.length ≤ cap ∧ cap ≤ 9223372036854775807 ∧ ∀ i, i < ls.length → ∃ b off, a = some ⟨b, off, none⟩ ∧ w.cell? ⟨b, off + i, none⟩ = some (ls.getD i (undef, [])).1 ∧ Reads w (ls.getD i (undef, [])).1 (ls.getD i (undef, [])).2 ∧ (ls.getD i (undef, [])).2.length ≤ 140737488351232 := by
  rcases h with ⟨rfl, rfl⟩ | ⟨ad, cap, rfl, h1, h2, h3⟩
  · exact ⟨_, _, rfl, Nat.le_refl _, by simp, fun i hi => absurd hi (by simp)⟩
  · refine ⟨_, _, rfl, h1, by unfold maxLen at h2; omega, fun i hi => ?_⟩
    obtain ⟨b, off, rfl⟩ := cell_spot (h3 0 (by omega)).1
    have := h3 i hi
    rw [addAt] at this
    exact ⟨b, off, rfl, this⟩
theorem IntsIn.all {w : World} {v : Value} {zs : List Int} (h : IntsIn w v zs) : ∃ a cap, v = .slice a zs.length cap ∧ zs.length ≤ cap ∧ cap ≤ 9223372036854775807 ∧ ∀ i, i < zs.length → ∃ b off, a = some ⟨b, off, none⟩ ∧ w.cell? ⟨b, off + i, none⟩ = some (.int .i64 (zs.getD i 0)) ∧ -9223372036854775808 ≤ zs.getD i 0 ∧ zs.getD i 0 ≤ 9223372036854775807 := by
  rcases h with ⟨rfl, rfl⟩ | ⟨ad, cap, rfl, h1, h2, h3⟩
  · exact ⟨_, _, rfl, Nat.le_refl _, by simp, fun i hi => absurd hi (by simp)⟩
  · refine ⟨_, _, rfl, h1, by unfold maxLen at h2; omega, fun i hi => ?_⟩
    obtain ⟨b, off, rfl⟩ := cell_spot (h3 0 (by omega)).1
    have := h3 i hi
    rw [addAt] at this
    exact ⟨b, off, rfl, this⟩
theorem TripsIn.all {w : World} {v : Value} {ls : List Trip} (h : TripsIn w v ls) : ∃ a cap, v = .slice a ls.length cap ∧ ls.length ≤ cap ∧ cap ≤ 9223372036854775807 ∧ ∀ i, i < ls.length → ∃ b off, a = some ⟨b, off, none⟩ ∧
    w.cell? ⟨b, off + i * 3, none⟩ = some (.int .i64 (ls.getD i trip0).n) ∧ w.cell? ⟨b, off + i * 3 + 1, none⟩ = some (ls.getD i trip0).v ∧ w.cell? ⟨b, off + i * 3 + 2, none⟩ = some (.int .i64 (ls.getD i trip0).m) ∧
    Reads w (ls.getD i trip0).v (ls.getD i trip0).b ∧ (ls.getD i trip0).b.length ≤ 140737488351232 ∧ (-9223372036854775808 ≤ (ls.getD i trip0).n ∧ (ls.getD i trip0).n ≤ 9223372036854775807) ∧ (-9223372036854775808 ≤ (ls.getD i trip0).m ∧ (ls.getD i trip0).m ≤ 9223372036854775807) := by
  rcases h with ⟨rfl, rfl⟩ | ⟨ad, cap, rfl, h1, h2, h3⟩
  · exact ⟨_, _, rfl, Nat.le_refl _, by simp, fun i hi => absurd hi (by simp)⟩
  · refine ⟨_, _, rfl, h1, by unfold maxLen at h2; omega, fun i hi => ?_⟩
    obtain ⟨b, off, rfl⟩ := cell_spot (h3 0 (by omega)).1
    have := h3 i hi
    rw [addAt, addAt, addAt] at this
    exact ⟨b, off, rfl, this⟩
theorem TripsIn.below {w w' : World} {v : Value} {ls : List Trip} (h : TripsIn w v ls) (hb : Below w.heap.size w w') : TripsIn w' v ls := by
  rcases h with h | ⟨ad, cap, rfl, h1, h2, h3⟩
  · exact .inl h
  · refine .inr ⟨ad, cap, rfl, h1, h2, fun i hi => ?_⟩
    obtain ⟨c0, c1, c2, hr, hx⟩ := h3 i hi
    exact ⟨by rw [hb.cell (World.block_lt_of_cell? w _ c0)]; exact c0, by rw [hb.cell (World.block_lt_of_cell? w _ c1)]; exact c1, by rw [hb.cell (World.block_lt_of_cell? w _ c2)]; exact c2, hr.below hb, hx⟩
end Go.Proofs.Ythhomgmnmbpldaa.Hg
