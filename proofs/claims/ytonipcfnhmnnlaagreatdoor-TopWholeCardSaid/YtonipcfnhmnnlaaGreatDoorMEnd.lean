/- The one short run: its head is a literal. What happened, one by one; a connection's state. -/
import Derived.Test.YtonipcfnhmnnlaaGreatDoorCT46
namespace Go.Proofs.YtonipcfnhmnnlaaGreatDoor
open Go Go.RowKit Hg
set_option linter.unusedVariables false
set_option linter.unusedSimpArgs false
theorem run_head (w : World) : (Instr.buildSlice 42 33 #[(0, .int .u8 71), (1, .int .u8 69), (2, .int .u8 84), (3, .int .u8 32), (4, .int .u8 47), (5, .int .u8 32), (6, .int .u8 72), (7, .int .u8 84), (8, .int .u8 84), (9, .int .u8 80), (10, .int .u8 47), (11, .int .u8 49), (12, .int .u8 46), (13, .int .u8 49), (14, .int .u8 13), (15, .int .u8 10), (16, .int .u8 72), (17, .int .u8 111), (18, .int .u8 115), (19, .int .u8 116), (20, .int .u8 58), (21, .int .u8 32), (22, .int .u8 97), (23, .int .u8 46), (24, .int .u8 98), (25, .int .u8 13), (26, .int .u8 10), (27, .int .u8 13), (28, .int .u8 10), (29, .int .u8 109), (30, .int .u8 111), (31, .int .u8 114), (32, .int .u8 101)]).run Tryz.prog w = .ok (.slice (some ⟨w.heap.size, 0, none⟩) 33 33) (w.alloc (.cells #[.int .u8 71, .int .u8 69, .int .u8 84, .int .u8 32, .int .u8 47, .int .u8 32, .int .u8 72, .int .u8 84, .int .u8 84, .int .u8 80, .int .u8 47, .int .u8 49, .int .u8 46, .int .u8 49, .int .u8 13, .int .u8 10, .int .u8 72, .int .u8 111, .int .u8 115, .int .u8 116, .int .u8 58, .int .u8 32, .int .u8 97, .int .u8 46, .int .u8 98, .int .u8 13, .int .u8 10, .int .u8 13, .int .u8 10, .int .u8 109, .int .u8 111, .int .u8 114, .int .u8 101] 5)) := by
  kernel_rfl
end Go.Proofs.YtonipcfnhmnnlaaGreatDoor
namespace Go.Proofs.YtonipcfnhmnnlaaGreatDoor
open Go Go.RowKit Hg
set_option linter.unusedVariables false
set_option linter.unusedSimpArgs false
theorem evs_block {w0 w : World} {R : List Asn} {v : Value} {l : List EV} (h : sat w0 w (RowE v l :: R)) : ∃ (a : Option Addr) (c : Nat), v = .slice a l.length c ∧ l.length ≤ c ∧ c ≤ maxLen ∧ (l = [] ∨ ∃ b, a = some ⟨b, 0, none⟩) := by
  rcases (RowC.blk_of h).2 with ⟨rfl, h1, h2⟩ | ⟨b, c, cur, rfl, h1, h2, _⟩
  · exact ⟨none, 0, by rw [h1], by omega, by unfold maxLen; omega, .inl (List.eq_nil_of_length_eq_zero h1)⟩
  · exact ⟨_, _, rfl, h1, h2, .inr ⟨b, rfl⟩⟩
theorem evs_at {w0 w : World} {R : List Asn} {b n c : Nat} {l : List EV} (h : sat w0 w (RowE (.slice (some ⟨b, 0, none⟩) n c) l :: R)) {i : Nat} {e : EV} (he : l[i]? = some e) (j : Nat) (hj : j < 5) : w.cell? ⟨b, i * 5 + j, none⟩ = e.cells[j]? := by
  rcases (RowC.readsC h).2 with ⟨h0, _⟩ | ⟨ad, c', h0, _, _, hh⟩
  · cases h0
  · injection h0 with h0 _ _
    injection h0 with h0
    have hg := flat_get EV.cells 5 (fun _ => rfl) l i e he j hj
    have hjl : j < e.cells.length := hj
    rw [List.getElem?_eq_getElem hjl] at hg ⊢
    have := hh _ _ hg
    rw [← h0, addAt, Nat.zero_add] at this
    exact this
theorem aus_block {w0 w : World} {R : List Asn} {v : Value} {l : List AU} (h : sat w0 w (RowU v l :: R)) : ∃ (a : Option Addr) (c : Nat), v = .slice a l.length c ∧ l.length ≤ c ∧ c ≤ maxLen ∧ (l = [] ∨ ∃ b, a = some ⟨b, 0, none⟩) := by
  rcases (RowC.blk_of h).2 with ⟨rfl, h1, h2⟩ | ⟨b, c, cur, rfl, h1, h2, _⟩
  · exact ⟨none, 0, by rw [h1], by omega, by unfold maxLen; omega, .inl (List.eq_nil_of_length_eq_zero h1)⟩
  · exact ⟨_, _, rfl, h1, h2, .inr ⟨b, rfl⟩⟩
theorem aus_at {w0 w : World} {R : List Asn} {b n c : Nat} {l : List AU} (h : sat w0 w (RowU (.slice (some ⟨b, 0, none⟩) n c) l :: R)) {i : Nat} {e : AU} (he : l[i]? = some e) (j : Nat) (hj : j < 8) : w.cell? ⟨b, i * 8 + j, none⟩ = e.cells[j]? := by
  rcases (RowC.readsC h).2 with ⟨h0, _⟩ | ⟨ad, c', h0, _, _, hh⟩
  · cases h0
  · injection h0 with h0 _ _
    injection h0 with h0
    have hg := flat_get AU.cells 8 (fun _ => rfl) l i e he j hj
    have hjl : j < e.cells.length := hj
    rw [List.getElem?_eq_getElem hjl] at hg ⊢
    have := hh _ _ hg
    rw [← h0, addAt, Nat.zero_add] at this
    exact this
theorem sys_state (p g N : Nat) (q : PV) (s : CV) (R : List Asn) (w0 w : World) (H : sat w0 w (SysA p g N q s :: R)) :
    Calls Tryz.prog 30 #[.pointer (some ⟨g, 0, none⟩)] w fun e w' => e = .returned (.int .i64 s.st) ∧ w' = w := by
  obtain ⟨x, h⟩ := SysA.open H
  obtain ⟨y, hf, h⟩ := ConnA.open (h.pick 6 rfl)
  refine (state_calls g y.c _ w0 w h).mono ?_
  rintro e w' ⟨rfl, h2⟩
  exact ⟨by rw [hf.st], h2⟩
end Go.Proofs.YtonipcfnhmnnlaaGreatDoor
