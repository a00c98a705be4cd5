/- make of bytes, copy of as many bytes as there are. No condition. -/
import Derived.Test.YtaigboapaedcgaaOps2
import Derived.Laws.MakeOwn
import Derived.Laws.CopyRow
import Derived.Laws.IdiomCopy
namespace Go.Proofs.Ytaigboapaedcgaa.Hg
open Go Go.RowKit
set_option linter.unusedVariables false
theorem op_make_bytes {P : Program} {o : Oper} {a : Act} {K : Act → World → Prop} {Q : Exit → Act → World → Prop} {T : TypeId} {x y : Operand} (ho : o.op = .makeSlice T x y) (hT : P.underlying T = some (.slice 5))
    (hi : (P.info? 5).map (fun i => (i.zero, i.size, i.bytes)) = some (some (.int .u8 0), 1, 1)) {k k' : IntKind} {n c : Nat} {cz : Int} (hx : a.eval x = .int k n) (hy : a.eval y = .int k' cz) (hcz : cz = c) (hnc : n ≤ c) (hc : c ≤ 281474976710656)
    {w0 w : World} {R : List Asn} (H : sat w0 w R) (hk : ∀ g w', sat w0 w' (Row (.slice (some ⟨g, 0, none⟩) n c) (List.replicate n 0) :: R) → K (a.put o.dst (.slice (some ⟨g, 0, none⟩) n c)) w') : o.wp P a w K Q := by
  obtain ⟨i, hi1, hz1, hz2, hz3⟩ := info_parts hi
  subst hcz
  have hrun := run_make (P := P) w T 5 i (.int .u8 0) hT hi1 hz1 k k' n c (by omega) (by omega) (by rw [hz3]; omega) (by omega)
  unfold Oper.wp execOp
  simp only [ho, hx, hy, Sem.run_bind, hrun, Result.andThen_ok, Sem.run_pure]
  simp only [Int.toNat_natCast]
  refine hk _ _ ?_
  have hm : madeCells (Value.int .u8 0).cells (c * i.size) = (List.replicate c (Value.int .u8 0)).toArray := by
    rw [hz2, Nat.mul_one]
    apply Array.ext
    · simp [madeCells]
    · intro j h1 h2
      simp [madeCells, Value.cells, Nat.mod_one]
  rw [hm]
  have := RowC.of_blk (sz := 1) (H.alloc (.cells (List.replicate c (Value.int .u8 0)).toArray 5)) (cap := c) n ((List.replicate n (0 : UInt8)).map B8) (by simp) hnc (by unfold maxLen; omega) (by simp) (by
    rw [Nat.mul_one, List.take_replicate, List.map_replicate, Nat.min_eq_left hnc]
    rfl)
  unfold Row
  rw [List.length_replicate]
  exact this
theorem op_copy_bytes {P : Program} {o : Oper} {a : Act} {K : Act → World → Prop} {Q : Exit → Act → World → Prop} {d x : Operand} {T : TypeId} (ho : o.op = .call { callee := .builtin .copy, args := #[d, x], argTypes := #[T, T] }) (hT : P.underlying T = some (.slice 5))
    (hi : (P.info? 5).map (fun i => (i.zero, i.size, i.bytes)) = some (some (.int .u8 0), 1, 1)) {v y : Value} (hd : a.eval d = v) (hx : a.eval x = y)
    {w0 w : World} {R : List Asn} {l m : List UInt8} (H : sat w0 w (Row v l :: R)) (hr : Reads w y m) (hlm : l.length = m.length)
    (hk : ∀ w', sat w0 w' (Row v m :: R) → K (a.put o.dst (goInt m.length)) w') : o.wp P a w K Q := by
  obtain ⟨i, hi1, hz1, hz2, hz3⟩ := info_parts hi
  have hs : (P.info? 5).map (·.size) = some 1 := by rw [hi1]; simp [hz2]
  have hrun : ∃ w', (Builtin.copy_ #[T, T] o.type #[v, y]).run P w = .ok (goInt m.length) w' ∧ sat w0 w' (Row v m :: R) := by
    obtain ⟨hl, hc⟩ := RowC.blk_of H
    rcases hr.2 with ⟨rfl, h0⟩ | ⟨ad, cap, rfl, h1, h2, h3⟩
    · obtain ⟨a', c', rfl, _, _⟩ := Row.form H
      have hm : m = [] := List.eq_nil_of_length_eq_zero h0
      subst hm
      have hl0 : l = [] := List.eq_nil_of_length_eq_zero hlm
      subst hl0
      exact ⟨w, run_copy_none w T T o.type 5 a' none 0 c' 0 0 hT hs rfl, H⟩
    · rcases hc with ⟨rfl, h0, _⟩ | ⟨g, c, cur, rfl, h1', h2', h3', h4', h5'⟩
      · have hl0 : l = [] := List.eq_nil_of_length_eq_zero h0
        subst hl0
        have hm : m = [] := List.eq_nil_of_length_eq_zero hlm.symm
        subst hm
        exact ⟨w, run_copy_none w T T o.type 5 none (some ad) 0 0 0 cap hT hs rfl, H⟩
      · have hr2 := run_copy_row (P := P) w T T o.type 5 g 0 l.length c ad m.length cap cur 5 (m.map B8) hT hs h5'.get.1 (by rw [List.length_map, hlm]; exact (Nat.min_self _).symm) h3 (by simp; omega) (B8_oneCell m)
        refine ⟨_, by rw [hr2, List.length_map], ?_⟩
        have hs2 := setRow_sat (new := (cur.toList.take 0 ++ m.map B8 ++ cur.toList.drop (0 + m.length)).toArray) h5'
        have := RowC.of_blk (sz := 1) hs2 (cap := c) m.length (m.map B8) (by simp) (by omega) h2' (by simp; omega) (by
          simp only [List.take_zero, List.nil_append, Nat.mul_one]
          rw [show m.length = (m.map B8).length by simp]
          exact List.take_left)
        rw [hlm]
        exact this
  obtain ⟨w', hr1, hr2⟩ := hrun
  unfold Oper.wp execOp
  simp only [ho, resolve, invoke, builtin, Sem.run_bind, Sem.run_pure, Result.andThen_ok, List.map_toArray, List.map_cons, List.map_nil, hd, hx, hr1]
  exact hk w' hr2
end Go.Proofs.Ytaigboapaedcgaa.Hg
