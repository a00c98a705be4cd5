/- More steps over rows: a call, one element of a row. No condition. make of bytes, copy of as many bytes as there are. No condition. More operations: boxes, variables, in a world that is not looked at. No condition. A copy into a part of a block of bytes; a slice of one reads as what stands there. No condition. A slice of one, built. No condition. Assertions put together, and what they leave open. No condition. The bytes of a string: a new block, with a mark behind its end. No condition. -/
import Derived.Test.YtonipcfnhmnnlaaGreatDoorCBase
import Derived.Conc.Own4
import Derived.Laws.MakeOwn
import Derived.Laws.CopyRow
import Derived.Laws.IdiomCopy
import Derived.Laws.IdiomStrings
namespace Go.Proofs.YtonipcfnhmnnlaaGreatDoor.Hg
open Go Go.RowKit
set_option linter.unusedVariables false
/-- A call of a function, by what is known of it. -/
theorem op_call {P : Program} {o : Oper} {a : Act} {K : Act → World → Prop} {Q : Exit → Act → World → Prop} {f : FuncId} {fn : Func} {xs : List Operand} {ats : Array TypeId} (ho : o.op = .call { callee := .value (.func f), args := xs.toArray, argTypes := ats })
    (hf : P.funcs[f]? = some fn) (hname : (fn.name == "runtime.NumGoroutine") = false) (hb : fn.body.isNone = false) {w : World} {vs : List Value} {R : Ending → World → Prop} (hc : Calls P f vs.toArray w R) (hv : xs.map a.eval = vs)
    (hk : ∀ e w', R e w' → ∃ v, e = .returned v ∧ K (a.put o.dst v) w') : o.wp P a w K Q := by
  unfold Oper.wp
  rw [Conc.run_call_body ho hf hname hb, Oper.upon_enter]
  have e : xs.toArray.map a.eval = vs.toArray := by simp [hv]
  rw [e]
  refine hc.mono fun e w' hr => ?_
  obtain ⟨v, rfl, hv⟩ := hk e w' hr
  exact hv
/-- One element of a row: there it lies, and may be written. -/
theorem Row.set {w0 w : World} {v : Value} {l : List UInt8} {R : List Asn} (h : sat w0 w (Row v l :: R)) {j : Nat} (hj : j < l.length) (b : UInt8) {n : Int} (hn : n = b.toNat) :
    ∃ g c, v = .slice (some ⟨g, 0, none⟩) l.length c ∧ l.length ≤ c ∧ c ≤ maxLen ∧ w.cell? ⟨g, j, none⟩ = some (B8 (l.getD j 0)) ∧ w.frozen? ⟨g, j, none⟩ = false ∧ sat w0 (w.setCell ⟨g, j, none⟩ (.int .u8 n)) (Row v (l.set j b) :: R) := by
  subst hn
  obtain ⟨hl, hc⟩ := RowC.blk_of h
  rcases hc with ⟨_, h0, _⟩ | ⟨g, c, cur, rfl, h1, h2, h3, h4, h5⟩
  · omega
  · have hsz : cur.size = c := by omega
    have ht : cur.toList.take l.length = l.map B8 := by rw [Nat.mul_one] at h4; exact h4
    refine ⟨g, c, rfl, h1, h2, ?_, frozenAt h5.get.1 j, ?_⟩
    · rw [cellAt h5.get.1 j, ← Array.getElem?_toList]
      have : (cur.toList.take l.length)[j]? = (l.map B8)[j]? := by rw [ht]
      rw [List.getElem?_take, if_pos hj] at this
      rw [this]
      simp [List.getD, List.getElem?_eq_getElem hj]
    · have := RowC.of_blk (sz := 1) (h5.store (i := j) (.int .u8 b.toNat)) (l.set j b).length ((l.set j b).map B8) (by simp) (by simpa using h1) h2 (by simpa using h3) (by
        rw [Nat.mul_one, List.length_set, Array.toList_setIfInBounds, List.take_set, ht, List.map_set]
        rfl)
      unfold Row
      rw [List.length_set] at this ⊢
      exact this
end Go.Proofs.YtonipcfnhmnnlaaGreatDoor.Hg
namespace Go.Proofs.YtonipcfnhmnnlaaGreatDoor.Hg
open Go Go.RowKit
set_option linter.unusedVariables false
theorem op_make_bytes {P : Program} {o : Oper} {a : Act} {K : Act → World → Prop} {Q : Exit → Act → World → Prop} {T : TypeId} {x y : Operand} (ho : o.op = .makeSlice T x y) (hT : P.underlying T = some (.slice 5))
    (hi : (P.info? 5).map (fun i => (i.zero, i.size, i.bytes)) = some (some (.int .u8 0), 1, 1)) {k k' : IntKind} {n c : Nat} {cz : Int} (hx : a.eval x = .int k n) (hy : a.eval y = .int k' cz) (hcz : cz = c) (hnc : n ≤ c) (hc : c ≤ 281474976710656)
    {w0 w : World} {R : List Asn} (H : sat w0 w R) (hk : ∀ g w', sat w0 w' (Row (.slice (some ⟨g, 0, none⟩) n c) (List.replicate n 0) :: R) → K (a.put o.dst (.slice (some ⟨g, 0, none⟩) n c)) w') : o.wp P a w K Q := by
  obtain ⟨i, hi1, hz1, hz2, hz3⟩ := info_parts hi
  subst hcz
  have hrun := run_make (P := P) w T 5 i (.int .u8 0) hT hi1 hz1 k k' n c (by omega) (by omega) (by rw [hz3]; omega) (by omega)
  unfold Oper.wp execOp
  simp only [ho, hx, hy, Sem.run_bind, hrun, Result.andThen_ok, Sem.run_pure]
  simp only [Int.toNat_natCast]
  refine hk _ _ ?_
  have hm : madeCells (Value.int .u8 0).cells (c * i.size) = (List.replicate c (Value.int .u8 0)).toArray := by
    rw [hz2, Nat.mul_one]
    apply Array.ext
    · simp [madeCells]
    · intro j h1 h2
      simp [madeCells, Value.cells, Nat.mod_one]
  rw [hm]
  have := RowC.of_blk (sz := 1) (H.alloc (.cells (List.replicate c (Value.int .u8 0)).toArray 5)) (cap := c) n ((List.replicate n (0 : UInt8)).map B8) (by simp) hnc (by unfold maxLen; omega) (by simp) (by
    rw [Nat.mul_one, List.take_replicate, List.map_replicate, Nat.min_eq_left hnc]
    rfl)
  unfold Row
  rw [List.length_replicate]
  exact this
theorem op_copy_bytes {P : Program} {o : Oper} {a : Act} {K : Act → World → Prop} {Q : Exit → Act → World → Prop} {d x : Operand} {T : TypeId} (ho : o.op = .call { callee := .builtin .copy, args := #[d, x], argTypes := #[T, T] }) (hT : P.underlying T = some (.slice 5))
    (hi : (P.info? 5).map (fun i => (i.zero, i.size, i.bytes)) = some (some (.int .u8 0), 1, 1)) {v y : Value} (hd : a.eval d = v) (hx : a.eval x = y)
    {w0 w : World} {R : List Asn} {l m : List UInt8} (H : sat w0 w (Row v l :: R)) (hr : Reads w y m) (hlm : l.length = m.length)
    (hk : ∀ w', sat w0 w' (Row v m :: R) → K (a.put o.dst (goInt m.length)) w') : o.wp P a w K Q := by
  obtain ⟨i, hi1, hz1, hz2, hz3⟩ := info_parts hi
  have hs : (P.info? 5).map (·.size) = some 1 := by rw [hi1]; simp [hz2]
  have hrun : ∃ w', (Builtin.copy_ #[T, T] o.type #[v, y]).run P w = .ok (goInt m.length) w' ∧ sat w0 w' (Row v m :: R) := by
    obtain ⟨hl, hc⟩ := RowC.blk_of H
    rcases hr.2 with ⟨rfl, h0⟩ | ⟨ad, cap, rfl, h1, h2, h3⟩
    · obtain ⟨a', c', rfl, _, _⟩ := Row.form H
      have hm : m = [] := List.eq_nil_of_length_eq_zero h0
      subst hm
      have hl0 : l = [] := List.eq_nil_of_length_eq_zero hlm
      subst hl0
      exact ⟨w, run_copy_none w T T o.type 5 a' none 0 c' 0 0 hT hs rfl, H⟩
    · rcases hc with ⟨rfl, h0, _⟩ | ⟨g, c, cur, rfl, h1', h2', h3', h4', h5'⟩
      · have hl0 : l = [] := List.eq_nil_of_length_eq_zero h0
        subst hl0
        have hm : m = [] := List.eq_nil_of_length_eq_zero hlm.symm
        subst hm
        exact ⟨w, run_copy_none w T T o.type 5 none (some ad) 0 0 0 cap hT hs rfl, H⟩
      · have hr2 := run_copy_row (P := P) w T T o.type 5 g 0 l.length c ad m.length cap cur 5 (m.map B8) hT hs h5'.get.1 (by rw [List.length_map, hlm]; exact (Nat.min_self _).symm) h3 (by simp; omega) (B8_oneCell m)
        refine ⟨_, by rw [hr2, List.length_map], ?_⟩
        have hs2 := setRow_sat (new := (cur.toList.take 0 ++ m.map B8 ++ cur.toList.drop (0 + m.length)).toArray) h5'
        have := RowC.of_blk (sz := 1) hs2 (cap := c) m.length (m.map B8) (by simp) (by omega) h2' (by simp; omega) (by
          simp only [List.take_zero, List.nil_append, Nat.mul_one]
          rw [show m.length = (m.map B8).length by simp]
          exact List.take_left)
        rw [hlm]
        exact this
  obtain ⟨w', hr1, hr2⟩ := hrun
  unfold Oper.wp execOp
  simp only [ho, resolve, invoke, builtin, Sem.run_bind, Sem.run_pure, Result.andThen_ok, List.map_toArray, List.map_cons, List.map_nil, hd, hx, hr1]
  exact hk w' hr2
end Go.Proofs.YtonipcfnhmnnlaaGreatDoor.Hg
namespace Go.Proofs.YtonipcfnhmnnlaaGreatDoor.Hg
open Go Go.RowKit
set_option linter.unusedVariables false
variable {P : Program}
/-- A box. -/
theorem op_box {o : Oper} {a : Act} {K : Act → World → Prop} {Q : Exit → Act → World → Prop} {T : TypeId} {x : Operand} (ho : o.op = .box T x) {v : Value} (hv : a.eval x = v) {cs : Array Value} (hc : v.cells = cs)
    {w0 w : World} {R : List Asn} (H : sat w0 w R)
    (hk : ∀ g w', sat w0 w' (blk g (.cells cs T) :: R) → K (a.put o.dst (.pointer (some ⟨g, 0, none⟩))) w') : o.wp P a w K Q := by
  unfold Oper.wp execOp
  simp [ho, hv, Instr.box, newVar, newRow, hc]
  exact hk _ _ (H.alloc (.cells cs T))
/-- A variable of its zero value. -/
theorem op_alloc {o : Oper} {a : Act} {K : Act → World → Prop} {Q : Exit → Act → World → Prop} {T : TypeId} (ho : o.op = .alloc T) {z : Value} {cs : Array Value} (hz : (P.info? T).map (·.zero) = some (some z)) (hc : z.cells = cs)
    {w0 w : World} {R : List Asn} (H : sat w0 w R)
    (hk : ∀ g w', sat w0 w' (blk g (.cells cs T) :: R) → K (a.put o.dst (.pointer (some ⟨g, 0, none⟩))) w') : o.wp P a w K Q := by
  obtain ⟨inf, hinf, hz2⟩ : ∃ inf, P.info? T = some inf ∧ inf.zero = some z := by
    cases hp : P.info? T with
    | none => rw [hp] at hz; cases hz
    | some inf => rw [hp] at hz; exact ⟨inf, rfl, by simpa using hz⟩
  unfold Oper.wp execOp
  simp [ho, Instr.alloc, newVar, newRow, zeroValue, typeInfo, hinf, hz2, hc]
  exact hk _ _ (H.alloc (.cells cs T))
end Go.Proofs.YtonipcfnhmnnlaaGreatDoor.Hg
namespace Go.Proofs.YtonipcfnhmnnlaaGreatDoor.Hg
open Go Go.RowKit
set_option linter.unusedVariables false
set_option linter.unusedSimpArgs false
/-- A block of bytes. -/
def Bys (g : Nat) (B : List UInt8) : Asn := blk g (.cells (B.map B8).toArray 5)
/-- Bytes laid over others. -/
def over (B : List UInt8) (off : Nat) (m : List UInt8) : List UInt8 := B.take off ++ m ++ B.drop (off + m.length)
theorem over_length {B m : List UInt8} {off : Nat} (h : off + m.length ≤ B.length) : (over B off m).length = B.length := by
  simp only [over, List.length_append, List.length_take, List.length_drop]; omega
theorem over_getD {B m : List UInt8} {off : Nat} (h : off + m.length ≤ B.length) (i : Nat) : (over B off m).getD i 0 = if off ≤ i ∧ i < off + m.length then m.getD (i - off) 0 else B.getD i 0 := by
  simp only [over, List.getD_eq_getElem?_getD]
  have hl : (B.take off).length = off := by simp; omega
  by_cases h1 : i < off
  · rw [if_neg (by omega), List.append_assoc, List.getElem?_append_left (by omega), List.getElem?_take, if_pos h1]
  by_cases h2 : i < off + m.length
  · rw [if_pos ⟨by omega, h2⟩, List.append_assoc, List.getElem?_append_right (by omega), hl, List.getElem?_append_left (by omega)]
  · rw [if_neg (by omega), List.append_assoc, List.getElem?_append_right (by omega), hl, List.getElem?_append_right (by omega), List.getElem?_drop]
    congr 2
    omega
theorem Bys.reads {w0 w : World} {R : List Asn} {g : Nat} {B : List UInt8} (H : sat w0 w (Bys g B :: R)) {off n c : Nat} (h1 : off + n ≤ B.length) (h2 : n ≤ c) (h3 : c ≤ maxLen) : Reads w (.slice (some ⟨g, off, none⟩) n c) ((B.drop off).take n) := by
  have hl : ((B.drop off).take n).length = n := by simp; omega
  have := Reads.of_cells (w := w) (ad := ⟨g, off, none⟩) (l := (B.drop off).take n) (cap := c) (by omega) h3 (fun i hi => by
    rw [addAt, cellAt H.get.1]
    rw [hl] at hi
    have : (B.drop off).length = B.length - off := by simp
    simp [List.getD_eq_getElem?_getD, List.getElem?_take, hi, List.getElem?_eq_getElem (show off + i < B.length by omega)])
  rwa [hl] at this
theorem op_copy_at {P : Program} {o : Oper} {a : Act} {K : Act → World → Prop} {Q : Exit → Act → World → Prop} {d x : Operand} {T : TypeId} (ho : o.op = .call { callee := .builtin .copy, args := #[d, x], argTypes := #[T, T] }) (hT : P.underlying T = some (.slice 5))
    (hi : (P.info? 5).map (fun i => (i.zero, i.size, i.bytes)) = some (some (.int .u8 0), 1, 1)) {g off n1 c1 : Nat} {y : Value} (hd : a.eval d = .slice (some ⟨g, off, none⟩) n1 c1) (hx : a.eval x = y)
    {w0 w : World} {R : List Asn} {B m : List UInt8} (H : sat w0 w (Bys g B :: R)) (hr : Reads w y m) {k : Nat} (hkm : k = min m.length n1) (hfit : off + k ≤ B.length)
    (hk : ∀ w', sat w0 w' (Bys g (over B off (m.take k)) :: R) → K (a.put o.dst (goInt k)) w') : o.wp P a w K Q := by
  obtain ⟨i, hi1, hz1, hz2, hz3⟩ := info_parts hi
  have hs : (P.info? 5).map (·.size) = some 1 := by rw [hi1]; simp [hz2]
  have hrun : ∃ w', (Builtin.copy_ #[T, T] o.type #[.slice (some ⟨g, off, none⟩) n1 c1, y]).run P w = .ok (goInt k) w' ∧ sat w0 w' (Bys g (over B off (m.take k)) :: R) := by
    rcases hr.2 with ⟨rfl, h0⟩ | ⟨ad, cap, rfl, h1, h2, h3⟩
    · have hm : m = [] := List.eq_nil_of_length_eq_zero h0
      subst hm
      obtain rfl : k = 0 := by simpa using hkm
      refine ⟨w, run_copy_none w T T o.type 5 _ none n1 c1 0 0 hT hs (by simp [Nat.min_def]), ?_⟩
      have : over B off (List.take 0 []) = B := by simp [over]
      rw [this]; exact H
    · have hlk : ((m.take k).map B8).length = k := by simp; omega
      have hr2 := run_copy_row (P := P) w T T o.type 5 g off n1 c1 ad m.length cap (B.map B8).toArray 5 ((m.take k).map B8) hT hs H.get.1 (by rw [hlk, hkm]) (fun j v hj => h3 j v (by
        rw [List.map_take, List.getElem?_take] at hj
        split at hj
        · exact hj
        · cases hj)) (by rw [hlk]; simpa using hfit) (B8_oneCell _)
      refine ⟨_, by rw [hr2, hlk], ?_⟩
      have hs2 := setRow_sat (new := ((B.map B8).toArray.toList.take off ++ (m.take k).map B8 ++ (B.map B8).toArray.toList.drop (off + ((m.take k).map B8).length)).toArray) H
      have e : ((B.map B8).toArray.toList.take off ++ (m.take k).map B8 ++ (B.map B8).toArray.toList.drop (off + ((m.take k).map B8).length)) = (over B off (m.take k)).map B8 := by
        simp [over, List.map_append, List.map_take, List.map_drop]
      rw [e] at hs2
      rw [hlk] at e
      rw [e]
      exact hs2
  obtain ⟨w', hr1, hr2⟩ := hrun
  unfold Oper.wp execOp
  simp only [ho, resolve, invoke, builtin, Sem.run_bind, Sem.run_pure, Result.andThen_ok, List.map_toArray, List.map_cons, List.map_nil, hd, hx, hr1]
  exact hk w' hr2
/-- A row that makes a block of bytes: as such. -/
theorem Row.bys {w0 w : World} {R : List Asn} {g n : Nat} {l : List UInt8} (h : sat w0 w (Row (.slice (some ⟨g, 0, none⟩) n n) l :: R)) (hn : l.length = n) : sat w0 w (Bys g l :: R) := by
  subst hn
  obtain ⟨h1, h2⟩ := RowC.blk_of h
  rcases h2 with ⟨h3, _⟩ | ⟨g', c, cur, h3, h4, h5, h6, h7, h8⟩
  · cases h3
  · injection h3 with e1 e2 e3
    injection e1 with e1
    injection e1 with e1
    subst e1 e3
    have : cur = (l.map B8).toArray := by
      apply Array.ext'
      rw [← h7, List.take_of_length_le (by rw [Array.length_toList, h6]; exact Nat.le_refl _)]
    rw [this] at h8
    exact h8
theorem Bys.row {w0 w : World} {R : List Asn} {g n : Nat} {l : List UInt8} (h : sat w0 w (Bys g l :: R)) (hn : l.length = n) (hc : n ≤ maxLen) : sat w0 w (Row (.slice (some ⟨g, 0, none⟩) n n) l :: R) := by
  subst hn
  exact RowC.of_blk (sz := 1) h (cap := l.length) l.length (l.map B8) (by simp) (Nat.le_refl _) hc (by simp) (by rw [Nat.mul_one]; exact List.take_of_length_le (by simp))
end Go.Proofs.YtonipcfnhmnnlaaGreatDoor.Hg
namespace Go.Proofs.YtonipcfnhmnnlaaGreatDoor.Hg
open Go Go.RowKit
set_option linter.unusedVariables false
set_option linter.unusedSimpArgs false
theorem foldl_set_at : ∀ (xs : List Value) (k : Nat) (A : Array Value), A.size = k + xs.length →
    ((xs.zipIdx k).foldl (fun (cs : Array Value) (p : Value × Nat) => cs.setIfInBounds p.2 p.1) A).toList = A.toList.take k ++ xs
  | [], k, A, h => by
    simp at h
    simp [List.take_of_length_le, h]
  | x :: xs, k, A, h => by
    simp only [List.length_cons] at h
    rw [List.zipIdx_cons, List.foldl_cons, foldl_set_at xs (k + 1) _ (by simp; omega)]
    simp only [Array.toList_setIfInBounds]
    have hk : k < A.toList.length := by simp; omega
    rw [List.take_add_one, List.getElem?_set_self hk, List.take_set_of_le (Nat.le_refl _)]
    simp
theorem foldl_set (xs : List Value) (A : Array Value) (h : A.size = xs.length) : xs.zipIdx.foldl (fun (cs : Array Value) (p : Value × Nat) => cs.setIfInBounds p.2 p.1) A = xs.toArray := by
  apply Array.ext'
  rw [foldl_set_at xs 0 A (by omega)]
  simp
/-- []T{x}. -/
theorem op_build1 {P : Program} {o : Oper} {a : Act} {K : Act → World → Prop} {Q : Exit → Act → World → Prop} {T e : TypeId} {x : Operand} (ho : o.op = .buildSlice T 1 #[(0, x)]) (hT : P.underlying T = some (.slice e)) {z : Value} {sz bytes : Nat}
    (hi : (P.info? e).map (fun i => (i.zero, i.size, i.bytes)) = some (some z, sz, bytes)) {v : Value} (hx : a.eval x = v) {xs : List Value} (hv : v.cells = xs.toArray) (hl : xs.length = sz) (hs : 0 < sz ∧ sz ≤ 1000) {w0 w : World} {R : List Asn} (H : sat w0 w R)
    (hk : ∀ g w', sat w0 w' (RowC e sz (.slice (some ⟨g, 0, none⟩) 1 1) 1 xs :: R) → K (a.put o.dst (.slice (some ⟨g, 0, none⟩) 1 1)) w') : o.wp P a w K Q := by
  obtain ⟨i, hi1, hz1, hz2, hz3⟩ := info_parts hi
  unfold Oper.wp execOp
  have h1 : ¬ 16777216 < i.size := by omega
  have h2 : ¬ i.size = 0 := by omega
  have h3 : ¬ (¬xs.length = i.size ∨ i.size < xs.length) := by omega
  simp only [ho, Instr.buildSlice, run_underlying hT, sizeOf, typeInfo, hi1, hx, zeroValue, hz1, Sem.run_bind, run_program, Result.andThen_ok, Sem.run_pure, Nat.one_mul, Sem.run_ite, h2, if_false]
  simp [Instr.fill, newRow, hx, hv, h1, h3]
  rw [foldl_set xs _ (by simp; omega)]
  exact hk _ _ (RowC.of_blk (H.alloc _) 1 xs (by omega) (Nat.le_refl _) (by decide) (by simp; omega) (by rw [List.take_of_length_le (by simp; omega)]))
end Go.Proofs.YtonipcfnhmnnlaaGreatDoor.Hg
namespace Go.Proofs.YtonipcfnhmnnlaaGreatDoor.Hg
open Go Go.RowKit
set_option linter.unusedVariables false
set_option linter.unusedSimpArgs false
theorem star_up : ∀ {l : List Asn} {h h' : HP}, (∀ b o, h b = some o → h' b = some o) → star l h → star l h'
  | [], _, _, _, _ => trivial
  | A :: l, h, h', e, ⟨h1, h2, hd, e1, e2, a, b⟩ => ⟨h1, h2, hd, fun x o hx => e _ _ (e1 _ _ hx), fun x o hx => e _ _ (e2 _ _ hx), a, b⟩
theorem star_split : ∀ {l R : List Asn} {h : HP}, star (l ++ R) h → sep (star l) (star R) h
  | [], R, h, H => ⟨fun _ => none, h, fun _ => .inl rfl, (by intro x o hx; simp at hx), (by intro x o hx; exact hx), trivial, H⟩
  | A :: l, R, h, ⟨h1, h2, hd, e1, e2, a, b⟩ => by
    obtain ⟨h3, h4, hd', e3, e4, c, d⟩ := star_split b
    refine ⟨HP.or h1 h3, h4, fun x => ?_, fun x o hx => ?_, fun x o hx => e2 _ _ (e4 _ _ hx), ⟨h1, h3, fun x => ?_, fun x o hx => HP.or_inl hx, fun x o hx => HP.or_inr (fun y => ?_) hx, a, c⟩, d⟩
    · cases hx : h4 x with
      | none => exact .inr rfl
      | some o =>
        left
        have h1x : h1 x = none := (hd x).resolve_right (by rw [e4 _ _ hx]; simp)
        have h3x : h3 x = none := (hd' x).resolve_right (by rw [hx]; simp)
        simp [HP.or, h1x, h3x]
    · rcases HP.or_elim hx with hx | hx
      · exact e1 _ _ hx
      · exact e2 _ _ (e3 _ _ hx)
    · cases hx : h3 x with
      | none => exact .inr rfl
      | some o => exact .inl ((hd x).resolve_right (by rw [e3 _ _ hx]; simp))
    · cases hx : h3 y with
      | none => exact .inr rfl
      | some o => exact .inl ((hd y).resolve_right (by rw [e3 _ _ hx]; simp))
theorem star_join : ∀ {l R : List Asn} {h : HP}, sep (star l) (star R) h → star (l ++ R) h
  | [], R, h, ⟨h1, h2, hd, e1, e2, a, b⟩ => star_up e2 b
  | A :: l, R, h, ⟨h1, h2, hd, e1, e2, ⟨h3, h4, hd', e3, e4, a, b⟩, c⟩ => by
    refine ⟨h3, HP.or h4 h2, fun x => ?_, fun x o hx => e1 _ _ (e3 _ _ hx), fun x o hx => ?_, a, star_join ⟨h4, h2, fun x => ?_, fun x o hx => HP.or_inl hx, fun x o hx => HP.or_inr (fun y => ?_) hx, b, c⟩⟩
    · cases hx : h3 x with
      | none => exact .inl rfl
      | some o =>
        right
        have h2x : h2 x = none := (hd x).resolve_left (by rw [e3 _ _ hx]; simp)
        have h4x : h4 x = none := (hd' x).resolve_left (by rw [hx]; simp)
        simp [HP.or, h2x, h4x]
    · rcases HP.or_elim hx with hx | hx
      · exact e1 _ _ (e4 _ _ hx)
      · exact e2 _ _ hx
    · cases hx : h4 x with
      | none => exact .inl rfl
      | some o => exact .inr ((hd x).resolve_left (by rw [e4 _ _ hx]; simp))
    · cases hx : h4 y with
      | none => exact .inl rfl
      | some o => exact .inr ((hd y).resolve_left (by rw [e4 _ _ hx]; simp))
/-- Many as one; one that leaves something open. -/
def many (l : List Asn) : Asn := fun h => star l h
def ex {ι : Type} (P : ι → Asn) : Asn := fun h => ∃ i, P i h
def fact (p : Prop) (l : List Asn) : Asn := fun h => p ∧ star l h
section
variable {w0 w : World} {R l : List Asn}
theorem sat.many (h : sat w0 w (l ++ R)) : sat w0 w (Hg.many l :: R) := let ⟨hb, x, hx, hs⟩ := h; ⟨hb, x, hx, star_split hs⟩
theorem sat.open_many (h : sat w0 w (Hg.many l :: R)) : sat w0 w (l ++ R) := let ⟨hb, x, hx, hs⟩ := h; ⟨hb, x, hx, star_join hs⟩
theorem sat.ex {ι : Type} {P : ι → Asn} (i : ι) (h : sat w0 w (P i :: R)) : sat w0 w (Hg.ex P :: R) := h.mono fun _ hh => ⟨i, hh⟩
theorem sat.open_ex {ι : Type} {P : ι → Asn} (h : sat w0 w (Hg.ex P :: R)) : ∃ i, sat w0 w (P i :: R) := by
  obtain ⟨hb, x, hx, h1, h2, hd, e1, e2, ⟨i, a⟩, b⟩ := h
  exact ⟨i, hb, x, hx, h1, h2, hd, e1, e2, a, b⟩
theorem sat.fact {p : Prop} (hp : p) (h : sat w0 w (l ++ R)) : sat w0 w (Hg.fact p l :: R) := h.many.mono fun _ hh => ⟨hp, hh⟩
theorem sat.open_fact {p : Prop} (h : sat w0 w (Hg.fact p l :: R)) : p ∧ sat w0 w (l ++ R) := by
  have h' := h
  obtain ⟨hb, x, hx, h1, h2, hd, e1, e2, ⟨hp, a⟩, b⟩ := h'
  exact ⟨hp, (h.mono (B := Hg.many l) fun _ hh => hh.2).open_many⟩
end
end Go.Proofs.YtonipcfnhmnnlaaGreatDoor.Hg
namespace Go.Proofs.YtonipcfnhmnnlaaGreatDoor.Hg
open Go Go.RowKit
set_option linter.unusedVariables false
set_option linter.unusedSimpArgs false
/-- Bytes that were made of a string. -/
def BB (v : Value) (l : List UInt8) : Asn := ex fun x : Nat × Nat × Array Value => fact (v = .slice (some ⟨x.1, 0, none⟩) l.length x.2.1 ∧ x.2.2.size = x.2.1 ∧ l.length ≤ x.2.1 ∧ x.2.1 ≤ maxLen ∧ x.2.2.toList.take l.length = l.map B8) [blk x.1 (.cells x.2.2 5 (x.2.2.size, x.2.2.size + 1))]
theorem BB.open {w0 w : World} {R : List Asn} {v : Value} {l : List UInt8} (h : sat w0 w (BB v l :: R)) : ∃ (g cap : Nat) (cur : Array Value), v = .slice (some ⟨g, 0, none⟩) l.length cap ∧ cur.size = cap ∧ l.length ≤ cap ∧ cap ≤ maxLen ∧ cur.toList.take l.length = l.map B8 ∧
    sat w0 w (blk g (.cells cur 5 (cur.size, cur.size + 1)) :: R) := by
  obtain ⟨⟨g, cap, cur⟩, h⟩ := h.open_ex
  obtain ⟨⟨h1, h2, h3, h4, h5⟩, h6⟩ := h.open_fact
  exact ⟨g, cap, cur, h1, h2, h3, h4, h5, h6⟩
theorem BB.close {w0 w : World} {R : List Asn} {l : List UInt8} {g cap : Nat} {cur : Array Value} (h2 : cur.size = cap) (h3 : l.length ≤ cap) (h4 : cap ≤ maxLen) (h5 : cur.toList.take l.length = l.map B8)
    (h : sat w0 w (blk g (.cells cur 5 (cur.size, cur.size + 1)) :: R)) : sat w0 w (BB (.slice (some ⟨g, 0, none⟩) l.length cap) l :: R) :=
  sat.ex (P := fun x : Nat × Nat × Array Value => fact ((Value.slice (some ⟨g, 0, none⟩) l.length cap) = .slice (some ⟨x.1, 0, none⟩) l.length x.2.1 ∧ x.2.2.size = x.2.1 ∧ l.length ≤ x.2.1 ∧ x.2.1 ≤ maxLen ∧ x.2.2.toList.take l.length = l.map B8) [blk x.1 (.cells x.2.2 5 (x.2.2.size, x.2.2.size + 1))]) (g, cap, cur)
    (sat.fact ⟨rfl, h2, h3, h4, h5⟩ h)
theorem take_get {cur : Array Value} {l : List UInt8} (h : cur.toList.take l.length = l.map B8) {i : Nat} (hi : i < l.length) : cur[i]? = some (B8 (l.getD i 0)) := by
  rw [← Array.getElem?_toList]
  have : (cur.toList.take l.length)[i]? = (l.map B8)[i]? := by rw [h]
  rw [List.getElem?_take, if_pos hi] at this
  rw [this]
  simp [List.getD, List.getElem?_eq_getElem hi]
theorem BB.reads {w0 w : World} {R : List Asn} {v : Value} {l : List UInt8} (h : sat w0 w (BB v l :: R)) : Reads w v l := by
  obtain ⟨g, cap, cur, rfl, h2, h3, h4, h5, h6⟩ := BB.open h
  refine Reads.of_cells h3 h4 fun i hi => ?_
  rw [addAt, Nat.zero_add, cellAt h6.get.1]
  exact take_get h5 hi
theorem BB.rd {w0 : World} {R : List Asn} {v : Value} {l : List UInt8} : Rd w0 (BB v l :: R) v l := fun _ h => BB.reads h
theorem BB.set {w0 w : World} {R : List Asn} {g n c : Nat} {l : List UInt8} (h : sat w0 w (BB (.slice (some ⟨g, 0, none⟩) n c) l :: R)) {j : Nat} (hj : j < l.length) (b : UInt8) {z : Int} (hz : z = b.toNat) :
    w.cell? ⟨g, j, none⟩ = some (B8 (l.getD j 0)) ∧ w.frozen? ⟨g, j, none⟩ = false ∧ sat w0 (w.setCell ⟨g, j, none⟩ (.int .u8 z)) (BB (.slice (some ⟨g, 0, none⟩) n c) (l.set j b) :: R) := by
  subst hz
  obtain ⟨g', cap, cur, hv, h2, h3, h4, h5, h6⟩ := BB.open h
  injection hv with e1 e2 e3
  injection e1 with e1
  injection e1 with e1
  subst e1 e2 e3
  refine ⟨?_, ?_, ?_⟩
  · rw [cellAt h6.get.1]; exact take_get h5 hj
  · simp [World.frozen?, h6.get.1]
    omega
  · have := h6.store (i := j) (.int .u8 b.toNat)
    have hs : (cur.setIfInBounds j (Value.int .u8 b.toNat)).size = cur.size := by simp
    rw [show (cur.size, cur.size + 1) = ((cur.setIfInBounds j (Value.int .u8 b.toNat)).size, (cur.setIfInBounds j (Value.int .u8 b.toNat)).size + 1) by rw [hs]] at this
    have h7 := BB.close (l := l.set j b) (by rw [hs]; exact h2) (by rw [List.length_set]; exact h3) h4 (by
      rw [List.length_set, Array.toList_setIfInBounds, List.take_set, h5, List.map_set]
      rfl) this
    rw [List.length_set] at h7
    exact h7
/-- []byte(s). -/
theorem op_str_bytes {P : Program} {o : Oper} {a : Act} {K : Act → World → Prop} {Q : Exit → Act → World → Prop} {x : Operand} {src dst : TypeId} (ho : o.op = .convert src dst x) (hs : P.underlying src = some .string) (hd : P.underlying dst = some (.slice 5)) (he : P.underlying 5 = some (.int .u8))
    {s : ByteArray} (hx : a.eval x = .string s) (hl : s.size ≤ maxLen) {w0 w : World} {R : List Asn} (H : sat w0 w R)
    (hk : ∀ g c w', sat w0 w' (BB (.slice (some ⟨g, 0, none⟩) s.size c) s.data.toList :: R) → K (a.put o.dst (.slice (some ⟨g, 0, none⟩) s.size c)) w') : o.wp P a w K Q := by
  unfold Oper.wp execOp
  simp only [ho, hx, Sem.run_bind, run_bytes_of_string w src dst 5 s hs hd he, Result.andThen_ok]
  refine hk _ _ _ ?_
  have hsz : s.data.toList.length = s.size := Array.length_toList
  have hg := grownCap_ge w s.size 0 5
  have hb : (bytesRow s (grownCap w s.size 0 5)).size = grownCap w s.size 0 5 := by
    simp [bytesRow]
    have : s.data.size = s.size := rfl
    omega
  have h := BB.close (l := s.data.toList) hb (by rw [hsz]; exact hg) (grownCap_le_maxLen w s.size 0 5 hl) (by
    simp only [bytesRow, Array.toList_append, Array.toList_map, hsz]
    rw [show s.size = (List.map (fun b => Value.int .u8 b.toNat) s.data.toList).length by rw [List.length_map, hsz]]
    exact List.take_left) (H.drew.alloc (.cells (bytesRow s (grownCap w s.size 0 5)) 5 ((bytesRow s (grownCap w s.size 0 5)).size, (bytesRow s (grownCap w s.size 0 5)).size + 1)))
  rw [hsz] at h
  exact h
end Go.Proofs.YtonipcfnhmnnlaaGreatDoor.Hg
