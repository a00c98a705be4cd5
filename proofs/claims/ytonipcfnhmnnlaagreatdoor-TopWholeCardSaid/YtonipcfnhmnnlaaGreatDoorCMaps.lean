/- Maps in new memory: looked up, written, struck; told as lists of pairs. No condition. -/
import Derived.Test.YtonipcfnhmnnlaaGreatDoorMOps
import Derived.MapKept
import Derived.Laws.StructEq
import Derived.Laws.IdiomMaps
namespace Go.Proofs.YtonipcfnhmnnlaaGreatDoor.Hg
open Go Go.RowKit
set_option linter.unusedVariables false
set_option linter.unusedSimpArgs false
section
variable {α : Type} [DecidableEq α]
/-- Where a key stands first, and what it leads to. -/
def findA (a : α) : List (α × Value) → Nat → Option (Nat × Value)
  | [], _ => none
  | p :: l, i => if a = p.1 then some (i, p.2) else findA a l (i + 1)
def getA (a : α) (l : List (α × Value)) : Option Value := (findA a l 0).map (·.2)
def putA (a : α) (v : Value) (l : List (α × Value)) : List (α × Value) := match findA a l 0 with
  | some (i, _) => l.set i (a, v)
  | none => l ++ [(a, v)]
def delA (a : α) (l : List (α × Value)) : List (α × Value) := match findA a l 0 with
  | some (i, _) => l.eraseIdx i
  | none => l
theorem findA_shift (a : α) : ∀ (l : List (α × Value)) (i : Nat), findA a l i = (findA a l 0).map fun p => (i + p.1, p.2)
  | [], i => rfl
  | p :: l, i => by
    unfold findA
    split
    · rfl
    · rw [findA_shift a l (i + 1), findA_shift a l 1]
      cases findA a l 0 with
      | none => rfl
      | some q => simp; omega
theorem findA_at (a : α) : ∀ (l : List (α × Value)) {i : Nat} {v : Value}, findA a l 0 = some (i, v) → l[i]? = some (a, v)
  | p :: l, i, v, h => by
    unfold findA at h
    split at h
    · rename_i he
      simp at h
      obtain ⟨rfl, rfl⟩ := h
      simp [he]
    · rw [findA_shift] at h
      cases hq : findA a l 0 with
      | none => rw [hq] at h; cases h
      | some q =>
        rw [hq] at h
        simp at h
        obtain ⟨rfl, rfl⟩ := h
        have := findA_at a l hq
        rw [Nat.add_comm]
        simpa using this
  | [], i, v, h => by cases h
end
/-- What tells two keys apart. -/
structure KeyLw (P : Program) (K : TypeId) {α : Type} [DecidableEq α] (enc : α → Value) : Prop where
  check : ∀ (b : Bool) (a : α) (w : World), (Instr.checkKey b 10000 K (enc a)).run P w = .ok () w
  find : ∀ (a : α) (es : List MapEntry) (l : List (α × Value)) (w : World), es.map (fun e => (e.key, e.val)) = l.map (fun p => (enc p.1, p.2)) → (Instr.findKey K (enc a) es).run P w = .ok (findA a l 0) w
  bits : ∀ a : α, Instr.sameBits 10000 (enc a) (enc a) = true
section
variable {P : Program} {K : TypeId} {α : Type} [DecidableEq α] {enc : α → Value}
theorem findNow_enc {d : TypeDesc} (h : ∀ a b, Instr.sameNow d (enc a) (enc b) = some (decide (a = b))) (a : α) : ∀ (es : List MapEntry) (l : List (α × Value)) (i : Nat), es.map (fun e => (e.key, e.val)) = l.map (fun p => (enc p.1, p.2)) →
    Instr.findNow d (enc a) es i = some (findA a l i)
  | [], [], i, _ => rfl
  | e :: es, p :: l, i, he => by
    simp only [List.map_cons, List.cons.injEq, Prod.mk.injEq] at he
    obtain ⟨⟨h1, h2⟩, h3⟩ := he
    simp only [Instr.findNow, h1, h, findA]
    by_cases hp : a = p.1
    · simp [hp, h2]
    · simp [hp, findNow_enc h a es l (i + 1) h3]
  | [], p :: l, i, he => by simp at he
  | e :: es, [], i, he => by simp at he
theorem findAsk_enc (h : ∀ a b w, (Op.equal K (enc a) (enc b)).run P w = .ok (decide (a = b)) w) (a : α) (w : World) : ∀ (es : List MapEntry) (l : List (α × Value)) (i : Nat), es.map (fun e => (e.key, e.val)) = l.map (fun p => (enc p.1, p.2)) →
    (Instr.findAsking K (enc a) es i).run P w = .ok (findA a l i) w
  | [], [], i, _ => rfl
  | e :: es, p :: l, i, he => by
    simp only [List.map_cons, List.cons.injEq, Prod.mk.injEq] at he
    obtain ⟨⟨h1, h2⟩, h3⟩ := he
    simp only [Instr.findAsking, h1, Sem.run_bind, h, Result.andThen_ok, findA]
    by_cases hp : a = p.1
    · simp [hp, h2]
    · simp [hp, findAsk_enc h a w es l (i + 1) h3]
  | [], p :: l, i, he => by simp at he
  | e :: es, [], i, he => by simp at he
/-- Strings as keys. -/
theorem strKey (hK : P.underlying K = some .string) : KeyLw P K Value.string where
  check b a w := MapKept.run_checkKey hK (by simp [MapKept.IsKey]) b 9999
  find a es l w he := MapKept.run_findKey hK (findNow_enc (fun a b => by
    simp only [Instr.sameNow]
    congr 1
    rw [Bool.eq_iff_iff]
    simp [MapKept.bytes_beq]) a es l 0 he)
  bits a := MapKept.sameBits_self (d := .string) (by simp [MapKept.IsKey]) _
/-- A map in new memory. -/
def MapA (enc : α → Value) (m : Nat) (l : List (α × Value)) : Asn := fun h => ∃ (es : Array MapEntry) (clock : Nat), h m = some (.map es clock) ∧ es.toList.map (fun e => (e.key, e.val)) = l.map (fun p => (enc p.1, p.2))
variable {w0 w : World} {R : List Asn} {m : Nat} {l : List (α × Value)}
theorem MapA.blk_of (h : sat w0 w (MapA enc m l :: R)) : ∃ (es : Array MapEntry) (clock : Nat), w.heap[m]? = some (.map es clock) ∧ es.toList.map (fun e => (e.key, e.val)) = l.map (fun p => (enc p.1, p.2)) ∧ sat w0 w (blk m (.map es clock) :: R) := by
  have _i := (inferInstance : DecidableEq α)
  obtain ⟨hb, x, hx, h1, h2, hd, e1, e2, ⟨es, clock, a1, a2⟩, b⟩ := h
  exact ⟨es, clock, (hx _ _ (e1 _ _ a1)).2, a2, hb, x, hx, h1, h2, hd, e1, e2, a1, b⟩
theorem MapA.of_blk {es : Array MapEntry} {clock : Nat} (h : sat w0 w (blk m (.map es clock) :: R)) (he : es.toList.map (fun e => (e.key, e.val)) = l.map (fun p => (enc p.1, p.2))) : sat w0 w (MapA enc m l :: R) :=
  have _i := (inferInstance : DecidableEq α)
  h.mono fun _ hg => ⟨es, clock, hg, he⟩
theorem MapA.new (h : sat w0 w (blk m (.map #[] 0) :: R)) : sat w0 w (MapA enc m ([] : List (α × Value)) :: R) := MapA.of_blk h rfl
theorem set_sat {o o' : Obj} (h : sat w0 w (blk m o :: R)) : sat w0 { w with heap := w.heap.setIfInBounds m o' } (blk m o' :: R) :=
  h.put rfl rfl rfl (by simp) (MapKept.heap_set h.get.1).1 fun b _ hne => (MapKept.heap_set h.get.1).2 b hne
/-- m[k]. -/
theorem MapA.lookup (L : KeyLw P K enc) {T E : TypeId} (hT : P.underlying T = some (.map K E)) {z : Value} (hz : (P.info? E).map (·.zero) = some (some z)) (h : sat w0 w (MapA enc m l :: R)) (a : α) (ok : Bool) :
    (Instr.lookup T (.map (some m)) (enc a) ok).run P w = .ok (if ok then .tuple #[(getA a l).getD z, .bool (getA a l).isSome] else (getA a l).getD z) w := by
  obtain ⟨es, clock, hb, he, _⟩ := MapA.blk_of h
  obtain ⟨i, hi, hzi⟩ : ∃ i, P.info? E = some i ∧ i.zero = some z := by
    cases hp : P.info? E with
    | none => rw [hp] at hz; cases hz
    | some i => rw [hp] at hz; exact ⟨i, rfl, by simpa using hz⟩
  have hf := L.find a es.toList l w he
  unfold Instr.lookup
  simp only [Sem.run_bind, run_underlying hT, Result.andThen_ok, MapKept.run_getObj_map hb, Sem.run_pure, L.check, hf]
  unfold getA
  cases hq : findA a l 0 with
  | none =>
    simp only [Sem.run_bind, zeroValue, typeInfo, run_program, hi, Result.andThen_ok, Sem.run_pure, hzi, Option.map_none, Option.getD_none, Option.isSome_none]
  | some q =>
    cases ok <;> rfl
/-- m[k] = v. -/
theorem MapA.update (L : KeyLw P K enc) {T E : TypeId} (hT : P.underlying T = some (.map K E)) (h : sat w0 w (MapA enc m l :: R)) (a : α) (v : Value) :
    ∃ w', (Instr.mapUpdate T (.map (some m)) (enc a) v).run P w = .ok () w' ∧ sat w0 w' (MapA enc m (putA a v l) :: R) := by
  obtain ⟨es, clock, hb, he, hs⟩ := MapA.blk_of h
  have hf := L.find a es.toList l w he
  unfold putA
  cases hq : findA a l 0 with
  | none =>
    rw [hq] at hf
    refine ⟨{ w with heap := w.heap.setIfInBounds m (.map (es.push { key := enc a, val := v, born := clock }) (clock + 1)) }, ?_, MapA.of_blk (set_sat hs) ?_⟩
    · simp [Instr.mapUpdate, run_underlying hT, MapKept.run_getObj_map hb, L.check, hf, MapKept.run_setObj_map _ hb, Result.andThen]
    · simp [he]
  | some q =>
    obtain ⟨i, u⟩ := q
    rw [hq] at hf
    have hi := findA_at a l hq
    have hil : i < l.length := by
      rcases Nat.lt_or_ge i l.length with h | h
      · exact h
      · rw [List.getElem?_eq_none h] at hi; cases hi
    have hlen : es.toList.length = l.length := by simpa using congrArg List.length he
    have hie : i < es.size := by rw [← Array.length_toList]; omega
    have hkey : es[i].key = enc a ∧ es[i].val = u := by
      have := congrArg (fun x => x[i]?) he
      simp only [List.getElem?_map, hi, Option.map_some, Array.getElem?_toList, Array.getElem?_eq_getElem hie, Option.some.injEq, Prod.mk.injEq] at this
      exact this
    refine ⟨{ w with heap := w.heap.setIfInBounds m (.map (es.modify i fun e => { e with key := enc a, val := v }) clock) }, ?_, MapA.of_blk (set_sat hs) ?_⟩
    · have hk : (Instr.keyThatStays (enc a) (enc a)).run P w = .ok (enc a) w := by simp [Instr.keyThatStays, L.bits]
      simp [Instr.mapUpdate, run_underlying hT, MapKept.run_getObj_map hb, L.check, hf, hkey, hie, hk, MapKept.run_setObj_map _ hb, Result.andThen]
    · apply List.ext_getElem?
      intro j
      have hj := congrArg (fun x => x[j]?) he
      simp only [List.getElem?_map, Array.getElem?_toList] at hj
      simp only [List.getElem?_map, Array.getElem?_toList, Array.getElem?_modify, List.getElem?_set]
      by_cases hij : i = j
      · subst hij
        simp [hie, hil]
      · simp only [hij, if_false]
        exact hj
/-- delete. -/
theorem MapA.delete (L : KeyLw P K enc) {T E : TypeId} (hT : P.underlying T = some (.map K E)) (h : sat w0 w (MapA enc m l :: R)) (a : α) (ty : TypeId) (T2 : TypeId) :
    ∃ w', (Builtin.delete_ #[T, T2] ty #[.map (some m), enc a]).run P w = .ok (.tuple #[]) w' ∧ sat w0 w' (MapA enc m (delA a l) :: R) := by
  obtain ⟨es, clock, hb, he, hs⟩ := MapA.blk_of h
  have hf := L.find a es.toList l w he
  unfold delA
  cases hq : findA a l 0 with
  | none =>
    rw [hq] at hf
    refine ⟨{ w with heap := w.heap.setIfInBounds m (.map es clock) }, ?_, MapA.of_blk (set_sat hs) he⟩
    simp [Builtin.delete_, run_underlying hT, MapKept.run_getObj_map hb, L.check, hf, MapKept.run_setObj_map _ hb, Result.andThen]
  | some q =>
    obtain ⟨i, u⟩ := q
    rw [hq] at hf
    refine ⟨{ w with heap := w.heap.setIfInBounds m (.map (es.eraseIdxIfInBounds i) clock) }, ?_, MapA.of_blk (set_sat hs) ?_⟩
    · simp [Builtin.delete_, run_underlying hT, MapKept.run_getObj_map hb, L.check, hf, MapKept.run_setObj_map _ hb, Result.andThen]
    · have h1 : (es.eraseIdxIfInBounds i).toList = es.toList.eraseIdx i := by
        rw [Array.toList_eraseIdxIfInBounds]
      have h2 : ∀ {β γ : Type} (f : β → γ) (l : List β) (i : Nat), (l.eraseIdx i).map f = (l.map f).eraseIdx i := fun f l => by
        induction l with
        | nil => intro i; rfl
        | cons x l ih => intro i; cases i with
          | zero => rfl
          | succ i => simp [ih]
      rw [h1, h2, he, h2]
/-- len. -/
theorem MapA.len {T E : TypeId} (hT : P.underlying T = some (.map K E)) (h : sat w0 w (MapA enc m l :: R)) (ty : TypeId) :
    (Builtin.len_ #[T] ty #[.map (some m)]).run P w = .ok (goInt l.length) w := by
  obtain ⟨es, clock, hb, he, hs⟩ := MapA.blk_of h
  have hlen : es.size = l.length := by simpa using congrArg List.length he
  simp [Builtin.len_, run_underlying hT, MapKept.run_getObj_map hb, Result.andThen, hlen]
theorem op_mapUpdate {o : Oper} {a : Act} {Kk : Act → World → Prop} {Q : Exit → Act → World → Prop} (L : KeyLw P K enc) {T E : TypeId} {x y z : Operand} (ho : o.op = .mapUpdate T x y z) (hT : P.underlying T = some (.map K E)) {k : α} {v : Value}
    (hx : a.eval x = .map (some m)) (hy : a.eval y = enc k) (hz : a.eval z = v) (h : sat w0 w (MapA enc m l :: R)) (hk : ∀ w', sat w0 w' (MapA enc m (putA k v l) :: R) → Kk (a.put o.dst undef) w') : o.wp P a w Kk Q := by
  obtain ⟨w', h1, h2⟩ := MapA.update L hT h k v
  unfold Oper.wp execOp
  simp only [ho, hx, hy, hz, Sem.run_bind, h1, Result.andThen_ok, Sem.run_pure]
  exact hk w' h2
theorem op_delete {o : Oper} {a : Act} {Kk : Act → World → Prop} {Q : Exit → Act → World → Prop} (L : KeyLw P K enc) {T T2 E : TypeId} {x y : Operand} (ho : o.op = .call { callee := .builtin .delete, args := #[x, y], argTypes := #[T, T2] }) (hT : P.underlying T = some (.map K E)) {k : α}
    (hx : a.eval x = .map (some m)) (hy : a.eval y = enc k) (h : sat w0 w (MapA enc m l :: R)) (hk : ∀ w', sat w0 w' (MapA enc m (delA k l) :: R) → Kk (a.put o.dst (.tuple #[])) w') : o.wp P a w Kk Q := by
  obtain ⟨w', h1, h2⟩ := MapA.delete L hT h k o.type T2
  unfold Oper.wp execOp
  simp only [ho, resolve, invoke, builtin, Sem.run_bind, Sem.run_pure, Result.andThen_ok, List.map_toArray, List.map_cons, List.map_nil, hx, hy, h1]
  exact hk w' h2
end
end Go.Proofs.YtonipcfnhmnnlaaGreatDoor.Hg
