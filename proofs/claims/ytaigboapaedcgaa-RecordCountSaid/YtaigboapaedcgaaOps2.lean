/- More steps over rows: a call, one element of a row. No condition. -/
import Derived.Test.YtaigboapaedcgaaBase
import Derived.Conc.Own4
namespace Go.Proofs.Ytaigboapaedcgaa.Hg
open Go Go.RowKit
set_option linter.unusedVariables false
/-- A call of a function, by what is known of it. -/
theorem op_call {P : Program} {o : Oper} {a : Act} {K : Act → World → Prop} {Q : Exit → Act → World → Prop} {f : FuncId} {fn : Func} {xs : List Operand} {ats : Array TypeId} (ho : o.op = .call { callee := .value (.func f), args := xs.toArray, argTypes := ats })
    (hf : P.funcs[f]? = some fn) (hname : (fn.name == "runtime.NumGoroutine") = false) (hb : fn.body.isNone = false) {w : World} {vs : List Value} {R : Ending → World → Prop} (hc : Calls P f vs.toArray w R) (hv : xs.map a.eval = vs)
    (hk : ∀ e w', R e w' → ∃ v, e = .returned v ∧ K (a.put o.dst v) w') : o.wp P a w K Q := by
  unfold Oper.wp
  rw [Conc.run_call_body ho hf hname hb, Oper.upon_enter]
  have e : xs.toArray.map a.eval = vs.toArray := by simp [hv]
  rw [e]
  refine hc.mono fun e w' hr => ?_
  obtain ⟨v, rfl, hv⟩ := hk e w' hr
  exact hv
/-- One element of a row: there it lies, and may be written. -/
theorem Row.set {w0 w : World} {v : Value} {l : List UInt8} {R : List Asn} (h : sat w0 w (Row v l :: R)) {j : Nat} (hj : j < l.length) (b : UInt8) {n : Int} (hn : n = b.toNat) :
    ∃ g c, v = .slice (some ⟨g, 0, none⟩) l.length c ∧ l.length ≤ c ∧ c ≤ maxLen ∧ w.cell? ⟨g, j, none⟩ = some (B8 (l.getD j 0)) ∧ w.frozen? ⟨g, j, none⟩ = false ∧ sat w0 (w.setCell ⟨g, j, none⟩ (.int .u8 n)) (Row v (l.set j b) :: R) := by
  subst hn
  obtain ⟨hl, hc⟩ := RowC.blk_of h
  rcases hc with ⟨_, h0, _⟩ | ⟨g, c, cur, rfl, h1, h2, h3, h4, h5⟩
  · omega
  · have hsz : cur.size = c := by omega
    have ht : cur.toList.take l.length = l.map B8 := by rw [Nat.mul_one] at h4; exact h4
    refine ⟨g, c, rfl, h1, h2, ?_, frozenAt h5.get.1 j, ?_⟩
    · rw [cellAt h5.get.1 j, ← Array.getElem?_toList]
      have : (cur.toList.take l.length)[j]? = (l.map B8)[j]? := by rw [ht]
      rw [List.getElem?_take, if_pos hj] at this
      rw [this]
      simp [List.getD, List.getElem?_eq_getElem hj]
    · have := RowC.of_blk (sz := 1) (h5.store (i := j) (.int .u8 b.toNat)) (l.set j b).length ((l.set j b).map B8) (by simp) (by simpa using h1) h2 (by simpa using h3) (by
        rw [Nat.mul_one, List.length_set, Array.toList_setIfInBounds, List.take_set, ht, List.map_set]
        rfl)
      unfold Row
      rw [List.length_set] at this ⊢
      exact this
end Go.Proofs.Ytaigboapaedcgaa.Hg
