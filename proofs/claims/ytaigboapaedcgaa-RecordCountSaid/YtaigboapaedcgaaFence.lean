/- What a loop over an iterator keeps, told block by block; append under a fence. No condition. -/
import Derived.Test.YtaigboapaedcgaaOps2
import Derived.RangeFuncNested
import Derived.RangeFuncBound
import Derived.RangeFuncCalls
import Derived.RangeFuncLeaves
import Derived.Shelf.Abstract
import Derived.WalkKit
import Derived.OwnWalkIn
import Derived.TacticsInMore
import Derived.LoopNIn
import Derived.LoopIn
namespace Go.Proofs.Ytaigboapaedcgaa.Hg
open Go Go.RowKit
set_option linter.unusedVariables false
set_option linter.unusedSimpArgs false
/-- Of a piece of the heap what is cells. -/
def HP.cut (h : HP) : HP := fun b => match h b with | some o => if o.isCells = true then some o else none | none => none
theorem HP.cut_some {h : HP} {b : Nat} {o : Obj} : h.cut b = some o ↔ h b = some o ∧ o.isCells = true := by
  unfold HP.cut
  cases hb : h b with
  | none => simp
  | some x =>
    by_cases hx : x.isCells = true
    · simp only [hx, if_true, Option.some.injEq]
      exact ⟨fun e => ⟨e, by rw [← e]; exact hx⟩, fun e => e.1⟩
    · simp only [if_neg hx, Option.some.injEq]
      exact ⟨fun e => by simp at e, fun e => absurd (by rw [e.1]; exact e.2) hx⟩
/-- An assertion on cells alone. -/
def Solid (A : Asn) : Prop := ∀ h, A h → A h.cut
theorem Solid.blk (g : Nat) (cs : Array Value) (T : TypeId) (fr : Nat × Nat) : Solid (blk g (.cells cs T fr)) := fun h hh => HP.cut_some.2 ⟨hh, rfl⟩
theorem Solid.rowC (e sz : Nat) (v : Value) (n : Nat) (xs : List Value) : Solid (RowC e sz v n xs) := fun h ⟨hl, hh⟩ => ⟨hl, by
  rcases hh with hh | ⟨g, cap, cur, h1, h2, h3⟩
  · exact .inl hh
  · exact .inr ⟨g, cap, cur, h1, HP.cut_some.2 ⟨h2, rfl⟩, h3⟩⟩
theorem Solid.row (v : Value) (l : List UInt8) : Solid (Row v l) := Solid.rowC _ _ _ _ _
def Solids (l : List Asn) : Prop := ∀ A ∈ l, Solid A
theorem Solids.nil : Solids [] := fun _ h => by cases h
theorem Solids.cons {A : Asn} {l : List Asn} (h : Solid A) (hl : Solids l) : Solids (A :: l) := fun B hB => by
  rcases List.mem_cons.1 hB with rfl | hB
  · exact h
  · exact hl B hB
theorem star_cut : ∀ {l : List Asn} {h : HP}, Solids l → star l h → star l h.cut
  | [], _, _, _ => trivial
  | A :: l, h, hs, H => by
    obtain ⟨h1, h2, hd, e1, e2, a, b⟩ := H
    refine ⟨h1.cut, h2.cut, fun x => ?_, fun x o hx => ?_, fun x o hx => ?_, hs A (by simp) _ a, star_cut (fun B hB => hs B (by simp [hB])) b⟩
    · rcases hd x with h | h
      · left; simp [HP.cut, h]
      · right; simp [HP.cut, h]
    · have := HP.cut_some.1 hx
      exact HP.cut_some.2 ⟨e1 _ _ this.1, this.2⟩
    · have := HP.cut_some.1 hx
      exact HP.cut_some.2 ⟨e2 _ _ this.1, this.2⟩
section
variable {w0 W W' : World} {l : List Asn}
/-- It abides the turn of a block that is no cells. -/
theorem sat.turned (H : sat w0 W l) (hs : Solids l) {row : Option Nat} (hg : W.grownBy W' row) (hr : ∀ r, row = some r → w0.heap.size ≤ r ∧ ∃ o : Obj, W.heap[r]? = some o ∧ o.isCells = false) : sat w0 W' l := by
  obtain ⟨hb, h, hx, hst⟩ := H
  refine ⟨hb.grown hg hb.size (fun k e => (hr k e).1), h.cut, fun b o hbo => ?_, star_cut hs hst⟩
  obtain ⟨hbo, hc⟩ := HP.cut_some.1 hbo
  obtain ⟨h1, h2⟩ := hx b o hbo
  refine ⟨h1, ?_⟩
  rw [hg.block b (Array.getElem?_eq_some_iff.1 h2).1 (fun e => ?_)]
  · exact h2
  · obtain ⟨_, o', ho', hc'⟩ := hr b e.symm
    rw [h2] at ho'
    cases ho'
    rw [hc] at hc'; cases hc'
/-- Whatever is no cells, from B on, lies as it lay in W. -/
def Idle (W : World) (B : Nat) : Asn := fun h => ∀ k o, B ≤ k → W.heap[k]? = some o → o.isCells = false → h k = some o
theorem sat.rest (H : sat w0 W l) (hs : Solids l) {B : Nat} (hB : w0.heap.size ≤ B) : sat w0 W (Idle W B :: l) := by
  obtain ⟨hb, h, hx, hst⟩ := H
  obtain ⟨q, hq⟩ : ∃ q : HP, q = fun k => match W.heap[k]? with | some o => if B ≤ k ∧ o.isCells = false then some o else none | none => none := ⟨_, rfl⟩
  have hq1 : ∀ k o, q k = some o → B ≤ k ∧ W.heap[k]? = some o := fun k o hk => by
    rw [hq] at hk
    simp only at hk
    cases hw : W.heap[k]? with
    | none => simp [hw] at hk
    | some o' =>
      simp only [hw] at hk
      split at hk
      · rename_i hh
        cases hk
        exact ⟨hh.1, rfl⟩
      · cases hk
  have hdis : ∀ x, q x = none ∨ h.cut x = none := fun x => by
    cases hc : h.cut x with
    | none => exact .inr rfl
    | some o =>
      left
      obtain ⟨h1, h2⟩ := HP.cut_some.1 hc
      rw [hq]
      simp [(hx x o h1).2, h2]
  refine ⟨hb, HP.or q h.cut, fun b o hbo => ?_, q, h.cut, hdis, fun x o hx => HP.or_inl hx, fun x o hx => HP.or_inr hdis hx, fun k o hk ho hc => ?_, star_cut hs hst⟩
  · rcases HP.or_elim hbo with hbo | hbo
    · have := hq1 b o hbo
      exact ⟨by omega, this.2⟩
    · exact hx b o (HP.cut_some.1 hbo).1
  · rw [hq]
    simp [ho, hk, hc]
theorem sat.keeps {B : Nat} (H : sat w0 W' (Idle W B :: l)) (hsz : W.heap.size ≤ W'.heap.size) : KeepsFrom B W W' := by
  obtain ⟨hb, h, hx, h1, h2, hd, e1, e2, a, b⟩ := H
  exact ⟨hsz, fun k o hk ho hc => (hx _ _ (e1 _ _ (a k o hk ho hc))).2⟩
/-- A call whose new memory is told from its own start: what was held before is held still. -/
theorem star_append : ∀ {l r : List Asn} {h1 h2 h : HP}, (∀ b, h1 b = none ∨ h2 b = none) → (∀ b o, h1 b = some o → h b = some o) → (∀ b o, h2 b = some o → h b = some o) → star l h1 → star r h2 → star (l ++ r) h
  | [], r, h1, h2, h, hd, e1, e2, _, b => by
    cases r with
    | nil => trivial
    | cons A r =>
      obtain ⟨h3, h4, hd', e3, e4, a, c⟩ := b
      exact ⟨h3, h4, hd', fun x o hx => e2 _ _ (e3 _ _ hx), fun x o hx => e2 _ _ (e4 _ _ hx), a, c⟩
  | A :: l, r, h1, h2, h, hd, e1, e2, a, b => by
    obtain ⟨h3, h4, hd', e3, e4, a, c⟩ := a
    refine ⟨h3, HP.or h4 h2, fun x => ?_, fun x o hx => e1 _ _ (e3 _ _ hx), fun x o hx => ?_, a, star_append (h1 := h4) (h2 := h2) (fun x => ?_) (fun x o hx => HP.or_inl hx) (fun x o hx => HP.or_inr (fun y => ?_) hx) c b⟩
    · cases hx : h3 x with
      | none => exact .inl rfl
      | some o =>
        right
        have h2x : h2 x = none := (hd x).resolve_left (by rw [e3 _ _ hx]; simp)
        have h4x : h4 x = none := (hd' x).resolve_left (by rw [hx]; simp)
        simp [HP.or, h2x, h4x]
    · rcases HP.or_elim hx with hx | hx
      · exact e1 _ _ (e4 _ _ hx)
      · exact e2 _ _ hx
    · cases hx : h4 x with
      | none => exact .inl rfl
      | some o => exact .inr ((hd x).resolve_left (by rw [e4 _ _ hx]; simp))
    · cases hx : h4 y with
      | none => exact .inl rfl
      | some o => exact .inr ((hd y).resolve_left (by rw [e4 _ _ hx]; simp))
theorem sat.join {r : List Asn} (H : sat w0 W r) (H2 : sat W W' l) : sat w0 W' (l ++ r) := by
  obtain ⟨hb, h, hx, hst⟩ := H
  obtain ⟨hb2, h2, hx2, hst2⟩ := H2
  have hlt : ∀ b o, h b = some o → b < W.heap.size := fun b o hh => (Array.getElem?_eq_some_iff.1 (hx _ _ hh).2).1
  have hd : ∀ b, h2 b = none ∨ h b = none := fun b => by
    cases hh : h b with
    | none => exact .inr rfl
    | some o =>
      left
      cases hh2 : h2 b with
      | none => rfl
      | some o2 => have := (hx2 _ _ hh2).1; have := hlt _ _ hh; omega
  refine ⟨hb.trans (hb2.mono hb.size), HP.or h2 h, fun b o hh => ?_, star_append hd (fun b o hh => HP.or_inl hh) (fun b o hh => HP.or_inr hd hh) hst2 hst⟩
  rcases HP.or_elim hh with hh | hh
  · have := hx2 _ _ hh
    exact ⟨Nat.le_trans hb.size this.1, this.2⟩
  · have h3 := hx _ _ hh
    exact ⟨h3.1, by rw [hb2.block b (hlt _ _ hh)]; exact h3.2⟩
end
section
variable {P : Program} {t ty e : TypeId} {i : TypeInfo} {z : Value} {sz bytes : Nat}
/-- append onto an owned row: the heap does not shrink. -/
theorem run_append_row_sz (ht : P.underlying t = some (.slice e)) (hi : P.info? e = some i) (hz : i.zero = some z) (hsize : i.size = sz) (hby : i.bytes = bytes) (hzs : z.cells.size = sz) (hsz : 0 < sz) (hb0 : 0 < bytes)
    {w0 w : World} {R : List Asn} {v x : Value} {n m : Nat} {xs ys : List Value} (h : sat w0 w (RowC e sz v n xs :: R)) (hx : ReadsC sz w x m ys) (h1 : ∀ u ∈ ys, u.oneCell' = true) (hbytes : (n + m) * bytes ≤ 140737488355328) :
    ∃ v' w', (Builtin.append_ #[t, t] ty #[v, x]).run P w = .ok v' w' ∧ w.heap.size ≤ w'.heap.size := by
  subst hsize
  subst hby
  have hnm : n + m ≤ 140737488355328 := Nat.le_trans (Nat.le_mul_of_pos_right _ hb0) hbytes
  have hmax : n + m ≤ maxLen := by unfold maxLen; omega
  obtain ⟨hly, hx⟩ := hx
  obtain ⟨hlx, hv⟩ := RowC.blk_of h
  rcases hx with ⟨rfl, rfl⟩ | ⟨ad, cap, rfl, hmc, hcm, hcell⟩
  · rcases hv with ⟨rfl, rfl, hr⟩ | ⟨g, c, cur, rfl, hnc, hc, hs, htk, hb⟩
    · exact ⟨_, w, run_append_none ht hi w none 0 0 (Nat.le_refl _) 0, Nat.le_refl _⟩
    · exact ⟨_, w, run_append_none ht hi w _ _ _ hnc 0, Nat.le_refl _⟩
  · have hnews : ∀ j u, ys[j]? = some u → w.cell? (ad.add j) = some u := hcell
    rcases hv with ⟨rfl, rfl, hr⟩ | ⟨g, c, cur, rfl, hnc, hc, hs, htk, hb⟩
    · by_cases hm0 : m = 0
      · subst hm0
        have hy : ys = [] := List.eq_nil_of_length_eq_zero (by simpa using hly)
        subst hy
        refine ⟨.slice none 0 0, w, ?_, Nat.le_refl _⟩
        simp [Builtin.append_, run_underlying ht, sizeOf, typeInfo, hi, Builtin.lenOf, Builtin.firstCells, loadCells, loadCellsFrom]
      · have hrun := run_append_nil (P := P) w t ty e i z ht hi hz ad m cap ys hly hnews (by omega) (by unfold maxLen at hmax; omega) (by simp only [Nat.zero_add] at hbytes; omega)
        exact ⟨_, _, hrun, by simp⟩
    · by_cases hroom : n + m ≤ c
      · have hfit : n * i.size + ys.length ≤ cur.size := by rw [hly, hs, ← Nat.add_mul]; exact Nat.mul_le_mul_right _ hroom
        have hrun := run_append_room (P := P) w t ty e i ht hi g n c cur hb.get.1 ad m cap ys hly hnews h1 hroom hfit
        exact ⟨_, _, hrun, by simp [World.setRow]⟩
      · have holds : ∀ j u, xs[j]? = some u → w.cell? ((⟨g, 0, none⟩ : Addr).add j) = some u := fun j u hj => by
          rw [addAt, Nat.zero_add, cellAt hb.get.1, ← Array.getElem?_toList]
          rw [← htk, List.getElem?_take] at hj
          split at hj
          · exact hj
          · cases hj
        have hrun := run_append_grow (P := P) w t ty e i z ht hi hz ⟨g, 0, none⟩ n c xs hlx holds ad m cap ys hly hnews (by omega) (by unfold maxLen at hmax; omega) (growslice_fits (by omega) hbytes)
        exact ⟨_, _, hrun, by simp⟩
end
/-- append of bytes onto a row of bytes, under a fence. -/
theorem wpListIn_append_bytes {F : Fence} {k : Nat} {P : Program} {ops : Array Oper} {rest : List Oper} {o : Oper} {a : Act} {Q : Exit → Act → World → Prop} (hg : o.guard = none) {s x : Operand} {t : TypeId}
    (ho : o.op = .call { callee := .builtin .append, args := #[s, x], argTypes := #[t, t] }) (ht : P.underlying t = some (.slice 5))
    (hi : (P.info? 5).map (fun i => (i.zero, i.size, i.bytes)) = some (some (.int .u8 0), 1, 1))
    {v y : Value} (hs : a.eval s = v) (hy : a.eval x = y) {w0 w : World} {R : List Asn} {l m : List UInt8} (h : sat w0 w (Row v l :: R)) (hx : Reads w y m) (hb : l.length + m.length ≤ 140737488355328)
    (hk : ∀ v' w', sat w0 w' (Row v' (l ++ m) :: R) → w.heap.size ≤ w'.heap.size → wpListIn F k P ops Q rest (a.put o.dst v') w') : wpListIn F k P ops Q (o :: rest) a w := by
  refine wpListIn_plain hg fun K hK' => ?_
  obtain ⟨i, hi1, hz1, hz2, hz3⟩ := info_parts hi
  have hone : ∀ u ∈ m.map B8, u.oneCell' = true := B8_oneCell m
  obtain ⟨v', w', hr, h2, h3⟩ := run_append_row (P := P) (ty := o.type) ht hi1 hz1 hz2 hz3 rfl (by decide) (by decide) h hx hone (by omega)
  obtain ⟨v'', w'', hr', h4⟩ := run_append_row_sz (P := P) (ty := o.type) ht hi1 hz1 hz2 hz3 rfl (by decide) (by decide) h hx hone (by omega)
  rw [hr] at hr'
  cases hr'
  unfold Oper.wpIn
  refine ⟨?_, ?_⟩
  · simp [Oper.about, ho, resolve, Target.leads, Sem.run_pure]
  · rw [Oper.semAt_plain F _ _ (by rw [ho]; intro c hc'; cases hc')]
    simp [execOp, ho, resolve, invoke, builtin, hs, hy, hr, Result.andThen]
    exact hK' _ _ (hk v' w' (by simpa [Row] using h2) h4)
end Go.Proofs.Ytaigboapaedcgaa.Hg
