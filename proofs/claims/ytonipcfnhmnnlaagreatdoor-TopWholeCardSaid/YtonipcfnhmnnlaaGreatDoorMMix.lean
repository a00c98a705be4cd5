/- A region that draws its order, walked once: what yields the same in every world of a class is taken first, each other operation where it alone may come up; the class may be narrowed at each of these. No condition. As Mix, but []byte(s) is an operation of its own: it makes a block. A region that draws its order, walked once: what yields the same in every world of a class is taken first, each other operation where it alone may come up; the class may be narrowed at each of these. No condition. A region in which two loud operations may come up, in either order: two walks, one for each order. No condition. -/
import Derived.OrdersHeld
import Derived.Deep.RegionHeld3
import Derived.Deep.QuietTactic
import Derived.BigQuiet
import Derived.WalkKit
import Derived.KernelRfl
namespace Go.Proofs.YtonipcfnhmnnlaaGreatDoor.Hg
open Go Go.RowKit
set_option linter.unusedVariables false
set_option linter.unusedSimpArgs false

/-- Operations that hand back one value, or halt. -/
def plainOp : Op → Bool
  | .move _ | .assign _ | .pick .. | .load .. | .nilCheck _ | .binOp .. | .unOp .. | .convert .. | .slice .. | .fieldAddr .. | .field .. | .indexAddr .. | .index .. | .lookup .. | .extract .. | .makeInterface .. | .build .. => true
  | .call { callee := .builtin b, .. } => match b with | .len | .cap | .min | .max => true | _ => false
  | _ => false

theorem run_v {P : Program} {s : Sem Value} {w w' : World} {n : Next} (h : (do pure (Next.value (← s)) : Sem Next).run P w = .ok n w') : ∃ v, n = .value v := by
  simp only [Sem.run_bind] at h
  cases hs : s.run P w with
  | ok v w1 => rw [hs] at h; simp at h; exact ⟨v, h.1.symm⟩
  | halt x w1 => rw [hs] at h; simp [Result.andThen] at h
theorem plain_value {P : Program} {ρ : Operand → Value} {o : Oper} (hp : plainOp o.op = true) {w w' : World} {n : Next} (h : (execOp ρ o).run P w = .ok n w') : ∃ v, n = .value v := by
  unfold execOp at h
  cases ho : o.op <;> rw [ho] at h hp <;> simp only [plainOp] at hp <;> try (exact absurd hp Bool.false_ne_true)
  all_goals dsimp only at h
  case move x => simp at h; exact ⟨_, h.1.symm⟩
  case assign x => simp at h; exact ⟨_, h.1.symm⟩
  case pick c a b => exact run_v (s := do pure (if ← asBool (ρ c) then ρ a else ρ b)) (by simpa using h)
  case nilCheck x =>
    split at h
    · simp [runtimePanic, goPanic] at h
    · simp [runtimePanic, goPanic] at h
    · simp [runtimePanic, goPanic] at h
    · split at h
      · simp [runtimePanic, goPanic] at h
      · simp only [Sem.run_bind] at h
        revert h
        generalize Sem.run P program w = r1
        cases r1 with
        | halt x w1 => intro h; simp [Result.andThen] at h
        | ok p w1 =>
          simp only [Result.andThen_ok]
          generalize Sem.run P _ w1 = r2
          cases r2 with
          | halt x w2 => intro h; simp [Result.andThen] at h
          | ok q w2 =>
            simp only [Result.andThen_ok]
            split
            · intro h; simp [unsupported] at h
            · intro h; simp at h; exact ⟨_, h.1.symm⟩
      · simp at h; exact ⟨_, h.1.symm⟩
    · simp at h; exact ⟨_, h.1.symm⟩
  case call c =>
    obtain ⟨cal, args, ats⟩ := c
    cases cal with
    | value f => simp at hp
    | invoke r m => simp at hp
    | builtin b =>
      cases b <;> simp at hp <;> (simp only [resolve, Sem.run_bind, Sem.run_pure, Result.andThen_ok, invoke, builtin] at h; exact run_v (by simpa [Sem.run_bind] using h))
  all_goals exact run_v h

section
variable {P : Program} {ops : Array Oper} {C : World → Prop} {Q : Exit → Act → World → Prop}
/-- Does operation e wait for i, at however many removes? -/
def ancB (ops : Array Oper) (i : Nat) : Nat → Nat → Bool
  | 0, _ => false
  | f + 1, e => match ops[e]? with
    | none => false
    | some o => o.after.any fun d => Region.binds .any d && (d.on == i || ancB ops i f d.on)
/-- Does every operation of the list that is not plain wait for i? -/
def anchored (ops : Array Oper) (i : Nat) (rest : List Nat) : Bool :=
  rest.all fun e => (match ops[e]? with | none => true | some o => plainOp o.op) || ancB ops i ops.size e
/-- Those of the order that are asked in every world of the class. -/
def floats (ops : Array Oper) : List Nat → List Nat
  | [] => []
  | i :: rest => if (match ops[i]? with | none => false | some o => plainOp o.op) && !anchored ops i rest then i :: floats ops rest else floats ops rest
/-- Must the class hold behind e? -/
def ncB (ops : Array Oper) (fl : List Nat) (e : Nat) : Bool := fl.any fun i => !ancB ops i ops.size e
/-- The walk in the order that is told. -/
def wpMix (P : Program) (ops : Array Oper) (fl : List Nat) (Q : Exit → Act → World → Prop) : List Nat → (World → Prop) → Act → World → Prop
  | [], _, a, w => Q .normal a w
  | i :: rest, C, a, w => match ops[i]? with
    | none => False
    | some o =>
      if Region.wanted o (yielded ops a.tmps) then
        if plainOp o.op then o.quiet P a (if anchored ops i rest then (fun u => u = w) else C) (fun a' => wpMix P ops fl Q rest C a' w)
        else o.wp P a w (fun a' w' => ∃ C' : World → Prop, (∀ u, C' u → C u) ∧ (ncB ops fl i = true → C' w') ∧ wpMix P ops fl Q rest C' a' w') (NoPanic Q)
      else (plainOp o.op = false → ncB ops fl i = true → C w) ∧ wpMix P ops fl Q rest C (a.put o.dst undef) w
/-- Does the order that is told serve? -/
def mixB (ops : Array Oper) : List Nat → Array Bool → Bool
  | [], listed => (Region.ready .any ops listed).isEmpty
  | i :: rest, listed => (match ops[i]? with
    | none => false
    | some o => (Region.ready .any ops listed).contains i && (if plainOp o.op then Region.free .any ops listed i else Region.ready .any ops listed == [i])) &&
      (List.range ops.size).all (fun j => listed.getD j true || j == i || rest.contains j) && mixB ops rest (listed.setIfInBounds i true)
def mixOk (ops : Array Oper) (ord : List Nat) : Bool := Region.noSelect ops && ord.length == ops.size && mixB ops ord (Array.replicate ops.size false)

def Yat (P : Program) (ops : Array Oper) (o : Oper) (a : Act) (w : World) (v : Value) : Prop :=
  (Region.wanted o (yielded ops a.tmps) = true ∧ (execOp a.eval o).run P w = .ok (.value v) w) ∨ (Region.wanted o (yielded ops a.tmps) = false ∧ v = undef)
theorem Yat.of_same {o : Oper} {v : Value} {w : World} {a a' : Act} (hy : Yat P ops o a w v) (he : execOp a'.eval o = execOp a.eval o)
    (hw : Region.wanted o (yielded ops a'.tmps) = Region.wanted o (yielded ops a.tmps)) : Yat P ops o a' w v := by
  unfold Yat at *
  rw [he, hw]
  exact hy
theorem yieldsIf_sub {C C' : World → Prop} {o : Oper} {v : Value} {a : Act} (hs : ∀ u, C' u → C u) (hy : YieldsIf P ops C o v a) : YieldsIf P ops C' o v a := hy.imp (fun ⟨h1, h2⟩ => ⟨h1, fun w hw => h2 w (hs w hw)⟩) id
theorem yat_of {o : Oper} {v : Value} {w : World} {a : Act} (hy : YieldsIf P ops C o v a) (hC : C w) : Yat P ops o a w v := hy.imp (fun ⟨h1, h2⟩ => ⟨h1, h2 w hC⟩) id

/-- Whatever order is picked. -/
def wpM (P : Program) (ops : Array Oper) (fl : List Nat) (Q : Exit → Act → World → Prop) : Nat → (World → Prop) → Array Bool → Act → World → Prop
  | 0, _, listed, a, w => Region.ready .any ops listed = [] ∧ Q .normal a w
  | f + 1, C, listed, a, w => (Region.ready .any ops listed = [] → Q .normal a w) ∧ ∀ i ∈ Region.ready .any ops listed, ∀ o, ops[i]? = some o →
    if plainOp o.op then ∃ v, Yat P ops o a w v ∧ wpM P ops fl Q f C (listed.setIfInBounds i true) (a.put o.dst v) w
    else wpOp P ops Q i (fun a' w' => ∃ C' : World → Prop, (∀ u, C' u → C u) ∧ (ncB ops fl i = true → C' w') ∧ wpM P ops fl Q f C' (listed.setIfInBounds i true) a' w') a w

theorem wpAny_of_M {fl : List Nat} : ∀ (f : Nat) (C : World → Prop) (listed : Array Bool) (a : Act) (w : World), wpM P ops fl Q f C listed a w → wpAny P .any ops Q f listed a w
  | 0, _, _, _, _, h => h
  | f + 1, C, listed, a, w, h => by
    refine ⟨h.1, fun i hi => ?_⟩
    cases ho : ops[i]? with
    | none => have := (mem_ready.1 hi).2; obtain ⟨o, ho', _⟩ := this; rw [ho] at ho'; cases ho'
    | some o =>
      have := h.2 i hi o ho
      by_cases hp : plainOp o.op = true
      · rw [if_pos hp] at this
        obtain ⟨v, hy, hk⟩ := this
        have hk' := wpAny_of_M f _ _ _ _ hk
        unfold wpOp
        simp only [ho]
        rcases hy with ⟨hw, hr⟩ | ⟨hw, rfl⟩
        · simp only [hw, if_true, Oper.wp, hr, Oper.upon]; exact .inl hk'
        · simp only [hw, Bool.false_eq_true, if_false]; exact hk'
      · rw [if_neg hp] at this
        exact wpOp_mono (fun a' w' hh => by obtain ⟨C', _, _, hh⟩ := hh; exact wpAny_of_M f C' _ a' w' hh) this

def Closed (ops : Array Oper) (listed : Array Bool) : Prop :=
  listed.size = ops.size ∧ ∀ j oj, ops[j]? = some oj → listed.getD j false = true → ∀ e ∈ oj.after, Region.binds .any e = true → listed.getD e.on false = true
theorem getD_both' {listed : Array Bool} {i : Nat} (h : listed.getD i true = false) : listed.getD i false = false := by
  rcases Nat.lt_or_ge i listed.size with h' | h'
  · simp [h'] at h ⊢; exact h
  · simp [Array.getElem?_eq_none h'] at h
theorem getD_set_self' {listed : Array Bool} {i : Nat} (hi : i < listed.size) : (listed.setIfInBounds i true).getD i false = true := by simp [hi]
theorem getD_set_true' {listed : Array Bool} {i j : Nat} (h : listed.getD j false = true) : (listed.setIfInBounds i true).getD j false = true := by
  by_cases hij : i = j
  · subst hij
    refine getD_set_self' ?_
    rcases Nat.lt_or_ge i listed.size with h' | h'
    · exact h'
    · simp [Array.getElem?_eq_none h'] at h
  · rw [getD_set_ne false hij]; exact h
theorem Closed.set {listed : Array Bool} {i : Nat} (h : Closed ops listed) (hi : i ∈ Region.ready .any ops listed) : Closed ops (listed.setIfInBounds i true) := by
  obtain ⟨_, oi, hoi, hall⟩ := mem_ready.1 hi
  refine ⟨by simp [h.1], fun j oj hj hl e he hb => ?_⟩
  by_cases hij : i = j
  · subst hij
    have : oj = oi := Option.some.inj (hj.symm.trans hoi)
    subst this
    exact getD_set_true' (hall e he hb)
  · rw [getD_set_ne false hij] at hl
    exact getD_set_true' (h.2 j oj hj hl e he hb)
theorem Closed.start : Closed ops (Array.replicate ops.size false) := by
  refine ⟨by simp, fun j oj _ hl => ?_⟩
  rcases Nat.lt_or_ge j ops.size with h | h
  · simp [h] at hl
  · simp [h] at hl
/-- Who waits for one that has not come up may not come up. -/
theorem anc_unlisted {listed : Array Bool} {i : Nat} (h : Closed ops listed) (hi : listed.getD i false = false) : ∀ (f e : Nat), ancB ops i f e = true → listed.getD e false = false ∧ e ∉ Region.ready .any ops listed
  | 0, e, h' => by simp [ancB] at h'
  | f + 1, e, h' => by
    simp only [ancB] at h'
    cases ho : ops[e]? with
    | none => rw [ho] at h'; simp at h'
    | some o =>
      rw [ho] at h'
      obtain ⟨d, hd, hb⟩ := Array.any_eq_true'.1 h'
      simp only [Bool.and_eq_true, Bool.or_eq_true, beq_iff_eq] at hb
      obtain ⟨hbd, hb⟩ := hb
      have hdl : listed.getD d.on false = false := by
        rcases hb with hb | hb
        · rw [hb]; exact hi
        · exact (anc_unlisted h hi f d.on hb).1
      refine ⟨?_, fun hr => ?_⟩
      · cases hl : listed.getD e false with
        | false => rfl
        | true => have := h.2 e o ho hl d hd hbd; rw [hdl] at this; cases this
      · obtain ⟨_, o', ho', hall⟩ := mem_ready.1 hr
        have : o' = o := Option.some.inj (ho'.symm.trans ho)
        subst this
        have := hall d hd hbd
        rw [hdl] at this; cases this

/-- An operation that may come up may be taken first. -/
theorem wpM_first {fl : List Nat} {i : Nat} {oi : Oper} {v : Value} (hi : ops[i]? = some oi) (hp : plainOp oi.op = true) (hsel : ∀ (j : Nat) (o : Oper) cs b, ops[j]? = some o → o.op ≠ .select cs b)
    (hQ : ∀ c a w, Q (.panic c) (a.put oi.dst v) w → Q (.panic c) a w) :
    ∀ (fuel : Nat) (C : World → Prop) (listed : Array Bool) (a : Act) (w : World), Closed ops listed →
      (∀ j oj, ops[j]? = some oj → j ≠ i → listed.getD j true = false → (∀ e ∈ oj.after, Region.binds .any e = true → e.on ≠ i) → oi.apart ops oj = true) →
      i ∈ Region.ready .any ops listed →
      (YieldsIf P ops C oi v a ∧ C w ∧ i ∈ fl ∨ Yat P ops oi a w v ∧ ∀ j oj, ops[j]? = some oj → listed.getD j true = false → plainOp oj.op = false → ∃ f, ancB ops i f j = true) →
      wpM P ops fl Q fuel C (listed.setIfInBounds i true) (a.put oi.dst v) w → wpM P ops fl Q (fuel + 1) C listed a w := by
  intro fuel
  induction fuel with
  | zero =>
    intro C listed a w _ _ hr hy H
    refine ⟨fun h => (by rw [h] at hr; cases hr), fun j hj o ho => ?_⟩
    by_cases hji : j = i
    · subst hji
      obtain rfl : o = oi := Option.some.inj (ho.symm.trans hi)
      rw [if_pos hp]
      exact ⟨v, hy.elim (fun h => yat_of h.1 h.2.1) (fun h => h.1), H⟩
    · have := ready_mono hj hji
      rw [H.1] at this
      cases this
  | succ fuel ih =>
    intro C listed a w hcl hfree hr hy H
    refine ⟨fun h => (by rw [h] at hr; cases hr), fun j hj o ho => ?_⟩
    by_cases hji : j = i
    · subst hji
      obtain rfl : o = oi := Option.some.inj (ho.symm.trans hi)
      rw [if_pos hp]
      exact ⟨v, hy.elim (fun h => yat_of h.1 h.2.1) (fun h => h.1), H⟩
    · obtain ⟨hjun, oj, hoj, hall⟩ := mem_ready.1 hj
      obtain rfl : o = oj := Option.some.inj (ho.symm.trans hoj)
      have hiun := getD_both' (mem_ready.1 hr).1
      have hnot : ∀ e ∈ o.after, Region.binds .any e = true → e.on ≠ i := fun e he hb heq => by
        have h1 := hall e he hb
        rw [heq, hiun] at h1
        cases h1
      have hap := hfree j o hoj hji hjun hnot
      obtain ⟨h1, h2, h3⟩ := Oper.apart_spec hap
      have hfree' : ∀ k ok, ops[k]? = some ok → k ≠ i → (listed.setIfInBounds j true).getD k true = false →
          (∀ e ∈ ok.after, Region.binds .any e = true → e.on ≠ i) → oi.apart ops ok = true := fun k ok hk hki hun hno => by
        refine hfree k ok hk hki ?_ hno
        by_cases hjk : j = k
        · subst hjk; exact hjun
        · rw [getD_set_ne true hjk] at hun; exact hun
      have hanc' : (∀ j oj, ops[j]? = some oj → listed.getD j true = false → plainOp oj.op = false → ∃ f, ancB ops i f j = true) →
          ∀ k ok, ops[k]? = some ok → (listed.setIfInBounds j true).getD k true = false → plainOp ok.op = false → ∃ f, ancB ops i f k = true := fun hh k ok hk hun hpl => by
        refine hh k ok hk ?_ hpl
        by_cases hjk : j = k
        · subst hjk; exact hjun
        · rw [getD_set_ne true hjk] at hun; exact hun
      have hstep := H.2 j (ready_mono hj hji) o ho
      by_cases hpj : plainOp o.op = true
      · rw [if_pos hpj] at hstep ⊢
        obtain ⟨u, hyu, hk⟩ := hstep
        have hsame := hyu.of_same (a' := a) (execOp_put o (fun cs b => hsel j o cs b hoj) a oi.dst v h1).symm (wanted_put o a oi.dst v h1).symm
        refine ⟨u, hsame, ih _ _ _ w (hcl.set hj) hfree' (ready_mono hr (Ne.symm hji)) ?_ ?_⟩
        · rcases hy with ⟨hy, hC, hfl⟩ | ⟨hy, hh⟩
          · exact .inl ⟨hy.of_same (execOp_put oi (fun cs b => hsel i oi cs b hi) a o.dst u h3) (wanted_put oi a o.dst u h3), hC, hfl⟩
          · exact .inr ⟨hy.of_same (execOp_put oi (fun cs b => hsel i oi cs b hi) a o.dst u h3) (wanted_put oi a o.dst u h3), hanc' hh⟩
        · rw [Array.setIfInBounds_comm _ _ hji, ← Act.put_comm a v u h2]
          exact hk
      · rw [if_neg hpj] at hstep ⊢
        rcases hy with ⟨hy, hC, hfl⟩ | ⟨_, hh⟩
        · have hnc : ncB ops fl j = true := by
            refine List.any_eq_true.2 ⟨i, hfl, ?_⟩
            cases han : ancB ops i ops.size j with
            | false => rfl
            | true => exact absurd hj (anc_unlisted hcl hiun _ j han).2
          have h2 := wpOp_putIf hoj hap (fun cs b => hsel i oi cs b hi) (fun cs b => hsel j o cs b hoj) hQ hy hstep
          refine wpOp_mono (fun a' w' h3 => ?_) h2
          obtain ⟨h31, C', hsub, h33, h34⟩ := h3
          refine ⟨C', hsub, h33, ih C' (listed.setIfInBounds j true) a' w' (hcl.set hj) hfree' (ready_mono hr (Ne.symm hji)) (.inl ⟨yieldsIf_sub hsub h31, h33 hnc, hfl⟩) ?_⟩
          rw [Array.setIfInBounds_comm _ _ hji]
          exact h34
        · obtain ⟨f, hf⟩ := hh j o hoj hjun (by simpa using hpj)
          exact absurd hj (anc_unlisted hcl hiun f j hf).2

theorem yields_of_quiet {o : Oper} {a : Act} (hp : plainOp o.op = true) {v : Value} (h : ∀ w, C w → o.quietAt P a C w v) (hw : Region.wanted o (yielded ops a.tmps) = true) : YieldsIf P ops C o v a := by
  refine .inl ⟨hw, fun w hC => ?_⟩
  have h1 := h w hC
  unfold Oper.quietAt Oper.quietUpon at h1
  cases hr : (execOp a.eval o).run P w with
  | halt x w' => rw [hr] at h1; exact h1.elim
  | ok n w' =>
    obtain ⟨u, rfl⟩ := plain_value hp hr
    rw [hr] at h1
    obtain ⟨rfl, rfl⟩ := h1
    rfl

theorem floats_mem : ∀ {l : List Nat} {k : Nat}, k ∈ floats ops l → k ∈ l
  | [], k, h => by simp [floats] at h
  | i :: rest, k, h => by
    simp only [floats] at h
    generalize ((match ops[i]? with | none => false | some o => plainOp o.op) && !anchored ops i rest) = b at h
    cases b with
    | false => simp only [Bool.false_eq_true, if_false] at h; simp [floats_mem h]
    | true =>
      simp only [if_true] at h
      rcases List.mem_cons.1 h with rfl | h
      · simp
      · simp [floats_mem h]
theorem mixB_unlisted : ∀ {l : List Nat} {listed : Array Bool}, mixB ops l listed = true → ∀ k ∈ l, listed.getD k false = false
  | [], _, _, k, h => by simp at h
  | i :: rest, listed, hB, k, hk => by
    simp only [mixB, Bool.and_eq_true] at hB
    obtain ⟨⟨h1, _⟩, hB'⟩ := hB
    have hiun : listed.getD i false = false := by
      cases ho : ops[i]? with
      | none => rw [ho] at h1; simp at h1
      | some o =>
        rw [ho] at h1
        simp only [Bool.and_eq_true] at h1
        have hr : i ∈ Region.ready .any ops listed := by simpa using h1.1
        exact getD_both' (mem_ready.1 hr).1
    rcases List.mem_cons.1 hk with rfl | hk
    · exact hiun
    · have := mixB_unlisted hB' k hk
      by_cases hik : i = k
      · subst hik; exact hiun
      · rwa [getD_set_ne false hik] at this
theorem wpM_of_mix {fl : List Nat} (hs : Region.noSelect ops = true) : ∀ (ord : List Nat) (C : World → Prop) (listed : Array Bool) (a : Act) (w : World), Closed ops listed → (∀ i ∈ floats ops ord, i ∈ fl) → (floats ops ord ≠ [] → C w) → mixB ops ord listed = true → wpMix P ops fl Q ord C a w →
    wpM P ops fl (NoPanic Q) ord.length C listed a w
  | [], C, listed, a, w, _, _, _, hB, h => ⟨by simpa [mixB] using hB, h⟩
  | i :: rest, C, listed, a, w, hcl, hfl, hC, hB, h => by
    simp only [mixB] at hB
    cases ho : ops[i]? with
    | none => rw [ho] at hB; simp at hB
    | some o =>
      rw [ho] at hB
      simp only [Bool.and_eq_true] at hB
      obtain ⟨⟨⟨hr, hf⟩, hrest⟩, hB'⟩ := hB
      have hr' : i ∈ Region.ready .any ops listed := by simpa using hr
      simp only [wpMix, ho] at h
      have left : ∀ j oj, ops[j]? = some oj → listed.getD j true = false → j = i ∨ j ∈ rest := fun j oj hj hun => by
        have hlt : j < ops.size := (Array.getElem?_eq_some_iff.1 hj).1
        have := List.all_eq_true.1 hrest j (List.mem_range.2 hlt)
        simp only [hun, Bool.false_or, Bool.or_eq_true, beq_iff_eq, List.contains_iff_mem] at this
        exact this
      by_cases hp : plainOp o.op = true
      · rw [if_pos hp] at hf
        have hfree := Region.free_spec ho hf
        by_cases han : anchored ops i rest = true
        · have hfe : floats ops (i :: rest) = floats ops rest := by simp [floats, ho, hp, han]
          rw [hfe] at hfl hC
          have hanc : ∀ j oj, ops[j]? = some oj → listed.getD j true = false → plainOp oj.op = false → ∃ f, ancB ops i f j = true := fun j oj hj hun hpl => by
            rcases left j oj hj hun with rfl | hjr
            · obtain rfl : oj = o := Option.some.inj (hj.symm.trans ho)
              rw [hp] at hpl; cases hpl
            · have := List.all_eq_true.1 han j hjr
              simp only [hj, hpl, Bool.false_or] at this
              exact ⟨_, this⟩
          by_cases hw : Region.wanted o (yielded ops a.tmps) = true
          · rw [if_pos hw, if_pos hp, if_pos han] at h
            obtain ⟨v, hv, hk⟩ := h
            have hy := yields_of_quiet (ops := ops) hp hv hw
            exact wpM_first ho hp (Region.noSelect_spec hs) (fun _ _ _ h => h) rest.length C listed a w hcl hfree hr' (.inr ⟨yat_of hy rfl, hanc⟩) (wpM_of_mix hs rest C _ _ w (hcl.set hr') hfl hC hB' hk)
          · have hw' : Region.wanted o (yielded ops a.tmps) = false := by simpa using hw
            rw [if_neg hw] at h
            exact wpM_first (v := undef) ho hp (Region.noSelect_spec hs) (fun _ _ _ h => h) rest.length C listed a w hcl hfree hr' (.inr ⟨.inr ⟨hw', rfl⟩, hanc⟩) (wpM_of_mix hs rest C _ _ w (hcl.set hr') hfl hC hB' h.2)
        · have hfe : floats ops (i :: rest) = i :: floats ops rest := by simp [floats, ho, hp, han]
          rw [hfe] at hfl hC
          have hCw := hC (by simp)
          have hif := hfl i (by simp)
          have hfl' : ∀ k ∈ floats ops rest, k ∈ fl := fun k hk => hfl k (by simp [hk])
          by_cases hw : Region.wanted o (yielded ops a.tmps) = true
          · rw [if_pos hw, if_pos hp, if_neg han] at h
            obtain ⟨v, hv, hk⟩ := h
            exact wpM_first ho hp (Region.noSelect_spec hs) (fun _ _ _ h => h) rest.length C listed a w hcl hfree hr' (.inl ⟨yields_of_quiet hp hv hw, hCw, hif⟩) (wpM_of_mix hs rest C _ _ w (hcl.set hr') hfl' (fun _ => hCw) hB' hk)
          · have hw' : Region.wanted o (yielded ops a.tmps) = false := by simpa using hw
            rw [if_neg hw] at h
            exact wpM_first (v := undef) ho hp (Region.noSelect_spec hs) (fun _ _ _ h => h) rest.length C listed a w hcl hfree hr' (.inl ⟨.inr ⟨hw', rfl⟩, hCw, hif⟩) (wpM_of_mix hs rest C _ _ w (hcl.set hr') hfl' (fun _ => hCw) hB' h.2)
      · rw [if_neg hp] at hf
        have hrd : Region.ready .any ops listed = [i] := by simpa using hf
        have hpf : plainOp o.op = false := by simpa using hp
        have hfe : floats ops (i :: rest) = floats ops rest := by simp [floats, ho, hpf]
        rw [hfe] at hfl
        have hnc : floats ops rest ≠ [] → ncB ops fl i = true := fun hne => by
          obtain ⟨k, hk⟩ := List.exists_mem_of_ne_nil _ hne
          refine List.any_eq_true.2 ⟨k, hfl k hk, ?_⟩
          cases han : ancB ops k ops.size i with
          | false => rfl
          | true =>
            have hkr : k ∈ rest := floats_mem hk
            have hkun : listed.getD k false = false := by
              have := mixB_unlisted hB' k hkr
              by_cases hik : i = k
              · subst hik
                rcases Nat.lt_or_ge i listed.size with h' | h'
                · rw [getD_set_self' h'] at this; cases this
                · simp [Array.getElem?_eq_none h']
              · rwa [getD_set_ne false hik] at this
            exact absurd hr' (anc_unlisted hcl hkun _ i han).2
        refine ⟨fun h0 => (by rw [hrd] at h0; cases h0), fun j hj oj hoj => ?_⟩
        obtain rfl : j = i := by rw [hrd] at hj; simpa using hj
        obtain rfl : oj = o := Option.some.inj (hoj.symm.trans ho)
        rw [if_neg hp]
        unfold wpOp
        simp only [hoj]
        by_cases hw : Region.wanted oj (yielded ops a.tmps) = true
        · rw [if_pos hw, if_neg hp] at h
          rw [if_pos hw]
          exact .inl (Oper.wp_mono (fun a' w' hh => by obtain ⟨C', hsub, hh1, hh2⟩ := hh; exact ⟨C', hsub, hh1, wpM_of_mix hs rest C' _ _ w' (hcl.set hr') hfl (fun hne => hh1 (hnc hne)) hB' hh2⟩) h)
        · rw [if_neg hw] at h ⊢
          exact ⟨C, fun _ h => h, h.1 hpf, wpM_of_mix hs rest C _ _ w (hcl.set hr') hfl (fun hne => h.1 hpf (hnc hne)) hB' h.2⟩

/-- **A region that draws its order, by one walk.** -/
theorem wp_region_mix {id : Nat} {a : Act} {w : World} {l : List Oper} (C : World → Prop) (ord fl : List Nat) (hm : P.follows .mixedOrders = true) (hB : (mixOk l.toArray ord && floats l.toArray ord == fl) = true) (hC : C w.drew)
    (h : wpMix P l.toArray fl Q ord C a w.drew) : (Code.region id l.toArray true).wp P Q a w := by
  simp only [mixOk, Bool.and_eq_true, beq_iff_eq] at hB
  obtain ⟨⟨⟨hs, hl⟩, hB⟩, hfl⟩ := hB
  refine wp_region_noPanic (wp_region_any hm ?_)
  have := wpAny_of_M _ _ _ _ _ (wpM_of_mix hs ord C _ a w.drew Closed.start (fun i hi => by rw [← hfl]; exact hi) (fun _ => hC) hB h)
  rw [hl] at this
  exact this
theorem mix_nil {l : List Oper} {fl : List Nat} {a : Act} {w : World} (h : Q .normal a w) : wpMix P l.toArray fl Q [] C a w := h
/-- One operation that all that may turn the world wait for. -/
theorem mix_a {l : List Oper} {fl : List Nat} {i : Nat} {rest : List Nat} {o : Oper} {a : Act} {w : World} (ho : l[i]? = some o) (hp : (plainOp o.op && anchored l.toArray i rest) = true) (hw : Region.wanted o (yielded l.toArray a.tmps) = true)
    (h : ∀ K : Act → Prop, (∀ a, wpMix P l.toArray fl Q rest C a w → K a) → o.quiet P a (fun u => u = w) K) : wpMix P l.toArray fl Q (i :: rest) C a w := by
  simp only [Bool.and_eq_true] at hp
  simp only [wpMix, List.getElem?_toArray, ho, hw, if_true, hp.1, hp.2]
  exact h _ fun _ h => h
/-- One that yields the same in every world of the class. -/
theorem mix_q {l : List Oper} {fl : List Nat} {i : Nat} {rest : List Nat} {o : Oper} {a : Act} {w : World} (ho : l[i]? = some o) (hp : (plainOp o.op && !anchored l.toArray i rest) = true) (hw : Region.wanted o (yielded l.toArray a.tmps) = true)
    (h : ∀ K : Act → Prop, (∀ a, wpMix P l.toArray fl Q rest C a w → K a) → o.quiet P a C K) : wpMix P l.toArray fl Q (i :: rest) C a w := by
  simp only [Bool.and_eq_true, Bool.not_eq_true'] at hp
  simp only [wpMix, List.getElem?_toArray, ho, hw, if_true, hp.1, hp.2]
  exact h _ fun _ h => h
/-- One that its guard passes over. -/
theorem mix_s {l : List Oper} {fl : List Nat} {i : Nat} {rest : List Nat} {o : Oper} {a : Act} {w : World} (ho : l[i]? = some o) (hw : Region.wanted o (yielded l.toArray a.tmps) = false) (hp : (plainOp o.op || !ncB l.toArray fl i) = true)
    (h : wpMix P l.toArray fl Q rest C (a.put o.dst undef) w) : wpMix P l.toArray fl Q (i :: rest) C a w := by
  simp only [wpMix, List.getElem?_toArray, ho, hw]
  refine ⟨fun h1 h2 => ?_, h⟩
  rw [h1, h2] at hp; cases hp
theorem mix_sC {l : List Oper} {fl : List Nat} {i : Nat} {rest : List Nat} {o : Oper} {a : Act} {w : World} (ho : l[i]? = some o) (hw : Region.wanted o (yielded l.toArray a.tmps) = false) (hC : C w)
    (h : wpMix P l.toArray fl Q rest C (a.put o.dst undef) w) : wpMix P l.toArray fl Q (i :: rest) C a w := by
  simp only [wpMix, List.getElem?_toArray, ho, hw]
  exact ⟨fun _ _ => hC, h⟩
/-- One that is carried out where it alone may come up: nobody that is taken first may come up behind it. -/
theorem mix_l {l : List Oper} {fl : List Nat} {i : Nat} {rest : List Nat} {o : Oper} {a : Act} {w : World} (ho : l[i]? = some o) (hp : (!plainOp o.op && !ncB l.toArray fl i) = true) (hw : Region.wanted o (yielded l.toArray a.tmps) = true)
    (h : ∀ K : Act → World → Prop, (∀ a w, wpMix P l.toArray fl Q rest C a w → K a w) → o.wp P a w K (NoPanic Q)) : wpMix P l.toArray fl Q (i :: rest) C a w := by
  simp only [Bool.and_eq_true, Bool.not_eq_true'] at hp
  simp only [wpMix, List.getElem?_toArray, ho, hw, if_true, hp.1, hp.2]
  exact h _ fun _ _ h2 => ⟨C, fun _ h => h, fun h => Bool.noConfusion h, h2⟩
/-- The same: the class holds behind it. -/
theorem mix_lC {l : List Oper} {fl : List Nat} {i : Nat} {rest : List Nat} {o : Oper} {a : Act} {w : World} (ho : l[i]? = some o) (hp : (!plainOp o.op) = true) (hw : Region.wanted o (yielded l.toArray a.tmps) = true)
    (h : ∀ K : Act → World → Prop, (∀ a w, C w → wpMix P l.toArray fl Q rest C a w → K a w) → o.wp P a w K (NoPanic Q)) : wpMix P l.toArray fl Q (i :: rest) C a w := by
  simp only [Bool.not_eq_true'] at hp
  simp only [wpMix, List.getElem?_toArray, ho, hw, if_true, hp]
  exact h _ fun _ _ h1 h2 => ⟨C, fun _ h => h, fun _ => h1, h2⟩
/-- The same: a narrower class holds from here on. -/
theorem mix_lN {l : List Oper} {fl : List Nat} {i : Nat} {rest : List Nat} {o : Oper} {a : Act} {w : World} (ho : l[i]? = some o) (hp : (!plainOp o.op) = true) (hw : Region.wanted o (yielded l.toArray a.tmps) = true)
    (h : ∀ K : Act → World → Prop, (∀ a w (C' : World → Prop), (∀ u, C' u → C u) → C' w → wpMix P l.toArray fl Q rest C' a w → K a w) → o.wp P a w K (NoPanic Q)) : wpMix P l.toArray fl Q (i :: rest) C a w := by
  simp only [Bool.not_eq_true'] at hp
  simp only [wpMix, List.getElem?_toArray, ho, hw, if_true, hp]
  exact h _ fun _ _ C' hsub h1 h2 => ⟨C', hsub, fun _ => h1, h2⟩
end
end Go.Proofs.YtonipcfnhmnnlaaGreatDoor.Hg
namespace Go.Proofs.YtonipcfnhmnnlaaGreatDoor.Hx
open Go Go.RowKit
set_option linter.unusedVariables false
set_option linter.unusedSimpArgs false

/-- Operations that hand back one value, or halt. -/
def plainOp : Op → Bool
  | .move _ | .assign _ | .pick .. | .load .. | .nilCheck _ | .binOp .. | .unOp .. | .slice .. | .fieldAddr .. | .field .. | .indexAddr .. | .index .. | .lookup .. | .extract .. | .makeInterface .. | .build .. => true
  | .convert s d _ => !(s == 9 && d == 42)
  | .call { callee := .builtin b, .. } => match b with | .len | .cap | .min | .max => true | _ => false
  | _ => false

theorem run_v {P : Program} {s : Sem Value} {w w' : World} {n : Next} (h : (do pure (Next.value (← s)) : Sem Next).run P w = .ok n w') : ∃ v, n = .value v := by
  simp only [Sem.run_bind] at h
  cases hs : s.run P w with
  | ok v w1 => rw [hs] at h; simp at h; exact ⟨v, h.1.symm⟩
  | halt x w1 => rw [hs] at h; simp [Result.andThen] at h
theorem plain_value {P : Program} {ρ : Operand → Value} {o : Oper} (hp : plainOp o.op = true) {w w' : World} {n : Next} (h : (execOp ρ o).run P w = .ok n w') : ∃ v, n = .value v := by
  unfold execOp at h
  cases ho : o.op <;> rw [ho] at h hp <;> simp only [plainOp] at hp <;> try (exact absurd hp Bool.false_ne_true)
  all_goals dsimp only at h
  case move x => simp at h; exact ⟨_, h.1.symm⟩
  case assign x => simp at h; exact ⟨_, h.1.symm⟩
  case pick c a b => exact run_v (s := do pure (if ← asBool (ρ c) then ρ a else ρ b)) (by simpa using h)
  case nilCheck x =>
    split at h
    · simp [runtimePanic, goPanic] at h
    · simp [runtimePanic, goPanic] at h
    · simp [runtimePanic, goPanic] at h
    · split at h
      · simp [runtimePanic, goPanic] at h
      · simp only [Sem.run_bind] at h
        revert h
        generalize Sem.run P program w = r1
        cases r1 with
        | halt x w1 => intro h; simp [Result.andThen] at h
        | ok p w1 =>
          simp only [Result.andThen_ok]
          generalize Sem.run P _ w1 = r2
          cases r2 with
          | halt x w2 => intro h; simp [Result.andThen] at h
          | ok q w2 =>
            simp only [Result.andThen_ok]
            split
            · intro h; simp [unsupported] at h
            · intro h; simp at h; exact ⟨_, h.1.symm⟩
      · simp at h; exact ⟨_, h.1.symm⟩
    · simp at h; exact ⟨_, h.1.symm⟩
  case call c =>
    obtain ⟨cal, args, ats⟩ := c
    cases cal with
    | value f => simp at hp
    | invoke r m => simp at hp
    | builtin b =>
      cases b <;> simp at hp <;> (simp only [resolve, Sem.run_bind, Sem.run_pure, Result.andThen_ok, invoke, builtin] at h; exact run_v (by simpa [Sem.run_bind] using h))
  all_goals exact run_v h

section
variable {P : Program} {ops : Array Oper} {C : World → Prop} {Q : Exit → Act → World → Prop}
/-- Does operation e wait for i, at however many removes? -/
def ancB (ops : Array Oper) (i : Nat) : Nat → Nat → Bool
  | 0, _ => false
  | f + 1, e => match ops[e]? with
    | none => false
    | some o => o.after.any fun d => Region.binds .any d && (d.on == i || ancB ops i f d.on)
/-- Does every operation of the list that is not plain wait for i? -/
def anchored (ops : Array Oper) (i : Nat) (rest : List Nat) : Bool :=
  rest.all fun e => (match ops[e]? with | none => true | some o => plainOp o.op) || ancB ops i ops.size e
/-- Those of the order that are asked in every world of the class. -/
def floats (ops : Array Oper) : List Nat → List Nat
  | [] => []
  | i :: rest => if (match ops[i]? with | none => false | some o => plainOp o.op) && !anchored ops i rest then i :: floats ops rest else floats ops rest
/-- Must the class hold behind e? -/
def ncB (ops : Array Oper) (fl : List Nat) (e : Nat) : Bool := fl.any fun i => !ancB ops i ops.size e
/-- The walk in the order that is told. -/
def wpMix (P : Program) (ops : Array Oper) (fl : List Nat) (Q : Exit → Act → World → Prop) : List Nat → (World → Prop) → Act → World → Prop
  | [], _, a, w => Q .normal a w
  | i :: rest, C, a, w => match ops[i]? with
    | none => False
    | some o =>
      if Region.wanted o (yielded ops a.tmps) then
        if plainOp o.op then o.quiet P a (if anchored ops i rest then (fun u => u = w) else C) (fun a' => wpMix P ops fl Q rest C a' w)
        else o.wp P a w (fun a' w' => ∃ C' : World → Prop, (∀ u, C' u → C u) ∧ (ncB ops fl i = true → C' w') ∧ wpMix P ops fl Q rest C' a' w') (NoPanic Q)
      else (plainOp o.op = false → ncB ops fl i = true → C w) ∧ wpMix P ops fl Q rest C (a.put o.dst undef) w
/-- Does the order that is told serve? -/
def mixB (ops : Array Oper) : List Nat → Array Bool → Bool
  | [], listed => (Region.ready .any ops listed).isEmpty
  | i :: rest, listed => (match ops[i]? with
    | none => false
    | some o => (Region.ready .any ops listed).contains i && (if plainOp o.op then Region.free .any ops listed i else Region.ready .any ops listed == [i])) &&
      (List.range ops.size).all (fun j => listed.getD j true || j == i || rest.contains j) && mixB ops rest (listed.setIfInBounds i true)
def mixOk (ops : Array Oper) (ord : List Nat) : Bool := Region.noSelect ops && ord.length == ops.size && mixB ops ord (Array.replicate ops.size false)

def Yat (P : Program) (ops : Array Oper) (o : Oper) (a : Act) (w : World) (v : Value) : Prop :=
  (Region.wanted o (yielded ops a.tmps) = true ∧ (execOp a.eval o).run P w = .ok (.value v) w) ∨ (Region.wanted o (yielded ops a.tmps) = false ∧ v = undef)
theorem Yat.of_same {o : Oper} {v : Value} {w : World} {a a' : Act} (hy : Yat P ops o a w v) (he : execOp a'.eval o = execOp a.eval o)
    (hw : Region.wanted o (yielded ops a'.tmps) = Region.wanted o (yielded ops a.tmps)) : Yat P ops o a' w v := by
  unfold Yat at *
  rw [he, hw]
  exact hy
theorem yieldsIf_sub {C C' : World → Prop} {o : Oper} {v : Value} {a : Act} (hs : ∀ u, C' u → C u) (hy : YieldsIf P ops C o v a) : YieldsIf P ops C' o v a := hy.imp (fun ⟨h1, h2⟩ => ⟨h1, fun w hw => h2 w (hs w hw)⟩) id
theorem yat_of {o : Oper} {v : Value} {w : World} {a : Act} (hy : YieldsIf P ops C o v a) (hC : C w) : Yat P ops o a w v := hy.imp (fun ⟨h1, h2⟩ => ⟨h1, h2 w hC⟩) id

/-- Whatever order is picked. -/
def wpM (P : Program) (ops : Array Oper) (fl : List Nat) (Q : Exit → Act → World → Prop) : Nat → (World → Prop) → Array Bool → Act → World → Prop
  | 0, _, listed, a, w => Region.ready .any ops listed = [] ∧ Q .normal a w
  | f + 1, C, listed, a, w => (Region.ready .any ops listed = [] → Q .normal a w) ∧ ∀ i ∈ Region.ready .any ops listed, ∀ o, ops[i]? = some o →
    if plainOp o.op then ∃ v, Yat P ops o a w v ∧ wpM P ops fl Q f C (listed.setIfInBounds i true) (a.put o.dst v) w
    else wpOp P ops Q i (fun a' w' => ∃ C' : World → Prop, (∀ u, C' u → C u) ∧ (ncB ops fl i = true → C' w') ∧ wpM P ops fl Q f C' (listed.setIfInBounds i true) a' w') a w

theorem wpAny_of_M {fl : List Nat} : ∀ (f : Nat) (C : World → Prop) (listed : Array Bool) (a : Act) (w : World), wpM P ops fl Q f C listed a w → wpAny P .any ops Q f listed a w
  | 0, _, _, _, _, h => h
  | f + 1, C, listed, a, w, h => by
    refine ⟨h.1, fun i hi => ?_⟩
    cases ho : ops[i]? with
    | none => have := (mem_ready.1 hi).2; obtain ⟨o, ho', _⟩ := this; rw [ho] at ho'; cases ho'
    | some o =>
      have := h.2 i hi o ho
      by_cases hp : plainOp o.op = true
      · rw [if_pos hp] at this
        obtain ⟨v, hy, hk⟩ := this
        have hk' := wpAny_of_M f _ _ _ _ hk
        unfold wpOp
        simp only [ho]
        rcases hy with ⟨hw, hr⟩ | ⟨hw, rfl⟩
        · simp only [hw, if_true, Oper.wp, hr, Oper.upon]; exact .inl hk'
        · simp only [hw, Bool.false_eq_true, if_false]; exact hk'
      · rw [if_neg hp] at this
        exact wpOp_mono (fun a' w' hh => by obtain ⟨C', _, _, hh⟩ := hh; exact wpAny_of_M f C' _ a' w' hh) this

def Closed (ops : Array Oper) (listed : Array Bool) : Prop :=
  listed.size = ops.size ∧ ∀ j oj, ops[j]? = some oj → listed.getD j false = true → ∀ e ∈ oj.after, Region.binds .any e = true → listed.getD e.on false = true
theorem getD_both' {listed : Array Bool} {i : Nat} (h : listed.getD i true = false) : listed.getD i false = false := by
  rcases Nat.lt_or_ge i listed.size with h' | h'
  · simp [h'] at h ⊢; exact h
  · simp [Array.getElem?_eq_none h'] at h
theorem getD_set_self' {listed : Array Bool} {i : Nat} (hi : i < listed.size) : (listed.setIfInBounds i true).getD i false = true := by simp [hi]
theorem getD_set_true' {listed : Array Bool} {i j : Nat} (h : listed.getD j false = true) : (listed.setIfInBounds i true).getD j false = true := by
  by_cases hij : i = j
  · subst hij
    refine getD_set_self' ?_
    rcases Nat.lt_or_ge i listed.size with h' | h'
    · exact h'
    · simp [Array.getElem?_eq_none h'] at h
  · rw [getD_set_ne false hij]; exact h
theorem Closed.set {listed : Array Bool} {i : Nat} (h : Closed ops listed) (hi : i ∈ Region.ready .any ops listed) : Closed ops (listed.setIfInBounds i true) := by
  obtain ⟨_, oi, hoi, hall⟩ := mem_ready.1 hi
  refine ⟨by simp [h.1], fun j oj hj hl e he hb => ?_⟩
  by_cases hij : i = j
  · subst hij
    have : oj = oi := Option.some.inj (hj.symm.trans hoi)
    subst this
    exact getD_set_true' (hall e he hb)
  · rw [getD_set_ne false hij] at hl
    exact getD_set_true' (h.2 j oj hj hl e he hb)
theorem Closed.start : Closed ops (Array.replicate ops.size false) := by
  refine ⟨by simp, fun j oj _ hl => ?_⟩
  rcases Nat.lt_or_ge j ops.size with h | h
  · simp [h] at hl
  · simp [h] at hl
/-- Who waits for one that has not come up may not come up. -/
theorem anc_unlisted {listed : Array Bool} {i : Nat} (h : Closed ops listed) (hi : listed.getD i false = false) : ∀ (f e : Nat), ancB ops i f e = true → listed.getD e false = false ∧ e ∉ Region.ready .any ops listed
  | 0, e, h' => by simp [ancB] at h'
  | f + 1, e, h' => by
    simp only [ancB] at h'
    cases ho : ops[e]? with
    | none => rw [ho] at h'; simp at h'
    | some o =>
      rw [ho] at h'
      obtain ⟨d, hd, hb⟩ := Array.any_eq_true'.1 h'
      simp only [Bool.and_eq_true, Bool.or_eq_true, beq_iff_eq] at hb
      obtain ⟨hbd, hb⟩ := hb
      have hdl : listed.getD d.on false = false := by
        rcases hb with hb | hb
        · rw [hb]; exact hi
        · exact (anc_unlisted h hi f d.on hb).1
      refine ⟨?_, fun hr => ?_⟩
      · cases hl : listed.getD e false with
        | false => rfl
        | true => have := h.2 e o ho hl d hd hbd; rw [hdl] at this; cases this
      · obtain ⟨_, o', ho', hall⟩ := mem_ready.1 hr
        have : o' = o := Option.some.inj (ho'.symm.trans ho)
        subst this
        have := hall d hd hbd
        rw [hdl] at this; cases this

/-- An operation that may come up may be taken first. -/
theorem wpM_first {fl : List Nat} {i : Nat} {oi : Oper} {v : Value} (hi : ops[i]? = some oi) (hp : plainOp oi.op = true) (hsel : ∀ (j : Nat) (o : Oper) cs b, ops[j]? = some o → o.op ≠ .select cs b)
    (hQ : ∀ c a w, Q (.panic c) (a.put oi.dst v) w → Q (.panic c) a w) :
    ∀ (fuel : Nat) (C : World → Prop) (listed : Array Bool) (a : Act) (w : World), Closed ops listed →
      (∀ j oj, ops[j]? = some oj → j ≠ i → listed.getD j true = false → (∀ e ∈ oj.after, Region.binds .any e = true → e.on ≠ i) → oi.apart ops oj = true) →
      i ∈ Region.ready .any ops listed →
      (YieldsIf P ops C oi v a ∧ C w ∧ i ∈ fl ∨ Yat P ops oi a w v ∧ ∀ j oj, ops[j]? = some oj → listed.getD j true = false → plainOp oj.op = false → ∃ f, ancB ops i f j = true) →
      wpM P ops fl Q fuel C (listed.setIfInBounds i true) (a.put oi.dst v) w → wpM P ops fl Q (fuel + 1) C listed a w := by
  intro fuel
  induction fuel with
  | zero =>
    intro C listed a w _ _ hr hy H
    refine ⟨fun h => (by rw [h] at hr; cases hr), fun j hj o ho => ?_⟩
    by_cases hji : j = i
    · subst hji
      obtain rfl : o = oi := Option.some.inj (ho.symm.trans hi)
      rw [if_pos hp]
      exact ⟨v, hy.elim (fun h => yat_of h.1 h.2.1) (fun h => h.1), H⟩
    · have := ready_mono hj hji
      rw [H.1] at this
      cases this
  | succ fuel ih =>
    intro C listed a w hcl hfree hr hy H
    refine ⟨fun h => (by rw [h] at hr; cases hr), fun j hj o ho => ?_⟩
    by_cases hji : j = i
    · subst hji
      obtain rfl : o = oi := Option.some.inj (ho.symm.trans hi)
      rw [if_pos hp]
      exact ⟨v, hy.elim (fun h => yat_of h.1 h.2.1) (fun h => h.1), H⟩
    · obtain ⟨hjun, oj, hoj, hall⟩ := mem_ready.1 hj
      obtain rfl : o = oj := Option.some.inj (ho.symm.trans hoj)
      have hiun := getD_both' (mem_ready.1 hr).1
      have hnot : ∀ e ∈ o.after, Region.binds .any e = true → e.on ≠ i := fun e he hb heq => by
        have h1 := hall e he hb
        rw [heq, hiun] at h1
        cases h1
      have hap := hfree j o hoj hji hjun hnot
      obtain ⟨h1, h2, h3⟩ := Oper.apart_spec hap
      have hfree' : ∀ k ok, ops[k]? = some ok → k ≠ i → (listed.setIfInBounds j true).getD k true = false →
          (∀ e ∈ ok.after, Region.binds .any e = true → e.on ≠ i) → oi.apart ops ok = true := fun k ok hk hki hun hno => by
        refine hfree k ok hk hki ?_ hno
        by_cases hjk : j = k
        · subst hjk; exact hjun
        · rw [getD_set_ne true hjk] at hun; exact hun
      have hanc' : (∀ j oj, ops[j]? = some oj → listed.getD j true = false → plainOp oj.op = false → ∃ f, ancB ops i f j = true) →
          ∀ k ok, ops[k]? = some ok → (listed.setIfInBounds j true).getD k true = false → plainOp ok.op = false → ∃ f, ancB ops i f k = true := fun hh k ok hk hun hpl => by
        refine hh k ok hk ?_ hpl
        by_cases hjk : j = k
        · subst hjk; exact hjun
        · rw [getD_set_ne true hjk] at hun; exact hun
      have hstep := H.2 j (ready_mono hj hji) o ho
      by_cases hpj : plainOp o.op = true
      · rw [if_pos hpj] at hstep ⊢
        obtain ⟨u, hyu, hk⟩ := hstep
        have hsame := hyu.of_same (a' := a) (execOp_put o (fun cs b => hsel j o cs b hoj) a oi.dst v h1).symm (wanted_put o a oi.dst v h1).symm
        refine ⟨u, hsame, ih _ _ _ w (hcl.set hj) hfree' (ready_mono hr (Ne.symm hji)) ?_ ?_⟩
        · rcases hy with ⟨hy, hC, hfl⟩ | ⟨hy, hh⟩
          · exact .inl ⟨hy.of_same (execOp_put oi (fun cs b => hsel i oi cs b hi) a o.dst u h3) (wanted_put oi a o.dst u h3), hC, hfl⟩
          · exact .inr ⟨hy.of_same (execOp_put oi (fun cs b => hsel i oi cs b hi) a o.dst u h3) (wanted_put oi a o.dst u h3), hanc' hh⟩
        · rw [Array.setIfInBounds_comm _ _ hji, ← Act.put_comm a v u h2]
          exact hk
      · rw [if_neg hpj] at hstep ⊢
        rcases hy with ⟨hy, hC, hfl⟩ | ⟨_, hh⟩
        · have hnc : ncB ops fl j = true := by
            refine List.any_eq_true.2 ⟨i, hfl, ?_⟩
            cases han : ancB ops i ops.size j with
            | false => rfl
            | true => exact absurd hj (anc_unlisted hcl hiun _ j han).2
          have h2 := wpOp_putIf hoj hap (fun cs b => hsel i oi cs b hi) (fun cs b => hsel j o cs b hoj) hQ hy hstep
          refine wpOp_mono (fun a' w' h3 => ?_) h2
          obtain ⟨h31, C', hsub, h33, h34⟩ := h3
          refine ⟨C', hsub, h33, ih C' (listed.setIfInBounds j true) a' w' (hcl.set hj) hfree' (ready_mono hr (Ne.symm hji)) (.inl ⟨yieldsIf_sub hsub h31, h33 hnc, hfl⟩) ?_⟩
          rw [Array.setIfInBounds_comm _ _ hji]
          exact h34
        · obtain ⟨f, hf⟩ := hh j o hoj hjun (by simpa using hpj)
          exact absurd hj (anc_unlisted hcl hiun f j hf).2

theorem yields_of_quiet {o : Oper} {a : Act} (hp : plainOp o.op = true) {v : Value} (h : ∀ w, C w → o.quietAt P a C w v) (hw : Region.wanted o (yielded ops a.tmps) = true) : YieldsIf P ops C o v a := by
  refine .inl ⟨hw, fun w hC => ?_⟩
  have h1 := h w hC
  unfold Oper.quietAt Oper.quietUpon at h1
  cases hr : (execOp a.eval o).run P w with
  | halt x w' => rw [hr] at h1; exact h1.elim
  | ok n w' =>
    obtain ⟨u, rfl⟩ := plain_value hp hr
    rw [hr] at h1
    obtain ⟨rfl, rfl⟩ := h1
    rfl

theorem floats_mem : ∀ {l : List Nat} {k : Nat}, k ∈ floats ops l → k ∈ l
  | [], k, h => by simp [floats] at h
  | i :: rest, k, h => by
    simp only [floats] at h
    generalize ((match ops[i]? with | none => false | some o => plainOp o.op) && !anchored ops i rest) = b at h
    cases b with
    | false => simp only [Bool.false_eq_true, if_false] at h; simp [floats_mem h]
    | true =>
      simp only [if_true] at h
      rcases List.mem_cons.1 h with rfl | h
      · simp
      · simp [floats_mem h]
theorem mixB_unlisted : ∀ {l : List Nat} {listed : Array Bool}, mixB ops l listed = true → ∀ k ∈ l, listed.getD k false = false
  | [], _, _, k, h => by simp at h
  | i :: rest, listed, hB, k, hk => by
    simp only [mixB, Bool.and_eq_true] at hB
    obtain ⟨⟨h1, _⟩, hB'⟩ := hB
    have hiun : listed.getD i false = false := by
      cases ho : ops[i]? with
      | none => rw [ho] at h1; simp at h1
      | some o =>
        rw [ho] at h1
        simp only [Bool.and_eq_true] at h1
        have hr : i ∈ Region.ready .any ops listed := by simpa using h1.1
        exact getD_both' (mem_ready.1 hr).1
    rcases List.mem_cons.1 hk with rfl | hk
    · exact hiun
    · have := mixB_unlisted hB' k hk
      by_cases hik : i = k
      · subst hik; exact hiun
      · rwa [getD_set_ne false hik] at this
theorem wpM_of_mix {fl : List Nat} (hs : Region.noSelect ops = true) : ∀ (ord : List Nat) (C : World → Prop) (listed : Array Bool) (a : Act) (w : World), Closed ops listed → (∀ i ∈ floats ops ord, i ∈ fl) → (floats ops ord ≠ [] → C w) → mixB ops ord listed = true → wpMix P ops fl Q ord C a w →
    wpM P ops fl (NoPanic Q) ord.length C listed a w
  | [], C, listed, a, w, _, _, _, hB, h => ⟨by simpa [mixB] using hB, h⟩
  | i :: rest, C, listed, a, w, hcl, hfl, hC, hB, h => by
    simp only [mixB] at hB
    cases ho : ops[i]? with
    | none => rw [ho] at hB; simp at hB
    | some o =>
      rw [ho] at hB
      simp only [Bool.and_eq_true] at hB
      obtain ⟨⟨⟨hr, hf⟩, hrest⟩, hB'⟩ := hB
      have hr' : i ∈ Region.ready .any ops listed := by simpa using hr
      simp only [wpMix, ho] at h
      have left : ∀ j oj, ops[j]? = some oj → listed.getD j true = false → j = i ∨ j ∈ rest := fun j oj hj hun => by
        have hlt : j < ops.size := (Array.getElem?_eq_some_iff.1 hj).1
        have := List.all_eq_true.1 hrest j (List.mem_range.2 hlt)
        simp only [hun, Bool.false_or, Bool.or_eq_true, beq_iff_eq, List.contains_iff_mem] at this
        exact this
      by_cases hp : plainOp o.op = true
      · rw [if_pos hp] at hf
        have hfree := Region.free_spec ho hf
        by_cases han : anchored ops i rest = true
        · have hfe : floats ops (i :: rest) = floats ops rest := by simp [floats, ho, hp, han]
          rw [hfe] at hfl hC
          have hanc : ∀ j oj, ops[j]? = some oj → listed.getD j true = false → plainOp oj.op = false → ∃ f, ancB ops i f j = true := fun j oj hj hun hpl => by
            rcases left j oj hj hun with rfl | hjr
            · obtain rfl : oj = o := Option.some.inj (hj.symm.trans ho)
              rw [hp] at hpl; cases hpl
            · have := List.all_eq_true.1 han j hjr
              simp only [hj, hpl, Bool.false_or] at this
              exact ⟨_, this⟩
          by_cases hw : Region.wanted o (yielded ops a.tmps) = true
          · rw [if_pos hw, if_pos hp, if_pos han] at h
            obtain ⟨v, hv, hk⟩ := h
            have hy := yields_of_quiet (ops := ops) hp hv hw
            exact wpM_first ho hp (Region.noSelect_spec hs) (fun _ _ _ h => h) rest.length C listed a w hcl hfree hr' (.inr ⟨yat_of hy rfl, hanc⟩) (wpM_of_mix hs rest C _ _ w (hcl.set hr') hfl hC hB' hk)
          · have hw' : Region.wanted o (yielded ops a.tmps) = false := by simpa using hw
            rw [if_neg hw] at h
            exact wpM_first (v := undef) ho hp (Region.noSelect_spec hs) (fun _ _ _ h => h) rest.length C listed a w hcl hfree hr' (.inr ⟨.inr ⟨hw', rfl⟩, hanc⟩) (wpM_of_mix hs rest C _ _ w (hcl.set hr') hfl hC hB' h.2)
        · have hfe : floats ops (i :: rest) = i :: floats ops rest := by simp [floats, ho, hp, han]
          rw [hfe] at hfl hC
          have hCw := hC (by simp)
          have hif := hfl i (by simp)
          have hfl' : ∀ k ∈ floats ops rest, k ∈ fl := fun k hk => hfl k (by simp [hk])
          by_cases hw : Region.wanted o (yielded ops a.tmps) = true
          · rw [if_pos hw, if_pos hp, if_neg han] at h
            obtain ⟨v, hv, hk⟩ := h
            exact wpM_first ho hp (Region.noSelect_spec hs) (fun _ _ _ h => h) rest.length C listed a w hcl hfree hr' (.inl ⟨yields_of_quiet hp hv hw, hCw, hif⟩) (wpM_of_mix hs rest C _ _ w (hcl.set hr') hfl' (fun _ => hCw) hB' hk)
          · have hw' : Region.wanted o (yielded ops a.tmps) = false := by simpa using hw
            rw [if_neg hw] at h
            exact wpM_first (v := undef) ho hp (Region.noSelect_spec hs) (fun _ _ _ h => h) rest.length C listed a w hcl hfree hr' (.inl ⟨.inr ⟨hw', rfl⟩, hCw, hif⟩) (wpM_of_mix hs rest C _ _ w (hcl.set hr') hfl' (fun _ => hCw) hB' h.2)
      · rw [if_neg hp] at hf
        have hrd : Region.ready .any ops listed = [i] := by simpa using hf
        have hpf : plainOp o.op = false := by simpa using hp
        have hfe : floats ops (i :: rest) = floats ops rest := by simp [floats, ho, hpf]
        rw [hfe] at hfl
        have hnc : floats ops rest ≠ [] → ncB ops fl i = true := fun hne => by
          obtain ⟨k, hk⟩ := List.exists_mem_of_ne_nil _ hne
          refine List.any_eq_true.2 ⟨k, hfl k hk, ?_⟩
          cases han : ancB ops k ops.size i with
          | false => rfl
          | true =>
            have hkr : k ∈ rest := floats_mem hk
            have hkun : listed.getD k false = false := by
              have := mixB_unlisted hB' k hkr
              by_cases hik : i = k
              · subst hik
                rcases Nat.lt_or_ge i listed.size with h' | h'
                · rw [getD_set_self' h'] at this; cases this
                · simp [Array.getElem?_eq_none h']
              · rwa [getD_set_ne false hik] at this
            exact absurd hr' (anc_unlisted hcl hkun _ i han).2
        refine ⟨fun h0 => (by rw [hrd] at h0; cases h0), fun j hj oj hoj => ?_⟩
        obtain rfl : j = i := by rw [hrd] at hj; simpa using hj
        obtain rfl : oj = o := Option.some.inj (hoj.symm.trans ho)
        rw [if_neg hp]
        unfold wpOp
        simp only [hoj]
        by_cases hw : Region.wanted oj (yielded ops a.tmps) = true
        · rw [if_pos hw, if_neg hp] at h
          rw [if_pos hw]
          exact .inl (Oper.wp_mono (fun a' w' hh => by obtain ⟨C', hsub, hh1, hh2⟩ := hh; exact ⟨C', hsub, hh1, wpM_of_mix hs rest C' _ _ w' (hcl.set hr') hfl (fun hne => hh1 (hnc hne)) hB' hh2⟩) h)
        · rw [if_neg hw] at h ⊢
          exact ⟨C, fun _ h => h, h.1 hpf, wpM_of_mix hs rest C _ _ w (hcl.set hr') hfl (fun hne => h.1 hpf (hnc hne)) hB' h.2⟩

/-- **A region that draws its order, by one walk.** -/
theorem wp_region_mix {id : Nat} {a : Act} {w : World} {l : List Oper} (C : World → Prop) (ord fl : List Nat) (hm : P.follows .mixedOrders = true) (hB : (mixOk l.toArray ord && floats l.toArray ord == fl) = true) (hC : C w.drew)
    (h : wpMix P l.toArray fl Q ord C a w.drew) : (Code.region id l.toArray true).wp P Q a w := by
  simp only [mixOk, Bool.and_eq_true, beq_iff_eq] at hB
  obtain ⟨⟨⟨hs, hl⟩, hB⟩, hfl⟩ := hB
  refine wp_region_noPanic (wp_region_any hm ?_)
  have := wpAny_of_M _ _ _ _ _ (wpM_of_mix hs ord C _ a w.drew Closed.start (fun i hi => by rw [← hfl]; exact hi) (fun _ => hC) hB h)
  rw [hl] at this
  exact this
theorem mix_nil {l : List Oper} {fl : List Nat} {a : Act} {w : World} (h : Q .normal a w) : wpMix P l.toArray fl Q [] C a w := h
/-- One operation that all that may turn the world wait for. -/
theorem mix_a {l : List Oper} {fl : List Nat} {i : Nat} {rest : List Nat} {o : Oper} {a : Act} {w : World} (ho : l[i]? = some o) (hp : (plainOp o.op && anchored l.toArray i rest) = true) (hw : Region.wanted o (yielded l.toArray a.tmps) = true)
    (h : ∀ K : Act → Prop, (∀ a, wpMix P l.toArray fl Q rest C a w → K a) → o.quiet P a (fun u => u = w) K) : wpMix P l.toArray fl Q (i :: rest) C a w := by
  simp only [Bool.and_eq_true] at hp
  simp only [wpMix, List.getElem?_toArray, ho, hw, if_true, hp.1, hp.2]
  exact h _ fun _ h => h
/-- One that yields the same in every world of the class. -/
theorem mix_q {l : List Oper} {fl : List Nat} {i : Nat} {rest : List Nat} {o : Oper} {a : Act} {w : World} (ho : l[i]? = some o) (hp : (plainOp o.op && !anchored l.toArray i rest) = true) (hw : Region.wanted o (yielded l.toArray a.tmps) = true)
    (h : ∀ K : Act → Prop, (∀ a, wpMix P l.toArray fl Q rest C a w → K a) → o.quiet P a C K) : wpMix P l.toArray fl Q (i :: rest) C a w := by
  simp only [Bool.and_eq_true, Bool.not_eq_true'] at hp
  simp only [wpMix, List.getElem?_toArray, ho, hw, if_true, hp.1, hp.2]
  exact h _ fun _ h => h
/-- One that its guard passes over. -/
theorem mix_s {l : List Oper} {fl : List Nat} {i : Nat} {rest : List Nat} {o : Oper} {a : Act} {w : World} (ho : l[i]? = some o) (hw : Region.wanted o (yielded l.toArray a.tmps) = false) (hp : (plainOp o.op || !ncB l.toArray fl i) = true)
    (h : wpMix P l.toArray fl Q rest C (a.put o.dst undef) w) : wpMix P l.toArray fl Q (i :: rest) C a w := by
  simp only [wpMix, List.getElem?_toArray, ho, hw]
  refine ⟨fun h1 h2 => ?_, h⟩
  rw [h1, h2] at hp; cases hp
theorem mix_sC {l : List Oper} {fl : List Nat} {i : Nat} {rest : List Nat} {o : Oper} {a : Act} {w : World} (ho : l[i]? = some o) (hw : Region.wanted o (yielded l.toArray a.tmps) = false) (hC : C w)
    (h : wpMix P l.toArray fl Q rest C (a.put o.dst undef) w) : wpMix P l.toArray fl Q (i :: rest) C a w := by
  simp only [wpMix, List.getElem?_toArray, ho, hw]
  exact ⟨fun _ _ => hC, h⟩
/-- One that is carried out where it alone may come up: nobody that is taken first may come up behind it. -/
theorem mix_l {l : List Oper} {fl : List Nat} {i : Nat} {rest : List Nat} {o : Oper} {a : Act} {w : World} (ho : l[i]? = some o) (hp : (!plainOp o.op && !ncB l.toArray fl i) = true) (hw : Region.wanted o (yielded l.toArray a.tmps) = true)
    (h : ∀ K : Act → World → Prop, (∀ a w, wpMix P l.toArray fl Q rest C a w → K a w) → o.wp P a w K (NoPanic Q)) : wpMix P l.toArray fl Q (i :: rest) C a w := by
  simp only [Bool.and_eq_true, Bool.not_eq_true'] at hp
  simp only [wpMix, List.getElem?_toArray, ho, hw, if_true, hp.1, hp.2]
  exact h _ fun _ _ h2 => ⟨C, fun _ h => h, fun h => Bool.noConfusion h, h2⟩
/-- The same: the class holds behind it. -/
theorem mix_lC {l : List Oper} {fl : List Nat} {i : Nat} {rest : List Nat} {o : Oper} {a : Act} {w : World} (ho : l[i]? = some o) (hp : (!plainOp o.op) = true) (hw : Region.wanted o (yielded l.toArray a.tmps) = true)
    (h : ∀ K : Act → World → Prop, (∀ a w, C w → wpMix P l.toArray fl Q rest C a w → K a w) → o.wp P a w K (NoPanic Q)) : wpMix P l.toArray fl Q (i :: rest) C a w := by
  simp only [Bool.not_eq_true'] at hp
  simp only [wpMix, List.getElem?_toArray, ho, hw, if_true, hp]
  exact h _ fun _ _ h1 h2 => ⟨C, fun _ h => h, fun _ => h1, h2⟩
/-- The same: a narrower class holds from here on. -/
theorem mix_lN {l : List Oper} {fl : List Nat} {i : Nat} {rest : List Nat} {o : Oper} {a : Act} {w : World} (ho : l[i]? = some o) (hp : (!plainOp o.op) = true) (hw : Region.wanted o (yielded l.toArray a.tmps) = true)
    (h : ∀ K : Act → World → Prop, (∀ a w (C' : World → Prop), (∀ u, C' u → C u) → C' w → wpMix P l.toArray fl Q rest C' a w → K a w) → o.wp P a w K (NoPanic Q)) : wpMix P l.toArray fl Q (i :: rest) C a w := by
  simp only [Bool.not_eq_true'] at hp
  simp only [wpMix, List.getElem?_toArray, ho, hw, if_true, hp]
  exact h _ fun _ _ C' hsub h1 h2 => ⟨C', hsub, fun _ => h1, h2⟩
end
end Go.Proofs.YtonipcfnhmnnlaaGreatDoor.Hx
namespace Go.Proofs.YtonipcfnhmnnlaaGreatDoor.Hg
open Go Go.RowKit
set_option linter.unusedVariables false
set_option linter.unusedSimpArgs false
/-- Operation j waits for i too. -/
def addE : List Oper → Nat → Nat → List Oper
  | [], _, _ => []
  | o :: l, 0, i => { o with after := o.after.push ⟨i, .data⟩ } :: l
  | o :: l, j + 1, i => o :: addE l j i
theorem addE_at (i : Nat) : ∀ (l : List Oper) (j k : Nat), (addE l j i)[k]? = if k = j then (l[k]?).map (fun o => { o with after := o.after.push ⟨i, .data⟩ }) else l[k]?
  | [], j, k => by simp [addE]
  | o :: l, 0, 0 => by simp [addE]
  | o :: l, 0, k + 1 => by simp [addE]
  | o :: l, j + 1, 0 => by simp [addE]
  | o :: l, j + 1, k + 1 => by simp [addE, addE_at i l j k]
theorem addE_len (i : Nat) : ∀ (l : List Oper) (j : Nat), (addE l j i).length = l.length
  | [], _ => rfl
  | o :: l, 0 => rfl
  | o :: l, j + 1 => by simp [addE, addE_len i l j]
section
variable {P : Program} {l : List Oper} {i j : Nat} {Q : Exit → Act → World → Prop}
theorem or_yield (a : Act) : yielded (addE l j i).toArray a.tmps = yielded l.toArray a.tmps := by
  funext k
  unfold yielded
  simp only [List.getElem?_toArray, addE_at]
  by_cases hk : k = j
  · rw [if_pos hk]
    cases l[k]? <;> rfl
  · rw [if_neg hk]
theorem or_ready1 {k : Nat} {listed : Array Bool} (h : k ∈ Region.ready .any (addE l j i).toArray listed) : k ∈ Region.ready .any l.toArray listed := by
  rw [mem_ready] at *
  obtain ⟨h1, o, ho, h2⟩ := h
  refine ⟨h1, ?_⟩
  simp only [List.getElem?_toArray, addE_at] at ho ⊢
  by_cases hk : k = j
  · rw [if_pos hk] at ho
    cases hl : l[k]? with
    | none => rw [hl] at ho; cases ho
    | some o' =>
      rw [hl] at ho
      injection ho with ho
      subst ho
      exact ⟨o', rfl, fun e he hb => h2 e (by simp [he]) hb⟩
  · rw [if_neg hk] at ho
    exact ⟨o, ho, h2⟩
theorem or_ready2 {k : Nat} {listed : Array Bool} (h : k ∈ Region.ready .any l.toArray listed) (hk : k ≠ j ∨ listed.getD i false = true) : k ∈ Region.ready .any (addE l j i).toArray listed := by
  rw [mem_ready] at *
  obtain ⟨h1, o, ho, h2⟩ := h
  refine ⟨h1, ?_⟩
  simp only [List.getElem?_toArray, addE_at] at ho ⊢
  by_cases hkj : k = j
  · rw [if_pos hkj, ho]
    refine ⟨_, rfl, fun e he hb => ?_⟩
    simp only [Array.mem_push] at he
    rcases he with he | rfl
    · exact h2 e he hb
    · exact hk.resolve_left (by simp [hkj])
  · rw [if_neg hkj]
    exact ⟨o, ho, h2⟩
theorem or_op {k : Nat} {K K' : Act → World → Prop} {a : Act} {w : World} (h : wpOp P (addE l j i).toArray Q k K a w) (hk : ∀ a w, K a w → K' a w) : wpOp P l.toArray Q k K' a w := by
  refine wpOp_mono hk ?_
  unfold wpOp at *
  rw [or_yield] at h
  simp only [List.getElem?_toArray, addE_at] at h ⊢
  by_cases hkj : k = j
  · rw [if_pos hkj] at h
    cases hl : l[k]? with
    | none => rw [hl] at h; exact h
    | some o => rw [hl] at h; exact h
  · rw [if_neg hkj] at h
    exact h
/-- i has come up: nothing is left of the edge. -/
theorem or_past : ∀ (f : Nat) (listed : Array Bool) (a : Act) (w : World), listed.getD i false = true → wpAny P .any (addE l j i).toArray Q f listed a w → wpAny P .any l.toArray Q f listed a w
  | 0, listed, a, w, hi, h => by
    refine ⟨?_, h.2⟩
    rw [List.eq_nil_iff_forall_not_mem]
    intro k hk
    have := or_ready2 (i := i) (j := j) hk (.inr hi)
    rw [h.1] at this
    cases this
  | f + 1, listed, a, w, hi, h => by
    refine ⟨fun h0 => h.1 ?_, fun k hk => or_op (h.2 k (or_ready2 hk (.inr hi))) fun a' w' h' => or_past f _ a' w' (getD_set_true hi) h'⟩
    rw [List.eq_nil_iff_forall_not_mem]
    intro k hk
    have := or_ready1 hk
    rw [h0] at this
    cases this
theorem yat_one {ops : Array Oper} {o : Oper} {a : Act} {w : World} {v v' : Value} (h : Yat P ops o a w v) (h' : Yat P ops o a w v') : v = v' := by
  rcases h with ⟨a1, a2⟩ | ⟨a1, a2⟩ <;> rcases h' with ⟨b1, b2⟩ | ⟨b1, b2⟩
  · rw [a2] at b2; injection b2 with b2 _; injection b2
  · rw [a1] at b1; cases b1
  · rw [a1] at b1; cases b1
  · rw [a2, b2]
/-- Every other loud operation waits for one of the two. -/
def orOk (l : List Oper) (i j : Nat) : Bool := i != j && (List.range l.length).all fun k => k == i || k == j || (match l[k]? with
  | none => true
  | some o => plainOp o.op || o.after.any fun e => Region.binds .any e && (e.on == i || e.on == j))
theorem or_plain (hok : orOk l i j = true) {k : Nat} {o : Oper} {listed : Array Bool} (ho : l[k]? = some o) (hr : k ∈ Region.ready .any l.toArray listed) (hki : k ≠ i) (hkj : k ≠ j) (hi : listed.getD i false = false) (hj : listed.getD j false = false) : plainOp o.op = true := by
  have hlt : k < l.length := (List.getElem?_eq_some_iff.1 ho).1
  simp only [orOk, Bool.and_eq_true, List.all_eq_true, List.mem_range] at hok
  have h := hok.2 k hlt
  rw [ho] at h
  simp only [Bool.or_eq_true, beq_iff_eq, hki, hkj, false_or, Array.any_eq_true'] at h
  rcases h with h | ⟨e, he, hb⟩
  · exact h
  · exfalso
    simp only [Bool.and_eq_true, Bool.or_eq_true, beq_iff_eq] at hb
    obtain ⟨_, o', ho', h2⟩ := mem_ready.1 hr
    simp only [List.getElem?_toArray] at ho'
    rw [ho] at ho'
    injection ho' with ho'
    subst ho'
    have := h2 e he hb.1
    rcases hb.2 with he | he <;> rw [he] at this <;> simp_all
theorem or_both {fl1 fl2 : List Nat} (hok : orOk l i j = true) : ∀ (f : Nat) (C1 C2 : World → Prop) (listed : Array Bool) (a : Act) (w : World), listed.getD i false = false → listed.getD j false = false →
    wpM P (addE l j i).toArray fl1 Q f C1 listed a w → wpM P (addE l i j).toArray fl2 Q f C2 listed a w → wpAny P .any l.toArray Q f listed a w
  | 0, C1, C2, listed, a, w, hi, hj, h1, h2 => by
    refine ⟨?_, h1.2⟩
    have hij : i ≠ j := by simp only [orOk, Bool.and_eq_true, bne_iff_ne] at hok; exact hok.1
    rw [List.eq_nil_iff_forall_not_mem]
    intro k hk
    by_cases hkj : k = j
    · have := or_ready2 (i := j) (j := i) hk (.inl (by rw [hkj]; exact Ne.symm hij))
      rw [h2.1] at this
      cases this
    · have := or_ready2 (i := i) (j := j) hk (.inl hkj)
      rw [h1.1] at this
      cases this
  | f + 1, C1, C2, listed, a, w, hi, hj, h1, h2 => by
    have hij : i ≠ j := by simp only [orOk, Bool.and_eq_true, bne_iff_ne] at hok; exact hok.1
    have g1 := wpAny_of_M _ _ _ _ _ h1
    have g2 := wpAny_of_M _ _ _ _ _ h2
    have hlt : ∀ k, k ∈ Region.ready .any l.toArray listed → k < listed.size := fun k hk => by
      have h0 := (mem_ready.1 hk).1
      rcases Nat.lt_or_ge k listed.size with h' | h'
      · exact h'
      · simp [Array.getElem?_eq_none h'] at h0
    refine ⟨fun h0 => h1.1 ?_, fun k hk => ?_⟩
    · rw [List.eq_nil_iff_forall_not_mem]
      intro k hk
      have := or_ready1 hk
      rw [h0] at this
      cases this
    by_cases hki : k = i
    · subst hki
      exact or_op (g1.2 k (or_ready2 hk (.inl hij))) fun a' w' h' => or_past f _ a' w' (getD_set_self' (hlt k hk)) h'
    by_cases hkj : k = j
    · subst hkj
      exact or_op (g2.2 k (or_ready2 hk (.inl (Ne.symm hij)))) fun a' w' h' => or_past f _ a' w' (getD_set_self' (hlt k hk)) h'
    obtain ⟨o, ho, _⟩ := (mem_ready.1 hk).2
    simp only [List.getElem?_toArray] at ho
    have hp := or_plain hok ho hk hki hkj hi hj
    have e1 := h1.2 k (or_ready2 hk (.inl hkj)) o (by simp only [List.getElem?_toArray, addE_at]; rw [if_neg hkj]; exact ho)
    have e2 := h2.2 k (or_ready2 hk (.inl hki)) o (by simp only [List.getElem?_toArray, addE_at]; rw [if_neg hki]; exact ho)
    rw [if_pos hp] at e1 e2
    obtain ⟨v1, y1, m1⟩ := e1
    obtain ⟨v2, y2, m2⟩ := e2
    unfold Yat at y1 y2
    rw [or_yield] at y1 y2
    have hv : v1 = v2 := yat_one (ops := l.toArray) y1 y2
    subst hv
    have ih := or_both hok f _ _ _ _ _ (by rw [getD_set_ne false (fun e => hki e)]; exact hi) (by rw [getD_set_ne false (fun e => hkj e)]; exact hj) m1 m2
    unfold wpOp
    simp only [List.getElem?_toArray, ho]
    rcases y1 with ⟨hw, hr⟩ | ⟨hw, rfl⟩
    · simp only [hw, if_true, Oper.wp, hr, Oper.upon]; exact .inl ih
    · simp only [hw, Bool.false_eq_true, if_false]; exact ih
theorem rep_false (n i : Nat) : (Array.replicate n false).getD i false = false := by
  unfold Array.getD
  split <;> simp
/-- **Two walks for the two orders.** -/
theorem wp_region_or {id : Nat} {a : Act} {w : World} (i j : Nat) (hok : orOk l i j = true) (C1 C2 : World → Prop) (ord1 ord2 fl1 fl2 : List Nat) (hm : P.follows .mixedOrders = true)
    (hB1 : (mixOk (addE l j i).toArray ord1 && floats (addE l j i).toArray ord1 == fl1) = true) (hB2 : (mixOk (addE l i j).toArray ord2 && floats (addE l i j).toArray ord2 == fl2) = true)
    (hC1 : C1 w.drew) (hC2 : C2 w.drew) (h1 : wpMix P (addE l j i).toArray fl1 Q ord1 C1 a w.drew) (h2 : wpMix P (addE l i j).toArray fl2 Q ord2 C2 a w.drew) : (Code.region id l.toArray true).wp P Q a w := by
  simp only [mixOk, Bool.and_eq_true, beq_iff_eq] at hB1 hB2
  obtain ⟨⟨⟨hs1, hl1⟩, hB1⟩, hfl1⟩ := hB1
  obtain ⟨⟨⟨hs2, hl2⟩, hB2⟩, hfl2⟩ := hB2
  refine wp_region_noPanic (wp_region_any hm ?_)
  have m1 := wpM_of_mix hs1 ord1 C1 _ a w.drew Closed.start (fun i hi => by rw [← hfl1]; exact hi) (fun _ => hC1) hB1 h1
  have m2 := wpM_of_mix hs2 ord2 C2 _ a w.drew Closed.start (fun i hi => by rw [← hfl2]; exact hi) (fun _ => hC2) hB2 h2
  rw [hl1] at m1
  rw [hl2] at m2
  have z1 : (addE l j i).toArray.size = l.toArray.size := by simp [addE_len]
  have z2 : (addE l i j).toArray.size = l.toArray.size := by simp [addE_len]
  rw [z1] at m1
  rw [z2] at m2
  exact or_both hok _ _ _ _ _ _ (rep_false _ _) (rep_false _ _) m1 m2
end
end Go.Proofs.YtonipcfnhmnnlaaGreatDoor.Hg
