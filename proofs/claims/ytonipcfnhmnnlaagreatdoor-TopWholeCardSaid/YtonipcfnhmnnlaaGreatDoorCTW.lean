/- What goes through, in plain lists. No program. -/
import Derived.Test.YtonipcfnhmnnlaaGreatDoorCT8
namespace Go.Proofs.YtonipcfnhmnnlaaGreatDoor
open Go Go.RowKit Hg
set_option linter.unusedVariables false
set_option linter.unusedSimpArgs false
/-- The bytes that went up, that went down; how many ends. -/
def upOf (l : List AC) : List UInt8 := l.flatMap fun a => if a.kind = 1 then a.b.data.toList else []
def dnOf (l : List AC) : List UInt8 := l.flatMap fun a => if a.kind = 3 then a.b.data.toList else []
def endsOf : List AC → Int
  | [] => 0
  | a :: l => (if a.kind = 2 then 1 else if a.kind = 4 then 10 else 0) + endsOf l
theorem upOf_append (l m : List AC) : upOf (l ++ m) = upOf l ++ upOf m := by simp [upOf]
theorem dnOf_append (l m : List AC) : dnOf (l ++ m) = dnOf l ++ dnOf m := by simp [dnOf]
theorem endsOf_append (l m : List AC) : endsOf (l ++ m) = endsOf l + endsOf m := by
  induction l with
  | nil => simp [endsOf]
  | cons a t ih => simp only [List.cons_append, endsOf, ih]; omega
/-- At each end all went. -/
def Fine (s back : List UInt8) (l : List AC) : Prop := ∀ i a, l[i]? = some a → (a.kind = 2 → upOf (l.take i) = s) ∧ (a.kind = 4 → dnOf (l.take i) = back)
theorem Fine.append {s back : List UInt8} {l m : List AC} (h : Fine s back l) (hm : ∀ i a, m[i]? = some a → (a.kind = 2 → upOf l ++ upOf (m.take i) = s) ∧ (a.kind = 4 → dnOf l ++ dnOf (m.take i) = back)) : Fine s back (l ++ m) := by
  intro i a hi
  rcases Nat.lt_or_ge i l.length with hl | hl
  · rw [List.getElem?_append_left hl] at hi
    rw [List.take_append_of_le_length (Nat.le_of_lt hl)]
    exact h i a hi
  · rw [List.getElem?_append_right hl] at hi
    have e : (l ++ m).take i = l ++ m.take (i - l.length) := by
      rw [List.take_append, List.take_of_length_le hl]
    rw [e, upOf_append, dnOf_append]
    exact hm _ a hi
theorem bstr_data (b : List UInt8) : (bstr b).data.toList = b := by simp [bstr]
theorem up_goes1 (b : List UInt8) (fin all : Bool) : upOf (goesL 1 b fin all) = b := by
  unfold goesL upOf
  by_cases h : b = [] <;> cases fin <;> cases all <;> simp [h, bstr_data]
theorem dn_goes1 (b : List UInt8) (fin all : Bool) : dnOf (goesL 1 b fin all) = [] := by
  unfold goesL dnOf
  by_cases h : b = [] <;> cases fin <;> cases all <;> simp [h]
theorem up_goes3 (b : List UInt8) (fin all : Bool) : upOf (goesL 3 b fin all) = [] := by
  unfold goesL upOf
  by_cases h : b = [] <;> cases fin <;> cases all <;> simp [h]
theorem dn_goes3 (b : List UInt8) (fin all : Bool) : dnOf (goesL 3 b fin all) = b := by
  unfold goesL dnOf
  by_cases h : b = [] <;> cases fin <;> cases all <;> simp [h, bstr_data]
theorem ends_goes1 (b : List UInt8) (fin all : Bool) : endsOf (goesL 1 b fin all) = if fin then 1 else 0 := by
  unfold goesL
  by_cases h : b = [] <;> cases fin <;> cases all <;> simp [h, endsOf]
theorem ends_goes3 (b : List UInt8) (fin all : Bool) : endsOf (goesL 3 b fin all) = if fin then 10 else 0 := by
  unfold goesL
  by_cases h : b = [] <;> cases fin <;> cases all <;> simp [h, endsOf]
theorem len_goes (k : Int) (b : List UInt8) (fin all : Bool) : (goesL k b fin all).length ≤ 3 := by
  unfold goesL
  by_cases h : b = [] <;> cases fin <;> cases all <;> simp [h]
theorem Fine.goes1 {s back : List UInt8} {l : List AC} (h : Fine s back l) (b : List UInt8) (fin all : Bool) (hf : fin = true → upOf l ++ b = s) : Fine s back (l ++ goesL 1 b fin all) := by
  refine h.append fun i a hi => ?_
  unfold goesL at hi ⊢
  by_cases hb : b = []
  · subst hb
    cases fin <;> cases all <;> (try simp only [if_true, if_false, List.nil_append, List.append_nil, Bool.false_eq_true] at hi ⊢)
    · simp at hi
    · match i with
      | 0 => simp at hi; subst hi; simp
      | i + 1 => simp at hi
    · match i with
      | 0 => simp at hi; subst hi; have := hf rfl; simp [upOf] at this ⊢; exact this
      | i + 1 => simp at hi
    · match i with
      | 0 => simp at hi; subst hi; have := hf rfl; simp [upOf] at this ⊢; exact this
      | 1 => simp at hi; subst hi; simp
      | i + 2 => simp at hi
  · rw [if_neg hb] at hi ⊢
    cases fin <;> cases all <;> (try simp only [if_true, if_false, List.nil_append, List.append_nil, Bool.false_eq_true] at hi ⊢)
    · match i with
      | 0 => simp at hi; subst hi; simp
      | i + 1 => simp at hi
    · match i with
      | 0 => simp at hi; subst hi; simp
      | 1 => simp at hi; subst hi; simp
      | i + 2 => simp at hi
    · match i with
      | 0 => simp at hi; subst hi; simp
      | 1 => simp at hi; subst hi; have := hf rfl; simp [upOf, bstr_data] at this ⊢; exact this
      | i + 2 => simp at hi
    · match i with
      | 0 => simp at hi; subst hi; simp
      | 1 => simp at hi; subst hi; have := hf rfl; simp [upOf, bstr_data] at this ⊢; exact this
      | 2 => simp at hi; subst hi; simp
      | i + 3 => simp at hi
theorem Fine.goes3 {s back : List UInt8} {l : List AC} (h : Fine s back l) (b : List UInt8) (fin all : Bool) (hf : fin = true → dnOf l ++ b = back) : Fine s back (l ++ goesL 3 b fin all) := by
  refine h.append fun i a hi => ?_
  unfold goesL at hi ⊢
  by_cases hb : b = []
  · subst hb
    cases fin <;> cases all <;> (try simp only [if_true, if_false, List.nil_append, List.append_nil, Bool.false_eq_true] at hi ⊢)
    · simp at hi
    · match i with
      | 0 => simp at hi; subst hi; simp
      | i + 1 => simp at hi
    · match i with
      | 0 => simp at hi; subst hi; have := hf rfl; simp [dnOf] at this ⊢; exact this
      | i + 1 => simp at hi
    · match i with
      | 0 => simp at hi; subst hi; have := hf rfl; simp [dnOf] at this ⊢; exact this
      | 1 => simp at hi; subst hi; simp
      | i + 2 => simp at hi
  · rw [if_neg hb] at hi ⊢
    cases fin <;> cases all <;> (try simp only [if_true, if_false, List.nil_append, List.append_nil, Bool.false_eq_true] at hi ⊢)
    · match i with
      | 0 => simp at hi; subst hi; simp
      | i + 1 => simp at hi
    · match i with
      | 0 => simp at hi; subst hi; simp
      | 1 => simp at hi; subst hi; simp
      | i + 2 => simp at hi
    · match i with
      | 0 => simp at hi; subst hi; simp
      | 1 => simp at hi; subst hi; have := hf rfl; simp [dnOf, bstr_data] at this ⊢; exact this
      | i + 2 => simp at hi
    · match i with
      | 0 => simp at hi; subst hi; simp
      | 1 => simp at hi; subst hi; have := hf rfl; simp [dnOf, bstr_data] at this ⊢; exact this
      | 2 => simp at hi; subst hi; simp
      | i + 3 => simp at hi
/-- While bytes come: what was taken of either side lies in the connection, or went. -/
structure Flow (s back : List UInt8) (relay k i o : Nat) (pk U D : List UInt8) (log : List AC) : Prop where
  hi : i ≤ s.length
  ho : o ≤ back.length
  hU : U.length ≤ relay
  hD : D.length ≤ relay
  up : upOf log ++ (pk ++ U) = s.take i
  dn : dnOf log ++ D = back.take o
  no : endsOf log = 0
  fine : Fine s back log
  len : log.length ≤ 1 + 6 * k
  gi : i = s.length ∨ k ≤ (upOf log).length
  go : o = back.length ∨ k ≤ (dnOf log).length
/-- Bytes are taken of the client. -/
theorem Flow.client {s back : List UInt8} {relay k i o : Nat} {pk U D : List UInt8} {log : List AC} (h : Flow s back relay k i o pk U D log) :
    Flow s back relay k (i + min (s.length - i) (relay - U.length)) o pk (U ++ (s.drop i).take (relay - U.length)) D log := by
  obtain ⟨hi, ho, hU, hD, up, dn, no, fine, len, gi, go⟩ := h
  refine ⟨by omega, ho, ?_, hD, ?_, dn, no, fine, len, ?_, go⟩
  · simp only [List.length_append, List.length_take, List.length_drop]; omega
  · rw [← List.append_assoc, ← List.append_assoc, List.append_assoc (upOf log), up, List.take_add]
    congr 1
    rw [List.take_eq_take_iff, List.length_drop]; omega
  · omega
theorem Flow.other {s back : List UInt8} {relay k i o : Nat} {pk U D : List UInt8} {log : List AC} (h : Flow s back relay k i o pk U D log) :
    Flow s back relay k i (o + min (back.length - o) (relay - D.length)) pk U (D ++ (back.drop o).take (relay - D.length)) log := by
  obtain ⟨hi, ho, hU, hD, up, dn, no, fine, len, gi, go⟩ := h
  refine ⟨hi, by omega, hU, ?_, up, ?_, no, fine, len, gi, ?_⟩
  · simp only [List.length_append, List.length_take, List.length_drop]; omega
  · rw [← List.append_assoc, dn, List.take_add]
    congr 1
    rw [List.take_eq_take_iff, List.length_drop]; omega
  · omega
/-- A round: both take, both may write. -/
theorem Flow.round {s back : List UInt8} {relay k i o : Nat} {pk U D : List UInt8} {log : List AC} (h : Flow s back relay k i o pk U D log) (hr : 1 ≤ relay) {g : Nat} (hg : 1 ≤ g) {U1 D1 P V : List UInt8} {i' o' : Nat}
    (hi' : i' = i + min (s.length - i) (relay - U.length)) (ho' : o' = o + min (back.length - o) (relay - D.length))
    (hU1 : U1 = U ++ (s.drop i).take (relay - U.length)) (hD1 : D1 = D ++ (back.drop o).take (relay - D.length)) (hP : P = pk.take g) (hV : V = U1.take (g - P.length)) :
    Flow s back relay (k + 1) i' o' (pk.drop P.length) (U1.drop (g - P.length)) (D1.drop g) (log ++ goesL 1 (P ++ V) false false ++ goesL 3 (D1.take g) false false) := by
  have h2 := h.client.other
  rw [← hi', ← ho', ← hU1, ← hD1] at h2
  have hU1l : i' < s.length → U1.length = relay := by
    intro hlt
    rw [hU1, List.length_append, List.length_take, List.length_drop]
    have := h.hU
    omega
  have hD1l : o' < back.length → D1.length = relay := by
    intro hlt
    rw [hD1, List.length_append, List.length_take, List.length_drop]
    have := h.hD
    omega
  have gi0 := h.gi
  have go0 := h.go
  have hle : i' = s.length ∨ i' < s.length := by have := h2.hi; omega
  have hle2 : o' = back.length ∨ o' < back.length := by have := h2.ho; omega
  have gi1 : i' = s.length ∨ (i' < s.length ∧ k ≤ (upOf log).length) := by
    rcases hle with h1 | h1
    · exact .inl h1
    · right; refine ⟨h1, ?_⟩
      rcases gi0 with h3 | h3
      · have := h.hi; omega
      · exact h3
  have go1 : o' = back.length ∨ (o' < back.length ∧ k ≤ (dnOf log).length) := by
    rcases hle2 with h1 | h1
    · exact .inl h1
    · right; refine ⟨h1, ?_⟩
      rcases go0 with h3 | h3
      · have := h.ho; omega
      · exact h3
  obtain ⟨hi, ho, hU, hD, up, dn, no, fine, len, gi, go⟩ := h2
  have hPd : pk = P ++ pk.drop P.length := by
    rw [hP, List.length_take]
    conv => lhs; rw [← List.take_append_drop (min g pk.length) pk]
    congr 1
    rw [List.take_eq_take_iff]; omega
  have hVd : V ++ U1.drop (g - P.length) = U1 := by rw [hV]; exact List.take_append_drop _ _
  refine ⟨hi, ho, ?_, ?_, ?_, ?_, ?_, ?_, ?_, ?_, ?_⟩
  · rw [List.length_drop]; omega
  · rw [List.length_drop]; omega
  · rw [upOf_append, upOf_append, up_goes1, up_goes3, List.append_nil, ← up]
    conv => rhs; rw [hPd, ← hVd]
    by_cases hq : pk.drop P.length = []
    · rw [hq]; simp
    · have : (g - P.length) = 0 := by
        have : P.length < pk.length := by
          rcases Nat.lt_or_ge P.length pk.length with h | h
          · exact h
          · exact absurd (List.drop_eq_nil_of_le h) hq
        rw [hP, List.length_take] at this ⊢
        omega
      rw [hV, this]; simp
  · rw [dnOf_append, dnOf_append, dn_goes1, dn_goes3, List.append_nil, List.append_assoc, List.take_append_drop, dn]
  · rw [endsOf_append, endsOf_append, no, ends_goes1, ends_goes3]; rfl
  · exact (fine.goes1 _ false false (fun h => by cases h)).goes3 _ false false (fun h => by cases h)
  · have h1 := len_goes 1 (P ++ V) false false
    have h2 := len_goes 3 (D1.take g) false false
    simp only [List.length_append]; omega
  · rcases gi1 with h1 | ⟨h1, h3⟩
    · exact .inl h1
    · right
      have h4 := hU1l h1
      rw [upOf_append, upOf_append, up_goes1, up_goes3, List.append_nil, List.length_append, List.length_append]
      have : 1 ≤ P.length + V.length := by
        rw [hV, hP, List.length_take, List.length_take]
        omega
      omega
  · rcases go1 with h1 | ⟨h1, h3⟩
    · exact .inl h1
    · right
      have h4 := hD1l h1
      rw [dnOf_append, dnOf_append, dn_goes1, dn_goes3, List.append_nil, List.length_append, List.length_take]
      omega
/-- Behind as many rounds as there are bytes all was taken. -/
theorem Flow.all {s back : List UInt8} {relay k i o : Nat} {pk U D : List UInt8} {log : List AC} (h : Flow s back relay k i o pk U D log) (hs : s.length < k) (hb : back.length < k) : i = s.length ∧ o = back.length := by
  have h1 := congrArg List.length h.up
  have h2 := congrArg List.length h.dn
  simp only [List.length_append, List.length_take] at h1 h2
  have := h.gi
  have := h.go
  have := h.hi
  have := h.ho
  omega
/-- Both ended: what lies in the connection goes. -/
structure Ebb (s back : List UInt8) (relay k : Nat) (pk U D : List UInt8) (ut dt : Bool) (log : List AC) : Prop where
  hU : U.length ≤ relay
  hD : D.length ≤ relay
  up : upOf log ++ (pk ++ U) = s
  dn : dnOf log ++ D = back
  ends : endsOf log = (if ut then 1 else 0) + (if dt then 10 else 0)
  fine : Fine s back log
  len : log.length ≤ 12001 + 6 * k
  gu : if ut then pk = [] ∧ U = [] else k ≤ (upOf log).length
  gd : if dt then D = [] else k ≤ (dnOf log).length
theorem Flow.ebb {s back : List UInt8} {relay k : Nat} {pk U D : List UInt8} {log : List AC} (h : Flow s back relay k s.length back.length pk U D log) (hk : k ≤ 2000) : Ebb s back relay 0 pk U D false false log := by
  obtain ⟨hi, ho, hU, hD, up, dn, no, fine, len, gi, go⟩ := h
  exact ⟨hU, hD, by rw [up, List.take_length], by rw [dn, List.take_length], by simp [no], fine, by omega, by simp, by simp⟩
/-- The way up. -/
theorem Ebb.canUp {s back : List UInt8} {relay k : Nat} {pk U D : List UInt8} {ut dt : Bool} {log : List AC} (h : Ebb s back relay k pk U D ut dt log) {g : Nat} (hg : 1 ≤ g) {P V : List UInt8} (hP : P = pk.take g) (hV : V = U.take (g - P.length)) {fin : Bool}
    (hfin : fin = (decide ((pk.drop P.length).length + (U.drop (g - P.length)).length = 0) && !ut)) (all : Bool) :
    (if (ut || fin) then pk.drop P.length = [] ∧ U.drop (g - P.length) = [] else k + 1 ≤ (upOf (log ++ goesL 1 (P ++ V) fin all)).length) ∧
    upOf (log ++ goesL 1 (P ++ V) fin all) ++ (pk.drop P.length ++ U.drop (g - P.length)) = s ∧ dnOf (log ++ goesL 1 (P ++ V) fin all) = dnOf log ∧ endsOf (log ++ goesL 1 (P ++ V) fin all) = (if (ut || fin) then 1 else 0) + (if dt then 10 else 0) ∧
    Fine s back (log ++ goesL 1 (P ++ V) fin all) ∧ (log ++ goesL 1 (P ++ V) fin all).length ≤ 12001 + 6 * k + 3 ∧ (U.drop (g - P.length)).length ≤ relay := by
  obtain ⟨hU, hD, up, dn, ends, fine, len, gu, gd⟩ := h
  have hPd : P ++ pk.drop P.length = pk := by
    rw [hP, List.length_take]
    conv => rhs; rw [← List.take_append_drop (min g pk.length) pk]
    congr 1
    rw [List.take_eq_take_iff]; omega
  have hVd : V ++ U.drop (g - P.length) = U := by rw [hV]; exact List.take_append_drop _ _
  have hmid : P ++ V ++ (pk.drop P.length ++ U.drop (g - P.length)) = pk ++ U := by
    conv => rhs; rw [← hPd, ← hVd]
    by_cases hq : pk.drop P.length = []
    · rw [hq]; simp
    · have : (g - P.length) = 0 := by
        have : P.length < pk.length := by
          rcases Nat.lt_or_ge P.length pk.length with h | h
          · exact h
          · exact absurd (List.drop_eq_nil_of_le h) hq
        rw [hP, List.length_take] at this ⊢
        omega
      rw [hV, this]; simp
  have hup : upOf (log ++ goesL 1 (P ++ V) fin all) = upOf log ++ (P ++ V) := by rw [upOf_append, up_goes1]
  have hlen := len_goes 1 (P ++ V) fin all
  refine ⟨?_, ?_, ?_, ?_, ?_, ?_, ?_⟩
  · cases ut with
    | true =>
      rw [if_pos rfl] at gu
      obtain ⟨rfl, rfl⟩ := gu
      simp
    | false =>
      simp only [Bool.not_false, Bool.and_true, Bool.false_or] at hfin ⊢
      cases fin with
      | true =>
        have := of_decide_eq_true hfin.symm
        simp only [if_true]
        exact ⟨List.eq_nil_of_length_eq_zero (by omega), List.eq_nil_of_length_eq_zero (by omega)⟩
      | false =>
        have h0 := of_decide_eq_false hfin.symm
        simp only [Bool.false_eq_true, if_false] at gu ⊢
        rw [hup, List.length_append, List.length_append]
        have h1 := congrArg List.length hmid
        simp only [List.length_append] at h1
        have h2 : V.length = min (g - P.length) U.length := by rw [hV, List.length_take]
        have h3 : P.length = min g pk.length := by rw [hP, List.length_take]
        have h4 := List.length_drop (i := P.length) (l := pk)
        have h5 := List.length_drop (i := g - P.length) (l := U)
        omega
  · rw [hup, List.append_assoc, hmid, up]
  · rw [dnOf_append, dn_goes1, List.append_nil]
  · rw [endsOf_append, ends, ends_goes1, hfin]
    cases ut <;> cases dt <;> cases decide ((pk.drop P.length).length + (U.drop (g - P.length)).length = 0) <;> rfl
  · refine fine.goes1 _ _ _ fun hf => ?_
    rw [hf] at hfin
    have h1 := (Bool.and_eq_true_iff.1 hfin.symm).1
    have h1 := of_decide_eq_true h1
    have h2 : pk.drop P.length = [] := List.eq_nil_of_length_eq_zero (by omega)
    have h3 : U.drop (g - P.length) = [] := List.eq_nil_of_length_eq_zero (by omega)
    rw [h2, h3, List.append_nil, List.append_nil] at hmid
    rw [hmid, up]
  · simp only [List.length_append]; omega
  · rw [List.length_drop]; omega
/-- The way down. -/
theorem Ebb.canDown {s back : List UInt8} {relay k : Nat} {D : List UInt8} {dt : Bool} {log : List AC} {e : Int} (hD : D.length ≤ relay) (dn : dnOf log ++ D = back) (ends : endsOf log = e + (if dt then 10 else 0)) (fine : Fine s back log) (len : log.length ≤ 12001 + 6 * k + 3)
    (gd : if dt then D = [] else k ≤ (dnOf log).length) {g : Nat} (hg : 1 ≤ g) {fin : Bool} (hfin : fin = (decide ((D.drop g).length = 0) && !dt)) (all : Bool) :
    (if (dt || fin) then D.drop g = [] else k + 1 ≤ (dnOf (log ++ goesL 3 (D.take g) fin all)).length) ∧ dnOf (log ++ goesL 3 (D.take g) fin all) ++ D.drop g = back ∧ upOf (log ++ goesL 3 (D.take g) fin all) = upOf log ∧
    endsOf (log ++ goesL 3 (D.take g) fin all) = e + (if (dt || fin) then 10 else 0) ∧ Fine s back (log ++ goesL 3 (D.take g) fin all) ∧ (log ++ goesL 3 (D.take g) fin all).length ≤ 12001 + 6 * (k + 1) ∧ (D.drop g).length ≤ relay := by
  have hdn : dnOf (log ++ goesL 3 (D.take g) fin all) = dnOf log ++ D.take g := by rw [dnOf_append, dn_goes3]
  have hlen := len_goes 3 (D.take g) fin all
  refine ⟨?_, ?_, ?_, ?_, ?_, ?_, ?_⟩
  · cases dt with
    | true =>
      rw [if_pos rfl] at gd
      subst gd
      simp
    | false =>
      simp only [Bool.not_false, Bool.and_true, Bool.false_or] at hfin ⊢
      cases fin with
      | true =>
        have := of_decide_eq_true hfin.symm
        simp only [if_true]
        exact List.eq_nil_of_length_eq_zero this
      | false =>
        have h0 := of_decide_eq_false hfin.symm
        simp only [Bool.false_eq_true, if_false] at gd ⊢
        rw [hdn, List.length_append, List.length_take]
        rw [List.length_drop] at h0
        omega
  · rw [hdn, List.append_assoc, List.take_append_drop, dn]
  · rw [upOf_append, up_goes3, List.append_nil]
  · rw [endsOf_append, ends, ends_goes3, hfin]
    cases dt <;> cases decide ((D.drop g).length = 0) <;> simp
  · refine fine.goes3 _ _ _ fun hf => ?_
    rw [hf] at hfin
    have h1 := of_decide_eq_true (Bool.and_eq_true_iff.1 hfin.symm).1
    have h2 : D.drop g = [] := List.eq_nil_of_length_eq_zero h1
    have h3 := List.take_append_drop g D
    rw [h2, List.append_nil] at h3
    rw [h3, dn]
  · simp only [List.length_append]; omega
  · rw [List.length_drop]; omega
/-- At the end all went. -/
theorem Ebb.all {s back : List UInt8} {relay k : Nat} {pk U D : List UInt8} {ut dt : Bool} {log : List AC} (h : Ebb s back relay k pk U D ut dt log) (hs : s.length < k) (hb : back.length < k) : ut = true ∧ dt = true := by
  obtain ⟨hU, hD, up, dn, ends, fine, len, gu, gd⟩ := h
  have h1 := congrArg List.length up
  have h2 := congrArg List.length dn
  simp only [List.length_append] at h1 h2
  constructor
  · cases ut with
    | true => rfl
    | false => simp at gu; omega
  · cases dt with
    | true => rfl
    | false => simp at gd; omega
end Go.Proofs.YtonipcfnhmnnlaaGreatDoor
