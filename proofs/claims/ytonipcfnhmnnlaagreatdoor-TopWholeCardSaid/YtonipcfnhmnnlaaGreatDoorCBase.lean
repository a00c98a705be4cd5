/- Words of this seat's own: what a call owns in new memory, told block by block ('sat'); slices that read as lists; append and clone over them. No condition. -/
import Derived.WalkKit
import Derived.OrdersHeld
import Derived.Deep.QuietTactic
import Derived.BigQuiet
import Derived.Lib.Hide
import Derived.KernelRfl
namespace Go.Proofs.YtonipcfnhmnnlaaGreatDoor.Hg
open Go Go.RowKit
set_option linter.unusedVariables false
set_option linter.unusedSimpArgs false

/-- The smaller, the greater of two numbers: closed to the walk. -/
def mn (a b : Int) : Int := if b < a then b else a
def mx (a b : Int) : Int := if a < b then b else a
theorem mn_eq (a b : Int) : mn a b = min a b := by unfold mn; omega
theorem mx_eq (a b : Int) : mx a b = max a b := by unfold mx; omega
theorem run_min2 (k k' : IntKind) (x y : Int) : Builtin.min2 (.int k x) (.int k' y) = pure (.int k (mn x y)) := by simp only [Builtin.min2, mn]
theorem run_max2 (k k' : IntKind) (x y : Int) : Builtin.max2 (.int k x) (.int k' y) = pure (.int k (mx x y)) := by simp only [Builtin.max2, mx, gt_iff_lt]
theorem run_min_two (ats : Array TypeId) (ty : TypeId) (a b : Value) : Builtin.min_ ats ty #[a, b] = (Builtin.min2 a b >>= fun s => pure s) := by simp only [Builtin.min_, List.foldlM_cons, List.foldlM_nil]
theorem run_max_two (ats : Array TypeId) (ty : TypeId) (a b : Value) : Builtin.max_ ats ty #[a, b] = (Builtin.max2 a b >>= fun s => pure s) := by simp only [Builtin.max_, List.foldlM_cons, List.foldlM_nil]

/-! ### Assertions on pieces of the heap -/
abbrev HP := Nat → Option Obj
abbrev Asn := HP → Prop
def sep (A B : Asn) : Asn := fun h => ∃ h1 h2 : HP, (∀ b, h1 b = none ∨ h2 b = none) ∧ (∀ b o, h1 b = some o → h b = some o) ∧ (∀ b o, h2 b = some o → h b = some o) ∧ A h1 ∧ B h2
def star : List Asn → Asn
  | [] => fun _ => True
  | A :: l => sep A (star l)
/-- In world w, behind the call's first world w0: what was there is as it was; of the new blocks, apart from each other, the list holds. -/
def sat (w0 w : World) (l : List Asn) : Prop :=
  Below w0.heap.size w0 w ∧ ∃ h : HP, (∀ b o, h b = some o → w0.heap.size ≤ b ∧ w.heap[b]? = some o) ∧ star l h

theorem sep_comm {A B : Asn} {h : HP} (H : sep A B h) : sep B A h := by
  obtain ⟨h1, h2, hd, e1, e2, a, b⟩ := H
  exact ⟨h2, h1, fun x => (hd x).symm, e2, e1, b, a⟩
theorem sep_mono {A B A' B' : Asn} {h : HP} (ha : ∀ h, A h → A' h) (hb : ∀ h, B h → B' h) (H : sep A B h) : sep A' B' h := by
  obtain ⟨h1, h2, hd, e1, e2, a, b⟩ := H
  exact ⟨h1, h2, hd, e1, e2, ha _ a, hb _ b⟩
def HP.or (h1 h2 : HP) : HP := fun b => (h1 b).or (h2 b)
theorem HP.or_inl {h1 h2 : HP} {b : Nat} {o : Obj} (h : h1 b = some o) : HP.or h1 h2 b = some o := by simp [HP.or, h]
theorem HP.or_inr {h1 h2 : HP} (hd : ∀ b, h1 b = none ∨ h2 b = none) {b : Nat} {o : Obj} (h : h2 b = some o) : HP.or h1 h2 b = some o := by
  rcases hd b with h' | h'
  · simp [HP.or, h', h]
  · rw [h'] at h; cases h
theorem HP.or_elim {h1 h2 : HP} {b : Nat} {o : Obj} (h : HP.or h1 h2 b = some o) : h1 b = some o ∨ h2 b = some o := by
  unfold HP.or at h
  cases h' : h1 b with
  | none => rw [h'] at h; simp at h; exact .inr h
  | some x => rw [h'] at h; simp at h; exact .inl (by rw [h])
theorem sep_swap {A B C : Asn} {h : HP} (H : sep A (sep B C) h) : sep B (sep A C) h := by
  obtain ⟨h1, h2, hd, e1, e2, a, h3, h4, hd', e3, e4, b, c⟩ := H
  refine ⟨h3, HP.or h1 h4, fun x => ?_, fun x o hx => e2 _ _ (e3 _ _ hx), fun x o hx => ?_, b, h1, h4, fun x => ?_, fun x o hx => HP.or_inl hx, fun x o hx => HP.or_inr (fun y => ?_) hx, a, c⟩
  · cases hx : h3 x with
    | none => exact .inl rfl
    | some o =>
      right
      have h2x := e3 _ _ hx
      have h1x : h1 x = none := (hd x).resolve_right (by rw [h2x]; simp)
      have h4x : h4 x = none := (hd' x).resolve_left (by rw [hx]; simp)
      simp [HP.or, h1x, h4x]
  · rcases HP.or_elim hx with hx | hx
    · exact e1 _ _ hx
    · exact e2 _ _ (e4 _ _ hx)
  · cases hx : h4 x with
    | none => exact .inr rfl
    | some o => exact .inl ((hd x).resolve_right (by rw [e4 _ _ hx]; simp))
  · cases hx : h4 y with
    | none => exact .inr rfl
    | some o => exact .inl ((hd y).resolve_right (by rw [e4 _ _ hx]; simp))
theorem star_perm {l l' : List Asn} (p : l.Perm l') : ∀ h : HP, star l h → star l' h := by
  induction p with
  | nil => exact fun _ h => h
  | cons A _ ih => exact fun h H => sep_mono (fun _ h => h) ih H
  | swap A B l => exact fun h H => sep_swap H
  | trans _ _ ih1 ih2 => exact fun h H => ih2 _ (ih1 _ H)
theorem perm_pick {α : Type} : ∀ {l : List α} (i : Nat) {A : α}, l[i]? = some A → l.Perm (A :: l.eraseIdx i)
  | [], i, A, h => by simp at h
  | x :: l, 0, A, h => by simp at h; subst h; exact List.Perm.refl _
  | x :: l, i + 1, A, h => by
    simp only [List.getElem?_cons_succ] at h
    exact ((perm_pick i h).cons x).trans (.swap A x _)

section
variable {w0 w : World} {l r : List Asn} {A B : Asn}
theorem sat.below (h : sat w0 w l) : Below w0.heap.size w0 w := h.1
theorem sat.perm (h : sat w0 w l) (p : l.Perm r) : sat w0 w r := let ⟨hb, x, hx, hs⟩ := h; ⟨hb, x, hx, star_perm p _ hs⟩
/-- Bring number i to the front. -/
theorem sat.pick (h : sat w0 w l) (i : Nat) {A : Asn} (hi : l[i]? = some A) : sat w0 w (A :: l.eraseIdx i) := h.perm (perm_pick i hi)
theorem sat.swap (h : sat w0 w (A :: B :: l)) : sat w0 w (B :: A :: l) := h.perm (.swap _ _ _)
theorem sat.tail (h : sat w0 w (A :: l)) : sat w0 w l :=
  let ⟨hb, _, hx, _, h2, _, _, e2, _, b⟩ := h; ⟨hb, h2, fun b o hh => hx _ _ (e2 _ _ hh), b⟩
theorem sat.head (h : sat w0 w (A :: l)) : sat w0 w [A] :=
  let ⟨hb, _, hx, h1, _, _, e1, _, a, _⟩ := h; ⟨hb, h1, fun b o hh => hx _ _ (e1 _ _ hh), h1, fun _ => none, fun _ => .inr rfl, fun _ _ h => h, fun _ _ h => by simp at h, a, trivial⟩
theorem sat.mono (h : sat w0 w (A :: l)) (hA : ∀ h, A h → B h) : sat w0 w (B :: l) :=
  let ⟨hb, x, hx, hs⟩ := h; ⟨hb, x, hx, sep_mono hA (fun _ h => h) hs⟩
theorem sat.size (h : sat w0 w l) : w0.heap.size ≤ w.heap.size := h.1.size
theorem sat_start (w0 : World) : sat w0 w0 [] := ⟨Below.refl _ _, fun _ => none, fun _ _ h => by simp at h, trivial⟩
/-- A draw. -/
theorem sat.drew (h : sat w0 w l) : sat w0 w.drew l := ⟨h.1.drew, h.2⟩
theorem sat.drewN (h : sat w0 w l) (n : Nat) : sat w0 (w.drewN n) l := by
  induction n with
  | zero => exact h
  | succ n ih => exact ⟨⟨h.1.os, h.1.tape, h.1.output, h.1.size, h.1.block⟩, h.2⟩
end

theorem range_filterMap {α : Type} (l : List α) : ∀ k, (List.range k).filterMap (fun i => l[i]?) = l.take k
  | 0 => by simp
  | k + 1 => by
    rw [List.range_succ, List.filterMap_append, range_filterMap l k]
    rcases Nat.lt_or_ge k l.length with h | h
    · rw [List.take_succ_eq_append_getElem h]; simp only [List.filterMap_cons, List.filterMap_nil, List.getElem?_eq_getElem h]
    · simp [List.getElem?_eq_none h, List.take_of_length_le h, List.take_of_length_le (Nat.le_succ_of_le h)]
/-- Of the first k of the list those numbered 'ord', in that order; the others are let go. -/
theorem sat.re {w0 w : World} {l : List Asn} (h : sat w0 w l) (k : Nat) (ord rest : List Nat) {r : List Asn} (hr : ord.filterMap (fun i => (l.take k)[i]?) ++ l.drop k = r) (hp : (List.range k).Perm (rest ++ ord) := by decide) : sat w0 w r := by
  have h1 : ((List.range k).filterMap fun i => (l.take k)[i]?).Perm ((rest ++ ord).filterMap fun i => (l.take k)[i]?) := hp.filterMap _
  rw [range_filterMap, List.take_take, Nat.min_self, List.filterMap_append] at h1
  have h2 := h.perm (r := (rest.filterMap (fun i => (l.take k)[i]?) ++ ord.filterMap fun i => (l.take k)[i]?) ++ l.drop k) (by
    have := h1.append_right (l.drop k)
    rwa [List.take_append_drop] at this)
  rw [List.append_assoc, hr] at h2
  clear h1 hr
  generalize rest.filterMap (fun i => (l.take k)[i]?) = m at h2
  induction m with
  | nil => exact h2
  | cons a m ih => exact ih h2.tail

/-! ### A block -/
/-- Block g holds the object o. -/
def blk (g : Nat) (o : Obj) : Asn := fun h => h g = some o
/-- Facts beside. -/
def pure' (p : Prop) (A : Asn) : Asn := fun h => p ∧ A h

section
variable {w0 w : World} {l r : List Asn} {A B : Asn} {g : Nat} {o : Obj}
theorem sat.get (h : sat w0 w (blk g o :: l)) : w.heap[g]? = some o ∧ w0.heap.size ≤ g := by
  obtain ⟨_, x, hx, h1, h2, _, e1, _, a, _⟩ := h
  have := hx _ _ (e1 _ _ a)
  exact ⟨this.2, this.1⟩
theorem sat.lt (h : sat w0 w (blk g o :: l)) : g < w.heap.size := (Array.getElem?_eq_some_iff.1 h.get.1).1
/-- The head block changed, all else as it was. -/
theorem sat.put {w' : World} {o' : Obj} (h : sat w0 w (blk g o :: l)) (hos : w'.os = w.os) (htape : w'.tape = w.tape) (hout : w'.output = w.output) (hsz : w.heap.size ≤ w'.heap.size)
    (hg : w'.heap[g]? = some o') (hold : ∀ b, b < w.heap.size → b ≠ g → w'.heap[b]? = w.heap[b]?) : sat w0 w' (blk g o' :: l) := by
  obtain ⟨hb, x, hx, h1, h2, hd, e1, e2, a, b⟩ := h
  have hge := hx _ _ (e1 _ _ a)
  refine ⟨⟨hos.trans hb.os, htape.trans hb.tape, hout.trans hb.output, Nat.le_trans hb.size hsz, fun k hk => ?_⟩, fun k => if k = g then some o' else h2 k, ?_, fun k => if k = g then some o' else none, h2, ?_, ?_, ?_, by simp [blk], b⟩
  · rw [hold k (by have := hb.size; omega) (by omega)]; exact hb.block k hk
  · intro k o hk
    by_cases hkg : k = g
    · subst hkg; simp at hk; subst hk; exact ⟨hge.1, hg⟩
    · simp [hkg] at hk
      have := hx _ _ (e2 _ _ hk)
      have hlt : k < w.heap.size := (Array.getElem?_eq_some_iff.1 this.2).1
      exact ⟨this.1, by rw [hold k hlt hkg]; exact this.2⟩
  · intro k
    by_cases hkg : k = g
    · subst hkg; right; exact (hd k).resolve_left (by rw [show h1 k = some o from a]; simp)
    · left; simp [hkg]
  · intro k o hk
    by_cases hkg : k = g
    · simpa [hkg] using hk
    · simp [hkg] at hk
  · intro k o hk
    have hkg : k ≠ g := by
      rintro rfl
      have := (hd k).resolve_left (by rw [show h1 k = some _ from a]; simp)
      rw [hk] at this; cases this
    simp [hkg, hk]
/-- A new block. -/
theorem sat.alloc (h : sat w0 w l) (o : Obj) : sat w0 (w.alloc o) (blk w.heap.size o :: l) := by
  obtain ⟨hb, x, hx, hs⟩ := h
  have hnew : (w.alloc o).heap[w.heap.size]? = some o := heap_alloc_new w o
  refine ⟨hb.alloc hb.size o, fun k => if k = w.heap.size then some o else x k, ?_, fun k => if k = w.heap.size then some o else none, x, ?_, ?_, ?_, by simp [blk], hs⟩
  · intro k o' hk
    by_cases hkg : k = w.heap.size
    · subst hkg; simp at hk; subst hk; exact ⟨hb.size, hnew⟩
    · simp [hkg] at hk
      have := hx _ _ hk
      exact ⟨this.1, by rw [Below.heap_alloc w o k (Array.getElem?_eq_some_iff.1 this.2).1]; exact this.2⟩
  · intro k
    by_cases hkg : k = w.heap.size
    · subst hkg; right
      cases hk : x w.heap.size with
      | none => rfl
      | some o' => have := (Array.getElem?_eq_some_iff.1 (hx _ _ hk).2).1; omega
    · left; simp [hkg]
  · intro k o' hk
    by_cases hkg : k = w.heap.size
    · simpa [hkg] using hk
    · simp [hkg] at hk
  · intro k o' hk
    have hkg : k ≠ w.heap.size := by
      rintro rfl
      have := (Array.getElem?_eq_some_iff.1 (hx _ _ hk).2).1; omega
    simp [hkg, hk]
/-- New memory that nobody asks after. -/
theorem sat.allocs (h : sat w0 w l) {w' : World} (hos : w'.os = w.os) (htape : w'.tape = w.tape) (hout : w'.output = w.output) (hsz : w.heap.size ≤ w'.heap.size)
    (hold : ∀ b, b < w.heap.size → w'.heap[b]? = w.heap[b]?) : sat w0 w' l := by
  obtain ⟨hb, x, hx, hs⟩ := h
  refine ⟨⟨hos.trans hb.os, htape.trans hb.tape, hout.trans hb.output, Nat.le_trans hb.size hsz, fun k hk => ?_⟩, x, fun k o hk => ?_, hs⟩
  · rw [hold k (by have := hb.size; omega)]; exact hb.block k hk
  · have := hx _ _ hk
    exact ⟨this.1, by rw [hold k (Array.getElem?_eq_some_iff.1 this.2).1]; exact this.2⟩
/-- A store into a block of cells. -/
theorem sat.store {cs : Array Value} {T i : Nat} {fr : Nat × Nat} (h : sat w0 w (blk g (.cells cs T fr) :: l)) (v : Value) : sat w0 (w.setCell ⟨g, i, none⟩ v) (blk g (.cells (cs.setIfInBounds i v) T fr) :: l) := by
  have hg := h.get.1
  refine h.put rfl rfl rfl (by simp [World.setCell]) ?_ fun b _ hne => Below.heap_setCell w ⟨g, i, none⟩ v b hne
  simp only [World.setCell, Array.getElem?_modify]
  rw [hg]
  simp
theorem sat.ne {g' : Nat} {o' : Obj} (h : sat w0 w (blk g o :: blk g' o' :: l)) : g ≠ g' := by
  obtain ⟨_, x, hx, h1, h2, hd, e1, e2, a, h3, h4, _, e3, _, b, _⟩ := h
  rintro rfl
  rcases hd g with h' | h'
  · rw [show h1 g = some o from a] at h'; cases h'
  · rw [e3 _ _ b] at h'; cases h'
theorem cellAt {cs : Array Value} {T : Nat} {fr : Nat × Nat} (h : w.heap[g]? = some (.cells cs T fr)) (i : Nat) : w.cell? ⟨g, i, none⟩ = cs[i]? := by simp [World.cell?, h]
theorem frozenAt {cs : Array Value} {T : Nat} (h : w.heap[g]? = some (.cells cs T (0, 0))) (i : Nat) : w.frozen? ⟨g, i, none⟩ = false := by simp [World.frozen?, h]
end

/-- A world in which the list holds: for a class of worlds. -/
structure SW (w0 : World) (L : List Asn) : Type where
  w : World
  h : sat w0 w L

/-! ### Slices: m elements of sz cells each -/
/-- In world w the slice v has n elements, whose cells are xs. -/
def ReadsC (sz : Nat) (w : World) (v : Value) (n : Nat) (xs : List Value) : Prop :=
  xs.length = n * sz ∧ ((v = .slice none 0 0 ∧ n = 0) ∨ ∃ ad cap, v = .slice (some ad) n cap ∧ n ≤ cap ∧ cap ≤ maxLen ∧ ∀ j u, xs[j]? = some u → w.cell? (ad.add j) = some u)
/-- An owned slice of n elements, from the head of its own block; its cells are xs. -/
def RowC (e sz : Nat) (v : Value) (n : Nat) (xs : List Value) : Asn := fun h =>
  xs.length = n * sz ∧ ((v = .slice none 0 0 ∧ n = 0) ∨ ∃ g cap, ∃ cur : Array Value, v = .slice (some ⟨g, 0, none⟩) n cap ∧ h g = some (.cells cur e (0, 0)) ∧ n ≤ cap ∧ cap ≤ maxLen ∧ cur.size = cap * sz ∧ cur.toList.take (n * sz) = xs)

theorem addAt (b o j : Nat) : (⟨b, o, none⟩ : Addr).add j = ⟨b, o + j, none⟩ := by unfold Addr.add; split <;> simp_all

section
variable {w0 w : World} {R : List Asn} {v : Value} {n e sz : Nat} {xs : List Value}
theorem ReadsC.below {w' : World} (h : ReadsC sz w v n xs) (hb : Below w.heap.size w w') : ReadsC sz w' v n xs := by
  obtain ⟨hl, h⟩ := h
  refine ⟨hl, ?_⟩
  rcases h with h | ⟨ad, cap, rfl, h1, h2, h3⟩
  · exact .inl h
  · refine .inr ⟨ad, cap, rfl, h1, h2, fun j u hj => ?_⟩
    have := h3 j u hj
    rw [hb.cell (World.block_lt_of_cell? w _ this)]; exact this
theorem RowC.readsC (h : sat w0 w (RowC e sz v n xs :: R)) : ReadsC sz w v n xs := by
  obtain ⟨_, x, hx, h1, h2, hd, e1, e2, a, _⟩ := h
  obtain ⟨hl, a⟩ := a
  refine ⟨hl, ?_⟩
  rcases a with h | ⟨g, cap, cur, rfl, hg, hle, hm, hs, ht⟩
  · exact .inl h
  · refine .inr ⟨⟨g, 0, none⟩, cap, rfl, hle, hm, fun j u hj => ?_⟩
    have hh := (hx _ _ (e1 _ _ hg)).2
    rw [addAt, Nat.zero_add, cellAt hh, ← Array.getElem?_toList]
    rw [← ht, List.getElem?_take] at hj
    split at hj
    · exact hj
    · cases hj
theorem RowC.nil (h : sat w0 w R) (e sz : Nat) : sat w0 w (RowC e sz (.slice none 0 0) 0 [] :: R) := by
  obtain ⟨hb, x, hx, hs⟩ := h
  exact ⟨hb, x, hx, fun _ => none, x, fun _ => .inl rfl, fun _ _ h => by simp at h, fun _ _ h => h, ⟨by simp, .inl ⟨rfl, rfl⟩⟩, hs⟩
/-- A block of cells is a row. -/
theorem RowC.of_blk {g cap : Nat} {cur : Array Value} (h : sat w0 w (blk g (.cells cur e) :: R)) (n : Nat) (xs : List Value) (hl : xs.length = n * sz) (hn : n ≤ cap) (hc : cap ≤ maxLen) (hs : cur.size = cap * sz) (ht : cur.toList.take (n * sz) = xs) :
    sat w0 w (RowC e sz (.slice (some ⟨g, 0, none⟩) n cap) n xs :: R) :=
  h.mono fun _ hg => ⟨hl, .inr ⟨g, cap, cur, rfl, hg, hn, hc, hs, ht⟩⟩
/-- A row as its block. -/
theorem RowC.blk_of (h : sat w0 w (RowC e sz v n xs :: R)) : xs.length = n * sz ∧ ((v = .slice none 0 0 ∧ n = 0 ∧ sat w0 w R) ∨
    ∃ g cap, ∃ cur : Array Value, v = .slice (some ⟨g, 0, none⟩) n cap ∧ n ≤ cap ∧ cap ≤ maxLen ∧ cur.size = cap * sz ∧ cur.toList.take (n * sz) = xs ∧ sat w0 w (blk g (.cells cur e) :: R)) := by
  have h' := h
  obtain ⟨hb, x, hx, h1, h2, hd, e1, e2, a, b⟩ := h
  obtain ⟨hl, a⟩ := a
  refine ⟨hl, ?_⟩
  rcases a with ⟨h, hn⟩ | ⟨g, cap, cur, rfl, hg, hle, hm, hs, ht⟩
  · exact .inl ⟨h, hn, h'.tail⟩
  · exact .inr ⟨g, cap, cur, rfl, hle, hm, hs, ht, hb, x, hx, h1, h2, hd, e1, e2, hg, b⟩
end

theorem RowC.form {w0 w : World} {v : Value} {e sz n : Nat} {xs : List Value} {R : List Asn} (h : sat w0 w (RowC e sz v n xs :: R)) : ∃ a c, v = .slice a n c ∧ n ≤ c ∧ c ≤ maxLen := by
  rcases (RowC.readsC h).2 with ⟨h1, h2⟩ | ⟨ad, cap, h0, h1, h2, _⟩
  · exact ⟨none, 0, by rw [h1, h2], by omega, by unfold maxLen; omega⟩
  · exact ⟨_, _, h0, h1, h2⟩
theorem setRow_sat {w0 w : World} {R : List Asn} {g T : Nat} {cur new : Array Value} (h : sat w0 w (blk g (.cells cur T) :: R)) : sat w0 (w.setRow g new) (blk g (.cells new T) :: R) :=
  h.put rfl rfl rfl (by simp [World.setRow]) (setRow_heap w g cur _ T _ h.get.1) fun b _ hne => setRow_other w g b _ hne

section
variable {P : Program} {t ty e : TypeId} {i : TypeInfo} {z : Value} {sz bytes : Nat}
theorem run_append_none (ht : P.underlying t = some (.slice e)) (hi : P.info? e = some i) (w : World) (a : Option Addr) (n c : Nat) (hn : n ≤ c) (l : Nat) :
    (Builtin.append_ #[t, t] ty #[.slice a n c, .slice none 0 l]).run P w = .ok (.slice a n c) w := by
  cases a <;> simp [Builtin.append_, run_underlying ht, sizeOf, typeInfo, hi, Builtin.lenOf, Builtin.firstCells, hn, storeCells]
/-- append onto an owned row: of whatever reads. -/
theorem run_append_row (ht : P.underlying t = some (.slice e)) (hi : P.info? e = some i) (hz : i.zero = some z) (hsize : i.size = sz) (hby : i.bytes = bytes) (hzs : z.cells.size = sz) (hsz : 0 < sz) (hb0 : 0 < bytes)
    {w0 w : World} {R : List Asn} {v x : Value} {n m : Nat} {xs ys : List Value} (h : sat w0 w (RowC e sz v n xs :: R)) (hx : ReadsC sz w x m ys) (h1 : ∀ u ∈ ys, u.oneCell' = true) (hbytes : (n + m) * bytes ≤ 140737488355328) :
    ∃ v' w', (Builtin.append_ #[t, t] ty #[v, x]).run P w = .ok v' w' ∧ sat w0 w' (RowC e sz v' (n + m) (xs ++ ys) :: R) ∧ (v' = .slice none 0 0 ↔ v = .slice none 0 0 ∧ m = 0) := by
  subst hsize
  subst hby
  have hnm : n + m ≤ 140737488355328 := Nat.le_trans (Nat.le_mul_of_pos_right _ hb0) hbytes
  have hmax : n + m ≤ maxLen := by unfold maxLen; omega
  obtain ⟨hly, hx⟩ := hx
  obtain ⟨hlx, hv⟩ := RowC.blk_of h
  have hlen : (xs ++ ys).length = (n + m) * i.size := by rw [List.length_append, hlx, hly, Nat.add_mul]
  rcases hx with ⟨rfl, rfl⟩ | ⟨ad, cap, rfl, hmc, hcm, hcell⟩
  · have hy : ys = [] := List.eq_nil_of_length_eq_zero (by simpa using hly)
    subst hy
    rw [List.append_nil, Nat.add_zero]
    rcases hv with ⟨rfl, rfl, hr⟩ | ⟨g, c, cur, rfl, hnc, hc, hs, htk, hb⟩
    · exact ⟨_, w, run_append_none ht hi w none 0 0 (Nat.le_refl _) 0, h, by simp⟩
    · exact ⟨_, w, run_append_none ht hi w _ _ _ hnc 0, h, by simp⟩
  · have hnews : ∀ j u, ys[j]? = some u → w.cell? (ad.add j) = some u := hcell
    have grown : ∀ (old : Nat), old < n + m → (hR : sat w0 w R) →
        sat w0 (w.drew.alloc (.cells (xs.toArray ++ ys.toArray ++ Builtin.zeroCells z.cells (grownCap w (n + m) old e - (n + m))) e)) (RowC e i.size (.slice (some ⟨w.heap.size, 0, none⟩) (n + m) (grownCap w (n + m) old e)) (n + m) (xs ++ ys) :: R) := by
      intro old ho hR
      have hge := grownCap_ge w (n + m) old e
      refine RowC.of_blk (hR.drew.alloc _) _ _ hlen hge (grownCap_le_maxLen w (n + m) old e hmax) ?_ ?_
      · simp only [Array.size_append, List.size_toArray, size_zeroCells, hzs, hlx, hly, ← Nat.add_mul]
        congr 1
        omega
      · simp only [Array.toList_append, List.append_assoc]
        rw [← List.append_assoc, ← hlen]
        exact List.take_left
    rcases hv with ⟨rfl, rfl, hr⟩ | ⟨g, c, cur, rfl, hnc, hc, hs, htk, hb⟩
    · have hx0 : xs = [] := List.eq_nil_of_length_eq_zero (by simpa using hlx)
      subst hx0
      by_cases hm0 : m = 0
      · subst hm0
        have hy : ys = [] := List.eq_nil_of_length_eq_zero (by simpa using hly)
        subst hy
        refine ⟨.slice none 0 0, w, ?_, h, by simp⟩
        simp [Builtin.append_, run_underlying ht, sizeOf, typeInfo, hi, Builtin.lenOf, Builtin.firstCells, loadCells, loadCellsFrom]
      · have hrun := run_append_nil (P := P) w t ty e i z ht hi hz ad m cap ys hly hnews (by omega) (by unfold maxLen at hmax; omega) (by simp only [Nat.zero_add] at hbytes; omega)
        have hgr := grown 0 (by omega) hr
        simp only [Nat.zero_add, List.nil_append, Array.empty_append] at hgr ⊢
        exact ⟨_, _, hrun, hgr, by simp [hm0]⟩
    · by_cases hroom : n + m ≤ c
      · have hfit : n * i.size + ys.length ≤ cur.size := by rw [hly, hs, ← Nat.add_mul]; exact Nat.mul_le_mul_right _ hroom
        have hrun := run_append_room (P := P) w t ty e i ht hi g n c cur hb.get.1 ad m cap ys hly hnews h1 hroom hfit
        refine ⟨_, _, hrun, RowC.of_blk (setRow_sat hb) _ _ hlen hroom hc ?_ ?_, by simp⟩
        · simp only [List.size_toArray, List.length_append, List.length_take, List.length_drop, Array.length_toList]
          omega
        · rw [htk, ← hlen]
          exact List.take_left
      · have holds : ∀ j u, xs[j]? = some u → w.cell? ((⟨g, 0, none⟩ : Addr).add j) = some u := fun j u hj => by
          rw [addAt, Nat.zero_add, cellAt hb.get.1, ← Array.getElem?_toList]
          rw [← htk, List.getElem?_take] at hj
          split at hj
          · exact hj
          · cases hj
        have hrun := run_append_grow (P := P) w t ty e i z ht hi hz ⟨g, 0, none⟩ n c xs hlx holds ad m cap ys hly hnews (by omega) (by unfold maxLen at hmax; omega) (growslice_fits (by omega) hbytes)
        exact ⟨_, _, hrun, grown c (by omega) hb.tail, by simp⟩
end

section
variable {P : Program}
/-- append as one operation: the row first in the list. -/
theorem op_append_row {o : Oper} {a : Act} {K : Act → World → Prop} {Q : Exit → Act → World → Prop} {s x : Operand} {t : TypeId}
    (ho : o.op = .call { callee := .builtin .append, args := #[s, x], argTypes := #[t, t] }) {e : TypeId} {z : Value} {sz bytes : Nat} (ht : P.underlying t = some (.slice e))
    (hi : (P.info? e).map (fun i => (i.zero, i.size, i.bytes)) = some (some z, sz, bytes)) (hzs : z.cells.size = sz) (hsz : 0 < sz) (hb0 : 0 < bytes)
    {v y : Value} (hs : a.eval s = v) (hy : a.eval x = y) {w0 w : World} {R : List Asn} {n m : Nat} {xs ys : List Value} (h : sat w0 w (RowC e sz v n xs :: R)) (hx : ReadsC sz w y m ys) (h1 : ∀ u ∈ ys, u.oneCell' = true) (hbytes : (n + m) * bytes ≤ 140737488355328)
    (hk : ∀ v' w', sat w0 w' (RowC e sz v' (n + m) (xs ++ ys) :: R) → (v' = .slice none 0 0 ↔ v = .slice none 0 0 ∧ m = 0) → K (a.put o.dst v') w') : o.wp P a w K Q := by
  obtain ⟨i, hi1, hz1, hz2, hz3⟩ := info_parts hi
  obtain ⟨v', w', hr, h2, h3⟩ := run_append_row (P := P) (ty := o.type) ht hi1 hz1 hz2 hz3 hzs hsz hb0 h hx h1 hbytes
  unfold Oper.wp execOp
  simp only [ho, resolve, invoke, builtin, Sem.run_bind, Sem.run_pure, Result.andThen_ok, List.map_toArray, List.map_cons, List.map_nil, hs, hy, hr]
  exact hk v' w' h2 h3
/-- []T{}: a row of none. -/
theorem op_build0 {o : Oper} {a : Act} {K : Act → World → Prop} {Q : Exit → Act → World → Prop} {T e : TypeId} (ho : o.op = .buildSlice T 0 #[]) (hT : P.underlying T = some (.slice e)) {z : Value} {sz bytes : Nat}
    (hi : (P.info? e).map (fun i => (i.zero, i.size, i.bytes)) = some (some z, sz, bytes)) {w0 w : World} {R : List Asn} (H : sat w0 w R)
    (hk : ∀ v' w', sat w0 w' (RowC e sz v' 0 [] :: R) → K (a.put o.dst v') w') : o.wp P a w K Q := by
  obtain ⟨i, hi1, hz1, hz2, hz3⟩ := info_parts hi
  unfold Oper.wp execOp
  simp [ho, Instr.buildSlice, run_underlying hT, sizeOf, typeInfo, hi1, Instr.fill, newRow]
  exact hk _ _ (RowC.of_blk (cap := 0) (H.alloc _) 0 [] (by simp) (Nat.le_refl _) (Nat.zero_le _) (by simp) (by simp))
/-- Some cells of a block written anew. -/
def splice (cs : Array Value) (i : Nat) (vs : List Value) : Array Value := (cs.toList.take i ++ (vs ++ cs.toList.drop (i + vs.length))).toArray
/-- A store, of as many cells as its type has, into a block that is owned. -/
theorem op_store {o : Oper} {a : Act} {K : Act → World → Prop} {Q : Exit → Act → World → Prop} {ad x : Operand} {T : TypeId} (ho : o.op = .store T ad x) {vs : List Value} (hi : (P.info? T).map (·.size) = some vs.length)
    {g i T' : Nat} (had : a.eval ad = .pointer (some ⟨g, i, none⟩)) {v : Value} (hv : a.eval x = v) (hvs : v.cells = vs.toArray) (h1 : ∀ u ∈ vs, u.oneCell' = true)
    {w0 w : World} {R : List Asn} {cs : Array Value} (H : sat w0 w (blk g (.cells cs T') :: R)) (hfit : i + vs.length ≤ cs.size)
    (hk : ∀ w', sat w0 w' (blk g (.cells (splice cs i vs) T') :: R) → K (a.put o.dst undef) w') : o.wp P a w K Q := by
  have hst := run_storeCells_at P g i T' vs 0 cs w H.get.1 (by simpa using hfit) h1
  obtain ⟨inf, hinf, hsz⟩ : ∃ inf, P.info? T = some inf ∧ inf.size = vs.length := by
    cases hp : P.info? T with
    | none => rw [hp] at hi; cases hi
    | some inf => rw [hp] at hi; exact ⟨inf, rfl, by simpa using hi⟩
  unfold Oper.wp execOp
  simp only [ho, had, hv]
  simp only [Nat.add_zero] at hst
  simp [Instr.storeAt, Instr.sureAddr, storeVar, sizeOf, typeInfo, hinf, hsz, hvs, hst]
  exact hk _ (setRow_sat H)
/-- A store of one cell. -/
theorem op_store1 {o : Oper} {a : Act} {K : Act → World → Prop} {Q : Exit → Act → World → Prop} {ad x : Operand} {T : TypeId} (v : Value) (ho : o.op = .store T ad x) (hi : (P.info? T).map (·.size) = some 1)
    {g i T' : Nat} (had : a.eval ad = .pointer (some ⟨g, i, none⟩)) (hv : a.eval x = v) (h1 : v.oneCell' = true) (h1' : v.cells = #[v])
    {w0 w : World} {R : List Asn} {cs : Array Value} (H : sat w0 w (blk g (.cells cs T') :: R)) (hfit : i < cs.size)
    (hk : ∀ w', sat w0 w' (blk g (.cells (cs.setIfInBounds i v) T') :: R) → K (a.put o.dst undef) w') : o.wp P a w K Q := by
  refine op_store (vs := [v]) ho hi had hv h1' (by intro u hu; simp at hu; subst hu; exact h1) H (by simp; omega) fun w' hw' => hk w' ?_
  have e : splice cs i [v] = cs.setIfInBounds i v := by
    apply Array.ext'
    simp only [splice, List.length_singleton, List.singleton_append, Array.toList_setIfInBounds]
    rw [List.set_eq_take_append_cons_drop, if_pos (by simpa using hfit)]
  rw [e] at hw'
  exact hw'
end

/-! ### Slices of bytes -/
/-- A byte as a cell. -/
def B8 (c : UInt8) : Value := .int .u8 (c.toNat : Int)
/-- In world w the slice v reads as the bytes l. -/
def Reads (w : World) (v : Value) (l : List UInt8) : Prop := ReadsC 1 w v l.length (l.map B8)
/-- An owned slice of the bytes l. -/
def Row (v : Value) (l : List UInt8) : Asn := RowC 5 1 v l.length (l.map B8)
/-- Whatever world holds the list: the slice reads so. -/
def Rd (w0 : World) (R : List Asn) (v : Value) (l : List UInt8) : Prop := ∀ w, sat w0 w R → Reads w v l
section
variable {w0 w : World} {R : List Asn} {v : Value} {l : List UInt8} {A : Asn}
theorem Rd.weak (h : Rd w0 R v l) : Rd w0 (A :: R) v l := fun w hw => h w hw.tail
theorem Rd.row : Rd w0 (Row v l :: R) v l := fun _ h => RowC.readsC h
theorem Rd.old (h : Reads w0 v l) : Rd w0 R v l := fun _ hw => h.below hw.below
theorem Rd.perm {S : List Asn} (h : Rd w0 R v l) (p : S.Perm R) : Rd w0 S v l := fun w hw => h w (hw.perm p)
theorem Row.nil (h : sat w0 w R) : sat w0 w (Row (.slice none 0 0) [] :: R) := RowC.nil h _ _
theorem Reads.len (h : Reads w v l) : l.length ≤ maxLen := by
  rcases h.2 with ⟨_, h⟩ | ⟨ad, cap, _, h1, h2, _⟩
  · rw [h]; exact Nat.zero_le _
  · omega
/-- What a slice of bytes is, as a value; its cells. -/
theorem Reads.cases (h : Reads w v l) : (v = .slice none 0 0 ∧ l = []) ∨ ∃ ad cap, v = .slice (some ad) l.length cap ∧ l.length ≤ cap ∧ cap ≤ maxLen ∧ ∀ i, i < l.length → w.cell? (ad.add i) = some (B8 (l.getD i 0)) := by
  rcases h.2 with ⟨h1, h2⟩ | ⟨ad, cap, h0, h1, h2, h3⟩
  · exact .inl ⟨h1, List.eq_nil_of_length_eq_zero h2⟩
  · refine .inr ⟨ad, cap, h0, h1, h2, fun i hi => h3 _ _ ?_⟩
    rw [List.getElem?_map, List.getElem?_eq_getElem hi]
    simp [List.getD, List.getElem?_eq_getElem hi]
theorem Reads.of_cells {ad : Addr} {cap : Nat} (h1 : l.length ≤ cap) (h2 : cap ≤ maxLen) (h3 : ∀ i, i < l.length → w.cell? (ad.add i) = some (B8 (l.getD i 0))) : Reads w (.slice (some ad) l.length cap) l := by
  refine ⟨by simp, .inr ⟨ad, cap, rfl, h1, h2, fun j u hj => ?_⟩⟩
  rw [List.getElem?_map] at hj
  have hjl : j < l.length := by
    rcases Nat.lt_or_ge j l.length with h | h
    · exact h
    · rw [List.getElem?_eq_none h] at hj; cases hj
  rw [h3 j hjl]
  rw [List.getElem?_eq_getElem hjl] at hj
  simpa [List.getD, List.getElem?_eq_getElem hjl] using hj
/-- What came in: whole numbers that are bytes. -/
theorem Reads.of_ints {ad : Addr} {len cap : Nat} {zs : List Int} (h1 : len ≤ cap) (h2 : cap ≤ maxLen) (h3 : zs.length = cap) (h4 : ∀ i, i < zs.length → w.cell? (ad.add i) = some (.int .u8 (zs.getD i 0))) (h5 : ∀ n ∈ zs, (Lit.int .u8 n).wf = true) :
    ∃ l : List UInt8, l.length = len ∧ Reads w (.slice (some ad) len cap) l := by
  have hl : ((zs.take len).map fun n => UInt8.ofNat n.toNat).length = len := by rw [List.length_map, List.length_take]; omega
  refine ⟨(zs.take len).map fun n => UInt8.ofNat n.toNat, hl, ?_⟩
  have := Reads.of_cells (w := w) (ad := ad) (cap := cap) (l := (zs.take len).map fun n => UInt8.ofNat n.toNat) (by omega) h2 (fun i hi => by
    rw [hl] at hi
    rw [h4 i (by omega)]
    have hi2 : i < zs.length := by omega
    have hw := h5 zs[i] (List.getElem_mem hi2)
    have hm1 : IntKind.u8.min = 0 := rfl
    have hm2 : IntKind.u8.max = 255 := rfl
    simp only [Lit.wf, Bool.and_eq_true, decide_eq_true_eq] at hw
    simp only [List.getD, List.getElem?_map, List.getElem?_take, if_pos hi, List.getElem?_eq_getElem hi2, Option.map_some, Option.getD_some, B8]
    congr 2
    have : zs[i].toNat < 256 := by omega
    simp
    omega)
  rw [hl] at this
  exact this
/-- append of bytes onto a row of bytes. -/
theorem op_append_bytes {P : Program} {o : Oper} {a : Act} {K : Act → World → Prop} {Q : Exit → Act → World → Prop} {s x : Operand} {t : TypeId}
    (ho : o.op = .call { callee := .builtin .append, args := #[s, x], argTypes := #[t, t] }) (ht : P.underlying t = some (.slice 5))
    (hi : (P.info? 5).map (fun i => (i.zero, i.size, i.bytes)) = some (some (.int .u8 0), 1, 1))
    {v y : Value} (hs : a.eval s = v) (hy : a.eval x = y) {w0 w : World} {R : List Asn} {l m : List UInt8} (h : sat w0 w (Row v l :: R)) (hx : Reads w y m) (hb : l.length + m.length ≤ 140737488355328)
    (hk : ∀ v' w', sat w0 w' (Row v' (l ++ m) :: R) → (v' = .slice none 0 0 ↔ v = .slice none 0 0 ∧ m.length = 0) → K (a.put o.dst v') w') : o.wp P a w K Q := by
  refine op_append_row ho ht hi rfl (by decide) (by decide) hs hy h hx ?_ (by omega) fun v' w' h1 h2 => hk v' w' ?_ h2
  · intro u hu
    obtain ⟨c, _, rfl⟩ := List.mem_map.1 hu
    rfl
  · simpa [Row] using h1
theorem wp_append_bytes {P : Program} {ops : Array Oper} {rest : List Oper} {o : Oper} {a : Act} {Q : Exit → Act → World → Prop} (hgd : o.guard = none) {s x : Operand} {t : TypeId}
    (ho : o.op = .call { callee := .builtin .append, args := #[s, x], argTypes := #[t, t] }) (ht : P.underlying t = some (.slice 5))
    (hi : (P.info? 5).map (fun i => (i.zero, i.size, i.bytes)) = some (some (.int .u8 0), 1, 1))
    {v y : Value} (hs : a.eval s = v) (hy : a.eval x = y) {w0 w : World} {R : List Asn} {l m : List UInt8} (h : sat w0 w (Row v l :: R)) (hx : Reads w y m) (hb : l.length + m.length ≤ 140737488355328)
    (hk : ∀ v' w', sat w0 w' (Row v' (l ++ m) :: R) → (v' = .slice none 0 0 ↔ v = .slice none 0 0 ∧ m.length = 0) → wpList P ops Q rest (a.put o.dst v') w') : wpList P ops Q (o :: rest) a w :=
  wpList_plain hgd fun _ hK => op_append_bytes ho ht hi hs hy h hx hb fun v' w' h1 h2 => hK _ _ (hk v' w' h1 h2)
/-- The first n bytes. -/
theorem Row.form {w0 w : World} {v : Value} {l : List UInt8} {R : List Asn} (h : sat w0 w (Row v l :: R)) : ∃ a c, v = .slice a l.length c ∧ l.length ≤ c ∧ c ≤ maxLen := RowC.form h
theorem Reads.form {w : World} {v : Value} {l : List UInt8} (h : Reads w v l) : ∃ a c, v = .slice a l.length c ∧ l.length ≤ c ∧ c ≤ maxLen := by
  rcases h.2 with ⟨h1, h2⟩ | ⟨ad, cap, h0, h1, h2, _⟩
  · exact ⟨none, 0, by rw [h1, h2], by omega, by unfold maxLen; omega⟩
  · exact ⟨_, _, h0, h1, h2⟩
theorem Reads.take' {a : Option Addr} {cap k : Nat} {l : List UInt8} {w : World} (h : Reads w (.slice a k cap) l) {n : Nat} (hn : n ≤ l.length) : Reads w (.slice a n cap) (l.take n) := by
  rcases h.cases with ⟨h1, h2⟩ | ⟨ad, cap', h1, h2, h3, h4⟩
  · injection h1 with e1 e2 e3
    subst e1 e2 e3 h2
    obtain rfl : n = 0 := by simpa using hn
    exact h
  · injection h1 with e1 e2 e3
    subst e1 e2 e3
    have hl : (l.take n).length = n := by rw [List.length_take]; omega
    have := Reads.of_cells (w := w) (ad := ad) (cap := cap) (l := l.take n) (by omega) h3 (fun i hi => by
      rw [h4 i (by omega)]
      simp only [List.getD, List.getElem?_take]
      rw [if_pos (by omega)])
    rw [hl] at this
    exact this
theorem Reads.takeAs {a : Option Addr} {cap k : Nat} {l : List UInt8} {w : World} (h : Reads w (.slice a k cap) l) {n N : Nat} (hN : N = min n l.length) : Reads w (.slice a N cap) (l.take n) := by
  have h2 := h.take' (n := min n l.length) (Nat.min_le_right _ _)
  rw [← hN] at h2
  have e : l.take n = l.take N := by rw [hN, List.take_eq_take_iff]; omega
  rw [e]; exact h2
theorem Reads.drop {b off cap k : Nat} {l : List UInt8} {w : World} (h : Reads w (.slice (some ⟨b, off, none⟩) k cap) l) (n : Nat) {N : Nat} (hN : l.length = n + N) : Reads w (.slice (some ⟨b, off + n, none⟩) N (cap - n)) (l.drop n) := by
  rcases h.cases with ⟨h1, h2⟩ | ⟨ad, cap', h1, h2, h3, h4⟩
  · cases h1
  · injection h1 with h1 e2 e3
    injection h1 with h1
    subst e2 e3 h1
    have hl : (l.drop n).length = N := by rw [List.length_drop]; omega
    have := Reads.of_cells (w := w) (ad := ⟨b, off + n, none⟩) (cap := cap - n) (l := l.drop n) (by omega) (by omega) (fun i hi => by
      have h5 := h4 (n + i) (by omega)
      rw [addAt] at h5 ⊢
      rw [Nat.add_assoc, h5]
      simp [List.getD, List.getElem?_drop])
    rw [hl] at this
    exact this
theorem Reads.dropAll {a a' : Option Addr} {cap c' k : Nat} {l : List UInt8} {w : World} (h : Reads w (.slice a k cap) l) {n : Nat} (hn : l.length ≤ n) (ha : a.isSome = true ∧ a = a' ∧ c' ≤ maxLen) : Reads w (.slice a' 0 c') (l.drop n) := by
  rw [List.drop_eq_nil_of_le hn]
  rcases h.cases with ⟨h1, h2⟩ | ⟨ad, cap', h1, h2, h3, h4⟩
  · injection h1 with e1 _ _; rw [e1] at ha; simp at ha
  · injection h1 with e1 e2 e3
    obtain ⟨_, rfl, h6⟩ := ha
    rw [e1]
    exact Reads.of_cells (l := []) (Nat.zero_le _) h6 (fun i hi => absurd hi (by simp))
/-- The string of bytes: closed to the walk. -/
def bstr (l : List UInt8) : ByteArray := ⟨l.toArray⟩
theorem bstr_append (a b : List UInt8) : bstr a ++ bstr b = bstr (a ++ b) := by
  apply ByteArray.ext
  simp [bstr]
theorem bstr_inj {a b : List UInt8} (h : bstr a = bstr b) : a = b := by
  have := congrArg (fun s => s.data.toList) h
  simpa [bstr] using this
theorem bstr_size (a : List UInt8) : (bstr a).size = a.length := by simp [bstr, ByteArray.size]
theorem foldl_bytes : ∀ (l : List UInt8) (acc : ByteArray), (l.map B8).toArray.foldl (fun (r : ByteArray) (v : Value) => match v with | .int _ n => r.push (UInt8.ofNat n.toNat) | _ => r) acc = ⟨acc.data ++ l.toArray⟩
  | [], acc => by simp
  | c :: l, acc => by
    have := foldl_bytes l (acc.push c)
    simp only [List.map_cons, List.foldl_toArray, List.foldl_cons] at this ⊢
    simp only [B8] at this ⊢
    rw [show UInt8.ofNat ((c.toNat : Int)).toNat = c by simp]
    rw [this]
    simp [ByteArray.push]
/-- string(b), whatever b is. -/
theorem run_conv_str {P : Program} {src dst : TypeId} (hs : P.underlying src = some (.slice 5)) (he : P.underlying 5 = some (.int .u8)) (hd : P.underlying dst = some .string) {w : World} {v : Value} {l : List UInt8} (h : Reads w v l) :
    (convert src dst v).run P w = .ok (.string (bstr l)) w := by
  rcases h.2 with ⟨rfl, h2⟩ | ⟨ad, cap, rfl, h1, h2, h3⟩
  · rw [run_convert_bytes_nil w src 5 hs he 0 0 dst hd, List.eq_nil_of_length_eq_zero h2]; rfl
  · have hl : (loadCells ad l.length).run P w = .ok ((l.map fun c => (c.toNat : Int)).map (Value.int .u8)).toArray w := by
      have := run_loadCells_list (P := P) w ad ((l.map fun c => (c.toNat : Int)).map (Value.int .u8)) (fun j v hj => h3 j v (by simpa [B8] using hj))
      simpa using this
    rw [run_convert_bytes_string w src dst 5 _ l.length cap hs he hd, run_bytesToString w _ l.length cap _ hl, foldl_push_bytes]
    have e : l.map ((fun n : Int => UInt8.ofNat n.toNat) ∘ fun c : UInt8 => (c.toNat : Int)) = l := by
      conv => rhs; rw [← List.map_id l]
      exact List.map_congr_left fun c _ => by simp
    simp [bstr, ByteArray.empty, ByteArray.emptyWithCapacity, e]
    rfl
theorem op_conv_str {P : Program} {o : Oper} {a : Act} {K : Act → World → Prop} {Q : Exit → Act → World → Prop} {x : Operand} {src dst : TypeId} (ho : o.op = .convert src dst x) (hs : P.underlying src = some (.slice 5)) (he : P.underlying 5 = some (.int .u8)) (hd : P.underlying dst = some .string)
    {w : World} {v : Value} {l : List UInt8} (hx : a.eval x = v) (h : Reads w v l) (hk : K (a.put o.dst (.string (bstr l))) w) : o.wp P a w K Q := by
  unfold Oper.wp execOp
  simp only [ho, hx, Sem.run_bind, run_conv_str hs he hd h, Result.andThen_ok]
  exact hk
theorem wp_conv_str {P : Program} {ops : Array Oper} {rest : List Oper} {o : Oper} {a : Act} {Q : Exit → Act → World → Prop} (hgd : o.guard = none) {x : Operand} {src dst : TypeId} (ho : o.op = .convert src dst x) (hs : P.underlying src = some (.slice 5)) (he : P.underlying 5 = some (.int .u8)) (hd : P.underlying dst = some .string)
    {w : World} {v : Value} {l : List UInt8} (hx : a.eval x = v) (h : Reads w v l) (hk : wpList P ops Q rest (a.put o.dst (.string (bstr l))) w) : wpList P ops Q (o :: rest) a w :=
  wpList_plain hgd fun _ hK => op_conv_str ho hs he hd hx h (hK _ _ hk)
theorem quiet_conv_str {P : Program} {C : World → Prop} {o : Oper} {a : Act} {K : Act → Prop} {x : Operand} {src dst : TypeId} (ho : o.op = .convert src dst x) (hs : P.underlying src = some (.slice 5)) (he : P.underlying 5 = some (.int .u8)) (hd : P.underlying dst = some .string)
    {v : Value} {l : List UInt8} (hx : a.eval x = v) (h : ∀ u, C u → Reads u v l) (hk : K (a.put o.dst (.string (bstr l)))) : o.quiet P a C K := by
  refine ⟨_, fun u hu => ?_, hk⟩
  unfold Oper.quietAt execOp
  simp only [ho, hx, Sem.run_bind, run_conv_str hs he hd (h u hu), Result.andThen_ok]
  exact ⟨rfl, rfl⟩
/-- []byte of a constant: a new block, and a mark behind its end. -/
theorem op_conv_bytes {P : Program} {o : Oper} {a : Act} {K : Act → World → Prop} {Q : Exit → Act → World → Prop} {x : Operand} {T : TypeId} (ho : o.op = .convert T T x) (hs : P.underlying T = some (.slice 5)) (he : P.underlying 5 = some (.int .u8))
    {g n c : Nat} (hx : a.eval x = .slice (some ⟨g, 0, none⟩) n c) {w0 w : World} {R : List Asn} {cs : Array Value} (H : sat w0 w (blk g (.cells cs 5) :: R))
    (hk : ∀ w', sat w0 w' (blk g (.cells cs 5 (cs.size, cs.size + 1)) :: R) → K (a.put o.dst (.slice (some ⟨g, 0, none⟩) n c)) w') : o.wp P a w K Q := by
  have hg := H.get.1
  have hsat : sat w0 (w.freeze ⟨g, cs.size, none⟩ 1) (blk g (.cells cs 5 (cs.size, cs.size + 1)) :: R) := by
    refine H.put rfl rfl rfl (by simp [World.freeze]) ?_ fun b _ hne => ?_
    · simp [World.freeze, Array.getElem?_modify, hg]
    · simp [World.freeze, Array.getElem?_modify, Ne.symm hne]
  unfold Oper.wp execOp
  simp only [ho, hx]
  have hsh : (shape g).run P w = .ok (some (5, cs.size)) w := by simp [shape, Sem.run, World.shape?, hg]
  have hrun : (convert T T (.slice (some ⟨g, 0, none⟩) n c)).run P w = .ok (.slice (some ⟨g, 0, none⟩) n c) (w.freeze ⟨g, cs.size, none⟩ 1) := by
    unfold convert
    simp [run_underlying hs, run_underlying he, markStringish, hsh, freeze, Sem.run]
  simp only [Sem.run_bind, hrun, Result.andThen_ok]
  exact hk _ hsat
theorem wp_conv_bytes {P : Program} {ops : Array Oper} {rest : List Oper} {o : Oper} {a : Act} {Q : Exit → Act → World → Prop} (hgd : o.guard = none) {x : Operand} {T : TypeId} (ho : o.op = .convert T T x) (hs : P.underlying T = some (.slice 5)) (he : P.underlying 5 = some (.int .u8))
    {g n c : Nat} (hx : a.eval x = .slice (some ⟨g, 0, none⟩) n c) {w0 w : World} {R : List Asn} {cs : Array Value} (H : sat w0 w (blk g (.cells cs 5) :: R))
    (hk : ∀ w', sat w0 w' (blk g (.cells cs 5 (cs.size, cs.size + 1)) :: R) → wpList P ops Q rest (a.put o.dst (.slice (some ⟨g, 0, none⟩) n c)) w') : wpList P ops Q (o :: rest) a w :=
  wpList_plain hgd fun _ hK => op_conv_bytes ho hs he hx H fun w' h => hK _ _ (hk w' h)
/-- A block of bytes reads. -/
theorem Rd.blk {w0 : World} {R : List Asn} {g : Nat} {fr : Nat × Nat} (l : List UInt8) (hl : l.length ≤ maxLen) : Rd w0 (blk g (.cells (l.map B8).toArray 5 fr) :: R) (.slice (some ⟨g, 0, none⟩) l.length l.length) l := fun w hw => by
  refine Reads.of_cells (Nat.le_refl _) hl fun i hi => ?_
  rw [addAt, Nat.zero_add, cellAt hw.get.1]
  simp [List.getD, List.getElem?_eq_getElem hi]
theorem B8_oneCell (l : List UInt8) : ∀ u ∈ l.map B8, u.oneCell' = true := by
  intro u hu
  obtain ⟨c, _, rfl⟩ := List.mem_map.1 hu
  rfl
end
/-! ### What comes in -/
/-- Slices of bytes, one after the other: each as a value, and its bytes. -/
def ListsIn (w : World) (v : Value) (ls : List (Value × List UInt8)) : Prop :=
  (v = .slice none 0 0 ∧ ls = []) ∨ ∃ ad cap, v = .slice (some ad) ls.length cap ∧ ls.length ≤ cap ∧ cap ≤ maxLen ∧ ∀ i, i < ls.length → w.cell? (ad.add i) = some (ls.getD i (undef, [])).1 ∧ Reads w (ls.getD i (undef, [])).1 (ls.getD i (undef, [])).2 ∧ (ls.getD i (undef, [])).2.length ≤ 140737488351232
/-- Whole numbers. -/
def IntsIn (w : World) (v : Value) (zs : List Int) : Prop :=
  (v = .slice none 0 0 ∧ zs = []) ∨ ∃ ad cap, v = .slice (some ad) zs.length cap ∧ zs.length ≤ cap ∧ cap ≤ maxLen ∧ ∀ i, i < zs.length → w.cell? (ad.add i) = some (.int .i64 (zs.getD i 0)) ∧ -9223372036854775808 ≤ zs.getD i 0 ∧ zs.getD i 0 ≤ 9223372036854775807
/-- Triples: a whole number, a slice of bytes, a whole number. -/
structure Trip : Type where
  n : Int
  v : Value
  b : List UInt8
  m : Int
def trip0 : Trip := ⟨0, undef, [], 0⟩
def TripsIn (w : World) (v : Value) (ls : List Trip) : Prop :=
  (v = .slice none 0 0 ∧ ls = []) ∨ ∃ ad cap, v = .slice (some ad) ls.length cap ∧ ls.length ≤ cap ∧ cap ≤ maxLen ∧ ∀ i, i < ls.length →
    w.cell? (ad.add (i * 3)) = some (.int .i64 (ls.getD i trip0).n) ∧ w.cell? (ad.add (i * 3 + 1)) = some (ls.getD i trip0).v ∧ w.cell? (ad.add (i * 3 + 2)) = some (.int .i64 (ls.getD i trip0).m) ∧
    Reads w (ls.getD i trip0).v (ls.getD i trip0).b ∧ (ls.getD i trip0).b.length ≤ 140737488351232 ∧ (-9223372036854775808 ≤ (ls.getD i trip0).n ∧ (ls.getD i trip0).n ≤ 9223372036854775807) ∧ (-9223372036854775808 ≤ (ls.getD i trip0).m ∧ (ls.getD i trip0).m ≤ 9223372036854775807)
theorem cell_spot {w : World} {ad : Addr} {v : Value} (h : w.cell? (ad.add 0) = some v) : ∃ b off, ad = ⟨b, off, none⟩ := by
  obtain ⟨b, off, spot⟩ := ad
  have : spot = none := by simpa [Addr.add] using World.cell?_spot h
  exact ⟨b, off, by rw [this]⟩
theorem ListsIn.cases {w : World} {v : Value} {ls : List (Value × List UInt8)} (h : ListsIn w v ls) : (∃ a c, v = .slice a 0 c ∧ ls = []) ∨ ∃ b off cap, v = .slice (some ⟨b, off, none⟩) ls.length cap ∧ ls.length ≤ cap ∧ cap ≤ 9223372036854775807 ∧ ∀ i, i < ls.length → w.cell? ⟨b, off + i, none⟩ = some (ls.getD i (undef, [])).1 ∧ Reads w (ls.getD i (undef, [])).1 (ls.getD i (undef, [])).2 ∧ (ls.getD i (undef, [])).2.length ≤ 140737488351232 := by
  rcases h with ⟨rfl, rfl⟩ | ⟨ad, cap, rfl, h1, h2, h3⟩
  · exact .inl ⟨_, _, rfl, rfl⟩
  · rcases Nat.eq_zero_or_pos ls.length with h0 | h0
    · exact .inl ⟨_, _, by rw [h0], List.eq_nil_of_length_eq_zero h0⟩
    · obtain ⟨b, off, rfl⟩ := cell_spot (h3 0 h0).1
      exact .inr ⟨b, off, cap, rfl, h1, by unfold maxLen at h2; omega, fun i hi => by have := h3 i hi; rw [addAt] at this; exact this⟩
theorem IntsIn.cases {w : World} {v : Value} {zs : List Int} (h : IntsIn w v zs) : (∃ a c, v = .slice a 0 c ∧ zs = []) ∨ ∃ b off cap, v = .slice (some ⟨b, off, none⟩) zs.length cap ∧ zs.length ≤ cap ∧ cap ≤ 9223372036854775807 ∧ ∀ i, i < zs.length → w.cell? ⟨b, off + i, none⟩ = some (.int .i64 (zs.getD i 0)) ∧ -9223372036854775808 ≤ zs.getD i 0 ∧ zs.getD i 0 ≤ 9223372036854775807 := by
  rcases h with ⟨rfl, rfl⟩ | ⟨ad, cap, rfl, h1, h2, h3⟩
  · exact .inl ⟨_, _, rfl, rfl⟩
  · rcases Nat.eq_zero_or_pos zs.length with h0 | h0
    · exact .inl ⟨_, _, by rw [h0], List.eq_nil_of_length_eq_zero h0⟩
    · obtain ⟨b, off, rfl⟩ := cell_spot (h3 0 h0).1
      exact .inr ⟨b, off, cap, rfl, h1, by unfold maxLen at h2; omega, fun i hi => by have := h3 i hi; rw [addAt] at this; exact this⟩
theorem TripsIn.cases {w : World} {v : Value} {ls : List Trip} (h : TripsIn w v ls) : (∃ a c, v = .slice a 0 c ∧ ls = []) ∨ ∃ b off cap, v = .slice (some ⟨b, off, none⟩) ls.length cap ∧ ls.length ≤ cap ∧ cap ≤ 9223372036854775807 ∧ ∀ i, i < ls.length →
    w.cell? ⟨b, off + i * 3, none⟩ = some (.int .i64 (ls.getD i trip0).n) ∧ w.cell? ⟨b, off + i * 3 + 1, none⟩ = some (ls.getD i trip0).v ∧ w.cell? ⟨b, off + i * 3 + 2, none⟩ = some (.int .i64 (ls.getD i trip0).m) ∧
    Reads w (ls.getD i trip0).v (ls.getD i trip0).b ∧ (ls.getD i trip0).b.length ≤ 140737488351232 ∧ (-9223372036854775808 ≤ (ls.getD i trip0).n ∧ (ls.getD i trip0).n ≤ 9223372036854775807) ∧ (-9223372036854775808 ≤ (ls.getD i trip0).m ∧ (ls.getD i trip0).m ≤ 9223372036854775807) := by
  rcases h with ⟨rfl, rfl⟩ | ⟨ad, cap, rfl, h1, h2, h3⟩
  · exact .inl ⟨_, _, rfl, rfl⟩
  · rcases Nat.eq_zero_or_pos ls.length with h0 | h0
    · exact .inl ⟨_, _, by rw [h0], List.eq_nil_of_length_eq_zero h0⟩
    · obtain ⟨b, off, rfl⟩ := cell_spot (h3 0 h0).1
      exact .inr ⟨b, off, cap, rfl, h1, by unfold maxLen at h2; omega, fun i hi => by
        have := h3 i hi
        rw [addAt, addAt, addAt] at this
        exact this⟩
/-- What came in is there still. -/
theorem sat.cell {w0 w : World} {R : List Asn} (h : sat w0 w R) {p : Addr} {v : Value} (hc : w0.cell? p = some v) : w.cell? p = some v := by
  rw [h.1.cell (World.block_lt_of_cell? w0 _ hc)]; exact hc
end Go.Proofs.YtonipcfnhmnnlaaGreatDoor.Hg
