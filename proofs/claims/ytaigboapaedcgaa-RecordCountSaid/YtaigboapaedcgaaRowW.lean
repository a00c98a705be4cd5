/- Words for the rows of this seat's laws: how an argument that is bytes reads, and how long it is. No condition. -/
import Derived.SizedLaws
import Derived.ChangeSlices
import Derived.Deep.Slices
import Derived.Deep.SlicePairs
import Derived.Test.YtaigboapaedcgaaBase
namespace Go.Proofs.Ytaigboapaedcgaa.Hg
open Go Go.RowKit Go.ChangeShapes Go.WideShapes
set_option linter.unusedVariables false
set_option linter.unusedSimpArgs false
section
variable {H : Type} {enc : TypeId × Value → H} {P : Program} {W : World} {base : Nat} {spare : Nat → Bool} {held : Bool}
/-- A slice of bytes that came in: it reads, and is no longer than its weight allows. -/
theorem bytes_of {t e : TypeId} {fuel : Nat} {v : Value} {x : DataW H × List MemPlace} (hw : ∀ n ∈ x.1.weights P t, n ≤ reachBytes) (hu : P.underlying t = some (.slice e)) (he : P.underlying e = some (.int .u8)) (hc : P.cellsOf e = 1) (hB : P.bytesOf e = 1)
    (hf : DataW.trod enc P W base spare held fuel t [v] = some x) : ∃ l : List UInt8, Reads W v l ∧ l.length ≤ 140737488351232 := by
  rcases open_ints hu he hc hf with ⟨hcs, _⟩ | ⟨x, len, cap, zs, hcs, _, hl, hm, hz, hx, hcell, hwf⟩
  · obtain rfl : v = .slice none 0 0 := by simpa using hcs
    exact ⟨[], ⟨rfl, .inl ⟨rfl, rfl⟩⟩, by simp⟩
  · obtain rfl : v = .slice (some x) len cap := by simpa using hcs
    subst hx
    have hl2 : len ≤ zs.length := by
      rw [hz]
      split
      · exact hl
      · exact Nat.le_refl _
    have h1 : (lits (H := H) .u8 (zs.take len)).length + (lits (H := H) .u8 (zs.drop len)).length = zs.length := by
      simp [lits]
      omega
    have z := hw (((lits (H := H) .u8 (zs.take len)).length + (lits (H := H) .u8 (zs.drop len)).length) * P.bytesOf e) (by simp [DataW.weights, hu])
    rw [h1, hB, Nat.mul_one] at z
    have hz' : len ≤ 140737488351232 := Nat.le_trans hl2 z
    obtain ⟨bl, hbl, hr⟩ := Reads.of_ints (w := W) (ad := x) (len := len) (cap := zs.length) (zs := zs) hl2 (by
      have : reachBytes = 140737488351232 := rfl
      unfold maxLen; omega) rfl hcell hwf
    refine ⟨bl, ?_, by omega⟩
    subst hbl
    obtain ⟨hr1, hr2⟩ := hr
    refine ⟨hr1, ?_⟩
    rcases hr2 with ⟨hh, _⟩ | ⟨ad, cap', hh, _, _, hh3⟩
    · cases hh
    · injection hh with hh _ _
      injection hh with hh
      subst hh
      exact .inr ⟨_, _, rfl, hl, hm, hh3⟩
theorem weights_top {ts : List TypeId} {ds : List (DataW H)} {j : Nat} {t : TypeId} {d : DataW H} (hsz : (DataW.weightsEach P ts ds).all (· ≤ reachBytes) = true) (ht : ts[j]? = some t) (hd : ds[j]? = some d) : ∀ n ∈ d.weights P t, n ≤ reachBytes :=
  fun n hn => by simpa using List.all_eq_true.1 hsz n (DataW.weights_mem_each ht hd n hn)
theorem weights_all {e : TypeId} : ∀ {l : List (DataW H)} {d : DataW H}, d ∈ l → ∀ n ∈ d.weights P e, n ∈ DataW.weightsAll P e l
  | x :: l, d, hd, n, hn => by
    simp only [DataW.weightsAll, List.mem_append]
    rcases List.mem_cons.1 hd with rfl | hd
    · exact .inl hn
    · exact .inr (weights_all hd n hn)
theorem weights_elem {t e : TypeId} {D : Nat → DataW H} {len k : Nat} (hu : P.underlying t = some (.slice e)) (hw : ∀ n ∈ (DataW.slice ((List.range len).map D) ((List.range k).map fun j => D (len + j))).weights P t, n ≤ reachBytes) {i : Nat} (hi : i < len) :
    ∀ n ∈ (D i).weights P e, n ≤ reachBytes := fun n hn => hw n (by
  simp only [DataW.weights, hu, List.mem_cons, List.mem_append]
  exact .inr (.inl (weights_all (List.mem_map.2 ⟨i, List.mem_range.2 hi, rfl⟩) n hn)))
theorem choose_list {α : Type} (d : α) {p : Nat → α → Prop} : ∀ n, (∀ i, i < n → ∃ x, p i x) → ∃ l : List α, l.length = n ∧ ∀ i, i < n → p i (l.getD i d)
  | 0, _ => ⟨[], rfl, fun i hi => by omega⟩
  | n + 1, h => by
    obtain ⟨l, hl, hp⟩ := choose_list d n fun i hi => h i (by omega)
    obtain ⟨x, hx⟩ := h n (by omega)
    refine ⟨l ++ [x], by simp [hl], fun i hi => ?_⟩
    rcases Nat.lt_or_ge i n with h1 | h1
    · have := hp i h1
      simpa [List.getD, List.getElem?_append_left (by omega : i < l.length)] using this
    · obtain rfl : i = n := by omega
      simpa [List.getD, List.getElem?_append_right (by omega : l.length ≤ i), hl] using hx

section
variable {a : Option Addr} {len cap : Nat} {d : DataW H} {ps : List MemPlace} {ts : List TypeId} {ds : List (DataW H)} {j : Nat} {t e : TypeId}
theorem bytes_in (hsz : (DataW.weightsEach P ts ds).all (· ≤ reachBytes) = true) (ht : ts[j]? = some t) (hd : ds[j]? = some d) (hu : P.underlying t = some (.slice e)) (he : P.underlying e = some (.int .u8)) (hc : P.cellsOf e = 1) (hB : P.bytesOf e = 1)
    (h : DataW.Trod enc P W base spare held t (.slice a len cap) d ps) : ∃ l : List UInt8, Reads W (.slice a len cap) l ∧ l.length ≤ 140737488351232 := by
  obtain ⟨fuel, hf⟩ := h
  exact bytes_of (x := (d, ps)) (weights_top hsz ht hd) hu he hc hB (by simpa [Value.cells] using hf)
theorem rows_in {q : TypeId} (hsz : (DataW.weightsEach P ts ds).all (· ≤ reachBytes) = true) (ht : ts[j]? = some t) (hd : ds[j]? = some d) (hu : P.underlying t = some (.slice e)) (hc : P.cellsOf e = 1) (hB : P.bytesOf e = 24) (hq : P.underlying e = some (.slice q)) (he : P.underlying q = some (.int .u8)) (hc' : P.cellsOf q = 1) (hB' : P.bytesOf q = 1)
    (h : DataW.Trod enc P W base spare held t (.slice a len cap) d ps) : ∃ l : List (Value × List UInt8), ListsIn W (.slice a len cap) l ∧ l.length ≤ 140737488351232 := by
  obtain ⟨fuel, hf⟩ := h
  have hf' : DataW.trod enc P W base spare held fuel t [.slice a len cap] = some (d, ps) := by simpa [Value.cells] using hf
  have hw := weights_top hsz ht hd
  rcases Go.Deep.open_slice1 hu hc hf' with ⟨hcs, _⟩ | ⟨x, len', cap', m, n, V, D, Pl, hcs, _, hl, hm, hmm, hx, hcell⟩
  · obtain ⟨rfl, rfl, rfl⟩ : a = none ∧ len = 0 ∧ cap = 0 := by simpa using hcs
    exact ⟨[], .inl ⟨rfl, rfl⟩, by simp⟩
  · obtain ⟨rfl, rfl, rfl⟩ : a = some x ∧ len = len' ∧ cap = cap' := by simpa using hcs
    obtain ⟨rfl, _⟩ := Prod.mk.inj hx
    have hlm : len ≤ m := by rw [hmm]; split <;> omega
    obtain ⟨l, hll, hp⟩ := choose_list (undef, ([] : List UInt8)) (p := fun i y => W.cell? (x.add i) = some y.1 ∧ Reads W y.1 y.2 ∧ y.2.length ≤ 140737488351232) len (fun i hi => by
      obtain ⟨h1, h2⟩ := hcell i (by omega)
      obtain ⟨bl, h3, h4⟩ := bytes_of (x := (D i, Pl i)) (weights_elem hu hw hi) hq he hc' hB' h2
      exact ⟨(V i, bl), h1, h3, h4⟩)
    subst hll
    have z := hw _ (by simp only [DataW.weights, hu]; exact List.mem_cons_self)
    rw [hB] at z
    simp only [List.length_map, List.length_range] at z
    have : reachBytes = 140737488351232 := rfl
    exact ⟨l, .inr ⟨x, cap, rfl, hl, hm, hp⟩, by omega⟩
theorem ints_in (hsz : (DataW.weightsEach P ts ds).all (· ≤ reachBytes) = true) (ht : ts[j]? = some t) (hd : ds[j]? = some d) (hu : P.underlying t = some (.slice e)) (he : P.underlying e = some (.int .i64)) (hc : P.cellsOf e = 1) (hB : P.bytesOf e = 8)
    (h : DataW.Trod enc P W base spare held t (.slice a len cap) d ps) : ∃ l : List Int, IntsIn W (.slice a len cap) l ∧ l.length ≤ 140737488351232 := by
  obtain ⟨fuel, hf⟩ := h
  have hf' : DataW.trod enc P W base spare held fuel t [.slice a len cap] = some (d, ps) := by simpa [Value.cells] using hf
  have hw := weights_top hsz ht hd
  rcases open_ints hu he hc hf' with ⟨hcs, _⟩ | ⟨x, len', cap', zs, hcs, _, hl, hm, hz, hx, hcell, hwf⟩
  · obtain ⟨rfl, rfl, rfl⟩ : a = none ∧ len = 0 ∧ cap = 0 := by simpa using hcs
    exact ⟨[], .inl ⟨rfl, rfl⟩, by simp⟩
  · obtain ⟨rfl, rfl, rfl⟩ : a = some x ∧ len = len' ∧ cap = cap' := by simpa using hcs
    obtain ⟨rfl, _⟩ := Prod.mk.inj hx
    have hl2 : len ≤ zs.length := by
      rw [hz]
      split
      · exact hl
      · exact Nat.le_refl _
    have h1 : (lits (H := H) .i64 (zs.take len)).length + (lits (H := H) .i64 (zs.drop len)).length = zs.length := by
      simp [lits]
      omega
    have z := hw _ (by simp only [DataW.weights, hu]; exact List.mem_cons_self)
    rw [h1, hB] at z
    have : reachBytes = 140737488351232 := rfl
    have hlen : (zs.take len).length = len := by rw [List.length_take]; omega
    refine ⟨zs.take len, .inr ⟨x, cap, by rw [hlen], by omega, hm, fun i hi => ?_⟩, by omega⟩
    have hi2 : i < zs.length := by omega
    have e1 : (zs.take len).getD i 0 = zs.getD i 0 := by simp only [List.getD, List.getElem?_take]; rw [if_pos (by omega)]
    have e2 : zs.getD i 0 ∈ zs := by simp [List.getD, List.getElem?_eq_getElem hi2]
    rw [e1]
    have h3 := hwf _ e2
    have hm1 : IntKind.i64.min = -9223372036854775808 := rfl
    have hm2 : IntKind.i64.max = 9223372036854775807 := rfl
    simp only [Lit.wf, Bool.and_eq_true, decide_eq_true_eq] at h3
    exact ⟨hcell i hi2, by omega, by omega⟩
theorem trips_in {q : TypeId} {f0 f1 f2 : Field} (hsz : (DataW.weightsEach P ts ds).all (· ≤ reachBytes) = true) (ht : ts[j]? = some t) (hd : ds[j]? = some d) (hu : P.underlying t = some (.slice e)) (hs : P.underlying e = some (.struct #[f0, f1, f2])) (hc : P.cellsOf e = 3) (hB : P.bytesOf e = 40)
    (o0 : f0.offset = 0) (o1 : f1.offset = 1) (o2 : f2.offset = 2) (c0 : P.cellsOf f0.type = 1) (c1 : P.cellsOf f1.type = 1) (c2 : P.cellsOf f2.type = 1) (u0 : P.underlying f0.type = some (.int .i64)) (u1 : P.underlying f1.type = some (.slice q)) (u2 : P.underlying f2.type = some (.int .i64))
    (he : P.underlying q = some (.int .u8)) (hc' : P.cellsOf q = 1) (hB' : P.bytesOf q = 1)
    (h : DataW.Trod enc P W base spare held t (.slice a len cap) d ps) : ∃ l : List Trip, TripsIn W (.slice a len cap) l ∧ l.length ≤ 140737488351232 := by
  obtain ⟨fuel, hf⟩ := h
  have hf' : DataW.trod enc P W base spare held fuel t [.slice a len cap] = some (d, ps) := by simpa [Value.cells] using hf
  have hw := weights_top hsz ht hd
  rcases Go.Deep.open_slice hu hf' with ⟨hcs, _⟩ | ⟨x, len', cap', m, n, D, Pl, hcs, _, hl, hm, hmm, hx, hcell⟩
  · obtain ⟨rfl, rfl, rfl⟩ : a = none ∧ len = 0 ∧ cap = 0 := by simpa using hcs
    exact ⟨[], .inl ⟨rfl, rfl⟩, by simp⟩
  · obtain ⟨rfl, rfl, rfl⟩ : a = some x ∧ len = len' ∧ cap = cap' := by simpa using hcs
    obtain ⟨rfl, _⟩ := Prod.mk.inj hx
    have hlm : len ≤ m := by rw [hmm]; split <;> omega
    have wf : ∀ {z : Int}, (Lit.int .i64 z).wf = true → -9223372036854775808 ≤ z ∧ z ≤ 9223372036854775807 := by
      intro z h3
      have hm1 : IntKind.i64.min = -9223372036854775808 := rfl
      have hm2 : IntKind.i64.max = 9223372036854775807 := rfl
      simp only [Lit.wf, Bool.and_eq_true, decide_eq_true_eq] at h3
      omega
    obtain ⟨l, hll, hp⟩ := choose_list trip0 (p := fun i y => W.cell? (x.add (i * 3)) = some (.int .i64 y.n) ∧ W.cell? (x.add (i * 3 + 1)) = some y.v ∧ W.cell? (x.add (i * 3 + 2)) = some (.int .i64 y.m) ∧ Reads W y.v y.b ∧ y.b.length ≤ 140737488351232 ∧ (-9223372036854775808 ≤ y.n ∧ y.n ≤ 9223372036854775807) ∧ (-9223372036854775808 ≤ y.m ∧ y.m ≤ 9223372036854775807)) len (fun i hi => by
      obtain ⟨cs', h1, h2⟩ := hcell i (by omega)
      rw [hc] at h1
      obtain ⟨_, hlen, hcl⟩ := World.cells?_some h1
      obtain ⟨xs, k, hk, hxy, _, hxl, hfs⟩ := DataW.trod_struct hs h2
      have hwi := weights_elem hu hw hi
      match xs, hxl, cs', hlen with
      | [y0, y1, y2], _, [v0, v1, v2], _ =>
        have g0 := hfs 0 f0 rfl
        have g1 := hfs 1 f1 rfl
        have g2 := hfs 2 f2 rfl
        simp [o0, o1, o2, c0, c1, c2] at g0 g1 g2
        have e0 := hcl 0 (by omega)
        have e1 := hcl 1 (by omega)
        have e2 := hcl 2 (by omega)
        rw [Go.Deep.add_add] at e0 e1 e2
        simp only [Prod.mk.injEq] at hxy
        rw [hxy.1] at hwi
        simp only [DataW.weights, hs, DataW.weightsEach, List.map_cons, List.map_nil, List.mem_append] at hwi
        obtain ⟨z0, hz0, _, hw0⟩ := DataW.trod_int u0 g0
        obtain ⟨z2, hz2, _, hw2⟩ := DataW.trod_int u2 g2
        obtain rfl : v0 = .int .i64 z0 := by simpa using hz0
        obtain rfl : v2 = .int .i64 z2 := by simpa using hz2
        obtain ⟨bl, h3, h4⟩ := bytes_of (x := y1) (fun n hn => hwi n (.inr (.inl hn))) u1 he hc' hB' g1
        exact ⟨⟨z0, v1, bl, z2⟩, by simpa using e0, by simpa using e1, by simpa using e2, h3, h4, wf hw0, wf hw2⟩)
    subst hll
    have z := hw _ (by simp only [DataW.weights, hu]; exact List.mem_cons_self)
    rw [hB] at z
    simp only [List.length_map, List.length_range] at z
    have : reachBytes = 140737488351232 := rfl
    exact ⟨l, .inr ⟨x, cap, rfl, hl, hm, hp⟩, by omega⟩
end
end
theorem wf_i64 {n : Int} (h : (Lit.int .i64 n).wf = true) : -9223372036854775808 ≤ n ∧ n ≤ 9223372036854775807 := by
  have h1 : IntKind.i64.min = -9223372036854775808 := rfl
  have h2 : IntKind.i64.max = 9223372036854775807 := rfl
  simp only [Lit.wf, Bool.and_eq_true, decide_eq_true_eq] at h
  omega
theorem wf_u8 {n : Int} (h : (Lit.int .u8 n).wf = true) : 0 ≤ n ∧ n ≤ 255 := by
  have h1 : IntKind.u8.min = 0 := rfl
  have h2 : IntKind.u8.max = 255 := rfl
  simp only [Lit.wf, Bool.and_eq_true, decide_eq_true_eq] at h
  omega
end Go.Proofs.Ytaigboapaedcgaa.Hg
