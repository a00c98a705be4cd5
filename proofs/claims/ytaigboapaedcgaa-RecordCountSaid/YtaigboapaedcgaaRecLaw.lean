/- Layer 7: the plain law of deframing: what is taken, from where on it is wrong, what is framed. No condition. -/
import Derived.Test.YtaigboapaedcgaaRec11
namespace Go.Proofs.Ytaigboapaedcgaa
open Go Go.RowKit Hg
set_option linter.unusedVariables false
set_option linter.unusedSimpArgs false
def pays : Df → List UInt8 → List UInt8
  | _, [] => []
  | d, x :: t => (if d.pay then [x] else []) ++ pays (d.take x) t
theorem take_bad {d : Df} (h : d.e ≠ 0) (x : UInt8) : d.take x = d := by rw [Df.take, if_pos h]
theorem foldl_bad : ∀ (a : List UInt8) {d : Df}, d.e ≠ 0 → a.foldl Df.take d = d
  | [], _, _ => rfl
  | x :: t, d, h => by rw [List.foldl_cons, take_bad h]; exact foldl_bad t h
theorem foldl_good {a : List UInt8} {d : Df} (h : (a.foldl Df.take d).e = 0) : d.e = 0 := by
  by_cases hd : d.e = 0
  · exact hd
  · rw [foldl_bad a hd] at h; exact h
theorem pays_append : ∀ (a b : List UInt8) (d : Df), pays d (a ++ b) = pays d a ++ pays (a.foldl Df.take d) b
  | [], b, d => by simp [pays]
  | x :: t, b, d => by simp only [List.cons_append, pays, List.foldl_cons, pays_append t b, List.append_assoc]
theorem allGo_ok : ∀ (a b : List UInt8) (d : Df) (k : Nat) (o : List UInt8), (a.foldl Df.take d).e = 0 → allGo d (a ++ b) k o = allGo (a.foldl Df.take d) b (k + a.length) (o ++ pays d a)
  | [], b, d, k, o, _ => by simp [pays]
  | x :: t, b, d, k, o, h => by
    rw [List.foldl_cons] at h ⊢
    have h1 := foldl_good h
    rw [List.cons_append, allGo, if_neg (by rw [h1]; simp), allGo_ok t b _ _ _ h]
    congr 1
    · simp; omega
    · by_cases hp : d.pay = true <;> simp [pays, hp]
theorem allGo_err : ∀ (a : List UInt8) (d : Df) (k : Nat) (o : List UInt8), d.e = 0 → (a.foldl Df.take d).e ≠ 0 →
    ∃ j e, j < a.length ∧ e ≠ 0 ∧ ((a.take j).foldl Df.take d).e = 0 ∧ ∀ b, allGo d (a ++ b) k o = (o ++ pays d (a.take j), ((k + j : Nat) : Int), e)
  | [], d, k, o, h0, h => by simp at h; exact absurd h0 h
  | x :: t, d, k, o, h0, h => by
    rw [List.foldl_cons] at h
    by_cases hx : (d.take x).e = 0
    · obtain ⟨j, e, hj, he, hg, hall⟩ := allGo_err t (d.take x) (k + 1) (if d.pay then o ++ [x] else o) hx h
      refine ⟨j + 1, e, by simpa using hj, he, by simpa using hg, fun b => ?_⟩
      rw [List.cons_append, allGo, if_neg (by rw [hx]; simp), hall b, List.take_succ_cons, pays]
      refine Prod.ext ?_ (Prod.ext ?_ rfl)
      · by_cases hp : d.pay = true <;> simp [hp]
      · simp; omega
    · refine ⟨0, (d.take x).e, by simp, hx, by simpa using h0, fun b => ?_⟩
      rw [List.cons_append, allGo, if_pos hx]
      simp [pays]
theorem allGo_grow : ∀ (b : List UInt8) (d : Df) (k : Nat) (o : List UInt8), o.length ≤ (allGo d b k o).1.length ∧ ((allGo d b k o).2.2 = 0 ∨ (k : Int) ≤ (allGo d b k o).2.1)
  | [], d, k, o => by simp [allGo]
  | x :: t, d, k, o => by
    rw [allGo]
    by_cases hx : (d.take x).e ≠ 0
    · rw [if_pos hx]; exact ⟨Nat.le_refl _, .inr (Int.le_refl _)⟩
    · rw [if_neg hx]
      have h := allGo_grow t (d.take x) (k + 1) (if d.pay then o ++ [x] else o)
      refine ⟨Nat.le_trans ?_ h.1, ?_⟩
      · split <;> simp
      · rcases h.2 with h | h
        · exact .inl h
        · exact .inr (by omega)
theorem allL_ok {b : List UInt8} (h : (b.foldl Df.take Df.new).e = 0) : allL b = (pays Df.new b, -1, 0) := by
  have := allGo_ok b [] Df.new 0 [] h
  rw [List.append_nil] at this
  rw [allL, this]
  simp [allGo]
/-- Between two records. -/
def clean (c : Nat) : Df := ⟨0, 0, 0, c⟩
theorem pay_run : ∀ (ch : List UInt8) (c : Nat), 1 ≤ ch.length → ch.foldl Df.take ⟨5, ch.length, 0, c⟩ = clean (c + 1) ∧ pays ⟨5, ch.length, 0, c⟩ ch = ch
  | [], c, h => by simp at h
  | x :: t, c, h => by
    by_cases ht : t = []
    · subst ht
      exact ⟨rfl, rfl⟩
    · have hl : 1 ≤ t.length := by
        cases t with
        | nil => exact absurd rfl ht
        | cons _ _ => simp
      have e : Df.take ⟨5, (x :: t).length, 0, c⟩ x = ⟨5, t.length, 0, c⟩ := by
        simp [Df.take]; omega
      obtain ⟨h1, h2⟩ := pay_run t c hl
      refine ⟨by rw [List.foldl_cons, e]; exact h1, ?_⟩
      rw [pays, e, h2]
      rfl
theorem frame1_run (ch : List UInt8) (c : Nat) (h1 : 1 ≤ ch.length) (h2 : ch.length ≤ 16384) : (frame1 ch).foldl Df.take (clean c) = clean (c + 1) ∧ pays (clean c) (frame1 ch) = ch := by
  obtain ⟨n, hn⟩ : ∃ n, n = ch.length := ⟨_, rfl⟩
  rw [← hn] at h1 h2
  obtain ⟨hi, hhi⟩ : ∃ hi, hi = UInt8.ofNat (n / 256) := ⟨_, rfl⟩
  obtain ⟨lo, hlo⟩ : ∃ lo, lo = UInt8.ofNat n := ⟨_, rfl⟩
  have e1 : hi.toNat = n / 256 := by rw [hhi, UInt8.toNat_ofNat']; omega
  have e0 : lo.toNat = n % 256 := by rw [hlo, UInt8.toNat_ofNat']
  have hf : frame1 ch = 22 :: 3 :: 1 :: hi :: lo :: ch := by rw [frame1, be16, ← hn, ← hhi, ← hlo]; rfl
  have t1 : Df.take (clean c) 22 = ⟨1, 0, 0, c⟩ := rfl
  have t2 : Df.take ⟨1, 0, 0, c⟩ 3 = ⟨2, 0, 0, c⟩ := rfl
  have t3 : Df.take ⟨2, 0, 0, c⟩ 1 = ⟨3, 0, 0, c⟩ := rfl
  have t4 : Df.take ⟨3, 0, 0, c⟩ hi = ⟨4, n / 256 * 256, 0, c⟩ := by
    have hE : headE 3 0 hi.toNat = 0 := by simp [headE]; omega
    rw [e1] at hE
    simp [Df.take, headP, headL, hE, e1]
  have t5 : Df.take ⟨4, n / 256 * 256, 0, c⟩ lo = ⟨5, n, 0, c⟩ := by
    have hE : headE 4 (n / 256 * 256) lo.toNat = 0 := by
      have : n / 256 * 256 + lo.toNat = n := by omega
      simp [headE]; omega
    rw [e0] at hE
    simp [Df.take, headP, headL, hE, e0]
    omega
  obtain ⟨p1, p2⟩ := pay_run ch c (by omega)
  rw [← hn] at p1 p2
  refine ⟨?_, ?_⟩
  · rw [hf]
    simp only [List.foldl_cons, t1, t2, t3, t4, t5]
    exact p1
  · rw [hf]
    simp only [pays, t1, t2, t3, t4, t5, p2]
    simp [Df.pay, clean]
theorem frames_run (N : Nat) (hN : 1 ≤ N ∧ N ≤ 16384) (xs : List UInt8) (c : Nat) : ∀ k, (∀ j, j < k → j * N < xs.length) → (framesK N xs k).foldl Df.take (clean c) = clean (c + k) ∧ pays (clean c) (framesK N xs k) = xs.take (k * N) ∧ (framesK N xs k).length = (xs.take (k * N)).length + 5 * k
  | 0, _ => by simp [framesK, pays]
  | k + 1, h => by
    obtain ⟨h1, h2, h3⟩ := frames_run N hN xs c k (fun j hj => h j (by omega))
    have hk := h k (by omega)
    have hcl := chunk_len N xs k
    obtain ⟨g1, g2⟩ := frame1_run (chunk N xs k) (c + k) (by omega) (by omega)
    have g3 := frame1_len (chunk N xs k)
    have hd : xs.take (k * N) ++ chunk N xs k = xs.take ((k + 1) * N) := by
      rw [chunk, Nat.add_mul, Nat.one_mul, List.take_add]
    rw [framesK_succ, List.foldl_append, h1, g1, pays_append, h1, h2, g2, hd]
    refine ⟨by rw [Nat.add_assoc], rfl, ?_⟩
    rw [List.length_append, h3, g3, ← hd, List.length_append]
    omega
theorem nCh_spec {N len : Nat} (hN : 1 ≤ N) : len ≤ nCh N len * N ∧ ∀ j, j < nCh N len → j * N < len := by
  unfold nCh
  have h1 := Nat.div_add_mod (len + N - 1) N
  have h2 := Nat.mod_lt (len + N - 1) (show 0 < N by omega)
  have h3 : (len + N - 1) / N * N = N * ((len + N - 1) / N) := Nat.mul_comm _ _
  refine ⟨by omega, fun j hj => ?_⟩
  have h4 : (j + 1) * N ≤ (len + N - 1) / N * N := Nat.mul_le_mul_right _ hj
  rw [Nat.add_mul] at h4
  omega
theorem frameL_run (size : Int) (xs : List UInt8) : (frameL size xs).foldl Df.take Df.new = clean (nCh (frN size) xs.length) ∧ pays Df.new (frameL size xs) = xs ∧ (frameL size xs).length = xs.length + 5 * nCh (frN size) xs.length := by
  obtain ⟨_, hN⟩ := frN_eq size
  obtain ⟨h1, h2⟩ := nCh_spec (len := xs.length) hN.1
  have h := frames_run (frN size) hN xs 0 (nCh (frN size) xs.length) h2
  rw [List.take_of_length_le h1, Nat.zero_add] at h
  exact h
theorem back_all (size : Int) (xs : List UInt8) : allL (frameL size xs) = (xs, -1, 0) := by
  obtain ⟨h1, h2, _⟩ := frameL_run size xs
  rw [allL_ok (by rw [h1]; rfl), h2]
theorem back_cut (size : Int) (xs : List UInt8) (n : Nat) : ∃ p, allL ((frameL size xs).take n) = (p, -1, 0) ∧ p.length ≤ xs.length ∧ p = xs.take p.length := by
  obtain ⟨h1, h2, _⟩ := frameL_run size xs
  have h3 : (((frameL size xs).take n).foldl Df.take Df.new).e = 0 := by
    refine foldl_good (a := (frameL size xs).drop n) ?_
    rw [← List.foldl_append, List.take_append_drop, h1]
    rfl
  refine ⟨_, allL_ok h3, ?_⟩
  have h4 := pays_append ((frameL size xs).take n) ((frameL size xs).drop n) Df.new
  rw [List.take_append_drop, h2] at h4
  have key : ∀ p q : List UInt8, xs = p ++ q → p.length ≤ xs.length ∧ p = xs.take p.length := by
    rintro p q rfl
    simp
  exact key _ _ h4
theorem take_c (p l c c' : Nat) (e : Int) (x : UInt8) : (Df.take ⟨p, l, e, c⟩ x).p = (Df.take ⟨p, l, e, c'⟩ x).p ∧ (Df.take ⟨p, l, e, c⟩ x).l = (Df.take ⟨p, l, e, c'⟩ x).l ∧ (Df.take ⟨p, l, e, c⟩ x).e = (Df.take ⟨p, l, e, c'⟩ x).e := by
  unfold Df.take
  dsimp only
  split
  · exact ⟨rfl, rfl, rfl⟩
  · split
    · exact ⟨rfl, rfl, rfl⟩
    · split <;> exact ⟨rfl, rfl, rfl⟩
theorem allGo_shift (K : Nat) (o0 : List UInt8) : ∀ (b : List UInt8) (d d' : Df) (k : Nat) (o : List UInt8), d'.p = d.p → d'.l = d.l → d'.e = d.e →
    allGo d' b (k + K) (o0 ++ o) = (o0 ++ (allGo d b k o).1, if 0 ≤ (allGo d b k o).2.1 then (allGo d b k o).2.1 + K else (allGo d b k o).2.1, (allGo d b k o).2.2)
  | [], d, d', k, o, _, _, _ => by simp [allGo]
  | x :: t, d, d', k, o, h1, h2, h3 => by
    obtain ⟨p, l, e, c⟩ := d
    obtain ⟨p', l', e', c'⟩ := d'
    dsimp only at h1 h2 h3
    subst h1 h2 h3
    obtain ⟨g1, g2, g3⟩ := take_c p' l' c' c e' x
    rw [allGo, allGo, g3]
    by_cases hx : (Df.take ⟨p', l', e', c⟩ x).e ≠ 0
    · rw [if_pos hx, if_pos hx]
      simp
    · rw [if_neg hx, if_neg hx]
      have hp : Df.pay ⟨p', l', e', c'⟩ = Df.pay ⟨p', l', e', c⟩ := rfl
      have ih := allGo_shift K o0 t (Df.take ⟨p', l', e', c⟩ x) (Df.take ⟨p', l', e', c'⟩ x) (k + 1) (if Df.pay ⟨p', l', e', c⟩ then o ++ [x] else o) g1 g2 g3
      rw [hp, ← ih]
      congr 1
      · omega
      · split <;> simp
theorem parts_all (size : Int) (xs b : List UInt8) : allL (frameL size xs ++ b) = (xs ++ (allL b).1, if 0 ≤ (allL b).2.1 then (allL b).2.1 + (frameL size xs).length else (allL b).2.1, (allL b).2.2) := by
  obtain ⟨h1, h2, _⟩ := frameL_run size xs
  have h := allGo_ok (frameL size xs) b Df.new 0 [] (by rw [h1]; rfl)
  rw [h1, h2] at h
  rw [allL, h, List.nil_append]
  have h3 := allGo_shift (frameL size xs).length xs b Df.new (clean (nCh (frN size) xs.length)) 0 [] rfl rfl rfl
  rw [List.append_nil] at h3
  exact h3
/-- Where nothing is wrong; where something is. -/
theorem wrong_ok {b : List UInt8} (m : List UInt8) (h : (allL b).2.2 = 0) : (allL b).2.1 = -1 ∧ (allL b).1.length ≤ (allL (b ++ m)).1.length ∧ ((allL (b ++ m)).2.2 = 0 ∨ (b.length : Int) ≤ (allL (b ++ m)).2.1) := by
  by_cases hb : (b.foldl Df.take Df.new).e = 0
  · rw [allL_ok hb]
    have h1 := allGo_ok b m Df.new 0 [] hb
    have h2 := allGo_grow m (b.foldl Df.take Df.new) (0 + b.length) ([] ++ pays Df.new b)
    rw [← h1] at h2
    refine ⟨rfl, by simpa [allL] using h2.1, ?_⟩
    have := h2.2
    simpa [allL] using this
  · obtain ⟨j, e, hj, he, _, hall⟩ := allGo_err b Df.new 0 [] rfl hb
    have := hall []
    rw [List.append_nil] at this
    rw [allL, this] at h
    exact absurd h he
theorem wrong_bad {b : List UInt8} (m : List UInt8) (h : (allL b).2.2 ≠ 0) : ∃ j : Nat, j < b.length ∧ (allL b).2.1 = j ∧ allL (b ++ m) = allL b ∧ allL (b.take j) = ((allL b).1, -1, 0) := by
  by_cases hb : (b.foldl Df.take Df.new).e = 0
  · rw [allL_ok hb] at h
    exact absurd rfl h
  · obtain ⟨j, e, hj, he, hg, hall⟩ := allGo_err b Df.new 0 [] rfl hb
    have h1 := hall []
    rw [List.append_nil] at h1
    have h2 : allL b = (pays Df.new (b.take j), (j : Int), e) := by rw [allL, h1]; simp
    have h3 : allL (b ++ m) = (pays Df.new (b.take j), (j : Int), e) := by rw [allL, hall m]; simp
    exact ⟨j, hj, by rw [h2], by rw [h2, h3], by rw [allL_ok hg, h2]⟩
end Go.Proofs.Ytaigboapaedcgaa
