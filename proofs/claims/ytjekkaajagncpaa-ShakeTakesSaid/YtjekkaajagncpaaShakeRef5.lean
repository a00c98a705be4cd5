/- Layer 8: the code's message and the document's, byte by byte: the plain law. No condition. -/
import Derived.Test.YtjekkaajagncpaaShakeRef4
namespace Go.Proofs.Ytjekkaajagncpaa
open Go Go.RowKit Hg
set_option linter.unusedVariables false
set_option linter.unusedSimpArgs false
/-- The same bytes came to both. -/
def Same (m : Msg) (B : List UInt8) (e : Int) : Prop :=
  m.e = e ∧ (e = 0 → m.h = min 4 B.length ∧ m.s * 256 ^ (4 - m.h) = sizeR B ∧ m.l = B.drop 4 ∧ (1 ≤ B.length → bt B 0 = 1))
theorem same_new : Same Msg.new [] 0 := by
  refine ⟨rfl, fun _ => ⟨rfl, ?_, rfl, fun h => by simp at h⟩⟩
  simp [Msg.new, sizeR, bt]
theorem same_whole {m : Msg} {B : List UInt8} (h : Same m B 0) : m.whole = wholeR B := by
  obtain ⟨he, hz⟩ := h
  obtain ⟨h1, h2, h3, h4⟩ := hz rfl
  unfold Msg.whole wholeB wholeR
  rw [he, h3]
  by_cases h5 : 4 ≤ B.length
  · have h6 : m.h = 4 := by omega
    rw [h6] at h2
    have h2' : m.s = sizeR B := by simpa using h2
    rw [h6, h2', decide_eq_true h5, decide_eq_true rfl, Bool.eq_iff_iff]
    simp only [Bool.and_eq_true, decide_eq_true_eq, List.length_drop]
    simp only [true_and]
    omega
  · rw [decide_eq_false h5, decide_eq_false (p := ((m.h : Nat) : Int) = 4) (by omega)]
    simp
theorem same_whole' {m : Msg} {B : List UInt8} {e : Int} (h : Same m B e) : (decide (e = 0) && wholeR B) = m.whole := by
  by_cases he : e = 0
  · subst he; rw [same_whole h]; simp
  · have := h.1
    simp [he, Msg.whole, wholeB, this]
theorem same_want {m : Msg} {B : List UInt8} {e : Int} (h : Same m B e) : wantR B e = m.want := by
  obtain ⟨he, hz⟩ := h
  unfold Msg.want wantI wantR
  rw [he]
  by_cases h0 : e = 0
  · obtain ⟨h1, h2, h3, h4⟩ := hz h0
    rw [if_pos h0, if_pos h0, h3]
    by_cases h5 : B.length < 4
    · rw [if_pos h5, if_pos (by omega)]
      omega
    · have h6 : m.h = 4 := by omega
      rw [h6] at h2
      have h2' : m.s = sizeR B := by simpa using h2
      rw [if_neg h5, if_neg (by omega), h2', List.length_drop]
      omega
  · rw [if_neg h0, if_neg h0]
theorem same_body {m : Msg} {B : List UInt8} {e : Int} (h : Same m B e) : bodyR B e = m.body := by
  unfold Msg.body bodyL bodyR
  by_cases h0 : e = 0
  · subst h0
    have hw := same_whole h
    unfold Msg.whole at hw
    rw [hw, (h.2 rfl).2.2.1]
    simp
  · have hw : wholeB m.h m.s m.e m.l.length = false := by rw [h.1]; simp [wholeB, h0]
    rw [hw]
    simp [h0]
theorem bt_app (B : List UInt8) (c : UInt8) (i : Nat) (h : i < B.length) : bt (B ++ [c]) i = bt B i := by
  unfold bt
  simp [List.getD, List.getElem?_append_left h]
theorem same_take {m : Msg} {B : List UInt8} {e : Int} (hm : m.ok) (h : Same m B e) (c : UInt8) : Same (m.take c) (takeR B e c).1 (takeR B e c).2 := by
  by_cases he : e ≠ 0
  · rw [Msg.take, if_pos (by rw [h.1]; exact he), takeR, if_pos he]
    exact h
  obtain rfl : e = 0 := by simpa using he
  have hw := same_whole h
  have hme := h.1
  rw [Msg.take, if_neg (by rw [hme]; exact he), takeR, if_neg he, ← hw]
  by_cases hwt : m.whole = true
  · rw [if_pos hwt, if_pos hwt]; exact h
  rw [if_neg hwt, if_neg hwt]
  obtain ⟨_, hz⟩ := h
  obtain ⟨h1, h2, h3, h4⟩ := hz rfl
  have hc : c.toNat ≤ 255 := by have := c.toNat_lt; omega
  obtain ⟨k1, k2, k3, k4, k5, k6, k7⟩ := hm
  obtain ⟨mh, ms, me, ml⟩ := m
  dsimp only at *
  subst hme
  by_cases h5 : B.length < 4
  · have h6 : mh = B.length := by omega
    subst h6
    rw [if_pos h5]
    have hl : ml = [] := (k5 rfl h5).1
    match B, h5 with
    | [], _ =>
      simp only [sizeR, bt, List.length_nil, List.getD] at h2
      have hs0 : ms = 0 := by simp at h2; omega
      subst hs0
      refine ⟨?_, fun hz => ?_⟩
      · simp [firstE, errR, bt, sizeR]
      · have hz' : errR ([] ++ [c]) = 0 := hz
        have hb : bt ([] ++ [c]) 0 = 1 := by
          unfold errR at hz'
          by_cases hb : bt ([] ++ [c]) 0 = 1
          · exact hb
          · rw [if_neg hb] at hz'; cases hz'
        refine ⟨rfl, ?_, ?_, fun _ => hb⟩
        · simp [firstS, sizeR, bt]
        · simp [hl]
    | [a], _ =>
      have h4' := h4 (by simp)
      have hs0 : ms = 0 := (k5 rfl (by simp)).2 (by simp)
      subst hs0
      have hb : bt ([a] ++ [c]) 0 = 1 := h4'
      have hsz : sizeR ([a] ++ [c]) = c.toNat * 65536 := by simp [sizeR, bt]; omega
      refine ⟨?_, fun hz => ⟨rfl, ?_, ?_, fun _ => hb⟩⟩
      · show firstE 1 0 c.toNat = errR ([a] ++ [c])
        rw [errR, if_pos hb, hsz]; simp [firstE]
      · show firstS 1 0 c.toNat * 256 ^ 2 = sizeR ([a] ++ [c])
        rw [hsz]; simp [firstS]
      · simp [hl]
    | [a, b], _ =>
      have h4' := h4 (by simp)
      have hs0 : ms = b.toNat := by simp [sizeR, bt] at h2; omega
      subst hs0
      have hb : bt ([a, b] ++ [c]) 0 = 1 := h4'
      have hsz : sizeR ([a, b] ++ [c]) = (b.toNat * 256 + c.toNat) * 256 := by simp [sizeR, bt]
      refine ⟨?_, fun hz => ⟨rfl, ?_, ?_, fun _ => hb⟩⟩
      · show firstE 2 b.toNat c.toNat = errR ([a, b] ++ [c])
        rw [errR, if_pos hb, hsz]; simp [firstE]
      · show firstS 2 b.toNat c.toNat * 256 ^ 1 = sizeR ([a, b] ++ [c])
        rw [hsz]; simp [firstS]
      · simp [hl]
    | [a, b, d], _ =>
      have h4' := h4 (by simp)
      have hs0 : ms = b.toNat * 256 + d.toNat := by simp [sizeR, bt] at h2; omega
      subst hs0
      have hb : bt ([a, b, d] ++ [c]) 0 = 1 := h4'
      have hsz : sizeR ([a, b, d] ++ [c]) = (b.toNat * 256 + d.toNat) * 256 + c.toNat := by simp [sizeR, bt]
      refine ⟨?_, fun hz => ⟨rfl, ?_, ?_, fun _ => hb⟩⟩
      · show firstE 3 (b.toNat * 256 + d.toNat) c.toNat = errR ([a, b, d] ++ [c])
        rw [errR, if_pos hb, hsz]; simp [firstE]
      · show firstS 3 (b.toNat * 256 + d.toNat) c.toNat * 256 ^ 0 = sizeR ([a, b, d] ++ [c])
        rw [hsz]; simp [firstS]
      · simp [hl]
    | a :: b :: d :: f :: t, h5 => simp at h5; omega
  · have h6 : mh = 4 := by omega
    subst h6
    rw [if_neg (by omega)]
    have hs : sizeR (B ++ [c]) = sizeR B := by
      unfold sizeR
      rw [bt_app B c 1 (by omega), bt_app B c 2 (by omega), bt_app B c 3 (by omega)]
    have hb : bt (B ++ [c]) 0 = 1 := by rw [bt_app B c 0 (by omega)]; exact h4 (by omega)
    have hs2 : ms = sizeR B := by simpa using h2
    have hs3 : ms ≤ 16384 := k3 rfl
    refine ⟨?_, fun _ => ⟨by simp; omega, by simpa [hs] using hs2, ?_, fun _ => hb⟩⟩
    · show (0 : Int) = errR (B ++ [c])
      rw [errR, if_pos hb, hs, ← hs2, if_neg (by omega)]
    · show ml ++ [c] = (B ++ [c]).drop 4
      rw [h3, List.drop_append_of_le_length (by omega)]
theorem takeR_len (B : List UInt8) (e : Int) (c : UInt8) : (takeR B e c).1.length ≤ B.length + 1 := by
  unfold takeR
  split
  · simp
  · split
    · simp
    · simp
theorem Reads.at' {w : World} {v : Value} {l : List UInt8} (h : Reads w v l) (j : Nat) (hj : j < l.length) : ∃ b off c, v = .slice (some ⟨b, off, none⟩) l.length c ∧ w.cell? ⟨b, off + j, none⟩ = some (.int .u8 (l.getD j 0).toNat) ∧ l.length ≤ c := by
  rcases h.cases with ⟨_, rfl⟩ | ⟨ad, cap, rfl, h1, h2, h3⟩
  · simp at hj
  · obtain ⟨b, off, rfl⟩ := cell_spot (h3 0 (by omega))
    have := h3 j hj
    rw [addAt] at this
    exact ⟨b, off, cap, rfl, this, h1⟩
end Go.Proofs.Ytjekkaajagncpaa
