/- Layer 7: the same bytes to both deframers; the document's All. No condition but that the slice takes at most a million bytes. -/
import Derived.Test.YtaigboapaedcgaaRec8
namespace Go.Proofs.Ytaigboapaedcgaa
open Go Go.RowKit Hg
set_option linter.unusedVariables false
set_option linter.unusedSimpArgs false
attribute [local go_sem] Lib.run_eql_slice_nil run_min2 run_max2 run_min_two run_max_two
def Same (d : Df) (r : Rf) : Prop :=
  r.e = d.e ∧ r.c = d.c ∧ r.a ≤ 20000 ∧ r.s ≤ 70000 ∧ (d.e = 0 → (d.p ≤ 4 ∧ r.a = d.p ∧ (d.p = 4 → r.s = d.l)) ∨ (d.p = 5 ∧ 5 ≤ r.a ∧ r.a + d.l = 5 + r.s ∧ r.s ≤ 16384))
theorem same_new : Same Df.new Rf.new := ⟨rfl, rfl, by decide, by decide, fun _ => .inl ⟨by decide, rfl, fun h => by cases h⟩⟩
theorem same_ok {d : Df} {r : Rf} (hd : d.ok) (h : Same d r) (hc : d.c ≤ 1000000) : r.ok := by
  obtain ⟨h1, h2, h3, h4, h5⟩ := h
  refine ⟨h3, h4, by omega, fun he ha => ?_⟩
  rcases h5 (by rw [← h1]; exact he) with ⟨a, b, c⟩ | ⟨a, b, c, e⟩
  · obtain ⟨k, hk, hl⟩ := hd.2.1 (by rw [← h1]; exact he) a
    have := c (by omega)
    omega
  · exact e
theorem headL_le (p l x : Nat) (hl : l ≤ 16384) (hx : x ≤ 255) : headL p l x ≤ 65280 := by
  unfold headL
  split
  · omega
  · split <;> omega
theorem same_pay {d : Df} {r : Rf} (h : Same d r) (x : UInt8) : (r.pay && decide ((r.take x).e = 0)) = d.pay := by
  obtain ⟨h1, h2, h3, h4, h5⟩ := h
  unfold Rf.pay Df.pay
  rw [h1]
  by_cases he : d.e = 0
  · rcases h5 he with ⟨a, b, c⟩ | ⟨a, b, c, e⟩
    · rw [decide_eq_false (p := 5 ≤ r.a) (by omega), decide_eq_false (p := d.p = 5) (by omega)]
      simp
    · have ht : (r.take x).e = 0 := by
        unfold Rf.take
        have hr : rE r.a r.s x.toNat = 0 := by unfold rE; rw [if_neg (by omega)]
        rw [if_neg (by rw [h1, he]; simp), if_neg (by rw [hr]; simp)]
        split <;> rfl
      rw [ht, decide_eq_true b, decide_eq_true a]
      simp
  · simp [he]
theorem same_take {d : Df} {r : Rf} (hd : d.ok) (h : Same d r) (x : UInt8) : Same (d.take x) (r.take x) := by
  have hx : x.toNat ≤ 255 := by have := x.toNat_lt; omega
  obtain ⟨h1, h2, h3, h4, h5⟩ := h
  obtain ⟨k1, k2, k3⟩ := hd
  by_cases he : d.e ≠ 0
  · rw [Df.take, if_pos he, Rf.take, if_pos (by rw [h1]; exact he)]
    exact ⟨h1, h2, h3, h4, h5⟩
  have he' : d.e = 0 := by simpa using he
  have hre : ¬ r.e ≠ 0 := by rw [h1]; exact he
  rcases h5 he' with ⟨a, b, c⟩ | ⟨a, b, c, e⟩
  · obtain ⟨k, hk, hl⟩ := k2 he' a
    have hE : rE r.a r.s x.toNat = headE d.p d.l x.toNat := by
      unfold rE
      rw [if_pos (show r.a ≤ 4 by omega), b]
      by_cases hp4 : d.p = 4
      · rw [c hp4]
      · unfold headE
        by_cases q0 : d.p = 0
        · rw [if_pos q0, if_pos q0]
        · rw [if_neg q0, if_neg q0]
          by_cases q1 : d.p = 1
          · rw [if_pos q1, if_pos q1]
          · rw [if_neg q1, if_neg q1]
            by_cases q2 : d.p = 2
            · rw [if_pos q2, if_pos q2]
            · have q3 : d.p = 3 := by omega
              rw [if_neg q2, if_neg q2, if_pos q3, if_pos q3]
    have hL : headL r.a r.s x.toNat ≤ 70000 ∧ (3 ≤ d.p → headL r.a r.s x.toNat = headL d.p d.l x.toNat) := by
      rw [b]
      unfold headL
      by_cases q3 : d.p = 3
      · rw [if_pos q3, if_pos q3]; omega
      · rw [if_neg q3, if_neg q3]
        by_cases hp4 : d.p = 4
        · rw [if_pos hp4, if_pos hp4, c hp4]; omega
        · rw [if_neg hp4, if_neg hp4]; omega
    rw [Df.take, if_neg he, if_pos (show d.p < 5 by omega), Rf.take, if_neg hre, hE]
    by_cases hz : headE d.p d.l x.toNat ≠ 0
    · rw [if_pos hz]
      exact ⟨rfl, h2, h3, hL.1, fun h => absurd h hz⟩
    · have hz' : headE d.p d.l x.toNat = 0 := by simpa using hz
      rw [if_neg hz, if_neg (show ¬ (5 ≤ r.a ∧ r.a + 1 = 5 + headL r.a r.s x.toNat) by omega)]
      have hP : headP d.p d.l x.toNat = d.p + 1 := by simp [headP, hz']
      obtain ⟨_, u2, u3⟩ := headE_le hz' a ⟨k, hk, hl⟩
      refine ⟨hz'.symm, h2, by show r.a + 1 ≤ 20000; omega, hL.1, fun _ => ?_⟩
      show (headP d.p d.l x.toNat ≤ 4 ∧ r.a + 1 = headP d.p d.l x.toNat ∧ (headP d.p d.l x.toNat = 4 → headL r.a r.s x.toNat = headL d.p d.l x.toNat)) ∨ (headP d.p d.l x.toNat = 5 ∧ 5 ≤ r.a + 1 ∧ r.a + 1 + headL d.p d.l x.toNat = 5 + headL r.a r.s x.toNat ∧ headL r.a r.s x.toNat ≤ 16384)
      rw [hP]
      by_cases hp4 : d.p = 4
      · right
        have := hL.2 (by omega)
        have := u3 hp4
        omega
      · left
        refine ⟨by omega, by omega, fun h => hL.2 (by omega)⟩
  · have hE : rE r.a r.s x.toNat = 0 := by unfold rE; rw [if_neg (show ¬ r.a ≤ 4 by omega)]
    have hL : headL r.a r.s x.toNat = r.s := by
      unfold headL
      rw [if_neg (show ¬ r.a = 3 by omega), if_neg (show ¬ r.a = 4 by omega)]
    have hl := k3 he' a
    rw [Df.take, if_neg he, if_neg (show ¬ d.p < 5 by omega), Rf.take, if_neg hre, hE, if_neg (show ¬ ((0 : Int) ≠ 0) by simp), hL]
    by_cases h6 : d.l = 1
    · rw [if_pos h6, if_pos (show 5 ≤ r.a ∧ r.a + 1 = 5 + r.s by omega)]
      exact ⟨rfl, by show r.c + 1 = d.c + 1; omega, by simp, h4, fun _ => .inl ⟨by simp, rfl, fun h => by simp at h⟩⟩
    · rw [if_neg h6, if_neg (show ¬ (5 ≤ r.a ∧ r.a + 1 = 5 + r.s) by omega)]
      refine ⟨rfl, h2, ?_, h4, fun _ => .inr ⟨rfl, ?_, ?_, e⟩⟩
      · show r.a + 1 ≤ 20000; omega
      · show 5 ≤ r.a + 1; omega
      · show r.a + 1 + (d.l - 1) = 5 + r.s; omega
theorem same_open {d : Df} {r : Rf} (h : Same d r) : (decide (r.e = 0) && decide (0 < r.a)) = d.opened := by
  obtain ⟨h1, h2, h3, h4, h5⟩ := h
  unfold Df.opened
  rw [h1]
  by_cases he : d.e = 0
  · rw [Bool.eq_iff_iff]
    rcases h5 he with ⟨a, b, c⟩ | ⟨a, b, c, e⟩
    · simp [he, b]; omega
    · simp [he, a]; omega
  · simp [he]
theorem reads_cell {w : World} {b off n c : Nat} {l : List UInt8} (h : Reads w (.slice (some ⟨b, off, none⟩) n c) l) (j : Nat) (hj : j < l.length) : w.cell? ⟨b, off + j, none⟩ = some (.int .u8 (l.getD j 0).toNat) := by
  obtain ⟨b', off', c', hv, hc, _⟩ := Reads.at' h j hj
  injection hv with a1 _ _
  injection a1 with a1
  injection a1 with a1 a2 _
  subst a1 a2
  exact hc
set_option maxHeartbeats 3200000 in
set_option maxRecDepth 100000 in
theorem rall_calls (v : Value) (b : List UInt8) (R : List Asn) (w0 w : World) (H : sat w0 w R) (hv : Rd w0 R v b) (hb : b.length ≤ 1000000) :
    Calls Try.prog 16 #[v] w fun r w' => ∃ v', r = .returned (.tuple #[v', .int .i64 (allL b).2.1, .int .i64 (allL b).2.2]) ∧ sat w0 w' (Row v' (allL b).1 :: R) := by
  obtain ⟨a, cap, rfl, _, _⟩ := (hv w H).form
  have HV := Lib.hid hv
  have HH := Lib.hid H
  clear H hv
  have HA := Lib.hid (show sat w0 _ (RS w.heap.size Rf.new :: Row (.slice none 0 0) [] :: R) from (Row.nil HH.out).alloc (.cells #[.int .i64 0, .int .i64 0, .int .i64 0, .int .i64 0] 29))
  go_enter Try.func16, Try.ntmps16
  go_wp2
  go_loopw [5, 7] (fun out i wr => ∃ (k : Nat) (d : Df) (r : Rf) (o : List UInt8), k ≤ b.length ∧ i = .int .i64 k ∧ d.ok ∧ d.c ≤ k ∧ o.length ≤ k ∧ Hid (allL b = allGo d (b.drop k) k o) ∧ Hid (Same d r) ∧ sat w0 wr (RS w.heap.size r :: Row out o :: R)) (fun _ i _ => b.length - (intOf i).toNat)
  case atStart => exact ⟨0, Df.new, Rf.new, [], Nat.zero_le _, rfl, Df.ok_new, Nat.le_refl _, Nat.le_refl _, Lib.hid rfl, Lib.hid same_new, HA.out⟩
  case round =>
    obtain ⟨k, d, r, o, hk, rfl, hdo, hdc, hol, HG, HSM, HS⟩ := hrel
    clear HA
    by_cases hlt : k < b.length
    · obtain ⟨b0, off, c0, hv, cc, _⟩ := Reads.at' (HV.out _ HS.tail.tail) k hlt
      injection hv with a1 _ a2
      subst a1 a2
      have hG := HG.out
      rw [drop_getD hlt, allGo] at hG
      have hgd : b.getD k 0 = b.getD k 0 := rfl
      obtain ⟨x, hx⟩ : ∃ x, x = b.getD k 0 := ⟨_, rfl⟩
      have HX := Lib.hid hx
      rw [← hx] at cc hG
      clear hx hgd
      obtain ⟨d2, hd2⟩ : ∃ d2, d2 = d.take x := ⟨_, rfl⟩
      obtain ⟨r2, hr2⟩ : ∃ r2, r2 = r.take x := ⟨_, rfl⟩
      obtain ⟨E, hE⟩ : ∃ E, E = d2.e := ⟨_, rfl⟩
      obtain ⟨p, hp⟩ : ∃ p, p = d.pay := ⟨_, rfl⟩
      have ho2 := Df.ok_take hdo x
      have hc2 := Df.take_c d x
      have hro := same_ok hdo HSM.out (by omega)
      have hs2 := same_take hdo HSM.out x
      have hp2 := same_pay HSM.out x
      rw [← hd2] at hG ho2 hc2 hs2
      rw [← hr2] at hs2 hp2
      rw [← hp] at hp2 hG
      have he2 := hs2.1
      rw [← hE] at hG he2
      rw [he2] at hp2
      have HR2 := Lib.hid hr2
      have HE2 := Lib.hid he2
      have HP2 := Lib.hid hp2
      have HS2 := Lib.hid hs2
      have HB := Lib.hid HS
      clear HS HG HSM hd2 hr2 hE he2 hp2 hs2 hp
      by_cases he : E ≠ 0
      · have d1 : (E != 0) = true := by simpa using he
        rw [if_pos he] at hG
        have HR := Lib.hid hG
        clear hG
        cases p <;>
        · go_wp2_with (go_at_call 12; refine (rtake_calls w.heap.size r hro x _ w0 _ HB.out rfl).mono ?_; rw [← HR2.out, HE2.out, HP2.out]; rintro u w7 ⟨rfl, H7⟩; have HC := Lib.hid H7; clear H7 HB)
          go_ret3
          exact ⟨_, by rw [HR.out]; rfl, by rw [HR.out]; exact HC.out.tail⟩
      · obtain rfl : E = 0 := by simpa using he
        rw [if_neg he] at hG
        clear he
        cases p with
        | false =>
          have HG := Lib.hid (show allL b = allGo d2 (b.drop (k + 1)) (k + 1) o from hG)
          clear hG
          go_wp2_with (go_at_call 12; refine (rtake_calls w.heap.size r hro x _ w0 _ HB.out rfl).mono ?_; rw [← HR2.out, HE2.out, HP2.out]; rintro u w7 ⟨rfl, H7⟩; have HC := Lib.hid H7; clear H7 HB)
          go_roundw
          case rel =>
            have hc3 : d2.c ≤ k + 1 := by omega
            have ho3 : o.length ≤ k + 1 := by omega
            have hk1 : k + 1 ≤ b.length := by omega
            have hi : Value.int .i64 ((k : Int) + 1) = Value.int .i64 ((k + 1 : Nat) : Int) := by go_num
            first
              | exact ⟨k + 1, _, _, _, hk1, hi, ho2, hc3, ho3, HG, HS2, HC.out⟩
              | (repeat apply Exists.intro
                 exact ⟨⟨k + 1, _, _, _, hk1, hi, ho2, hc3, ho3, HG, HS2, HC.out⟩, rfl⟩)
          case measure => simp [intOf]; omega
        | true =>
          have HG := Lib.hid (show allL b = allGo d2 (b.drop (k + 1)) (k + 1) (o ++ [x]) from hG)
          clear hG
          go_wp2_with (first | (go_at_call 12; refine (rtake_calls w.heap.size r hro x _ w0 _ HB.out rfl).mono ?_; rw [← HR2.out, HE2.out, HP2.out]; rintro u w7 ⟨rfl, H7⟩; have HC := Lib.hid H7; clear H7 HB; clear cc; have cc := reads_cell (HV.out _ HC.out.tail.tail) k hlt; rw [← HX.out] at cc) | (refine BigFrame.wpList_want (by rfl) fun K' hK' => ?_; refine op_append_bytes (l := o) (m := [x]) (y := .slice (some ⟨w7.heap.size, 0, none⟩) 1 1) (by rfl) Try.underlying22 info5 (by rfl) (by rfl) (show sat w0 (w7.alloc (.cells ([x].map B8).toArray 5)) (Row _ o :: blk w7.heap.size (.cells ([x].map B8).toArray 5) :: RS w.heap.size r2 :: R) from (HC.out.alloc _).re 3 [2, 0, 1] [] rfl) (Rd.blk [x] (show (1 : Nat) ≤ maxLen by decide) _ (HC.out.alloc _)) (by simp; omega) ?_; intro v5 w5 H5 _; refine hK' _ _ ?_; clear hK' K'; have HD := Lib.hid (show sat w0 w5 (RS w.heap.size r2 :: Row v5 (o ++ [x]) :: R) from H5.re 3 [2, 0] [1] rfl); clear H5 HC))
          go_roundw
          case rel =>
            have hc3 : d2.c ≤ k + 1 := by omega
            have ho3 : (o ++ [x]).length ≤ k + 1 := by simp; omega
            have hk1 : k + 1 ≤ b.length := by omega
            have hi : Value.int .i64 ((k : Int) + 1) = Value.int .i64 ((k + 1 : Nat) : Int) := by go_num
            first
              | exact ⟨k + 1, _, _, _, hk1, hi, ho2, hc3, ho3, HG, HS2, HD.out⟩
              | (repeat apply Exists.intro
                 exact ⟨⟨k + 1, _, _, _, hk1, hi, ho2, hc3, ho3, HG, HS2, HD.out⟩, rfl⟩)
          case measure => simp [intOf]; omega
    · obtain rfl : k = b.length := by omega
      have hG := HG.out
      rw [List.drop_eq_nil_of_le (Nat.le_refl _), allGo] at hG
      have HR := Lib.hid hG
      have HB := Lib.hid HS
      clear HS HG hG
      go_wp2
      go_ret3
      exact ⟨_, by rw [HR.out]; rfl, by rw [HR.out]; exact HB.out.tail⟩
end Go.Proofs.Ytaigboapaedcgaa
