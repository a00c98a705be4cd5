/- ShakeWants' walk. No condition but that the slices take fewer than 2^47 bytes. -/
import Derived.Test.YtjekkaajagncpaaShake7
namespace Go.Proofs.Ytjekkaajagncpaa
open Go Go.RowKit Hg
set_option linter.unusedVariables false
set_option linter.unusedSimpArgs false
theorem want_nonneg {m : Msg} (h : m.ok) : 0 ≤ m.want ∧ m.want ≤ 16777219 := by
  obtain ⟨h1, h2, h3, h4, h5, h6, h7⟩ := h
  unfold Msg.want wantI
  split
  · rename_i he
    split
    · omega
    · have := h6 he (by omega); omega
  · omega
theorem want_whole {m : Msg} (h : m.whole = true) : m.want = 0 := by
  simp only [Msg.whole, wholeB, Bool.and_eq_true, decide_eq_true_eq] at h
  unfold Msg.want wantI
  rw [if_pos h.1, if_neg (by omega)]
  omega
theorem whole_e {m : Msg} (h : m.whole = true) : m.e = 0 := by
  simp only [Msg.whole, wholeB, Bool.and_eq_true, decide_eq_true_eq] at h
  exact h.1
/-- A byte takes at most one off what is wanted, and makes whole only where one was wanted. -/
theorem take_step {m : Msg} (hm : m.ok) (c : UInt8) (he' : (m.take c).e = 0) : m.e = 0 ∧ m.want - 1 ≤ (m.take c).want ∧ ((m.take c).whole = true → m.want ≤ 1) := by
  obtain ⟨h1, h2, h3, h4, h5, h6, h7⟩ := hm
  by_cases he : m.e ≠ 0
  · rw [Msg.take, if_pos he] at he'; exact absurd he' he
  have he0 : m.e = 0 := by simpa using he
  refine ⟨he0, ?_⟩
  by_cases hw : m.whole = true
  · rw [Msg.take, if_neg he, if_pos hw, want_whole hw]
    exact ⟨by omega, fun _ => by omega⟩
  by_cases hh : m.h < 4
  · have ht : m.take c = ⟨m.h + 1, firstS m.h m.s c.toNat, firstE m.h m.s c.toNat, m.l⟩ := by rw [Msg.take, if_neg he, if_neg hw, if_pos hh]
    rw [ht] at he' ⊢
    have hl := (h5 he0 hh).1
    simp only [Msg.want, wantI, Msg.whole, wholeB, hl, List.length_nil, Bool.and_eq_true, decide_eq_true_eq]
    simp only at he'
    rw [if_pos he0, if_pos (by omega), if_pos he']
    constructor
    · split <;> omega
    · intro h; omega
  · have hh4 : m.h = 4 := by omega
    have ht : m.take c = ⟨m.h, m.s, m.e, m.l ++ [c]⟩ := by rw [Msg.take, if_neg he, if_neg hw, if_neg hh]
    rw [ht]
    simp only [Msg.want, wantI, Msg.whole, wholeB, List.length_append, List.length_singleton, Bool.and_eq_true, decide_eq_true_eq]
    rw [if_pos he0, if_neg (by omega)]
    exact ⟨by omega, fun h => by omega⟩
attribute [local go_sem] Lib.run_eql_slice_nil run_min2 run_max2 run_min_two run_max_two bstr_size
theorem Reads.at {w : World} {v : Value} {l : List UInt8} (h : Reads w v l) (j : Nat) (hj : j < l.length) : ∃ b off c, v = .slice (some ⟨b, off, none⟩) l.length c ∧ w.cell? ⟨b, off + j, none⟩ = some (.int .u8 (l.getD j 0).toNat) ∧ l.length ≤ c := by
  rcases h.cases with ⟨_, rfl⟩ | ⟨ad, cap, rfl, h1, h2, h3⟩
  · simp at hj
  · obtain ⟨b, off, rfl⟩ := cell_spot (h3 0 (by omega))
    have := h3 j hj
    rw [addAt] at this
    exact ⟨b, off, cap, rfl, this, h1⟩
set_option maxHeartbeats 1600000 in
set_option maxRecDepth 100000 in
theorem wants_calls (vb vm : Value) (w : World) {lb lm : List UInt8} (hb : Reads w vb lb) (h1 : lb.length ≤ 140737488351232) (hm : Reads w vm lm) (h2 : lm.length ≤ 140737488351232) :
    Calls Try.prog 6 #[vb, vm] w fun e w' => e = .returned (.bool true) ∧ Below w.heap.size w w' := by
  obtain ⟨ab, cb, rfl, _, _⟩ := Reads.form hb
  obtain ⟨am, cm, rfl, _, _⟩ := Reads.form hm
  have HXB := Lib.hid hb
  have HXM := Lib.hid hm
  clear hb hm
  have SH : ∀ (b1 b2 : Bool), decide ((2000 : Int) < lb.length) = b1 → decide ((2000 : Int) < lm.length) = b2 → (b1 || b2) = true → Calls Try.prog 6 #[.slice ab lb.length cb, .slice am lm.length cm] w fun e w' => e = .returned (.bool true) ∧ Below w.heap.size w w' := by
    intro b1 b2 e1 e2 hor
    cases b1 <;> cases b2 <;> (try (exact absurd hor (by decide)))
    all_goals
      clear hor
      go_enter Try.func6, Try.ntmps6
      go_wp2_with (first | (go_at_call 9; refine (small_calls [] w _ (sat_start w)).mono ?_; rintro e w1 ⟨rfl, H1⟩; have HS := Lib.hid H1; clear H1) | (go_at_call 10; refine (new_calls [] w _ HS.out).mono ?_; rintro r w2 ⟨g, rfl, H2⟩; have HA := Lib.hid H2; clear H2 HS))
      go_ret
      exact ⟨rfl, HA.out.below⟩
  by_cases e1 : (2000 : Int) < lb.length
  · exact SH true _ (by simpa using e1) rfl rfl
  by_cases e2 : (2000 : Int) < lm.length
  · exact SH _ true rfl (by simpa using e2) (by simp)
  clear SH
  have d1 : decide ((2000 : Int) < lb.length) = false := by simpa using e1
  have d2 : decide ((2000 : Int) < lm.length) = false := by simpa using e2
  go_enter Try.func6, Try.ntmps6
  go_wp2_with (first | (go_at_call 9; refine (small_calls [] w _ (sat_start w)).mono ?_; rintro e w1 ⟨rfl, H1⟩; have HS := Lib.hid H1; clear H1) | (go_at_call 10; refine (new_calls [] w _ HS.out).mono ?_; rintro r w2 ⟨g, rfl, H2⟩; have HA := Lib.hid (show sat w w2 (MS g (.slice none 0 0) Msg.new :: Row (.slice none 0 0) Msg.new.l :: []) from H2); clear H2 HS))
  go_loopw [7, 8] (fun wh i wr => ∃ (k : Nat) (u : Value) (m : Msg), k ≤ lb.length ∧ i = .int .i64 k ∧ wh = .bool m.whole ∧ m.ok ∧ sat w wr (MS g u m :: Row u m.l :: [])) (fun _ i _ => lb.length - (intOf i).toNat)
  case atStart => exact ⟨0, _, Msg.new, Nat.zero_le _, rfl, rfl, Msg.ok_new, HA.out⟩
  case round =>
    obtain ⟨k, u, m, hk, rfl, rfl, hmo, HS⟩ := hrel
    clear HA
    by_cases hlt : k < lb.length
    · obtain ⟨b, off, c0, hv, cc, _⟩ := Reads.at HXB.out k hlt
      injection hv with a1 _ a2
      subst a1 a2
      have cc := HS.cell cc
      generalize lb.getD k 0 = y at cc
      have HB := Lib.hid HS
      clear HS
      go_wp2_with (go_at_call 11; refine (mtake_calls g u m hmo _ w _ HB.out y rfl).mono ?_; rintro r w7 ⟨v7, rfl, H7⟩; have HC := Lib.hid H7; clear H7 HB)
      go_roundw
      case rel =>
        have hk1 : k + 1 ≤ lb.length := by omega
        have hi : Value.int .i64 ((k : Int) + 1) = Value.int .i64 ((k + 1 : Nat) : Int) := by go_num
        have hc := HC.out
        have ho := Msg.ok_take hmo y
        first
          | exact ⟨k + 1, _, _, hk1, hi, rfl, ho, hc⟩
          | (repeat apply Exists.intro
             exact ⟨⟨k + 1, _, _, hk1, hi, rfl, ho, hc⟩, rfl⟩)
      case measure => simp [intOf]; omega
    · obtain ⟨N, hN⟩ : ∃ N : Nat, m.want = N := ⟨m.want.toNat, by have := (want_nonneg hmo).1; omega⟩
      have hNb : N ≤ 16777219 := by have := (want_nonneg hmo).2; omega
      have HB := Lib.hid HS
      have HN := Lib.hid hN
      have HW : Hid (m.whole = true → N = 0) := Lib.hid (fun h => by have := want_whole h; omega)
      clear HS hN
      have d3 : decide ((N : Int) < 0) = false := by simp
      cases hw : m.whole with
      | true =>
        have hb0 : ((N : Int) != 0) = false := by have := HW.out hw; simp; omega
        go_wp2_with (go_at_call 13; refine (mwant_calls g u m hmo _ w _ HB.out).mono ?_; rw [HN.out]; rintro r w8 ⟨rfl, H8⟩; have HC := Lib.hid H8; clear H8 HB)
        go_loopw [12] (fun i wr => ∃ (j : Nat) (u : Value) (m2 : Msg), j ≤ lm.length ∧ i = .int .i64 j ∧ m2.ok ∧ Hid (m2.e = 0 → (N : Int) - j ≤ m2.want) ∧ sat w wr (MS g u m2 :: Row u m2.l :: [])) (fun i _ => lm.length - (intOf i).toNat)
        case atStart => exact ⟨0, _, m, Nat.zero_le _, rfl, hmo, Lib.hid (fun _ => by have := HN.out; omega), HC.out⟩
        case round =>
          obtain ⟨j, u2, m2, hj, rfl, hmo2, HJ, HS⟩ := hrel
          clear HC hw
          by_cases hlt2 : j < lm.length
          · by_cases hjn : (j : Int) < (N : Nat)
            · have e3 : decide ((j : Int) < (N : Nat)) = true := by simpa using hjn
              obtain ⟨b, off, c0, hv, cc, _⟩ := Reads.at HXM.out j hlt2
              injection hv with a1 _ a2
              subst a1 a2
              have cc := HS.cell cc
              generalize lm.getD j 0 = y at cc
              have HB := Lib.hid HS
              clear HS
              obtain ⟨m3, hm3⟩ : ∃ m3, m3 = m2.take y := ⟨_, rfl⟩
              have ho := Msg.ok_take hmo2 y
              have hs := @take_step m2 hmo2 y
              rw [← hm3] at hs ho
              have HS3 := Lib.hid hs
              have HM3 := Lib.hid hm3
              have HJ2 : Hid (m3.e = 0 → (N : Int) - (j + 1 : Nat) ≤ m3.want) := Lib.hid (fun h => by have h1 := HS3.out h; have := HJ.out h1.1; omega)
              clear hs hm3
              cases hx : m3.whole with
              | true =>
                have e4 : decide ((j : Int) < (N : Nat) - 1) = false := by
                  have h1 := HS3.out (whole_e hx)
                  have h2 := HJ.out h1.1
                  have h3 := h1.2.2 hx
                  simp; omega
                have HX2 := Lib.hid hx
                clear hx
                go_wp2_with (go_at_call 11; refine (mtake_calls g u2 m2 hmo2 _ w _ HB.out y rfl).mono ?_; rw [← HM3.out, HX2.out]; rintro r w7 ⟨v7, rfl, H7⟩; have HC := Lib.hid H7; clear H7 HB)
                go_roundw
                case rel =>
                  have hk1 : j + 1 ≤ lm.length := by omega
                  have hi : Value.int .i64 ((j : Int) + 1) = Value.int .i64 ((j + 1 : Nat) : Int) := by go_num
                  have hc := HC.out
                  first
                    | exact ⟨j + 1, _, m3, hk1, hi, ho, HJ2, hc⟩
                    | (repeat apply Exists.intro
                       exact ⟨⟨j + 1, _, m3, hk1, hi, ho, HJ2, hc⟩, rfl⟩)
                case measure => simp [intOf]; omega
              | false =>
                have HX2 := Lib.hid hx
                clear hx
                go_wp2_with (go_at_call 11; refine (mtake_calls g u2 m2 hmo2 _ w _ HB.out y rfl).mono ?_; rw [← HM3.out, HX2.out]; rintro r w7 ⟨v7, rfl, H7⟩; have HC := Lib.hid H7; clear H7 HB)
                go_roundw
                case rel =>
                  have hk1 : j + 1 ≤ lm.length := by omega
                  have hi : Value.int .i64 ((j : Int) + 1) = Value.int .i64 ((j + 1 : Nat) : Int) := by go_num
                  have hc := HC.out
                  first
                    | exact ⟨j + 1, _, m3, hk1, hi, ho, HJ2, hc⟩
                    | (repeat apply Exists.intro
                       exact ⟨⟨j + 1, _, m3, hk1, hi, ho, HJ2, hc⟩, rfl⟩)
                case measure => simp [intOf]; omega
            · have e3 : decide ((j : Int) < (N : Nat)) = false := by simpa using hjn
              have HB := Lib.hid HS
              clear HS
              go_wp2
              go_ret
              exact ⟨rfl, HB.out.below⟩
          · have HB := Lib.hid HS
            clear HS
            go_wp2
            go_ret
            exact ⟨rfl, HB.out.below⟩
      | false =>
        go_wp2_with (go_at_call 13; refine (mwant_calls g u m hmo _ w _ HB.out).mono ?_; rw [HN.out]; rintro r w8 ⟨rfl, H8⟩; have HC := Lib.hid H8; clear H8 HB)
        go_loopw [12] (fun i wr => ∃ (j : Nat) (u : Value) (m2 : Msg), j ≤ lm.length ∧ i = .int .i64 j ∧ m2.ok ∧ Hid (m2.e = 0 → (N : Int) - j ≤ m2.want) ∧ sat w wr (MS g u m2 :: Row u m2.l :: [])) (fun i _ => lm.length - (intOf i).toNat)
        case atStart => exact ⟨0, _, m, Nat.zero_le _, rfl, hmo, Lib.hid (fun _ => by have := HN.out; omega), HC.out⟩
        case round =>
          obtain ⟨j, u2, m2, hj, rfl, hmo2, HJ, HS⟩ := hrel
          clear HC hw
          by_cases hlt2 : j < lm.length
          · by_cases hjn : (j : Int) < (N : Nat)
            · have e3 : decide ((j : Int) < (N : Nat)) = true := by simpa using hjn
              obtain ⟨b, off, c0, hv, cc, _⟩ := Reads.at HXM.out j hlt2
              injection hv with a1 _ a2
              subst a1 a2
              have cc := HS.cell cc
              generalize lm.getD j 0 = y at cc
              have HB := Lib.hid HS
              clear HS
              obtain ⟨m3, hm3⟩ : ∃ m3, m3 = m2.take y := ⟨_, rfl⟩
              have ho := Msg.ok_take hmo2 y
              have hs := @take_step m2 hmo2 y
              rw [← hm3] at hs ho
              have HS3 := Lib.hid hs
              have HM3 := Lib.hid hm3
              have HJ2 : Hid (m3.e = 0 → (N : Int) - (j + 1 : Nat) ≤ m3.want) := Lib.hid (fun h => by have h1 := HS3.out h; have := HJ.out h1.1; omega)
              clear hs hm3
              cases hx : m3.whole with
              | true =>
                have e4 : decide ((j : Int) < (N : Nat) - 1) = false := by
                  have h1 := HS3.out (whole_e hx)
                  have h2 := HJ.out h1.1
                  have h3 := h1.2.2 hx
                  simp; omega
                have HX2 := Lib.hid hx
                clear hx
                go_wp2_with (go_at_call 11; refine (mtake_calls g u2 m2 hmo2 _ w _ HB.out y rfl).mono ?_; rw [← HM3.out, HX2.out]; rintro r w7 ⟨v7, rfl, H7⟩; have HC := Lib.hid H7; clear H7 HB)
                go_roundw
                case rel =>
                  have hk1 : j + 1 ≤ lm.length := by omega
                  have hi : Value.int .i64 ((j : Int) + 1) = Value.int .i64 ((j + 1 : Nat) : Int) := by go_num
                  have hc := HC.out
                  first
                    | exact ⟨j + 1, _, m3, hk1, hi, ho, HJ2, hc⟩
                    | (repeat apply Exists.intro
                       exact ⟨⟨j + 1, _, m3, hk1, hi, ho, HJ2, hc⟩, rfl⟩)
                case measure => simp [intOf]; omega
              | false =>
                have HX2 := Lib.hid hx
                clear hx
                go_wp2_with (go_at_call 11; refine (mtake_calls g u2 m2 hmo2 _ w _ HB.out y rfl).mono ?_; rw [← HM3.out, HX2.out]; rintro r w7 ⟨v7, rfl, H7⟩; have HC := Lib.hid H7; clear H7 HB)
                go_roundw
                case rel =>
                  have hk1 : j + 1 ≤ lm.length := by omega
                  have hi : Value.int .i64 ((j : Int) + 1) = Value.int .i64 ((j + 1 : Nat) : Int) := by go_num
                  have hc := HC.out
                  first
                    | exact ⟨j + 1, _, m3, hk1, hi, ho, HJ2, hc⟩
                    | (repeat apply Exists.intro
                       exact ⟨⟨j + 1, _, m3, hk1, hi, ho, HJ2, hc⟩, rfl⟩)
                case measure => simp [intOf]; omega
            · have e3 : decide ((j : Int) < (N : Nat)) = false := by simpa using hjn
              have HB := Lib.hid HS
              clear HS
              go_wp2
              go_ret
              exact ⟨rfl, HB.out.below⟩
          · have HB := Lib.hid HS
            clear HS
            go_wp2
            go_ret
            exact ⟨rfl, HB.out.below⟩
end Go.Proofs.Ytjekkaajagncpaa
