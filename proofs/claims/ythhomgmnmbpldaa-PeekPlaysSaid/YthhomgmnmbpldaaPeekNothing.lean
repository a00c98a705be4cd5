/- PeekNothing's walk: it answers true, and leaves all that was there as it was. No condition but that no slice has 2^47 elements. -/
import Derived.Test.YthhomgmnmbpldaaPeek5
import Derived.Test.YthhomgmnmbpldaaIns
namespace Go.Proofs.Ythhomgmnmbpldaa
open Go Go.RowKit Hg
set_option linter.unusedVariables false
set_option linter.unusedSimpArgs false
attribute [local go_sem] Lib.run_eql_slice_nil run_min2 run_max2 run_min_two run_max_two bstr_size
theorem most_of' (n : Int) : ∃ mo : Nat, mx 0 (mn n 16384) = mo ∧ mo ≤ 16384 := ⟨(mx 0 (mn n 16384)).toNat, by rw [mx_eq, mn_eq]; omega, by rw [mx_eq, mn_eq]; omega⟩
theorem rd_nil (w0 : World) (R : List Asn) : Rd w0 R (.slice none 0 0) [] := fun w _ => ⟨by simp, .inl ⟨rfl, rfl⟩⟩
set_option maxHeartbeats 1600000 in
set_option maxRecDepth 100000 in
theorem nothing_calls (most : Int) (v : Value) (n : Int) (w : World) (hmost : -9223372036854775808 ≤ most ∧ most ≤ 9223372036854775807) {ls : List Trip} (h : TripsIn w v ls) (hl : ls.length ≤ 140737488351232) (hn : -9223372036854775808 ≤ n ∧ n ≤ 9223372036854775807) :
    Calls Try.prog 7 #[.int .i64 most, v, .int .i64 n] w fun e w' => e = .returned (.bool true) ∧ Below w.heap.size w w' := by
  clear hmost hn
  obtain ⟨mo, hmo, hmo2⟩ := most_of' most
  have HM := Lib.hid hmo
  have HT0 := Lib.hid h
  clear hmo
  have SH : ∀ (b1 b2 : Bool), fewB ls = b1 → decide (0 < n) = b2 → (!b1 || b2) = true → Calls Try.prog 7 #[.int .i64 most, v, .int .i64 n] w fun e w' => e = .returned (.bool true) ∧ Below w.heap.size w w' := by
    intro b1 b2 hfew hn hor
    cases b1 <;> cases b2 <;> (try (exact absurd hor (by decide)))
    all_goals
      clear h hor
      go_enter Try.func7, Try.ntmps7
      go_wp2_with (first | (go_at_call 8; refine (small_calls [] w _ (sat_start w)).mono ?_; rintro e w1 ⟨rfl, H1⟩; have HS := Lib.hid H1; clear H1) | (go_at_call 9; refine (few_calls v ls _ (HT0.out.below HS.out.below) hl).mono ?_; rintro e w2 ⟨rfl, rfl⟩) | (go_at_call 10; refine (new_calls most mo HM.out [] w _ HS.out).mono ?_; rintro e w2 ⟨g, rfl, H2⟩; have HT := Lib.hid H2; clear H2 HS))
      go_ret
      exact ⟨rfl, HT.out.below⟩
  cases hfew : fewB ls with
  | false => exact SH _ _ hfew rfl rfl
  | true =>
  by_cases hn : 0 < n
  · exact SH _ true rfl (by simpa using hn) (by simp)
  clear SH
  have d2 : decide (0 < n) = false := by simpa using hn
  obtain ⟨a, cap, rfl, h1, h2, h3⟩ := h.all
  have H3 := Lib.hid h3
  have hl1 : ls.length ≤ 100 := by simp [fewB] at hfew; exact hfew.1
  clear h h3
  go_enter Try.func7, Try.ntmps7
  go_wp2_with (first | (go_at_call 8; refine (small_calls [] w _ (sat_start w)).mono ?_; rintro e w1 ⟨rfl, H1⟩; have HS := Lib.hid H1; clear H1) | (go_at_call 9; refine (few_calls _ ls _ (HT0.out.below HS.out.below) hl).mono ?_; rintro e w2 ⟨rfl, rfl⟩) | (go_at_call 10; refine (new_calls most mo HM.out [] w _ HS.out).mono ?_; rintro e w2 ⟨g, rfl, H2⟩; have HT := Lib.hid H2; clear H2 HS))
  go_loopw [10] (fun i wr => ∃ (k at_ : Nat) (o : Bool) (u : Value) (l : List UInt8), k ≤ ls.length ∧ i = .int .i64 k ∧ at_ ≤ l.length ∧ l.length ≤ mo ∧ sat w wr (PB g u mo at_ o :: Row u l :: [])) (fun i _ => ls.length - (intOf i).toNat)
  case atStart => exact ⟨0, 0, _, _, [], Nat.zero_le _, rfl, by simp, by simp, HT.out⟩
  case round =>
    obtain ⟨k, at_, o, u, l, hk, rfl, hat, hlm, HS⟩ := hrel
    clear hfew HT0 HT
    by_cases hlt : k < ls.length
    · have F := H3.out k hlt
      generalize ls.getD k trip0 = t at F
      obtain ⟨b, off, rfl, c0, c1, c2, hr, hb, _, _⟩ := F
      have c0 := HS.cell c0
      have c1 := HS.cell c1
      have c2 := HS.cell c2
      have HB := Lib.hid HS
      have HR := Lib.hid hr
      clear HS hr
      by_cases hz : t.n.tmod 3 = 0
      · go_wp2_with (go_at_call 12; refine (add_calls g u l mo at_ o t.v t.b [] w _ HB.out (Rd.old HR.out) hmo2 hlm hb).mono ?_; rintro e w5 ⟨v5, rfl, H5⟩; have HC := Lib.hid H5; clear H5 HB)
        go_roundw
        case rel => exact ⟨k + 1, at_, _, _, _, by omega, by go_num, by simp; omega, by simp; omega, HC.out⟩
        case measure => simp [intOf]; omega
      · go_wp2_with (go_at_call 14; refine (next_calls g u l mo at_ o t.m [] w _ HB.out hat (by omega)).mono ?_; rintro e w5 ⟨v5, rfl, H5⟩; have HC := Lib.hid H5.tail; clear H5 HB)
        go_roundw
        case rel => exact ⟨k + 1, _, _, _, _, by omega, by go_num, by simp; omega, hlm, HC.out⟩
        case measure => simp [intOf]; omega
    · have HB := Lib.hid HS
      clear HS H3
      obtain ⟨N, hN⟩ : ∃ N, l.length = N := ⟨_, rfl⟩
      have HN := Lib.hid hN
      have htz : n.toNat = 0 := by omega
      have HZ := Lib.hid htz
      have hq : ((bstr l).toList == (bstr l).toList) = true := beq_self_eq_true _
      clear hN htz
      go_wp2_with (first | (go_at_call 17; refine (bytes_calls g u l _ _ _ _ w _ HB.out (by omega)).mono ?_; rintro e w4 ⟨v4, rfl, H4⟩; obtain ⟨a4, c4, rfl, _, _⟩ := Row.form H4.tail; rw [HN.out] at H4; have HC := Lib.hid H4; clear H4 HB) | (refine BigFrame.wpList_want (by rfl) fun K' hK' => ?_; refine op_conv_str (v := v4) (by rfl) Try.underlying29 Try.underlying5 Try.underlying9 (by rfl) (Rd.row.weak.weak _ HC.out) ?_; refine hK' _ _ ?_; clear hK' K') | (go_at_call 20; refine (left_calls g a4 N c4 mo at_ o _ HC.out.get.1 (by have := HN.out; omega) (by have := HN.out; omega)).mono ?_; rintro e w6 ⟨rfl, m6, rfl⟩) | (go_at_call 19; refine (over_calls g _ _ _ _ _ (HC.out.drewN m6).get.1).mono ?_; rintro e w7 ⟨rfl, rfl⟩))
      refine (add_small g (.slice a4 N c4) l mo at_ o (.slice none 0 0) [] _ w _ l 0 o (HC.out.drewN m6) (rd_nil _ _) hmo2 hlm (by decide) (by simp) (by simp) (by simp)).mono ?_
      rintro e w8 ⟨v8, rfl, H8⟩
      have HB := Lib.hid H8
      clear H8 HC
      go_wp2_with fail
      refine (next_calls g v8 l mo at_ o n _ w _ HB.out hat (by omega)).mono ?_
      rw [HZ.out, List.take_zero]
      rintro e w9 ⟨v9, rfl, H9⟩
      obtain ⟨a9, c9, rfl, _, _⟩ := Row.form H9
      have HC := Lib.hid H9.tail
      clear H9 HB
      go_wp2_with (first | (go_at_call 17; refine (bytes_calls g v8 l _ _ _ _ w _ HC.out (by omega)).mono ?_; rintro e w10 ⟨v10, rfl, H10⟩; obtain ⟨a10, c10, rfl, _, _⟩ := Row.form H10.tail; rw [HN.out] at H10; have HB := Lib.hid H10; clear H10 HC) | (refine BigFrame.wpList_want (by rfl) fun K' hK' => ?_; refine op_conv_str (v := v10) (by rfl) Try.underlying29 Try.underlying5 Try.underlying9 (by rfl) (Rd.row.weak.weak _ HB.out) ?_; refine hK' _ _ ?_; clear hK' K') | (go_at_call 20; refine (left_calls g a10 N c10 mo at_ o _ HB.out.get.1 (by have := HN.out; omega) (by have := HN.out; omega)).mono ?_; rintro e w16 ⟨rfl, m16, rfl⟩) | (go_at_call 19; refine (over_calls g _ _ _ _ _ (HB.out.drewN m16).get.1).mono ?_; rintro e w17 ⟨rfl, rfl⟩))
      go_ret
      exact ⟨rfl, (HB.out.drewN m16).below⟩
end Go.Proofs.Ythhomgmnmbpldaa
