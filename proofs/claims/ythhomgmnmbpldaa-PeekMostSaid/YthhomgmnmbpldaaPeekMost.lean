/- PeekMost's walk: it answers true, and leaves all that was there as it was. No condition. -/
import Derived.Test.YthhomgmnmbpldaaPeek4
namespace Go.Proofs.Ythhomgmnmbpldaa
open Go Go.RowKit Hg
set_option linter.unusedVariables false
set_option linter.unusedSimpArgs false
attribute [local go_sem] Lib.run_eql_slice_nil run_min2 run_max2 run_min_two run_max_two bstr_size
theorem most_of (n : Int) : ∃ mo : Nat, mx 0 (mn n 16384) = mo ∧ mo ≤ 16384 := ⟨(mx 0 (mn n 16384)).toNat, by rw [mx_eq, mn_eq]; omega, by rw [mx_eq, mn_eq]; omega⟩
set_option maxHeartbeats 1600000 in
set_option maxRecDepth 100000 in
theorem most_calls (n : Int) (v : Value) (w : World) (hn : -9223372036854775808 ≤ n ∧ n ≤ 9223372036854775807) {ls : List (Value × List UInt8)} (h : ListsIn w v ls) (hl : ls.length ≤ 140737488351232) :
    Calls Try.prog 6 #[.int .i64 n, v] w fun e w' => e = .returned (.bool true) ∧ Below w.heap.size w w' := by
  clear hn
  obtain ⟨mo, hmo, hmo2⟩ := most_of n
  have HM := Lib.hid hmo
  have hform : ∃ a c, v = .slice a ls.length c := by
    rcases h with ⟨rfl, rfl⟩ | ⟨ad, cap, rfl, _⟩
    · exact ⟨_, _, rfl⟩
    · exact ⟨_, _, rfl⟩
  by_cases h50 : (50 : Int) < ls.length
  · have d1 : decide ((50 : Int) < ls.length) = true := by simpa using h50
    obtain ⟨a, c, rfl⟩ := hform
    clear h
    go_enter Try.func6, Try.ntmps6
    go_wp2_with (first | (go_at_call 8; refine (small_calls [] w _ (sat_start w)).mono ?_; rintro e w1 ⟨rfl, H1⟩; have HS := Lib.hid H1; clear H1) | (go_at_call 10; refine (new_calls n mo HM.out [] w _ HS.out).mono ?_; rintro e w2 ⟨g, rfl, H2⟩; have HT := Lib.hid H2; clear H2 HS))
    go_ret
    exact ⟨rfl, HT.out.below⟩
  have d1 : decide ((50 : Int) < ls.length) = false := by simpa using h50
  rcases h.cases with ⟨a, c, rfl, rfl⟩ | ⟨b, off, cap, rfl, h1, h2, h3⟩
  · clear h hform d1
    go_enter Try.func6, Try.ntmps6
    go_wp2_with (first | (go_at_call 8; refine (small_calls [] w _ (sat_start w)).mono ?_; rintro e w1 ⟨rfl, H1⟩; have HS := Lib.hid H1; clear H1) | (go_at_call 10; refine (new_calls n mo HM.out [] w _ HS.out).mono ?_; rintro e w2 ⟨g, rfl, H2⟩; have HT := Lib.hid H2; clear H2 HS))
    go_loop [8, 9] (fun came i => came = .int .i64 0 ∧ i = .int .i64 0) (fun _ _ => 0)
    case atStart => exact ⟨rfl, rfl⟩
    case round =>
      obtain ⟨rfl, rfl⟩ := hrel
      go_wp2
      go_ret
      exact ⟨rfl, HT.out.below⟩
  · have H3 := Lib.hid h3
    clear h hform h3
    go_enter Try.func6, Try.ntmps6
    go_wp2_with (first | (go_at_call 8; refine (small_calls [] w _ (sat_start w)).mono ?_; rintro e w1 ⟨rfl, H1⟩; have HS := Lib.hid H1; clear H1) | (go_at_call 10; refine (new_calls n mo HM.out [] w _ HS.out).mono ?_; rintro e w2 ⟨g, rfl, H2⟩; have HT := Lib.hid H2; clear H2 HS))
    go_loopw [8, 9] (fun came i wr => ∃ (k c : Nat) (u : Value) (l : List UInt8), k ≤ ls.length ∧ i = .int .i64 k ∧ came = .int .i64 c ∧ c ≤ k * 1000 ∧ l.length = min mo c ∧ sat w wr (PB g u mo 0 (decide ((mo : Int) < c)) :: Row u l :: [])) (fun _ i _ => ls.length - (intOf i).toNat)
    case atStart => exact ⟨0, 0, _, [], Nat.zero_le _, rfl, rfl, Nat.le_refl _, by simp, by rw [show decide ((mo : Int) < ((0 : Nat) : Int)) = false by simp]; exact HT.out⟩
    case round =>
      obtain ⟨k, c, u, l, hk, rfl, rfl, hc, hll, HS⟩ := hrel
      by_cases hlt : k < ls.length
      · have F := H3.out k hlt
        generalize ls.getD k (undef, []) = t at F
        obtain ⟨c0, hr, hb⟩ := F
        obtain ⟨a', c', hv, _, _⟩ := hr.form
        have c1 := HS.cell c0
        rw [hv] at c1
        by_cases hbig : (1000 : Int) < t.2.length
        · have d2 : decide ((1000 : Int) < t.2.length) = true := by simpa using hbig
          have HB := Lib.hid HS
          clear hr hv c0 HS
          go_wp2
          go_ret
          exact ⟨rfl, HB.out.below⟩
        · have d2 : decide ((1000 : Int) < t.2.length) = false := by simpa using hbig
          obtain ⟨N, hN⟩ : ∃ N, l.length = N := ⟨_, rfl⟩
          obtain ⟨m, hm⟩ : ∃ m, t.2.length = m := ⟨_, rfl⟩
          obtain ⟨j, hj⟩ : ∃ j, j = min m (mo - N) := ⟨_, rfl⟩
          obtain ⟨l2, hl2⟩ : ∃ l2, l2 = l ++ t.2.take (mo - N) := ⟨_, rfl⟩
          have hl2n : l2.length = N + j := by rw [hl2, List.length_append, List.length_take, hN, hm, hj]; omega
          obtain ⟨a0, c0', hu, _, _⟩ := Row.form HS.tail
          rw [hN] at hu
          subst hu
          rw [hm] at c1 d2 hbig
          have HA := Lib.hid (add_small g _ l mo 0 _ t.1 t.2 [] w wr l2 j (decide ((mo : Int) < (c : Int) + m)) HS (Rd.old hr) hmo2 (by omega) (by omega) (by rw [hm, hN, hj]) (by
            rw [hN, hm, ← Bool.decide_or, decide_eq_decide]; omega) (by rw [hN, hl2]))
          rw [hv, hm] at HA
          have HB := Lib.hid HS
          have HC0 : Hid (w.cell? ⟨b, off + k, none⟩ = some (.slice a' m c')) := Lib.hid (by rw [c0, hv, hm])
          have f1 : decide ((j : Int) < 0) = false := by simp
          have f2 : decide ((m : Int) < j) = false := by simp; omega
          have f3 : decide ((mo : Int) < (N : Int) + j) = false := by simp; omega
          have HE := Lib.hid hl2n
          have HF := Lib.hid hll
          have HJ := Lib.hid (And.intro hj hN)
          have HL2 := Lib.hid hl2
          have hbd : (m : Int) ≤ 1000 := by omega
          have hbd2 : (N : Int) ≤ 16384 := by omega
          have hbd3 : (c : Int) ≤ 50000 := by omega
          have hjm : (j : Int) ≤ m := by omega
          have hcase : ((j : Int) < m ∧ (((N : Int) + j) != mo) = false) ∨ ((m : Int) ≤ j ∧ decide ((j : Int) < m) = false) := by
            by_cases hjlt : (j : Int) < m
            · exact .inl ⟨hjlt, by simp; omega⟩
            · exact .inr ⟨by omega, by simpa using hjlt⟩
          clear HS hr hv c0 hN hm hj hl2 hl2n hll
          rcases hcase with ⟨hjlt, f4⟩ | ⟨hjlt, f4⟩
          all_goals
            go_wp2_with (first | (go_at_call 18; refine (len_calls g _ _ _ _ _ _ _ HB.out.get.1).mono ?_; rintro e w4 ⟨rfl, rfl⟩) | (go_at_call 12; refine HA.out.mono ?_; rintro e w5 ⟨v5, rfl, H5⟩; obtain ⟨a5, c5, rfl, _, _⟩ := Row.form H5.tail; rw [HE.out] at H5; have c1 := H5.cell HC0.out; have HB := Lib.hid H5; clear H5 HA) | (go_at_call 19; refine (over_calls g _ _ _ _ _ HB.out.get.1).mono ?_; rintro e w6 ⟨rfl, rfl⟩))
            go_roundw
            case rel => exact ⟨k + 1, c + m, .slice a5 (N + j) c5, l2, by omega, by go_num, by go_num, by omega, by have := HE.out; have := HF.out; have := HJ.out; omega, HB.out⟩
            case measure => simp [intOf]; omega
      · have HB := Lib.hid HS
        clear HS
        go_wp2
        go_ret
        exact ⟨rfl, HB.out.below⟩
end Go.Proofs.Ythhomgmnmbpldaa
