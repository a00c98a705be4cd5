/- PeekMore's walk: it answers true, and leaves all that was there as it was. No condition but that the two slices take fewer than 2^47 bytes. -/
import Derived.Test.YthhomgmnmbpldaaPeek4
namespace Go.Proofs.Ythhomgmnmbpldaa
open Go Go.RowKit Hg
set_option linter.unusedVariables false
set_option linter.unusedSimpArgs false
attribute [local go_sem] Lib.run_eql_slice_nil run_min2 run_max2 run_min_two run_max_two bstr_size
set_option maxHeartbeats 1600000 in
theorem more_calls (va vb : Value) (n : Int) (w : World) {la lb : List UInt8} (ha : Reads w va la) (h1 : la.length ≤ 140737488351232) (hb : Reads w vb lb) (h2 : lb.length ≤ 140737488351232) (hn : -9223372036854775808 ≤ n ∧ n ≤ 9223372036854775807) :
    Calls Try.prog 5 #[va, vb, .int .i64 n] w fun e w' => e = .returned (.bool true) ∧ Below w.heap.size w w' := by
  clear hn
  obtain ⟨aa, ca, rfl, _, _⟩ := Reads.form ha
  obtain ⟨ab, cb, rfl, _, _⟩ := Reads.form hb
  have hz : mx 0 (mn 16384 16384) = (16384 : Nat) := by decide
  have hmo := Lib.hid hz
  have HA := Lib.hid ha
  have HB := Lib.hid hb
  clear hz ha hb
  have short : ∀ (b1 b2 b3 b4 : Bool), decide ((5000 : Int) < la.length) = b1 → decide ((5000 : Int) < lb.length) = b2 → decide (n < 0) = b3 → decide ((la.length : Int) < n) = b4 → (b1 || b2 || b3 || b4) = true →
      Calls Try.prog 5 #[.slice aa la.length ca, .slice ab lb.length cb, .int .i64 n] w fun e w' => e = .returned (.bool true) ∧ Below w.heap.size w w' := by
    intro b1 b2 b3 b4 e1 e2 e3 e4 hor
    cases b1 <;> cases b2 <;> cases b3 <;> cases b4 <;> (try (exact absurd hor (by decide)))
    all_goals
      clear hor
      go_enter Try.func5, Try.ntmps5
      go_wp2_with (first | (go_at_call 8; refine (small_calls [] w _ (sat_start w)).mono ?_; rintro e w1 ⟨rfl, H1⟩; have HS := Lib.hid H1; clear H1) | (go_at_call 10; refine (new_calls 16384 16384 hmo.out [] w _ HS.out).mono ?_; rintro e w2 ⟨g, rfl, H2⟩; have HT := Lib.hid H2; clear H2 HS))
      go_ret
      exact ⟨rfl, HT.out.below⟩
  by_cases e1 : (5000 : Int) < la.length
  · exact short true _ _ _ (by simpa using e1) rfl rfl rfl rfl
  by_cases e2 : (5000 : Int) < lb.length
  · exact short _ true _ _ rfl (by simpa using e2) rfl rfl (by simp)
  by_cases e3 : n < 0
  · exact short _ _ true _ rfl rfl (by simpa using e3) rfl (by simp)
  by_cases e4 : (la.length : Int) < n
  · exact short _ _ _ true rfl rfl rfl (by simpa using e4) (by simp)
  clear short
  obtain ⟨d1, hd1⟩ : ∃ d, d = (la.drop 0).take n.toNat := ⟨_, rfl⟩
  obtain ⟨d2, hd2⟩ : ∃ d, d = ((la ++ lb).drop (0 + d1.length)).take (20000 : Int).toNat := ⟨_, rfl⟩
  have hl1 : d1.length ≤ la.length := by rw [hd1, List.drop_zero, List.length_take]; omega
  have hdd : d1 ++ d2 = la ++ lb := by
    rw [hd2, Nat.zero_add, List.take_of_length_le (by simp only [List.length_drop, List.length_append]; omega)]
    have : d1 = (la ++ lb).take d1.length := by
      rw [List.take_append_of_le_length hl1, hd1, List.drop_zero, List.length_take, List.take_eq_take_iff]
      omega
    conv => lhs; lhs; rw [this]
    exact List.take_append_drop _ _
  have hl2 : d2.length ≤ 20000 := by rw [hd2, List.length_take]; omega
  have HD1 := Lib.hid hd1
  have HD2 := Lib.hid hd2
  have hq : ((bstr d1 ++ bstr d2).toList == (bstr la ++ bstr lb).toList) = true := by rw [bstr_append, bstr_append, hdd]; exact beq_self_eq_true _
  have f1 : decide ((5000 : Int) < la.length) = false := by simpa using e1
  have f2 : decide ((5000 : Int) < lb.length) = false := by simpa using e2
  have f3 : decide (n < 0) = false := by simpa using e3
  have f4 : decide ((la.length : Int) < n) = false := by simpa using e4
  clear hd1 hd2 hdd
  go_enter Try.func5, Try.ntmps5
  go_wp2_with (first | (go_at_call 8; refine (small_calls [] w _ (sat_start w)).mono ?_; rintro e w1 ⟨rfl, H1⟩; have HS := Lib.hid H1; clear H1) | (go_at_call 10; refine (new_calls 16384 16384 hmo.out [] w _ HS.out).mono ?_; rintro e w2 ⟨g, rfl, H2⟩; have HT := Lib.hid H2; clear H2 HS))
  refine (add_small g _ [] 16384 0 false _ la [] w _ la la.length false HT.out (Rd.old HA.out) (by decide) (by decide) (by omega) (by simp; omega) (by simp; omega) (by rw [List.nil_append, List.take_of_length_le (by simp; omega)])).mono ?_
  rintro e w3 ⟨v3, rfl, H3⟩
  have HS := Lib.hid H3
  clear H3 HT
  go_wp2_with fail
  refine (next_calls g v3 la 16384 0 false n [] w _ HS.out (by omega) (by omega)).mono ?_
  rw [← HD1.out]
  rintro e w4 ⟨v4, rfl, H4⟩
  have HT := Lib.hid (show sat w w4 (PB g v3 (16384 : Nat) (0 + d1.length : Nat) false :: Row v3 la :: Row v4 d1 :: []) from H4.re 3 [1, 2, 0] [] rfl)
  clear H4 HS
  go_wp2_with (first | (refine BigFrame.wpList_want (by rfl) fun K' hK' => ?_; refine op_conv_str (v := v4) (by rfl) Try.underlying29 Try.underlying5 Try.underlying9 (by rfl) (Rd.row.weak.weak _ HT.out) ?_; refine hK' _ _ ?_; clear hK' K'))
  refine (add_small g _ la 16384 _ false _ lb _ w _ (la ++ lb) lb.length false HT.out (Rd.old HB.out) (by decide) (by omega) (by omega) (by omega) (by simp; omega) (by rw [List.take_of_length_le (by omega)])).mono ?_
  rintro e w5 ⟨v5, rfl, H5⟩
  have HS := Lib.hid H5
  clear H5 HT
  go_wp2_with fail
  refine (next_calls g v5 (la ++ lb) 16384 (0 + d1.length) false 20000 _ w _ HS.out (by simp; omega) (by simp; omega)).mono ?_
  rw [← HD2.out]
  rintro e w6 ⟨v6, rfl, H6⟩
  obtain ⟨a5, c5, rfl, _, _⟩ := Row.form H6.tail.tail
  have HT := Lib.hid (show sat w w6 (PB g (.slice a5 (la ++ lb).length c5) (16384 : Nat) (0 + d1.length + d2.length : Nat) false :: Row (.slice a5 (la ++ lb).length c5) (la ++ lb) :: Row v6 d2 :: Row v4 d1 :: []) from H6.re 4 [1, 2, 0, 3] [] rfl)
  clear H6 HS
  go_wp2_with (first | (refine BigFrame.wpList_want (by rfl) fun K' hK' => ?_; refine op_conv_str (v := v6) (by rfl) Try.underlying29 Try.underlying5 Try.underlying9 (by rfl) (Rd.row.weak.weak _ HT.out) ?_; refine hK' _ _ ?_; clear hK' K') | (refine BigFrame.wpList_want (by rfl) fun K' hK' => ?_; refine op_conv_str (v := .slice aa la.length ca) (by rfl) Try.underlying29 Try.underlying5 Try.underlying9 (by rfl) (Rd.old HA.out _ HT.out) ?_; refine hK' _ _ ?_; clear hK' K') | (refine BigFrame.wpList_want (by rfl) fun K' hK' => ?_; refine op_conv_str (v := .slice ab lb.length cb) (by rfl) Try.underlying29 Try.underlying5 Try.underlying9 (by rfl) (Rd.old HB.out _ HT.out) ?_; refine hK' _ _ ?_; clear hK' K') | (go_at_call 19; refine (over_calls g _ _ _ _ _ HT.out.get.1).mono ?_; rintro e w11 ⟨rfl, rfl⟩) | (go_at_call 18; refine (len_calls g _ _ _ _ _ _ _ HT.out.get.1).mono ?_; rintro e w14 ⟨rfl, rfl⟩))
  go_ret
  exact ⟨rfl, HT.out.below⟩
end Go.Proofs.Ythhomgmnmbpldaa
