/- PeekBack's walk: it answers true, and leaves all that was there as it was. No condition but that no slice has 2^47 elements. -/
import Derived.Test.YthhomgmnmbpldaaPeekNothing
namespace Go.Proofs.Ythhomgmnmbpldaa
open Go Go.RowKit Hg
set_option linter.unusedVariables false
set_option linter.unusedSimpArgs false
theorem bstr_extract (l : List UInt8) (n : Nat) : (bstr l).extract 0 n = bstr (l.take n) := by
  apply ByteArray.ext
  rw [ByteArray.data_extract]
  simp [bstr]
attribute [local go_sem] Lib.run_eql_slice_nil run_min2 run_max2 run_min_two run_max_two bstr_size bstr_append bstr_extract
set_option maxHeartbeats 1600000 in
set_option maxRecDepth 100000 in
theorem pback_calls (v vn : Value) (most : Int) (w : World) {ls : List (Value × List UInt8)} (h : ListsIn w v ls) (hl : ls.length ≤ 140737488351232) {ns : List Int} (hns : IntsIn w vn ns) (hnl : ns.length ≤ 140737488351232) (hmost : -9223372036854775808 ≤ most ∧ most ≤ 9223372036854775807) :
    Calls Try.prog 4 #[v, vn, .int .i64 most] w fun e w' => e = .returned (.bool true) ∧ Below w.heap.size w w' := by
  clear hmost
  obtain ⟨mo, hmo, hmo2⟩ := most_of' most
  have HM := Lib.hid hmo
  obtain ⟨a, cap, rfl, h1, h2, h3⟩ := h.all
  obtain ⟨an, capn, rfl, hn1, hn2, hn3⟩ := hns.all
  have H3 := Lib.hid h3
  have HN3 := Lib.hid hn3
  clear h h3 hns hn3
  have SH : ∀ (b1 b2 : Bool), decide ((50 : Int) < ls.length) = b1 → decide ((50 : Int) < ns.length) = b2 → (b1 || b2) = true → Calls Try.prog 4 #[.slice a ls.length cap, .slice an ns.length capn, .int .i64 most] w fun e w' => e = .returned (.bool true) ∧ Below w.heap.size w w' := by
    intro b1 b2 e1 e2 hor
    cases b1 <;> cases b2 <;> (try (exact absurd hor (by decide)))
    all_goals
      clear hor
      go_enter Try.func4, Try.ntmps4
      go_wp2_with (first | (go_at_call 8; refine (small_calls [] w _ (sat_start w)).mono ?_; rintro e w1 ⟨rfl, H1⟩; have HS := Lib.hid H1; clear H1) | (go_at_call 10; refine (new_calls most mo HM.out [] w _ HS.out).mono ?_; rintro e w2 ⟨g, rfl, H2⟩; have HT := Lib.hid H2; clear H2 HS))
      go_ret
      exact ⟨rfl, HT.out.below⟩
  by_cases e1 : (50 : Int) < ls.length
  · exact SH true _ (by simpa using e1) rfl rfl
  by_cases e2 : (50 : Int) < ns.length
  · exact SH _ true rfl (by simpa using e2) (by simp)
  clear SH
  have d1 : decide ((50 : Int) < ls.length) = false := by simpa using e1
  have d2 : decide ((50 : Int) < ns.length) = false := by simpa using e2
  go_enter Try.func4, Try.ntmps4
  go_wp2_with (first | (go_at_call 8; refine (small_calls [] w _ (sat_start w)).mono ?_; rintro e w1 ⟨rfl, H1⟩; have HS := Lib.hid H1; clear H1) | (go_at_call 10; refine (new_calls most mo HM.out [] w _ HS.out).mono ?_; rintro e w2 ⟨g, rfl, H2⟩; have HT := Lib.hid H2; clear H2 HS))
  go_loopw [9, 10] (fun s i wr => ∃ (k : Nat) (u : Value) (cm : List UInt8), k ≤ ls.length ∧ i = .int .i64 k ∧ s = .string (bstr cm) ∧ cm.length ≤ k * 1000 ∧ sat w wr (PB g u mo 0 (decide (mo < cm.length)) :: Row u (cm.take mo) :: [])) (fun _ i _ => ls.length - (intOf i).toNat)
  case atStart => exact ⟨0, _, [], Nat.zero_le _, rfl, rfl, by simp, by rw [show decide (mo < ([] : List UInt8).length) = false by simp, List.take_nil]; exact HT.out⟩
  case round =>
    obtain ⟨k, u, cm, hk, rfl, rfl, hc, HS⟩ := hrel
    clear HT
    by_cases hlt : k < ls.length
    · have F := H3.out k hlt
      generalize ls.getD k (undef, []) = t at F
      obtain ⟨b, off, rfl, c0, hr, hb⟩ := F
      obtain ⟨a', c', hv, _, _⟩ := hr.form
      have c1 := HS.cell c0
      rw [hv] at c1 c0 hr
      have HB := Lib.hid HS
      have HR := Lib.hid hr
      have HC0 := Lib.hid c0
      clear HS hr c0 hv
      by_cases hbig : (1000 : Int) < t.2.length
      · have d3 : decide ((1000 : Int) < t.2.length) = true := by simpa using hbig
        go_wp2
        go_ret
        exact ⟨rfl, HB.out.below⟩
      · have d3 : decide ((1000 : Int) < t.2.length) = false := by simpa using hbig
        have hcs : (cm.length : Int) ≤ 50000 := by omega
        have hts : (t.2.length : Int) ≤ 1000 := by omega
        go_wp2_with (first | (go_at_call 12; refine (add_small g u (cm.take mo) mo 0 (decide (mo < cm.length)) (.slice a' t.2.length c') t.2 [] w _ ((cm ++ t.2).take mo) _ (decide (mo < (cm ++ t.2).length)) HB.out (Rd.old HR.out) hmo2 (by simp; omega) (by omega) rfl (by rw [← Bool.decide_or, decide_eq_decide, List.length_append, List.length_take]; omega) (by rw [List.take_append, List.length_take]; congr 2; omega)).mono ?_; rintro e w5 ⟨v5, rfl, H5⟩; have c1 := H5.cell HC0.out; have HC := Lib.hid H5; clear H5 HB) | (refine BigFrame.wpList_want (by rfl) fun K' hK' => ?_; refine op_conv_str (v := .slice a' t.2.length c') (by rfl) Try.underlying29 Try.underlying5 Try.underlying9 (by rfl) (Rd.old HR.out _ HC.out) ?_; refine hK' _ _ ?_; clear hK' K'))
        go_roundw
        case rel => exact ⟨k + 1, _, cm ++ t.2, by omega, by go_num, rfl, by simp; omega, HC.out⟩
        case measure => simp [intOf]; omega
    · have hcs : (cm.length : Int) ≤ 50000 := by omega
      obtain ⟨L, hL⟩ : ∃ L, L = cm.take mo := ⟨_, rfl⟩
      obtain ⟨N, hN⟩ : ∃ N, L.length = N := ⟨_, rfl⟩
      have hNm : N = min mo cm.length := by rw [← hN, hL, List.length_take]
      have hmn : mn cm.length mo = N := by rw [mn_eq]; omega
      have hNc : (N : Int) ≤ cm.length := by omega
      have hNM : (N : Int) ≤ 16384 := by omega
      have hLt : cm.take N = L := by rw [hL, hNm, List.take_eq_take_iff]; omega
      rw [← hL] at HS
      have HB := Lib.hid HS
      have HL := Lib.hid hN
      have HNm := Lib.hid hNm
      clear hL HS hNm
      go_wp2
      clear H3 hlt hk
      go_loopw [12] (fun t wr => ∃ (r : Nat) (u : Value), r ≤ 2 ∧ t = .int .i64 r ∧ sat w wr (PB g u mo 0 (decide (mo < cm.length)) :: Row u L :: [])) (fun t _ => 2 - (intOf t).toNat)
      case atStart => exact ⟨0, _, by omega, rfl, HB.out⟩
      case round =>
        obtain ⟨r, u, hr, rfl, HS⟩ := hrel
        have HB := Lib.hid HS
        clear HS
        by_cases hr2 : (r : Int) < 2
        · go_wp2
          go_loopw [13, 14] (fun s i wr => ∃ (j at_ : Nat) (u : Value), j ≤ ns.length ∧ i = .int .i64 j ∧ s = .string (bstr (L.take at_)) ∧ at_ ≤ N ∧ sat w wr (PB g u mo at_ (decide (mo < cm.length)) :: Row u L :: [])) (fun _ i _ => ns.length - (intOf i).toNat)
          case atStart => exact ⟨0, 0, _, Nat.zero_le _, rfl, by rw [List.take_zero]; rfl, Nat.zero_le _, HB.out⟩
          case round =>
            obtain ⟨j, at_, u, hj, rfl, rfl, hat, HS⟩ := hrel
            clear HB
            have HB := Lib.hid HS
            obtain ⟨a6, c6, hu, _, _⟩ := Row.form HS.tail
            rw [hN] at hu
            subst hu
            clear HS
            have hlt1 : (L.take at_).length = at_ := by rw [List.length_take]; omega
            by_cases hjl : j < ns.length
            · have F := HN3.out j hjl
              generalize ns.getD j 0 = z at F
              obtain ⟨b, off, rfl, c0, _, _⟩ := F
              have c1 := HB.out.cell c0
              obtain ⟨d, hd⟩ : ∃ d, d = (L.drop at_).take z.toNat := ⟨_, rfl⟩
              obtain ⟨A, hA⟩ : ∃ A, at_ + d.length = A := ⟨_, rfl⟩
              have hAN : A ≤ N := by rw [← hA, hd, List.length_take, List.length_drop]; omega
              have hq : L.take at_ ++ d = L.take A := by
                have e : d = (L.drop at_).take d.length := by
                  rw [hd, List.length_take, List.take_eq_take_iff]; omega
                rw [← hA, List.take_add]
                conv => lhs; rw [e]
              have hlA : (L.take A).length = A := by rw [List.length_take]; omega
              have hAi : (A : Int) ≤ N := by omega
              have f1 : decide ((N : Int) < A) = false := by simp; omega
              have f2 : ((bstr (L.take A)).toList != (bstr (L.take A)).toList) = false := by simp
              have f3 : (((N - A : Nat) : Int) != (N : Int) - A) = false := by simp; omega
              have f4 : ¬ (9223372036854775807 < at_ + d.length) := by omega
              have HD := Lib.hid hd
              have HA := Lib.hid hA
              clear hd hA
              go_wp2_with (first | (go_at_call 14; refine (next_calls g _ L mo at_ _ z [] w _ HB.out (by have := HL.out; omega) (by have := HL.out; omega)).mono ?_; rw [← HD.out, HA.out]; rintro e w5 ⟨v5, rfl, H5⟩; have HC := Lib.hid H5; clear H5 HB) | (refine BigFrame.wpList_want (by rfl) fun K' hK' => ?_; refine op_conv_str (v := v5) (by rfl) Try.underlying29 Try.underlying5 Try.underlying9 (by rfl) (Rd.row _ HC.out) ?_; refine hK' _ _ ?_; clear hK' K') | (go_at_call 20; refine (left_calls g a6 N c6 mo A _ _ HC.out.tail.get.1 (by have := HL.out; omega) (by have := HL.out; omega)).mono ?_; rintro e w6 ⟨rfl, m6, rfl⟩))
              go_roundw
              case rel => exact ⟨j + 1, A, _, by omega, by go_num, rfl, hAN, (show sat w w5 (PB g _ mo A _ :: Row _ L :: []) from HC.out.tail).drewN m6⟩
              case measure => simp [intOf]; omega
            · obtain ⟨d, hd⟩ : ∃ d, d = (L.drop at_).take (1048576 : Int).toNat := ⟨_, rfl⟩
              have hdd : d = L.drop at_ := by rw [hd, List.take_of_length_le]; rw [List.length_drop]; omega
              have hq : L.take at_ ++ d = L := by rw [hdd]; exact List.take_append_drop _ _
              have hA : at_ + d.length = N := by rw [hdd, List.length_drop]; omega
              have f2 : ((bstr L).toList != (bstr L).toList) = false := by simp
              have f4 : ¬ (9223372036854775807 < at_ + d.length) := by omega
              have f5 : ((((N - N : Nat) : Int)) != 0) = false := by simp
              have HD := Lib.hid hd
              have HA := Lib.hid hA
              clear hd hA hdd
              go_wp2_with (first | (go_at_call 14; refine (next_calls g _ L mo at_ _ 1048576 [] w _ HB.out (by have := HL.out; omega) (by have := HL.out; omega)).mono ?_; rw [← HD.out, HA.out]; rintro e w5 ⟨v5, rfl, H5⟩; have HC := Lib.hid H5; clear H5 HB) | (refine BigFrame.wpList_want (by rfl) fun K' hK' => ?_; refine op_conv_str (v := v5) (by rfl) Try.underlying29 Try.underlying5 Try.underlying9 (by rfl) (Rd.row _ HC.out) ?_; refine hK' _ _ ?_; clear hK' K') | (go_at_call 20; refine (left_calls g a6 N c6 mo N _ _ HC.out.tail.get.1 (by omega) (by have := HL.out; omega)).mono ?_; rintro e w6 ⟨rfl, m6, rfl⟩) | (go_at_call 16; refine (back_calls g _ _ _ _ (Row _ L :: []) w _ ((show sat w w5 (PB g _ mo N _ :: Row _ L :: []) from HC.out.tail).drewN m6)).mono ?_; rintro e w7 ⟨rfl, H7⟩; have HB := Lib.hid H7; clear H7 HC))
              go_roundw
              case rel => exact ⟨r + 1, _, by omega, by go_num, HB.out⟩
              case measure => simp [intOf]; omega
        · have f1 : mo < cm.length ↔ N < cm.length := by have := HNm.out; omega
          have f2 : ((bstr L).toList == (bstr L).toList) = true := by simp
          go_wp2_with (first | (go_at_call 19; refine (over_calls g _ _ _ _ _ HB.out.get.1).mono ?_; rintro e w7 ⟨rfl, rfl⟩) | (go_at_call 17; refine (bytes_calls g u L _ _ _ _ w _ HB.out (by have := HL.out; omega)).mono ?_; rintro e w5 ⟨v5, rfl, H5⟩; have HC := Lib.hid H5; clear H5 HB) | (refine BigFrame.wpList_want (by rfl) fun K' hK' => ?_; refine op_conv_str (v := v5) (by rfl) Try.underlying29 Try.underlying5 Try.underlying9 (by rfl) (Rd.row.weak.weak _ HC.out) ?_; refine hK' _ _ ?_; clear hK' K'))
          go_ret
          exact ⟨rfl, HC.out.below⟩
end Go.Proofs.Ythhomgmnmbpldaa
