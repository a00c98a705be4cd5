/- PeekPlays' walk: it answers true, and leaves all that was there as it was. No condition but that no slice has 2^47 elements. -/
import Derived.Test.YthhomgmnmbpldaaPeekNothing
import Derived.Test.YthhomgmnmbpldaaOps2
import Derived.Deep.CutRange
import Derived.Deep.CutBlock
namespace Go.Proofs.Ythhomgmnmbpldaa
open Go Go.RowKit Hg
set_option linter.unusedVariables false
set_option linter.unusedSimpArgs false
attribute [local go_sem] Lib.run_eql_slice_nil run_min2 run_max2 run_min_two run_max_two bstr_size
theorem radd_small (g : Nat) (v : Value) (l : List UInt8) (mo : Nat) (at_ : Int) (over : Bool) (s : Value) (m : List UInt8) (R : List Asn) (w0 w : World) (l' : List UInt8) (n : Nat) (o' : Bool)
    (H : sat w0 w (RB g v mo at_ over :: Row v l :: R)) (hs : Rd w0 R s m) (h1 : mo ≤ 16384) (hl : l.length ≤ mo) (hm : m.length ≤ 140737488351232)
    (hn : min m.length (mo - l.length) = n) (ho : (over || decide (mo - l.length < m.length)) = o') (hl' : l ++ m.take (mo - l.length) = l') :
    Calls Try.prog 13 #[.pointer (some ⟨g, 0, none⟩), s] w fun e w' => ∃ v' : Value, e = .returned (.int .i64 n) ∧ sat w0 w' (RB g v' mo at_ o' :: Row v' l' :: R) := by
  subst hn ho hl'
  exact radd_calls g v l mo at_ over s m R w0 w H hs h1 hl hm
set_option maxHeartbeats 3200000 in
set_option maxRecDepth 100000 in
theorem plays_calls (most : Int) (v : Value) (w : World) (hmost : -9223372036854775808 ≤ most ∧ most ≤ 9223372036854775807) {ls : List Trip} (h : TripsIn w v ls) (hl : ls.length ≤ 140737488351232) :
    Calls Try.prog 3 #[.int .i64 most, v] w fun e w' => e = .returned (.bool true) ∧ Below w.heap.size w w' := by
  clear hmost
  obtain ⟨mo, hmo, hmo2⟩ := most_of' most
  have HM := Lib.hid hmo
  have HT0 := Lib.hid h
  obtain ⟨a, cap, rfl, h1, h2, h3⟩ := h.all
  have H3 := Lib.hid h3
  clear hmo h h3
  cases hfew : fewB ls with
  | false =>
    go_enter Try.func3, Try.ntmps3
    go_wp2_with (first | (go_at_call 8; refine (small_calls [] w _ (sat_start w)).mono ?_; rintro e w1 ⟨rfl, H1⟩; have HS := Lib.hid H1; clear H1) | (go_at_call 9; refine (few_calls _ ls _ (HT0.out.below HS.out.below) hl).mono ?_; rintro e w2 ⟨rfl, rfl⟩) | (go_at_call 10; refine (new_calls most mo HM.out [] w _ HS.out).mono ?_; rintro e w2 ⟨g, rfl, H2⟩; have HT := Lib.hid H2; clear H2 HS) | (go_at_call 11; refine (rnew_calls most mo HM.out _ w _ HT.out).mono ?_; rintro e w3 ⟨g', rfl, H2⟩; have HS := Lib.hid H2; clear H2 HT))
    go_ret
    exact ⟨rfl, HS.out.below⟩
  | true =>
  have hl1 : ls.length ≤ 100 := by simp [fewB] at hfew; exact hfew.1
  go_enter Try.func3, Try.ntmps3
  go_wp2_with (first | (go_at_call 8; refine (small_calls [] w _ (sat_start w)).mono ?_; rintro e w1 ⟨rfl, H1⟩; have HS := Lib.hid H1; clear H1) | (go_at_call 9; refine (few_calls _ ls _ (HT0.out.below HS.out.below) hl).mono ?_; rintro e w2 ⟨rfl, rfl⟩) | (go_at_call 10; refine (new_calls most mo HM.out [] w _ HS.out).mono ?_; rintro e w2 ⟨g, rfl, H2⟩; have HT := Lib.hid H2; clear H2 HS) | (go_at_call 11; refine (rnew_calls most mo HM.out _ w _ HT.out).mono ?_; rintro e w3 ⟨g', rfl, H2⟩; have HS := Lib.hid (show sat w w3 (PB g _ mo 0 false :: Row _ [] :: RB g' _ mo 0 false :: Row _ [] :: []) from H2.re 4 [2, 3, 0, 1] [] rfl); clear H2 HT))
  go_loopw [9] (fun i wr => ∃ (k at1 : Nat) (o1 : Bool) (u1 u2 : Value) (l1 : List UInt8), k ≤ ls.length ∧ i = .int .i64 k ∧ at1 ≤ l1.length ∧ l1.length ≤ mo ∧ sat w wr (PB g u1 mo at1 o1 :: Row u1 l1 :: RB g' u2 mo at1 o1 :: Row u2 l1 :: [])) (fun i _ => ls.length - (intOf i).toNat)
  case atStart => exact ⟨0, 0, _, _, _, [], Nat.zero_le _, rfl, by simp, by simp, HS.out⟩
  case round =>
    obtain ⟨k, at1, o1, u1, u2, l1, hk, rfl, hat, hlm, HW⟩ := hrel
    clear hfew HT0 HS
    have HB := Lib.hid HW
    clear HW
    by_cases hlt : k < ls.length
    · have F := H3.out k hlt
      generalize ls.getD k trip0 = t at F
      obtain ⟨b, off, rfl, c0, c1, c2, hr, hb, _, _⟩ := F
      have HC0 := Lib.hid (And.intro c1 c2)
      have c0 := HB.out.cell c0
      have c1 := HB.out.cell c1
      have c2 := HB.out.cell c2
      have HR := Lib.hid hr
      clear hr
      go_upto_block 2 with fail
      go_cut [] from 34 to 161 (fun wx => ∃ (at2 : Nat) (o2 : Bool) (v1 v2 : Value) (l2 : List UInt8), at2 ≤ l2.length ∧ l2.length ≤ mo ∧ sat w wx (PB g v1 mo at2 o2 :: Row v1 l2 :: RB g' v2 mo at2 o2 :: Row v2 l2 :: []))
      case rest =>
        clear HC0 HB HR c0 c1 c2
        obtain ⟨at2, o2, v1, v2, l2, hat2, hlm2, HW⟩ := hcut
        have HB := Lib.hid HW
        clear HW
        go_wp2_with (go_at_call 17; fail)
        obtain ⟨a6, c6, hu6, _, _⟩ := Row.form HB.out.tail
        obtain ⟨a7, c7, hu7, _, _⟩ := Row.form HB.out.tail.tail.tail
        subst hu6
        subst hu7
        refine (bytes_calls g _ l2 _ _ _ _ w _ HB.out (by omega)).mono ?_
        rintro e w5 ⟨vb, rfl, H5⟩
        have HC := Lib.hid (show sat w w5 (Row vb l2 :: RB g' (.slice a7 l2.length c7) mo at2 o2 :: Row (.slice a7 l2.length c7) l2 :: PB g (.slice a6 l2.length c6) mo at2 o2 :: Row (.slice a6 l2.length c6) l2 :: []) from H5.re 5 [2, 3, 4, 0, 1] [] rfl)
        clear H5 HB
        go_wp2
        have HD := HC.out.drew
        have hnon : Nonempty (SW w (RB g' (.slice a7 l2.length c7) mo at2 o2 :: [])) := ⟨⟨_, HD.tail.head⟩⟩
        have k0 : ∀ x : SW w (RB g' (.slice a7 l2.length c7) mo at2 o2 :: []), x.w.cell? ⟨g', 0, none⟩ = some (.slice a7 l2.length c7) := fun x => cellAt x.h.get.1 0
        have k2 : ∀ x : SW w (RB g' (.slice a7 l2.length c7) mo at2 o2 :: []), x.w.cell? ⟨g', 2, none⟩ = some (.int .i64 at2) := fun x => cellAt x.h.get.1 2
        have k3 : ∀ x : SW w (RB g' (.slice a7 l2.length c7) mo at2 o2 :: []), x.w.cell? ⟨g', 3, none⟩ = some (.bool o2) := fun x => cellAt x.h.get.1 3
        have d0 : w5.drew.cell? ⟨g', 0, none⟩ = some (.slice a7 l2.length c7) := cellAt HD.tail.get.1 0
        have HDD := Lib.hid HD
        have q1 : ((bstr l2).toList != (bstr l2).toList) = false := by simp
        have q2 : (((l2.length - at2 : Nat) : Int) != (l2.length : Int) - at2) = false := by simp; omega
        clear HD
        refine wp_region_mix (fun u => ∃ x : SW w (RB g' (.slice a7 l2.length c7) mo at2 o2 :: []), u = x.w) [0, 1, 2, 3, 4, 5, 6, 7, 8, 9, 11, 12, 13, 14, 15, 10, 16, 17, 18, 19, 21, 22, 23, 24, 20, 25, 26, 27, 28, 30, 31, 32, 33, 34, 35, 36, 37, 38, 39, 29, 40, 41] [11, 12, 13, 14, 15, 21, 22, 23, 24, 30, 31, 32, 33, 34, 35, 36, 37, 38, 39] (by kernel_rfl) (by kernel_rfl) ⟨⟨_, (show sat w w5 (RB g' (.slice a7 l2.length c7) mo at2 o2 :: []) from HC.out.tail.head).drew⟩, rfl⟩ ?_
        repeat (first | ((first | refine mix_a rfl (by decide +kernel) rfl (fun K hK => ?_) | refine mix_q rfl (by decide +kernel) rfl (fun K hK => ?_)); go_big_quiet_op; refine hK _ ?_; clear hK K) | (refine mix_s rfl rfl (by decide +kernel) ?_; simp only [Act.put, List.setIfInBounds_toArray, List.set_cons_zero, List.set_cons_succ]))
        refine mix_a rfl (by decide +kernel) rfl (fun K hK => ?_); refine quiet_conv_str (v := vb) rfl Try.underlying29 Try.underlying5 Try.underlying9 rfl (fun u hu => by subst hu; exact Rd.row _ HDD.out) ?_; refine hK _ ?_; clear hK K; simp only [Act.put, List.setIfInBounds_toArray, List.set_cons_zero, List.set_cons_succ]
        repeat (first | ((first | refine mix_a rfl (by decide +kernel) rfl (fun K hK => ?_) | refine mix_q rfl (by decide +kernel) rfl (fun K hK => ?_)); go_big_quiet_op; refine hK _ ?_; clear hK K) | (refine mix_s rfl rfl (by decide +kernel) ?_; simp only [Act.put, List.setIfInBounds_toArray, List.set_cons_zero, List.set_cons_succ]))
        refine mix_a rfl (by decide +kernel) rfl (fun K hK => ?_); refine quiet_conv_str (v := .slice a7 l2.length c7) rfl Try.underlying29 Try.underlying5 Try.underlying9 rfl (fun u hu => by subst hu; exact Rd.row.weak.weak _ HDD.out) ?_; refine hK _ ?_; clear hK K; simp only [Act.put, List.setIfInBounds_toArray, List.set_cons_zero, List.set_cons_succ]
        repeat (first | ((first | refine mix_a rfl (by decide +kernel) rfl (fun K hK => ?_) | refine mix_q rfl (by decide +kernel) rfl (fun K hK => ?_)); go_big_quiet_op; refine hK _ ?_; clear hK K) | (refine mix_s rfl rfl (by decide +kernel) ?_; simp only [Act.put, List.setIfInBounds_toArray, List.set_cons_zero, List.set_cons_succ]))
        refine mix_lC rfl rfl rfl (fun K hK => ?_); refine op_call rfl Try.func18 (by kernel_rfl) (by kernel_rfl) (len_calls g a6 l2.length c6 mo at2 o2 _ HDD.out.tail.tail.tail.get.1) rfl ?_; rintro e w8 ⟨rfl, rfl⟩; refine ⟨_, rfl, hK _ _ ⟨⟨_, HDD.out.tail.head⟩, rfl⟩ ?_⟩; clear hK K; simp only [Act.put, List.setIfInBounds_toArray, List.set_cons_zero, List.set_cons_succ]
        repeat (first | ((first | refine mix_a rfl (by decide +kernel) rfl (fun K hK => ?_) | refine mix_q rfl (by decide +kernel) rfl (fun K hK => ?_)); go_big_quiet_op; refine hK _ ?_; clear hK K) | (refine mix_s rfl rfl (by decide +kernel) ?_; simp only [Act.put, List.setIfInBounds_toArray, List.set_cons_zero, List.set_cons_succ]))
        refine mix_lC rfl rfl rfl (fun K hK => ?_); refine op_call rfl Try.func19 (by kernel_rfl) (by kernel_rfl) (over_calls g (.slice a6 l2.length c6) mo at2 o2 _ HDD.out.tail.tail.tail.get.1) rfl ?_; rintro e w9 ⟨rfl, rfl⟩; refine ⟨_, rfl, hK _ _ ⟨⟨_, HDD.out.tail.head⟩, rfl⟩ ?_⟩; clear hK K; simp only [Act.put, List.setIfInBounds_toArray, List.set_cons_zero, List.set_cons_succ]
        repeat (first | ((first | refine mix_a rfl (by decide +kernel) rfl (fun K hK => ?_) | refine mix_q rfl (by decide +kernel) rfl (fun K hK => ?_)); go_big_quiet_op; refine hK _ ?_; clear hK K) | (refine mix_s rfl rfl (by decide +kernel) ?_; simp only [Act.put, List.setIfInBounds_toArray, List.set_cons_zero, List.set_cons_succ]))
        refine mix_lC rfl rfl rfl (fun K hK => ?_); refine op_call rfl Try.func20 (by kernel_rfl) (by kernel_rfl) (left_calls g a6 l2.length c6 mo at2 o2 _ HDD.out.tail.tail.tail.get.1 hat2 (by omega)) rfl ?_; rintro e w10 ⟨rfl, m10, rfl⟩; refine ⟨_, rfl, hK _ _ ⟨⟨_, (HDD.out.drewN m10).tail.head⟩, rfl⟩ ?_⟩; clear hK K; simp only [Act.put, List.setIfInBounds_toArray, List.set_cons_zero, List.set_cons_succ]
        repeat (first | ((first | refine mix_a rfl (by decide +kernel) rfl (fun K hK => ?_) | refine mix_q rfl (by decide +kernel) rfl (fun K hK => ?_)); go_big_quiet_op; refine hK _ ?_; clear hK K) | (refine mix_s rfl rfl (by decide +kernel) ?_; simp only [Act.put, List.setIfInBounds_toArray, List.set_cons_zero, List.set_cons_succ]))
        refine mix_nil ?_
        have HB := Lib.hid (show sat w _ (Row vb l2 :: PB g (.slice a6 l2.length c6) mo at2 o2 :: Row (.slice a6 l2.length c6) l2 :: RB g' (.slice a7 l2.length c7) mo at2 o2 :: Row (.slice a7 l2.length c7) l2 :: []) from (HDD.out.drewN m10).re 5 [0, 3, 4, 1, 2] [] rfl)
        obtain ⟨ab, cb, hvb, _, _⟩ := Row.form HB.out
        subst hvb
        clear HDD HC d0 k0 k2 k3 hnon q1 q2
        go_wp2
        go_loopw [15] (fun i wr => ∃ (j : Nat) (m : List UInt8), j ≤ l2.length ∧ m.length = l2.length ∧ i = .int .i64 j ∧ sat w wr (Row (.slice ab l2.length cb) m :: PB g (.slice a6 l2.length c6) mo at2 o2 :: Row (.slice a6 l2.length c6) l2 :: RB g' (.slice a7 l2.length c7) mo at2 o2 :: Row (.slice a7 l2.length c7) l2 :: [])) (fun i _ => l2.length - (intOf i).toNat)
        case atStart => exact ⟨0, l2, Nat.zero_le _, rfl, rfl, HB.out⟩
        case round =>
          obtain ⟨j, m, hj, hm, rfl, HW⟩ := hrel
          clear HB
          by_cases hjl : j < l2.length
          · obtain ⟨g3, c3, hv3, _, _, cc, ff, hn⟩ := Row.set HW (j := j) (by omega) 7 (n := 7) rfl
            rw [hm] at hv3
            injection hv3 with e1 _ e2
            subst e1 e2
            have HN := Lib.hid hn
            have HMM := Lib.hid hm
            clear HW hm hn
            go_wp2
            go_roundw
            case rel => exact ⟨j + 1, m.set j 7, by omega, by have := HMM.out; simpa using this, by go_num, HN.out⟩
            case measure => simp [intOf]; omega
          · have HX := Lib.hid HW
            clear HW hm
            go_wp2
            go_roundw
            case rel => exact ⟨k + 1, at2, o2, _, _, l2, by omega, by go_num, hat2, hlm2, (HX.out.re 5 [1, 2, 3, 4] [0] rfl)⟩
            case measure => simp [intOf]; omega
      case first =>
        by_cases hz : t.n.tmod 3 = 0
        · obtain ⟨l2, hl2⟩ : ∃ l2, l2 = l1 ++ t.b.take (mo - l1.length) := ⟨_, rfl⟩
          obtain ⟨n2, hn2⟩ : ∃ n2, n2 = min t.b.length (mo - l1.length) := ⟨_, rfl⟩
          obtain ⟨o2, ho2⟩ : ∃ o2, o2 = (o1 || decide (mo - l1.length < t.b.length)) := ⟨_, rfl⟩
          have hl2a : l1.length ≤ l2.length ∧ l2.length ≤ mo := by rw [hl2, List.length_append, List.length_take]; omega
          have HL2 := Lib.hid (And.intro hl2 (And.intro hn2 (And.intro ho2 hl2a)))
          clear hl2 hn2 ho2 hl2a
          go_wp2_with (first | (refine BigFrame.wpList_want (by rfl) fun K' hK' => ?_; refine op_build0 (by rfl) Try.underlying29 info5 HB.out ?_; intro v4 w4 H4; refine hK' _ _ ?_; clear hK' K'; obtain ⟨a4, c4, rfl, _, _⟩ := RowC.form H4; have c1 := H4.cell HC0.out.1; have HX := Lib.hid H4; clear H4 HB) | (refine BigFrame.wpList_want (by rfl) fun K' hK' => ?_; refine op_append_bytes (l := []) (m := t.b) (y := t.v) (by rfl) Try.underlying29 info5 (by rfl) (by rfl) HX.out (Rd.old HR.out _ HX.out) (by simp; omega) ?_; intro v5 w5 H5 _; refine hK' _ _ ?_; clear hK' K'; obtain ⟨a5, c5, rfl, _, _⟩ := Row.form H5; have HB := Lib.hid (show sat w w5 (Row (.slice a5 t.b.length c5) t.b :: PB g u1 mo at1 o1 :: Row u1 l1 :: RB g' u2 mo at1 o1 :: Row u2 l1 :: []) from H5); clear H5 HX))
          have hnon : Nonempty (SW w []) := ⟨⟨_, HB.out.tail.tail.tail.tail.tail⟩⟩
          have k1 : ∀ x : SW w [], x.w.cell? ⟨b, off + k * 3 + 1, none⟩ = some t.v := fun x => x.h.cell HC0.out.1
          refine wp_region_mix (fun u => ∃ x : SW w [], u = x.w) [0, 1, 3, 4, 5, 6, 7, 8, 2, 9, 10] [3, 4, 5, 6, 7, 8] (by kernel_rfl) (by kernel_rfl) ⟨⟨_, HB.out.drew.tail.tail.tail.tail.tail⟩, rfl⟩ ?_
          repeat (first | ((first | refine mix_a rfl (by decide +kernel) rfl (fun K hK => ?_) | refine mix_q rfl (by decide +kernel) rfl (fun K hK => ?_)); go_big_quiet_op; refine hK _ ?_; clear hK K) | (refine mix_s rfl rfl (by decide +kernel) ?_; simp only [Act.put, List.setIfInBounds_toArray, List.set_cons_zero, List.set_cons_succ]))
          have HY := Lib.hid (show sat w w5.drew (PB g u1 mo at1 o1 :: Row u1 l1 :: RB g' u2 mo at1 o1 :: Row u2 l1 :: Row (.slice a5 t.b.length c5) t.b :: []) from HB.out.drew.re 5 [1, 2, 3, 4, 0] [] rfl)
          clear HB
          refine mix_lC rfl rfl rfl (fun K hK => ?_); refine op_call rfl Try.func12 (by kernel_rfl) (by kernel_rfl) (add_small g u1 l1 mo at1 o1 (.slice a5 t.b.length c5) t.b _ w _ l2 n2 o2 HY.out Rd.row.weak.weak hmo2 hlm hb HL2.out.2.1.symm HL2.out.2.2.1.symm HL2.out.1.symm) rfl ?_; rintro e w6 ⟨v6, rfl, H6⟩; refine ⟨_, rfl, hK _ _ ⟨⟨_, H6.tail.tail.tail.tail.tail⟩, rfl⟩ ?_⟩; clear hK K; simp only [Act.put, List.setIfInBounds_toArray, List.set_cons_zero, List.set_cons_succ]
          have HZ := Lib.hid (show sat w w6 (RB g' u2 mo at1 o1 :: Row u2 l1 :: PB g v6 mo at1 o2 :: Row v6 l2 :: Row (.slice a5 t.b.length c5) t.b :: []) from H6.re 4 [2, 3, 0, 1] [] rfl)
          clear H6 HY
          repeat (first | ((first | refine mix_a rfl (by decide +kernel) rfl (fun K hK => ?_) | refine mix_q rfl (by decide +kernel) rfl (fun K hK => ?_)); go_big_quiet_op; refine hK _ ?_; clear hK K) | (refine mix_s rfl rfl (by decide +kernel) ?_; simp only [Act.put, List.setIfInBounds_toArray, List.set_cons_zero, List.set_cons_succ]))
          refine mix_l rfl (by decide +kernel) rfl (fun K hK => ?_); refine op_call rfl Try.func13 (by kernel_rfl) (by kernel_rfl) (radd_small g' u2 l1 mo at1 o1 t.v t.b _ w _ l2 n2 o2 HZ.out (Rd.old HR.out) hmo2 hlm hb HL2.out.2.1.symm HL2.out.2.2.1.symm HL2.out.1.symm) rfl ?_; rintro e w7 ⟨v7, rfl, H7⟩; refine ⟨_, rfl, hK _ _ ?_⟩; clear hK K; simp only [Act.put, List.setIfInBounds_toArray, List.set_cons_zero, List.set_cons_succ]
          have HB := Lib.hid (show sat w w7 (Row (.slice a5 t.b.length c5) t.b :: PB g v6 mo at1 o2 :: Row v6 l2 :: RB g' v7 mo at1 o2 :: Row v7 l2 :: []) from H7.re 5 [4, 2, 3, 0, 1] [] rfl)
          clear H7 HZ
          repeat (first | ((first | refine mix_a rfl (by decide +kernel) rfl (fun K hK => ?_) | refine mix_q rfl (by decide +kernel) rfl (fun K hK => ?_)); go_big_quiet_op; refine hK _ ?_; clear hK K) | (refine mix_s rfl rfl (by decide +kernel) ?_; simp only [Act.put, List.setIfInBounds_toArray, List.set_cons_zero, List.set_cons_succ]))
          refine mix_nil ?_
          go_wp2
          go_loopw [11] (fun i wr => ∃ (j : Nat) (m : List UInt8), j ≤ t.b.length ∧ m.length = t.b.length ∧ i = .int .i64 j ∧ sat w wr (Row (.slice a5 t.b.length c5) m :: PB g v6 mo at1 o2 :: Row v6 l2 :: RB g' v7 mo at1 o2 :: Row v7 l2 :: [])) (fun i _ => t.b.length - (intOf i).toNat)
          case atStart => exact ⟨0, t.b, Nat.zero_le _, rfl, rfl, HB.out⟩
          case round =>
            obtain ⟨j, m, hj, hm, rfl, HW⟩ := hrel
            clear HB
            by_cases hjl : j < t.b.length
            · obtain ⟨g3, c3, hv3, _, _, cc, ff, hn⟩ := Row.set HW (j := j) (by omega) 7 (n := 7) rfl
              rw [hm] at hv3
              injection hv3 with e1 _ e2
              subst e1 e2
              have HN := Lib.hid hn
              have HMM := Lib.hid hm
              clear HW hm hn
              go_wp2
              go_roundw
              case rel => exact ⟨j + 1, m.set j 7, by omega, by have := HMM.out; simpa using this, by go_num, HN.out⟩
              case measure => simp [intOf]; omega
            · have HX := Lib.hid HW
              clear HW hm
              go_wp2
              go_meet
              case rel => exact ⟨at1, o2, _, _, l2, by have := HL2.out.2.2.2; omega, HL2.out.2.2.2.2, HX.out.tail⟩
        by_cases hz1 : t.n.tmod 3 = 1
        · obtain ⟨d, hd⟩ : ∃ d, d = (l1.drop at1).take t.m.toNat := ⟨_, rfl⟩
          obtain ⟨A, hA⟩ : ∃ A, A = at1 + d.length := ⟨_, rfl⟩
          have hAl : A ≤ l1.length := by rw [hA, hd, List.length_take, List.length_drop]; omega
          have hdl : d.length ≤ l1.length := by omega
          have HD := Lib.hid (And.intro hd hA)
          clear hd hA
          go_wp2_with (go_at_call 14; refine (next_calls g u1 l1 mo at1 o1 t.m _ w _ HB.out hat (by omega)).mono ?_; rw [← HD.out.1, ← HD.out.2]; rintro e w5 ⟨v5, rfl, H5⟩; have c2 := H5.cell HC0.out.2; have HX := Lib.hid H5; clear H5 HB)
          obtain ⟨a5, c5, hv5, _, _⟩ := Row.form HX.out
          subst hv5
          have hnon : Nonempty (SW w (Row (.slice a5 d.length c5) d :: [])) := ⟨⟨_, HX.out.head⟩⟩
          have e2 : w5.drew.cell? ⟨b, off + k * 3 + 2, none⟩ = some (.int .i64 t.m) := HX.out.drew.cell HC0.out.2
          have q1 : ((bstr d).toList != (bstr d).toList) = false := by simp
          refine wp_region_mix (fun u => ∃ x : SW w (Row (.slice a5 d.length c5) d :: []), u = x.w) [0, 1, 2, 3, 4, 5, 6, 7, 8, 9, 10] [0, 1] (by kernel_rfl) (by kernel_rfl) ⟨⟨_, HX.out.drew.head⟩, rfl⟩ ?_
          repeat (first | ((first | refine mix_a rfl (by decide +kernel) rfl (fun K hK => ?_) | refine mix_q rfl (by decide +kernel) rfl (fun K hK => ?_)); go_big_quiet_op; refine hK _ ?_; clear hK K) | (refine mix_s rfl rfl (by decide +kernel) ?_; simp only [Act.put, List.setIfInBounds_toArray, List.set_cons_zero, List.set_cons_succ]))
          refine mix_q rfl (by decide +kernel) rfl (fun K hK => ?_); refine quiet_conv_str (v := .slice a5 d.length c5) rfl Try.underlying29 Try.underlying5 Try.underlying9 rfl (fun u hu => by obtain ⟨x, rfl⟩ := hu; exact Rd.row _ x.h) ?_; refine hK _ ?_; clear hK K; simp only [Act.put, List.setIfInBounds_toArray, List.set_cons_zero, List.set_cons_succ]
          repeat (first | ((first | refine mix_a rfl (by decide +kernel) rfl (fun K hK => ?_) | refine mix_q rfl (by decide +kernel) rfl (fun K hK => ?_)); go_big_quiet_op; refine hK _ ?_; clear hK K) | (refine mix_s rfl rfl (by decide +kernel) ?_; simp only [Act.put, List.setIfInBounds_toArray, List.set_cons_zero, List.set_cons_succ]))
          have HY := Lib.hid (show sat w w5.drew (RB g' u2 mo at1 o1 :: Row u2 l1 :: Row (.slice a5 d.length c5) d :: PB g u1 mo A o1 :: Row u1 l1 :: []) from HX.out.drew.re 5 [3, 4, 0, 1, 2] [] rfl)
          clear HX
          refine mix_lC rfl rfl rfl (fun K hK => ?_); refine op_call rfl Try.func15 (by kernel_rfl) (by kernel_rfl) (rnext_calls g' u2 l1 mo at1 o1 t.m _ w _ HY.out hat (by omega)) rfl ?_; rintro e w6 h6; rw [← HD.out.1, ← HD.out.2] at h6; obtain ⟨v6, rfl, H6⟩ := h6; refine ⟨_, rfl, hK _ _ ⟨⟨_, H6.tail.tail.tail.head⟩, rfl⟩ ?_⟩; clear hK K; simp only [Act.put, List.setIfInBounds_toArray, List.set_cons_zero, List.set_cons_succ]
          have HB := Lib.hid (show sat w w6 (Row (.slice a5 d.length c5) d :: PB g u1 mo A o1 :: Row u1 l1 :: RB g' u2 mo A o1 :: Row u2 l1 :: Row v6 d :: []) from H6.re 6 [3, 4, 5, 1, 2, 0] [] rfl)
          clear H6 HY
          refine mix_a rfl (by decide +kernel) rfl (fun K hK => ?_); refine quiet_conv_str (v := v6) rfl Try.underlying29 Try.underlying5 Try.underlying9 rfl (fun u hu => by subst hu; exact Rd.row.weak.weak.weak.weak.weak _ HB.out) ?_; refine hK _ ?_; clear hK K; simp only [Act.put, List.setIfInBounds_toArray, List.set_cons_zero, List.set_cons_succ]
          repeat (first | ((first | refine mix_a rfl (by decide +kernel) rfl (fun K hK => ?_) | refine mix_q rfl (by decide +kernel) rfl (fun K hK => ?_)); go_big_quiet_op; refine hK _ ?_; clear hK K) | (refine mix_s rfl rfl (by decide +kernel) ?_; simp only [Act.put, List.setIfInBounds_toArray, List.set_cons_zero, List.set_cons_succ]))
          refine mix_nil ?_
          go_wp2
          go_loopw [13] (fun i wr => ∃ (j : Nat) (m : List UInt8), j ≤ d.length ∧ m.length = d.length ∧ i = .int .i64 j ∧ sat w wr (Row (.slice a5 d.length c5) m :: PB g u1 mo A o1 :: Row u1 l1 :: RB g' u2 mo A o1 :: Row u2 l1 :: Row v6 d :: [])) (fun i _ => d.length - (intOf i).toNat)
          case atStart => exact ⟨0, d, Nat.zero_le _, rfl, rfl, HB.out⟩
          case round =>
            obtain ⟨j, m, hj, hm, rfl, HW⟩ := hrel
            clear HB
            by_cases hjl : j < d.length
            · obtain ⟨g3, c3, hv3, _, _, cc, ff, hn⟩ := Row.set HW (j := j) (by omega) 7 (n := 7) rfl
              rw [hm] at hv3
              injection hv3 with e1 _ e2
              subst e1 e2
              have HN := Lib.hid hn
              have HMM := Lib.hid hm
              clear HW hm hn
              go_wp2
              go_roundw
              case rel => exact ⟨j + 1, m.set j 7, by omega, by have := HMM.out; simpa using this, by go_num, HN.out⟩
              case measure => simp [intOf]; omega
            · have HX := Lib.hid HW
              clear HW hm
              go_wp2
              go_meet
              case rel => exact ⟨A, o1, _, _, l1, hAl, hlm, (HX.out.re 6 [1, 2, 3, 4] [0, 5] rfl)⟩
        · have cB := cellAt HB.out.tail.tail.get.1 2
          have fB := frozenAt HB.out.tail.tail.get.1 2
          simp at cB
          go_wp2_with (go_at_call 16; refine (back_calls g u1 mo at1 o1 _ w _ HB.out).mono ?_; rintro e w4 ⟨rfl, H4⟩; have cB := cellAt H4.tail.tail.get.1 2; have fB := frozenAt H4.tail.tail.get.1 2; simp at cB; have HX := Lib.hid (show sat w w4 (RB g' u2 mo at1 o1 :: PB g u1 mo 0 o1 :: Row u1 l1 :: Row u2 l1 :: []) from H4.re 3 [2, 0, 1] [] rfl); clear H4 HB)
          go_meet
          case rel => exact ⟨0, o1, u1, u2, l1, Nat.zero_le _, hlm, ((show sat w _ (RB g' u2 mo 0 o1 :: PB g u1 mo 0 o1 :: Row u1 l1 :: Row u2 l1 :: []) from HX.out.store (.int .i64 0)).re 3 [1, 2, 0] [] rfl)⟩
    · go_wp2
      go_ret
      exact ⟨rfl, HB.out.below⟩
end Go.Proofs.Ythhomgmnmbpldaa
