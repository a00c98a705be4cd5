/- ShakeBack's plain law, and its walk. No condition but that the slices take fewer than 2^47 bytes. -/
import Derived.Test.YtjekkaajagncpaaShakeSize
import Derived.Test.YtjekkaajagncpaaShakeWants
namespace Go.Proofs.Ytjekkaajagncpaa
open Go Go.RowKit Hg
set_option linter.unusedVariables false
set_option linter.unusedSimpArgs false
theorem whole_take {m : Msg} (h : m.whole = true) (c : UInt8) : m.take c = m := by
  rw [Msg.take, if_neg (by simp [whole_e h]), if_pos h]
/-- Of what was wrapped j bytes of the body came. -/
theorem run_wrap (x : List UInt8) (hx : x.length ≤ 3000) : ∀ j, j ≤ x.length → Msg.run ((wrapL x).take (4 + j)) = ⟨4, x.length, 0, x.take j⟩ := by
  have hW : wrapL x = 1 :: 0 :: UInt8.ofNat (x.length / 256) :: UInt8.ofNat x.length :: x := by
    rw [wrapL, if_neg (by omega), be24, show x.length / 65536 = 0 by omega]
    rfl
  have ex : (UInt8.ofNat (x.length / 256)).toNat = x.length / 256 := by rw [UInt8.toNat_ofNat']; omega
  have ey : (UInt8.ofNat x.length).toNat = x.length % 256 := by rw [UInt8.toNat_ofNat']
  have base : Msg.run [1, 0, UInt8.ofNat (x.length / 256), UInt8.ofNat x.length] = ⟨4, x.length, 0, []⟩ := by
    show Msg.take (Msg.take (Msg.take (Msg.take Msg.new 1) 0) _) _ = _
    rw [show Msg.new.take 1 = ⟨1, 0, 0, []⟩ from (take_head (h := 0) (s := 0) 1 (by decide)).trans (by simp [firstS, firstE])]
    rw [show Msg.take ⟨1, 0, 0, []⟩ 0 = ⟨2, 0, 0, []⟩ from (take_head (h := 1) (s := 0) 0 (by decide)).trans (by simp [firstS, firstE])]
    rw [take_head _ (by decide), ex, show firstE 2 0 (x.length / 256) = 0 by unfold firstE; rw [if_neg (by decide), if_neg (by show ¬ 16384 < (0 * 256 + x.length / 256) * 256; omega)]]
    rw [take_head _ (by decide), ey, show firstS 2 0 (x.length / 256) = x.length / 256 by simp [firstS]]
    rw [show firstE 3 (x.length / 256) (x.length % 256) = 0 by unfold firstE; rw [if_neg (by decide), if_neg (by show ¬ 16384 < (x.length / 256 * 256 + x.length % 256) * 1; omega)]]
    rw [show firstS 3 (x.length / 256) (x.length % 256) = x.length by unfold firstS; rw [if_neg (by decide)]; omega]
  intro j
  induction j with
  | zero => intro _; rw [hW]; simpa using base
  | succ j ih =>
    intro hj
    have h := ih (by omega)
    have hl : 4 + j < (wrapL x).length := by rw [hW]; simp; omega
    rw [show 4 + (j + 1) = (4 + j) + 1 by omega, Msg.run_next _ _ hl, h]
    have hg : (wrapL x).getD (4 + j) 0 = x.getD j 0 := by
      rw [hW, show 4 + j = j + 1 + 1 + 1 + 1 by omega]
      rfl
    rw [hg, Msg.take, if_neg (by simp), if_neg (by simp [Msg.whole, wholeB, List.length_take]; omega), if_neg (by simp), List.take_succ_eq_append_getElem (by omega)]
    simp [List.getD, List.getElem?_eq_getElem (show j < x.length by omega)]
theorem wrap_len (x : List UInt8) (hx : x.length ≤ 3000) : (wrapL x).length = x.length + 4 := by
  rw [wrapL, if_neg (by omega)]
  simp [be24]
theorem take_h (m : Msg) (c : UInt8) : (m.take c).h ≤ m.h + 1 := by
  unfold Msg.take
  split
  · omega
  · split
    · omega
    · split <;> simp
theorem foldl_h : ∀ (l : List UInt8) (m : Msg), (l.foldl Msg.take m).h ≤ m.h + l.length
  | [], m => by simp
  | c :: l, m => by
    have h1 := foldl_h l (m.take c)
    have h2 := take_h m c
    simp only [List.foldl_cons, List.length_cons]
    omega
theorem foldl_bad : ∀ (l : List UInt8) (m : Msg), m.e ≠ 0 → l.foldl Msg.take m = m
  | [], m, _ => rfl
  | c :: l, m, h => by rw [List.foldl_cons, take_bad h]; exact foldl_bad l m h
theorem run_append (a b : List UInt8) : Msg.run (a ++ b) = b.foldl Msg.take (Msg.run a) := by simp [Msg.run]
/-- At no byte is anything wrong; it is whole at the last. -/
theorem run_wrap_all (x : List UInt8) (hx : x.length ≤ 3000) (k : Nat) (hk : k ≤ x.length + 4) : (Msg.run ((wrapL x).take k)).e = 0 ∧ (Msg.run ((wrapL x).take k)).whole = decide (k = x.length + 4) := by
  by_cases h4 : k < 4
  · have hb := run_wrap x hx 0 (Nat.zero_le _)
    have hl := wrap_len x hx
    have hs : (wrapL x).take (4 + 0) = (wrapL x).take k ++ ((wrapL x).drop k).take (4 - k) := by
      rw [show 4 + 0 = k + (4 - k) by omega, List.take_add]
    rw [hs, run_append] at hb
    have hh := foldl_h ((wrapL x).take k) Msg.new
    have he : (Msg.run ((wrapL x).take k)).e = 0 := by
      by_cases h : (Msg.run ((wrapL x).take k)).e = 0
      · exact h
      · rw [foldl_bad _ _ h] at hb
        rw [hb] at h
        exact absurd rfl h
    refine ⟨he, ?_⟩
    rw [decide_eq_false (by omega)]
    have hlt : (Msg.run ((wrapL x).take k)).h < 4 := by
      have : ((wrapL x).take k).length ≤ k := List.length_take_le _ _
      have h0 : Msg.new.h = 0 := rfl
      unfold Msg.run
      omega
    simp only [Msg.whole, wholeB, he]
    rw [decide_eq_false (p := (((Msg.run ((wrapL x).take k)).h : Nat) : Int) = 4) (by omega)]
    simp
  · obtain ⟨j, rfl⟩ : ∃ j, k = 4 + j := ⟨k - 4, by omega⟩
    rw [run_wrap x hx j (by omega)]
    refine ⟨rfl, ?_⟩
    simp only [Msg.whole, wholeB, List.length_take]
    rw [show ((4 : Nat) : Int) = 4 from rfl]
    simp
    omega
theorem run_wrap_end (x : List UInt8) (hx : x.length ≤ 3000) : Msg.run (wrapL x) = ⟨4, x.length, 0, x⟩ := by
  have h := run_wrap x hx x.length (Nat.le_refl _)
  rw [List.take_length, List.take_of_length_le (by rw [wrap_len x hx]; omega)] at h
  exact h
theorem body_not {m : Msg} (h : m.whole = false) : m.body.length = 0 := by
  unfold Msg.body bodyL
  rw [show wholeB m.h m.s m.e m.l.length = false from h]
  rfl
attribute [local go_sem] Lib.run_eql_slice_nil run_min2 run_max2 run_min_two run_max_two bstr_size
set_option maxHeartbeats 3200000 in
set_option maxRecDepth 100000 in
theorem sback_calls (vx vm : Value) (w : World) {lx lm : List UInt8} (hx : Reads w vx lx) (h1 : lx.length ≤ 140737488351232) (hm : Reads w vm lm) (h2 : lm.length ≤ 140737488351232) :
    Calls Try.prog 5 #[vx, vm] w fun e w' => e = .returned (.bool true) ∧ Below w.heap.size w w' := by
  obtain ⟨ax, cx, rfl, _, _⟩ := Reads.form hx
  obtain ⟨am, cm, rfl, _, _⟩ := Reads.form hm
  have HXX := Lib.hid hx
  have HXM := Lib.hid hm
  clear hx hm
  have SH : ∀ (b1 b2 : Bool), decide ((3000 : Int) < lx.length) = b1 → decide ((100 : Int) < lm.length) = b2 → (b1 || b2) = true → Calls Try.prog 5 #[.slice ax lx.length cx, .slice am lm.length cm] w fun e w' => e = .returned (.bool true) ∧ Below w.heap.size w w' := by
    intro b1 b2 e1 e2 hor
    cases b1 <;> cases b2 <;> (try (exact absurd hor (by decide)))
    all_goals
      clear hor
      go_enter Try.func5, Try.ntmps5
      go_wp2_with (go_at_call 9; refine (small_calls [] w _ (sat_start w)).mono ?_; rintro e w1 ⟨rfl, H1⟩; have HS := Lib.hid H1; clear H1)
      go_ret
      exact ⟨rfl, HS.out.below⟩
  by_cases e1 : (3000 : Int) < lx.length
  · exact SH true _ (by simpa using e1) rfl rfl
  by_cases e2 : (100 : Int) < lm.length
  · exact SH _ true rfl (by simpa using e2) (by simp)
  clear SH
  have d1 : decide ((3000 : Int) < lx.length) = false := by simpa using e1
  have d2 : decide ((100 : Int) < lm.length) = false := by simpa using e2
  have hx3 : lx.length ≤ 3000 := by omega
  obtain ⟨W, hW⟩ : ∃ W, W = wrapL lx := ⟨_, rfl⟩
  obtain ⟨L, hL⟩ : ∃ L, L = W.length := ⟨_, rfl⟩
  have hLn : L = lx.length + 4 := by rw [hL, hW, wrap_len lx hx3]
  have HW := Lib.hid hW
  have HL := Lib.hid hL
  have HLn := Lib.hid hLn
  have d3 : ((L : Int) != (lx.length : Int) + 4) = false := by simp; omega
  have hL3 : (L : Int) ≤ 3004 := by omega
  clear hW hL hLn
  go_enter Try.func5, Try.ntmps5
  go_wp2_with (first | (go_at_call 9; refine (small_calls [] w _ (sat_start w)).mono ?_; rintro e w1 ⟨rfl, H1⟩; have HS := Lib.hid H1; clear H1) | (go_at_call 17; refine (wrap_calls _ lx [] w _ HS.out (Rd.old HXX.out) (by omega)).mono ?_; rw [← HW.out, show decide (lx.length ≤ 16384) = true by simp; omega]; rintro r w2 ⟨v2, rfl, H2⟩; obtain ⟨a6, c6, hv6, _, _⟩ := Row.form H2; rw [← HL.out] at hv6; subst hv6; have HA := Lib.hid H2; clear H2 HS) | (go_at_call 10; refine (new_calls _ w _ HA.out).mono ?_; rintro r w3 ⟨g, rfl, H3⟩; have HB := Lib.hid (show sat w w3 (MS g (.slice none 0 0) Msg.new :: Row (.slice none 0 0) Msg.new.l :: Row (.slice a6 L c6) W :: []) from H3); clear H3 HA))
  go_loopw [9] (fun i wr => ∃ (k : Nat) (u : Value), k ≤ L ∧ i = .int .i64 k ∧ sat w wr (MS g u (Msg.run (W.take k)) :: Row u (Msg.run (W.take k)).l :: Row (.slice a6 L c6) W :: [])) (fun i _ => L - (intOf i).toNat)
  case atStart => exact ⟨0, _, Nat.zero_le _, rfl, HB.out⟩
  case round =>
    obtain ⟨k, u, hk, rfl, HS⟩ := hrel
    clear HB
    by_cases hlt : k < L
    · obtain ⟨gg, c0, hv, _, _, cc, _, _⟩ := Row.set (HS.pick 2 rfl) (j := k) (by rw [← HL.out]; exact hlt) 0 rfl
      rw [← HL.out] at hv
      injection hv with a1 _ a2
      subst a1 a2
      have hn := Msg.run_next W k (by rw [← HL.out]; exact hlt)
      have hp := run_wrap_all lx hx3 (k + 1) (by have := HLn.out; omega)
      rw [← HW.out, ← HLn.out] at hp
      obtain ⟨m, hmm⟩ : ∃ m, m = Msg.run (W.take k) := ⟨_, rfl⟩
      obtain ⟨m3, hm3⟩ : ∃ m3, m3 = Msg.run (W.take (k + 1)) := ⟨_, rfl⟩
      have hmo : m.ok := by rw [hmm]; exact Msg.ok_run _
      have hmo3 : m3.ok := by rw [hm3]; exact Msg.ok_run _
      rw [← hm3] at hn hp
      rw [← hmm] at hn HS
      generalize W.getD k 0 = y at cc hn
      have cc : wr.cell? ⟨gg, k, none⟩ = some (.int .u8 y.toNat) := cc
      have HC := Lib.hid HS
      have HN := Lib.hid (And.intro hn hp)
      have HM3 := Lib.hid hm3
      clear HS hn hp hmm hm3
      by_cases hlast : k + 1 = L
      · have e4 : ((k : Int) == (L : Int) - 1) = true := by simp; omega
        have hwt : Hid (m3.whole = true) := Lib.hid (by rw [HN.out.2.2, decide_eq_true hlast])
        clear hlast
        go_wp2_with (go_at_call 11; refine (mtake_calls g u m hmo _ w _ HC.out y rfl).mono ?_; rw [← HN.out.1, HN.out.2.1, hwt.out]; rintro r w7 ⟨v7, rfl, H7⟩; have HD := Lib.hid H7; clear H7 HC)
        go_roundw
        case rel =>
          rw [HM3.out] at HD
          have hk1 : k + 1 ≤ L := by omega
          have hi : Value.int .i64 ((k : Int) + 1) = Value.int .i64 ((k + 1 : Nat) : Int) := by go_num
          have hc := HD.out
          first
            | exact ⟨k + 1, _, hk1, hi, hc⟩
            | (repeat apply Exists.intro
               exact ⟨⟨k + 1, _, hk1, hi, hc⟩, rfl⟩)
        case measure => simp [intOf]; omega
      · have e4 : ((k : Int) == (L : Int) - 1) = false := by simp; omega
        have hwt : Hid (m3.whole = false) := Lib.hid (by rw [HN.out.2.2, decide_eq_false hlast])
        have hbl := Lib.hid (body_not hwt.out)
        clear hlast
        go_wp2_with (first | (go_at_call 11; refine (mtake_calls g u m hmo _ w _ HC.out y rfl).mono ?_; rw [← HN.out.1, HN.out.2.1, hwt.out]; rintro r w7 ⟨v7, rfl, H7⟩; have HD := Lib.hid H7; clear H7 HC) | (go_at_call 15; refine (mbody_calls g v7 m3 hmo3 _ w _ HD.out).mono ?_; rintro r w8 ⟨v8, rfl, H8⟩; obtain ⟨a8, c8, rfl, _, _⟩ := Row.form H8.tail.tail; rw [hbl.out]; have HE := Lib.hid (show sat w w8 (MS g v7 m3 :: Row v7 m3.l :: Row (.slice (some ⟨gg, 0, none⟩) L c6) W :: []) from H8.re 4 [0, 1, 3] [2] rfl); clear H8 HD))
        go_roundw
        case rel =>
          rw [HM3.out] at HE
          have hk1 : k + 1 ≤ L := by omega
          have hi : Value.int .i64 ((k : Int) + 1) = Value.int .i64 ((k + 1 : Nat) : Int) := by go_num
          have hc := HE.out
          first
            | exact ⟨k + 1, _, hk1, hi, hc⟩
            | (repeat apply Exists.intro
               exact ⟨⟨k + 1, _, hk1, hi, hc⟩, rfl⟩)
        case measure => simp [intOf]; omega
    · obtain rfl : k = L := by omega
      have hend := run_wrap_end lx hx3
      rw [List.take_of_length_le (by rw [← HL.out]; exact Nat.le_refl _), HW.out, hend] at HS
      obtain ⟨M, hM⟩ : ∃ M : Msg, M = ⟨4, lx.length, 0, lx⟩ := ⟨_, rfl⟩
      rw [← hM] at HS
      have hMo : M.ok := by rw [hM, ← hend]; exact Msg.ok_run _
      have hMw : M.whole = true := by rw [hM]; simp [Msg.whole, wholeB]
      have hMb : M.body = lx := by unfold Msg.body bodyL; rw [show wholeB M.h M.s M.e M.l.length = true from hMw, hM]; rfl
      have HMI := Lib.hid (And.intro hMw (And.intro (whole_e hMw) (And.intro (want_whole hMw) hMb)))
      have HB := Lib.hid (show sat w wr (MS g u M :: Row u M.l :: []) from HS.re 3 [0, 1] [2] rfl)
      clear HS hMw hMb hend hM
      go_wp2
      go_loopw [12] (fun i wr => ∃ (j : Nat) (u : Value), j ≤ lm.length ∧ i = .int .i64 j ∧ sat w wr (MS g u M :: Row u M.l :: [])) (fun i _ => lm.length - (intOf i).toNat)
      case atStart => exact ⟨0, _, Nat.zero_le _, rfl, HB.out⟩
      case round =>
        obtain ⟨j, u, hj, rfl, HS⟩ := hrel
        clear HB
        by_cases hlt2 : j < lm.length
        · obtain ⟨b, off, c0, hv, cc, _⟩ := Reads.at HXM.out j hlt2
          injection hv with a1 _ a2
          subst a1 a2
          have cc := HS.cell cc
          generalize lm.getD j 0 = y at cc
          have HC := Lib.hid HS
          clear HS
          go_wp2_with (go_at_call 11; refine (mtake_calls g u M hMo _ w _ HC.out y rfl).mono ?_; rw [whole_take HMI.out.1, HMI.out.1, HMI.out.2.1]; rintro r w7 ⟨v7, rfl, H7⟩; have HD := Lib.hid H7; clear H7 HC)
          go_roundw
          case rel =>
            have hk1 : j + 1 ≤ lm.length := by omega
            have hi : Value.int .i64 ((j : Int) + 1) = Value.int .i64 ((j + 1 : Nat) : Int) := by go_num
            have hc := HD.out
            first
              | exact ⟨j + 1, _, hk1, hi, hc⟩
              | (repeat apply Exists.intro
                 exact ⟨⟨j + 1, _, hk1, hi, hc⟩, rfl⟩)
          case measure => simp [intOf]; omega
        · have HC := Lib.hid HS
          clear HS
          have q1 : ((bstr lx).toList == (bstr lx).toList) = true := by simp
          go_wp2_with (first | (go_at_call 15; refine (mbody_calls g u M hMo _ w _ HC.out).mono ?_; rw [HMI.out.2.2.2]; rintro r w8 ⟨v8, rfl, H8⟩; obtain ⟨a8, c8, rfl, _, _⟩ := Row.form H8.tail.tail; have HD := Lib.hid (show sat w w8 (Row (.slice a8 lx.length c8) lx :: MS g u M :: Row u M.l :: []) from H8.re 3 [2, 0, 1] [] rfl); clear H8 HC) | (refine BigFrame.wpList_want (by rfl) fun K' hK' => ?_; refine op_conv_str (v := .slice a8 lx.length c8) (by rfl) Try.underlying22 Try.underlying5 Try.underlying9 (by rfl) (Rd.row _ HD.out) ?_; refine hK' _ _ ?_; clear hK' K') | (refine BigFrame.wpList_want (by rfl) fun K' hK' => ?_; refine op_conv_str (v := .slice ax lx.length cx) (by rfl) Try.underlying22 Try.underlying5 Try.underlying9 (by rfl) (Rd.old HXX.out _ HD.out) ?_; refine hK' _ _ ?_; clear hK' K'))
          go_loopw [17] (fun i wr => ∃ (j : Nat) (m : List UInt8), j ≤ lx.length ∧ i = .int .i64 j ∧ m.length = lx.length ∧ sat w wr (Row (.slice a8 lx.length c8) m :: MS g u M :: Row u M.l :: [])) (fun i _ => lx.length - (intOf i).toNat)
          case atStart => exact ⟨0, lx, Nat.zero_le _, rfl, rfl, HD.out⟩
          case round =>
            obtain ⟨j, m, hj, rfl, hml, HS⟩ := hrel
            clear HD
            by_cases hjl : j < lx.length
            · obtain ⟨g3, c3, hv3, _, _, cc, ff, hn⟩ := Row.set HS (j := j) (by omega) 7 (n := 7) rfl
              rw [hml] at hv3
              injection hv3 with b1 _ b2
              subst b1 b2
              have HN := Lib.hid hn
              have HMM := Lib.hid (show (m.set j 7).length = lx.length by simpa using hml)
              clear HS hml hn
              go_wp2
              go_roundw
              case rel =>
                have hl := HMM.out
                have hk1 : j + 1 ≤ lx.length := by omega
                have hi : Value.int .i64 ((j : Int) + 1) = Value.int .i64 ((j + 1 : Nat) : Int) := by go_num
                have hc := HN.out
                first
                  | exact ⟨j + 1, _, hk1, hi, hl,hc⟩
                  | (repeat apply Exists.intro
                     exact ⟨⟨j + 1, _, hk1, hi, hl,hc⟩, rfl⟩)
              case measure => simp [intOf]; omega
            · have HD := Lib.hid HS
              clear HS hml
              go_wp2
              have HS := Lib.hid (show sat w _ (MS g u M :: Row u M.l :: []) from HD.out.drew.tail)
              clear HD
              have hnon : Nonempty (SW w []) := ⟨⟨_, HS.out.tail.tail⟩⟩
              refine wp_region_mix (fun u => ∃ x : SW w [], u = x.w) [0, 1, 2, 3, 4, 5, 8, 9, 6, 7, 10, 11, 12, 13, 14, 15, 16, 17] [8, 9] (by kernel_rfl) (by kernel_rfl) ⟨⟨_, HS.out.tail.tail⟩, rfl⟩ ?_
              repeat (first | ((first | refine mix_a rfl (by decide +kernel) rfl (fun K hK => ?_) | refine mix_q rfl (by decide +kernel) rfl (fun K hK => ?_)); go_big_quiet_op; refine hK _ ?_; clear hK K) | (refine mix_s rfl rfl (by decide +kernel) ?_; simp only [Act.put, List.setIfInBounds_toArray, List.set_cons_zero, List.set_cons_succ]))
              refine mix_q rfl (by decide +kernel) rfl (fun K hK => ?_)
              refine quiet_conv_str (v := .slice ax lx.length cx) rfl Try.underlying22 Try.underlying5 Try.underlying9 rfl (fun u hu => by obtain ⟨x, rfl⟩ := hu; exact Rd.old HXX.out _ x.h) ?_
              refine hK _ ?_
              clear hK K
              simp only [Act.put, List.setIfInBounds_toArray, List.set_cons_zero, List.set_cons_succ]
              refine mix_lC rfl rfl rfl (fun K hK => ?_)
              refine op_call rfl Try.func15 (by kernel_rfl) (by kernel_rfl) (mbody_calls g u M hMo _ w _ HS.out) rfl ?_
              rintro r w9 h9
              rw [HMI.out.2.2.2] at h9
              obtain ⟨v9, rfl, H9⟩ := h9
              refine ⟨_, rfl, hK _ _ ⟨⟨_, H9.tail.tail.tail⟩, rfl⟩ ?_⟩
              clear hK K
              simp only [Act.put, List.setIfInBounds_toArray, List.set_cons_zero, List.set_cons_succ]
              have HE := Lib.hid H9
              clear H9
              repeat (first | ((first | refine mix_a rfl (by decide +kernel) rfl (fun K hK => ?_) | refine mix_q rfl (by decide +kernel) rfl (fun K hK => ?_)); go_big_quiet_op; refine hK _ ?_; clear hK K) | (refine mix_s rfl rfl (by decide +kernel) ?_; simp only [Act.put, List.setIfInBounds_toArray, List.set_cons_zero, List.set_cons_succ]))
              refine mix_a rfl (by decide +kernel) rfl (fun K hK => ?_)
              refine quiet_conv_str (v := v9) rfl Try.underlying22 Try.underlying5 Try.underlying9 rfl (fun u hu => by subst hu; exact Rd.row.weak.weak _ HE.out) ?_
              refine hK _ ?_
              clear hK K
              simp only [Act.put, List.setIfInBounds_toArray, List.set_cons_zero, List.set_cons_succ]
              repeat (first | ((first | refine mix_a rfl (by decide +kernel) rfl (fun K hK => ?_) | refine mix_q rfl (by decide +kernel) rfl (fun K hK => ?_)); go_big_quiet_op; refine hK _ ?_; clear hK K) | (refine mix_s rfl rfl (by decide +kernel) ?_; simp only [Act.put, List.setIfInBounds_toArray, List.set_cons_zero, List.set_cons_succ]))
              refine mix_l rfl (by decide +kernel) rfl (fun K hK => ?_)
              refine op_call rfl Try.func13 (by kernel_rfl) (by kernel_rfl) (mwant_calls g u M hMo _ w _ HE.out) rfl ?_
              rintro r w10 h10
              rw [HMI.out.2.2.1] at h10
              obtain ⟨rfl, H10⟩ := h10
              refine ⟨_, rfl, hK _ _ ?_⟩
              clear hK K
              simp only [Act.put, List.setIfInBounds_toArray, List.set_cons_zero, List.set_cons_succ]
              have HF := Lib.hid H10
              clear H10
              repeat (first | ((first | refine mix_a rfl (by decide +kernel) rfl (fun K hK => ?_) | refine mix_q rfl (by decide +kernel) rfl (fun K hK => ?_)); go_big_quiet_op; refine hK _ ?_; clear hK K) | (refine mix_s rfl rfl (by decide +kernel) ?_; simp only [Act.put, List.setIfInBounds_toArray, List.set_cons_zero, List.set_cons_succ]))
              refine mix_nil ?_
              go_wp2
              go_ret
              exact ⟨rfl, HF.out.below⟩
end Go.Proofs.Ytjekkaajagncpaa
