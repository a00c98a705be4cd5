/- Layer 7, the law: where an error is known no more bytes change it, and it is known at no byte ahead. No condition. -/
import Derived.Test.YtaigboapaedcgaaRecLaw
namespace Go.Proofs.Ytaigboapaedcgaa
open Go Go.RowKit Hg
set_option linter.unusedVariables false
set_option linter.unusedSimpArgs false
attribute [local go_sem] Lib.run_eql_slice_nil run_min2 run_max2 run_min_two run_max_two bstr_size
set_option maxHeartbeats 3200000 in
set_option maxRecDepth 100000 in
theorem wrong_calls (vb vm : Value) (w : World) {lb lm : List UInt8} (hb : Reads w vb lb) (h1 : lb.length ≤ 140737488351232) (hm : Reads w vm lm) (h2 : lm.length ≤ 140737488351232) :
    Calls Try.prog 6 #[vb, vm] w fun e w' => e = .returned (.bool true) ∧ Below w.heap.size w w' := by
  obtain ⟨ab, cb, rfl, hcb, hcb2⟩ := Reads.form hb
  obtain ⟨am, cm, rfl, hcm, hcm2⟩ := Reads.form hm
  have HXB := Lib.hid hb
  have HXM := Lib.hid hm
  clear hb hm
  unfold maxLen at hcb2
  have SH : ∀ (b1 b2 : Bool), decide ((3000 : Int) < lb.length) = b1 → decide ((1000 : Int) < lm.length) = b2 → (b1 || b2) = true → Calls Try.prog 6 #[.slice ab lb.length cb, .slice am lm.length cm] w fun e w' => e = .returned (.bool true) ∧ Below w.heap.size w w' := by
    intro b1 b2 e1 e2 hor
    cases b1 <;> cases b2 <;> (try (exact absurd hor (by decide)))
    all_goals
      clear hor
      go_enter Try.func6, Try.ntmps6
      go_wp2_with (go_at_call 9; refine (small_calls [] w _ (sat_start w)).mono ?_; rintro e w1 ⟨rfl, H1⟩; have HS := Lib.hid H1; clear H1)
      go_ret
      exact ⟨rfl, HS.out.below⟩
  by_cases e1 : (3000 : Int) < lb.length
  · exact SH true _ (by simpa using e1) rfl rfl
  by_cases e2 : (1000 : Int) < lm.length
  · exact SH _ true rfl (by simpa using e2) (by simp)
  clear SH
  have d1 : decide ((3000 : Int) < lb.length) = false := by simpa using e1
  have d2 : decide ((1000 : Int) < lm.length) = false := by simpa using e2
  obtain ⟨A, hA⟩ : ∃ A, A = (allL lb).1 := ⟨_, rfl⟩
  obtain ⟨at', hat⟩ : ∃ a, a = (allL lb).2.1 := ⟨_, rfl⟩
  obtain ⟨E, hE⟩ : ∃ E, E = (allL lb).2.2 := ⟨_, rfl⟩
  obtain ⟨T, hT⟩ : ∃ T, T = lb ++ lm := ⟨_, rfl⟩
  have hTl : T.length ≤ 4000 := by rw [hT, List.length_append]; omega
  obtain ⟨A2, hA2⟩ : ∃ A, A = (allL T).1 := ⟨_, rfl⟩
  obtain ⟨to, hto⟩ : ∃ a, a = (allL T).2.1 := ⟨_, rfl⟩
  obtain ⟨E2, hE2⟩ : ∃ E, E = (allL T).2.2 := ⟨_, rfl⟩
  have HA := Lib.hid (And.intro hA (And.intro hat hE))
  have HA2 := Lib.hid (And.intro hA2 (And.intro hto hE2))
  have HT := Lib.hid hT
  by_cases hz : E = 0
  · obtain ⟨g1, g2, g3⟩ := wrong_ok (b := lb) lm (by rw [← hE]; exact hz)
    rw [← hT] at g2 g3
    rw [← hat] at g1
    rw [← hA, ← hA2] at g2
    rw [← hE2, ← hto] at g3
    subst hz g1
    have dl : decide ((A.length : Int) ≤ (A2.length : Int)) = true := by simp; omega
    clear hA hat hE hA2 hto hE2 hT
    by_cases hz2 : E2 = 0
    · subst hz2
      clear g3
      go_enter Try.func6, Try.ntmps6
      go_wp2_with (first
        | (go_at_call 9; refine (small_calls [] w _ (sat_start w)).mono ?_; rintro e w1 ⟨rfl, H1⟩; have HS := Lib.hid H1; clear H1)
        | (go_at_call 15; refine (all_calls _ lb _ w _ HS.out (Rd.old HXB.out) (by omega)).mono ?_; rw [← HA.out.1, ← HA.out.2.1, ← HA.out.2.2]; rintro r w2 ⟨v2, rfl, H2⟩; obtain ⟨a2, c2, rfl, _, _⟩ := Row.form H2; have HB := Lib.hid H2; clear H2 HS)
        | (refine BigFrame.wpList_want (by rfl) fun K' hK' => ?_; refine op_append_bytes (l := []) (m := lb) (v := .slice (some ⟨w2.heap.size, 0, none⟩) 0 0) (y := .slice ab lb.length cb) (by rfl) Try.underlying22 info5 (by rfl) (by rfl) (RowC.of_blk (cap := 0) (HB.out.alloc (.cells #[] 5)) 0 [] rfl (Nat.le_refl _) (Nat.zero_le _) rfl rfl) (Rd.old HXB.out _ (HB.out.alloc _).tail) (by simp; omega) ?_; intro v5 w5 H5 _; rw [List.nil_append] at H5; refine hK' _ _ ?_; clear hK' K'; have HC := Lib.hid H5; clear H5 HB)
        | (refine BigFrame.wpList_want (by rfl) fun K' hK' => ?_; refine op_append_bytes (l := lb) (m := lm) (v := v5) (y := .slice am lm.length cm) (by rfl) Try.underlying22 info5 (by rfl) (by rfl) HC.out (Rd.old HXM.out _ HC.out) (by omega) ?_; intro v6 w6 H6 _; rw [← HT.out] at H6; refine hK' _ _ ?_; clear hK' K'; have HD := Lib.hid H6; clear H6 HC)
        | (go_at_call 15; refine (all_calls _ T _ w _ HD.out Rd.row (by omega)).mono ?_; rw [← HA2.out.1, ← HA2.out.2.1, ← HA2.out.2.2]; rintro r w7 ⟨v7, rfl, H7⟩; obtain ⟨a7, c7, rfl, _, _⟩ := Row.form H7; have HE := Lib.hid H7; clear H7 HD)
        | (go_at_call 15; refine (all_calls (.slice ab j cb) (lb.take j) _ w _ HE.out (fun u hu => Reads.take' (Rd.old HXB.out u hu) (by omega)) (by rw [List.length_take]; omega)).mono ?_; rw [HG4.out]; dsimp only; rintro r w8 ⟨v8, rfl, H8⟩; obtain ⟨a8, c8, rfl, _, _⟩ := Row.form H8; have HG := Lib.hid H8; clear H8 HE)
        | (refine BigFrame.wpList_want (by rfl) fun K' hK' => ?_; refine op_conv_str (v := .slice a2 A2.length c2) (l := A2) (by rfl) Try.underlying22 Try.underlying5 Try.underlying9 (by rfl) (Rd.row.weak.weak.weak _ HG.out) ?_; refine hK' _ _ ?_; clear hK' K')
        | (refine BigFrame.wpList_want (by rfl) fun K' hK' => ?_; refine op_conv_str (v := .slice a7 A2.length c7) (l := A2) (by rfl) Try.underlying22 Try.underlying5 Try.underlying9 (by rfl) (Rd.row.weak _ HG.out) ?_; refine hK' _ _ ?_; clear hK' K')
        | (refine BigFrame.wpList_want (by rfl) fun K' hK' => ?_; refine op_conv_str (v := .slice a8 A2.length c8) (l := A2) (by rfl) Try.underlying22 Try.underlying5 Try.underlying9 (by rfl) (Rd.row _ HG.out) ?_; refine hK' _ _ ?_; clear hK' K'))
      go_ret
      exact ⟨rfl, HE.out.below⟩
    · have g4 : (lb.length : Int) ≤ to := by
        rcases g3 with h | h
        · exact absurd h hz2
        · exact h
      have dz : (E2 == 0) = false := by simpa using hz2
      have dt : decide ((lb.length : Int) ≤ to) = true := by simpa using g4
      clear g3 hz2
      go_enter Try.func6, Try.ntmps6
      go_wp2_with (first
        | (go_at_call 9; refine (small_calls [] w _ (sat_start w)).mono ?_; rintro e w1 ⟨rfl, H1⟩; have HS := Lib.hid H1; clear H1)
        | (go_at_call 15; refine (all_calls _ lb _ w _ HS.out (Rd.old HXB.out) (by omega)).mono ?_; rw [← HA.out.1, ← HA.out.2.1, ← HA.out.2.2]; rintro r w2 ⟨v2, rfl, H2⟩; obtain ⟨a2, c2, rfl, _, _⟩ := Row.form H2; have HB := Lib.hid H2; clear H2 HS)
        | (refine BigFrame.wpList_want (by rfl) fun K' hK' => ?_; refine op_append_bytes (l := []) (m := lb) (v := .slice (some ⟨w2.heap.size, 0, none⟩) 0 0) (y := .slice ab lb.length cb) (by rfl) Try.underlying22 info5 (by rfl) (by rfl) (RowC.of_blk (cap := 0) (HB.out.alloc (.cells #[] 5)) 0 [] rfl (Nat.le_refl _) (Nat.zero_le _) rfl rfl) (Rd.old HXB.out _ (HB.out.alloc _).tail) (by simp; omega) ?_; intro v5 w5 H5 _; rw [List.nil_append] at H5; refine hK' _ _ ?_; clear hK' K'; have HC := Lib.hid H5; clear H5 HB)
        | (refine BigFrame.wpList_want (by rfl) fun K' hK' => ?_; refine op_append_bytes (l := lb) (m := lm) (v := v5) (y := .slice am lm.length cm) (by rfl) Try.underlying22 info5 (by rfl) (by rfl) HC.out (Rd.old HXM.out _ HC.out) (by omega) ?_; intro v6 w6 H6 _; rw [← HT.out] at H6; refine hK' _ _ ?_; clear hK' K'; have HD := Lib.hid H6; clear H6 HC)
        | (go_at_call 15; refine (all_calls _ T _ w _ HD.out Rd.row (by omega)).mono ?_; rw [← HA2.out.1, ← HA2.out.2.1, ← HA2.out.2.2]; rintro r w7 ⟨v7, rfl, H7⟩; obtain ⟨a7, c7, rfl, _, _⟩ := Row.form H7; have HE := Lib.hid H7; clear H7 HD)
        | (go_at_call 15; refine (all_calls (.slice ab j cb) (lb.take j) _ w _ HE.out (fun u hu => Reads.take' (Rd.old HXB.out u hu) (by omega)) (by rw [List.length_take]; omega)).mono ?_; rw [HG4.out]; dsimp only; rintro r w8 ⟨v8, rfl, H8⟩; obtain ⟨a8, c8, rfl, _, _⟩ := Row.form H8; have HG := Lib.hid H8; clear H8 HE)
        | (refine BigFrame.wpList_want (by rfl) fun K' hK' => ?_; refine op_conv_str (v := .slice a2 A2.length c2) (l := A2) (by rfl) Try.underlying22 Try.underlying5 Try.underlying9 (by rfl) (Rd.row.weak.weak.weak _ HG.out) ?_; refine hK' _ _ ?_; clear hK' K')
        | (refine BigFrame.wpList_want (by rfl) fun K' hK' => ?_; refine op_conv_str (v := .slice a7 A2.length c7) (l := A2) (by rfl) Try.underlying22 Try.underlying5 Try.underlying9 (by rfl) (Rd.row.weak _ HG.out) ?_; refine hK' _ _ ?_; clear hK' K')
        | (refine BigFrame.wpList_want (by rfl) fun K' hK' => ?_; refine op_conv_str (v := .slice a8 A2.length c8) (l := A2) (by rfl) Try.underlying22 Try.underlying5 Try.underlying9 (by rfl) (Rd.row _ HG.out) ?_; refine hK' _ _ ?_; clear hK' K'))
      go_ret
      exact ⟨rfl, HE.out.below⟩
  · obtain ⟨j, g1, g2, g3, g4⟩ := wrong_bad (b := lb) lm (by rw [← hE]; exact hz)
    rw [← hT] at g3
    rw [← hat] at g2
    have g5 : A2 = A := by rw [hA2, g3, ← hA]
    have g6 : to = j := by rw [hto, g3, ← hat, g2]
    have g7 : E2 = E := by rw [hE2, g3, ← hE]
    rw [← hA] at g4
    have HG4 := Lib.hid g4
    subst g5 g6 g7 g2
    have dz : (E2 == 0) = false := by simpa using hz
    have q1 : ((bstr A2).toList == (bstr A2).toList) = true := by simp
    have dj : decide (((lb.length : Nat) : Int) ≤ ((j : Nat) : Int)) = false := by simp; omega
    clear hA hE hA2 hE2 hT g4 hz hat hto g3
    go_enter Try.func6, Try.ntmps6
    go_wp2_with (first
      | (go_at_call 9; refine (small_calls [] w _ (sat_start w)).mono ?_; rintro e w1 ⟨rfl, H1⟩; have HS := Lib.hid H1; clear H1)
      | (go_at_call 15; refine (all_calls _ lb _ w _ HS.out (Rd.old HXB.out) (by omega)).mono ?_; rw [← HA.out.1, ← HA.out.2.1, ← HA.out.2.2]; rintro r w2 ⟨v2, rfl, H2⟩; obtain ⟨a2, c2, rfl, _, _⟩ := Row.form H2; have HB := Lib.hid H2; clear H2 HS)
      | (refine BigFrame.wpList_want (by rfl) fun K' hK' => ?_; refine op_append_bytes (l := []) (m := lb) (v := .slice (some ⟨w2.heap.size, 0, none⟩) 0 0) (y := .slice ab lb.length cb) (by rfl) Try.underlying22 info5 (by rfl) (by rfl) (RowC.of_blk (cap := 0) (HB.out.alloc (.cells #[] 5)) 0 [] rfl (Nat.le_refl _) (Nat.zero_le _) rfl rfl) (Rd.old HXB.out _ (HB.out.alloc _).tail) (by simp; omega) ?_; intro v5 w5 H5 _; rw [List.nil_append] at H5; refine hK' _ _ ?_; clear hK' K'; have HC := Lib.hid H5; clear H5 HB)
      | (refine BigFrame.wpList_want (by rfl) fun K' hK' => ?_; refine op_append_bytes (l := lb) (m := lm) (v := v5) (y := .slice am lm.length cm) (by rfl) Try.underlying22 info5 (by rfl) (by rfl) HC.out (Rd.old HXM.out _ HC.out) (by omega) ?_; intro v6 w6 H6 _; rw [← HT.out] at H6; refine hK' _ _ ?_; clear hK' K'; have HD := Lib.hid H6; clear H6 HC)
      | (go_at_call 15; refine (all_calls _ T _ w _ HD.out Rd.row (by omega)).mono ?_; rw [← HA2.out.1, ← HA2.out.2.1, ← HA2.out.2.2]; rintro r w7 ⟨v7, rfl, H7⟩; obtain ⟨a7, c7, rfl, _, _⟩ := Row.form H7; have HE := Lib.hid H7; clear H7 HD)
      | (go_at_call 15; refine (all_calls (.slice ab j cb) (lb.take j) _ w _ HE.out (fun u hu => Reads.take' (Rd.old HXB.out u hu) (by omega)) (by rw [List.length_take]; omega)).mono ?_; rw [HG4.out]; dsimp only; rintro r w8 ⟨v8, rfl, H8⟩; obtain ⟨a8, c8, rfl, _, _⟩ := Row.form H8; have HG := Lib.hid H8; clear H8 HE)
      | (refine BigFrame.wpList_want (by rfl) fun K' hK' => ?_; refine op_conv_str (v := .slice a2 A2.length c2) (l := A2) (by rfl) Try.underlying22 Try.underlying5 Try.underlying9 (by rfl) (Rd.row.weak.weak.weak _ HG.out) ?_; refine hK' _ _ ?_; clear hK' K')
      | (refine BigFrame.wpList_want (by rfl) fun K' hK' => ?_; refine op_conv_str (v := .slice a7 A2.length c7) (l := A2) (by rfl) Try.underlying22 Try.underlying5 Try.underlying9 (by rfl) (Rd.row.weak _ HG.out) ?_; refine hK' _ _ ?_; clear hK' K')
      | (refine BigFrame.wpList_want (by rfl) fun K' hK' => ?_; refine op_conv_str (v := .slice a8 A2.length c8) (l := A2) (by rfl) Try.underlying22 Try.underlying5 Try.underlying9 (by rfl) (Rd.row _ HG.out) ?_; refine hK' _ _ ?_; clear hK' K'))
    go_ret
    exact ⟨rfl, HG.out.below⟩
end Go.Proofs.Ytaigboapaedcgaa
