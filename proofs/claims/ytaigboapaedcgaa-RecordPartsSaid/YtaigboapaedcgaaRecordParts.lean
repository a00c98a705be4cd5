/- Layer 7, the law: records behind records are taken apart by themselves. No condition. -/
import Derived.Test.YtaigboapaedcgaaRecLaw
namespace Go.Proofs.Ytaigboapaedcgaa
open Go Go.RowKit Hg
set_option linter.unusedVariables false
set_option linter.unusedSimpArgs false
attribute [local go_sem] Lib.run_eql_slice_nil run_min2 run_max2 run_min_two run_max_two bstr_size bstr_append
theorem allGo_len : ∀ (b : List UInt8) (d : Df) (k : Nat) (o : List UInt8), (allGo d b k o).1.length ≤ o.length + b.length
  | [], d, k, o => by simp [allGo]
  | x :: t, d, k, o => by
    rw [allGo]
    split
    · simp
    · have h := allGo_len t (d.take x) (k + 1) (if d.pay then o ++ [x] else o)
      have h2 : (if d.pay then o ++ [x] else o).length ≤ o.length + 1 := by split <;> simp
      rw [List.length_cons]
      omega
set_option maxHeartbeats 3200000 in
set_option maxRecDepth 100000 in
theorem parts_calls (vx : Value) (size : Int) (vb : Value) (w : World) {lx lb : List UInt8} (hx : Reads w vx lx) (h1 : lx.length ≤ 140737488351232) (hs : -9223372036854775808 ≤ size ∧ size ≤ 9223372036854775807) (hb : Reads w vb lb) (h2 : lb.length ≤ 140737488351232) :
    Calls Try.prog 7 #[vx, .int .i64 size, vb] w fun e w' => e = .returned (.bool true) ∧ Below w.heap.size w w' := by
  obtain ⟨ax, cx, rfl, _, _⟩ := Reads.form hx
  obtain ⟨ab, cb, rfl, _, _⟩ := Reads.form hb
  have HXX := Lib.hid hx
  have HXB := Lib.hid hb
  clear hx hb
  have SH : ∀ (b1 b2 : Bool), decide ((2000 : Int) < lx.length) = b1 → decide ((2000 : Int) < lb.length) = b2 → (b1 || b2) = true → Calls Try.prog 7 #[.slice ax lx.length cx, .int .i64 size, .slice ab lb.length cb] w fun e w' => e = .returned (.bool true) ∧ Below w.heap.size w w' := by
    intro b1 b2 e1 e2 hor
    cases b1 <;> cases b2 <;> (try (exact absurd hor (by decide)))
    all_goals
      clear hor
      go_enter Try.func7, Try.ntmps7
      go_wp2_with (go_at_call 9; refine (small_calls [] w _ (sat_start w)).mono ?_; rintro e w1 ⟨rfl, H1⟩; have HS := Lib.hid H1; clear H1)
      go_ret
      exact ⟨rfl, HS.out.below⟩
  by_cases e1 : (2000 : Int) < lx.length
  · exact SH true _ (by simpa using e1) rfl rfl
  by_cases e2 : (2000 : Int) < lb.length
  · exact SH _ true rfl (by simpa using e2) (by simp)
  clear SH
  have d1 : decide ((2000 : Int) < lx.length) = false := by simpa using e1
  have d2 : decide ((2000 : Int) < lb.length) = false := by simpa using e2
  obtain ⟨F, hF⟩ : ∃ F, F = frameL size lx := ⟨_, rfl⟩
  obtain ⟨FL, hFL⟩ : ∃ FL, FL = F.length := ⟨_, rfl⟩
  have hFl : FL ≤ 12000 := by
    have h := (frameL_run size lx).2.2
    have h2 := (nCh_spec (len := lx.length) (frN_eq size).2.1).2
    rw [← hF, ← hFL] at h
    have h3 : nCh (frN size) lx.length ≤ lx.length := by
      rcases Nat.eq_zero_or_pos (nCh (frN size) lx.length) with h0 | h0
      · omega
      · have h4 := h2 (nCh (frN size) lx.length - 1) (by omega)
        have h5 : (nCh (frN size) lx.length - 1) * 1 ≤ (nCh (frN size) lx.length - 1) * frN size := Nat.mul_le_mul_left _ (frN_eq size).2.1
        omega
    omega
  obtain ⟨A, hA⟩ : ∃ A, A = (allL lb).1 := ⟨_, rfl⟩
  obtain ⟨at', hat⟩ : ∃ a, a = (allL lb).2.1 := ⟨_, rfl⟩
  obtain ⟨E, hE⟩ : ∃ E, E = (allL lb).2.2 := ⟨_, rfl⟩
  obtain ⟨T, hT⟩ : ∃ T, T = F ++ lb := ⟨_, rfl⟩
  have hTl : T.length ≤ 14000 := by rw [hT, List.length_append]; omega
  have hAT : allL T = (lx ++ A, if 0 ≤ at' then at' + FL else at', E) := by rw [hT, hF, parts_all, ← hA, ← hat, ← hE, ← hF, ← hFL]
  have hatb : at' = -1 ∨ (0 ≤ at' ∧ at' ≤ 2000) := by
    by_cases hz : (allL lb).2.2 = 0
    · left; rw [hat]; exact (wrong_ok [] hz).1
    · right
      obtain ⟨j, g1, g2, _⟩ := wrong_bad [] hz
      rw [hat, g2]; omega
  have hAl : A.length ≤ 2000 := by
    have := allGo_len lb Df.new 0 []
    rw [hA, allL]
    simp only [List.length_nil] at this
    omega
  have d4 : ¬ 9223372036854775807 < lx.length + A.length := by omega
  have HFF := Lib.hid hF
  have HFL := Lib.hid hFL
  have HA := Lib.hid (And.intro hA (And.intro hat hE))
  have HT := Lib.hid hT
  clear hF hFL hA hat hE hT
  have q1 : ((bstr (lx ++ A)).toList == (bstr (lx ++ A)).toList) = true := by simp
  rcases hatb with rfl | hatb
  · rw [if_neg (by decide)] at hAT
    have HAT := Lib.hid hAT
    clear hAT
    go_enter Try.func7, Try.ntmps7
    go_wp2_with (first
      | (go_at_call 9; refine (small_calls [] w _ (sat_start w)).mono ?_; rintro e w1 ⟨rfl, H1⟩; have HS := Lib.hid H1; clear H1)
      | (go_at_call 17; refine (framef_calls _ lx size _ w _ HS.out (Rd.old HXX.out) (by omega)).mono ?_; rw [← HFF.out]; rintro r w2 ⟨v2, rfl, H2⟩; obtain ⟨a2, c2, rfl, _, _⟩ := Row.form H2; rw [← HFL.out] at H2 ⊢; have HB := Lib.hid H2; clear H2 HS)
      | (refine BigFrame.wpList_want (by rfl) fun K' hK' => ?_; refine op_append_bytes (l := []) (m := F) (v := .slice (some ⟨w2.heap.size, 0, none⟩) 0 0) (y := .slice a2 FL c2) (by rfl) Try.underlying22 info5 (by rfl) (by rfl) (RowC.of_blk (cap := 0) (HB.out.alloc (.cells #[] 5)) 0 [] rfl (Nat.le_refl _) (Nat.zero_le _) rfl rfl) (Rd.row _ (HB.out.alloc _).tail) (by rw [← HFL.out]; simp; omega) ?_; intro v5 w5 H5 _; rw [List.nil_append] at H5; refine hK' _ _ ?_; clear hK' K'; have HC := Lib.hid H5; clear H5 HB)
      | (refine BigFrame.wpList_want (by rfl) fun K' hK' => ?_; refine op_append_bytes (l := F) (m := lb) (v := v5) (y := .slice ab lb.length cb) (by rfl) Try.underlying22 info5 (by rfl) (by rfl) HC.out (Rd.old HXB.out _ HC.out) (by rw [← HFL.out]; omega) ?_; intro v6 w6 H6 _; rw [← HT.out] at H6; refine hK' _ _ ?_; clear hK' K'; have HD := Lib.hid H6; clear H6 HC)
      | (go_at_call 15; refine (all_calls _ T _ w _ HD.out Rd.row (by omega)).mono ?_; rw [HAT.out]; dsimp only; rintro r w7 ⟨v7, rfl, H7⟩; have HE := Lib.hid H7; clear H7 HD)
      | (go_at_call 15; refine (all_calls _ lb _ w _ HE.out (Rd.old HXB.out) (by omega)).mono ?_; rw [← HA.out.1, ← HA.out.2.1, ← HA.out.2.2]; rintro r w8 ⟨v8, rfl, H8⟩; have HG := Lib.hid H8; clear H8 HE)
      | (refine BigFrame.wpList_want (by rfl) fun K' hK' => ?_; refine op_conv_str (v := v7) (l := lx ++ A) (by rfl) Try.underlying22 Try.underlying5 Try.underlying9 (by rfl) (Rd.row.weak _ HG.out) ?_; refine hK' _ _ ?_; clear hK' K')
      | (refine BigFrame.wpList_want (by rfl) fun K' hK' => ?_; refine op_conv_str (v := .slice ax lx.length cx) (l := lx) (by rfl) Try.underlying22 Try.underlying5 Try.underlying9 (by rfl) (Rd.old HXX.out _ HG.out) ?_; refine hK' _ _ ?_; clear hK' K')
      | (refine BigFrame.wpList_want (by rfl) fun K' hK' => ?_; refine op_conv_str (v := v8) (l := A) (by rfl) Try.underlying22 Try.underlying5 Try.underlying9 (by rfl) (Rd.row _ HG.out) ?_; refine hK' _ _ ?_; clear hK' K'))
    go_ret
    exact ⟨rfl, HG.out.below⟩
  · rw [if_pos hatb.1] at hAT
    have HAT := Lib.hid hAT
    have d3 : decide (0 ≤ at') = true := by simpa using hatb.1
    clear hAT
    go_enter Try.func7, Try.ntmps7
    go_wp2_with (first
      | (go_at_call 9; refine (small_calls [] w _ (sat_start w)).mono ?_; rintro e w1 ⟨rfl, H1⟩; have HS := Lib.hid H1; clear H1)
      | (go_at_call 17; refine (framef_calls _ lx size _ w _ HS.out (Rd.old HXX.out) (by omega)).mono ?_; rw [← HFF.out]; rintro r w2 ⟨v2, rfl, H2⟩; obtain ⟨a2, c2, rfl, _, _⟩ := Row.form H2; rw [← HFL.out] at H2 ⊢; have HB := Lib.hid H2; clear H2 HS)
      | (refine BigFrame.wpList_want (by rfl) fun K' hK' => ?_; refine op_append_bytes (l := []) (m := F) (v := .slice (some ⟨w2.heap.size, 0, none⟩) 0 0) (y := .slice a2 FL c2) (by rfl) Try.underlying22 info5 (by rfl) (by rfl) (RowC.of_blk (cap := 0) (HB.out.alloc (.cells #[] 5)) 0 [] rfl (Nat.le_refl _) (Nat.zero_le _) rfl rfl) (Rd.row _ (HB.out.alloc _).tail) (by rw [← HFL.out]; simp; omega) ?_; intro v5 w5 H5 _; rw [List.nil_append] at H5; refine hK' _ _ ?_; clear hK' K'; have HC := Lib.hid H5; clear H5 HB)
      | (refine BigFrame.wpList_want (by rfl) fun K' hK' => ?_; refine op_append_bytes (l := F) (m := lb) (v := v5) (y := .slice ab lb.length cb) (by rfl) Try.underlying22 info5 (by rfl) (by rfl) HC.out (Rd.old HXB.out _ HC.out) (by rw [← HFL.out]; omega) ?_; intro v6 w6 H6 _; rw [← HT.out] at H6; refine hK' _ _ ?_; clear hK' K'; have HD := Lib.hid H6; clear H6 HC)
      | (go_at_call 15; refine (all_calls _ T _ w _ HD.out Rd.row (by omega)).mono ?_; rw [HAT.out]; dsimp only; rintro r w7 ⟨v7, rfl, H7⟩; have HE := Lib.hid H7; clear H7 HD)
      | (go_at_call 15; refine (all_calls _ lb _ w _ HE.out (Rd.old HXB.out) (by omega)).mono ?_; rw [← HA.out.1, ← HA.out.2.1, ← HA.out.2.2]; rintro r w8 ⟨v8, rfl, H8⟩; have HG := Lib.hid H8; clear H8 HE)
      | (refine BigFrame.wpList_want (by rfl) fun K' hK' => ?_; refine op_conv_str (v := v7) (l := lx ++ A) (by rfl) Try.underlying22 Try.underlying5 Try.underlying9 (by rfl) (Rd.row.weak _ HG.out) ?_; refine hK' _ _ ?_; clear hK' K')
      | (refine BigFrame.wpList_want (by rfl) fun K' hK' => ?_; refine op_conv_str (v := .slice ax lx.length cx) (l := lx) (by rfl) Try.underlying22 Try.underlying5 Try.underlying9 (by rfl) (Rd.old HXX.out _ HG.out) ?_; refine hK' _ _ ?_; clear hK' K')
      | (refine BigFrame.wpList_want (by rfl) fun K' hK' => ?_; refine op_conv_str (v := v8) (l := A) (by rfl) Try.underlying22 Try.underlying5 Try.underlying9 (by rfl) (Rd.row _ HG.out) ?_; refine hK' _ _ ?_; clear hK' K'))
    go_ret
    exact ⟨rfl, HG.out.below⟩
end Go.Proofs.Ytaigboapaedcgaa
