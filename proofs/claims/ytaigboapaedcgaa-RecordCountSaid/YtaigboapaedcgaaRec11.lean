/- Layer 7: Frame as a call among others; a small case. No condition. -/
import Derived.Test.YtaigboapaedcgaaRec10
namespace Go.Proofs.Ytaigboapaedcgaa
open Go Go.RowKit Hg
set_option linter.unusedVariables false
set_option linter.unusedSimpArgs false
attribute [local go_sem] Lib.run_eql_slice_nil run_min2 run_max2 run_min_two run_max_two bstr_size
/-- A size, clamped; how many chunks; the records of bytes. -/
def frN (size : Int) : Nat := (mx 1 (mn size 16384)).toNat
def nCh (N len : Nat) : Nat := (len + N - 1) / N
def frameL (size : Int) (xs : List UInt8) : List UInt8 := framesK (frN size) xs (nCh (frN size) xs.length)
theorem frN_eq (size : Int) : mx 1 (mn size 16384) = frN size ∧ 1 ≤ frN size ∧ frN size ≤ 16384 := by
  unfold frN
  rw [mx_eq, mn_eq]
  omega
theorem nCh_eq {N len k : Nat} (hN : 1 ≤ N) (h1 : len ≤ k * N) (h2 : ∀ j, j < k → j * N < len) : k = nCh N len := by
  unfold nCh
  rcases Nat.eq_zero_or_pos k with rfl | hk
  · have h0 : len = 0 := by omega
    subst h0
    rw [Nat.div_eq_of_lt (by omega)]
  · have h3 := h2 (k - 1) (by omega)
    have e : (k - 1) * N + N = k * N := by
      rw [← Nat.succ_mul]; congr 1; omega
    refine (Nat.div_eq_of_lt_le ?_ ?_).symm
    · omega
    · rw [Nat.succ_mul]; omega
theorem framef_calls (vx : Value) (xs : List UInt8) (size : Int) (R : List Asn) (w0 w : World) (H : sat w0 w R) (hx : Rd w0 R vx xs) (hl : xs.length ≤ 5000) :
    Calls Try.prog 17 #[vx, .int .i64 size] w fun e w' => ∃ v', e = .returned v' ∧ sat w0 w' (Row v' (frameL size xs) :: R) := by
  obtain ⟨h1, h2, h3⟩ := frN_eq size
  refine (frame_calls vx xs size (frN size) h1 ⟨h2, h3⟩ w (hx w H) hl).mono ?_
  rintro e w' ⟨v', rfl, k, hk, hj, hs⟩
  refine ⟨v', rfl, ?_⟩
  rw [frameL, ← nCh_eq h2 hk hj]
  exact H.join hs
theorem rframef_calls (vx : Value) (xs : List UInt8) (size : Int) (R : List Asn) (w0 w : World) (H : sat w0 w R) (hx : Rd w0 R vx xs) (hl : xs.length ≤ 5000) :
    Calls Try.prog 18 #[vx, .int .i64 size] w fun e w' => ∃ v', e = .returned v' ∧ sat w0 w' (Row v' (frameL size xs) :: R) := by
  obtain ⟨h1, h2, h3⟩ := frN_eq size
  refine (rframe_calls vx xs size (frN size) h1 ⟨h2, h3⟩ R w0 w H hx hl).mono ?_
  rintro e w' ⟨v', rfl, k, hk, hj, hs⟩
  refine ⟨v', rfl, ?_⟩
  rw [frameL, ← nCh_eq h2 hk hj]
  exact hs
theorem row_cell {w0 w : World} {R : List Asn} {g n c : Nat} {l : List UInt8} (h : sat w0 w (Row (.slice (some ⟨g, 0, none⟩) n c) l :: R)) (j : Nat) (hj : j < l.length) {y : Int} (hy : y = (l.getD j 0).toNat) : w.cell? ⟨g, j, none⟩ = some (.int .u8 y) := by
  obtain ⟨g', c', hv, _, _, hc, _, _⟩ := Row.set h hj 0 rfl
  injection hv with a1 _ _
  injection a1 with a1
  injection a1 with a1 _ _
  subst a1
  rw [hy]
  exact hc
theorem row_addr {w0 w : World} {R : List Asn} {v : Value} {l : List UInt8} (h : sat w0 w (Row v l :: R)) (hj : 0 < l.length) : ∃ g c, v = .slice (some ⟨g, 0, none⟩) l.length c ∧ l.length ≤ c ∧ c ≤ maxLen := by
  obtain ⟨g', c', hv, h1, h2, hc, _, _⟩ := Row.set h hj 0 rfl
  exact ⟨g', c', hv, h1, h2⟩
theorem dopen_calls (g : Nat) (d : Df) (R : List Asn) (w0 w : World) (H : sat w0 w (DS g d :: R)) : Calls Try.prog 14 #[.pointer (some ⟨g, 0, none⟩)] w fun r w' => r = .returned (.bool d.opened) ∧ w' = w := by
  refine (open_calls g d.p d.l d.e d.c R w0 w H).mono ?_
  rintro r w' ⟨rfl, rfl⟩
  refine ⟨?_, rfl⟩
  rw [Df.opened, show decide ((d.p : Int) = 0) = decide (d.p = 0) by rw [Bool.eq_iff_iff]; simp]
theorem dcount_calls (g : Nat) (d : Df) (R : List Asn) (w0 w : World) (H : sat w0 w (DS g d :: R)) : Calls Try.prog 13 #[.pointer (some ⟨g, 0, none⟩)] w fun r w' => r = .returned (.int .i64 (d.c : Nat)) ∧ w' = w := count_calls g d.p d.l d.e d.c R w0 w H
set_option maxHeartbeats 3200000 in
set_option maxRecDepth 100000 in
theorem small_calls (R : List Asn) (w0 w : World) (H : sat w0 w R) : Calls Try.prog 9 #[] w fun e w' => e = .returned (.bool true) ∧ sat w0 w' R := by
  have HH := Lib.hid H
  clear H
  obtain ⟨F, hF⟩ : ∃ F, F = frameL 2 [97, 98, 99] := ⟨_, rfl⟩
  have hlen : F.length = 13 := by rw [hF]; decide +kernel
  have HFA := Lib.hid (show allL F = ([97, 98, 99], -1, 0) by rw [hF]; decide +kernel)
  have HF3 := Lib.hid (show F.getD 3 0 = 0 ∧ F.getD 4 0 = 2 ∧ F.getD 12 0 = 99 by rw [hF]; decide +kernel)
  have HFF := Lib.hid hF
  clear hF
  have HA2 := Lib.hid (show allL [22, 3, 1, 65] = ([], 3, 6) by decide +kernel)
  have HA3 := Lib.hid (show allL [22, 3, 1, 0, 0] = ([], 4, 6) by decide +kernel)
  have HA4 := Lib.hid (show allL [21] = ([], 0, 4) by decide +kernel)
  obtain ⟨N1, hN1⟩ : ∃ N1, N1 = Df.new.take 22 := ⟨_, rfl⟩
  obtain ⟨N2, hN2⟩ : ∃ N2, N2 = N1.take 2 := ⟨_, rfl⟩
  obtain ⟨N3, hN3⟩ : ∃ N3, N3 = N2.take 3 := ⟨_, rfl⟩
  have o1 : N1.ok := by rw [hN1]; exact Df.ok_take Df.ok_new 22
  have o2 : N2.ok := by rw [hN2]; exact Df.ok_take o1 2
  have HN1 := Lib.hid (show N1 = Df.new.take 22 ∧ N1.c = 0 ∧ N1.opened = true from ⟨hN1, by rw [hN1]; decide +kernel⟩)
  have HN2 := Lib.hid (show N2 = N1.take 2 ∧ N2.c = 0 ∧ N2.e = 5 from ⟨hN2, by rw [hN2, hN1]; decide +kernel⟩)
  have HN3 := Lib.hid (show N3 = N2.take 3 ∧ N3.c = 0 ∧ N3.e = 5 ∧ N3.opened = false from ⟨hN3, by rw [hN3, hN2, hN1]; decide +kernel⟩)
  clear hN1 hN2 hN3
  have q1 : ((bstr [97, 98, 99]).toList == [97, 98, 99]) = true := by decide +kernel
  go_enter Try.func9, Try.ntmps9
  go_wp2_with (first | (refine BigFrame.wpList_want (by rfl) fun K' hK' => ?_; refine op_conv_bytes (g := w.heap.size) (n := 3) (c := 3) (cs := ([97, 98, 99].map B8).toArray) (by rfl) Try.underlying22 Try.underlying5 (by rfl) (HH.out.alloc _) ?_; intro w5 H5; refine hK' _ _ ?_; clear hK' K'; have HA := Lib.hid H5; clear H5) | (go_at_call 17; refine (framef_calls _ [97, 98, 99] 2 _ w0 _ HA.out (Rd.blk [97, 98, 99] (by decide)) (by decide)).mono ?_; rw [← HFF.out]; rintro r w6 ⟨v6, rfl, H6⟩; obtain ⟨g6, c6, rfl, _, _⟩ := row_addr H6 (by omega); rw [hlen] at H6; have HB := Lib.hid (show sat w0 w6 (Row (.slice (some ⟨g6, 0, none⟩) 13 c6) F :: R) from H6.re 2 [0] [1] rfl); clear H6 HA) | (go_at_call 15; refine (all_calls _ F _ w0 _ HB.out Rd.row (by omega)).mono ?_; rw [HFA.out]; dsimp only; rintro r w7 ⟨v7, rfl, H7⟩; obtain ⟨a7, c7, rfl, _, _⟩ := Row.form H7; have HC := Lib.hid (show sat w0 w7 (Row (.slice (some ⟨g6, 0, none⟩) 13 c6) F :: Row (.slice a7 3 c7) [97, 98, 99] :: R) from H7.re 2 [1, 0] [] rfl); clear H7 HB) | (go_at_call 15; refine (all_calls _ [22, 3, 1, 65] _ w0 _ (HC.out.alloc (.cells ([22, 3, 1, 65].map B8).toArray 5)) (Rd.blk [22, 3, 1, 65] (by decide)) (by decide)).mono ?_; rw [HA2.out]; dsimp only; rintro r w80 ⟨v80, rfl, H8⟩; obtain ⟨a80, c80, rfl, _, _⟩ := Row.form H8; have HD := Lib.hid (show sat w0 w80 (Row (.slice (some ⟨g6, 0, none⟩) 13 c6) F :: Row (.slice a7 3 c7) [97, 98, 99] :: R) from H8.re 4 [2, 3] [0, 1] rfl); clear H8 HC) | (go_at_call 15; refine (all_calls _ [22, 3, 1, 0, 0] _ w0 _ (HD.out.alloc (.cells ([22, 3, 1, 0, 0].map B8).toArray 5)) (Rd.blk [22, 3, 1, 0, 0] (by decide)) (by decide)).mono ?_; rw [HA3.out]; dsimp only; rintro r w81 ⟨v81, rfl, H8⟩; obtain ⟨a81, c81, rfl, _, _⟩ := Row.form H8; have HE := Lib.hid (show sat w0 w81 (Row (.slice (some ⟨g6, 0, none⟩) 13 c6) F :: Row (.slice a7 3 c7) [97, 98, 99] :: R) from H8.re 4 [2, 3] [0, 1] rfl); clear H8 HD) | (go_at_call 15; refine (all_calls _ [21] _ w0 _ (HE.out.alloc (.cells ([21].map B8).toArray 5)) (Rd.blk [21] (by decide)) (by decide)).mono ?_; rw [HA4.out]; dsimp only; rintro r w82 ⟨v82, rfl, H8⟩; obtain ⟨a82, c82, rfl, _, _⟩ := Row.form H8; have HG := Lib.hid (show sat w0 w82 (Row (.slice (some ⟨g6, 0, none⟩) 13 c6) F :: Row (.slice a7 3 c7) [97, 98, 99] :: R) from H8.re 4 [2, 3] [0, 1] rfl); clear H8 HE) | (go_at_call 10; refine (new_calls _ w0 _ HG.out).mono ?_; rintro r w9 ⟨g, rfl, H9⟩; have HI := Lib.hid (show sat w0 w9 (DS g Df.new :: Row (.slice (some ⟨g6, 0, none⟩) 13 c6) F :: Row (.slice a7 3 c7) [97, 98, 99] :: R) from H9); clear H9 HG) | (go_at_call 11; refine (take_calls g Df.new Df.ok_new (by decide) 22 _ w0 _ HI.out rfl).mono ?_; rw [← HN1.out.1]; rintro r w10 ⟨rfl, H10⟩; have HJ := Lib.hid H10; clear H10 HI) | (go_at_call 14; refine (dopen_calls g N1 _ w0 _ HJ.out).mono ?_; rw [HN1.out.2.2]; rintro r w11 ⟨rfl, rfl⟩; have HK := Lib.hid HJ.out; clear HJ) | (go_at_call 11; refine (take_calls g N1 o1 (by rw [HN1.out.2.1]; decide) 2 _ w0 _ HK.out rfl).mono ?_; rw [← HN2.out.1, HN2.out.2.2]; rintro r w12 ⟨rfl, H12⟩; have HL := Lib.hid H12; clear H12 HK) | (go_at_call 11; refine (take_calls g N2 o2 (by rw [HN2.out.2.1]; decide) 3 _ w0 _ HL.out rfl).mono ?_; rw [← HN3.out.1, HN3.out.2.2.1]; rintro r w13 ⟨rfl, H13⟩; have cc3 := row_cell (H13.pick 1 rfl) 3 (by omega) (y := 0) (by rw [HF3.out.1]; rfl); have cc4 := row_cell (H13.pick 1 rfl) 4 (by omega) (y := 2) (by rw [HF3.out.2.1]; rfl); have cc12 := row_cell (H13.pick 1 rfl) 12 (by omega) (y := 99) (by rw [HF3.out.2.2]; rfl); have hcv : (convert 22 9 (.slice a7 3 c7)).run Try.prog w13 = .ok (.string (bstr [97, 98, 99])) w13 := run_conv_str Try.underlying22 Try.underlying5 Try.underlying9 (Rd.row.weak.weak _ H13); have HM := Lib.hid H13; clear H13 HL) | (go_at_call 14; refine (dopen_calls g N3 _ w0 _ HM.out).mono ?_; rw [HN3.out.2.2.2]; rintro r w14 ⟨rfl, rfl⟩; have HO := Lib.hid HM.out; clear HM) | (go_at_call 13; refine (dcount_calls g N3 _ w0 _ HO.out).mono ?_; rw [HN3.out.2.1]; rintro r w15 ⟨rfl, rfl⟩; have HP := Lib.hid HO.out; clear HO))
  go_ret
  exact ⟨rfl, HP.out.tail.tail.tail⟩
end Go.Proofs.Ytaigboapaedcgaa
