/- Layer 8: a run of bytes; a small case. No condition. -/
import Derived.Test.YtjekkaajagncpaaShake6
namespace Go.Proofs.Ytjekkaajagncpaa
open Go Go.RowKit Hg
set_option linter.unusedVariables false
set_option linter.unusedSimpArgs false
attribute [local go_sem] Lib.run_eql_slice_nil run_min2 run_max2 run_min_two run_max_two bstr_size
def Msg.run (l : List UInt8) : Msg := l.foldl Msg.take Msg.new
theorem Msg.run_snoc (l : List UInt8) (c : UInt8) : Msg.run (l ++ [c]) = (Msg.run l).take c := by simp [Msg.run]
theorem Msg.run_next (l : List UInt8) (k : Nat) (h : k < l.length) : Msg.run (l.take (k + 1)) = (Msg.run (l.take k)).take (l.getD k 0) := by
  rw [List.take_succ_eq_append_getElem h, Msg.run_snoc]
  simp [List.getD, List.getElem?_eq_getElem h]
theorem Msg.ok_foldl : ∀ (l : List UInt8) (m : Msg), m.ok → (l.foldl Msg.take m).ok
  | [], _, h => h
  | c :: l, m, h => Msg.ok_foldl l _ (Msg.ok_take h c)
theorem Msg.ok_run (l : List UInt8) : (Msg.run l).ok := Msg.ok_foldl l _ Msg.ok_new
def MS (g : Nat) (v : Value) (m : Msg) : Asn := MB g v m.h m.s m.e
section
variable (g : Nat) (v : Value) (m : Msg) (hm : m.ok) (R : List Asn) (w0 w : World) (H : sat w0 w (MS g v m :: Row v m.l :: R))
include hm H
theorem mtake_calls (c : UInt8) {x : Int} (hx : x = c.toNat) : Calls Try.prog 11 #[.pointer (some ⟨g, 0, none⟩), .int .u8 x] w fun r w' => ∃ v' : Value, r = .returned (.tuple #[.bool (m.take c).whole, .int .i64 (m.take c).e]) ∧ sat w0 w' (MS g v' (m.take c) :: Row v' (m.take c).l :: R) := by
  subst hx
  exact take_calls g v m hm c R w0 w H
theorem mwant_calls : Calls Try.prog 13 #[.pointer (some ⟨g, 0, none⟩)] w fun r w' => r = .returned (.int .i64 m.want) ∧ sat w0 w' (MS g v m :: Row v m.l :: R) := by
  obtain ⟨a, c, rfl, _, _⟩ := Row.form H.tail
  obtain ⟨h1, h2, h3, h4, h5⟩ := hm
  refine (want_calls g a m.l.length c m.h m.s m.e w H.get.1 (by omega) (by omega) (by omega)).mono ?_
  rintro r w' ⟨rfl, k, rfl⟩
  exact ⟨rfl, H.drewN k⟩
theorem mbody_calls : Calls Try.prog 15 #[.pointer (some ⟨g, 0, none⟩)] w fun r w' => ∃ v' : Value, r = .returned v' ∧ sat w0 w' (MS g v m :: Row v m.l :: Row v' m.body :: R) := by
  obtain ⟨h1, h2, h3, h4, h5⟩ := hm
  exact body_calls g v m.l m.h m.s m.e R w0 w H (by omega)
end
set_option maxHeartbeats 1600000 in
set_option maxRecDepth 100000 in
theorem small_calls (R : List Asn) (w0 w : World) (H : sat w0 w R) : Calls Try.prog 9 #[] w fun e w' => e = .returned (.bool true) ∧ sat w0 w' R := by
  have HH := Lib.hid H
  clear H
  obtain ⟨W, hW⟩ : ∃ W, W = wrapL [97, 98] := ⟨_, rfl⟩
  have hlen : W.length = 6 := by rw [hW]; rfl
  have HWW := Lib.hid hW
  clear hW
  go_enter Try.func9, Try.ntmps9
  go_wp2_with (first | (refine BigFrame.wpList_want (by rfl) fun K' hK' => ?_; refine op_conv_bytes (g := w.heap.size) (n := 2) (c := 2) (cs := ([97, 98].map B8).toArray) (by rfl) Try.underlying22 Try.underlying5 (by rfl) (HH.out.alloc _) ?_; intro w5 H5; refine hK' _ _ ?_; clear hK' K'; have HA := Lib.hid H5; clear H5) | (go_at_call 17; refine (wrap_calls _ [97, 98] _ w0 _ HA.out (Rd.blk [97, 98] (by decide)) (by decide)).mono ?_; rw [← HWW.out]; rintro r w6 ⟨v6, rfl, H6⟩; obtain ⟨a6, c6, rfl, _, _⟩ := Row.form H6; rw [hlen] at H6; have HB := Lib.hid (show sat w0 w6 (Row (.slice a6 6 c6) W :: R) from H6.re 2 [0] [1] rfl); clear H6 HA) | (go_at_call 10; refine (new_calls _ w0 _ HB.out).mono ?_; rintro r w7 ⟨g, rfl, H7⟩; have HC := Lib.hid H7; clear H7 HB) | (go_at_call 10; refine (new_calls _ w0 _ HC.out).mono ?_; rintro r w8 ⟨g', rfl, H8⟩; have HD := Lib.hid (show sat w0 w8 (MS g (.slice none 0 0) Msg.new :: Row (.slice none 0 0) Msg.new.l :: MS g' (.slice none 0 0) Msg.new :: Row (.slice none 0 0) Msg.new.l :: Row (.slice a6 6 c6) W :: R) from H8.re 4 [2, 3, 0, 1] [] rfl); clear H8 HC) | (go_at_call 13; refine (mwant_calls g _ Msg.new Msg.ok_new _ w0 _ HD.out).mono ?_; rintro r w9 ⟨rfl, H9⟩; have HE := Lib.hid H9; clear H9 HD))
  have hw0 : Msg.new.want = 4 := rfl
  go_loopw [6, 7] (fun wh i wr => ∃ (k : Nat) (vm : Value), k ≤ 6 ∧ i = .int .i64 k ∧ wh = .bool (decide (k = 6)) ∧ sat w0 wr (MS g vm (Msg.run (W.take k)) :: Row vm (Msg.run (W.take k)).l :: MS g' (.slice none 0 0) Msg.new :: Row (.slice none 0 0) Msg.new.l :: Row (.slice a6 6 c6) W :: R)) (fun _ i _ => 6 - (intOf i).toNat)
  case atStart => exact ⟨0, _, by omega, rfl, rfl, HE.out⟩
  case round =>
    obtain ⟨k, vm, hk, rfl, rfl, HS⟩ := hrel
    clear HE
    by_cases hlt : k < 6
    · obtain ⟨gg, cc, hv, _, _, ce, _, _⟩ := Row.set (HS.pick 4 rfl) (j := k) (by omega) 0 rfl
      rw [hlen] at hv
      injection hv with e1 _ e2
      subst e1 e2
      have hn := Msg.run_next W k (by omega)
      have hp : (Msg.run (W.take (k + 1))).whole = decide (k + 1 = 6) := by
        rw [HWW.out]
        have : ∀ k, k < 6 → (Msg.run ((wrapL [97, 98]).take (k + 1))).whole = decide (k + 1 = 6) := by decide
        exact this k hlt
      generalize W.getD k 0 = b at ce hn
      have ce : wr.cell? ⟨gg, k, none⟩ = some (.int .u8 b.toNat) := ce
      have d0 : decide (k = 6) = false := by simp; omega
      have HB := Lib.hid HS
      have HN := Lib.hid (And.intro hn hp)
      clear HS hn hp
      go_wp2_with (go_at_call 11; refine (mtake_calls g vm _ (Msg.ok_run _) _ w0 _ HB.out b rfl).mono ?_; rw [← HN.out.1, HN.out.2]; rintro r w9 ⟨v9, rfl, H9⟩; have HC := Lib.hid H9; clear H9 HB)
      go_roundw
      case rel =>
        have hk1 : k + 1 ≤ 6 := by omega
        have hi : Value.int .i64 ((k : Int) + 1) = Value.int .i64 ((k + 1 : Nat) : Int) := by go_num
        have hw : Value.bool (decide (k = 5)) = Value.bool (decide (k + 1 = 6)) := by simp
        have hc := HC.out
        repeat apply Exists.intro
        exact ⟨⟨k + 1, _, hk1, hi, hw, hc⟩, rfl⟩
      case measure => simp [intOf]; omega
    · obtain rfl : k = 6 := by omega
      have ht : W.take 6 = W := List.take_of_length_le (by omega)
      rw [ht] at HS
      obtain ⟨M, hM⟩ : ∃ M, M = Msg.run W := ⟨_, rfl⟩
      have hMo : M.ok := by rw [hM]; exact Msg.ok_run _
      rw [← hM] at HS
      obtain ⟨M9, hM9⟩ : ∃ M9, M9 = M.take 9 := ⟨_, rfl⟩
      have h9o : M9.ok := by rw [hM9]; exact Msg.ok_take hMo 9
      have f1 : M9.whole = true := by rw [hM9, hM, HWW.out]; decide
      have f2 : M9.e = 0 := by rw [hM9, hM, HWW.out]; decide
      have f3 : M9.want = 0 := by rw [hM9, hM, HWW.out]; decide
      have f4 : M9.body = [97, 98] := by rw [hM9, hM, HWW.out]; decide
      have q1 : ((bstr M9.body).toList == [97, 98]) = true := by rw [f4]; decide +kernel
      obtain ⟨N1, hN1⟩ : ∃ N1, N1 = Msg.new.take 1 := ⟨_, rfl⟩
      obtain ⟨N2, hN2⟩ : ∃ N2, N2 = N1.take 1 := ⟨_, rfl⟩
      obtain ⟨N3, hN3⟩ : ∃ N3, N3 = N2.take 0 := ⟨_, rfl⟩
      have o1 : N1.ok := by rw [hN1]; exact Msg.ok_take Msg.ok_new 1
      have o2 : N2.ok := by rw [hN2]; exact Msg.ok_take o1 1
      have o3 : N3.ok := by rw [hN3]; exact Msg.ok_take o2 0
      have f5 : N2.e = 6 := by rw [hN2, hN1]; decide
      have f6 : N3.e = 6 := by rw [hN3, hN2, hN1]; decide
      have f7 : N3.body.length = 0 := by rw [hN3, hN2, hN1]; decide
      have HB := Lib.hid HS
      have HM9 := Lib.hid hM9
      have HN1 := Lib.hid hN1
      have HN2 := Lib.hid hN2
      have HN3 := Lib.hid hN3
      have HF7 := Lib.hid f7
      clear HS hM9 hN1 hN2 hN3 ht hM f4 f7
      go_wp2_with (first | (go_at_call 11; refine (mtake_calls g vm M hMo _ w0 _ HB.out 9 rfl).mono ?_; rw [← HM9.out]; rintro r w9 ⟨v9, rfl, H9⟩; have HC := Lib.hid (show sat w0 w9 (MS g' (.slice none 0 0) Msg.new :: Row (.slice none 0 0) Msg.new.l :: MS g v9 M9 :: Row v9 M9.l :: Row (.slice a6 6 c6) W :: R) from H9.re 4 [2, 3, 0, 1] [] rfl); clear H9 HB) | (go_at_call 11; refine (mtake_calls g' _ Msg.new Msg.ok_new _ w0 _ HC.out 1 rfl).mono ?_; rw [← HN1.out]; rintro r w10 ⟨v10, rfl, H10⟩; have HD := Lib.hid H10; clear H10 HC) | (go_at_call 11; refine (mtake_calls g' _ N1 o1 _ w0 _ HD.out 1 rfl).mono ?_; rw [← HN2.out]; rintro r w11 ⟨v11, rfl, H11⟩; have HE := Lib.hid H11; clear H11 HD) | (go_at_call 11; refine (mtake_calls g' _ N2 o2 _ w0 _ HE.out 0 rfl).mono ?_; rw [← HN3.out]; rintro r w12 ⟨v12, rfl, H12⟩; have HG := Lib.hid H12; clear H12 HE) | (refine BigFrame.wpList_want (by rfl) fun K' hK' => ?_; refine op_make_bytes (n := 16385) (c := 16385) (by rfl) Try.underlying22 info5 (by rfl) (by rfl) (by omega) (by omega) (by omega) HG.out ?_; intro g13 w13 H13; refine hK' _ _ ?_; clear hK' K'; generalize hZ : List.replicate 16385 (0 : UInt8) = Z at H13; have HZ := Lib.hid (show Z.length = 16385 by rw [← hZ, List.length_replicate]); clear hZ; have HI := Lib.hid H13; clear H13 HG) | (go_at_call 17; refine (wrap_calls _ Z _ w0 _ HI.out Rd.row (by rw [HZ.out]; omega)).mono ?_; rw [show decide (Z.length ≤ 16384) = false by rw [HZ.out]; rfl]; rintro r w14 ⟨v14, rfl, H14⟩; have HJ := Lib.hid (show sat w0 w14 (MS g v9 M9 :: Row v9 M9.l :: MS g' v12 N3 :: Row v12 N3.l :: R) from H14.re 7 [4, 5, 2, 3] [0, 1, 6] rfl); clear H14 HI) | (go_at_call 15; refine (mbody_calls g v9 M9 h9o _ w0 _ HJ.out).mono ?_; rintro r w15 ⟨v15, rfl, H15⟩; have HK := Lib.hid H15; clear H15 HJ) | (refine BigFrame.wpList_want (by rfl) fun K' hK' => ?_; refine op_conv_str (v := v15) (by rfl) Try.underlying22 Try.underlying5 Try.underlying9 (by rfl) (Rd.row.weak.weak _ HK.out) ?_; refine hK' _ _ ?_; clear hK' K') | (go_at_call 13; refine (mwant_calls g v9 M9 h9o _ w0 _ HK.out).mono ?_; rintro r w16 ⟨rfl, H16⟩; have HL := Lib.hid (show sat w0 w16 (MS g' v12 N3 :: Row v12 N3.l :: R) from H16.re 5 [3, 4] [0, 1, 2] rfl); clear H16 HK) | (go_at_call 15; refine (mbody_calls g' v12 N3 o3 _ w0 _ HL.out).mono ?_; rintro r w17 ⟨v17, rfl, H17⟩; obtain ⟨a17, c17, rfl, _, _⟩ := Row.form H17.tail.tail; rw [HF7.out]; have HO := Lib.hid H17; clear H17 HL))
      go_ret
      exact ⟨rfl, HO.out.tail.tail.tail⟩
end Go.Proofs.Ytjekkaajagncpaa
