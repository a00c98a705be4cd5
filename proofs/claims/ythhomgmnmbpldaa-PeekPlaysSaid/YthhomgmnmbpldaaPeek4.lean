/- Layer 6: a small case comes out right. No condition. -/
import Derived.Test.YthhomgmnmbpldaaPeek3
namespace Go.Proofs.Ythhomgmnmbpldaa
open Go Go.RowKit Hg
set_option linter.unusedVariables false
set_option linter.unusedSimpArgs false
attribute [local go_sem] Lib.run_eql_slice_nil run_min2 run_max2 run_min_two run_max_two
theorem add_small (g : Nat) (v : Value) (l : List UInt8) (mo : Nat) (at_ : Int) (over : Bool) (s : Value) (m : List UInt8) (R : List Asn) (w0 w : World) (l' : List UInt8) (n : Nat) (o' : Bool)
    (H : sat w0 w (PB g v mo at_ over :: Row v l :: R)) (hs : Rd w0 R s m) (h1 : mo ≤ 16384) (hl : l.length ≤ mo) (hm : m.length ≤ 140737488351232)
    (hn : min m.length (mo - l.length) = n) (ho : (over || decide (mo - l.length < m.length)) = o') (hl' : l ++ m.take (mo - l.length) = l') :
    Calls Try.prog 12 #[.pointer (some ⟨g, 0, none⟩), s] w fun e w' => ∃ v' : Value, e = .returned (.int .i64 n) ∧ sat w0 w' (PB g v' mo at_ o' :: Row v' l' :: R) := by
  subst hn ho hl'
  exact add_calls g v l mo at_ over s m R w0 w H hs h1 hl hm
set_option maxHeartbeats 800000 in
theorem small_calls (R : List Asn) (w0 w : World) (H : sat w0 w R) : Calls Try.prog 8 #[] w fun e w' => e = .returned (.bool true) ∧ sat w0 w' R := by
  have HH := Lib.hid H
  clear H
  have hz3 : mx 0 (mn 3 16384) = (3 : Nat) := by decide
  have hmo := Lib.hid hz3
  clear hz3
  go_enter Try.func8, Try.ntmps8
  go_wp2_with fail
  refine (new_calls 3 3 hmo.out R w0 w HH.out).mono ?_
  rintro e w1 ⟨g, rfl, H1⟩
  have HS := Lib.hid H1
  clear H1 hmo HH
  go_wp2_with (first | (refine BigFrame.wpList_want (by rfl) fun K' hK' => ?_; refine op_conv_bytes (by rfl) Try.underlying29 Try.underlying5 (by rfl) (HS.out.alloc _) ?_; intro w2 H2; refine hK' _ _ ?_; clear hK' K'; generalize w1.heap.size = g2 at *; have HT := Lib.hid (show sat w0 w2 (PB g (.slice none 0 0) 3 0 false :: Row (.slice none 0 0) [] :: blk g2 (.cells ([97, 98].map B8).toArray 5 (2, 3)) :: R) from H2.re 3 [1, 2, 0] [] rfl); clear H2 HS))
  refine (add_small g _ [] 3 0 false (.slice (some ⟨g2, 0, none⟩) 2 2) [97, 98] _ w0 _ [97, 98] 2 false HT.out (Rd.blk [97, 98] (by decide)) (by decide) (by decide) (by decide) rfl rfl rfl).mono ?_
  rintro e w3 ⟨v3, rfl, H3⟩
  have HS := Lib.hid H3
  clear H3 HT
  go_wp2_with (first | (go_at_call 19; refine (over_calls g _ _ _ _ _ HS.out.get.1).mono ?_; rintro e w4 ⟨rfl, rfl⟩) | (refine BigFrame.wpList_want (by rfl) fun K' hK' => ?_; refine op_conv_bytes (by rfl) Try.underlying29 Try.underlying5 (by rfl) (HS.out.alloc _) ?_; intro w5 H5; refine hK' _ _ ?_; clear hK' K'; generalize w4.heap.size = g3 at *; have HT := Lib.hid (show sat w0 w5 (PB g v3 3 0 false :: Row v3 [97, 98] :: blk g3 (.cells ([99, 100].map B8).toArray 5 (2, 3)) :: R) from H5.re 4 [1, 2, 0] [3] rfl); clear H5 HS))
  refine (add_small g _ [97, 98] 3 0 false (.slice (some ⟨g3, 0, none⟩) 2 2) [99, 100] _ w0 _ [97, 98, 99] 1 true HT.out (Rd.blk [99, 100] (by decide)) (by decide) (by decide) (by decide) rfl rfl rfl).mono ?_
  rintro e w6 ⟨v6, rfl, H6⟩
  have HS := Lib.hid (show sat w0 w6 (PB g v6 3 0 true :: Row v6 [97, 98, 99] :: R) from H6.re 3 [0, 1] [2] rfl)
  clear H6 HT
  go_wp2_with fail
  refine (next_calls g v6 [97, 98, 99] 3 0 true 2 R w0 _ HS.out (by decide) (by decide)).mono ?_
  rintro e w7 ⟨v7, rfl, H7⟩
  obtain ⟨a6, c6, rfl, _, _⟩ := Row.form H7.tail.tail
  have HT := Lib.hid (show sat w0 w7 (PB g (.slice a6 3 c6) 3 (2 : Nat) true :: Row (.slice a6 3 c6) [97, 98, 99] :: Row v7 [97, 98] :: R) from H7.re 3 [1, 2, 0] [] rfl)
  clear H7 HS
  go_wp2_with (first | (go_at_call 20; refine (left_calls g a6 3 c6 3 2 true _ HT.out.get.1 (by decide) (by decide)).mono ?_; rintro e w8 ⟨rfl, m8, rfl⟩) | (go_at_call 16; refine (back_calls g _ _ _ _ _ w0 _ (HT.out.drewN m8)).mono ?_; rintro e w9 ⟨rfl, H9⟩; have HS := Lib.hid H9; clear H9 HT))
  refine (next_calls g (.slice a6 3 c6) [97, 98, 99] 3 0 true 9 _ w0 _ HS.out (by decide) (by decide)).mono ?_
  rintro e w10 ⟨v10, rfl, H10⟩
  have HT := Lib.hid (show sat w0 w10 (PB g (.slice a6 3 c6) 3 (3 : Nat) true :: Row (.slice a6 3 c6) [97, 98, 99] :: Row v10 [97, 98, 99] :: Row v7 [97, 98] :: R) from H10.re 4 [1, 2, 0, 3] [] rfl)
  clear H10 HS
  have q1 : ((bstr [97, 98]).toList == [97, 98]) = true := by decide +kernel
  have q2 : ((bstr [97, 98, 99]).toList == [97, 98, 99]) = true := by decide +kernel
  go_wp2_with (first | (go_at_call 19; refine (over_calls g _ _ _ _ _ HT.out.get.1).mono ?_; rintro e w11 ⟨rfl, rfl⟩) | (refine BigFrame.wpList_want (by rfl) fun K' hK' => ?_; refine op_conv_str (v := v7) (by rfl) Try.underlying29 Try.underlying5 Try.underlying9 (by rfl) (Rd.row.weak.weak.weak _ HT.out) ?_; refine hK' _ _ ?_; clear hK' K') | (refine BigFrame.wpList_want (by rfl) fun K' hK' => ?_; refine op_conv_str (v := v10) (by rfl) Try.underlying29 Try.underlying5 Try.underlying9 (by rfl) (Rd.row.weak.weak _ HT.out) ?_; refine hK' _ _ ?_; clear hK' K') | (go_at_call 20; refine (left_calls g a6 3 c6 3 3 true _ HT.out.get.1 (by decide) (by decide)).mono ?_; rintro e w12 ⟨rfl, m12, rfl⟩) | (go_at_call 17; refine (bytes_calls g _ [97, 98, 99] _ _ _ _ w0 _ (HT.out.drewN m12) (by decide)).mono ?_; rintro e w13 ⟨v13, rfl, H13⟩; have HS := Lib.hid H13; clear H13 HT) | (refine BigFrame.wpList_want (by rfl) fun K' hK' => ?_; refine op_conv_str (v := v13) (by rfl) Try.underlying29 Try.underlying5 Try.underlying9 (by rfl) (Rd.row.weak.weak _ HS.out) ?_; refine hK' _ _ ?_; clear hK' K') | (go_at_call 18; refine (len_calls g _ _ _ _ _ _ _ HS.out.get.1).mono ?_; rintro e w14 ⟨rfl, rfl⟩))
  refine (next_calls g (.slice a6 3 c6) [97, 98, 99] 3 3 true (-1) _ w0 _ HS.out (by decide) (by decide)).mono ?_
  rintro e w15 ⟨v15, rfl, H15⟩
  obtain ⟨a15, c15, rfl, _, _⟩ := Row.form H15
  have HT := Lib.hid (H15.tail.tail.tail.tail.tail.tail : sat w0 w15 R)
  clear H15 HS
  go_wp2_with fail
  go_ret
  exact ⟨rfl, HT.out⟩
end Go.Proofs.Ythhomgmnmbpldaa
