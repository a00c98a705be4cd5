/- Layer 7 over layer 1: bytes behind their number in two bytes. No condition. -/
import Derived.Test.YtaigboapaedcgaaRec2
import Derived.Test.YtaigboapaedcgaaOps3
namespace Go.Proofs.Ytaigboapaedcgaa
open Go Go.RowKit Hg
set_option linter.unusedVariables false
set_option linter.unusedSimpArgs false
attribute [local go_sem] Lib.run_eql_slice_nil run_min2 run_max2 run_min_two run_max_two
theorem clamp_calls (w : World) : Calls Try.prog 23 #[.int .i64 2] w fun r w' => r = .returned (.int .i64 2) ∧ w' = w := by
  have h : mn (mx 2 1) 4 = 2 := by decide
  go_enter Try.func23, Try.ntmps23
  go_wp2
  go_ret
  exact ⟨rfl, rfl⟩
/-- A number in two bytes. -/
def be16 (n : Nat) : List UInt8 := [UInt8.ofNat (n / 256), UInt8.ofNat n]
set_option maxHeartbeats 800000 in
theorem put_calls (v : Value) (l : List UInt8) (n : Nat) (R : List Asn) (w0 w : World) (H : sat w0 w R) (hv : Rd w0 R v l) (hl : l.length ≤ 100000000) (hn : n ≤ 65535) :
    Calls Try.prog 24 #[v, .int .i64 n, .int .i64 2] w fun r w' => ∃ v', r = .returned v' ∧ sat w0 w' (Row v' (l ++ be16 n) :: R) := by
  obtain ⟨a, c, rfl, _, _⟩ := (hv w H).form
  have HH := Lib.hid H
  have HV := Lib.hid hv
  clear H hv
  go_enter Try.func24, Try.ntmps24
  go_wp2_with (first | (go_at_call 23; refine (clamp_calls _).mono ?_; rintro r w1 ⟨rfl, rfl⟩) | (refine BigFrame.wpList_want (by rfl) fun K' hK' => ?_; refine op_make_bytes (n := l.length) (c := l.length + 4) (by rfl) Try.underlying22 info5 (by rfl) (by rfl) (by omega) (by omega) (by omega) HH.out ?_; intro g1 w1 H1; refine hK' _ _ ?_; clear hK' K'; have HX := Lib.hid H1; clear H1) | (refine BigFrame.wpList_want (by rfl) fun K' hK' => ?_; refine op_copy_bytes (m := l) (y := .slice a l.length c) (by rfl) Try.underlying22 info5 (by rfl) (by rfl) HX.out (HV.out _ HX.out.tail) (by simp) ?_; intro w2 H2; refine hK' _ _ ?_; clear hK' K'; have HY := Lib.hid H2; clear H2 HX))
  obtain ⟨b1, hb1⟩ : ∃ b1, b1 = UInt8.ofNat (n / 256) := ⟨_, rfl⟩
  obtain ⟨b0, hb0⟩ : ∃ b0, b0 = UInt8.ofNat n := ⟨_, rfl⟩
  have e1 : (n : Int) / 256 = b1.toNat := by rw [hb1, UInt8.toNat_ofNat']; omega
  have e0 : (n : Int) % 256 = b0.toNat := by rw [hb0, UInt8.toNat_ofNat']; omega
  have HBE := Lib.hid (show be16 n = [b1, b0] by rw [be16, ← hb1, ← hb0])
  clear hb1 hb0
  go_loopw [7, 8] (fun out sh wr => (sh = .int .i64 8 ∧ sat w0 wr (Row out l :: R)) ∨ (sh = .int .i64 0 ∧ sat w0 wr (Row out (l ++ [b1]) :: R)) ∨ (sh = .int .i64 (-8) ∧ sat w0 wr (Row out (l ++ [b1, b0]) :: R))) (fun _ sh _ => (intOf sh + 8).toNat)
  case atStart => exact .inl ⟨rfl, HY.out⟩
  case round =>
    rcases hrel with ⟨rfl, HS⟩ | ⟨rfl, HS⟩ | ⟨rfl, HS⟩
    · have HB := Lib.hid HS
      clear HS HY
      go_wp2_with (refine BigFrame.wpList_want (by rfl) fun K' hK' => ?_; refine op_append_bytes (l := l) (m := [b1]) (y := .slice (some ⟨wr.heap.size, 0, none⟩) 1 1) (by rfl) Try.underlying22 info5 (by rfl) (by rfl) ((HB.out.alloc (.cells ([b1].map B8).toArray 5)).swap) (Rd.blk [b1] (show (1 : Nat) ≤ maxLen by decide) _ (HB.out.alloc _)) (by simp; omega) ?_; intro v5 w5 H5 _; refine hK' _ _ ?_; clear hK' K'; have HC := Lib.hid (show sat w0 w5 (Row v5 (l ++ [b1]) :: R) from H5.re 2 [0] [1] rfl); clear H5 HB)
      go_roundw
      case rel => exact .inr (.inl ⟨rfl, HC.out⟩)
      case measure => simp [intOf]
    · have HB := Lib.hid HS
      clear HS HY
      go_wp2_with (refine BigFrame.wpList_want (by rfl) fun K' hK' => ?_; refine op_append_bytes (l := l ++ [b1]) (m := [b0]) (y := .slice (some ⟨wr.heap.size, 0, none⟩) 1 1) (by rfl) Try.underlying22 info5 (by rfl) (by rfl) ((HB.out.alloc (.cells ([b0].map B8).toArray 5)).swap) (Rd.blk [b0] (show (1 : Nat) ≤ maxLen by decide) _ (HB.out.alloc _)) (by simp; omega) ?_; intro v5 w5 H5 _; refine hK' _ _ ?_; clear hK' K'; have HC := Lib.hid (show sat w0 w5 (Row v5 (l ++ [b1, b0]) :: R) from by rw [show l ++ [b1, b0] = (l ++ [b1]) ++ [b0] by simp]; exact H5.re 2 [0] [1] rfl); clear H5 HB)
      go_roundw
      case rel => exact .inr (.inr ⟨rfl, HC.out⟩)
      case measure => simp [intOf]
    · have HB := Lib.hid HS
      clear HS HY
      go_wp2
      go_ret
      exact ⟨_, rfl, by rw [HBE.out]; exact HB.out⟩
set_option maxHeartbeats 800000 in
theorem vec_calls (v x : Value) (l m : List UInt8) (R : List Asn) (w0 w : World) (H : sat w0 w R) (hv : Rd w0 R v l) (hx : Rd w0 R x m) (hl : l.length ≤ 100000000) (hm : m.length ≤ 65535) :
    Calls Try.prog 21 #[v, .int .i64 2, x] w fun r w' => ∃ v', r = .returned (.tuple #[v', .bool true]) ∧ sat w0 w' (Row v' (l ++ be16 m.length ++ m) :: R) := by
  obtain ⟨a, c, rfl, _, _⟩ := (hv w H).form
  obtain ⟨a', c', rfl, _, _⟩ := (hx w H).form
  have HH := Lib.hid H
  have HV := Lib.hid hv
  have HX := Lib.hid hx
  have d1 : ((m.length : Int) / 65536 != 0) = false := by simp; omega
  have hbl : (be16 m.length).length = 2 := rfl
  clear H hv hx
  go_enter Try.func21, Try.ntmps21
  go_wp2_with (first | (go_at_call 23; refine (clamp_calls _).mono ?_; rintro r w1 ⟨rfl, rfl⟩) | (go_at_call 24; refine (put_calls _ l m.length R w0 _ HH.out HV.out hl hm).mono ?_; rintro r w2 ⟨v2, rfl, H2⟩; have HY := Lib.hid H2; clear H2) | (refine BigFrame.wpList_want (by rfl) fun K' hK' => ?_; refine op_append_bytes (v := v2) (m := m) (y := .slice a' m.length c') (by rfl) Try.underlying22 info5 (by rfl) (by rfl) HY.out (HX.out _ HY.out.tail) (by simp only [List.length_append]; omega) ?_; intro v5 w5 H5 _; refine hK' _ _ ?_; clear hK' K'; have HC := Lib.hid H5; clear H5 HY))
  go_ret2
  exact ⟨_, rfl, HC.out⟩
end Go.Proofs.Ytaigboapaedcgaa
