/- No address: the one name. -/
import Derived.Test.YtonipcfnhmnnlaaGreatDoorMText
namespace Go.Proofs.YtonipcfnhmnnlaaGreatDoor
open Go Go.RowKit Hg
set_option linter.unusedVariables false
set_option linter.unusedSimpArgs false
attribute [local go_sem] Lib.run_eql_slice_nil run_min2 run_max2 run_min_two run_max_two
def sA : ByteArray := ⟨#[97]⟩
def sB : ByteArray := ⟨#[98]⟩
def hexs : ByteArray := ⟨#[48, 49, 50, 51, 52, 53, 54, 55, 56, 57, 97, 98, 99, 100, 101, 102]⟩
set_option maxHeartbeats 1600000 in
set_option maxRecDepth 100000 in
theorem hex_calls (R : List Asn) (w0 w : World) (H : sat w0 w R) :
    Calls Tryz.prog 208 #[.string sAB] w fun e w' => e = .returned (.tuple #[.int .i64 0, .bool false]) ∧ sat w0 w' R := by
  have HH := Lib.hid (H.alloc (.stringIter sAB 0))
  have HS1 := Lib.hid (small_calls 97)
  have HS2 := Lib.hid (small_calls 46)
  rw [show (lowB 97).toNat = 97 by decide, show (97 : UInt8).toNat = 97 by decide] at HS1
  rw [show (lowB 46).toNat = 46 by decide, show (46 : UInt8).toNat = 46 by decide] at HS2
  have m1 : mn 97 127 = 97 := by decide
  have m2 : mn 46 127 = 46 := by decide
  clear H
  go_enter Tryz.func208, Tryz.ntmps208
  go_wp2
  generalize hit : w.heap.size = it at *
  have HI : Hid (sat w0 (w.iter sAB 0) (blk it (.stringIter sAB 0) :: R)) := HH
  generalize w.iter sAB 0 = W0 at *
  go_loopw [4] (fun n wr => (n = .int .i64 0 ∧ sat w0 wr (blk it (.stringIter sAB 0) :: R)) ∨ (n = .int .i64 10 ∧ sat w0 wr (blk it (.stringIter sAB 1) :: R))) (fun _ wr => 3 - wr.iterPos it)
  case atStart => exact .inl ⟨rfl, HI.out⟩
  case round =>
    rcases hrel with ⟨rfl, HS⟩ | ⟨rfl, HS⟩
    · have hmu : wr.iterPos it = 0 := by simp [World.iterPos, HS.get.1]
      have hnext : ∀ ty, (Instr.next (.pointer (some ⟨it, 0, none⟩)) true ty).run Tryz.prog wr = _ := fun ty => Lib.run_next_any_at wr it sAB 0 ty HS.get.1 (by decide)
      rw [show Utf8.decode sAB 0 = (97, 1) by decide +kernel] at hnext
      have H1 : sat w0 (wr.iterAt it sAB (0 + 1)) (blk it (.stringIter sAB 1) :: R) :=
        HS.put rfl rfl rfl (by simp [World.iterAt]) (Lib.iterAt_heap wr it sAB 0 _ HS.get.1) fun b _ hne => by simp [World.iterAt, Ne.symm hne]
      have HA := Lib.hid H1
      clear H1 HS HI HH
      dsimp only at hnext
      generalize wr.iterAt it sAB (0 + 1) = W1 at *
      go_wp2_with (first | (go_at_call 221; refine (HS1.out _).mono ?_; rintro e w2 ⟨rfl, rfl⟩) | (go_at_call 238; refine (Tryz.strings_IndexRune_ascii _ _ _ (by decide) (by decide)).mono ?_; rintro e w3 ⟨rfl, rfl⟩))
      exact ⟨.inr ⟨congrArg (Value.int .i64) (by decide +kernel), HA.out⟩, by rw [hmu, show w3.iterPos it = 1 by simp [World.iterPos, HA.out.get.1]]; decide⟩
    · have hnext : ∀ ty, (Instr.next (.pointer (some ⟨it, 0, none⟩)) true ty).run Tryz.prog wr = _ := fun ty => Lib.run_next_any_at wr it sAB 1 ty HS.get.1 (by decide)
      rw [show Utf8.decode sAB 1 = (46, 1) by decide +kernel] at hnext
      have H1 : sat w0 (wr.iterAt it sAB (1 + 1)) (blk it (.stringIter sAB 2) :: R) :=
        HS.put rfl rfl rfl (by simp [World.iterAt]) (Lib.iterAt_heap wr it sAB 1 _ HS.get.1) fun b _ hne => by simp [World.iterAt, Ne.symm hne]
      have HA := Lib.hid H1
      clear H1 HS HI HH
      dsimp only at hnext
      generalize wr.iterAt it sAB (1 + 1) = W1 at *
      have hix : Lib.indexByte [48, 49, 50, 51, 52, 53, 54, 55, 56, 57, 97, 98, 99, 100, 101, 102] 46 = -1 := by decide +kernel
      go_wp2_with (first | (go_at_call 221; refine (HS2.out _).mono ?_; rintro e w2 ⟨rfl, rfl⟩) | (go_at_call 238; refine (Tryz.strings_IndexRune_ascii _ _ _ (by decide) (by decide)).mono ?_; rintro e w3 ⟨rfl, rfl⟩))
      go_ret2
      exact ⟨rfl, HA.out.tail⟩
set_option maxHeartbeats 1600000 in
set_option maxRecDepth 100000 in
theorem dotted_calls (R : List Asn) (w0 w : World) (hm : MaxL w0) (H : sat w0 w R) :
    Calls Tryz.prog 163 #[.string sAB] w fun e w' => e = .returned (.tuple #[.agg #[.int .u8 0, .int .u8 0, .int .u8 0, .int .u8 0], .bool false]) ∧ sat w0 w' R := by
  have h := (H.alloc (.cells #[.int .u8 0, .int .u8 0, .int .u8 0, .int .u8 0] 263)).alloc (.cells #[.int .u8 0, .int .u8 0, .int .u8 0, .int .u8 0] 263)
  simp only [World.size_alloc] at h
  have HS := Lib.hid (split_sat sAB ⟨#[46]⟩ [sA, sB] 2 (by decide +kernel) (by decide +kernel) (by decide) (by decide) _ w0 _ hm h)
  clear H h hm
  go_enter Tryz.func163, Tryz.ntmps163
  go_wp2_with (first | (go_at_call 62; refine HS.out.mono ?_; rintro e w1 ⟨b, rfl, H1⟩; have h4 := H1.tail.get.1; have a0 : w1.cell? ⟨w.heap.size + 1, 0, none⟩ = some (.int .u8 0) := cellAt h4 0; have a1 : w1.cell? ⟨w.heap.size + 1, 1, none⟩ = some (.int .u8 0) := cellAt h4 1; have a2 : w1.cell? ⟨w.heap.size + 1, 2, none⟩ = some (.int .u8 0) := cellAt h4 2; have a3 : w1.cell? ⟨w.heap.size + 1, 3, none⟩ = some (.int .u8 0) := cellAt h4 3; clear h4; have HA := Lib.hid (H1.re 3 [2] [0, 1] rfl); clear H1) | (refine BigFrame.wpList_want (by rfl) fun K' hK' => ?_; refine op_store (vs := [.int .u8 0, .int .u8 0, .int .u8 0, .int .u8 0]) (by rfl) (by kernel_rfl) (by rfl) (by rfl) (by rfl) (by decide) HA.out (Nat.le_refl _) ?_; intro w6 H6; refine hK' _ _ ?_; clear hK' K'; have hg : w6.heap[w.heap.size]? = some (.cells #[.int .u8 0, .int .u8 0, .int .u8 0, .int .u8 0] 263) := H6.get.1; have HI := Lib.hid H6.tail; clear H6))
  refine bodyPost_ret (results_row_tmp rfl _ _ w.heap.size 263 #[.int .u8 0, .int .u8 0, .int .u8 0, .int .u8 0] (0, 0) _ rfl hg rfl Tryz.underlying263 (by kernel_rfl)) rfl ?_
  exact ⟨rfl, HI.out⟩
set_option maxHeartbeats 1600000 in
set_option maxRecDepth 100000 in
theorem read_calls (R : List Asn) (w0 w : World) (hm : MaxL w0) (H : sat w0 w R) :
    Calls Tryz.prog 166 #[.string sAB, .bool true] w fun e w' => e = .returned (.tuple #[.slice none 0 0, .bool false]) ∧ sat w0 w' R := by
  have HS := Lib.hid (split_sat sAB ⟨#[58]⟩ [sAB] 1 (by decide +kernel) (by decide +kernel) (by decide) (by decide) R w0 w hm H)
  have HM := Lib.hid hm
  have e1 : sAB.toList.isEmpty = false := by decide +kernel
  clear H hm
  go_enter Tryz.func166, Tryz.ntmps166
  go_wp2_with (go_at_call 62; refine HS.out.mono ?_; rintro e w1 ⟨b, rfl, H1⟩; have HA := Lib.hid H1; clear H1)
  go_loopw [20] (fun i wr => i = .int .i64 0 ∧ sat w0 wr (Strs b [sAB] :: R)) (fun _ _ => 0)
  case atStart => exact ⟨rfl, HA.out⟩
  case round =>
    obtain ⟨rfl, HW⟩ := hrel
    have HB := Lib.hid HW
    have c0 : wr.cell? ⟨b, 0, none⟩ = some (.string sAB) := Strs.cell HW 0 (by decide)
    clear HW HA
    go_wp2_with (first | (go_at_call 208; refine (hex_calls _ w0 _ HB.out).mono ?_; rintro e w2 ⟨rfl, H2⟩; have HC := Lib.hid H2; clear H2) | (go_at_call 163; refine (dotted_calls _ w0 _ HM.out HC.out).mono ?_; rintro e w3 ⟨rfl, H3⟩; have HD := Lib.hid H3; clear H3))
    go_ret2
    exact ⟨rfl, (HD.out.alloc _).tail.tail⟩
set_option maxHeartbeats 3200000 in
set_option maxRecDepth 100000 in
theorem addr_calls (R : List Asn) (w0 w : World) (hm : MaxL w0) (H : sat w0 w R) :
    Calls Tryz.prog 132 #[.string sAB] w fun e w' => e = .returned (.tuple #[.agg #[.int .u8 0, .int .u8 0, .int .u8 0, .int .u8 0, .int .u8 0, .int .u8 0, .int .u8 0, .int .u8 0, .int .u8 0, .int .u8 0, .int .u8 0, .int .u8 0, .int .u8 0, .int .u8 0, .int .u8 0, .int .u8 0], .bool false]) ∧ sat w0 w' R := by
  have HM := Lib.hid hm
  have HH := Lib.hid (H.alloc (.cells #[.int .u8 0, .int .u8 0, .int .u8 0, .int .u8 0, .int .u8 0, .int .u8 0, .int .u8 0, .int .u8 0, .int .u8 0, .int .u8 0, .int .u8 0, .int .u8 0, .int .u8 0, .int .u8 0, .int .u8 0, .int .u8 0] 38))
  have HC := Lib.hid (cut_sat sAB ⟨#[58, 58]⟩ sAB ⟨#[]⟩ false (by decide +kernel) (by decide))
  clear H hm
  go_enter Tryz.func132, Tryz.ntmps132
  go_wp2_with (first | (go_at_call 163; refine (dotted_calls _ w0 _ HM.out HH.out).mono ?_; rintro e w1 ⟨rfl, H1⟩; have HA := Lib.hid (show sat w0 ((w1.alloc (.cells #[.int .u8 0, .int .u8 0, .int .u8 0, .int .u8 0] 263)).alloc (.cells #[.int .u8 0, .int .u8 0, .int .u8 0, .int .u8 0, .int .u8 0, .int .u8 0, .int .u8 0, .int .u8 0, .int .u8 0, .int .u8 0, .int .u8 0, .int .u8 0, .int .u8 0, .int .u8 0, .int .u8 0, .int .u8 0] 38)) (blk (w1.heap.size + 1) (.cells #[.int .u8 0, .int .u8 0, .int .u8 0, .int .u8 0, .int .u8 0, .int .u8 0, .int .u8 0, .int .u8 0, .int .u8 0, .int .u8 0, .int .u8 0, .int .u8 0, .int .u8 0, .int .u8 0, .int .u8 0, .int .u8 0] 38) :: blk w1.heap.size (.cells #[.int .u8 0, .int .u8 0, .int .u8 0, .int .u8 0] 263) :: blk w.heap.size (.cells #[.int .u8 0, .int .u8 0, .int .u8 0, .int .u8 0, .int .u8 0, .int .u8 0, .int .u8 0, .int .u8 0, .int .u8 0, .int .u8 0, .int .u8 0, .int .u8 0, .int .u8 0, .int .u8 0, .int .u8 0, .int .u8 0] 38) :: R) by have h := (H1.alloc (.cells #[.int .u8 0, .int .u8 0, .int .u8 0, .int .u8 0] 263)).alloc (.cells #[.int .u8 0, .int .u8 0, .int .u8 0, .int .u8 0, .int .u8 0, .int .u8 0, .int .u8 0, .int .u8 0, .int .u8 0, .int .u8 0, .int .u8 0, .int .u8 0, .int .u8 0, .int .u8 0, .int .u8 0, .int .u8 0] 38); simp only [World.size_alloc] at h; exact h); clear H1) | (go_at_call 165; refine (HC.out _ w0 _ HM.out HA.out).mono ?_; rintro e w2 ⟨rfl, H2⟩; have HB := Lib.hid H2; clear H2) | (go_at_call 166; refine (read_calls _ w0 _ HM.out HB.out).mono ?_; rintro e w3 ⟨rfl, H3⟩; have a0 : w3.cell? ⟨w1.heap.size + 1, 0, none⟩ = some (.int .u8 0) := cellAt H3.get.1 0; have a1 : w3.cell? ⟨w1.heap.size + 1, 1, none⟩ = some (.int .u8 0) := cellAt H3.get.1 1; have a2 : w3.cell? ⟨w1.heap.size + 1, 2, none⟩ = some (.int .u8 0) := cellAt H3.get.1 2; have a3 : w3.cell? ⟨w1.heap.size + 1, 3, none⟩ = some (.int .u8 0) := cellAt H3.get.1 3; have a4 : w3.cell? ⟨w1.heap.size + 1, 4, none⟩ = some (.int .u8 0) := cellAt H3.get.1 4; have a5 : w3.cell? ⟨w1.heap.size + 1, 5, none⟩ = some (.int .u8 0) := cellAt H3.get.1 5; have a6 : w3.cell? ⟨w1.heap.size + 1, 6, none⟩ = some (.int .u8 0) := cellAt H3.get.1 6; have a7 : w3.cell? ⟨w1.heap.size + 1, 7, none⟩ = some (.int .u8 0) := cellAt H3.get.1 7; have a8 : w3.cell? ⟨w1.heap.size + 1, 8, none⟩ = some (.int .u8 0) := cellAt H3.get.1 8; have a9 : w3.cell? ⟨w1.heap.size + 1, 9, none⟩ = some (.int .u8 0) := cellAt H3.get.1 9; have a10 : w3.cell? ⟨w1.heap.size + 1, 10, none⟩ = some (.int .u8 0) := cellAt H3.get.1 10; have a11 : w3.cell? ⟨w1.heap.size + 1, 11, none⟩ = some (.int .u8 0) := cellAt H3.get.1 11; have a12 : w3.cell? ⟨w1.heap.size + 1, 12, none⟩ = some (.int .u8 0) := cellAt H3.get.1 12; have a13 : w3.cell? ⟨w1.heap.size + 1, 13, none⟩ = some (.int .u8 0) := cellAt H3.get.1 13; have a14 : w3.cell? ⟨w1.heap.size + 1, 14, none⟩ = some (.int .u8 0) := cellAt H3.get.1 14; have a15 : w3.cell? ⟨w1.heap.size + 1, 15, none⟩ = some (.int .u8 0) := cellAt H3.get.1 15; have HD := Lib.hid (H3.re 3 [2] [0, 1] rfl); clear H3) | (refine BigFrame.wpList_want (by rfl) fun K' hK' => ?_; refine op_store (vs := [.int .u8 0, .int .u8 0, .int .u8 0, .int .u8 0, .int .u8 0, .int .u8 0, .int .u8 0, .int .u8 0, .int .u8 0, .int .u8 0, .int .u8 0, .int .u8 0, .int .u8 0, .int .u8 0, .int .u8 0, .int .u8 0]) (by rfl) (by kernel_rfl) (by rfl) (by rfl) (by rfl) (by decide) HD.out (Nat.le_refl _) ?_; intro w6 H6; refine hK' _ _ ?_; clear hK' K'; have hg : w6.heap[w.heap.size]? = some (.cells #[.int .u8 0, .int .u8 0, .int .u8 0, .int .u8 0, .int .u8 0, .int .u8 0, .int .u8 0, .int .u8 0, .int .u8 0, .int .u8 0, .int .u8 0, .int .u8 0, .int .u8 0, .int .u8 0, .int .u8 0, .int .u8 0] 38) := H6.get.1; have HI := Lib.hid H6.tail; clear H6))
  refine bodyPost_ret (results_row_tmp rfl _ _ w.heap.size 38 #[.int .u8 0, .int .u8 0, .int .u8 0, .int .u8 0, .int .u8 0, .int .u8 0, .int .u8 0, .int .u8 0, .int .u8 0, .int .u8 0, .int .u8 0, .int .u8 0, .int .u8 0, .int .u8 0, .int .u8 0, .int .u8 0] (0, 0) _ rfl hg rfl Tryz.underlying38 (by kernel_rfl)) rfl ?_
  exact ⟨rfl, HI.out⟩
end Go.Proofs.YtonipcfnhmnnlaaGreatDoor
