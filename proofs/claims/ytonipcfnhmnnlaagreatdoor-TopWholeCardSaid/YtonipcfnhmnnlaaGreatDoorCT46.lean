/- A call is taken. -/
import Derived.Test.YtonipcfnhmnnlaaGreatDoorMOut
namespace Go.Proofs.YtonipcfnhmnnlaaGreatDoor
open Go Go.RowKit Hg
set_option linter.unusedVariables false
set_option linter.unusedSimpArgs false
attribute [local go_sem] Lib.run_eql_slice_nil run_min2 run_max2 run_min_two run_max_two
set_option maxHeartbeats 3200000 in
set_option maxRecDepth 100000 in
theorem accept_calls (p mt mc tb j : Nat) (ct ca : Int) (hct : 1 ≤ ct ∧ 1 ≤ ca) (relay : Nat) (hr : 1 ≤ relay ∧ relay ≤ 65536) (R : List Asn) (w0 w : World) (H : sat w0 w ((PX p relay ct ca mt mc (.slice none 0 0) (.slice none 0 0)) :: MapA encK mc ([] : List ((ByteArray × Int) × Value)) :: MapA Value.string mt [(tT, .pointer (some ⟨tb, 0, none⟩))] :: TN tb j 1 0 0 :: JA j :: R)) :
    Calls Tryz.prog 9 #[.pointer (some ⟨p, 0, none⟩), .string tT, .agg #[.int .u8 0, .int .u8 0, .int .u8 0, .int .u8 0, .int .u8 0, .int .u8 0, .int .u8 0, .int .u8 0, .int .u8 0, .int .u8 0, .int .u8 0, .int .u8 0, .int .u8 0, .int .u8 0, .int .u8 0, .int .u8 0, .int .i64 80]] w fun e w' => ∃ g : Nat, e = .returned (.tuple #[encK kT, .bool true]) ∧ sat w0 w' (SysG p g ⟨relay, ct, ca, [], [], true⟩ (ConnO g relay) :: R) := by
  have h : sat w0 ((w.alloc (.cells #[.int .u8 0, .int .u8 0, .int .u8 0, .int .u8 0, .int .u8 0, .int .u8 0, .int .u8 0, .int .u8 0, .int .u8 0, .int .u8 0, .int .u8 0, .int .u8 0, .int .u8 0, .int .u8 0, .int .u8 0, .int .u8 0, .int .i64 80] 40)).alloc (.cells #[.string ⟨#[]⟩, .int .i64 0] 34)) ((PX p relay ct ca mt mc (.slice none 0 0) (.slice none 0 0)) :: MapA encK mc ([] : List ((ByteArray × Int) × Value)) :: MapA Value.string mt [(tT, .pointer (some ⟨tb, 0, none⟩))] :: TN tb j 1 0 0 :: blk w.heap.size (.cells #[.int .u8 0, .int .u8 0, .int .u8 0, .int .u8 0, .int .u8 0, .int .u8 0, .int .u8 0, .int .u8 0, .int .u8 0, .int .u8 0, .int .u8 0, .int .u8 0, .int .u8 0, .int .u8 0, .int .u8 0, .int .u8 0, .int .i64 80] 40) :: blk (w.heap.size + 1) (.cells #[.string ⟨#[]⟩, .int .i64 0] 34) :: JA j :: R) := by
    have h := (H.alloc (.cells #[.int .u8 0, .int .u8 0, .int .u8 0, .int .u8 0, .int .u8 0, .int .u8 0, .int .u8 0, .int .u8 0, .int .u8 0, .int .u8 0, .int .u8 0, .int .u8 0, .int .u8 0, .int .u8 0, .int .u8 0, .int .u8 0, .int .i64 80] 40)).alloc (.cells #[.string ⟨#[]⟩, .int .i64 0] 34)
    simp only [World.size_alloc] at h
    exact h.re 7 [2, 3, 4, 5, 1, 0, 6] [] rfl
  have hd := h.drew
  have dct : decide (ct ≤ 0) = false := by simp; omega
  have dca : decide (ca ≤ 0) = false := by simp; omega
  clear hct
  have p0 : ((w.alloc (.cells #[.int .u8 0, .int .u8 0, .int .u8 0, .int .u8 0, .int .u8 0, .int .u8 0, .int .u8 0, .int .u8 0, .int .u8 0, .int .u8 0, .int .u8 0, .int .u8 0, .int .u8 0, .int .u8 0, .int .u8 0, .int .u8 0, .int .i64 80] 40)).alloc (.cells #[.string ⟨#[]⟩, .int .i64 0] 34)).cell? ⟨p, 0, none⟩ = some (.int .i64 16384) := PX.at _ _ _ _ _ _ _ _ h 0
  have p9 : ((w.alloc (.cells #[.int .u8 0, .int .u8 0, .int .u8 0, .int .u8 0, .int .u8 0, .int .u8 0, .int .u8 0, .int .u8 0, .int .u8 0, .int .u8 0, .int .u8 0, .int .u8 0, .int .u8 0, .int .u8 0, .int .u8 0, .int .u8 0, .int .i64 80] 40)).alloc (.cells #[.string ⟨#[]⟩, .int .i64 0] 34)).cell? ⟨p, 9, none⟩ = some (.map (some mt)) := PX.at _ _ _ _ _ _ _ _ h 9
  have lk : (Instr.lookup 88 (.map (some mt)) (.string tT) false).run Tryz.prog ((w.alloc (.cells #[.int .u8 0, .int .u8 0, .int .u8 0, .int .u8 0, .int .u8 0, .int .u8 0, .int .u8 0, .int .u8 0, .int .u8 0, .int .u8 0, .int .u8 0, .int .u8 0, .int .u8 0, .int .u8 0, .int .u8 0, .int .u8 0, .int .i64 80] 40)).alloc (.cells #[.string ⟨#[]⟩, .int .i64 0] 34)) = .ok (.pointer (some ⟨tb, 0, none⟩)) ((w.alloc (.cells #[.int .u8 0, .int .u8 0, .int .u8 0, .int .u8 0, .int .u8 0, .int .u8 0, .int .u8 0, .int .u8 0, .int .u8 0, .int .u8 0, .int .u8 0, .int .u8 0, .int .u8 0, .int .u8 0, .int .u8 0, .int .u8 0, .int .i64 80] 40)).alloc (.cells #[.string ⟨#[]⟩, .int .i64 0] 34)) := by
    have h := MapA.lookup (strKey Tryz.underlying9) Tryz.underlying88 (z := .pointer none) (by kernel_rfl) h.tail.tail tT false
    rw [get_tT, if_neg (by decide), Option.getD_some] at h
    exact h
  have b0 : ((w.alloc (.cells #[.int .u8 0, .int .u8 0, .int .u8 0, .int .u8 0, .int .u8 0, .int .u8 0, .int .u8 0, .int .u8 0, .int .u8 0, .int .u8 0, .int .u8 0, .int .u8 0, .int .u8 0, .int .u8 0, .int .u8 0, .int .u8 0, .int .i64 80] 40)).alloc (.cells #[.string ⟨#[]⟩, .int .i64 0] 34)).drew.cell? ⟨p, 0, none⟩ = some (.int .i64 16384) := PX.at _ _ _ _ _ _ _ _ hd 0
  have b5 : ((w.alloc (.cells #[.int .u8 0, .int .u8 0, .int .u8 0, .int .u8 0, .int .u8 0, .int .u8 0, .int .u8 0, .int .u8 0, .int .u8 0, .int .u8 0, .int .u8 0, .int .u8 0, .int .u8 0, .int .u8 0, .int .u8 0, .int .u8 0, .int .i64 80] 40)).alloc (.cells #[.string ⟨#[]⟩, .int .i64 0] 34)).drew.cell? ⟨p, 5, none⟩ = some (.int .i64 ct) := PX.at _ _ _ _ _ _ _ _ hd 5
  have b6 : ((w.alloc (.cells #[.int .u8 0, .int .u8 0, .int .u8 0, .int .u8 0, .int .u8 0, .int .u8 0, .int .u8 0, .int .u8 0, .int .u8 0, .int .u8 0, .int .u8 0, .int .u8 0, .int .u8 0, .int .u8 0, .int .u8 0, .int .u8 0, .int .i64 80] 40)).alloc (.cells #[.string ⟨#[]⟩, .int .i64 0] 34)).drew.cell? ⟨p, 6, none⟩ = some (.int .i64 ca) := PX.at _ _ _ _ _ _ _ _ hd 6
  have b8 : ((w.alloc (.cells #[.int .u8 0, .int .u8 0, .int .u8 0, .int .u8 0, .int .u8 0, .int .u8 0, .int .u8 0, .int .u8 0, .int .u8 0, .int .u8 0, .int .u8 0, .int .u8 0, .int .u8 0, .int .u8 0, .int .u8 0, .int .u8 0, .int .i64 80] 40)).alloc (.cells #[.string ⟨#[]⟩, .int .i64 0] 34)).drew.cell? ⟨p, 8, none⟩ = some (.bool false) := PX.at _ _ _ _ _ _ _ _ hd 8
  have b10 : ((w.alloc (.cells #[.int .u8 0, .int .u8 0, .int .u8 0, .int .u8 0, .int .u8 0, .int .u8 0, .int .u8 0, .int .u8 0, .int .u8 0, .int .u8 0, .int .u8 0, .int .u8 0, .int .u8 0, .int .u8 0, .int .u8 0, .int .u8 0, .int .i64 80] 40)).alloc (.cells #[.string ⟨#[]⟩, .int .i64 0] 34)).drew.cell? ⟨p, 10, none⟩ = some (.map (some mc)) := PX.at _ _ _ _ _ _ _ _ hd 10
  have t0 : ((w.alloc (.cells #[.int .u8 0, .int .u8 0, .int .u8 0, .int .u8 0, .int .u8 0, .int .u8 0, .int .u8 0, .int .u8 0, .int .u8 0, .int .u8 0, .int .u8 0, .int .u8 0, .int .u8 0, .int .u8 0, .int .u8 0, .int .u8 0, .int .i64 80] 40)).alloc (.cells #[.string ⟨#[]⟩, .int .i64 0] 34)).drew.cell? ⟨tb, 0, none⟩ = some (.pointer (some ⟨j, 0, none⟩)) := cellAt hd.tail.tail.tail.get.1 0
  have t2 : ((w.alloc (.cells #[.int .u8 0, .int .u8 0, .int .u8 0, .int .u8 0, .int .u8 0, .int .u8 0, .int .u8 0, .int .u8 0, .int .u8 0, .int .u8 0, .int .u8 0, .int .u8 0, .int .u8 0, .int .u8 0, .int .u8 0, .int .u8 0, .int .i64 80] 40)).alloc (.cells #[.string ⟨#[]⟩, .int .i64 0] 34)).drew.cell? ⟨tb, 2, none⟩ = some (.int .i64 0) := cellAt hd.tail.tail.tail.get.1 2
  have t3 : ((w.alloc (.cells #[.int .u8 0, .int .u8 0, .int .u8 0, .int .u8 0, .int .u8 0, .int .u8 0, .int .u8 0, .int .u8 0, .int .u8 0, .int .u8 0, .int .u8 0, .int .u8 0, .int .u8 0, .int .u8 0, .int .u8 0, .int .u8 0, .int .i64 80] 40)).alloc (.cells #[.string ⟨#[]⟩, .int .i64 0] 34)).drew.cell? ⟨tb, 3, none⟩ = some (.int .i64 0) := cellAt hd.tail.tail.tail.get.1 3
  have hlen : ∀ ty, (Builtin.len_ #[89] ty #[.map (some mc)]).run Tryz.prog ((w.alloc (.cells #[.int .u8 0, .int .u8 0, .int .u8 0, .int .u8 0, .int .u8 0, .int .u8 0, .int .u8 0, .int .u8 0, .int .u8 0, .int .u8 0, .int .u8 0, .int .u8 0, .int .u8 0, .int .u8 0, .int .u8 0, .int .u8 0, .int .i64 80] 40)).alloc (.cells #[.string ⟨#[]⟩, .int .i64 0] 34)).drew = .ok (.int .i64 0) ((w.alloc (.cells #[.int .u8 0, .int .u8 0, .int .u8 0, .int .u8 0, .int .u8 0, .int .u8 0, .int .u8 0, .int .u8 0, .int .u8 0, .int .u8 0, .int .u8 0, .int .u8 0, .int .u8 0, .int .u8 0, .int .u8 0, .int .u8 0, .int .i64 80] 40)).alloc (.cells #[.string ⟨#[]⟩, .int .i64 0] 34)).drew := fun ty => MapA.len Tryz.underlying89 hd.tail ty
  have HA := Lib.hid hd
  clear H h hd
  go_enter Tryz.func9, Tryz.ntmps9
  go_wp2
  refine wp_region_mix (fun u => ∃ x : World, u = x) [0, 1, 2, 3, 4, 5, 6, 7, 8, 9, 10, 11, 12, 13, 14, 15, 16, 17, 18, 19, 20, 21, 22, 23, 24, 25, 26, 27, 28, 29, 30, 31, 32] [] (by kernel_rfl) (by kernel_rfl) ⟨_, rfl⟩ ?_
  repeat (first | ((first | refine mix_a rfl (by decide +kernel) rfl (fun K hK => ?_) | refine mix_q rfl (by decide +kernel) rfl (fun K hK => ?_)); go_big_quiet_op; refine hK _ ?_; clear hK K) | (refine mix_s rfl rfl (by decide +kernel) ?_; simp only [Act.put, List.setIfInBounds_toArray, List.set_cons_zero, List.set_cons_succ]))
  refine mix_nil ?_
  go_wp2_with (first | (refine BigFrame.wpList_want (by rfl) fun K' hK' => ?_; refine op_store1 (.int .i64 1) (by rfl) (by kernel_rfl) (by rfl) (by rfl) (by rfl) (by rfl) (show sat w0 _ (TN tb j 1 0 0 :: (PX p relay ct ca mt mc (.slice none 0 0) (.slice none 0 0)) :: MapA encK mc ([] : List ((ByteArray × Int) × Value)) :: MapA Value.string mt [(tT, .pointer (some ⟨tb, 0, none⟩))] :: blk w.heap.size (.cells #[.int .u8 0, .int .u8 0, .int .u8 0, .int .u8 0, .int .u8 0, .int .u8 0, .int .u8 0, .int .u8 0, .int .u8 0, .int .u8 0, .int .u8 0, .int .u8 0, .int .u8 0, .int .u8 0, .int .u8 0, .int .u8 0, .int .i64 80] 40) :: blk (w.heap.size + 1) (.cells #[.string ⟨#[]⟩, .int .i64 0] 34) :: JA j :: R) from HA.out.pick 3 rfl) (by simp) ?_; intro w2 H2; refine hK' _ _ ?_; clear hK' K'; have h2 := (show sat w0 w2 (TN tb j 1 1 0 :: (PX p relay ct ca mt mc (.slice none 0 0) (.slice none 0 0)) :: MapA encK mc ([] : List ((ByteArray × Int) × Value)) :: MapA Value.string mt [(tT, .pointer (some ⟨tb, 0, none⟩))] :: blk w.heap.size (.cells #[.int .u8 0, .int .u8 0, .int .u8 0, .int .u8 0, .int .u8 0, .int .u8 0, .int .u8 0, .int .u8 0, .int .u8 0, .int .u8 0, .int .u8 0, .int .u8 0, .int .u8 0, .int .u8 0, .int .u8 0, .int .u8 0, .int .i64 80] 40) :: blk (w.heap.size + 1) (.cells #[.string ⟨#[]⟩, .int .i64 0] 34) :: JA j :: R) from H2); have u0 : w2.cell? ⟨tb, 0, none⟩ = some (.pointer (some ⟨j, 0, none⟩)) := cellAt h2.get.1 0; have u3 : w2.cell? ⟨tb, 3, none⟩ = some (.int .i64 0) := cellAt h2.get.1 3; have HB := Lib.hid h2; clear H2 h2 HA) | (refine BigFrame.wpList_want (by rfl) fun K' hK' => ?_; refine op_store1 (.int .i64 1) (by rfl) (by kernel_rfl) (by rfl) (by rfl) (by rfl) (by rfl) HB.out (by simp) ?_; intro w3 H3; refine hK' _ _ ?_; clear hK' K'; have h3 := (show sat w0 w3 (TN tb j 1 1 1 :: (PX p relay ct ca mt mc (.slice none 0 0) (.slice none 0 0)) :: MapA encK mc ([] : List ((ByteArray × Int) × Value)) :: MapA Value.string mt [(tT, .pointer (some ⟨tb, 0, none⟩))] :: blk w.heap.size (.cells #[.int .u8 0, .int .u8 0, .int .u8 0, .int .u8 0, .int .u8 0, .int .u8 0, .int .u8 0, .int .u8 0, .int .u8 0, .int .u8 0, .int .u8 0, .int .u8 0, .int .u8 0, .int .u8 0, .int .u8 0, .int .u8 0, .int .i64 80] 40) :: blk (w.heap.size + 1) (.cells #[.string ⟨#[]⟩, .int .i64 0] 34) :: JA j :: R) from H3); have x0 : w3.cell? ⟨tb, 0, none⟩ = some (.pointer (some ⟨j, 0, none⟩)) := cellAt h3.get.1 0; have x2 : w3.cell? ⟨tb, 2, none⟩ = some (.int .i64 1) := cellAt h3.get.1 2; have HC := Lib.hid h3; clear H3 h3 HB))
  have hd := (HC.out.alloc (.cells #[.string tT, .int .i64 1] 34)).drew
  clear p0 p9 b0 b5 b6 b8 b10 t0 t2 t3 lk hlen x0 x2 u0 u3 HC
  generalize hkb : w3.heap.size = kb at hd ⊢
  generalize hzb : w.heap.size + 1 = zb at hd ⊢
  generalize hdb : w.heap.size = db at hd ⊢
  have qd0 : (w3.alloc (.cells #[.string tT, .int .i64 1] 34)).drew.cell? ⟨db, 0, none⟩ = some (.int .u8 0) := cellAt hd.tail.tail.tail.tail.tail.get.1 0
  have qd1 : (w3.alloc (.cells #[.string tT, .int .i64 1] 34)).drew.cell? ⟨db, 1, none⟩ = some (.int .u8 0) := cellAt hd.tail.tail.tail.tail.tail.get.1 1
  have qd2 : (w3.alloc (.cells #[.string tT, .int .i64 1] 34)).drew.cell? ⟨db, 2, none⟩ = some (.int .u8 0) := cellAt hd.tail.tail.tail.tail.tail.get.1 2
  have qd3 : (w3.alloc (.cells #[.string tT, .int .i64 1] 34)).drew.cell? ⟨db, 3, none⟩ = some (.int .u8 0) := cellAt hd.tail.tail.tail.tail.tail.get.1 3
  have qd4 : (w3.alloc (.cells #[.string tT, .int .i64 1] 34)).drew.cell? ⟨db, 4, none⟩ = some (.int .u8 0) := cellAt hd.tail.tail.tail.tail.tail.get.1 4
  have qd5 : (w3.alloc (.cells #[.string tT, .int .i64 1] 34)).drew.cell? ⟨db, 5, none⟩ = some (.int .u8 0) := cellAt hd.tail.tail.tail.tail.tail.get.1 5
  have qd6 : (w3.alloc (.cells #[.string tT, .int .i64 1] 34)).drew.cell? ⟨db, 6, none⟩ = some (.int .u8 0) := cellAt hd.tail.tail.tail.tail.tail.get.1 6
  have qd7 : (w3.alloc (.cells #[.string tT, .int .i64 1] 34)).drew.cell? ⟨db, 7, none⟩ = some (.int .u8 0) := cellAt hd.tail.tail.tail.tail.tail.get.1 7
  have qd8 : (w3.alloc (.cells #[.string tT, .int .i64 1] 34)).drew.cell? ⟨db, 8, none⟩ = some (.int .u8 0) := cellAt hd.tail.tail.tail.tail.tail.get.1 8
  have qd9 : (w3.alloc (.cells #[.string tT, .int .i64 1] 34)).drew.cell? ⟨db, 9, none⟩ = some (.int .u8 0) := cellAt hd.tail.tail.tail.tail.tail.get.1 9
  have qd10 : (w3.alloc (.cells #[.string tT, .int .i64 1] 34)).drew.cell? ⟨db, 10, none⟩ = some (.int .u8 0) := cellAt hd.tail.tail.tail.tail.tail.get.1 10
  have qd11 : (w3.alloc (.cells #[.string tT, .int .i64 1] 34)).drew.cell? ⟨db, 11, none⟩ = some (.int .u8 0) := cellAt hd.tail.tail.tail.tail.tail.get.1 11
  have qd12 : (w3.alloc (.cells #[.string tT, .int .i64 1] 34)).drew.cell? ⟨db, 12, none⟩ = some (.int .u8 0) := cellAt hd.tail.tail.tail.tail.tail.get.1 12
  have qd13 : (w3.alloc (.cells #[.string tT, .int .i64 1] 34)).drew.cell? ⟨db, 13, none⟩ = some (.int .u8 0) := cellAt hd.tail.tail.tail.tail.tail.get.1 13
  have qd14 : (w3.alloc (.cells #[.string tT, .int .i64 1] 34)).drew.cell? ⟨db, 14, none⟩ = some (.int .u8 0) := cellAt hd.tail.tail.tail.tail.tail.get.1 14
  have qd15 : (w3.alloc (.cells #[.string tT, .int .i64 1] 34)).drew.cell? ⟨db, 15, none⟩ = some (.int .u8 0) := cellAt hd.tail.tail.tail.tail.tail.get.1 15
  have qd16 : (w3.alloc (.cells #[.string tT, .int .i64 1] 34)).drew.cell? ⟨db, 16, none⟩ = some (.int .i64 80) := cellAt hd.tail.tail.tail.tail.tail.get.1 16
  have qp0 : (w3.alloc (.cells #[.string tT, .int .i64 1] 34)).drew.cell? ⟨p, 0, none⟩ = some (.int .i64 16384) := PX.at _ _ _ _ _ _ _ _ hd.tail.tail 0
  have qp1 : (w3.alloc (.cells #[.string tT, .int .i64 1] 34)).drew.cell? ⟨p, 1, none⟩ = some (.int .i64 relay) := PX.at _ _ _ _ _ _ _ _ hd.tail.tail 1
  have qp2 : (w3.alloc (.cells #[.string tT, .int .i64 1] 34)).drew.cell? ⟨p, 2, none⟩ = some (.int .i64 1000) := PX.at _ _ _ _ _ _ _ _ hd.tail.tail 2
  have qp3 : (w3.alloc (.cells #[.string tT, .int .i64 1] 34)).drew.cell? ⟨p, 3, none⟩ = some (.int .i64 1000) := PX.at _ _ _ _ _ _ _ _ hd.tail.tail 3
  have qp4 : (w3.alloc (.cells #[.string tT, .int .i64 1] 34)).drew.cell? ⟨p, 4, none⟩ = some (.int .i64 1000) := PX.at _ _ _ _ _ _ _ _ hd.tail.tail 4
  have qp7 : (w3.alloc (.cells #[.string tT, .int .i64 1] 34)).drew.cell? ⟨p, 7, none⟩ = some (.int .i64 0) := PX.at _ _ _ _ _ _ _ _ hd.tail.tail 7
  have qp10 : (w3.alloc (.cells #[.string tT, .int .i64 1] 34)).drew.cell? ⟨p, 10, none⟩ = some (.map (some mc)) := PX.at _ _ _ _ _ _ _ _ hd.tail.tail 10
  have qt0 : (w3.alloc (.cells #[.string tT, .int .i64 1] 34)).drew.cell? ⟨tb, 0, none⟩ = some (.pointer (some ⟨j, 0, none⟩)) := cellAt hd.tail.get.1 0
  have HA := Lib.hid hd
  clear hd
  have HA : Hid (sat w0 (w3.alloc (.cells #[.string tT, .int .i64 1] 34)).drew (blk kb (.cells #[.string tT, .int .i64 1] 34) :: TN tb j 1 1 1 :: (PX p relay ct ca mt mc (.slice none 0 0) (.slice none 0 0)) :: MapA encK mc ([] : List ((ByteArray × Int) × Value)) :: MapA Value.string mt [(tT, .pointer (some ⟨tb, 0, none⟩))] :: blk db (.cells #[.int .u8 0, .int .u8 0, .int .u8 0, .int .u8 0, .int .u8 0, .int .u8 0, .int .u8 0, .int .u8 0, .int .u8 0, .int .u8 0, .int .u8 0, .int .u8 0, .int .u8 0, .int .u8 0, .int .u8 0, .int .u8 0, .int .i64 80] 40) :: blk zb (.cells #[.string ⟨#[]⟩, .int .i64 0] 34) :: JA j :: R)) := HA
  generalize hR : (blk kb (.cells #[.string tT, .int .i64 1] 34) :: TN tb j 1 1 1 :: (PX p relay ct ca mt mc (.slice none 0 0) (.slice none 0 0)) :: MapA encK mc ([] : List ((ByteArray × Int) × Value)) :: MapA Value.string mt [(tT, .pointer (some ⟨tb, 0, none⟩))] :: blk db (.cells #[.int .u8 0, .int .u8 0, .int .u8 0, .int .u8 0, .int .u8 0, .int .u8 0, .int .u8 0, .int .u8 0, .int .u8 0, .int .u8 0, .int .u8 0, .int .u8 0, .int .u8 0, .int .u8 0, .int .u8 0, .int .u8 0, .int .i64 80] 40) :: blk zb (.cells #[.string ⟨#[]⟩, .int .i64 0] 34) :: JA j :: R) = R2 at HA
  have zp0 : ∀ x : SW w0 R2, x.w.cell? ⟨p, 0, none⟩ = some (.int .i64 16384) := fun x => by subst hR; exact PX.at _ _ _ _ _ _ _ _ x.h.tail.tail 0
  have zp10 : ∀ x : SW w0 R2, x.w.cell? ⟨p, 10, none⟩ = some (.map (some mc)) := fun x => by subst hR; exact PX.at _ _ _ _ _ _ _ _ x.h.tail.tail 10
  have zk0 : ∀ x : SW w0 R2, x.w.cell? ⟨kb, 0, none⟩ = some (.string tT) := fun x => by subst hR; exact cellAt x.h.get.1 0
  have zk1 : ∀ x : SW w0 R2, x.w.cell? ⟨kb, 1, none⟩ = some (.int .i64 1) := fun x => by subst hR; exact cellAt x.h.get.1 1
  have zt0 : ∀ x : SW w0 R2, x.w.cell? ⟨tb, 0, none⟩ = some (.pointer (some ⟨j, 0, none⟩)) := fun x => by subst hR; exact cellAt x.h.tail.get.1 0
  have zt1 : ∀ x : SW w0 R2, x.w.cell? ⟨tb, 1, none⟩ = some (.int .i64 1) := fun x => by subst hR; exact cellAt x.h.tail.get.1 1
  have hnon : Nonempty (SW w0 R2) := ⟨⟨_, HA.out⟩⟩
  have HR := Lib.hid hR
  have HRL := Lib.hid hr
  clear hR hr
  refine wp_region_mix (fun u => ∃ x : SW w0 R2, u = x.w) [0, 1, 2, 3, 4, 5, 6, 7, 8, 9, 10, 11, 12, 13, 14, 15, 16, 17, 19, 20, 21, 22, 18, 23, 24] [0, 1, 2, 3, 4, 19, 20, 21, 22] (by kernel_rfl) (by kernel_rfl) ⟨⟨_, HA.out⟩, rfl⟩ ?_
  repeat (first | ((first | refine mix_a rfl (by decide +kernel) rfl (fun K hK => ?_) | refine mix_q rfl (by decide +kernel) rfl (fun K hK => ?_)); go_big_quiet_op; refine hK _ ?_; clear hK K) | (refine mix_s rfl rfl (by decide +kernel) ?_; simp only [Act.put, List.setIfInBounds_toArray, List.set_cons_zero, List.set_cons_succ]))
  refine mix_lC rfl rfl rfl (fun K hK => ?_)
  refine op_call rfl Tryz.func35 (by kernel_rfl) (by kernel_rfl) (connn_calls j relay HRL.out _ w0 _ HA.out) rfl ?_
  rintro r w4 ⟨g, sn, pk, u, ub, d, db2, rfl, H4⟩
  refine ⟨_, rfl, hK _ _ ⟨⟨_, satDrop (L := [_, _, _, _, _, _, _]) H4⟩, rfl⟩ ?_⟩
  have h4 : sat w0 w4 (MapA encK mc ([] : List ((ByteArray × Int) × Value)) :: blk kb (.cells #[.string tT, .int .i64 1] 34) :: TN tb j 1 1 1 :: (PX p relay ct ca mt mc (.slice none 0 0) (.slice none 0 0)) :: MapA Value.string mt [(tT, .pointer (some ⟨tb, 0, none⟩))] :: blk db (.cells #[.int .u8 0, .int .u8 0, .int .u8 0, .int .u8 0, .int .u8 0, .int .u8 0, .int .u8 0, .int .u8 0, .int .u8 0, .int .u8 0, .int .u8 0, .int .u8 0, .int .u8 0, .int .u8 0, .int .u8 0, .int .u8 0, .int .i64 80] 40) :: blk zb (.cells #[.string ⟨#[]⟩, .int .i64 0] 34) :: ConnO g relay :: R) := by
    rw [← HR.out] at H4
    have h5 := H4.re 15 [4, 6, 0, 1, 2, 3, 5, 7, 8, 9, 10, 11, 12, 13, 14] [] rfl
    have h6 := Row.bys h5 (List.length_replicate ..)
    have h7 := Row.bys h6.swap (List.length_replicate ..)
    have h8 := Row.nil h7
    have h9 := ConnO.close (g := g) (N := relay) ⟨j, sn, pk, u, ub, d, db2⟩ (h8.re 16 [3, 4, 5, 0, 15, 6, 2, 7, 1, 11, 8, 9, 10, 12, 13, 14] [] rfl)
    exact h9.re 8 [1, 2, 3, 4, 5, 6, 7, 0] [] rfl
  have HB := Lib.hid h4
  clear hK K H4 HA h4
  simp only [Act.put, List.setIfInBounds_toArray, List.set_cons_zero, List.set_cons_succ]
  repeat (first | ((first | refine mix_a rfl (by decide +kernel) rfl (fun K hK => ?_) | refine mix_q rfl (by decide +kernel) rfl (fun K hK => ?_)); go_big_quiet_op; refine hK _ ?_; clear hK K) | (refine mix_s rfl rfl (by decide +kernel) ?_; simp only [Act.put, List.setIfInBounds_toArray, List.set_cons_zero, List.set_cons_succ]))
  refine mix_l rfl (by decide +kernel) rfl (fun K hK => ?_)
  refine op_mapUpdate keyK (k := kT) (v := lv g) rfl Tryz.underlying89 rfl rfl rfl HB.out ?_
  intro w5 H5
  have h5 : sat w0 w5 (blk zb (.cells #[.string ⟨#[]⟩, .int .i64 0] 34) :: blk kb (.cells #[.string tT, .int .i64 1] 34) :: (PX p relay ct ca mt mc (.slice none 0 0) (.slice none 0 0)) :: MapA encK mc [(kT, lv g)] :: MapA Value.string mt [(tT, .pointer (some ⟨tb, 0, none⟩))] :: TN tb j 1 1 1 :: ConnO g relay :: R) := H5.re 8 [6, 1, 3, 0, 4, 2, 7] [5] rfl
  have k0 : w5.cell? ⟨kb, 0, none⟩ = some (.string tT) := cellAt h5.tail.get.1 0
  have k1 : w5.cell? ⟨kb, 1, none⟩ = some (.int .i64 1) := cellAt h5.tail.get.1 1
  have HD := Lib.hid h5
  clear H5 h5 HB
  refine hK _ _ ?_; clear hK K; (try simp only [Act.put, List.setIfInBounds_toArray, List.set_cons_zero, List.set_cons_succ])
  repeat (first | ((first | refine mix_a rfl (by decide +kernel) rfl (fun K hK => ?_) | refine mix_q rfl (by decide +kernel) rfl (fun K hK => ?_)); go_big_quiet_op; refine hK _ ?_; clear hK K) | (refine mix_s rfl rfl (by decide +kernel) ?_; simp only [Act.put, List.setIfInBounds_toArray, List.set_cons_zero, List.set_cons_succ]))
  refine mix_nil ?_
  go_wp2_with (refine BigFrame.wpList_want (by rfl) fun K' hK' => ?_; refine op_store (vs := [.string tT, .int .i64 1]) (by rfl) (by kernel_rfl) (by rfl) (by rfl) (by rfl) (by intro u hu; simp only [List.mem_cons, List.not_mem_nil, or_false] at hu; rcases hu with rfl | rfl <;> rfl) HD.out (Nat.le_refl _) ?_; intro w6 H6; refine hK' _ _ ?_; clear hK' K'; have hg : w6.heap[zb]? = some (.cells #[.string tT, .int .i64 1] 34) := H6.get.1; have HE := Lib.hid H6; clear H6)
  refine bodyPost_ret (results_row_tmp rfl _ _ zb 34 #[.string tT, .int .i64 1] (0, 0) _ rfl hg rfl Tryz.underlying34 (by kernel_rfl)) rfl ?_
  refine ⟨g, rfl, ?_⟩
  have h := RowC.nil (RowC.nil HE.out 51 5) 60 8
  exact sat.ex (P := fun x : PI => many (SysLG p g ⟨relay, ct, ca, [], [], true⟩ (ConnO g relay) x)) ({ mt := mt, mc := mc, lg := .slice none 0 0, au := .slice none 0 0, tb := tb, j := j } : PI) (sat.many (l := SysLG p g ⟨relay, ct, ca, [], [], true⟩ (ConnO g relay) { mt := mt, mc := mc, lg := .slice none 0 0, au := .slice none 0 0, tb := tb, j := j }) (h.re 9 [4, 5, 1, 0, 6, 7, 8] [2, 3] rfl))
end Go.Proofs.YtonipcfnhmnnlaaGreatDoor
