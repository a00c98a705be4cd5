/- What the sniffer knows; the sniffer at a whole head. -/
import Derived.Test.YtonipcfnhmnnlaaGreatDoorCT29
import Derived.Test.YtonipcfnhmnnlaaGreatDoorCT18
namespace Go.Proofs.YtonipcfnhmnnlaaGreatDoor
open Go Go.RowKit Hg
set_option linter.unusedVariables false
set_option linter.unusedSimpArgs false
attribute [local go_sem] Lib.run_eql_slice_nil run_min2 run_max2 run_min_two run_max_two
set_option maxRecDepth 100000 in
theorem now_calls (g : Nat) (i : Value) (R : List Asn) (w0 w : World) (H : sat w0 w (SN g i (vK 29) :: R)) :
    Calls Tryz.prog 95 #[.pointer (some ⟨g, 0, none⟩)] w fun e w' => e = .returned (.agg (vK 29)) ∧ sat w0 w' (SN g i (vK 29) :: R) := by
  have HH := Lib.hid H
  have c35 : ∀ o, (w.alloc o).cell? ⟨g, 2, none⟩ = some (.int .i64 1) := fun o => SN.at g i (vK 29) (H.alloc o).tail 2
  have c36 : ∀ o, (w.alloc o).cell? ⟨g, 3, none⟩ = some (.int .i64 2) := fun o => SN.at g i (vK 29) (H.alloc o).tail 3
  have c37 : ∀ o, (w.alloc o).cell? ⟨g, 4, none⟩ = some (.int .i64 29) := fun o => SN.at g i (vK 29) (H.alloc o).tail 4
  have c38 : ∀ o, (w.alloc o).cell? ⟨g, 5, none⟩ = some (.int .i64 0) := fun o => SN.at g i (vK 29) (H.alloc o).tail 5
  have c39 : ∀ o, (w.alloc o).cell? ⟨g, 6, none⟩ = some (.string sAB) := fun o => SN.at g i (vK 29) (H.alloc o).tail 6
  have c40 : ∀ o, (w.alloc o).cell? ⟨g, 7, none⟩ = some (.int .i64 0) := fun o => SN.at g i (vK 29) (H.alloc o).tail 7
  have c41 : ∀ o, (w.alloc o).cell? ⟨g, 8, none⟩ = some (.bool false) := fun o => SN.at g i (vK 29) (H.alloc o).tail 8
  have c42 : ∀ o, (w.alloc o).cell? ⟨g, 9, none⟩ = some (.string ⟨#[]⟩) := fun o => SN.at g i (vK 29) (H.alloc o).tail 9
  have c43 : ∀ o, (w.alloc o).cell? ⟨g, 10, none⟩ = some (.slice none 0 0) := fun o => SN.at g i (vK 29) (H.alloc o).tail 10
  have c44 : ∀ o, (w.alloc o).cell? ⟨g, 11, none⟩ = some (.slice none 0 0) := fun o => SN.at g i (vK 29) (H.alloc o).tail 11
  have c45 : ∀ o, (w.alloc o).cell? ⟨g, 12, none⟩ = some (.bool false) := fun o => SN.at g i (vK 29) (H.alloc o).tail 12
  clear H
  go_enter Tryz.func95, Tryz.ntmps95
  go_wp2
  clear c35 c36 c37 c38 c39 c40 c41 c42 c43 c44 c45
  have h := (HH.out.alloc (.cells #[.int .i64 0, .int .i64 0, .int .i64 0, .int .i64 0, .string ⟨#[]⟩, .int .i64 0, .bool false, .string ⟨#[]⟩, .slice none 0 0, .slice none 0 0, .bool false] 83)).alloc (.cells (vK 29) 83)
  simp only [World.size_alloc] at h
  have HB := Lib.hid h.drew
  clear h
  generalize hvb : w.heap.size + 1 = vb at HB ⊢
  generalize hR : (blk vb _ :: blk w.heap.size _ :: SN g i (vK 29) :: R) = R2 at HB
  have q8 : ∀ x : SW w0 R2, x.w.cell? ⟨vb, 8, none⟩ = some (.slice none 0 0) := fun x => by subst hR; exact cellAt x.h.get.1 8
  have q9 : ∀ x : SW w0 R2, x.w.cell? ⟨vb, 9, none⟩ = some (.slice none 0 0) := fun x => by subst hR; exact cellAt x.h.get.1 9
  have c8 := q8 ⟨_, HB.out⟩
  have c9 := q9 ⟨_, HB.out⟩
  dsimp only at c8 c9
  have hnon : Nonempty (SW w0 R2) := ⟨⟨_, HB.out⟩⟩
  refine wp_region_mix (fun u => ∃ x : SW w0 R2, u = x.w) [0, 1, 2, 4, 5, 6, 3, 8, 9, 7, 10, 11, 12, 13] [4, 5, 6, 8, 9] (by kernel_rfl) (by kernel_rfl) ⟨⟨_, HB.out⟩, rfl⟩ ?_
  repeat (first | ((first | refine mix_a rfl (by decide +kernel) rfl (fun K hK => ?_) | refine mix_q rfl (by decide +kernel) rfl (fun K hK => ?_)); go_big_quiet_op; refine hK _ ?_; clear hK K) | (refine mix_s rfl rfl (by decide +kernel) ?_; simp only [Act.put, List.setIfInBounds_toArray, List.set_cons_zero, List.set_cons_succ]))
  refine mix_lC rfl rfl rfl (fun K hK => ?_)
  refine op_call rfl Tryz.func126 (by kernel_rfl) (by kernel_rfl) (clone126_calls _) rfl ?_
  rintro r w9 ⟨rfl, rfl⟩
  refine ⟨_, rfl, hK _ _ ⟨⟨_, HB.out⟩, rfl⟩ ?_⟩
  clear hK K
  simp only [Act.put, List.setIfInBounds_toArray, List.set_cons_zero, List.set_cons_succ]
  repeat (first | ((first | refine mix_a rfl (by decide +kernel) rfl (fun K hK => ?_) | refine mix_q rfl (by decide +kernel) rfl (fun K hK => ?_)); go_big_quiet_op; refine hK _ ?_; clear hK K) | (refine mix_s rfl rfl (by decide +kernel) ?_; simp only [Act.put, List.setIfInBounds_toArray, List.set_cons_zero, List.set_cons_succ]))
  refine mix_lC rfl rfl rfl (fun K hK => ?_)
  refine op_call rfl Tryz.func127 (by kernel_rfl) (by kernel_rfl) (clone127_calls _) rfl ?_
  rintro r w9 ⟨rfl, rfl⟩
  refine ⟨_, rfl, hK _ _ ⟨⟨_, HB.out⟩, rfl⟩ ?_⟩
  clear hK K
  simp only [Act.put, List.setIfInBounds_toArray, List.set_cons_zero, List.set_cons_succ]
  repeat (first | ((first | refine mix_a rfl (by decide +kernel) rfl (fun K hK => ?_) | refine mix_q rfl (by decide +kernel) rfl (fun K hK => ?_)); go_big_quiet_op; refine hK _ ?_; clear hK K) | (refine mix_s rfl rfl (by decide +kernel) ?_; simp only [Act.put, List.setIfInBounds_toArray, List.set_cons_zero, List.set_cons_succ]))
  refine mix_l rfl (by decide +kernel) rfl (fun K hK => ?_)
  refine op_store1 (.slice none 0 0) rfl (by kernel_rfl) rfl rfl rfl rfl (show sat w0 _ (blk vb _ :: blk w.heap.size _ :: SN g i (vK 29) :: R) by subst hR; exact HB.out) (by decide) ?_
  intro w2 H2
  have HC := Lib.hid H2
  clear H2 HB
  refine hK _ _ ?_; clear hK K; (try simp only [Act.put, List.setIfInBounds_toArray, List.set_cons_zero, List.set_cons_succ])
  repeat (first | ((first | refine mix_a rfl (by decide +kernel) rfl (fun K hK => ?_) | refine mix_q rfl (by decide +kernel) rfl (fun K hK => ?_)); go_big_quiet_op; refine hK _ ?_; clear hK K) | (refine mix_s rfl rfl (by decide +kernel) ?_; simp only [Act.put, List.setIfInBounds_toArray, List.set_cons_zero, List.set_cons_succ]))
  refine mix_l rfl (by decide +kernel) rfl (fun K hK => ?_)
  refine op_store1 (.slice none 0 0) rfl (by kernel_rfl) rfl rfl rfl rfl HC.out (by decide) ?_
  intro w3 H3
  have e : (#[Value.int .i64 1, .int .i64 2, .int .i64 29, .int .i64 0, .string sAB, .int .i64 0, .bool false, .string ⟨#[]⟩, .slice none 0 0, .slice none 0 0, .bool false].setIfInBounds 8 (.slice none 0 0)).setIfInBounds 9 (.slice none 0 0) = vK 29 := rfl
  have HD := Lib.hid (show sat w0 w3 (blk vb (.cells (vK 29) 83) :: _) from H3)
  clear H3 HC
  clear c8 c9 q8 q9
  have v0 : w3.cell? ⟨vb, 0, none⟩ = some (Value.int .i64 1) := cellAt HD.out.get.1 0
  have v1 : w3.cell? ⟨vb, 1, none⟩ = some (Value.int .i64 2) := cellAt HD.out.get.1 1
  have v2 : w3.cell? ⟨vb, 2, none⟩ = some (Value.int .i64 29) := cellAt HD.out.get.1 2
  have v3 : w3.cell? ⟨vb, 3, none⟩ = some (Value.int .i64 0) := cellAt HD.out.get.1 3
  have v4 : w3.cell? ⟨vb, 4, none⟩ = some (Value.string sAB) := cellAt HD.out.get.1 4
  have v5 : w3.cell? ⟨vb, 5, none⟩ = some (Value.int .i64 0) := cellAt HD.out.get.1 5
  have v6 : w3.cell? ⟨vb, 6, none⟩ = some (Value.bool false) := cellAt HD.out.get.1 6
  have v7 : w3.cell? ⟨vb, 7, none⟩ = some (Value.string ⟨#[]⟩) := cellAt HD.out.get.1 7
  have v8 : w3.cell? ⟨vb, 8, none⟩ = some (Value.slice none 0 0) := cellAt HD.out.get.1 8
  have v9 : w3.cell? ⟨vb, 9, none⟩ = some (Value.slice none 0 0) := cellAt HD.out.get.1 9
  have v10 : w3.cell? ⟨vb, 10, none⟩ = some (Value.bool false) := cellAt HD.out.get.1 10
  refine hK _ _ ?_; clear hK K; (try simp only [Act.put, List.setIfInBounds_toArray, List.set_cons_zero, List.set_cons_succ])
  refine mix_nil ?_
  go_wp2_with (refine BigFrame.wpList_want (by rfl) fun K' hK' => ?_; refine op_store (vs := [Value.int .i64 1, Value.int .i64 2, Value.int .i64 29, Value.int .i64 0, Value.string sAB, Value.int .i64 0, Value.bool false, Value.string ⟨#[]⟩, Value.slice none 0 0, Value.slice none 0 0, Value.bool false]) (by rfl) (by kernel_rfl) (by rfl) (by rfl) (by rfl) (by intro u hu; simp only [List.mem_cons, List.not_mem_nil, or_false] at hu; rcases hu with rfl | rfl | rfl | rfl | rfl | rfl | rfl | rfl | rfl | rfl | rfl <;> rfl) HD.out.swap (Nat.le_refl _) ?_; intro w4 H4; refine hK' _ _ ?_; clear hK' K'; have hg : w4.heap[w.heap.size]? = some (.cells (vK 29) 83) := H4.get.1; have HE := Lib.hid H4; clear H4)
  refine bodyPost_ret (results_cell_row rfl _ _ w.heap.size 83 (vK 29) (0, 0) _ rfl hg Tryz.underlying83 rfl (by kernel_rfl)) rfl ?_
  exact ⟨rfl, HE.out.tail.tail⟩
end Go.Proofs.YtonipcfnhmnnlaaGreatDoor
