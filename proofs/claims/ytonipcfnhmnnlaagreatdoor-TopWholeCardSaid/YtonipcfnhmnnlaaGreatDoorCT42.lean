/- A connection's decision. -/
import Derived.Test.YtonipcfnhmnnlaaGreatDoorCT41
namespace Go.Proofs.YtonipcfnhmnnlaaGreatDoor
open Go Go.RowKit Hg
set_option linter.unusedVariables false
set_option linter.unusedSimpArgs false
attribute [local go_sem] Lib.run_eql_slice_nil run_min2 run_max2 run_min_two run_max_two
set_option maxHeartbeats 3200000 in
set_option maxRecDepth 100000 in
theorem condecide_calls (g : Nat) (c : CS) (R : List Asn) (w0 w : World) (hm : MaxL w0) (H : sat w0 w (CN g c :: JA c.j :: R)) :
    Calls Tryz.prog 84 #[.pointer (some ⟨g, 0, none⟩), .agg #[.int .i64 1, .int .i64 2, .int .i64 29, .int .i64 0, .string sAB, .int .i64 0, .bool false, .string ⟨#[]⟩, .slice none 0 0, .slice none 0 0, .bool false]] w fun e w' => ∃ v : Value, e = .returned v ∧ sat w0 w' (RowA v [⟨0, ⟨#[]⟩, 0⟩] :: CN g { c with vs := 1, vp := 2, vu := 29, vh := sAB, al := true, why := 1, rule := -1, st := 1, due := 1000 } :: JA c.j :: R) := by
  obtain ⟨y, H⟩ := JA.open H.swap
  have H : sat w0 w (CN g c :: (JL c.j y ++ R)) := H.re 7 [6, 0, 1, 2, 3, 4, 5] [] rfl
  have hd := (H.alloc (.cells #[.int .i64 1, .int .i64 2, .int .i64 29, .int .i64 0, .string sAB, .int .i64 0, .bool false, .string ⟨#[]⟩, .slice none 0 0, .slice none 0 0, .bool false] 83)).drew
  have cc0 : (w.alloc (.cells #[.int .i64 1, .int .i64 2, .int .i64 29, .int .i64 0, .string sAB, .int .i64 0, .bool false, .string ⟨#[]⟩, .slice none 0 0, .slice none 0 0, .bool false] 83)).drew.cell? ⟨g, 0, none⟩ = some (.pointer (some ⟨c.j, 0, none⟩)) := CN.at g c hd.tail 0
  have cc1 : (w.alloc (.cells #[.int .i64 1, .int .i64 2, .int .i64 29, .int .i64 0, .string sAB, .int .i64 0, .bool false, .string ⟨#[]⟩, .slice none 0 0, .slice none 0 0, .bool false] 83)).drew.cell? ⟨g, 1, none⟩ = some (.int .i64 16384) := CN.at g c hd.tail 1
  have cc6 : (w.alloc (.cells #[.int .i64 1, .int .i64 2, .int .i64 29, .int .i64 0, .string sAB, .int .i64 0, .bool false, .string ⟨#[]⟩, .slice none 0 0, .slice none 0 0, .bool false] 83)).drew.cell? ⟨g, 6, none⟩ = some (.int .u8 0) := CN.at g c hd.tail 6
  have cc7 : (w.alloc (.cells #[.int .i64 1, .int .i64 2, .int .i64 29, .int .i64 0, .string sAB, .int .i64 0, .bool false, .string ⟨#[]⟩, .slice none 0 0, .slice none 0 0, .bool false] 83)).drew.cell? ⟨g, 7, none⟩ = some (.int .u8 0) := CN.at g c hd.tail 7
  have cc8 : (w.alloc (.cells #[.int .i64 1, .int .i64 2, .int .i64 29, .int .i64 0, .string sAB, .int .i64 0, .bool false, .string ⟨#[]⟩, .slice none 0 0, .slice none 0 0, .bool false] 83)).drew.cell? ⟨g, 8, none⟩ = some (.int .u8 0) := CN.at g c hd.tail 8
  have cc9 : (w.alloc (.cells #[.int .i64 1, .int .i64 2, .int .i64 29, .int .i64 0, .string sAB, .int .i64 0, .bool false, .string ⟨#[]⟩, .slice none 0 0, .slice none 0 0, .bool false] 83)).drew.cell? ⟨g, 9, none⟩ = some (.int .u8 0) := CN.at g c hd.tail 9
  have cc10 : (w.alloc (.cells #[.int .i64 1, .int .i64 2, .int .i64 29, .int .i64 0, .string sAB, .int .i64 0, .bool false, .string ⟨#[]⟩, .slice none 0 0, .slice none 0 0, .bool false] 83)).drew.cell? ⟨g, 10, none⟩ = some (.int .u8 0) := CN.at g c hd.tail 10
  have cc11 : (w.alloc (.cells #[.int .i64 1, .int .i64 2, .int .i64 29, .int .i64 0, .string sAB, .int .i64 0, .bool false, .string ⟨#[]⟩, .slice none 0 0, .slice none 0 0, .bool false] 83)).drew.cell? ⟨g, 11, none⟩ = some (.int .u8 0) := CN.at g c hd.tail 11
  have cc12 : (w.alloc (.cells #[.int .i64 1, .int .i64 2, .int .i64 29, .int .i64 0, .string sAB, .int .i64 0, .bool false, .string ⟨#[]⟩, .slice none 0 0, .slice none 0 0, .bool false] 83)).drew.cell? ⟨g, 12, none⟩ = some (.int .u8 0) := CN.at g c hd.tail 12
  have cc13 : (w.alloc (.cells #[.int .i64 1, .int .i64 2, .int .i64 29, .int .i64 0, .string sAB, .int .i64 0, .bool false, .string ⟨#[]⟩, .slice none 0 0, .slice none 0 0, .bool false] 83)).drew.cell? ⟨g, 13, none⟩ = some (.int .u8 0) := CN.at g c hd.tail 13
  have cc14 : (w.alloc (.cells #[.int .i64 1, .int .i64 2, .int .i64 29, .int .i64 0, .string sAB, .int .i64 0, .bool false, .string ⟨#[]⟩, .slice none 0 0, .slice none 0 0, .bool false] 83)).drew.cell? ⟨g, 14, none⟩ = some (.int .u8 0) := CN.at g c hd.tail 14
  have cc15 : (w.alloc (.cells #[.int .i64 1, .int .i64 2, .int .i64 29, .int .i64 0, .string sAB, .int .i64 0, .bool false, .string ⟨#[]⟩, .slice none 0 0, .slice none 0 0, .bool false] 83)).drew.cell? ⟨g, 15, none⟩ = some (.int .u8 0) := CN.at g c hd.tail 15
  have cc16 : (w.alloc (.cells #[.int .i64 1, .int .i64 2, .int .i64 29, .int .i64 0, .string sAB, .int .i64 0, .bool false, .string ⟨#[]⟩, .slice none 0 0, .slice none 0 0, .bool false] 83)).drew.cell? ⟨g, 16, none⟩ = some (.int .u8 0) := CN.at g c hd.tail 16
  have cc17 : (w.alloc (.cells #[.int .i64 1, .int .i64 2, .int .i64 29, .int .i64 0, .string sAB, .int .i64 0, .bool false, .string ⟨#[]⟩, .slice none 0 0, .slice none 0 0, .bool false] 83)).drew.cell? ⟨g, 17, none⟩ = some (.int .u8 0) := CN.at g c hd.tail 17
  have cc18 : (w.alloc (.cells #[.int .i64 1, .int .i64 2, .int .i64 29, .int .i64 0, .string sAB, .int .i64 0, .bool false, .string ⟨#[]⟩, .slice none 0 0, .slice none 0 0, .bool false] 83)).drew.cell? ⟨g, 18, none⟩ = some (.int .u8 0) := CN.at g c hd.tail 18
  have cc19 : (w.alloc (.cells #[.int .i64 1, .int .i64 2, .int .i64 29, .int .i64 0, .string sAB, .int .i64 0, .bool false, .string ⟨#[]⟩, .slice none 0 0, .slice none 0 0, .bool false] 83)).drew.cell? ⟨g, 19, none⟩ = some (.int .u8 0) := CN.at g c hd.tail 19
  have cc20 : (w.alloc (.cells #[.int .i64 1, .int .i64 2, .int .i64 29, .int .i64 0, .string sAB, .int .i64 0, .bool false, .string ⟨#[]⟩, .slice none 0 0, .slice none 0 0, .bool false] 83)).drew.cell? ⟨g, 20, none⟩ = some (.int .u8 0) := CN.at g c hd.tail 20
  have cc21 : (w.alloc (.cells #[.int .i64 1, .int .i64 2, .int .i64 29, .int .i64 0, .string sAB, .int .i64 0, .bool false, .string ⟨#[]⟩, .slice none 0 0, .slice none 0 0, .bool false] 83)).drew.cell? ⟨g, 21, none⟩ = some (.int .u8 0) := CN.at g c hd.tail 21
  have cc22 : (w.alloc (.cells #[.int .i64 1, .int .i64 2, .int .i64 29, .int .i64 0, .string sAB, .int .i64 0, .bool false, .string ⟨#[]⟩, .slice none 0 0, .slice none 0 0, .bool false] 83)).drew.cell? ⟨g, 22, none⟩ = some (.int .i64 80) := CN.at g c hd.tail 22
  have cc23 : (w.alloc (.cells #[.int .i64 1, .int .i64 2, .int .i64 29, .int .i64 0, .string sAB, .int .i64 0, .bool false, .string ⟨#[]⟩, .slice none 0 0, .slice none 0 0, .bool false] 83)).drew.cell? ⟨g, 23, none⟩ = some (.int .i64 0) := CN.at g c hd.tail 23
  have bv0 : (w.alloc (.cells #[.int .i64 1, .int .i64 2, .int .i64 29, .int .i64 0, .string sAB, .int .i64 0, .bool false, .string ⟨#[]⟩, .slice none 0 0, .slice none 0 0, .bool false] 83)).drew.cell? ⟨w.heap.size, 0, none⟩ = some (.int .i64 1) := cellAt hd.get.1 0
  have bv1 : (w.alloc (.cells #[.int .i64 1, .int .i64 2, .int .i64 29, .int .i64 0, .string sAB, .int .i64 0, .bool false, .string ⟨#[]⟩, .slice none 0 0, .slice none 0 0, .bool false] 83)).drew.cell? ⟨w.heap.size, 1, none⟩ = some (.int .i64 2) := cellAt hd.get.1 1
  have bv2 : (w.alloc (.cells #[.int .i64 1, .int .i64 2, .int .i64 29, .int .i64 0, .string sAB, .int .i64 0, .bool false, .string ⟨#[]⟩, .slice none 0 0, .slice none 0 0, .bool false] 83)).drew.cell? ⟨w.heap.size, 2, none⟩ = some (.int .i64 29) := cellAt hd.get.1 2
  have bv3 : (w.alloc (.cells #[.int .i64 1, .int .i64 2, .int .i64 29, .int .i64 0, .string sAB, .int .i64 0, .bool false, .string ⟨#[]⟩, .slice none 0 0, .slice none 0 0, .bool false] 83)).drew.cell? ⟨w.heap.size, 3, none⟩ = some (.int .i64 0) := cellAt hd.get.1 3
  have bv4 : (w.alloc (.cells #[.int .i64 1, .int .i64 2, .int .i64 29, .int .i64 0, .string sAB, .int .i64 0, .bool false, .string ⟨#[]⟩, .slice none 0 0, .slice none 0 0, .bool false] 83)).drew.cell? ⟨w.heap.size, 4, none⟩ = some (.string sAB) := cellAt hd.get.1 4
  have bv5 : (w.alloc (.cells #[.int .i64 1, .int .i64 2, .int .i64 29, .int .i64 0, .string sAB, .int .i64 0, .bool false, .string ⟨#[]⟩, .slice none 0 0, .slice none 0 0, .bool false] 83)).drew.cell? ⟨w.heap.size, 5, none⟩ = some (.int .i64 0) := cellAt hd.get.1 5
  have bv6 : (w.alloc (.cells #[.int .i64 1, .int .i64 2, .int .i64 29, .int .i64 0, .string sAB, .int .i64 0, .bool false, .string ⟨#[]⟩, .slice none 0 0, .slice none 0 0, .bool false] 83)).drew.cell? ⟨w.heap.size, 6, none⟩ = some (.bool false) := cellAt hd.get.1 6
  have bv7 : (w.alloc (.cells #[.int .i64 1, .int .i64 2, .int .i64 29, .int .i64 0, .string sAB, .int .i64 0, .bool false, .string ⟨#[]⟩, .slice none 0 0, .slice none 0 0, .bool false] 83)).drew.cell? ⟨w.heap.size, 7, none⟩ = some (.string ⟨#[]⟩) := cellAt hd.get.1 7
  have bv8 : (w.alloc (.cells #[.int .i64 1, .int .i64 2, .int .i64 29, .int .i64 0, .string sAB, .int .i64 0, .bool false, .string ⟨#[]⟩, .slice none 0 0, .slice none 0 0, .bool false] 83)).drew.cell? ⟨w.heap.size, 8, none⟩ = some (.slice none 0 0) := cellAt hd.get.1 8
  have bv9 : (w.alloc (.cells #[.int .i64 1, .int .i64 2, .int .i64 29, .int .i64 0, .string sAB, .int .i64 0, .bool false, .string ⟨#[]⟩, .slice none 0 0, .slice none 0 0, .bool false] 83)).drew.cell? ⟨w.heap.size, 9, none⟩ = some (.slice none 0 0) := cellAt hd.get.1 9
  have bv10 : (w.alloc (.cells #[.int .i64 1, .int .i64 2, .int .i64 29, .int .i64 0, .string sAB, .int .i64 0, .bool false, .string ⟨#[]⟩, .slice none 0 0, .slice none 0 0, .bool false] 83)).drew.cell? ⟨w.heap.size, 10, none⟩ = some (.bool false) := cellAt hd.get.1 10
  have HA := Lib.hid hd.swap
  have HM := Lib.hid hm
  clear H hd hm
  go_enter Tryz.func84, Tryz.ntmps84
  go_wp2
  generalize hvb : w.heap.size = vb at *
  generalize hR : (blk vb (.cells #[.int .i64 1, .int .i64 2, .int .i64 29, .int .i64 0, .string sAB, .int .i64 0, .bool false, .string ⟨#[]⟩, .slice none 0 0, .slice none 0 0, .bool false] 83) :: (JL c.j y ++ R)) = R2 at HA
  have qv0 : ∀ x : SW w0 R2, x.w.cell? ⟨vb, 0, none⟩ = some (.int .i64 1) := fun x => by subst hR; exact cellAt x.h.get.1 0
  have qv1 : ∀ x : SW w0 R2, x.w.cell? ⟨vb, 1, none⟩ = some (.int .i64 2) := fun x => by subst hR; exact cellAt x.h.get.1 1
  have qv2 : ∀ x : SW w0 R2, x.w.cell? ⟨vb, 2, none⟩ = some (.int .i64 29) := fun x => by subst hR; exact cellAt x.h.get.1 2
  have qv3 : ∀ x : SW w0 R2, x.w.cell? ⟨vb, 3, none⟩ = some (.int .i64 0) := fun x => by subst hR; exact cellAt x.h.get.1 3
  have qv4 : ∀ x : SW w0 R2, x.w.cell? ⟨vb, 4, none⟩ = some (.string sAB) := fun x => by subst hR; exact cellAt x.h.get.1 4
  have qv5 : ∀ x : SW w0 R2, x.w.cell? ⟨vb, 5, none⟩ = some (.int .i64 0) := fun x => by subst hR; exact cellAt x.h.get.1 5
  have qv6 : ∀ x : SW w0 R2, x.w.cell? ⟨vb, 6, none⟩ = some (.bool false) := fun x => by subst hR; exact cellAt x.h.get.1 6
  have qv7 : ∀ x : SW w0 R2, x.w.cell? ⟨vb, 7, none⟩ = some (.string ⟨#[]⟩) := fun x => by subst hR; exact cellAt x.h.get.1 7
  have qv8 : ∀ x : SW w0 R2, x.w.cell? ⟨vb, 8, none⟩ = some (.slice none 0 0) := fun x => by subst hR; exact cellAt x.h.get.1 8
  have qv9 : ∀ x : SW w0 R2, x.w.cell? ⟨vb, 9, none⟩ = some (.slice none 0 0) := fun x => by subst hR; exact cellAt x.h.get.1 9
  have qv10 : ∀ x : SW w0 R2, x.w.cell? ⟨vb, 10, none⟩ = some (.bool false) := fun x => by subst hR; exact cellAt x.h.get.1 10
  have hnon : Nonempty (SW w0 R2) := ⟨⟨_, HA.out.tail⟩⟩
  have HR := Lib.hid hR
  clear hR
  refine wp_region_mix (fun u => ∃ x : SW w0 R2, u = x.w) [0, 1, 2, 3, 4, 5, 6, 7, 8, 9, 10, 11, 12, 13, 14, 15, 16, 17, 18, 19, 20, 21, 22] [0, 1, 2] (by kernel_rfl) (by kernel_rfl) ⟨⟨_, HA.out.tail⟩, rfl⟩ ?_
  repeat (first | ((first | refine mix_a rfl (by decide +kernel) rfl (fun K hK => ?_) | refine mix_q rfl (by decide +kernel) rfl (fun K hK => ?_)); go_big_quiet_op; refine hK _ ?_; clear hK K) | (refine mix_s rfl rfl (by decide +kernel) ?_; simp only [Act.put, List.setIfInBounds_toArray, List.set_cons_zero, List.set_cons_succ]))
  refine mix_lC rfl rfl rfl (fun K hK => ?_)
  refine op_call rfl Tryz.func29 (by kernel_rfl) (by kernel_rfl) (decide29_calls c.j y (blk vb (.cells #[.int .i64 1, .int .i64 2, .int .i64 29, .int .i64 0, .string sAB, .int .i64 0, .bool false, .string ⟨#[]⟩, .slice none 0 0, .slice none 0 0, .bool false] 83) :: CN g c :: R) w0 _ HM.out (by have h := HA.out; rw [← HR.out] at h; exact h.re 8 [2, 3, 4, 5, 6, 7, 1, 0] [] rfl)) rfl ?_
  rintro r w2 ⟨rfl, H2⟩
  refine ⟨_, rfl, hK _ _ ⟨⟨_, by rw [← HR.out]; exact H2.re 8 [6, 0, 1, 2, 3, 4, 5] [7] rfl⟩, rfl⟩ ?_⟩
  have h2 : sat w0 w2 (CN g c :: R2) := by rw [← HR.out]; exact H2.re 8 [7, 6, 0, 1, 2, 3, 4, 5] [] rfl
  have HB := Lib.hid h2
  clear hK K H2 HA h2
  simp only [Act.put, List.setIfInBounds_toArray, List.set_cons_zero, List.set_cons_succ]
  repeat (first | ((first | refine mix_a rfl (by decide +kernel) rfl (fun K hK => ?_) | refine mix_q rfl (by decide +kernel) rfl (fun K hK => ?_)); go_big_quiet_op; refine hK _ ?_; clear hK K) | (refine mix_s rfl rfl (by decide +kernel) ?_; simp only [Act.put, List.setIfInBounds_toArray, List.set_cons_zero, List.set_cons_succ]))
  refine mix_lC rfl rfl rfl (fun K hK => ?_)
  refine op_store (vs := [.int .i64 1, .int .i64 2, .int .i64 29, .int .i64 0, .string sAB, .int .i64 0, .bool false, .string ⟨#[]⟩, .slice none 0 0, .slice none 0 0, .bool false]) rfl (by kernel_rfl) rfl rfl rfl (by intro u hu; simp only [List.mem_cons, List.not_mem_nil, or_false] at hu; rcases hu with rfl | rfl | rfl | rfl | rfl | rfl | rfl | rfl | rfl | rfl | rfl <;> rfl) HB.out (by simp [CS.arr, connA]) ?_
  intro w3 H3
  have h3 : sat w0 w3 (CN g { c with vs := 1, vp := 2, vu := 29, vh := sAB } :: R2) := H3
  refine hK _ _ ⟨⟨_, h3.tail⟩, rfl⟩ ?_
  have HC := Lib.hid h3
  clear hK K H3 HB h3
  simp only [Act.put, List.setIfInBounds_toArray, List.set_cons_zero, List.set_cons_succ]
  repeat (first | ((first | refine mix_a rfl (by decide +kernel) rfl (fun K hK => ?_) | refine mix_q rfl (by decide +kernel) rfl (fun K hK => ?_)); go_big_quiet_op; refine hK _ ?_; clear hK K) | (refine mix_s rfl rfl (by decide +kernel) ?_; simp only [Act.put, List.setIfInBounds_toArray, List.set_cons_zero, List.set_cons_succ]))
  refine mix_l rfl (by decide +kernel) rfl (fun K hK => ?_)
  refine op_store (vs := [.bool true, .int .i64 1, .int .i64 (-1)]) rfl (by kernel_rfl) rfl rfl rfl (by intro u hu; simp only [List.mem_cons, List.not_mem_nil, or_false] at hu; rcases hu with rfl | rfl | rfl <;> rfl) HC.out (by simp [CS.arr, connA]) ?_
  intro w4 H4
  have h4 : sat w0 w4 (CN g { c with vs := 1, vp := 2, vu := 29, vh := sAB, al := true, why := 1, rule := -1 } :: R2) := H4
  have e46 : w4.cell? ⟨g, 46, none⟩ = some (.bool true) := CN.at g _ h4 46
  have e0 : w4.cell? ⟨g, 0, none⟩ = some (.pointer (some ⟨c.j, 0, none⟩)) := CN.at g _ h4 0
  have e4 : w4.cell? ⟨g, 4, none⟩ = some (.int .i64 1000) := CN.at g _ h4 4
  have e1 : w4.cell? ⟨g, 1, none⟩ = some (.int .i64 16384) := CN.at g _ h4 1
  have e26 : w4.cell? ⟨g, 26, none⟩ = some (.int .i64 c.st) := CN.at g _ h4 26
  have f26 : w4.frozen? ⟨g, 26, none⟩ = false := CN.fr g _ h4 26
  have HD := Lib.hid h4
  clear H4 HC h4
  refine hK _ _ ?_; clear hK K; (try simp only [Act.put, List.setIfInBounds_toArray, List.set_cons_zero, List.set_cons_succ])
  repeat (first | ((first | refine mix_a rfl (by decide +kernel) rfl (fun K hK => ?_) | refine mix_q rfl (by decide +kernel) rfl (fun K hK => ?_)); go_big_quiet_op; refine hK _ ?_; clear hK K) | (refine mix_s rfl rfl (by decide +kernel) ?_; simp only [Act.put, List.setIfInBounds_toArray, List.set_cons_zero, List.set_cons_succ]))
  refine mix_nil ?_
  go_wp2_with (first | (go_at_call 76; refine (wait_calls g { c with vs := 1, vp := 2, vu := 29, vh := sAB, al := true, why := 1, rule := -1, st := 1 } 1000 (by decide) R2 w0 _ (show sat w0 _ (CN g { c with vs := 1, vp := 2, vu := 29, vh := sAB, al := true, why := 1, rule := -1, st := 1 } :: R2) from HD.out.store (i := 26) (.int .i64 1))).mono ?_; rintro e w5 ⟨rfl, H5⟩; have HE := Lib.hid H5; clear H5) | (refine BigFrame.wpList_want (by rfl) fun K' hK' => ?_; refine op_build1 (z := .agg #[.int .i64 0, .string ⟨#[]⟩, .int .i64 0]) (sz := 3) (bytes := 32) (v := .agg #[.int .i64 0, .string ⟨#[]⟩, .int .i64 0]) (by rfl) Tryz.underlying108 (by kernel_rfl) (by rfl) (xs := [.int .i64 0, .string ⟨#[]⟩, .int .i64 0]) (by rfl) (by rfl) ⟨by decide, by decide⟩ HE.out ?_; intro d w6 H6; refine hK' _ _ ?_; clear hK' K'; have HF := Lib.hid H6; clear H6))
  go_ret
  refine ⟨_, rfl, ?_⟩
  have h := HF.out
  rw [← HR.out] at h
  have h' : sat w0 w6 (RowA (.slice (some ⟨d, 0, none⟩) 1 1) [⟨0, ⟨#[]⟩, 0⟩] :: CN g { c with vs := 1, vp := 2, vu := 29, vh := sAB, al := true, why := 1, rule := -1, st := 1, due := 1000 } :: blk vb (.cells #[.int .i64 1, .int .i64 2, .int .i64 29, .int .i64 0, .string sAB, .int .i64 0, .bool false, .string ⟨#[]⟩, .slice none 0 0, .slice none 0 0, .bool false] 83) :: (JL c.j y ++ R)) := h
  exact (JA.close (R := RowA (.slice (some ⟨d, 0, none⟩) 1 1) [⟨0, ⟨#[]⟩, 0⟩] :: CN g { c with vs := 1, vp := 2, vu := 29, vh := sAB, al := true, why := 1, rule := -1, st := 1, due := 1000 } :: R) y (h'.re 9 [3, 4, 5, 6, 7, 8, 0, 1] [2] rfl)).re 3 [1, 2, 0] [] rfl
end Go.Proofs.YtonipcfnhmnnlaaGreatDoor
