/- No rule is found. -/
import Derived.Test.YtonipcfnhmnnlaaGreatDoorCT38
import Derived.Test.YtonipcfnhmnnlaaGreatDoorMPol
import Derived.Test.YtonipcfnhmnnlaaGreatDoorCT31
namespace Go.Proofs.YtonipcfnhmnnlaaGreatDoor
open Go Go.RowKit Hg
set_option linter.unusedVariables false
set_option linter.unusedSimpArgs false
attribute [local go_sem] Lib.run_eql_slice_nil run_min2 run_max2 run_min_two run_max_two
def z126 : Array Value := #[.bool false, .int .i64 0, .string ⟨#[]⟩, .int .i64 0, .string ⟨#[]⟩]
set_option maxHeartbeats 3200000 in
set_option maxRecDepth 100000 in
theorem find60_calls (t m : Nat) (port : Int) (R : List Asn) (w0 w : World) (hm : MaxL w0) (H : sat w0 w (TrieB t m ++ R)) :
    Calls Tryz.prog 60 #[.pointer (some ⟨t, 0, none⟩), .string sAB, .int .i64 port, .slice none 0 0] w fun e w' => e = .returned (.tuple #[.agg z126, .int .i64 0, .bool false]) ∧ sat w0 w' (TrieB t m ++ R) := by
  have HH := Lib.hid (H.alloc (.cells z126 126))
  have HM := Lib.hid hm
  have t0 : ∀ o, (w.alloc o).cell? ⟨t, 0, none⟩ = some (.slice none 0 0) := fun o => cellAt (H.alloc o).tail.get.1 0
  have t1 : ∀ o, (w.alloc o).cell? ⟨t, 1, none⟩ = some (.slice none 0 0) := fun o => cellAt (H.alloc o).tail.get.1 1
  have dne : sAB.toList.isEmpty = false := by decide +kernel
  have HLA := Lib.hid (fun (R : List Asn) (w1 : World) (h : sat w0 w1 R) => labels_calls R w0 w1 hm h)
  clear H hm
  generalize hab : sAB = ab at *
  go_enter Tryz.func60, Tryz.ntmps60
  go_wp2_with (refine BigFrame.wpList_want (by rfl) fun K' hK' => ?_; refine op_build1 (z := .slice none 0 0) (sz := 1) (bytes := 24) (v := .slice none 0 0) (by rfl) Tryz.underlying180 (by kernel_rfl) (by rfl) (xs := [.slice none 0 0]) (by rfl) (by rfl) ⟨by decide, by decide⟩ HH.out ?_; intro d w1 H1; refine hK' _ _ ?_; clear hK' K'; have HA := Lib.hid H1.drew; clear H1)
  generalize hrb : w.heap.size = rb at HA ⊢
  generalize hv12 : (Value.slice (some ⟨d, 0, none⟩) 1 1) = v12 at HA ⊢
  generalize hR : (RowC 79 1 v12 1 [.slice none 0 0] :: blk rb (.cells z126 126) :: (TrieB t m ++ R)) = R2 at HA
  have q0 : ∀ x : SW w0 R2, x.w.cell? ⟨t, 0, none⟩ = some (.slice none 0 0) := fun x => by subst hR; exact cellAt x.h.tail.tail.get.1 0
  have c0 := q0 ⟨_, HA.out⟩
  dsimp only at c0
  have hnon : Nonempty (SW w0 R2) := ⟨⟨_, HA.out⟩⟩
  have HR := Lib.hid hR
  clear hR t0 t1 hv12 HH
  refine wp_region_mix (fun u => ∃ x : SW w0 R2, u = x.w) [0, 1, 2, 3, 4, 5, 6, 7, 8] [0, 1, 2, 3] (by kernel_rfl) (by kernel_rfl) ⟨⟨_, HA.out⟩, rfl⟩ ?_
  repeat (first | ((first | refine mix_a rfl (by decide +kernel) rfl (fun K hK => ?_) | refine mix_q rfl (by decide +kernel) rfl (fun K hK => ?_)); go_big_quiet_op; refine hK _ ?_; clear hK K) | (refine mix_s rfl rfl (by decide +kernel) ?_; simp only [Act.put, List.setIfInBounds_toArray, List.set_cons_zero, List.set_cons_succ]))
  refine mix_lC rfl rfl rfl (fun K hK => ?_)
  refine op_call rfl Tryz.func98 (by kernel_rfl) (by kernel_rfl) (HLA.out _ _ HA.out) rfl ?_
  rintro r w2 ⟨b, rfl, H2⟩
  refine ⟨_, rfl, hK _ _ ⟨⟨_, H2.tail⟩, rfl⟩ ?_⟩
  have h2 : sat w0 w2 (TrieB t m ++ Strs b [sB, sA] :: RowC 79 1 v12 1 [.slice none 0 0] :: blk rb (.cells z126 126) :: R) := by
    rw [← HR.out] at H2
    exact H2.re 5 [3, 4, 0, 1, 2] [] rfl
  have HB := Lib.hid h2
  clear hK K H2 HA h2
  simp only [Act.put, List.setIfInBounds_toArray, List.set_cons_zero, List.set_cons_succ]
  repeat (first | ((first | refine mix_a rfl (by decide +kernel) rfl (fun K hK => ?_) | refine mix_q rfl (by decide +kernel) rfl (fun K hK => ?_)); go_big_quiet_op; refine hK _ ?_; clear hK K) | (refine mix_s rfl rfl (by decide +kernel) ?_; simp only [Act.put, List.setIfInBounds_toArray, List.set_cons_zero, List.set_cons_succ]))
  refine mix_lC rfl rfl rfl (fun K hK => ?_)
  refine op_call rfl Tryz.func97 (by kernel_rfl) (by kernel_rfl) (node_calls t m b _ w0 w2 HB.out) rfl ?_
  rintro r w3 ⟨v30, rfl, H3⟩
  refine ⟨_, rfl, hK _ _ ⟨⟨_, by rw [← HR.out]; exact H3.re 6 [4, 5, 1, 2] [0, 3] rfl⟩, rfl⟩ ?_⟩
  have h3 : sat w0 w3 (RowC 79 1 v12 1 [.slice none 0 0] :: RowC 79 1 v30 1 [.slice none 0 0] :: blk rb (.cells z126 126) :: (TrieB t m ++ R)) := H3.re 6 [4, 0, 5, 1, 2] [3] rfl
  have HC := Lib.hid h3
  clear hK K H3 HB h3
  simp only [Act.put, List.setIfInBounds_toArray, List.set_cons_zero, List.set_cons_succ]
  repeat (first | ((first | refine mix_a rfl (by decide +kernel) rfl (fun K hK => ?_) | refine mix_q rfl (by decide +kernel) rfl (fun K hK => ?_)); go_big_quiet_op; refine hK _ ?_; clear hK K) | (refine mix_s rfl rfl (by decide +kernel) ?_; simp only [Act.put, List.setIfInBounds_toArray, List.set_cons_zero, List.set_cons_succ]))
  refine mix_l rfl (by decide +kernel) rfl (fun K hK => ?_)
  refine op_append_row (e := 79) (z := .slice none 0 0) (sz := 1) (bytes := 24) rfl Tryz.underlying180 (by kernel_rfl) rfl (by decide) (by decide) rfl rfl HC.out (RowC.readsC (HC.out.pick 1 rfl)) (by simp [Value.oneCell']) (by decide) ?_
  intro v w4 H4 _
  have h4 : sat w0 w4 (RowC 79 1 v 2 [.slice none 0 0, .slice none 0 0] :: blk rb (.cells z126 126) :: (TrieB t m ++ R)) := H4.re 5 [0, 2, 3, 4] [1] rfl
  clear H4 HC
  rcases (RowC.blk_of h4).2 with ⟨_, h0, _⟩ | ⟨d2, cp, cur, rfl, g1, g2, g3, g4, g5⟩
  · cases h0
  have hcell : ∀ (w' : World), sat w0 w' (RowC 79 1 (.slice (some ⟨d2, 0, none⟩) 2 cp) 2 [.slice none 0 0, .slice none 0 0] :: blk rb (.cells z126 126) :: (TrieB t m ++ R)) → w'.cell? ⟨d2, 0, none⟩ = some (.slice none 0 0) ∧ w'.cell? ⟨d2, 1, none⟩ = some (.slice none 0 0) := fun w' h => by
    rcases (RowC.readsC h).2 with ⟨h0, _⟩ | ⟨ad, c', h0, _, _, hh⟩
    · cases h0
    · injection h0 with h0 _ _
      injection h0 with h0
      have a0 := hh 0 (.slice none 0 0) rfl
      have a1 := hh 1 (.slice none 0 0) rfl
      rw [← h0, addAt] at a0 a1
      exact ⟨a0, a1⟩
  have HCE := Lib.hid hcell
  have HD := Lib.hid h4
  clear h4 g1 g2 g3 g4 g5 hcell
  refine hK _ _ ?_; clear hK K; (try simp only [Act.put, List.setIfInBounds_toArray, List.set_cons_zero, List.set_cons_succ])
  repeat (first | ((first | refine mix_a rfl (by decide +kernel) rfl (fun K hK => ?_) | refine mix_q rfl (by decide +kernel) rfl (fun K hK => ?_)); go_big_quiet_op; refine hK _ ?_; clear hK K) | (refine mix_s rfl rfl (by decide +kernel) ?_; simp only [Act.put, List.setIfInBounds_toArray, List.set_cons_zero, List.set_cons_succ]))
  refine mix_nil ?_
  go_wp2
  go_loopw [35, 11] (fun i k wr => ∃ n : Nat, n ≤ 2 ∧ i = .int .i64 n ∧ k = .int .i64 (-1) ∧ sat w0 wr (RowC 79 1 (.slice (some ⟨d2, 0, none⟩) 2 cp) 2 [.slice none 0 0, .slice none 0 0] :: blk rb (.cells z126 126) :: (TrieB t m ++ R))) (fun i _ _ => 2 - (intOf i).toNat)
  case atStart => exact ⟨0, by decide, rfl, rfl, HD.out⟩
  case round =>
    obtain ⟨n, hn, rfl, rfl, h⟩ := hrel
    have hn3 : n = 0 ∨ n = 1 ∨ n = 2 := by omega
    clear hn
    rcases hn3 with rfl | rfl | rfl
    · have hc := (HCE.out _ h).1
      have hc' : wr.cell? ⟨d2, 0 + 0, none⟩ = some (.slice none 0 0) := hc
      have HE := Lib.hid h
      clear h HD HCE
      go_wp2
      go_loopw [41, 15] (fun i k wr => i = .int .i64 0 ∧ k = .int .i64 (-1) ∧ sat w0 wr (RowC 79 1 (.slice (some ⟨d2, 0, none⟩) 2 cp) 2 [.slice none 0 0, .slice none 0 0] :: blk rb (.cells z126 126) :: (TrieB t m ++ R))) (fun _ _ _ => 0)
      case atStart => exact ⟨rfl, rfl, HE.out⟩
      case round =>
        obtain ⟨rfl, rfl, h⟩ := hrel
        have HF := Lib.hid h.drew
        clear h HE
        go_wp2
        refine wp_region_mix (fun u => ∃ x : World, u = x) [0, 1, 2, 3, 4, 5, 6, 7, 8, 9, 10, 11, 12, 13, 14, 15, 16, 17, 18, 19, 20, 21, 22, 23, 24] [] (by kernel_rfl) (by kernel_rfl) ⟨_, rfl⟩ ?_
        repeat (first | ((first | refine mix_a rfl (by decide +kernel) rfl (fun K hK => ?_) | refine mix_q rfl (by decide +kernel) rfl (fun K hK => ?_)); go_big_quiet_op; refine hK _ ?_; clear hK K) | (refine mix_s rfl rfl (by decide +kernel) ?_; simp only [Act.put, List.setIfInBounds_toArray, List.set_cons_zero, List.set_cons_succ]))
        refine mix_nil ?_
        go_wp2
        exact ⟨⟨1, by decide, rfl, rfl, HF.out⟩, by simp [intOf]⟩
    · have hc := (HCE.out _ h).2
      have hc' : wr.cell? ⟨d2, 0 + 1, none⟩ = some (.slice none 0 0) := hc
      have HE := Lib.hid h
      clear h HD HCE
      go_wp2
      go_loopw [41, 15] (fun i k wr => i = .int .i64 0 ∧ k = .int .i64 (-1) ∧ sat w0 wr (RowC 79 1 (.slice (some ⟨d2, 0, none⟩) 2 cp) 2 [.slice none 0 0, .slice none 0 0] :: blk rb (.cells z126 126) :: (TrieB t m ++ R))) (fun _ _ _ => 0)
      case atStart => exact ⟨rfl, rfl, HE.out⟩
      case round =>
        obtain ⟨rfl, rfl, h⟩ := hrel
        have HF := Lib.hid h.drew
        clear h HE
        go_wp2
        refine wp_region_mix (fun u => ∃ x : World, u = x) [0, 1, 2, 3, 4, 5, 6, 7, 8, 9, 10, 11, 12, 13, 14, 15, 16, 17, 18, 19, 20, 21, 22, 23, 24] [] (by kernel_rfl) (by kernel_rfl) ⟨_, rfl⟩ ?_
        repeat (first | ((first | refine mix_a rfl (by decide +kernel) rfl (fun K hK => ?_) | refine mix_q rfl (by decide +kernel) rfl (fun K hK => ?_)); go_big_quiet_op; refine hK _ ?_; clear hK K) | (refine mix_s rfl rfl (by decide +kernel) ?_; simp only [Act.put, List.setIfInBounds_toArray, List.set_cons_zero, List.set_cons_succ]))
        refine mix_nil ?_
        go_wp2
        exact ⟨⟨2, by decide, rfl, rfl, HF.out⟩, by simp [intOf]⟩
    · have HE := Lib.hid h
      clear h HD HCE
      go_wp2_with (refine BigFrame.wpList_want (by rfl) fun K' hK' => ?_; refine op_store (vs := [.bool false, .int .i64 0, .string ⟨#[]⟩, .int .i64 0, .string ⟨#[]⟩]) (by rfl) (by kernel_rfl) (by rfl) (by rfl) (by rfl) (by intro u hu; simp only [List.mem_cons, List.not_mem_nil, or_false] at hu; rcases hu with rfl | rfl | rfl | rfl | rfl <;> rfl) HE.out.swap (Nat.le_refl _) ?_; intro w5 H5; refine hK' _ _ ?_; clear hK' K'; have hg : w5.heap[rb]? = some (.cells z126 126) := H5.get.1; have HF := Lib.hid H5; clear H5)
      refine bodyPost_ret (results_row_tmp2 rfl _ _ rb 126 z126 (0, 0) _ rfl hg Tryz.underlying126 rfl (by kernel_rfl)) rfl ?_
      exact ⟨rfl, HF.out.tail.tail⟩
end Go.Proofs.YtonipcfnhmnnlaaGreatDoor
