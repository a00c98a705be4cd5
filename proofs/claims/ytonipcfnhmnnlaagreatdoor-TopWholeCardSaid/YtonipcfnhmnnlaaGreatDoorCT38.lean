/- A trie without rules finds none. -/
import Derived.Test.YtonipcfnhmnnlaaGreatDoorCT24
import Derived.Test.YtonipcfnhmnnlaaGreatDoorMMix
namespace Go.Proofs.YtonipcfnhmnnlaaGreatDoor
open Go Go.RowKit Hg
set_option linter.unusedVariables false
set_option linter.unusedSimpArgs false
attribute [local go_sem] Lib.run_eql_slice_nil run_min2 run_max2 run_min_two run_max_two
theorem nodenil_calls (v : Value) (w : World) : Calls Tryz.prog 97 #[.pointer none, v] w fun e w' => e = .returned (.slice none 0 0) ∧ w' = w := by
  go_enter Tryz.func97, Tryz.ntmps97
  go_wp2
  go_ret
  exact ⟨rfl, rfl⟩
set_option maxHeartbeats 1600000 in
set_option maxRecDepth 100000 in
theorem node_calls (t m b : Nat) (R : List Asn) (w0 w : World) (H : sat w0 w (TrieB t m ++ Strs b [sB, sA] :: R)) :
    Calls Tryz.prog 97 #[.pointer (some ⟨t, 2, none⟩), .slice (some ⟨b, 0, none⟩) 2 2] w fun e w' => ∃ v : Value, e = .returned v ∧ sat w0 w' (RowC 79 1 v 1 [.slice none 0 0] :: (TrieB t m ++ Strs b [sB, sA] :: R)) := by
  have hd := H.drew
  generalize hR : (TrieB t m ++ Strs b [sB, sA] :: R) = R2 at hd
  have q2 : ∀ x : SW w0 R2, x.w.cell? ⟨t, 2, none⟩ = some (.slice none 0 0) := fun x => by subst hR; exact cellAt x.h.get.1 2
  have q3 : ∀ x : SW w0 R2, x.w.cell? ⟨t, 3, none⟩ = some (.slice none 0 0) := fun x => by subst hR; exact cellAt x.h.get.1 3
  have q4 : ∀ x : SW w0 R2, x.w.cell? ⟨t, 4, none⟩ = some (.map none) := fun x => by subst hR; exact cellAt x.h.get.1 4
  have qb : ∀ x : SW w0 R2, x.w.cell? ⟨b, 0, none⟩ = some (.string sB) := fun x => by subst hR; exact cellAt x.h.tail.tail.get.1 0
  have c2 := q2 ⟨_, hd⟩
  have c3 := q3 ⟨_, hd⟩
  have c4 := q4 ⟨_, hd⟩
  have cb := qb ⟨_, hd⟩
  have ql : ∀ x : SW w0 R2, (Instr.lookup 174 (.map none) (.string sB) false).run Tryz.prog x.w = .ok (.pointer none) x.w := fun x => by kernel_rfl
  have cl := ql ⟨_, hd⟩
  dsimp only at c2 c3 c4 cb cl
  have hnon : Nonempty (SW w0 R2) := ⟨⟨_, hd⟩⟩
  have HH := Lib.hid hd
  have HR := Lib.hid hR
  clear H hd hR
  go_enter Tryz.func97, Tryz.ntmps97
  go_wp2
  refine wp_region_or 4 15 (by kernel_rfl) (fun u => ∃ x : SW w0 R2, u = x.w) (fun u => ∃ x : SW w0 R2, u = x.w) [0, 1, 2, 3, 5, 6, 7, 8, 9, 10, 11, 12, 13, 14, 4, 15, 16, 17] [0, 1, 2, 3, 5, 6, 7, 8, 9, 10, 11, 12, 13, 14, 15, 4, 16, 17] [5, 6, 7, 8, 9, 10, 11, 12, 13, 14] [0, 1, 2, 3] (by kernel_rfl) (by kernel_rfl) (by kernel_rfl) ⟨⟨_, HH.out⟩, rfl⟩ ⟨⟨_, HH.out⟩, rfl⟩ ?_ ?_
  · skip
    repeat (first | ((first | refine mix_a rfl (by decide +kernel) rfl (fun K hK => ?_) | refine mix_q rfl (by decide +kernel) rfl (fun K hK => ?_)); go_big_quiet_op; refine hK _ ?_; clear hK K) | (refine mix_s rfl rfl (by decide +kernel) ?_; simp only [Act.put, List.setIfInBounds_toArray, List.set_cons_zero, List.set_cons_succ]))
    refine mix_lC rfl rfl rfl (fun K hK => ?_)
    refine op_build1 (z := .slice none 0 0) (sz := 1) (bytes := 24) rfl Tryz.underlying180 (by kernel_rfl) rfl (xs := [.slice none 0 0]) rfl rfl ⟨by decide, by decide⟩ HH.out ?_
    intro d w3 H3
    refine hK _ _ ⟨⟨_, H3.tail⟩, rfl⟩ ?_
    have HC := Lib.hid H3
    clear hK K H3 HH
    simp only [Act.put, List.setIfInBounds_toArray, List.set_cons_zero, List.set_cons_succ]
    repeat (first | ((first | refine mix_a rfl (by decide +kernel) rfl (fun K hK => ?_) | refine mix_q rfl (by decide +kernel) rfl (fun K hK => ?_)); go_big_quiet_op; refine hK _ ?_; clear hK K) | (refine mix_s rfl rfl (by decide +kernel) ?_; simp only [Act.put, List.setIfInBounds_toArray, List.set_cons_zero, List.set_cons_succ]))
    refine mix_l rfl (by decide +kernel) rfl (fun K hK => ?_)
    refine op_call rfl Tryz.func97 (by kernel_rfl) (by kernel_rfl) (nodenil_calls _ _) rfl ?_
    rintro r w9 ⟨rfl, rfl⟩
    refine ⟨_, rfl, ?_⟩
    refine hK _ _ ?_; clear hK K; (try simp only [Act.put, List.setIfInBounds_toArray, List.set_cons_zero, List.set_cons_succ])
    repeat (first | ((first | refine mix_a rfl (by decide +kernel) rfl (fun K hK => ?_) | refine mix_q rfl (by decide +kernel) rfl (fun K hK => ?_)); go_big_quiet_op; refine hK _ ?_; clear hK K) | (refine mix_s rfl rfl (by decide +kernel) ?_; simp only [Act.put, List.setIfInBounds_toArray, List.set_cons_zero, List.set_cons_succ]))
    refine mix_l rfl (by decide +kernel) rfl (fun K hK => ?_)
    refine op_append_row (e := 79) (z := .slice none 0 0) (sz := 1) (bytes := 24) (m := 0) (ys := []) rfl Tryz.underlying180 (by kernel_rfl) rfl (by decide) (by decide) rfl rfl HC.out ⟨rfl, .inl ⟨rfl, rfl⟩⟩ (by simp) (by decide) ?_
    intro v w4 H4 _
    have HD := Lib.hid H4
    clear H4 HC
    refine hK _ _ ?_; clear hK K; (try simp only [Act.put, List.setIfInBounds_toArray, List.set_cons_zero, List.set_cons_succ])
    repeat (first | ((first | refine mix_a rfl (by decide +kernel) rfl (fun K hK => ?_) | refine mix_q rfl (by decide +kernel) rfl (fun K hK => ?_)); go_big_quiet_op; refine hK _ ?_; clear hK K) | (refine mix_s rfl rfl (by decide +kernel) ?_; simp only [Act.put, List.setIfInBounds_toArray, List.set_cons_zero, List.set_cons_succ]))
    refine mix_nil ?_
    go_wp2
    go_ret
    have h := HD.out
    exact ⟨v, rfl, h⟩
  · skip
    repeat (first | ((first | refine mix_a rfl (by decide +kernel) rfl (fun K hK => ?_) | refine mix_q rfl (by decide +kernel) rfl (fun K hK => ?_)); go_big_quiet_op; refine hK _ ?_; clear hK K) | (refine mix_s rfl rfl (by decide +kernel) ?_; simp only [Act.put, List.setIfInBounds_toArray, List.set_cons_zero, List.set_cons_succ]))
    refine mix_lC rfl rfl rfl (fun K hK => ?_)
    refine op_call rfl Tryz.func97 (by kernel_rfl) (by kernel_rfl) (nodenil_calls _ _) rfl ?_
    rintro r w9 ⟨rfl, rfl⟩
    refine ⟨_, rfl, hK _ _ ⟨⟨_, HH.out⟩, rfl⟩ ?_⟩
    clear hK K
    simp only [Act.put, List.setIfInBounds_toArray, List.set_cons_zero, List.set_cons_succ]
    repeat (first | ((first | refine mix_a rfl (by decide +kernel) rfl (fun K hK => ?_) | refine mix_q rfl (by decide +kernel) rfl (fun K hK => ?_)); go_big_quiet_op; refine hK _ ?_; clear hK K) | (refine mix_s rfl rfl (by decide +kernel) ?_; simp only [Act.put, List.setIfInBounds_toArray, List.set_cons_zero, List.set_cons_succ]))
    refine mix_l rfl (by decide +kernel) rfl (fun K hK => ?_)
    refine op_build1 (z := .slice none 0 0) (sz := 1) (bytes := 24) rfl Tryz.underlying180 (by kernel_rfl) rfl (xs := [.slice none 0 0]) rfl rfl ⟨by decide, by decide⟩ HH.out ?_
    intro d w3 H3
    have HC := Lib.hid H3
    clear H3 HH
    refine hK _ _ ?_; clear hK K; (try simp only [Act.put, List.setIfInBounds_toArray, List.set_cons_zero, List.set_cons_succ])
    repeat (first | ((first | refine mix_a rfl (by decide +kernel) rfl (fun K hK => ?_) | refine mix_q rfl (by decide +kernel) rfl (fun K hK => ?_)); go_big_quiet_op; refine hK _ ?_; clear hK K) | (refine mix_s rfl rfl (by decide +kernel) ?_; simp only [Act.put, List.setIfInBounds_toArray, List.set_cons_zero, List.set_cons_succ]))
    refine mix_l rfl (by decide +kernel) rfl (fun K hK => ?_)
    refine op_append_row (e := 79) (z := .slice none 0 0) (sz := 1) (bytes := 24) (m := 0) (ys := []) rfl Tryz.underlying180 (by kernel_rfl) rfl (by decide) (by decide) rfl rfl HC.out ⟨rfl, .inl ⟨rfl, rfl⟩⟩ (by simp) (by decide) ?_
    intro v w4 H4 _
    have HD := Lib.hid H4
    clear H4 HC
    refine hK _ _ ?_; clear hK K; (try simp only [Act.put, List.setIfInBounds_toArray, List.set_cons_zero, List.set_cons_succ])
    repeat (first | ((first | refine mix_a rfl (by decide +kernel) rfl (fun K hK => ?_) | refine mix_q rfl (by decide +kernel) rfl (fun K hK => ?_)); go_big_quiet_op; refine hK _ ?_; clear hK K) | (refine mix_s rfl rfl (by decide +kernel) ?_; simp only [Act.put, List.setIfInBounds_toArray, List.set_cons_zero, List.set_cons_succ]))
    refine mix_nil ?_
    go_wp2
    go_ret
    have h := HD.out
    exact ⟨v, rfl, h⟩
end Go.Proofs.YtonipcfnhmnnlaaGreatDoor
