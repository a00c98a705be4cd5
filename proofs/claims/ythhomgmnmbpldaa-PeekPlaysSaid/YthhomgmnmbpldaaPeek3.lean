/- Layer 6: the document's own buffer; a small case. No condition. -/
import Derived.Test.YthhomgmnmbpldaaPeek2
namespace Go.Proofs.Ythhomgmnmbpldaa
open Go Go.RowKit Hg
set_option linter.unusedVariables false
set_option linter.unusedSimpArgs false
attribute [local go_sem] Lib.run_eql_slice_nil run_min2 run_max2 run_min_two run_max_two
def RB (g : Nat) (v : Value) (most at_ : Int) (over : Bool) : Asn := blk g (.cells #[v, .int .i64 most, .int .i64 at_, .bool over] 35)
theorem rnew_calls (n : Int) (mo : Nat) (hmo : mx 0 (mn n 16384) = mo) (R : List Asn) (w0 w : World) (H : sat w0 w R) :
    Calls Try.prog 11 #[.int .i64 n] w fun e w' => ∃ g : Nat, e = .returned (.pointer (some ⟨g, 0, none⟩)) ∧ sat w0 w' (RB g (.slice none 0 0) mo 0 false :: Row (.slice none 0 0) [] :: R) := by
  have HH := Lib.hid H
  clear H
  go_enter Try.func11, Try.ntmps11
  go_wp2
  go_ret
  exact ⟨_, rfl, (Row.nil HH.out).alloc _⟩
set_option maxHeartbeats 400000 in
theorem radd_calls (g : Nat) (v : Value) (l : List UInt8) (mo : Nat) (at_ : Int) (over : Bool) (s : Value) (m : List UInt8) (R : List Asn) (w0 w : World)
    (H : sat w0 w (RB g v mo at_ over :: Row v l :: R)) (hs : Rd w0 R s m) (h1 : mo ≤ 16384) (hl : l.length ≤ mo) (hm : m.length ≤ 140737488351232) :
    Calls Try.prog 13 #[.pointer (some ⟨g, 0, none⟩), s] w fun e w' => ∃ v' : Value, e = .returned (.int .i64 (min m.length (mo - l.length) : Nat)) ∧ sat w0 w' (RB g v' mo at_ (over || decide (mo - l.length < m.length)) :: Row v' (l ++ m.take (mo - l.length)) :: R) := by
  obtain ⟨a, c, rfl, hc1, hc2⟩ := Row.form H.tail
  obtain ⟨b, d, rfl, hd1, hd2⟩ := Reads.form (hs w H.tail.tail)
  obtain ⟨j, hj, hjm⟩ : ∃ j : Nat, mn m.length (mo - l.length) = j ∧ j = min m.length (mo - l.length) := ⟨min m.length (mo - l.length), by rw [mn_eq]; omega, rfl⟩
  rw [← hjm]
  have hb := H.get.1
  have c0 := cellAt hb 0
  have c1 := cellAt hb 1
  simp at c0 c1
  clear hb
  have HH := Lib.hid H
  have HS := Lib.hid hs
  have HJ := Lib.hid hjm
  have hnon : Nonempty (SW w0 (RB g (.slice a l.length c) mo at_ over :: Row (.slice a l.length c) l :: R)) := ⟨⟨w, H⟩⟩
  have hcl : ∀ x : SW w0 (RB g (.slice a l.length c) mo at_ over :: Row (.slice a l.length c) l :: R), x.w.cell? ⟨g, 0, none⟩ = some (.slice a l.length c) := fun x => cellAt x.h.get.1 0
  clear H hs
  unfold maxLen at hc2 hd2
  have hjl : j ≤ m.length := by omega
  clear hjm
  by_cases hc : j < m.length <;> cases over
  all_goals
    go_enter Try.func13, Try.ntmps13
    go_wp2
    go_quiet (fail)
    go_wp2
    refine wp_region_mix (fun u => ∃ x : SW w0 (RB g (.slice a l.length c) mo at_ _ :: Row (.slice a l.length c) l :: R), u = x.w) [0, 2, 3, 4, 5, 7, 8, 9, 1, 6, 10, 11, 12, 13] [0, 2, 3, 4, 5, 7, 8, 9] (by kernel_rfl) (by kernel_rfl) ⟨⟨_, (HH.out.drewN nq).drew⟩, rfl⟩ ?_
    repeat (first | ((first | refine mix_a rfl (by decide +kernel) rfl (fun K hK => ?_) | refine mix_q rfl (by decide +kernel) rfl (fun K hK => ?_)); go_big_quiet_op; refine hK _ ?_; clear hK K) | (refine mix_s rfl rfl (by decide +kernel) ?_; simp only [Act.put, List.setIfInBounds_toArray, List.set_cons_zero, List.set_cons_succ]))
    refine mix_lC rfl rfl rfl (fun K hK => ?_)
    refine op_build0 rfl Try.underlying29 info5 (HH.out.drewN nq).drew ?_
    intro v1 w1 H1
    obtain ⟨a1, c1, rfl, _, _⟩ := RowC.form H1
    refine hK _ _ ⟨⟨_, H1.tail⟩, rfl⟩ ?_
    clear hK K
    simp only [Act.put, List.setIfInBounds_toArray, List.set_cons_zero, List.set_cons_succ]
    refine mix_lC rfl rfl rfl (fun K hK => ?_)
    refine op_append_bytes (l := []) rfl Try.underlying29 info5 rfl rfl H1 (Rd.row.weak.weak _ H1) (by simp; omega) ?_
    clear H1
    intro v2 w2 H1 _
    obtain ⟨a2, c2, rfl, _, _⟩ := Row.form H1
    refine hK _ _ ⟨⟨_, H1.tail⟩, rfl⟩ ?_
    clear hK K
    simp only [Act.put, List.setIfInBounds_toArray, List.set_cons_zero, List.set_cons_succ]
    have hr := HS.out _ H1.tail.tail.tail
    have hj2 := HJ.out
    refine mix_lC rfl rfl rfl (fun K hK => ?_)
    refine op_append_bytes (m := m.take (mo - l.length)) rfl Try.underlying29 info5 rfl rfl H1 (hr.takeAs (by omega)) (by simp only [List.length_take, List.length_append, List.length_nil]; omega) ?_
    clear H1 hr hj2
    intro v3 w3 H1 _
    obtain ⟨a3, c3, rfl, _, _⟩ := Row.form H1
    refine hK _ _ ⟨⟨_, H1.tail⟩, rfl⟩ ?_
    clear hK K
    simp only [Act.put, List.setIfInBounds_toArray, List.set_cons_zero, List.set_cons_succ]
    repeat (first | ((first | refine mix_a rfl (by decide +kernel) rfl (fun K hK => ?_) | refine mix_q rfl (by decide +kernel) rfl (fun K hK => ?_)); go_big_quiet_op; refine hK _ ?_; clear hK K) | (refine mix_s rfl rfl (by decide +kernel) ?_; simp only [Act.put, List.setIfInBounds_toArray, List.set_cons_zero, List.set_cons_succ]))
    refine mix_l rfl (by decide +kernel) rfl (fun K hK => ?_)
    refine op_store1 (.slice a3 _ c3) rfl (by kernel_rfl) rfl rfl rfl rfl H1.swap (by simp) ?_
    clear H1
    intro w4 H4
    refine hK _ _ ?_; clear hK K; (try simp only [Act.put, List.setIfInBounds_toArray, List.set_cons_zero, List.set_cons_succ])
    refine mix_nil ?_
    have HB := Lib.hid H4
    have hc3 := cellAt H4.get.1 3
    have f3 := frozenAt H4.get.1 3
    simp at hc3
    clear H4
    go_wp2
    go_ret
    have hj2 := HJ.out
  · exact ⟨.slice a3 ([] ++ l ++ m.take (mo - l.length)).length _, rfl, by rw [decide_eq_true (by omega), Bool.or_true]; exact (((HB.out.store (.bool true)).pick 2 rfl).tail : sat w0 _ (_ :: _ :: R))⟩
  · exact ⟨.slice a3 ([] ++ l ++ m.take (mo - l.length)).length _, rfl, by rw [Bool.true_or]; exact (((HB.out.store (.bool true)).pick 2 rfl).tail : sat w0 _ (_ :: _ :: R))⟩
  · exact ⟨.slice a3 ([] ++ l ++ m.take (mo - l.length)).length _, rfl, by rw [decide_eq_false (by omega), Bool.or_false]; exact (((HB.out.store (.bool false)).pick 2 rfl).tail : sat w0 _ (_ :: _ :: R))⟩
  · exact ⟨.slice a3 ([] ++ l ++ m.take (mo - l.length)).length _, rfl, by rw [Bool.true_or]; exact (((HB.out.store (.bool true)).pick 2 rfl).tail : sat w0 _ (_ :: _ :: R))⟩
set_option maxHeartbeats 800000 in
theorem rnext_calls (g : Nat) (v : Value) (l : List UInt8) (mo : Int) (at_ : Nat) (over : Bool) (n : Int) (R : List Asn) (w0 w : World)
    (H : sat w0 w (RB g v mo at_ over :: Row v l :: R)) (hat : at_ ≤ l.length) (hl : l.length ≤ 16384) :
    Calls Try.prog 15 #[.pointer (some ⟨g, 0, none⟩), .int .i64 n] w fun e w' => ∃ v' : Value, e = .returned v' ∧ sat w0 w' (Row v' ((l.drop at_).take n.toNat) :: RB g v mo (at_ + ((l.drop at_).take n.toNat).length : Nat) over :: Row v l :: R) := by
  obtain ⟨r, hr⟩ : ∃ r, l.length = at_ + r := ⟨l.length - at_, by omega⟩
  obtain ⟨d, hd⟩ : ∃ d, d = (l.drop at_).take n.toNat := ⟨_, rfl⟩
  have hdl : d.length = min n.toNat r := by rw [hd, List.length_take, List.length_drop]; omega
  have hj : mx 0 (mn n ((at_ : Int) + r - at_)) = (d.length : Int) := by rw [mx_eq, mn_eq]; omega
  have hjr : d.length ≤ r := by omega
  have HD := Lib.hid (And.intro hd hdl)
  rw [← hd]
  clear hd hdl
  have key : (v = .slice none 0 0 ∧ at_ = 0 ∧ r = 0) ∨ ∃ b c, v = .slice (some ⟨b, 0, none⟩) (at_ + r) c ∧ at_ + r ≤ c ∧ c ≤ maxLen := by
    rcases (RowC.blk_of H.tail).2 with ⟨rfl, h0, _⟩ | ⟨b, c, cur, rfl, h1, h2, _⟩
    · exact .inl ⟨rfl, by omega, by omega⟩
    · exact .inr ⟨b, c, by rw [hr], by omega, h2⟩
  have hb := H.get.1
  have c0 := cellAt hb 0
  have c2 := cellAt hb 2
  simp at c0 c2
  clear hb
  have hrd : Rd w0 (RB g v mo at_ over :: Row v l :: R) v l := Rd.row.weak
  have hnon : Nonempty (SW w0 (RB g v mo at_ over :: Row v l :: R)) := ⟨⟨w, H⟩⟩
  have hcl0 : ∀ x : SW w0 (RB g v mo at_ over :: Row v l :: R), x.w.cell? ⟨g, 0, none⟩ = some v := fun x => cellAt x.h.get.1 0
  have hcl2 : ∀ x : SW w0 (RB g v mo at_ over :: Row v l :: R), x.w.cell? ⟨g, 2, none⟩ = some (.int .i64 at_) := fun x => cellAt x.h.get.1 2
  have HH := Lib.hid H
  have HR := Lib.hid hr
  clear H hr
  rcases key with ⟨rfl, rfl, rfl⟩ | ⟨b, c, rfl, hc1, hc2⟩
  · obtain rfl : d = [] := List.eq_nil_of_length_eq_zero (by omega)
    have hj' : mx 0 (mn n 0) = 0 := by simpa using hj
    have HC : Hid (Rd w0 (RB g (.slice none 0 0) mo 0 over :: Row (.slice none 0 0) l :: R) (.slice none 0 0) []) := Lib.hid (Rd.old ⟨rfl, .inl ⟨rfl, rfl⟩⟩)
    have hcl2' : ∀ x : SW w0 (RB g (.slice none 0 0) mo 0 over :: Row (.slice none 0 0) l :: R), x.w.cell? ⟨g, 2, none⟩ = some (.int .i64 0) := hcl2
    clear hj hrd hcl2
    go_enter Try.func15, Try.ntmps15
    go_wp2
    go_quiet (fail)
    go_wp2
    refine wp_region_mix (fun u => ∃ x : SW w0 (RB g (.slice none 0 0) mo 0 over :: Row (.slice none 0 0) l :: R), u = x.w) [1, 2, 3, 4, 5, 6, 7, 8, 9, 10, 11, 12, 13, 14, 15, 0, 16, 17] [1, 2, 3, 4, 5, 6, 7, 8, 9, 10, 11, 12, 13, 14, 15] (by kernel_rfl) (by kernel_rfl) ⟨⟨_, (HH.out.drewN nq).drew⟩, rfl⟩ ?_
    repeat (first | ((first | refine mix_a rfl (by decide +kernel) rfl (fun K hK => ?_) | refine mix_q rfl (by decide +kernel) rfl (fun K hK => ?_)); go_big_quiet_op; refine hK _ ?_; clear hK K) | (refine mix_s rfl rfl (by decide +kernel) ?_; simp only [Act.put, List.setIfInBounds_toArray, List.set_cons_zero, List.set_cons_succ]))
    refine mix_lC rfl rfl rfl (fun K hK => ?_)
    refine op_build0 rfl Try.underlying29 info5 (HH.out.drewN nq).drew ?_
    intro v1 w1 H1
    obtain ⟨a1, c1, rfl, _, _⟩ := RowC.form H1
    refine hK _ _ ⟨⟨_, H1.tail⟩, rfl⟩ ?_
    clear hK K
    simp only [Act.put, List.setIfInBounds_toArray, List.set_cons_zero, List.set_cons_succ]
    refine mix_l rfl (by decide +kernel) rfl (fun K hK => ?_)
    refine op_append_bytes (l := []) (m := []) (y := (.slice none 0 0)) rfl Try.underlying29 info5 rfl rfl H1 (HC.out _ H1.tail) (by simp) ?_
    clear H1
    intro v2 w2 H1 _
    obtain ⟨a2, c2', rfl, _, _⟩ := Row.form H1
    have HB := Lib.hid (show sat w0 w2 (Row (.slice a2 0 c2') [] :: _) from H1)
    have hc2 : w2.cell? ⟨g, 2, none⟩ = some (.int .i64 0) := cellAt H1.tail.get.1 2
    have f2 := frozenAt H1.tail.get.1 2
    clear H1
    refine hK _ _ ?_; clear hK K; (try simp only [Act.put, List.setIfInBounds_toArray, List.set_cons_zero, List.set_cons_succ])
    repeat (first | ((first | refine mix_a rfl (by decide +kernel) rfl (fun K hK => ?_) | refine mix_q rfl (by decide +kernel) rfl (fun K hK => ?_)); go_big_quiet_op; refine hK _ ?_; clear hK K) | (refine mix_s rfl rfl (by decide +kernel) ?_; simp only [Act.put, List.setIfInBounds_toArray, List.set_cons_zero, List.set_cons_succ]))
    refine mix_nil ?_
    go_wp2
    go_ret
    exact ⟨.slice a2 0 c2', rfl, (HB.out.swap.store _).swap⟩
  · unfold maxLen at hc2
    by_cases hcap : c = at_
    · subst hcap
      have HC : Hid (Rd w0 (RB g (.slice (some ⟨b, 0, none⟩) (c + r) c) mo c over :: Row (.slice (some ⟨b, 0, none⟩) (c + r) c) l :: R) (.slice (some ⟨b, 0, none⟩) d.length 0) d) := Lib.hid fun w' hw' => by
        have h0 : d.length = 0 := by omega
        have := (hrd w' hw').dropAll (n := l.length) (a' := some ⟨b, 0, none⟩) (c' := 0) (Nat.le_refl _) ⟨rfl, rfl, by unfold maxLen; omega⟩
        rw [List.drop_eq_nil_of_le (Nat.le_refl _)] at this
        rw [h0, List.eq_nil_of_length_eq_zero h0]; exact this
      clear hrd
      go_enter Try.func15, Try.ntmps15
      go_wp2
      go_quiet (fail)
      go_wp2
      refine wp_region_mix (fun u => ∃ x : SW w0 (RB g (.slice (some ⟨b, 0, none⟩) (c + r) c) mo c over :: Row (.slice (some ⟨b, 0, none⟩) (c + r) c) l :: R), u = x.w) [1, 2, 3, 4, 5, 6, 7, 8, 9, 10, 11, 12, 13, 14, 15, 0, 16, 17] [1, 2, 3, 4, 5, 6, 7, 8, 9, 10, 11, 12, 13, 14, 15] (by kernel_rfl) (by kernel_rfl) ⟨⟨_, (HH.out.drewN nq).drew⟩, rfl⟩ ?_
      repeat (first | ((first | refine mix_a rfl (by decide +kernel) rfl (fun K hK => ?_) | refine mix_q rfl (by decide +kernel) rfl (fun K hK => ?_)); go_big_quiet_op; refine hK _ ?_; clear hK K) | (refine mix_s rfl rfl (by decide +kernel) ?_; simp only [Act.put, List.setIfInBounds_toArray, List.set_cons_zero, List.set_cons_succ]))
      refine mix_lC rfl rfl rfl (fun K hK => ?_)
      refine op_build0 rfl Try.underlying29 info5 (HH.out.drewN nq).drew ?_
      intro v1 w1 H1
      obtain ⟨a1, c1, rfl, _, _⟩ := RowC.form H1
      refine hK _ _ ⟨⟨_, H1.tail⟩, rfl⟩ ?_
      clear hK K
      simp only [Act.put, List.setIfInBounds_toArray, List.set_cons_zero, List.set_cons_succ]
      refine mix_l rfl (by decide +kernel) rfl (fun K hK => ?_)
      refine op_append_bytes (l := []) (m := d) (y := (.slice (some ⟨b, 0, none⟩) (c + d.length - c) 0)) rfl Try.underlying29 info5 rfl rfl H1 (by rw [Nat.add_sub_cancel_left]; exact HC.out _ H1.tail) (by have := HR.out; simp only [List.length_nil]; omega) ?_
      clear H1
      intro v2 w2 H1 _
      obtain ⟨a2, c2', rfl, _, _⟩ := Row.form H1
      have HB := Lib.hid (show sat w0 w2 (Row (.slice a2 d.length c2') d :: _) from H1)
      have hc2 : w2.cell? ⟨g, 2, none⟩ = some (.int .i64 c) := cellAt H1.tail.get.1 2
      have f2 := frozenAt H1.tail.get.1 2
      clear H1
      refine hK _ _ ?_; clear hK K; (try simp only [Act.put, List.setIfInBounds_toArray, List.set_cons_zero, List.set_cons_succ])
      repeat (first | ((first | refine mix_a rfl (by decide +kernel) rfl (fun K hK => ?_) | refine mix_q rfl (by decide +kernel) rfl (fun K hK => ?_)); go_big_quiet_op; refine hK _ ?_; clear hK K) | (refine mix_s rfl rfl (by decide +kernel) ?_; simp only [Act.put, List.setIfInBounds_toArray, List.set_cons_zero, List.set_cons_succ]))
      refine mix_nil ?_
      go_wp2
      go_ret
      exact ⟨.slice a2 d.length c2', rfl, (HB.out.swap.store _).swap⟩
    · have HC : Hid (Rd w0 (RB g (.slice (some ⟨b, 0, none⟩) (at_ + r) c) mo at_ over :: Row (.slice (some ⟨b, 0, none⟩) (at_ + r) c) l :: R) (.slice (some ⟨b, at_, none⟩) d.length (c - at_)) d) := Lib.hid fun w' hw' => by
        have h1 := (hrd w' hw').drop at_ HR.out
        rw [Nat.zero_add] at h1
        have h2 := h1.takeAs (n := n.toNat) (N := d.length) (by rw [List.length_drop, HR.out, HD.out.2]; omega)
        rw [← HD.out.1] at h2
        exact h2
      clear hrd
      go_enter Try.func15, Try.ntmps15
      go_wp2
      go_quiet (fail)
      go_wp2
      refine wp_region_mix (fun u => ∃ x : SW w0 (RB g (.slice (some ⟨b, 0, none⟩) (at_ + r) c) mo at_ over :: Row (.slice (some ⟨b, 0, none⟩) (at_ + r) c) l :: R), u = x.w) [1, 2, 3, 4, 5, 6, 7, 8, 9, 10, 11, 12, 13, 14, 15, 0, 16, 17] [1, 2, 3, 4, 5, 6, 7, 8, 9, 10, 11, 12, 13, 14, 15] (by kernel_rfl) (by kernel_rfl) ⟨⟨_, (HH.out.drewN nq).drew⟩, rfl⟩ ?_
      repeat (first | ((first | refine mix_a rfl (by decide +kernel) rfl (fun K hK => ?_) | refine mix_q rfl (by decide +kernel) rfl (fun K hK => ?_)); go_big_quiet_op; refine hK _ ?_; clear hK K) | (refine mix_s rfl rfl (by decide +kernel) ?_; simp only [Act.put, List.setIfInBounds_toArray, List.set_cons_zero, List.set_cons_succ]))
      refine mix_lC rfl rfl rfl (fun K hK => ?_)
      refine op_build0 rfl Try.underlying29 info5 (HH.out.drewN nq).drew ?_
      intro v1 w1 H1
      obtain ⟨a1, c1, rfl, _, _⟩ := RowC.form H1
      refine hK _ _ ⟨⟨_, H1.tail⟩, rfl⟩ ?_
      clear hK K
      simp only [Act.put, List.setIfInBounds_toArray, List.set_cons_zero, List.set_cons_succ]
      refine mix_l rfl (by decide +kernel) rfl (fun K hK => ?_)
      refine op_append_bytes (l := []) (m := d) (y := (.slice (some ⟨b, at_, none⟩) (at_ + d.length - at_) (c - at_))) rfl Try.underlying29 info5 rfl rfl H1 (by rw [Nat.add_sub_cancel_left]; exact HC.out _ H1.tail) (by have := HR.out; simp only [List.length_nil]; omega) ?_
      clear H1
      intro v2 w2 H1 _
      obtain ⟨a2, c2', rfl, _, _⟩ := Row.form H1
      have HB := Lib.hid (show sat w0 w2 (Row (.slice a2 d.length c2') d :: _) from H1)
      have hc2 : w2.cell? ⟨g, 2, none⟩ = some (.int .i64 at_) := cellAt H1.tail.get.1 2
      have f2 := frozenAt H1.tail.get.1 2
      clear H1
      refine hK _ _ ?_; clear hK K; (try simp only [Act.put, List.setIfInBounds_toArray, List.set_cons_zero, List.set_cons_succ])
      repeat (first | ((first | refine mix_a rfl (by decide +kernel) rfl (fun K hK => ?_) | refine mix_q rfl (by decide +kernel) rfl (fun K hK => ?_)); go_big_quiet_op; refine hK _ ?_; clear hK K) | (refine mix_s rfl rfl (by decide +kernel) ?_; simp only [Act.put, List.setIfInBounds_toArray, List.set_cons_zero, List.set_cons_succ]))
      refine mix_nil ?_
      go_wp2
      go_ret
      exact ⟨.slice a2 d.length c2', rfl, (HB.out.swap.store _).swap⟩
end Go.Proofs.Ythhomgmnmbpldaa
