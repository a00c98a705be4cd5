import Derived.Test.YthhomgmnmbpldaaProg
import Derived.Test.YthhomgmnmbpldaaBase
import Derived.Test.YthhomgmnmbpldaaMix
import Derived.WalkSpells
namespace Go.Proofs.Ythhomgmnmbpldaa
open Go Go.RowKit Hg
set_option linter.unusedVariables false
set_option linter.unusedSimpArgs false
attribute [local go_sem] Lib.run_eql_slice_nil run_min2 run_max2 run_min_two run_max_two
theorem ret_int {k : IntKind} {a b : Int} (h : a = b) : Ending.returned (.int k a) = .returned (.int k b) := by rw [h]
def PB (g : Nat) (v : Value) (most at_ : Int) (over : Bool) : Asn := blk g (.cells #[v, .int .i64 most, .int .i64 at_, .bool over] 46)
theorem info5 : (Try.prog.info? 5).map (fun i => (i.zero, i.size, i.bytes)) = some (some (.int .u8 0), 1, 1) := by kernel_rfl
set_option maxHeartbeats 400000 in
theorem add_calls (g : Nat) (v : Value) (l : List UInt8) (mo : Nat) (at_ : Int) (over : Bool) (s : Value) (m : List UInt8) (R : List Asn) (w0 w : World)
    (H : sat w0 w (PB g v mo at_ over :: Row v l :: R)) (hs : Rd w0 R s m) (h1 : mo ≤ 16384) (hl : l.length ≤ mo) (hm : m.length ≤ 140737488351232) :
    Calls Try.prog 12 #[.pointer (some ⟨g, 0, none⟩), s] w fun e w' => ∃ v' : Value, e = .returned (.int .i64 (min m.length (mo - l.length) : Nat)) ∧ sat w0 w' (PB g v' mo at_ (over || decide (mo - l.length < m.length)) :: Row v' (l ++ m.take (mo - l.length)) :: R) := by
  obtain ⟨a, c, rfl, hc1, hc2⟩ := Row.form H.tail
  obtain ⟨b, d, rfl, hd1, hd2⟩ := Reads.form (hs w H.tail.tail)
  obtain ⟨j, hj, hjm⟩ : ∃ j : Nat, mn m.length (mo - l.length) = j ∧ j = min m.length (mo - l.length) := ⟨min m.length (mo - l.length), by rw [mn_eq]; omega, rfl⟩
  rw [← hjm]
  have hb := H.get.1
  have c0 := cellAt hb 0
  have c1 := cellAt hb 1
  simp at c0 c1
  clear hb
  have HH := Lib.hid H
  have HS := Lib.hid hs
  have HJ := Lib.hid hjm
  clear H hs
  unfold maxLen at hc2 hd2
  have hjl : j ≤ m.length := by omega
  clear hjm
  by_cases hc : j < m.length
  all_goals
    go_enter Try.func12, Try.ntmps12
    go_wp2
    go_quiet (fail)
    go_wp2
    refine wp_region_mix (fun u => ∃ x : World, u = x) [0, 1, 2, 3, 4, 5, 6, 7, 8, 9, 10, 11] [0] (by kernel_rfl) (by kernel_rfl) ⟨_, rfl⟩ ?_
    repeat (first | ((first | refine mix_a rfl (by decide +kernel) rfl (fun K hK => ?_) | refine mix_q rfl (by decide +kernel) rfl (fun K hK => ?_)); go_big_quiet_op; refine hK _ ?_; clear hK K) | (refine mix_s rfl rfl (by decide +kernel) ?_; simp only [Act.put, List.setIfInBounds_toArray, List.set_cons_zero, List.set_cons_succ]))
    refine mix_lC rfl rfl rfl (fun K hK => ?_)
    have H1 := (HH.out.swap.drewN nq).drew
    have hr := HS.out _ H1.tail.tail
    have hj2 := HJ.out
    refine op_append_bytes (m := m.take (mo - l.length)) rfl Try.underlying29 info5 rfl rfl H1 (hr.takeAs (by omega)) (by simp only [List.length_take]; omega) ?_
    clear H1 hr hj2
    intro v' w1 H1 _
    obtain ⟨a', c', rfl, _, _⟩ := Row.form H1
    refine hK _ _ ⟨_, rfl⟩ ?_
    clear hK K
    simp only [Act.put, List.setIfInBounds_toArray, List.set_cons_zero, List.set_cons_succ]
    repeat (first | ((first | refine mix_a rfl (by decide +kernel) rfl (fun K hK => ?_) | refine mix_q rfl (by decide +kernel) rfl (fun K hK => ?_)); go_big_quiet_op; refine hK _ ?_; clear hK K) | (refine mix_s rfl rfl (by decide +kernel) ?_; simp only [Act.put, List.setIfInBounds_toArray, List.set_cons_zero, List.set_cons_succ]))
    refine mix_l rfl (by decide +kernel) rfl (fun K hK => ?_)
    refine op_store1 (.slice a' _ c') rfl (by kernel_rfl) rfl rfl rfl rfl H1.swap (by simp) ?_
    clear H1
    intro w2 H2
    refine hK _ _ ?_; clear hK K; (try simp only [Act.put, List.setIfInBounds_toArray, List.set_cons_zero, List.set_cons_succ])
    refine mix_nil ?_
    have HB := Lib.hid H2
    have c3 : w2.cell? ⟨g, 3, none⟩ = some (.bool over) := cellAt H2.get.1 3
    have f3 := frozenAt H2.get.1 3
    clear H2
    go_wp2
    go_ret
    have hj2 := HJ.out
  · refine ⟨.slice a' (l ++ m.take (mo - l.length)).length c', rfl, ?_⟩
    rw [show (over || decide (mo - l.length < m.length)) = true by rw [decide_eq_true (by omega), Bool.or_true]]
    exact HB.out.store (.bool true)
  · refine ⟨.slice a' (l ++ m.take (mo - l.length)).length c', rfl, ?_⟩
    rw [show (over || decide (mo - l.length < m.length)) = over by rw [decide_eq_false (by omega), Bool.or_false]]
    exact HB.out

set_option maxHeartbeats 400000 in
theorem clone_calls (s : Value) (l : List UInt8) (R : List Asn) (w0 w : World) (H : sat w0 w R) (hs : Rd w0 R s l) (hl : l.length ≤ 140737488351232) :
    Calls Try.prog 21 #[s] w fun e w' => ∃ v' : Value, e = .returned v' ∧ sat w0 w' (Row v' l :: R) := by
  rcases (hs w H).cases with ⟨rfl, rfl⟩ | ⟨ad, cap, rfl, h1, h2, h3⟩
  · have HH := Lib.hid H
    clear H hs
    go_enter Try.func21, Try.ntmps21
    go_wp2
    go_ret
    exact ⟨_, rfl, Row.nil HH.out⟩
  · have HH := Lib.hid H
    have HS := Lib.hid hs
    clear H hs h3
    go_enter Try.func21, Try.ntmps21
    go_wp2_with (at_builtin; refine wp_append_bytes (l := []) rfl rfl Try.underlying29 info5 rfl rfl (RowC.of_blk (cap := 0) (HH.out.alloc (.cells #[] 5)) 0 [] rfl (Nat.le_refl _) (Nat.zero_le _) rfl rfl) (HS.out _ (HH.out.alloc _).tail) (by simp; omega) ?_; intro v' w1 H1 _)
    go_ret
    exact ⟨_, rfl, H1⟩

set_option maxHeartbeats 400000 in
theorem next_calls (g : Nat) (v : Value) (l : List UInt8) (mo : Int) (at_ : Nat) (over : Bool) (n : Int) (R : List Asn) (w0 w : World)
    (H : sat w0 w (PB g v mo at_ over :: Row v l :: R)) (hat : at_ ≤ l.length) (hl : l.length ≤ 16384) :
    Calls Try.prog 14 #[.pointer (some ⟨g, 0, none⟩), .int .i64 n] w fun e w' => ∃ v' : Value, e = .returned v' ∧ sat w0 w' (Row v' ((l.drop at_).take n.toNat) :: PB g v mo (at_ + ((l.drop at_).take n.toNat).length : Nat) over :: Row v l :: R) := by
  obtain ⟨r, hr⟩ : ∃ r, l.length = at_ + r := ⟨l.length - at_, by omega⟩
  obtain ⟨d, hd⟩ : ∃ d, d = (l.drop at_).take n.toNat := ⟨_, rfl⟩
  have hdl : d.length = min n.toNat r := by rw [hd, List.length_take, List.length_drop]; omega
  have hj : mx 0 (mn n r) = (d.length : Int) := by rw [mx_eq, mn_eq]; omega
  have hjr : d.length ≤ r := by omega
  have HD := Lib.hid (And.intro hd hdl)
  rw [← hd]
  clear hd hdl
  have key : (v = .slice none 0 0 ∧ at_ = 0 ∧ r = 0) ∨ ∃ b c, v = .slice (some ⟨b, 0, none⟩) (at_ + r) c ∧ at_ + r ≤ c ∧ c ≤ maxLen := by
    rcases (RowC.blk_of H.tail).2 with ⟨rfl, h0, _⟩ | ⟨b, c, cur, rfl, h1, h2, _⟩
    · exact .inl ⟨rfl, by omega, by omega⟩
    · exact .inr ⟨b, c, by rw [hr], by omega, h2⟩
  have hb := H.get.1
  have c0 := cellAt hb 0
  have c2 := cellAt hb 2
  simp at c0 c2
  clear hb
  have hrd : Rd w0 (PB g v mo at_ over :: Row v l :: R) v l := Rd.row.weak
  have HH := Lib.hid H
  have HR := Lib.hid hr
  clear H hr
  rcases key with ⟨rfl, rfl, rfl⟩ | ⟨b, c, rfl, hc1, hc2⟩
  · obtain rfl : d = [] := List.eq_nil_of_length_eq_zero (by omega)
    have hj' : mx 0 (mn n 0) = 0 := hj
    have HC : Hid (Rd w0 (PB g (.slice none 0 0) mo 0 over :: Row (.slice none 0 0) l :: R) (.slice none 0 0) []) := Lib.hid (Rd.old ⟨rfl, .inl ⟨rfl, rfl⟩⟩)
    clear hj hrd
    go_enter Try.func14, Try.ntmps14
    go_wp2
    go_quiet (fail)
    go_wp2_with (go_at_call 21; refine (clone_calls _ _ _ w0 _ (HH.out.drewN _) HC.out (by simp)).mono ?_; rintro e w1 ⟨v', rfl, H1⟩; have c2 : w1.cell? ⟨g, 2, none⟩ = some (.int .i64 0) := cellAt H1.tail.get.1 2; have f2 := frozenAt H1.tail.get.1 2; obtain ⟨a', c', rfl, hx1, hx2⟩ := Row.form H1; have HB := Lib.hid H1; clear H1)
    go_ret
    exact ⟨.slice a' 0 c', rfl, (HB.out.swap.store _).swap⟩
  · unfold maxLen at hc2
    by_cases hcap : c = at_
    · have HC : Hid (Rd w0 (PB g (.slice (some ⟨b, 0, none⟩) (at_ + r) c) mo at_ over :: Row (.slice (some ⟨b, 0, none⟩) (at_ + r) c) l :: R) (.slice (some ⟨b, 0, none⟩) d.length 0) d) := Lib.hid fun w' hw' => by
        have h0 : d.length = 0 := by omega
        have := (hrd w' hw').dropAll (n := l.length) (a' := some ⟨b, 0, none⟩) (c' := 0) (Nat.le_refl _) ⟨rfl, rfl, by unfold maxLen; omega⟩
        rw [List.drop_eq_nil_of_le (Nat.le_refl _)] at this
        rw [h0, List.eq_nil_of_length_eq_zero h0]; exact this
      clear hrd
      go_enter Try.func14, Try.ntmps14
      go_wp2
      go_quiet (fail)
      go_wp2_with (go_at_call 21; refine (clone_calls _ _ _ w0 _ (HH.out.drewN _) HC.out (by have := HR.out; omega)).mono ?_; rintro e w1 ⟨v', rfl, H1⟩; have c2 : w1.cell? ⟨g, 2, none⟩ = some (.int .i64 at_) := cellAt H1.tail.get.1 2; have f2 := frozenAt H1.tail.get.1 2; obtain ⟨a', c', rfl, hx1, hx2⟩ := Row.form H1; have HB := Lib.hid H1; clear H1)
      go_ret
      exact ⟨.slice a' d.length c', rfl, (HB.out.swap.store _).swap⟩
    · have HC : Hid (Rd w0 (PB g (.slice (some ⟨b, 0, none⟩) (at_ + r) c) mo at_ over :: Row (.slice (some ⟨b, 0, none⟩) (at_ + r) c) l :: R) (.slice (some ⟨b, at_, none⟩) d.length (c - at_)) d) := Lib.hid fun w' hw' => by
        have h1 := (hrd w' hw').drop at_ HR.out
        rw [Nat.zero_add] at h1
        have h2 := h1.takeAs (n := n.toNat) (N := d.length) (by rw [List.length_drop, HR.out, HD.out.2]; omega)
        rw [← HD.out.1] at h2
        exact h2
      clear hrd
      go_enter Try.func14, Try.ntmps14
      go_wp2
      go_quiet (fail)
      go_wp2_with (go_at_call 21; refine (clone_calls _ _ _ w0 _ (HH.out.drewN _) HC.out (by have := HR.out; omega)).mono ?_; rintro e w1 ⟨v', rfl, H1⟩; have c2 : w1.cell? ⟨g, 2, none⟩ = some (.int .i64 at_) := cellAt H1.tail.get.1 2; have f2 := frozenAt H1.tail.get.1 2; obtain ⟨a', c', rfl, hx1, hx2⟩ := Row.form H1; have HB := Lib.hid H1; clear H1)
      go_ret
      exact ⟨.slice a' d.length c', rfl, (HB.out.swap.store _).swap⟩
end Go.Proofs.Ythhomgmnmbpldaa
