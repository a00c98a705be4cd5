/- What a proxy tells: its log, its audits, a connection, how many live. -/
import Derived.Test.YtonipcfnhmnnlaaGreatDoorCT17
namespace Go.Proofs.YtonipcfnhmnnlaaGreatDoor
open Go Go.RowKit Hg
set_option linter.unusedVariables false
set_option linter.unusedSimpArgs false
attribute [local go_sem] Lib.run_eql_slice_nil run_min2 run_max2 run_min_two run_max_two
set_option maxHeartbeats 400000 in
set_option maxRecDepth 100000 in
theorem log_clone (v : Value) (l : List EV) (hl : l.length ≤ 900000) (R : List Asn) (w0 w : World) (H : sat w0 w (RowE v l :: R)) :
    Calls Tryz.prog 51 #[v] w fun e w' => ∃ v' : Value, e = .returned v' ∧ sat w0 w' (RowE v' l :: RowE v l :: R) := by
  have h0 := (RowC.blk_of H).2
  rcases h0 with ⟨rfl, h1, h2⟩ | ⟨b, c, cur, rfl, h1, _⟩
  · have h1' : l = [] := List.eq_nil_of_length_eq_zero h1
    subst h1'
    have HH := Lib.hid H
    clear H h1 h2
    go_enter Tryz.func51, Tryz.ntmps51
    go_wp2
    go_ret
    exact ⟨_, rfl, RowC.nil HH.out _ _⟩
  · have HH := Lib.hid H
    clear H
    go_enter Tryz.func51, Tryz.ntmps51
    go_wp2_with (at_builtin; refine BigFrame.wpList_want (by rfl) fun K' hK' => ?_; refine op_append_evs (l := []) (m := l) (by rfl) (by rfl) (by rfl) (RowC.of_blk (cap := 0) (HH.out.alloc (.cells #[] 51)) 0 [] rfl (Nat.le_refl _) (Nat.zero_le _) rfl rfl) (RowC.readsC (HH.out.alloc _).tail) (by simp; omega) ?_; intro v' w1 H1; refine hK' _ _ ?_; clear hK' K'; have HA := Lib.hid H1; clear H1)
    go_ret
    exact ⟨_, rfl, HA.out⟩
set_option maxRecDepth 100000 in
theorem plog (p g N : Nat) (q : PV) (s : CV) (hl : q.log.length ≤ 900000) (R : List Asn) (w0 w : World) (H : sat w0 w (SysA p g N q s :: R)) :
    Calls Tryz.prog 17 #[.pointer (some ⟨p, 0, none⟩)] w fun e w' => ∃ v' : Value, e = .returned v' ∧ sat w0 w' (RowE v' q.log :: SysA p g N q s :: R) := by
  obtain ⟨x, h⟩ := SysA.open H
  have c0 : w.cell? ⟨p, 0, none⟩ = some (.int .i64 16384) := PX.at _ _ _ _ _ _ _ _ h 0
  have cl : w.cell? ⟨p, 11, none⟩ = some x.lg := PX.at _ _ _ _ _ _ _ _ h 11
  have HC := Lib.hid ((log_clone x.lg q.log hl _ w0 w (h.pick 2 rfl)))
  clear h H
  go_enter Tryz.func17, Tryz.ntmps17
  go_wp2_with (go_at_call 51; refine HC.out.mono ?_; rintro e w1 ⟨v1, rfl, H1⟩; have HD := Lib.hid H1; clear H1)
  go_ret
  exact ⟨v1, rfl, (SysA.close x (HD.out.re 8 [2, 3, 1, 4, 5, 6, 7, 0] [] rfl)).swap⟩
set_option maxHeartbeats 400000 in
set_option maxRecDepth 100000 in
theorem audits_clone (v : Value) (l : List AU) (hl : l.length ≤ 900000) (R : List Asn) (w0 w : World) (H : sat w0 w (RowU v l :: R)) :
    Calls Tryz.prog 52 #[v] w fun e w' => ∃ v' : Value, e = .returned v' ∧ sat w0 w' (RowU v' l :: RowU v l :: R) := by
  have h0 := (RowC.blk_of H).2
  rcases h0 with ⟨rfl, h1, h2⟩ | ⟨b, c, cur, rfl, h1, _⟩
  · have h1' : l = [] := List.eq_nil_of_length_eq_zero h1
    subst h1'
    have HH := Lib.hid H
    clear H h1 h2
    go_enter Tryz.func52, Tryz.ntmps52
    go_wp2
    go_ret
    exact ⟨_, rfl, RowC.nil HH.out _ _⟩
  · have HH := Lib.hid H
    clear H
    go_enter Tryz.func52, Tryz.ntmps52
    go_wp2_with (at_builtin; refine BigFrame.wpList_want (by rfl) fun K' hK' => ?_; refine op_append_aus (l := []) (m := l) (by rfl) (by rfl) (by rfl) (RowC.of_blk (cap := 0) (HH.out.alloc (.cells #[] 60)) 0 [] rfl (Nat.le_refl _) (Nat.zero_le _) rfl rfl) (RowC.readsC (HH.out.alloc _).tail) (by simp; omega) ?_; intro v' w1 H1; refine hK' _ _ ?_; clear hK' K'; have HA := Lib.hid H1; clear H1)
    go_ret
    exact ⟨_, rfl, HA.out⟩
set_option maxRecDepth 100000 in
theorem paudits (p g N : Nat) (q : PV) (s : CV) (hl : q.au.length ≤ 900000) (R : List Asn) (w0 w : World) (H : sat w0 w (SysA p g N q s :: R)) :
    Calls Tryz.prog 18 #[.pointer (some ⟨p, 0, none⟩)] w fun e w' => ∃ v' : Value, e = .returned v' ∧ sat w0 w' (RowU v' q.au :: SysA p g N q s :: R) := by
  obtain ⟨x, h⟩ := SysA.open H
  have c0 : w.cell? ⟨p, 0, none⟩ = some (.int .i64 16384) := PX.at _ _ _ _ _ _ _ _ h 0
  have cl : w.cell? ⟨p, 12, none⟩ = some x.au := PX.at _ _ _ _ _ _ _ _ h 12
  have HC := Lib.hid ((audits_clone x.au q.au hl _ w0 w (h.pick 3 rfl)))
  clear h H
  go_enter Tryz.func18, Tryz.ntmps18
  go_wp2_with (go_at_call 52; refine HC.out.mono ?_; rintro e w1 ⟨v1, rfl, H1⟩; have HD := Lib.hid H1; clear H1)
  go_ret
  exact ⟨v1, rfl, (SysA.close x (HD.out.re 8 [2, 3, 4, 1, 5, 6, 7, 0] [] rfl)).swap⟩
set_option maxHeartbeats 400000 in
set_option maxRecDepth 100000 in
theorem conn_some (p mt mc g : Nat) (relay ct ca cver : Int) (k : ByteArray × Int) (lg au : Value) (M : List ((ByteArray × Int) × Value)) (hget0 : getA k M = some (.agg #[.pointer (some ⟨g, 0, none⟩), .int .i64 cver]))
    (R : List Asn) (w0 w : World) (H : sat w0 w (PX p relay ct ca mt mc lg au :: MapA encK mc M :: R)) :
    Calls Tryz.prog 19 #[.pointer (some ⟨p, 0, none⟩), encK k] w fun e w' => e = .returned (.tuple #[.pointer (some ⟨g, 0, none⟩), .bool true]) ∧ sat w0 w' (PX p relay ct ca mt mc lg au :: MapA encK mc M :: R) := by
  obtain ⟨kt, kn⟩ := k
  rw [show encK (kt, kn) = .agg #[.string kt, .int .i64 kn] from rfl]
  have hget' := Lib.hid hget0
  have h := (H.alloc (.cells #[.string kt, .int .i64 kn] 34)).re 3 [1, 2, 0] [] rfl
  have HB := Lib.hid (show sat w0 (w.alloc (.cells #[.string kt, .int .i64 kn] 34)) (PX p relay ct ca mt mc lg au :: MapA encK mc M :: blk w.heap.size (.cells #[.string kt, .int .i64 kn] 34) :: R) from h)
  clear H h hget0
  go_enter Tryz.func19, Tryz.ntmps19
  go_wp2
  generalize hkb : w.heap.size = kb at *
  generalize (w.alloc _) = W1 at *
  obtain ⟨R2, hR⟩ : ∃ R2, R2 = PX p relay ct ca mt mc lg au :: MapA encK mc M :: blk kb (.cells #[.string kt, .int .i64 kn] 34) :: R := ⟨_, rfl⟩
  have hcl : sat w0 W1.drew R2 := by rw [hR]; exact HB.out.drew
  have hget := hget'.out
  have q0 : ∀ x : SW w0 R2, x.w.cell? ⟨p, 0, none⟩ = some (.int .i64 16384) := fun x => by subst hR; exact PX.at _ _ _ _ _ _ _ _ x.h 0
  have q10 : ∀ x : SW w0 R2, x.w.cell? ⟨p, 10, none⟩ = some (.map (some mc)) := fun x => by subst hR; exact PX.at _ _ _ _ _ _ _ _ x.h 10
  have qk0 : ∀ x : SW w0 R2, x.w.cell? ⟨kb, 0, none⟩ = some (.string kt) := fun x => by subst hR; exact cellAt x.h.tail.tail.get.1 0
  have qk1 : ∀ x : SW w0 R2, x.w.cell? ⟨kb, 1, none⟩ = some (.int .i64 kn) := fun x => by subst hR; exact cellAt x.h.tail.tail.get.1 1
  have ql : ∀ x : SW w0 R2, (Instr.lookup 89 (.map (some mc)) (.agg #[.string kt, .int .i64 kn]) true).run Tryz.prog x.w = .ok (.tuple #[.agg #[.pointer (some ⟨g, 0, none⟩), .int .i64 cver], .bool true]) x.w := fun x => by
    subst hR
    have h := MapA.lookup keyK Tryz.underlying89 (z := .agg #[.pointer none, .int .i64 0]) (by kernel_rfl) x.h.tail (kt, kn) true
    rw [hget, if_pos rfl] at h
    exact h
  clear hget
  have c0 := q0 ⟨_, hcl⟩
  have c10 := q10 ⟨_, hcl⟩
  have ck0 := qk0 ⟨_, hcl⟩
  have ck1 := qk1 ⟨_, hcl⟩
  have cl := ql ⟨_, hcl⟩
  dsimp only at c0 c10 ck0 ck1 cl
  have hnon : Nonempty (SW w0 R2) := ⟨⟨_, hcl⟩⟩
  have HR := Lib.hid hR
  clear hR
  refine wp_region_mix (fun u => ∃ x : SW w0 R2, u = x.w) [0, 1, 2, 3, 4, 5, 6, 7, 8, 9, 10, 11] [0, 1, 2, 3, 4, 5, 6, 7, 8] (by kernel_rfl) (by kernel_rfl) ⟨⟨_, hcl⟩, rfl⟩ ?_
  repeat (first | ((first | refine mix_a rfl (by decide +kernel) rfl (fun K hK => ?_) | refine mix_q rfl (by decide +kernel) rfl (fun K hK => ?_)); go_big_quiet_op; refine hK _ ?_; clear hK K) | (refine mix_s rfl rfl (by decide +kernel) ?_; simp only [Act.put, List.setIfInBounds_toArray, List.set_cons_zero, List.set_cons_succ]))
  refine mix_lC rfl rfl rfl (fun K hK => ?_)
  refine op_alloc rfl (z := .agg #[.pointer none, .int .i64 0]) (by kernel_rfl) rfl HB.out.drew ?_
  intro lb w2 H2
  refine hK _ _ ⟨⟨_, by rw [HR.out]; exact H2.tail⟩, rfl⟩ ?_
  have HC := Lib.hid H2
  clear hK K H2 HB
  simp only [Act.put, List.setIfInBounds_toArray, List.set_cons_zero, List.set_cons_succ]
  repeat (first | ((first | refine mix_a rfl (by decide +kernel) rfl (fun K hK => ?_) | refine mix_q rfl (by decide +kernel) rfl (fun K hK => ?_)); go_big_quiet_op; refine hK _ ?_; clear hK K) | (refine mix_s rfl rfl (by decide +kernel) ?_; simp only [Act.put, List.setIfInBounds_toArray, List.set_cons_zero, List.set_cons_succ]))
  refine mix_lC rfl rfl rfl (fun K hK => ?_)
  refine op_store (vs := [.pointer (some ⟨g, 0, none⟩), .int .i64 cver]) rfl (by kernel_rfl) rfl rfl rfl (by intro u hu; simp only [List.mem_cons, List.not_mem_nil, or_false] at hu; rcases hu with rfl | rfl <;> rfl) HC.out (Nat.le_refl _) ?_
  intro w3 H3
  refine hK _ _ ⟨⟨_, by rw [HR.out]; exact H3.tail⟩, rfl⟩ ?_
  have HD := Lib.hid H3
  have e0 : w3.cell? ⟨lb, 0, none⟩ = some (.pointer (some ⟨g, 0, none⟩)) := cellAt H3.get.1 0
  clear hK K H3 HC c0 c10 ck0 ck1 cl q0 q10 qk0 qk1 ql
  simp only [Act.put, List.setIfInBounds_toArray, List.set_cons_zero, List.set_cons_succ]
  repeat (first | ((first | refine mix_a rfl (by decide +kernel) rfl (fun K hK => ?_) | refine mix_q rfl (by decide +kernel) rfl (fun K hK => ?_)); go_big_quiet_op; refine hK _ ?_; clear hK K) | (refine mix_s rfl rfl (by decide +kernel) ?_; simp only [Act.put, List.setIfInBounds_toArray, List.set_cons_zero, List.set_cons_succ]))
  refine mix_nil ?_
  go_wp2
  go_ret2
  exact ⟨rfl, HD.out.re 4 [1, 2] [0, 3] rfl⟩
set_option maxHeartbeats 400000 in
set_option maxRecDepth 100000 in
theorem conn_none (p mt mc g : Nat) (relay ct ca cver : Int) (k : ByteArray × Int) (lg au : Value) (M : List ((ByteArray × Int) × Value)) (hget0 : getA k M = none)
    (R : List Asn) (w0 w : World) (H : sat w0 w (PX p relay ct ca mt mc lg au :: MapA encK mc M :: R)) :
    Calls Tryz.prog 19 #[.pointer (some ⟨p, 0, none⟩), encK k] w fun e w' => e = .returned (.tuple #[.pointer none, .bool false]) ∧ sat w0 w' (PX p relay ct ca mt mc lg au :: MapA encK mc M :: R) := by
  obtain ⟨kt, kn⟩ := k
  rw [show encK (kt, kn) = .agg #[.string kt, .int .i64 kn] from rfl]
  have hget' := Lib.hid hget0
  have h := (H.alloc (.cells #[.string kt, .int .i64 kn] 34)).re 3 [1, 2, 0] [] rfl
  have HB := Lib.hid (show sat w0 (w.alloc (.cells #[.string kt, .int .i64 kn] 34)) (PX p relay ct ca mt mc lg au :: MapA encK mc M :: blk w.heap.size (.cells #[.string kt, .int .i64 kn] 34) :: R) from h)
  clear H h hget0
  go_enter Tryz.func19, Tryz.ntmps19
  go_wp2
  generalize hkb : w.heap.size = kb at *
  generalize (w.alloc _) = W1 at *
  obtain ⟨R2, hR⟩ : ∃ R2, R2 = PX p relay ct ca mt mc lg au :: MapA encK mc M :: blk kb (.cells #[.string kt, .int .i64 kn] 34) :: R := ⟨_, rfl⟩
  have hcl : sat w0 W1.drew R2 := by rw [hR]; exact HB.out.drew
  have hget := hget'.out
  have q0 : ∀ x : SW w0 R2, x.w.cell? ⟨p, 0, none⟩ = some (.int .i64 16384) := fun x => by subst hR; exact PX.at _ _ _ _ _ _ _ _ x.h 0
  have q10 : ∀ x : SW w0 R2, x.w.cell? ⟨p, 10, none⟩ = some (.map (some mc)) := fun x => by subst hR; exact PX.at _ _ _ _ _ _ _ _ x.h 10
  have qk0 : ∀ x : SW w0 R2, x.w.cell? ⟨kb, 0, none⟩ = some (.string kt) := fun x => by subst hR; exact cellAt x.h.tail.tail.get.1 0
  have qk1 : ∀ x : SW w0 R2, x.w.cell? ⟨kb, 1, none⟩ = some (.int .i64 kn) := fun x => by subst hR; exact cellAt x.h.tail.tail.get.1 1
  have ql : ∀ x : SW w0 R2, (Instr.lookup 89 (.map (some mc)) (.agg #[.string kt, .int .i64 kn]) true).run Tryz.prog x.w = .ok (.tuple #[.agg #[.pointer none, .int .i64 0], .bool false]) x.w := fun x => by
    subst hR
    have h := MapA.lookup keyK Tryz.underlying89 (z := .agg #[.pointer none, .int .i64 0]) (by kernel_rfl) x.h.tail (kt, kn) true
    rw [hget, if_pos rfl] at h
    exact h
  clear hget
  have c0 := q0 ⟨_, hcl⟩
  have c10 := q10 ⟨_, hcl⟩
  have ck0 := qk0 ⟨_, hcl⟩
  have ck1 := qk1 ⟨_, hcl⟩
  have cl := ql ⟨_, hcl⟩
  dsimp only at c0 c10 ck0 ck1 cl
  have hnon : Nonempty (SW w0 R2) := ⟨⟨_, hcl⟩⟩
  have HR := Lib.hid hR
  clear hR
  refine wp_region_mix (fun u => ∃ x : SW w0 R2, u = x.w) [0, 1, 2, 3, 4, 5, 6, 7, 8, 9, 10, 11] [0, 1, 2, 3, 4, 5, 6, 7, 8] (by kernel_rfl) (by kernel_rfl) ⟨⟨_, hcl⟩, rfl⟩ ?_
  repeat (first | ((first | refine mix_a rfl (by decide +kernel) rfl (fun K hK => ?_) | refine mix_q rfl (by decide +kernel) rfl (fun K hK => ?_)); go_big_quiet_op; refine hK _ ?_; clear hK K) | (refine mix_s rfl rfl (by decide +kernel) ?_; simp only [Act.put, List.setIfInBounds_toArray, List.set_cons_zero, List.set_cons_succ]))
  refine mix_lC rfl rfl rfl (fun K hK => ?_)
  refine op_alloc rfl (z := .agg #[.pointer none, .int .i64 0]) (by kernel_rfl) rfl HB.out.drew ?_
  intro lb w2 H2
  refine hK _ _ ⟨⟨_, by rw [HR.out]; exact H2.tail⟩, rfl⟩ ?_
  have HC := Lib.hid H2
  clear hK K H2 HB
  simp only [Act.put, List.setIfInBounds_toArray, List.set_cons_zero, List.set_cons_succ]
  repeat (first | ((first | refine mix_a rfl (by decide +kernel) rfl (fun K hK => ?_) | refine mix_q rfl (by decide +kernel) rfl (fun K hK => ?_)); go_big_quiet_op; refine hK _ ?_; clear hK K) | (refine mix_s rfl rfl (by decide +kernel) ?_; simp only [Act.put, List.setIfInBounds_toArray, List.set_cons_zero, List.set_cons_succ]))
  refine mix_lC rfl rfl rfl (fun K hK => ?_)
  refine op_store (vs := [.pointer none, .int .i64 0]) rfl (by kernel_rfl) rfl rfl rfl (by intro u hu; simp only [List.mem_cons, List.not_mem_nil, or_false] at hu; rcases hu with rfl | rfl <;> rfl) HC.out (Nat.le_refl _) ?_
  intro w3 H3
  refine hK _ _ ⟨⟨_, by rw [HR.out]; exact H3.tail⟩, rfl⟩ ?_
  have HD := Lib.hid H3
  have e0 : w3.cell? ⟨lb, 0, none⟩ = some (.pointer none) := cellAt H3.get.1 0
  clear hK K H3 HC c0 c10 ck0 ck1 cl q0 q10 qk0 qk1 ql
  simp only [Act.put, List.setIfInBounds_toArray, List.set_cons_zero, List.set_cons_succ]
  repeat (first | ((first | refine mix_a rfl (by decide +kernel) rfl (fun K hK => ?_) | refine mix_q rfl (by decide +kernel) rfl (fun K hK => ?_)); go_big_quiet_op; refine hK _ ?_; clear hK K) | (refine mix_s rfl rfl (by decide +kernel) ?_; simp only [Act.put, List.setIfInBounds_toArray, List.set_cons_zero, List.set_cons_succ]))
  refine mix_nil ?_
  go_wp2
  go_ret2
  exact ⟨rfl, HD.out.re 4 [1, 2] [0, 3] rfl⟩
theorem pconn_open (p g N : Nat) (q : PV) (s : CV) (ho : q.o = true) (R : List Asn) (w0 w : World) (H : sat w0 w (SysA p g N q s :: R)) :
    Calls Tryz.prog 19 #[.pointer (some ⟨p, 0, none⟩), encK kT] w fun e w' => e = .returned (.tuple #[.pointer (some ⟨g, 0, none⟩), .bool true]) ∧ sat w0 w' (SysA p g N q s :: R) := by
  obtain ⟨x, h⟩ := SysA.open H
  simp only [ho, if_true] at h
  refine (conn_some p x.mt x.mc g q.relay q.ct q.ca 1 kT x.lg x.au _ (get_kT g) _ w0 w h).mono ?_
  rintro e w' ⟨rfl, h2⟩
  refine ⟨rfl, SysA.close x ?_⟩
  simp only [ho, if_true]
  exact h2
theorem pconn_closed (p g N : Nat) (q : PV) (s : CV) (ho : q.o = false) (R : List Asn) (w0 w : World) (H : sat w0 w (SysA p g N q s :: R)) :
    Calls Tryz.prog 19 #[.pointer (some ⟨p, 0, none⟩), encK kT] w fun e w' => e = .returned (.tuple #[.pointer none, .bool false]) ∧ sat w0 w' (SysA p g N q s :: R) := by
  obtain ⟨x, h⟩ := SysA.open H
  simp only [ho, Bool.false_eq_true, if_false] at h
  refine (conn_none p x.mt x.mc 0 q.relay q.ct q.ca 0 kT x.lg x.au [] rfl _ w0 w h).mono ?_
  rintro e w' ⟨rfl, h2⟩
  refine ⟨rfl, SysA.close x ?_⟩
  simp only [ho, Bool.false_eq_true, if_false]
  exact h2
set_option maxRecDepth 100000 in
theorem of_calls (p mt mc tb j : Nat) (relay ct ca ver count live : Int) (t : ByteArray) (lg au : Value) (T : List (ByteArray × Value)) (hT : getA t T = some (.pointer (some ⟨tb, 0, none⟩)))
    (R : List Asn) (w0 w : World) (H : sat w0 w (PX p relay ct ca mt mc lg au :: MapA Value.string mt T :: TN tb j ver count live :: R)) :
    Calls Tryz.prog 32 #[.pointer (some ⟨p, 0, none⟩), .string t] w fun e w' => e = .returned (.agg #[.pointer (some ⟨j, 0, none⟩), .int .i64 ver, .int .i64 count, .int .i64 live]) ∧ sat w0 w' (PX p relay ct ca mt mc lg au :: MapA Value.string mt T :: TN tb j ver count live :: R) := by
  have HH := Lib.hid H
  have h := H.alloc (.cells #[.pointer none, .int .i64 0, .int .i64 0, .int .i64 0] 99)
  have c0 : ∀ o, (w.alloc o).cell? ⟨p, 0, none⟩ = some (.int .i64 16384) := fun o => PX.at _ _ _ _ _ _ _ _ (H.alloc o).tail 0
  have c9 : ∀ o, (w.alloc o).cell? ⟨p, 9, none⟩ = some (.map (some mt)) := fun o => PX.at _ _ _ _ _ _ _ _ (H.alloc o).tail 9
  have t0 : ∀ o, (w.alloc o).cell? ⟨tb, 0, none⟩ = some (.pointer (some ⟨j, 0, none⟩)) := fun o => cellAt ((H.alloc o).tail.tail.tail).get.1 0
  have t1 : ∀ o, (w.alloc o).cell? ⟨tb, 1, none⟩ = some (.int .i64 ver) := fun o => cellAt ((H.alloc o).tail.tail.tail).get.1 1
  have t2 : ∀ o, (w.alloc o).cell? ⟨tb, 2, none⟩ = some (.int .i64 count) := fun o => cellAt ((H.alloc o).tail.tail.tail).get.1 2
  have t3 : ∀ o, (w.alloc o).cell? ⟨tb, 3, none⟩ = some (.int .i64 live) := fun o => cellAt ((H.alloc o).tail.tail.tail).get.1 3
  have lk : ∀ o, (Instr.lookup 88 (.map (some mt)) (.string t) false).run Tryz.prog (w.alloc o) = .ok (.pointer (some ⟨tb, 0, none⟩)) (w.alloc o) := fun o => by
    have h := MapA.lookup (strKey Tryz.underlying9) Tryz.underlying88 (z := .pointer none) (by kernel_rfl) (H.alloc o).tail.tail t false
    rw [hT, if_neg (by decide), Option.getD_some] at h
    exact h
  clear H h hT
  go_enter Tryz.func32, Tryz.ntmps32
  go_wp2
  refine bodyPost_ret (results_cell_row rfl _ _ w.heap.size 99 #[.pointer (some ⟨j, 0, none⟩), .int .i64 ver, .int .i64 count, .int .i64 live] (0, 0) _ rfl (heap_alloc_new _ _) Tryz.underlying99 rfl (by kernel_rfl)) rfl ?_
  exact ⟨rfl, (HH.out.alloc _).tail⟩
theorem field99 (a0 a1 a2 a3 : Value) (w : World) : (Instr.field 99 (.agg #[a0, a1, a2, a3]) 3).run Tryz.prog w = .ok a3 w := by
  unfold Instr.field
  simp [go_sem, run_underlying Tryz.underlying99, asAgg]
set_option maxRecDepth 100000 in
theorem plive (p g N : Nat) (q : PV) (s : CV) (R : List Asn) (w0 w : World) (H : sat w0 w (SysA p g N q s :: R)) :
    Calls Tryz.prog 20 #[.pointer (some ⟨p, 0, none⟩), .string tT] w fun e w' => e = .returned (.int .i64 (if q.o then 1 else 0)) ∧ sat w0 w' (SysA p g N q s :: R) := by
  obtain ⟨x, h⟩ := SysA.open H
  have HC := Lib.hid (of_calls p x.mt x.mc x.tb x.j q.relay q.ct q.ca 1 1 (if q.o then 1 else 0) tT x.lg x.au _ (get_tT x.tb) _ w0 w (h.re 6 [0, 4, 5, 1, 2, 3] [] rfl))
  generalize hv : (if q.o then (1 : Int) else 0) = v at HC ⊢
  have HV := Lib.hid hv
  have hfl := fun w => field99 (.pointer (some ⟨x.j, 0, none⟩)) (.int .i64 1) (.int .i64 1) (.int .i64 v) w
  clear h H hv
  go_enter Tryz.func20, Tryz.ntmps20
  go_wp2_with (go_at_call 32; refine HC.out.mono ?_; rintro e w1 ⟨rfl, H1⟩; have HD := Lib.hid H1; clear H1)
  go_ret
  refine ⟨rfl, SysA.close x ?_⟩
  rw [HV.out]
  exact HD.out.re 6 [0, 3, 4, 5, 1, 2] [] rfl
end Go.Proofs.YtonipcfnhmnnlaaGreatDoor
