/- The proxy has a connection do something. -/
import Derived.Test.YtonipcfnhmnnlaaGreatDoorCT12
namespace Go.Proofs.YtonipcfnhmnnlaaGreatDoor
open Go Go.RowKit Hg
set_option linter.unusedVariables false
set_option linter.unusedSimpArgs false
attribute [local go_sem] Lib.run_eql_slice_nil run_min2 run_max2 run_min_two run_max_two
/-- A call of a function value. -/
theorem op_callv {P : Program} {o : Oper} {a : Act} {K : Act → World → Prop} {Q : Exit → Act → World → Prop} {f : FuncId} {fn : Func} {x : Operand} {xs : List Operand} {ats : Array TypeId} (ho : o.op = .call { callee := .value x, args := xs.toArray, argTypes := ats }) {first cap : Array Value} (hx : a.eval x = .func (.func f) first cap)
    (hf : P.funcs[f]? = some fn) (hname : (fn.name == "runtime.NumGoroutine") = false) (hb : fn.body.isNone = false) {w : World} {vs : List Value} {args : Array Value} {R : Ending → World → Prop} (hc : Calls P f args w R) (hv : xs.map a.eval = vs) (hargs : first ++ vs.toArray ++ cap = args)
    (hk : ∀ e w', R e w' → ∃ v, e = .returned v ∧ K (a.put o.dst v) w') : o.wp P a w K Q := by
  subst hargs
  have h1 : ¬ fn.name = "runtime.NumGoroutine" := by simpa using hname
  have h2 : ¬ fn.body = none := by cases hx : fn.body <;> simp_all
  have hrun : (execOp a.eval o).run P w = .ok (.enter f (first ++ vs.toArray ++ cap)) w := by
    have e : xs.toArray.map a.eval = vs.toArray := by simp [hv]
    unfold execOp
    simp only [ho, resolve, hx, Deferred.ofValue, e]
    simp [invoke, callFunc, hf, h1, h2]
  unfold Oper.wp
  rw [hrun, Oper.upon_enter]
  refine hc.mono fun e w' hr => ?_
  obtain ⟨v, rfl, hv⟩ := hk e w' hr
  exact hv
theorem satDrop {w0 w : World} : ∀ {L X : List Asn}, sat w0 w (L ++ X) → sat w0 w X
  | [], _, h => h
  | _ :: _, _, h => satDrop (sat.tail h)
set_option maxHeartbeats 400000 in
set_option maxRecDepth 100000 in
theorem with_none (p mt mc : Nat) (relay ct ca : Int) (k : ByteArray × Int) (f : Value) (lg au : Value) (M : List ((ByteArray × Int) × Value)) (hget0 : getA k M = none)
    (R : List Asn) (w0 w : World) (H : sat w0 w (PX p relay ct ca mt mc lg au :: MapA encK mc M :: R)) :
    Calls Tryz.prog 36 #[.pointer (some ⟨p, 0, none⟩), encK k, f] w fun e w' => e = .returned (.tuple #[]) ∧ sat w0 w' (PX p relay ct ca mt mc lg au :: MapA encK mc M :: R) := by
  obtain ⟨kt, kn⟩ := k
  rw [show encK (kt, kn) = .agg #[.string kt, .int .i64 kn] from rfl]
  have hget := hget0
  have hget' := Lib.hid hget
  have h := (H.alloc (.cells #[.string kt, .int .i64 kn] 34)).re 3 [1, 2, 0] [] rfl
  have HB := Lib.hid (show sat w0 (w.alloc (.cells #[.string kt, .int .i64 kn] 34)) (PX p relay ct ca mt mc lg au :: MapA encK mc M :: blk w.heap.size (.cells #[.string kt, .int .i64 kn] 34) :: R) from h)
  clear H h hget hget0
  go_enter Tryz.func36, Tryz.ntmps36
  go_wp2
  generalize hkb : w.heap.size = kb at *
  generalize (w.alloc _) = W1 at *
  obtain ⟨R2, hR⟩ : ∃ R2, R2 = PX p relay ct ca mt mc lg au :: MapA encK mc M :: blk kb (.cells #[.string kt, .int .i64 kn] 34) :: R := ⟨_, rfl⟩
  have hcl : sat w0 W1.drew R2 := by rw [hR]; exact HB.out.drew
  have hget := hget'.out
  have q0 : ∀ x : SW w0 R2, x.w.cell? ⟨p, 0, none⟩ = some (.int .i64 16384) := fun x => by subst hR; exact PX.at _ _ _ _ _ _ _ _ x.h 0
  have q10 : ∀ x : SW w0 R2, x.w.cell? ⟨p, 10, none⟩ = some (.map (some mc)) := fun x => by subst hR; exact PX.at _ _ _ _ _ _ _ _ x.h 10
  have qk0 : ∀ x : SW w0 R2, x.w.cell? ⟨kb, 0, none⟩ = some (.string kt) := fun x => by subst hR; exact cellAt x.h.tail.tail.get.1 0
  have qk1 : ∀ x : SW w0 R2, x.w.cell? ⟨kb, 1, none⟩ = some (.int .i64 kn) := fun x => by subst hR; exact cellAt x.h.tail.tail.get.1 1
  have ql : ∀ x : SW w0 R2, (Instr.lookup 89 (.map (some mc)) (.agg #[.string kt, .int .i64 kn]) true).run Tryz.prog x.w = .ok (.tuple #[.agg #[.pointer none, .int .i64 0], .bool false]) x.w := fun x => by
    subst hR
    have h := MapA.lookup keyK Tryz.underlying89 (z := .agg #[.pointer none, .int .i64 0]) (by kernel_rfl) x.h.tail (kt, kn) true
    rw [hget, if_pos rfl] at h
    exact h
  clear hget
  have c0 := q0 ⟨_, hcl⟩
  have c10 := q10 ⟨_, hcl⟩
  have ck0 := qk0 ⟨_, hcl⟩
  have ck1 := qk1 ⟨_, hcl⟩
  have cl := ql ⟨_, hcl⟩
  dsimp only at c0 c10 ck0 ck1 cl
  have hnon : Nonempty (SW w0 R2) := ⟨⟨_, hcl⟩⟩
  have HR := Lib.hid hR
  clear hR
  refine wp_region_mix (fun u => ∃ x : SW w0 R2, u = x.w) [0, 1, 2, 3, 4, 5, 6, 7, 8, 9, 10, 11] [0, 1, 2, 3, 4, 5, 6, 7, 8] (by kernel_rfl) (by kernel_rfl) ⟨⟨_, hcl⟩, rfl⟩ ?_
  repeat (first | ((first | refine mix_a rfl (by decide +kernel) rfl (fun K hK => ?_) | refine mix_q rfl (by decide +kernel) rfl (fun K hK => ?_)); go_big_quiet_op; refine hK _ ?_; clear hK K) | (refine mix_s rfl rfl (by decide +kernel) ?_; simp only [Act.put, List.setIfInBounds_toArray, List.set_cons_zero, List.set_cons_succ]))
  refine mix_lC rfl rfl rfl (fun K hK => ?_)
  refine op_alloc rfl (z := .agg #[.pointer none, .int .i64 0]) (by kernel_rfl) rfl HB.out.drew ?_
  intro lb w2 H2
  refine hK _ _ ⟨⟨_, by rw [HR.out]; exact H2.tail⟩, rfl⟩ ?_
  have HC := Lib.hid H2
  clear hK K H2 HB
  simp only [Act.put, List.setIfInBounds_toArray, List.set_cons_zero, List.set_cons_succ]
  repeat (first | ((first | refine mix_a rfl (by decide +kernel) rfl (fun K hK => ?_) | refine mix_q rfl (by decide +kernel) rfl (fun K hK => ?_)); go_big_quiet_op; refine hK _ ?_; clear hK K) | (refine mix_s rfl rfl (by decide +kernel) ?_; simp only [Act.put, List.setIfInBounds_toArray, List.set_cons_zero, List.set_cons_succ]))
  refine mix_lC rfl rfl rfl (fun K hK => ?_)
  refine op_store (vs := [.pointer none, .int .i64 0]) rfl (by kernel_rfl) rfl rfl rfl (by intro u hu; simp only [List.mem_cons, List.not_mem_nil, or_false] at hu; rcases hu with rfl | rfl <;> rfl) HC.out (Nat.le_refl _) ?_
  intro w3 H3
  refine hK _ _ ⟨⟨_, by rw [HR.out]; exact H3.tail⟩, rfl⟩ ?_
  have HD := Lib.hid H3.tail
  clear hK K H3 HC c0 c10 ck0 ck1 cl q0 q10 qk0 qk1 ql
  simp only [Act.put, List.setIfInBounds_toArray, List.set_cons_zero, List.set_cons_succ]
  repeat (first | ((first | refine mix_a rfl (by decide +kernel) rfl (fun K hK => ?_) | refine mix_q rfl (by decide +kernel) rfl (fun K hK => ?_)); go_big_quiet_op; refine hK _ ?_; clear hK K) | (refine mix_s rfl rfl (by decide +kernel) ?_; simp only [Act.put, List.setIfInBounds_toArray, List.set_cons_zero, List.set_cons_succ]))
  refine mix_nil ?_
  go_wp2
  go_end0
  exact ⟨rfl, HD.out.re 3 [0, 1] [2] rfl⟩
set_option maxHeartbeats 400000 in
set_option maxRecDepth 100000 in
theorem with_calls (p mt mc g : Nat) (relay ct ca cver : Int) (k : ByteArray × Int) (lg au : Value) (M : List ((ByteArray × Int) × Value)) (hget0 : getA k M = some (.agg #[.pointer (some ⟨g, 0, none⟩), .int .i64 cver]))
    (n : FuncId) (fn : Func) (cap : Array Value) (hf : Tryz.prog.funcs[n]? = some fn) (hname : (fn.name == "runtime.NumGoroutine") = false) (hb : fn.body.isNone = false)
    (L R : List Asn) (w0 w : World) (Post : List Asn → Value → World → Prop) (Fin : List Asn → World → Prop)
    (hdo : ∀ X w1, sat w0 w1 (PX p relay ct ca mt mc lg au :: MapA encK mc M :: (L ++ X)) → Calls Tryz.prog n (#[.agg #[.pointer (some ⟨g, 0, none⟩), .int .i64 cver]] ++ cap) w1 fun e w2 => ∃ v, e = .returned v ∧ Post X v w2)
    (hpost : ∀ X v w2, Post X v w2 → sat w0 w2 X)
    (hdid : ∀ X v w2, Post X v w2 → Calls Tryz.prog 71 #[.pointer (some ⟨p, 0, none⟩), encK k, .agg #[.pointer (some ⟨g, 0, none⟩), .int .i64 cver], v] w2 fun e w3 => e = .returned (.tuple #[]) ∧ Fin X w3)
    (H : sat w0 w (PX p relay ct ca mt mc lg au :: MapA encK mc M :: (L ++ R))) :
    Calls Tryz.prog 36 #[.pointer (some ⟨p, 0, none⟩), encK k, .func (.func n) #[] cap] w fun e w' => e = .returned (.tuple #[]) ∧ ∃ o1 o2 : Asn, Fin (o1 :: o2 :: R) w' := by
  obtain ⟨kt, kn⟩ := k
  rw [show encK (kt, kn) = .agg #[.string kt, .int .i64 kn] from rfl] at hdid ⊢
  have hget' := Lib.hid hget0
  have h := (H.alloc (.cells #[.string kt, .int .i64 kn] 34)).re 3 [1, 2, 0] [] rfl
  have HB := Lib.hid (show sat w0 (w.alloc (.cells #[.string kt, .int .i64 kn] 34)) (PX p relay ct ca mt mc lg au :: MapA encK mc M :: blk w.heap.size (.cells #[.string kt, .int .i64 kn] 34) :: (L ++ R)) from h)
  have HDO := Lib.hid hdo
  have HPO := Lib.hid hpost
  have HDI := Lib.hid hdid
  have HFN := Lib.hid (And.intro hf (And.intro hname hb))
  clear H h hget0 hdo hpost hdid hf hname hb
  go_enter Tryz.func36, Tryz.ntmps36
  go_wp2
  generalize hkb : w.heap.size = kb at *
  generalize (w.alloc _) = W1 at *
  obtain ⟨R2, hR⟩ : ∃ R2, R2 = PX p relay ct ca mt mc lg au :: MapA encK mc M :: blk kb (.cells #[.string kt, .int .i64 kn] 34) :: (L ++ R) := ⟨_, rfl⟩
  have hcl : sat w0 W1.drew R2 := by rw [hR]; exact HB.out.drew
  have hget := hget'.out
  have q0 : ∀ x : SW w0 R2, x.w.cell? ⟨p, 0, none⟩ = some (.int .i64 16384) := fun x => by subst hR; exact PX.at _ _ _ _ _ _ _ _ x.h 0
  have q10 : ∀ x : SW w0 R2, x.w.cell? ⟨p, 10, none⟩ = some (.map (some mc)) := fun x => by subst hR; exact PX.at _ _ _ _ _ _ _ _ x.h 10
  have qk0 : ∀ x : SW w0 R2, x.w.cell? ⟨kb, 0, none⟩ = some (.string kt) := fun x => by subst hR; exact cellAt x.h.tail.tail.get.1 0
  have qk1 : ∀ x : SW w0 R2, x.w.cell? ⟨kb, 1, none⟩ = some (.int .i64 kn) := fun x => by subst hR; exact cellAt x.h.tail.tail.get.1 1
  have ql : ∀ x : SW w0 R2, (Instr.lookup 89 (.map (some mc)) (.agg #[.string kt, .int .i64 kn]) true).run Tryz.prog x.w = .ok (.tuple #[.agg #[.pointer (some ⟨g, 0, none⟩), .int .i64 cver], .bool true]) x.w := fun x => by
    subst hR
    have h := MapA.lookup keyK Tryz.underlying89 (z := .agg #[.pointer none, .int .i64 0]) (by kernel_rfl) x.h.tail (kt, kn) true
    rw [hget, if_pos rfl] at h
    exact h
  clear hget
  have c0 := q0 ⟨_, hcl⟩
  have c10 := q10 ⟨_, hcl⟩
  have ck0 := qk0 ⟨_, hcl⟩
  have ck1 := qk1 ⟨_, hcl⟩
  have cl := ql ⟨_, hcl⟩
  dsimp only at c0 c10 ck0 ck1 cl
  have hnon : Nonempty (SW w0 R2) := ⟨⟨_, hcl⟩⟩
  have HR := Lib.hid hR
  clear hR
  refine wp_region_mix (fun u => ∃ x : SW w0 R2, u = x.w) [0, 1, 2, 3, 4, 5, 6, 7, 8, 9, 10, 11] [0, 1, 2, 3, 4, 5, 6, 7, 8] (by kernel_rfl) (by kernel_rfl) ⟨⟨_, hcl⟩, rfl⟩ ?_
  repeat (first | ((first | refine mix_a rfl (by decide +kernel) rfl (fun K hK => ?_) | refine mix_q rfl (by decide +kernel) rfl (fun K hK => ?_)); go_big_quiet_op; refine hK _ ?_; clear hK K) | (refine mix_s rfl rfl (by decide +kernel) ?_; simp only [Act.put, List.setIfInBounds_toArray, List.set_cons_zero, List.set_cons_succ]))
  refine mix_lC rfl rfl rfl (fun K hK => ?_)
  refine op_alloc rfl (z := .agg #[.pointer none, .int .i64 0]) (by kernel_rfl) rfl HB.out.drew ?_
  intro lb w2 H2
  refine hK _ _ ⟨⟨_, by rw [HR.out]; exact H2.tail⟩, rfl⟩ ?_
  have HC := Lib.hid H2
  clear hK K H2 HB
  simp only [Act.put, List.setIfInBounds_toArray, List.set_cons_zero, List.set_cons_succ]
  repeat (first | ((first | refine mix_a rfl (by decide +kernel) rfl (fun K hK => ?_) | refine mix_q rfl (by decide +kernel) rfl (fun K hK => ?_)); go_big_quiet_op; refine hK _ ?_; clear hK K) | (refine mix_s rfl rfl (by decide +kernel) ?_; simp only [Act.put, List.setIfInBounds_toArray, List.set_cons_zero, List.set_cons_succ]))
  refine mix_lC rfl rfl rfl (fun K hK => ?_)
  refine op_store (vs := [.pointer (some ⟨g, 0, none⟩), .int .i64 cver]) rfl (by kernel_rfl) rfl rfl rfl (by intro u hu; simp only [List.mem_cons, List.not_mem_nil, or_false] at hu; rcases hu with rfl | rfl <;> rfl) HC.out (Nat.le_refl _) ?_
  intro w3 H3
  refine hK _ _ ⟨⟨_, by rw [HR.out]; exact H3.tail⟩, rfl⟩ ?_
  have HD := Lib.hid (show sat w0 w3 (blk lb (.cells #[.pointer (some ⟨g, 0, none⟩), .int .i64 cver] 106) :: PX p relay ct ca mt mc lg au :: MapA encK mc M :: blk kb (.cells #[.string kt, .int .i64 kn] 34) :: (L ++ R)) from H3)
  clear hK K H3 HC c0 c10 ck0 ck1 cl q0 q10 qk0 qk1 ql
  simp only [Act.put, List.setIfInBounds_toArray, List.set_cons_zero, List.set_cons_succ]
  repeat (first | ((first | refine mix_a rfl (by decide +kernel) rfl (fun K hK => ?_) | refine mix_q rfl (by decide +kernel) rfl (fun K hK => ?_)); go_big_quiet_op; refine hK _ ?_; clear hK K) | (refine mix_s rfl rfl (by decide +kernel) ?_; simp only [Act.put, List.setIfInBounds_toArray, List.set_cons_zero, List.set_cons_succ]))
  refine mix_nil ?_
  go_wp2
  obtain ⟨X, hX⟩ : ∃ X, X = blk kb (.cells #[.string kt, .int .i64 kn] 34) :: blk lb (.cells #[.pointer (some ⟨g, 0, none⟩), .int .i64 cver] 106) :: R := ⟨_, rfl⟩
  have hin : sat w0 w3.drew (PX p relay ct ca mt mc lg au :: MapA encK mc M :: (L ++ X)) := by
    rw [hX]
    refine (HD.out.drew.re 4 [1, 2, 3, 0] [] rfl).perm (((List.perm_append_comm_assoc [_, _] L R).cons _).cons _)
  have hcl3 : sat w0 w3.drew X := satDrop hin.tail.tail
  have q0 : ∀ x : SW w0 X, x.w.cell? ⟨kb, 0, none⟩ = some (.string kt) := fun x => by subst hX; exact cellAt x.h.get.1 0
  have q1 : ∀ x : SW w0 X, x.w.cell? ⟨kb, 1, none⟩ = some (.int .i64 kn) := fun x => by subst hX; exact cellAt x.h.get.1 1
  have q2 : ∀ x : SW w0 X, x.w.cell? ⟨lb, 0, none⟩ = some (.pointer (some ⟨g, 0, none⟩)) := fun x => by subst hX; exact cellAt x.h.tail.get.1 0
  have q3 : ∀ x : SW w0 X, x.w.cell? ⟨lb, 1, none⟩ = some (.int .i64 cver) := fun x => by subst hX; exact cellAt x.h.tail.get.1 1
  have c0 := q0 ⟨_, hcl3⟩
  have c1 := q1 ⟨_, hcl3⟩
  have c2 := q2 ⟨_, hcl3⟩
  have c3 := q3 ⟨_, hcl3⟩
  dsimp only at c0 c1 c2 c3
  have hnon3 : Nonempty (SW w0 X) := ⟨⟨_, hcl3⟩⟩
  have HX := Lib.hid hX
  have HIN := Lib.hid hin
  clear hX hin HD
  refine wp_region_mix (fun u => ∃ x : SW w0 X, u = x.w) [0, 1, 2, 3, 4, 5, 6] [0, 1, 2] (by kernel_rfl) (by kernel_rfl) ⟨⟨_, hcl3⟩, rfl⟩ ?_
  repeat (first | ((first | refine mix_a rfl (by decide +kernel) rfl (fun K hK => ?_) | refine mix_q rfl (by decide +kernel) rfl (fun K hK => ?_)); go_big_quiet_op; refine hK _ ?_; clear hK K) | (refine mix_s rfl rfl (by decide +kernel) ?_; simp only [Act.put, List.setIfInBounds_toArray, List.set_cons_zero, List.set_cons_succ]))
  refine mix_lC rfl rfl rfl (fun K hK => ?_)
  refine op_callv (vs := [.agg #[.pointer (some ⟨g, 0, none⟩), .int .i64 cver]]) rfl rfl HFN.out.1 HFN.out.2.1 HFN.out.2.2 (HDO.out X _ HIN.out) rfl (by simp) ?_
  rintro r w5 ⟨v, rfl, hp⟩
  refine ⟨_, rfl, hK _ _ ⟨⟨_, HPO.out X v w5 hp⟩, rfl⟩ ?_⟩
  have HP := Lib.hid hp
  clear hK K hp HIN
  simp only [Act.put, List.setIfInBounds_toArray, List.set_cons_zero, List.set_cons_succ]
  refine mix_l rfl (by decide +kernel) rfl (fun K hK => ?_)
  refine op_call rfl Tryz.func71 (by kernel_rfl) (by kernel_rfl) (HDI.out X v w5 HP.out) rfl ?_
  rintro r w6 ⟨rfl, hfin⟩
  refine ⟨_, rfl, ?_⟩
  have HF := Lib.hid hfin
  clear hfin
  refine hK _ _ ?_; clear hK K; (try simp only [Act.put, List.setIfInBounds_toArray, List.set_cons_zero, List.set_cons_succ])
  refine mix_nil ?_
  go_wp2
  go_end0
  have h := HF.out
  rw [HX.out] at h
  exact ⟨rfl, _, _, h⟩
end Go.Proofs.YtonipcfnhmnnlaaGreatDoor
