/- The sniffer. -/
import Derived.Test.YtonipcfnhmnnlaaGreatDoorCT28
namespace Go.Proofs.YtonipcfnhmnnlaaGreatDoor
open Go Go.RowKit Hg
set_option linter.unusedVariables false
set_option linter.unusedSimpArgs false
attribute [local go_sem] Lib.run_eql_slice_nil run_min2 run_max2 run_min_two run_max_two
def v0 : Array Value := #[.int .i64 0, .int .i64 0, .int .i64 0, .int .i64 0, .string ⟨#[]⟩, .int .i64 0, .bool false, .string ⟨#[]⟩, .slice none 0 0, .slice none 0 0, .bool false]
def snA (i : Value) (v : Array Value) : Array Value := #[.int .i64 16384, i, v[0]!, v[1]!, v[2]!, v[3]!, v[4]!, v[5]!, v[6]!, v[7]!, v[8]!, v[9]!, v[10]!]
def SN (s : Nat) (i : Value) (v : Array Value) : Asn := blk s (.cells (snA i v) 171)
theorem SN.at (s : Nat) (i : Value) (v : Array Value) {w0 w : World} {R : List Asn} (h : sat w0 w (SN s i v :: R)) (j : Nat) : w.cell? ⟨s, j, none⟩ = (snA i v)[j]? := cellAt h.get.1 j
theorem SN.fr (s : Nat) (i : Value) (v : Array Value) {w0 w : World} {R : List Asn} (h : sat w0 w (SN s i v :: R)) (j : Nat) : w.frozen? ⟨s, j, none⟩ = false := frozenAt h.get.1 j
def itf (g : Nat) : Value := .iface 254 (.pointer (some ⟨g, 0, none⟩))
/-- A sniffer that has taken k bytes of the head. -/
def SnA (s k : Nat) : Asn := if k = 0 then SN s .nilIface v0 else ex fun g : Nat => many [SN s (itf g) (vK k), PkA g k]
theorem of_calls125 (R : List Asn) (w0 w : World) (H : sat w0 w R) :
    Calls Tryz.prog 125 #[.int .u8 71] w fun e w' => ∃ g : Nat, e = .returned (itf g) ∧ sat w0 w' (PkA g 0 :: R) := by
  have HH := Lib.hid H
  clear H
  go_enter Tryz.func125, Tryz.ntmps125
  go_wp2_with (go_at_call 157; refine (httpn_calls _ w0 _ HH.out).mono ?_; rintro e w1 ⟨g, rfl, H1⟩; have HA := Lib.hid H1; clear H1)
  go_ret
  exact ⟨g, rfl, PkA.close (.slice none 0 0) (.slice none 0 0) (fun _ => rfl) ((Row.nil (RowC.nil HA.out 457 2)).re 3 [2, 0, 1] [] rfl)⟩
theorem op_inv {P : Program} {o : Oper} {a : Act} {K : Act → World → Prop} {Q : Exit → Act → World → Prop} {f : FuncId} {x : Operand} {name : String} {xs : List Operand} {ats : Array TypeId} (ho : o.op = .call { callee := .invoke x name, args := xs.toArray, argTypes := ats }) {T : TypeId} {rv rv' : Value} (hx : a.eval x = .iface T rv)
    {w : World} (hm : (method (P.types.size + Made.depth) T rv name).run P w = .ok (f, rv') w) (he : ∀ (args : Array Value) (w : World), (callFunc f args).run P w = .ok (.enter f args) w) {vs : List Value} {args : Array Value} {R : Ending → World → Prop} (hc : Calls P f args w R) (hv : xs.map a.eval = vs) (hargs : #[rv'] ++ vs.toArray = args)
    (hk : ∀ e w', R e w' → ∃ v, e = .returned v ∧ K (a.put o.dst v) w') : o.wp P a w K Q := by
  subst hargs
  have hrun : (execOp a.eval o).run P w = .ok (.enter f (#[rv'] ++ vs.toArray)) w := by
    have e : xs.toArray.map a.eval = vs.toArray := by simp [hv]
    unfold execOp
    simp only [ho, resolve, hx, e]
    have hm' : Sem.run P (method (P.types.size + 100) T rv name) w = .ok (f, rv') w := hm
    simp [invoke, callMethod, hm', he, go_sem]
  unfold Oper.wp
  rw [hrun, Oper.upon_enter]
  refine hc.mono fun e w' hr => ?_
  obtain ⟨v, rfl, hv⟩ := hk e w' hr
  exact hv
theorem takes (g : Nat) (w : World) : Sem.run Tryz.prog (method (Tryz.prog.types.size + Made.depth) 254 (.pointer (some ⟨g, 0, none⟩)) "Take") w = .ok (342, .pointer (some ⟨g, 0, none⟩)) w := by
  kernel_rfl
theorem enters342 (args : Array Value) (w : World) : (callFunc 342 args).run Tryz.prog w = .ok (.enter 342 args) w := by
  kernel_rfl
set_option maxHeartbeats 1600000 in
set_option maxRecDepth 100000 in
theorem one_next (s g k : Nat) (hk : 1 ≤ k ∧ k < 29) (R : List Asn) (w0 w : World) (hm : MaxL w0) (H : sat w0 w (SN s (itf g) (vK k) :: PkA g k :: R)) :
    Calls Tryz.prog 94 #[.pointer (some ⟨s, 0, none⟩), .int .u8 (HD.getD k 0).toNat] w fun e w' => e = .returned (.tuple #[]) ∧ sat w0 w' (SN s (itf g) (vK (k + 1)) :: PkA g (k + 1) :: R) := by
  have c0 : w.cell? ⟨s, 0, none⟩ = some (.int .i64 16384) := SN.at s _ _ H 0
  have c1 : w.cell? ⟨s, 1, none⟩ = some (.iface 254 (.pointer (some ⟨g, 0, none⟩))) := SN.at s _ _ H 1
  have HT := Lib.hid (pk_take g k hk.2 (SN s (itf g) (vK k) :: R) w0 w hm H.swap)
  have hkk := hk.2
  clear H hm hk
  generalize ((HD.getD k 0).toNat : Int) = cn at *
  have hk2 : k + 1 ≤ 29 := hkk
  generalize hk1 : k + 1 = k1 at *
  clear hk1 hkk
  have d2 : ((k1 : Int) == 16384) = false := by simp; omega
  generalize hst : (if k1 = 29 then (1 : Int) else 0) = st at *
  have HST := Lib.hid hst
  generalize hb : (st == 0) = b at *
  clear hst
  go_enter Tryz.func94, Tryz.ntmps94
  go_wp2_with (first | (refine BigFrame.wpList_want (by rfl) fun K' hK' => ?_; refine op_inv (xs := [.tmp 19]) (vs := [.int .u8 cn]) (by rfl) (by rfl) (takes g _) enters342 HT.out (by rfl) (by rfl) ?_; rintro e w1 ⟨rfl, H1⟩; refine ⟨_, rfl, hK' _ _ ?_⟩; clear hK' K'; have HA := Lib.hid H1.swap; clear H1) | (refine BigFrame.wpList_want (by rfl) fun K' hK' => ?_; refine op_store (vs := [.int .i64 (if k1 = 29 then 1 else 0), .int .i64 2, .int .i64 k1, .int .i64 0, .string (if k1 = 29 then sAB else ⟨#[]⟩), .int .i64 0, .bool false, .string ⟨#[]⟩, .slice none 0 0, .slice none 0 0, .bool false]) (by rfl) (by kernel_rfl) (by rfl) (by rfl) (by rfl) (by intro u hu; simp only [List.mem_cons, List.not_mem_nil, or_false] at hu; rcases hu with rfl | rfl | rfl | rfl | rfl | rfl | rfl | rfl | rfl | rfl | rfl <;> rfl) HA.out (Nat.le_refl _) ?_; intro w2 H2; refine hK' _ _ ?_; clear hK' K'; have h2' := (show sat w0 w2 (SN s (itf g) (vK k1) :: PkA g k1 :: R) from H2).drew; have q0 : w2.drew.cell? ⟨s, 0, none⟩ = some (.int .i64 16384) := SN.at s _ _ h2' 0; have q2 : w2.drew.cell? ⟨s, 2, none⟩ = some (.int .i64 st) := (by have := SN.at s _ _ h2' 2; rw [← HST.out]; exact this); have q4 : w2.drew.cell? ⟨s, 4, none⟩ = some (.int .i64 k1) := SN.at s _ _ h2' 4; have HB := Lib.hid h2'; clear H2 HA h2'))
  refine wp_region_mix (fun u => ∃ x : World, u = x) [0, 1, 2, 3, 4, 5, 6, 7, 8, 9, 10, 11, 12, 13, 14, 15, 16, 17] [] (by kernel_rfl) (by kernel_rfl) ⟨_, rfl⟩ ?_
  simp only [Act.put, List.setIfInBounds_toArray, List.set_cons_zero, List.set_cons_succ]
  cases b
  all_goals (repeat (first | ((first | refine mix_a rfl (by decide +kernel) rfl (fun K hK => ?_) | refine mix_q rfl (by decide +kernel) rfl (fun K hK => ?_)); go_big_quiet_op; refine hK _ ?_; clear hK K) | (refine mix_s rfl rfl (by decide +kernel) ?_; simp only [Act.put, List.setIfInBounds_toArray, List.set_cons_zero, List.set_cons_succ])))
  all_goals refine mix_nil ?_
  all_goals go_wp2
  all_goals go_end0
  all_goals exact ⟨rfl, HB.out⟩
set_option maxHeartbeats 1600000 in
set_option maxRecDepth 100000 in
theorem one_first (s : Nat) (R : List Asn) (w0 w : World) (hm : MaxL w0) (H : sat w0 w (SN s .nilIface v0 :: R)) :
    Calls Tryz.prog 94 #[.pointer (some ⟨s, 0, none⟩), .int .u8 71] w fun e w' => ∃ g : Nat, e = .returned (.tuple #[]) ∧ sat w0 w' (SN s (itf g) (vK 1) :: PkA g 1 :: R) := by
  have c0 : w.cell? ⟨s, 0, none⟩ = some (.int .i64 16384) := SN.at s _ _ H 0
  have c1 : w.cell? ⟨s, 1, none⟩ = some .nilIface := SN.at s _ _ H 1
  have HO := Lib.hid (of_calls125 _ w0 w H)
  have HM := Lib.hid hm
  clear H hm
  go_enter Tryz.func94, Tryz.ntmps94
  go_wp2_with (first | (go_at_call 125; refine HO.out.mono ?_; rintro e w1 ⟨g, rfl, H1⟩; have a0 : w1.cell? ⟨s, 0, none⟩ = some (.int .i64 16384) := SN.at s _ _ H1.tail 0; have HA := Lib.hid H1.swap; clear H1) | (refine BigFrame.wpList_want (by rfl) fun K' hK' => ?_; refine op_store1 (itf g) (by rfl) (by kernel_rfl) (by rfl) (by rfl) (by rfl) (by rfl) HA.out (by decide) ?_; intro w2 H2; refine hK' _ _ ?_; clear hK' K'; have h2 := (show sat w0 w2 (SN s (itf g) v0 :: PkA g 0 :: R) from H2); have b0 : w2.cell? ⟨s, 0, none⟩ = some (.int .i64 16384) := SN.at s _ _ h2 0; have b1 : w2.cell? ⟨s, 1, none⟩ = some (.iface 254 (.pointer (some ⟨g, 0, none⟩))) := SN.at s _ _ h2 1; have HT := Lib.hid (pk_take g 0 (by decide) (SN s (itf g) v0 :: R) w0 w2 HM.out h2.swap); clear H2 h2 HA) | (refine BigFrame.wpList_want (by rfl) fun K' hK' => ?_; refine op_inv (xs := [.tmp 19]) (vs := [.int .u8 71]) (by rfl) (by rfl) (takes g _) enters342 HT.out (by rfl) (by rfl) ?_; rintro e w1 ⟨rfl, H1⟩; refine ⟨_, rfl, hK' _ _ ?_⟩; clear hK' K'; have HA := Lib.hid H1.swap; clear H1) | (refine BigFrame.wpList_want (by rfl) fun K' hK' => ?_; refine op_store (vs := [.int .i64 0, .int .i64 2, .int .i64 1, .int .i64 0, .string ⟨#[]⟩, .int .i64 0, .bool false, .string ⟨#[]⟩, .slice none 0 0, .slice none 0 0, .bool false]) (by rfl) (by kernel_rfl) (by rfl) (by rfl) (by rfl) (by intro u hu; simp only [List.mem_cons, List.not_mem_nil, or_false] at hu; rcases hu with rfl | rfl | rfl | rfl | rfl | rfl | rfl | rfl | rfl | rfl | rfl <;> rfl) HA.out (Nat.le_refl _) ?_; intro w2 H2; refine hK' _ _ ?_; clear hK' K'; have h2' := (show sat w0 w2 (SN s (itf g) (vK 1) :: PkA g 1 :: R) from H2).drew; have q0 : w2.drew.cell? ⟨s, 0, none⟩ = some (.int .i64 16384) := SN.at s _ _ h2' 0; have q2 : w2.drew.cell? ⟨s, 2, none⟩ = some (.int .i64 0) := SN.at s _ _ h2' 2; have q4 : w2.drew.cell? ⟨s, 4, none⟩ = some (.int .i64 1) := SN.at s _ _ h2' 4; have HB := Lib.hid h2'; clear H2 HA h2'))
  refine wp_region_mix (fun u => ∃ x : World, u = x) [0, 1, 2, 3, 4, 5, 6, 7, 8, 9, 10, 11, 12, 13, 14, 15, 16, 17] [] (by kernel_rfl) (by kernel_rfl) ⟨_, rfl⟩ ?_
  simp only [Act.put, List.setIfInBounds_toArray, List.set_cons_zero, List.set_cons_succ]
  repeat (first | ((first | refine mix_a rfl (by decide +kernel) rfl (fun K hK => ?_) | refine mix_q rfl (by decide +kernel) rfl (fun K hK => ?_)); go_big_quiet_op; refine hK _ ?_; clear hK K) | (refine mix_s rfl rfl (by decide +kernel) ?_; simp only [Act.put, List.setIfInBounds_toArray, List.set_cons_zero, List.set_cons_succ]))
  refine mix_nil ?_
  go_wp2
  go_end0
  exact ⟨g, rfl, HB.out⟩
end Go.Proofs.YtonipcfnhmnnlaaGreatDoor
