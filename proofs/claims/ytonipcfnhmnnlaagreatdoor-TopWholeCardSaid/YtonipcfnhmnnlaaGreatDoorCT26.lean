/- The head of a request, line by line. -/
import Derived.Test.YtonipcfnhmnnlaaGreatDoorCT25
namespace Go.Proofs.YtonipcfnhmnnlaaGreatDoor
open Go Go.RowKit Hg
set_option linter.unusedVariables false
set_option linter.unusedSimpArgs false
attribute [local go_sem] Lib.run_eql_slice_nil run_min2 run_max2 run_min_two run_max_two
/-- A peeker at a head: its line, whether a carriage return came, whether the request came; the request; its fields; what is known. -/
structure HS where
  lv : Value
  back : Bool
  first : Bool
  mt : ByteArray
  tg : ByteArray
  mi : Int
  fv : Value
  st : Int
  used : Int
  host : ByteArray
def HS.verd (s : HS) : Array Value := #[.int .i64 s.st, .int .i64 2, .int .i64 s.used, .int .i64 0, .string s.host, .int .i64 0, .bool false, .string ⟨#[]⟩, .slice none 0 0, .slice none 0 0, .bool false]
def HS.arr (s : HS) : Array Value := #[s.lv, .bool s.back, .bool s.first, .string s.mt, .string s.tg, .int .i64 s.mi, s.fv, .int .i64 s.st, .int .i64 2, .int .i64 s.used, .int .i64 0, .string s.host, .int .i64 0, .bool false, .string ⟨#[]⟩, .slice none 0 0, .slice none 0 0, .bool false]
def HP (g : Nat) (s : HS) : Asn := blk g (.cells s.arr 308)
theorem HP.at (g : Nat) (s : HS) {w0 w : World} {R : List Asn} (h : sat w0 w (HP g s :: R)) (i : Nat) : w.cell? ⟨g, i, none⟩ = s.arr[i]? := cellAt h.get.1 i
theorem HP.fr (g : Nat) (s : HS) {w0 w : World} {R : List Asn} (h : sat w0 w (HP g s :: R)) (i : Nat) : w.frozen? ⟨g, i, none⟩ = false := frozenAt h.get.1 i
set_option maxHeartbeats 800000 in
set_option maxRecDepth 100000 in
theorem ended1_calls (g : Nat) (s : HS) (hf : s.first = false) (R : List Asn) (w0 w : World) (hm : MaxL w0) (H : sat w0 w (HP g s :: R)) :
    Calls Tryz.prog 344 #[.pointer (some ⟨g, 0, none⟩), .string line1] w fun e w' => e = .returned (.tuple #[]) ∧ sat w0 w' (HP g { s with first := true, mt := sGET, tg := sSlash, mi := 1 } :: R) := by
  have c0 : w.cell? ⟨g, 0, none⟩ = some s.lv := HP.at g s H 0
  have c2 : w.cell? ⟨g, 2, none⟩ = some (.bool s.first) := HP.at g s H 2
  rw [hf] at c2
  have f2 := HP.fr g s H 2
  have h2 : sat w0 (w.setCell ⟨g, 2, none⟩ (.bool true)) (HP g { s with first := true } :: R) := H.store (i := 2) (.bool true)
  have HC := Lib.hid (parse1_calls _ w0 _ hm h2)
  clear H h2 hm
  go_enter Tryz.func344, Tryz.ntmps344
  go_wp2_with (first | (go_at_call 346; refine HC.out.mono ?_; rintro e w1 ⟨rfl, H1⟩; have a0 : w1.cell? ⟨g, 0, none⟩ = some s.lv := HP.at g _ H1 0; have HA := Lib.hid H1; clear H1) | (refine BigFrame.wpList_want (by rfl) fun K' hK' => ?_; refine op_store (vs := [.string sGET, .string sSlash, .int .i64 1]) (by rfl) (by kernel_rfl) (by rfl) (by rfl) (by rfl) (by intro u hu; simp only [List.mem_cons, List.not_mem_nil, or_false] at hu; rcases hu with rfl | rfl | rfl <;> rfl) HA.out (by simp [HS.arr]) ?_; intro w6 H6; refine hK' _ _ ?_; clear hK' K'; have HI := Lib.hid H6; clear H6))
  go_end0
  exact ⟨rfl, HI.out⟩
set_option maxHeartbeats 800000 in
set_option maxRecDepth 100000 in
theorem finish_calls3 (g : Nat) (s : HS) (hr : s.mt = sGET ∧ s.tg = sSlash ∧ s.mi = 1) (R : List Asn) (w0 w : World) (hm : MaxL w0) (H : sat w0 w (HP g s :: RowF s.fv [(shost, sAB)] :: R)) :
    Calls Tryz.prog 343 #[.pointer (some ⟨g, 0, none⟩)] w fun e w' => e = .returned (.tuple #[]) ∧ sat w0 w' (HP g { s with st := 1, host := sAB } :: RowF s.fv [(shost, sAB)] :: R) := by
  obtain ⟨hr1, hr2, hr3⟩ := hr
  have h := H.drew
  have c0 : w.drew.cell? ⟨g, 0, none⟩ = some s.lv := HP.at g s h 0
  have c3 : w.drew.cell? ⟨g, 3, none⟩ = some (.string sGET) := by have := HP.at g s h 3; rw [← hr1]; exact this
  have c4 : w.drew.cell? ⟨g, 4, none⟩ = some (.string sSlash) := by have := HP.at g s h 4; rw [← hr2]; exact this
  have c5 : w.drew.cell? ⟨g, 5, none⟩ = some (.int .i64 1) := by have := HP.at g s h 5; rw [← hr3]; exact this
  have c6 : w.drew.cell? ⟨g, 6, none⟩ = some s.fv := HP.at g s h 6
  have HO := Lib.hid (of1_calls s.fv (HP g s :: R) w0 _ h.swap)
  have HM := Lib.hid hm
  clear H h hm hr1 hr2 hr3
  go_enter Tryz.func343, Tryz.ntmps343
  go_wp2
  refine wp_region_mix (fun u => ∃ x : World, u = x) [0, 1, 2, 3, 4, 5, 6, 7, 8, 9, 10, 11, 12, 13, 14, 15] [] (by kernel_rfl) (by kernel_rfl) ⟨_, rfl⟩ ?_
  repeat (first | ((first | refine mix_a rfl (by decide +kernel) rfl (fun K hK => ?_) | refine mix_q rfl (by decide +kernel) rfl (fun K hK => ?_)); go_big_quiet_op; refine hK _ ?_; clear hK K) | (refine mix_s rfl rfl (by decide +kernel) ?_; simp only [Act.put, List.setIfInBounds_toArray, List.set_cons_zero, List.set_cons_succ]))
  refine mix_l rfl (by decide +kernel) rfl (fun K hK => ?_)
  refine op_call rfl Tryz.func348 (by kernel_rfl) (by kernel_rfl) HO.out rfl ?_
  rintro r w2 ⟨rfl, H2⟩
  refine ⟨_, rfl, ?_⟩
  have HB := Lib.hid H2
  clear H2 c0 c3 c4 c5 c6
  refine hK _ _ ?_; clear hK K; (try simp only [Act.put, List.setIfInBounds_toArray, List.set_cons_zero, List.set_cons_succ])
  repeat (first | ((first | refine mix_a rfl (by decide +kernel) rfl (fun K hK => ?_) | refine mix_q rfl (by decide +kernel) rfl (fun K hK => ?_)); go_big_quiet_op; refine hK _ ?_; clear hK K) | (refine mix_s rfl rfl (by decide +kernel) ?_; simp only [Act.put, List.setIfInBounds_toArray, List.set_cons_zero, List.set_cons_succ]))
  refine mix_nil ?_
  go_wp2_with (go_at_call 142; refine (normal_calls _ w0 _ HM.out HB.out).mono ?_; rintro e w3 ⟨rfl, H3⟩; have h3 := H3.swap; have a0 : w3.cell? ⟨g, 0, none⟩ = some s.lv := HP.at g _ h3 0; have a7 : w3.cell? ⟨g, 7, none⟩ = some (.int .i64 s.st) := HP.at g _ h3 7; have a11 : w3.cell? ⟨g, 11, none⟩ = some (.string s.host) := HP.at g _ h3 11; have a12 : w3.cell? ⟨g, 12, none⟩ = some (.int .i64 0) := HP.at g _ h3 12; have f7 := HP.fr g _ h3 7; have f11 := HP.fr g _ h3 11; have f12 := HP.fr g _ h3 12; have HC := Lib.hid h3; clear H3 h3)
  go_end0
  exact ⟨rfl, ((HC.out.store (i := 7) (.int .i64 1)).store (i := 11) (.string sAB)).store (i := 12) (.int .i64 0)⟩
set_option maxHeartbeats 800000 in
set_option maxRecDepth 100000 in
theorem ended3_calls (g : Nat) (s : HS) (hf : s.first = true) (hr : s.mt = sGET ∧ s.tg = sSlash ∧ s.mi = 1) (R : List Asn) (w0 w : World) (hm : MaxL w0) (H : sat w0 w (HP g s :: RowF s.fv [(shost, sAB)] :: R)) :
    Calls Tryz.prog 344 #[.pointer (some ⟨g, 0, none⟩), .string ⟨#[]⟩] w fun e w' => e = .returned (.tuple #[]) ∧ sat w0 w' (HP g { s with st := 1, host := sAB } :: RowF s.fv [(shost, sAB)] :: R) := by
  have c0 : w.cell? ⟨g, 0, none⟩ = some s.lv := HP.at g s H 0
  have c2 : w.cell? ⟨g, 2, none⟩ = some (.bool s.first) := HP.at g s H 2
  rw [hf] at c2
  have HC := Lib.hid (finish_calls3 g s hr R w0 w hm H)
  clear H hm hr
  go_enter Tryz.func344, Tryz.ntmps344
  go_wp2_with (go_at_call 343; refine HC.out.mono ?_; rintro e w1 ⟨rfl, H1⟩; have HA := Lib.hid H1; clear H1)
  refine bodyPost_ret (results_none rfl _ _ _) rfl ?_
  exact ⟨rfl, HA.out⟩
theorem op_append_flds {o : Oper} {a : Act} {K : Act → World → Prop} {Q : Exit → Act → World → Prop} {s x : Operand}
    (ho : o.op = .call { callee := .builtin .append, args := #[s, x], argTypes := #[306, 306] }) {v y : Value} (hs : a.eval s = v) (hy : a.eval x = y) {w0 w : World} {R : List Asn} {l m : List (ByteArray × ByteArray)} (h : sat w0 w (RowF v l :: R)) (hx : ReadsC 2 w y m.length (flds m))
    (hl : l.length + m.length ≤ 1000000)
    (hk : ∀ v' w', sat w0 w' (RowF v' (l ++ m) :: R) → K (a.put o.dst v') w') : o.wp Tryz.prog a w K Q := by
  refine op_append_row (e := 457) (z := .agg #[.string ⟨#[]⟩, .string ⟨#[]⟩]) (sz := 2) (bytes := 32) ho Tryz.underlying306 (by kernel_rfl) rfl (by decide) (by decide) hs hy h hx ?_ (by omega) fun v' w' h' _ => hk v' w' ?_
  · intro u hu
    simp only [flds, List.mem_flatMap] at hu
    obtain ⟨q, _, hu⟩ := hu
    simp at hu
    rcases hu with rfl | rfl <;> rfl
  · unfold RowF
    rw [List.length_append, show flds (l ++ m) = flds l ++ flds m by simp [flds]]
    exact h'
set_option maxHeartbeats 1600000 in
set_option maxRecDepth 100000 in
theorem header_calls (g : Nat) (s : HS) (hv : s.fv = .slice none 0 0) (R : List Asn) (w0 w : World) (hm : MaxL w0) (H : sat w0 w (HP g s :: RowF s.fv [] :: R)) :
    Calls Tryz.prog 347 #[.pointer (some ⟨g, 0, none⟩), .string line2] w fun e w' => ∃ v' : Value, e = .returned (.int .i64 0) ∧ sat w0 w' (HP g { s with fv := v' } :: RowF v' [(shost, sAB)] :: R) := by
  have HC := Lib.hid (fparse_calls _ w0 w hm H)
  have HV := Lib.hid hv
  clear H hm
  go_enter Tryz.func347, Tryz.ntmps347
  go_wp2_with (go_at_call 350; refine HC.out.mono ?_; rintro e w1 ⟨rfl, H1⟩; have a0 : ∀ o, (w1.alloc o).cell? ⟨g, 0, none⟩ = some s.lv := fun o => HP.at g s (H1.alloc o).tail 0; have a6 : ∀ o, (w1.alloc o).cell? ⟨g, 6, none⟩ = some (.slice none 0 0) := (fun o => by have := HP.at g s (H1.alloc o).tail 6; rw [← HV.out]; exact this); have HA := Lib.hid H1; clear H1)
  clear a0 a6
  have h := (HA.out.alloc (.cells #[.string shost, .string sAB] 457)).drew
  generalize hb : w1.heap.size = b at h ⊢
  generalize (w1.alloc _) = W1 at h ⊢
  have HD := Lib.hid h
  obtain ⟨R2, hR⟩ : ∃ R2, R2 = HP g s :: blk b (.cells #[.string shost, .string sAB] 457) :: R := ⟨_, rfl⟩
  have hcl : sat w0 W1.drew R2 := by rw [hR]; exact h.re 3 [1, 0] [2] rfl
  have q0 : ∀ x : SW w0 R2, x.w.cell? ⟨g, 0, none⟩ = some s.lv := fun x => by subst hR; exact HP.at g s x.h 0
  have q6 : ∀ x : SW w0 R2, x.w.cell? ⟨g, 6, none⟩ = some (.slice none 0 0) := fun x => by subst hR; have := HP.at g s x.h 6; rw [← HV.out]; exact this
  have qb0 : ∀ x : SW w0 R2, x.w.cell? ⟨b, 0, none⟩ = some (.string shost) := fun x => by subst hR; exact cellAt x.h.tail.get.1 0
  have qb1 : ∀ x : SW w0 R2, x.w.cell? ⟨b, 1, none⟩ = some (.string sAB) := fun x => by subst hR; exact cellAt x.h.tail.get.1 1
  have c0 := q0 ⟨_, hcl⟩
  have c6 := q6 ⟨_, hcl⟩
  have cb0 := qb0 ⟨_, hcl⟩
  have cb1 := qb1 ⟨_, hcl⟩
  dsimp only at c0 c6 cb0 cb1
  have hnon : Nonempty (SW w0 R2) := ⟨⟨_, hcl⟩⟩
  have HR := Lib.hid hR
  clear hR h
  refine wp_region_mix (fun u => ∃ x : SW w0 R2, u = x.w) [0, 1, 2, 3, 4, 5, 6, 7, 8, 9, 10] [0, 1, 2, 3, 4] (by kernel_rfl) (by kernel_rfl) ⟨⟨_, hcl⟩, rfl⟩ ?_
  repeat (first | ((first | refine mix_a rfl (by decide +kernel) rfl (fun K hK => ?_) | refine mix_q rfl (by decide +kernel) rfl (fun K hK => ?_)); go_big_quiet_op; refine hK _ ?_; clear hK K) | (refine mix_s rfl rfl (by decide +kernel) ?_; simp only [Act.put, List.setIfInBounds_toArray, List.set_cons_zero, List.set_cons_succ]))
  refine mix_lC rfl rfl rfl (fun K hK => ?_)
  refine op_build1 (xs := [.string shost, .string sAB]) rfl Tryz.underlying306 (e := 457) (z := .agg #[.string ⟨#[]⟩, .string ⟨#[]⟩]) (sz := 2) (bytes := 32) (by kernel_rfl) rfl rfl rfl (by decide) HD.out ?_
  intro g9 w9 H9
  refine hK _ _ ⟨⟨_, by rw [HR.out]; exact H9.re 4 [2, 1] [0, 3] rfl⟩, rfl⟩ ?_
  have HE := Lib.hid (show sat w0 w9 (RowC 457 2 (.slice (some ⟨g9, 0, none⟩) 1 1) 1 [.string shost, .string sAB] :: blk b (.cells #[.string shost, .string sAB] 457) :: HP g s :: RowF s.fv [] :: R) from H9)
  clear hK K H9 HD
  simp only [Act.put, List.setIfInBounds_toArray, List.set_cons_zero, List.set_cons_succ]
  refine mix_lC rfl rfl rfl (fun K hK => ?_)
  refine op_append_flds (l := []) (m := [(shost, sAB)]) rfl rfl rfl (show sat w0 _ (RowF (.slice none 0 0) [] :: HP g s :: blk b (.cells #[.string shost, .string sAB] 457) :: R) by have h := HE.out.re 4 [3, 2, 1] [0] rfl; rw [HV.out] at h; exact h) (RowC.readsC HE.out) (by simp) ?_
  intro fv w10 H10
  refine hK _ _ ⟨⟨_, by rw [HR.out]; exact H10.re 3 [1, 2] [0] rfl⟩, rfl⟩ ?_
  have HF := Lib.hid (show sat w0 w10 (HP g s :: RowF fv [(shost, sAB)] :: R) from H10.re 3 [1, 0] [2] rfl)
  clear hK K H10 HE
  simp only [Act.put, List.setIfInBounds_toArray, List.set_cons_zero, List.set_cons_succ]
  repeat (first | ((first | refine mix_a rfl (by decide +kernel) rfl (fun K hK => ?_) | refine mix_q rfl (by decide +kernel) rfl (fun K hK => ?_)); go_big_quiet_op; refine hK _ ?_; clear hK K) | (refine mix_s rfl rfl (by decide +kernel) ?_; simp only [Act.put, List.setIfInBounds_toArray, List.set_cons_zero, List.set_cons_succ]))
  refine mix_l rfl (by decide +kernel) rfl (fun K hK => ?_)
  have hone : fv.oneCell' = true ∧ fv.cells = #[fv] := by
    obtain ⟨a2, c2, h2, _, _⟩ := RowC.form HF.out.tail
    rw [h2]; exact ⟨rfl, rfl⟩
  refine op_store1 fv rfl (by kernel_rfl) rfl rfl hone.1 hone.2 HF.out (by simp [HS.arr]) ?_
  intro w12 H12
  have HG := Lib.hid (show sat w0 w12 (HP g { s with fv := fv } :: RowF fv [(shost, sAB)] :: R) from H12)
  clear H12 HF c0 c6 cb0 cb1 q0 q6 qb0 qb1
  refine hK _ _ ?_; clear hK K; (try simp only [Act.put, List.setIfInBounds_toArray, List.set_cons_zero, List.set_cons_succ])
  refine mix_nil ?_
  go_wp2
  go_ret
  exact ⟨fv, rfl, HG.out⟩
set_option maxHeartbeats 800000 in
set_option maxRecDepth 100000 in
theorem ended2_calls (g : Nat) (s : HS) (hf : s.first = true) (hv : s.fv = .slice none 0 0) (R : List Asn) (w0 w : World) (hm : MaxL w0) (H : sat w0 w (HP g s :: RowF s.fv [] :: R)) :
    Calls Tryz.prog 344 #[.pointer (some ⟨g, 0, none⟩), .string line2] w fun e w' => ∃ v' : Value, e = .returned (.tuple #[]) ∧ sat w0 w' (HP g { s with fv := v' } :: RowF v' [(shost, sAB)] :: R) := by
  have c0 : w.cell? ⟨g, 0, none⟩ = some s.lv := HP.at g s H 0
  have c2 : w.cell? ⟨g, 2, none⟩ = some (.bool s.first) := HP.at g s H 2
  rw [hf] at c2
  have HC := Lib.hid (header_calls g s hv R w0 w hm H)
  have e1 : line2.toList.isEmpty = false := by decide +kernel
  clear H hm hv
  go_enter Tryz.func344, Tryz.ntmps344
  go_wp2_with (go_at_call 347; refine HC.out.mono ?_; rintro e w1 ⟨v', rfl, H1⟩; have HA := Lib.hid H1; clear H1)
  go_end0
  exact ⟨v', rfl, HA.out⟩
end Go.Proofs.YtonipcfnhmnnlaaGreatDoor
