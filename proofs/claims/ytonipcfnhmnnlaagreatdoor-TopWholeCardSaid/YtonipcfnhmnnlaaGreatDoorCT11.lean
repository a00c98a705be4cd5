/- The proxy: its maps. -/
import Derived.Test.YtonipcfnhmnnlaaGreatDoorMWays
import Derived.Test.YtonipcfnhmnnlaaGreatDoorCMaps
import Derived.Test.YtonipcfnhmnnlaaGreatDoorMOps
namespace Go.Proofs.YtonipcfnhmnnlaaGreatDoor
open Go Go.RowKit Hg
set_option linter.unusedVariables false
set_option linter.unusedSimpArgs false
attribute [local go_sem] Lib.run_eql_slice_nil run_min2 run_max2 run_min_two run_max_two
/-- Whose, and which. -/
def encK (p : ByteArray × Int) : Value := .agg #[.string p.1, .int .i64 p.2]
theorem toList_inj {a b : ByteArray} : a.toList = b.toList ↔ a = b := by
  rw [ByteArray.toList_eq, ByteArray.toList_eq]
  constructor
  · intro h
    apply ByteArray.ext
    apply Array.ext'
    exact h
  · rintro rfl; rfl
theorem eq34 (a b : ByteArray × Int) (w : World) : (Op.equal 34 (encK a) (encK b)).run Tryz.prog w = .ok (decide (a = b)) w := by
  have h : (Op.equal 34 (encK a) (encK b)).run Tryz.prog w = (Op.eqFields 9999 #[.string a.1, .int .i64 a.2] #[.string b.1, .int .i64 b.2] (Tryz.prog.fieldsOf 34).toList).run Tryz.prog w :=
    run_equalIn_struct w 9999 34 _ _ (by kernel_rfl) (by kernel_rfl)
  rw [h]
  simp [go_sem, Tryz.underlying34]
  obtain ⟨a1, a2⟩ := a
  obtain ⟨b1, b2⟩ := b
  by_cases h1 : a1 = b1 <;> by_cases h2 : a2 = b2 <;> simp [toList_inj, h1, h2]
theorem keyK : KeyLw Tryz.prog 34 encK where
  check b a w := by
    have h3 := MapKept.run_checkKey (P := Tryz.prog) (w := w) Tryz.underlying9 (k := .string a.1) (by simp [MapKept.IsKey]) b 9998
    have h4 := MapKept.run_checkKey (P := Tryz.prog) (w := w) Tryz.underlying3 (k := .int .i64 a.2) (by simp [MapKept.IsKey]) b 9998
    unfold Instr.checkKey encK
    simp [run_underlying Tryz.underlying34, go_sem, h3, h4]
  find a es l w he := by
    unfold Instr.findKey
    cases es with
    | nil =>
      cases l with
      | nil => simp [run_underlying Tryz.underlying34, Instr.findNow, findA]
      | cons p l => simp at he
    | cons e es =>
      have hn : Instr.findNow (.struct #[⟨"Tenant", 9, 0, false, "", "", 0⟩, ⟨"N", 3, 1, false, "", "", 16⟩]) (encK a) (e :: es) 0 = none := by
        simp [Instr.findNow, encK, Instr.sameNow]
      simp only [Sem.run_bind, run_underlying Tryz.underlying34, Result.andThen_ok, hn]
      exact findAsk_enc eq34 a w (e :: es) l 0 he
  bits a := by
    unfold Instr.sameBits encK
    simp [Instr.sameBits, MapKept.bytes_beq]
/-- What happened: of whom, what. -/
structure EV where
  k : ByteArray × Int
  a : AC
def EV.cells (e : EV) : List Value := [.string e.k.1, .int .i64 e.k.2, .int .i64 e.a.kind, .string e.a.b, .int .i64 e.a.why]
def evs (l : List EV) : List Value := l.flatMap EV.cells
def RowE (v : Value) (l : List EV) : Asn := RowC 51 5 v l.length (evs l)
/-- What became of one. -/
structure AU where
  k : ByteArray × Int
  why : Int
  ver : Int
  host : ByteArray
  al : Bool
  dw : Int
  rule : Int
def AU.cells (e : AU) : List Value := [.string e.k.1, .int .i64 e.k.2, .int .i64 e.why, .int .i64 e.ver, .string e.host, .bool e.al, .int .i64 e.dw, .int .i64 e.rule]
def aus (l : List AU) : List Value := l.flatMap AU.cells
def RowU (v : Value) (l : List AU) : Asn := RowC 60 8 v l.length (aus l)
theorem evs_one {u : Value} {l : List EV} (h : u ∈ evs l) : u.oneCell' = true := by
  simp only [evs, List.mem_flatMap, EV.cells] at h
  obtain ⟨q, _, h⟩ := h
  simp at h
  rcases h with rfl | rfl | rfl | rfl | rfl <;> rfl
theorem aus_one {u : Value} {l : List AU} (h : u ∈ aus l) : u.oneCell' = true := by
  simp only [aus, List.mem_flatMap, AU.cells] at h
  obtain ⟨q, _, h⟩ := h
  simp at h
  rcases h with rfl | rfl | rfl | rfl | rfl | rfl | rfl | rfl <;> rfl
theorem op_append_evs {o : Oper} {a : Act} {K : Act → World → Prop} {Q : Exit → Act → World → Prop} {s x : Operand}
    (ho : o.op = .call { callee := .builtin .append, args := #[s, x], argTypes := #[46, 46] }) {v y : Value} (hs : a.eval s = v) (hy : a.eval x = y) {w0 w : World} {R : List Asn} {l m : List EV} (h : sat w0 w (RowE v l :: R)) (hx : ReadsC 5 w y m.length (evs m))
    (hl : l.length + m.length ≤ 1000000)
    (hk : ∀ v' w', sat w0 w' (RowE v' (l ++ m) :: R) → K (a.put o.dst v') w') : o.wp Tryz.prog a w K Q := by
  refine op_append_row (e := 51) (z := .agg #[.string ⟨#[]⟩, .int .i64 0, .int .i64 0, .string ⟨#[]⟩, .int .i64 0]) (sz := 5) (bytes := 56) ho Tryz.underlying46 (by kernel_rfl) rfl (by decide) (by decide) hs hy h hx (fun u hu => evs_one hu) (by omega) fun v' w' h' _ => hk v' w' ?_
  unfold RowE
  rw [List.length_append, show evs (l ++ m) = evs l ++ evs m by simp [evs]]
  exact h'
theorem op_append_aus {o : Oper} {a : Act} {K : Act → World → Prop} {Q : Exit → Act → World → Prop} {s x : Operand}
    (ho : o.op = .call { callee := .builtin .append, args := #[s, x], argTypes := #[52, 52] }) {v y : Value} (hs : a.eval s = v) (hy : a.eval x = y) {w0 w : World} {R : List Asn} {l m : List AU} (h : sat w0 w (RowU v l :: R)) (hx : ReadsC 8 w y m.length (aus m))
    (hl : l.length + m.length ≤ 1000000)
    (hk : ∀ v' w', sat w0 w' (RowU v' (l ++ m) :: R) → K (a.put o.dst v') w') : o.wp Tryz.prog a w K Q := by
  refine op_append_row (e := 60) (z := .agg #[.string ⟨#[]⟩, .int .i64 0, .int .i64 0, .int .i64 0, .string ⟨#[]⟩, .bool false, .int .i64 0, .int .i64 0]) (sz := 8) (bytes := 80) ho Tryz.underlying52 (by kernel_rfl) rfl (by decide) (by decide) hs hy h hx (fun u hu => aus_one hu) (by omega) fun v' w' h' _ => hk v' w' ?_
  unfold RowU
  rw [List.length_append, show aus (l ++ m) = aus l ++ aus m by simp [aus]]
  exact h'
set_option maxRecDepth 100000 in
theorem clone126_calls (w : World) : Calls Tryz.prog 126 #[.slice none 0 0] w fun e w' => e = .returned (.slice none 0 0) ∧ w' = w := by
  go_enter Tryz.func126, Tryz.ntmps126
  go_wp2
  go_ret
  exact ⟨rfl, rfl⟩
set_option maxRecDepth 100000 in
theorem clone127_calls (w : World) : Calls Tryz.prog 127 #[.slice none 0 0] w fun e w' => e = .returned (.slice none 0 0) ∧ w' = w := by
  go_enter Tryz.func127, Tryz.ntmps127
  go_wp2
  go_ret
  exact ⟨rfl, rfl⟩
def CS.verd (c : CS) : Array Value := #[.int .i64 c.vs, .int .i64 c.vp, .int .i64 c.vu, .int .i64 0, .string c.vh, .int .i64 0, .bool false, .string ⟨#[]⟩, .slice none 0 0, .slice none 0 0, .bool false]
theorem decision_calls (g : Nat) (c : CS) (R : List Asn) (w0 w : World) (H : sat w0 w (CN g c :: R)) :
    Calls Tryz.prog 113 #[.pointer (some ⟨g, 0, none⟩)] w fun e w' => e = .returned (.agg #[.bool c.al, .int .i64 c.why, .int .i64 c.rule]) ∧ sat w0 w' (CN g c :: R) := by
  have HH := Lib.hid H
  have c46 : ∀ o, (w.alloc o).cell? ⟨g, 46, none⟩ = some (.bool c.al) := fun o => CN.at g c (H.alloc o).tail 46
  have c47 : ∀ o, (w.alloc o).cell? ⟨g, 47, none⟩ = some (.int .i64 c.why) := fun o => CN.at g c (H.alloc o).tail 47
  have c48 : ∀ o, (w.alloc o).cell? ⟨g, 48, none⟩ = some (.int .i64 c.rule) := fun o => CN.at g c (H.alloc o).tail 48
  clear H
  go_enter Tryz.func113, Tryz.ntmps113
  go_wp2
  refine bodyPost_ret (results_cell_row rfl _ _ w.heap.size 58 #[.bool c.al, .int .i64 c.why, .int .i64 c.rule] (0, 0) _ rfl (heap_alloc_new _ _) Tryz.underlying58 rfl (by kernel_rfl)) rfl ?_
  exact ⟨rfl, (HH.out.alloc _).tail⟩
set_option maxRecDepth 100000 in
theorem verdict_calls (g : Nat) (c : CS) (R : List Asn) (w0 w : World) (H : sat w0 w (CN g c :: R)) :
    Calls Tryz.prog 112 #[.pointer (some ⟨g, 0, none⟩)] w fun e w' => e = .returned (.agg c.verd) ∧ sat w0 w' (CN g c :: R) := by
  have HH := Lib.hid H
  have c35 : ∀ o, (w.alloc o).cell? ⟨g, 35, none⟩ = some (.int .i64 c.vs) := fun o => CN.at g c (H.alloc o).tail 35
  have c36 : ∀ o, (w.alloc o).cell? ⟨g, 36, none⟩ = some (.int .i64 c.vp) := fun o => CN.at g c (H.alloc o).tail 36
  have c37 : ∀ o, (w.alloc o).cell? ⟨g, 37, none⟩ = some (.int .i64 c.vu) := fun o => CN.at g c (H.alloc o).tail 37
  have c38 : ∀ o, (w.alloc o).cell? ⟨g, 38, none⟩ = some (.int .i64 0) := fun o => CN.at g c (H.alloc o).tail 38
  have c39 : ∀ o, (w.alloc o).cell? ⟨g, 39, none⟩ = some (.string c.vh) := fun o => CN.at g c (H.alloc o).tail 39
  have c40 : ∀ o, (w.alloc o).cell? ⟨g, 40, none⟩ = some (.int .i64 0) := fun o => CN.at g c (H.alloc o).tail 40
  have c41 : ∀ o, (w.alloc o).cell? ⟨g, 41, none⟩ = some (.bool false) := fun o => CN.at g c (H.alloc o).tail 41
  have c42 : ∀ o, (w.alloc o).cell? ⟨g, 42, none⟩ = some (.string ⟨#[]⟩) := fun o => CN.at g c (H.alloc o).tail 42
  have c43 : ∀ o, (w.alloc o).cell? ⟨g, 43, none⟩ = some (.slice none 0 0) := fun o => CN.at g c (H.alloc o).tail 43
  have c44 : ∀ o, (w.alloc o).cell? ⟨g, 44, none⟩ = some (.slice none 0 0) := fun o => CN.at g c (H.alloc o).tail 44
  have c45 : ∀ o, (w.alloc o).cell? ⟨g, 45, none⟩ = some (.bool false) := fun o => CN.at g c (H.alloc o).tail 45
  clear H
  go_enter Tryz.func112, Tryz.ntmps112
  go_wp2
  clear c35 c36 c37 c38 c39 c40 c41 c42 c43 c44 c45
  have h := (HH.out.alloc (.cells #[.int .i64 0, .int .i64 0, .int .i64 0, .int .i64 0, .string ⟨#[]⟩, .int .i64 0, .bool false, .string ⟨#[]⟩, .slice none 0 0, .slice none 0 0, .bool false] 83)).alloc (.cells c.verd 83)
  simp only [World.size_alloc] at h
  have HB := Lib.hid h.drew
  clear h
  generalize hvb : w.heap.size + 1 = vb at HB ⊢
  generalize hR : (blk vb _ :: blk w.heap.size _ :: CN g c :: R) = R2 at HB
  have q8 : ∀ x : SW w0 R2, x.w.cell? ⟨vb, 8, none⟩ = some (.slice none 0 0) := fun x => by subst hR; exact cellAt x.h.get.1 8
  have q9 : ∀ x : SW w0 R2, x.w.cell? ⟨vb, 9, none⟩ = some (.slice none 0 0) := fun x => by subst hR; exact cellAt x.h.get.1 9
  have c8 := q8 ⟨_, HB.out⟩
  have c9 := q9 ⟨_, HB.out⟩
  dsimp only at c8 c9
  have hnon : Nonempty (SW w0 R2) := ⟨⟨_, HB.out⟩⟩
  refine wp_region_mix (fun u => ∃ x : SW w0 R2, u = x.w) [0, 1, 2, 4, 5, 6, 3, 8, 9, 7, 10, 11, 12, 13] [4, 5, 6, 8, 9] (by kernel_rfl) (by kernel_rfl) ⟨⟨_, HB.out⟩, rfl⟩ ?_
  repeat (first | ((first | refine mix_a rfl (by decide +kernel) rfl (fun K hK => ?_) | refine mix_q rfl (by decide +kernel) rfl (fun K hK => ?_)); go_big_quiet_op; refine hK _ ?_; clear hK K) | (refine mix_s rfl rfl (by decide +kernel) ?_; simp only [Act.put, List.setIfInBounds_toArray, List.set_cons_zero, List.set_cons_succ]))
  refine mix_lC rfl rfl rfl (fun K hK => ?_)
  refine op_call rfl Tryz.func126 (by kernel_rfl) (by kernel_rfl) (clone126_calls _) rfl ?_
  rintro r w9 ⟨rfl, rfl⟩
  refine ⟨_, rfl, hK _ _ ⟨⟨_, HB.out⟩, rfl⟩ ?_⟩
  clear hK K
  simp only [Act.put, List.setIfInBounds_toArray, List.set_cons_zero, List.set_cons_succ]
  repeat (first | ((first | refine mix_a rfl (by decide +kernel) rfl (fun K hK => ?_) | refine mix_q rfl (by decide +kernel) rfl (fun K hK => ?_)); go_big_quiet_op; refine hK _ ?_; clear hK K) | (refine mix_s rfl rfl (by decide +kernel) ?_; simp only [Act.put, List.setIfInBounds_toArray, List.set_cons_zero, List.set_cons_succ]))
  refine mix_lC rfl rfl rfl (fun K hK => ?_)
  refine op_call rfl Tryz.func127 (by kernel_rfl) (by kernel_rfl) (clone127_calls _) rfl ?_
  rintro r w9 ⟨rfl, rfl⟩
  refine ⟨_, rfl, hK _ _ ⟨⟨_, HB.out⟩, rfl⟩ ?_⟩
  clear hK K
  simp only [Act.put, List.setIfInBounds_toArray, List.set_cons_zero, List.set_cons_succ]
  repeat (first | ((first | refine mix_a rfl (by decide +kernel) rfl (fun K hK => ?_) | refine mix_q rfl (by decide +kernel) rfl (fun K hK => ?_)); go_big_quiet_op; refine hK _ ?_; clear hK K) | (refine mix_s rfl rfl (by decide +kernel) ?_; simp only [Act.put, List.setIfInBounds_toArray, List.set_cons_zero, List.set_cons_succ]))
  refine mix_l rfl (by decide +kernel) rfl (fun K hK => ?_)
  refine op_store1 (.slice none 0 0) rfl (by kernel_rfl) rfl rfl rfl rfl (show sat w0 _ (blk vb _ :: blk w.heap.size _ :: CN g c :: R) by subst hR; exact HB.out) (by simp [CS.verd]) ?_
  intro w2 H2
  have HC := Lib.hid H2
  clear H2 HB
  refine hK _ _ ?_; clear hK K; (try simp only [Act.put, List.setIfInBounds_toArray, List.set_cons_zero, List.set_cons_succ])
  repeat (first | ((first | refine mix_a rfl (by decide +kernel) rfl (fun K hK => ?_) | refine mix_q rfl (by decide +kernel) rfl (fun K hK => ?_)); go_big_quiet_op; refine hK _ ?_; clear hK K) | (refine mix_s rfl rfl (by decide +kernel) ?_; simp only [Act.put, List.setIfInBounds_toArray, List.set_cons_zero, List.set_cons_succ]))
  refine mix_l rfl (by decide +kernel) rfl (fun K hK => ?_)
  refine op_store1 (.slice none 0 0) rfl (by kernel_rfl) rfl rfl rfl rfl HC.out (by simp [CS.verd]) ?_
  intro w3 H3
  have e : (#[Value.int .i64 c.vs, .int .i64 c.vp, .int .i64 c.vu, .int .i64 0, .string c.vh, .int .i64 0, .bool false, .string ⟨#[]⟩, .slice none 0 0, .slice none 0 0, .bool false].setIfInBounds 8 (.slice none 0 0)).setIfInBounds 9 (.slice none 0 0) = c.verd := rfl
  have HD := Lib.hid (show sat w0 w3 (blk vb (.cells c.verd 83) :: _) from H3)
  clear H3 HC
  clear c8 c9 q8 q9
  have v0 : w3.cell? ⟨vb, 0, none⟩ = some (Value.int .i64 c.vs) := cellAt HD.out.get.1 0
  have v1 : w3.cell? ⟨vb, 1, none⟩ = some (Value.int .i64 c.vp) := cellAt HD.out.get.1 1
  have v2 : w3.cell? ⟨vb, 2, none⟩ = some (Value.int .i64 c.vu) := cellAt HD.out.get.1 2
  have v3 : w3.cell? ⟨vb, 3, none⟩ = some (Value.int .i64 0) := cellAt HD.out.get.1 3
  have v4 : w3.cell? ⟨vb, 4, none⟩ = some (Value.string c.vh) := cellAt HD.out.get.1 4
  have v5 : w3.cell? ⟨vb, 5, none⟩ = some (Value.int .i64 0) := cellAt HD.out.get.1 5
  have v6 : w3.cell? ⟨vb, 6, none⟩ = some (Value.bool false) := cellAt HD.out.get.1 6
  have v7 : w3.cell? ⟨vb, 7, none⟩ = some (Value.string ⟨#[]⟩) := cellAt HD.out.get.1 7
  have v8 : w3.cell? ⟨vb, 8, none⟩ = some (Value.slice none 0 0) := cellAt HD.out.get.1 8
  have v9 : w3.cell? ⟨vb, 9, none⟩ = some (Value.slice none 0 0) := cellAt HD.out.get.1 9
  have v10 : w3.cell? ⟨vb, 10, none⟩ = some (Value.bool false) := cellAt HD.out.get.1 10
  refine hK _ _ ?_; clear hK K; (try simp only [Act.put, List.setIfInBounds_toArray, List.set_cons_zero, List.set_cons_succ])
  refine mix_nil ?_
  go_wp2_with (refine BigFrame.wpList_want (by rfl) fun K' hK' => ?_; refine op_store (vs := [Value.int .i64 c.vs, Value.int .i64 c.vp, Value.int .i64 c.vu, Value.int .i64 0, Value.string c.vh, Value.int .i64 0, Value.bool false, Value.string ⟨#[]⟩, Value.slice none 0 0, Value.slice none 0 0, Value.bool false]) (by rfl) (by kernel_rfl) (by rfl) (by rfl) (by rfl) (by intro u hu; simp only [List.mem_cons, List.not_mem_nil, or_false] at hu; rcases hu with rfl | rfl | rfl | rfl | rfl | rfl | rfl | rfl | rfl | rfl | rfl <;> rfl) HD.out.swap (Nat.le_refl _) ?_; intro w4 H4; refine hK' _ _ ?_; clear hK' K'; have hg : w4.heap[w.heap.size]? = some (.cells c.verd 83) := H4.get.1; have HE := Lib.hid H4; clear H4)
  refine bodyPost_ret (results_cell_row rfl _ _ w.heap.size 83 c.verd (0, 0) _ rfl hg Tryz.underlying83 rfl (by kernel_rfl)) rfl ?_
  exact ⟨rfl, HE.out.tail.tail⟩
end Go.Proofs.YtonipcfnhmnnlaaGreatDoor
