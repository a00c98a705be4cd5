/- A connection: what it does. -/
import Derived.Test.YtonipcfnhmnnlaaGreatDoorMConn
namespace Go.Proofs.YtonipcfnhmnnlaaGreatDoor
open Go Go.RowKit Hg
set_option linter.unusedVariables false
set_option linter.unusedSimpArgs false
attribute [local go_sem] Lib.run_eql_slice_nil run_min2 run_max2 run_min_two run_max_two
/-- What is done: its kind, its bytes, why. -/
structure AC where
  kind : Int
  b : ByteArray
  why : Int
def AC.cells (a : AC) : List Value := [.int .i64 a.kind, .string a.b, .int .i64 a.why]
def acts (l : List AC) : List Value := l.flatMap AC.cells
/-- A slice of what is done. -/
def RowA (v : Value) (l : List AC) : Asn := RowC 49 3 v l.length (acts l)
theorem acts_length (l : List AC) : (acts l).length = l.length * 3 := by
  induction l with
  | nil => rfl
  | cons a t ih => simp only [acts, List.flatMap_cons, List.length_append] at ih ⊢; rw [ih]; simp [AC.cells]; omega
theorem finish_calls (g : Nat) (c : CS) (why : Int) (R : List Asn) (w0 w : World) (H : sat w0 w (CN g c :: R)) :
    Calls Tryz.prog 75 #[.pointer (some ⟨g, 0, none⟩), .int .i64 why] w fun e w' => ∃ b, e = .returned (.slice (some ⟨b, 0, none⟩) 1 1) ∧ sat w0 w' (RowA (.slice (some ⟨b, 0, none⟩) 1 1) [⟨5, ⟨#[]⟩, why⟩] :: CN g { c with st := 4 } :: R) := by
  have HH := Lib.hid H
  have c26 : w.cell? ⟨g, 26, none⟩ = some (.int .i64 c.st) := CN.at g c H 26
  have f26 := CN.fr g c H 26
  clear H
  go_enter Tryz.func75, Tryz.ntmps75
  go_wp2
  go_ret
  have h := (HH.out.store (i := 26) (.int .i64 4)).alloc (.cells #[.int .i64 5, .string ⟨#[]⟩, .int .i64 why] 49)
  have h2 := RowC.of_blk (sz := 3) h (cap := 1) 1 (acts [⟨5, ⟨#[]⟩, why⟩]) rfl (Nat.le_refl _) (by decide) rfl rfl
  rw [show (w.setCell ⟨g, 26, none⟩ (.int .i64 4)).heap.size = w.heap.size by simp [World.setCell]] at h2
  exact ⟨_, rfl, h2⟩
/-- One more is done. -/
theorem op_append_acts {o : Oper} {a : Act} {K : Act → World → Prop} {Q : Exit → Act → World → Prop} {s x : Operand}
    (ho : o.op = .call { callee := .builtin .append, args := #[s, x], argTypes := #[108, 108] }) {v y : Value} (hs : a.eval s = v) (hy : a.eval x = y) {w0 w : World} {R : List Asn} {l m : List AC} (h : sat w0 w (RowA v l :: R)) (hx : ReadsC 3 w y m.length (acts m))
    (hl : l.length + m.length ≤ 1000000)
    (hk : ∀ v' w', sat w0 w' (RowA v' (l ++ m) :: R) → K (a.put o.dst v') w') : o.wp Tryz.prog a w K Q := by
  refine op_append_row (e := 49) (z := .agg #[.int .i64 0, .string ⟨#[]⟩, .int .i64 0]) (sz := 3) (bytes := 32) ho Tryz.underlying108 (by kernel_rfl) rfl (by decide) (by decide) hs hy h hx ?_ (by omega) fun v' w' h' _ => hk v' w' ?_
  · intro u hu
    simp only [acts, List.mem_flatMap, AC.cells] at hu
    obtain ⟨q, _, hu⟩ := hu
    simp at hu
    rcases hu with rfl | rfl | rfl <;> rfl
  · unfold RowA
    rw [List.length_append, show acts (l ++ m) = acts l ++ acts m by simp [acts]]
    exact h'
theorem RowA.nil {w0 w : World} {R : List Asn} (h : sat w0 w R) : sat w0 w (RowA (.slice none 0 0) [] :: R) := RowC.nil h _ _
theorem acts_blk {w0 w : World} {R : List Asn} {b : Nat} (q : AC) (h : sat w0 w (blk b (.cells #[.int .i64 q.kind, .string q.b, .int .i64 q.why] 49) :: R)) : ReadsC 3 w (.slice (some ⟨b, 0, none⟩) 1 1) [q].length (acts [q]) :=
  RowC.readsC (RowC.of_blk (sz := 3) h (cap := 1) 1 (acts [q]) rfl (Nat.le_refl _) (by decide) rfl rfl)
theorem size_setCell (w : World) (a : Addr) (v : Value) : (w.setCell a v).heap.size = w.heap.size := by simp [World.setCell]
theorem acts_blk' {w0 w : World} {R : List Asn} {b n : Nat} (q : AC) (hn : n = b) (h : sat w0 w (blk b (.cells #[.int .i64 q.kind, .string q.b, .int .i64 q.why] 49) :: R)) : ReadsC 3 w (.slice (some ⟨n, 0, none⟩) 1 1) [q].length (acts [q]) := by
  subst hn; exact acts_blk q h
/-- What goes one way does: its bytes, its end, the connection's end. -/
def goesL (kind : Int) (b : List UInt8) (fin all : Bool) : List AC := (if b = [] then [] else [⟨kind, bstr b, 0⟩]) ++ (if fin then [⟨kind + 1, ⟨#[]⟩, 0⟩] else []) ++ (if all then [⟨5, ⟨#[]⟩, 0⟩] else [])
set_option maxHeartbeats 1600000 in
set_option maxRecDepth 100000 in
theorem goesup_calls (g left : Nat) (kind : Int) (hkd : kind = 1 ∨ kind = 3) (c : CS) (b : List UInt8) (s : Value) (R : List Asn) (w0 w : World) (hb : b.length ≤ 1000000) (hst : c.st = 2)
    (H : sat w0 w (CN g c :: R)) (hs : Rd w0 R s b) (fin all : Bool) (hfin : fin = (decide (left = 0) && c.ue && !c.ut)) (hall : all = ((c.ut || fin) && c.dt)) :
    Calls Tryz.prog 80 #[.pointer (some ⟨g, 0, none⟩), .pointer (some ⟨g, 29, none⟩), s, .int .i64 left, .int .i64 kind] w fun e w' => ∃ (v : Value) (t : Int), e = .returned v ∧
      sat w0 w' (RowA v (goesL kind b fin all) :: CN g { c with due := t, ut := c.ut || fin, st := if all then 4 else c.st } :: R) := by
  obtain ⟨a0, cp, rfl, _, _⟩ := (hs w H.tail).form
  have c5 : w.cell? ⟨g, 5, none⟩ = some (.int .i64 1000) := CN.at g c H 5
  have ci1 : w.cell? ⟨g, 30, none⟩ = some (.bool c.ue) := CN.at g c H 30
  have ci2 : w.cell? ⟨g, 31, none⟩ = some (.bool c.ut) := CN.at g c H 31
  have cio : w.cell? ⟨g, 34, none⟩ = some (.bool c.dt) := CN.at g c H 34
  have f2 := CN.fr g c H 31
  have HH := Lib.hid (RowA.nil H)
  have HS := Lib.hid hs
  clear H hs
  by_cases hb0 : b = []
  · subst hb0
    have HB := Lib.hid HH.out.swap
    clear HH
    obtain ⟨L0, hL0⟩ : ∃ L0, L0 = ((left : Int) == 0) := ⟨_, rfl⟩
    have hl2 : decide (left = 0) = L0 := by rw [hL0]; cases h : decide (left = 0) <;> simp at h ⊢ <;> omega
    rw [hl2] at hfin
    clear hl2
    obtain ⟨E, hE⟩ : ∃ E, E = c.ue := ⟨_, rfl⟩
    obtain ⟨T, hT⟩ : ∃ T, T = c.ut := ⟨_, rfl⟩
    obtain ⟨O, hO⟩ : ∃ O, O = c.dt := ⟨_, rfl⟩
    rw [← hE] at ci1
    rw [← hT] at ci2
    rw [← hO] at cio
    rw [← hE, ← hT] at hfin
    rw [← hT, ← hO] at hall
    cases L0 <;> cases E <;> cases T <;> cases O <;> simp only [Bool.and_true, Bool.and_false, Bool.true_and, Bool.false_and, Bool.not_true, Bool.not_false] at hfin <;> subst hfin <;> simp only [Bool.or_true, Bool.or_false, Bool.true_or, Bool.false_or, Bool.and_true, Bool.and_false, Bool.true_and, Bool.false_and] at hall <;> subst hall
    all_goals
      have dL := hL0.symm
      have HO := Lib.hid hO
      clear hL0 hE hT hO
      simp only [Bool.false_eq_true, if_false, if_true, Bool.or_false, Bool.or_true]
      go_enter Tryz.func80, Tryz.ntmps80
      go_wp2_with (first | (at_builtin; refine BigFrame.wpList_want (by rfl) fun K' hK' => ?_; refine op_append_acts (m := [⟨5, ⟨#[]⟩, 0⟩]) (by rfl) (by rfl) (by rfl) (HF.out.re 3 [2, 0, 1] [] rfl) (RowC.readsC HF.out) (by simp) ?_; intro v6 w6 H6; refine hK' _ _ ?_; clear hK' K'; have HD := Lib.hid (H6.re 3 [0, 2] [1] rfl); clear H6 HF) | (at_builtin; refine BigFrame.wpList_want (by rfl) fun K' hK' => ?_; refine op_append_acts (m := [⟨kind + 1, ⟨#[]⟩, 0⟩]) (by rfl) (by rfl) (by rfl) (((HB.out.store (i := 31) (.bool true)).alloc (.cells #[.int .i64 (kind + 1), .string ⟨#[]⟩, .int .i64 0] 49)).re 3 [2, 0, 1] [] rfl) (acts_blk' ⟨kind + 1, ⟨#[]⟩, 0⟩ (size_setCell _ _ _).symm ((HB.out.store (i := 31) (.bool true)).alloc _)) (by simp) ?_; intro v5 w5 H5; refine hK' _ _ ?_; clear hK' K'; have HC := Lib.hid (H5.re 3 [2, 0] [1] rfl); clear H5 HB; have k2 : w5.cell? ⟨g, 31, none⟩ = some (.bool true) := cellAt HC.out.get.1 31; have kio : w5.cell? ⟨g, 34, none⟩ = some (.bool c.dt) := cellAt HC.out.get.1 34; rw [← HO.out] at kio) | (go_at_call 75; (first | (refine (finish_calls g { c with ut := true } 0 _ w0 _ HC.out).mono ?_) | (refine (finish_calls g c 0 _ w0 _ HB.out).mono ?_)); rintro e w7 ⟨b7, rfl, H7⟩; have HF := Lib.hid H7; clear H7))
      go_ret
      first
        | exact ⟨_, c.due, rfl, HD.out⟩
        | exact ⟨_, c.due, rfl, HC.out.swap⟩
        | exact ⟨_, c.due, rfl, HB.out.swap⟩
  · unfold goesL
    rw [if_neg hb0]
    have hpos : 0 < b.length := List.length_pos_iff.2 hb0
    obtain ⟨L0, hL0⟩ : ∃ L0, L0 = ((left : Int) == 0) := ⟨_, rfl⟩
    have hl2 : decide (left = 0) = L0 := by rw [hL0]; cases h : decide (left = 0) <;> simp at h ⊢ <;> omega
    rw [hl2] at hfin
    clear hl2
    obtain ⟨E, hE⟩ : ∃ E, E = c.ue := ⟨_, rfl⟩
    obtain ⟨T, hT⟩ : ∃ T, T = c.ut := ⟨_, rfl⟩
    obtain ⟨O, hO⟩ : ∃ O, O = c.dt := ⟨_, rfl⟩
    rw [← hE] at ci1
    rw [← hT] at ci2
    rw [← hO] at cio
    rw [← hE, ← hT] at hfin
    rw [← hT, ← hO] at hall
    cases L0 <;> cases E <;> cases T <;> cases O <;> simp only [Bool.and_true, Bool.and_false, Bool.true_and, Bool.false_and, Bool.not_true, Bool.not_false] at hfin <;> subst hfin <;> simp only [Bool.or_true, Bool.or_false, Bool.true_or, Bool.false_or, Bool.and_true, Bool.and_false, Bool.true_and, Bool.false_and] at hall <;> subst hall
    all_goals
      have dL := hL0.symm
      have HO := Lib.hid hO
      have HE := Lib.hid hE
      have HT := Lib.hid hT
      clear hL0 hE hT hO
      simp only [Bool.false_eq_true, if_false, if_true, Bool.or_false, Bool.or_true]
      go_enter Tryz.func80, Tryz.ntmps80
      go_wp2_with (first | (refine wp_conv_str (by rfl) (by rfl) Tryz.underlying42 (by kernel_rfl) Tryz.underlying9 (by rfl) (HS.out _ HH.out.tail.tail) ?_) | (go_at_call 76; refine (wait_calls g c 1000 (by decide) _ w0 _ HA.out).mono ?_; rintro e w2 ⟨rfl, H2⟩; have m1 : w2.cell? ⟨g, 30, none⟩ = some (.bool c.ue) := CN.at g _ H2 30; have m2 : w2.cell? ⟨g, 31, none⟩ = some (.bool c.ut) := CN.at g _ H2 31; have mo : w2.cell? ⟨g, 34, none⟩ = some (.bool c.dt) := CN.at g _ H2 34; have mf := CN.fr g _ H2 31; rw [← HE.out] at m1; rw [← HT.out] at m2; rw [← HO.out] at mo; have HB := Lib.hid H2; clear H2 HA) | (at_builtin; refine BigFrame.wpList_want (by rfl) fun K' hK' => ?_; refine op_append_acts (m := [⟨5, ⟨#[]⟩, 0⟩]) (by rfl) (by rfl) (by rfl) (HF.out.re 3 [2, 0, 1] [] rfl) (RowC.readsC HF.out) (by simp) ?_; intro v6 w6 H6; refine hK' _ _ ?_; clear hK' K'; have HD := Lib.hid (H6.re 3 [0, 2] [1] rfl); clear H6 HF) | (at_builtin; refine BigFrame.wpList_want (by rfl) fun K' hK' => ?_; refine op_append_acts (m := [⟨kind + 1, ⟨#[]⟩, 0⟩]) (by rfl) (by rfl) (by rfl) (((HB.out.store (i := 31) (.bool true)).alloc (.cells #[.int .i64 (kind + 1), .string ⟨#[]⟩, .int .i64 0] 49)).re 3 [2, 0, 1] [] rfl) (acts_blk' ⟨kind + 1, ⟨#[]⟩, 0⟩ (size_setCell _ _ _).symm ((HB.out.store (i := 31) (.bool true)).alloc _)) (by simp) ?_; intro v5 w5 H5; refine hK' _ _ ?_; clear hK' K'; have HC := Lib.hid (H5.re 3 [2, 0] [1] rfl); clear H5 HB; have k2 : w5.cell? ⟨g, 31, none⟩ = some (.bool true) := cellAt HC.out.get.1 31; have kio : w5.cell? ⟨g, 34, none⟩ = some (.bool c.dt) := cellAt HC.out.get.1 34; rw [← HO.out] at kio) | (at_builtin; refine BigFrame.wpList_want (by rfl) fun K' hK' => ?_; refine op_append_acts (l := []) (m := [⟨kind, bstr b, 0⟩]) (by rfl) (by rfl) (by rfl) ((HH.out.alloc (.cells #[.int .i64 kind, .string (bstr b), .int .i64 0] 49)).re 3 [1, 0, 2] [] rfl) (acts_blk ⟨kind, bstr b, 0⟩ (HH.out.alloc _)) (by simp) ?_; intro v4 w4 H4; refine hK' _ _ ?_; clear hK' K'; have HA := Lib.hid (show sat w0 w4 (CN g c :: RowA v4 [⟨kind, bstr b, 0⟩] :: R) from H4.re 3 [2, 0] [1] rfl); clear H4 HH; have k5 : w4.cell? ⟨g, 5, none⟩ = some (.int .i64 1000) := CN.at g c HA.out 5) | (go_at_call 75; (first | (refine (finish_calls g { c with due := 1000, ut := true } 0 _ w0 _ HC.out).mono ?_) | (refine (finish_calls g { c with due := 1000 } 0 _ w0 _ HB.out).mono ?_)); rintro e w7 ⟨b7, rfl, H7⟩; have HF := Lib.hid H7; clear H7))
      go_ret
      first
        | exact ⟨_, 1000, rfl, HD.out⟩
        | exact ⟨_, 1000, rfl, HC.out.swap⟩
        | exact ⟨_, 1000, rfl, HB.out.swap⟩
set_option maxHeartbeats 1600000 in
set_option maxRecDepth 100000 in
theorem goesdown_calls (g left : Nat) (kind : Int) (hkd : kind = 1 ∨ kind = 3) (c : CS) (b : List UInt8) (s : Value) (R : List Asn) (w0 w : World) (hb : b.length ≤ 1000000) (hst : c.st = 2)
    (H : sat w0 w (CN g c :: R)) (hs : Rd w0 R s b) (fin all : Bool) (hfin : fin = (decide (left = 0) && c.de && !c.dt)) (hall : all = ((c.dt || fin) && c.ut)) :
    Calls Tryz.prog 80 #[.pointer (some ⟨g, 0, none⟩), .pointer (some ⟨g, 32, none⟩), s, .int .i64 left, .int .i64 kind] w fun e w' => ∃ (v : Value) (t : Int), e = .returned v ∧
      sat w0 w' (RowA v (goesL kind b fin all) :: CN g { c with due := t, dt := c.dt || fin, st := if all then 4 else c.st } :: R) := by
  obtain ⟨a0, cp, rfl, _, _⟩ := (hs w H.tail).form
  have c5 : w.cell? ⟨g, 5, none⟩ = some (.int .i64 1000) := CN.at g c H 5
  have ci1 : w.cell? ⟨g, 33, none⟩ = some (.bool c.de) := CN.at g c H 33
  have ci2 : w.cell? ⟨g, 34, none⟩ = some (.bool c.dt) := CN.at g c H 34
  have cio : w.cell? ⟨g, 31, none⟩ = some (.bool c.ut) := CN.at g c H 31
  have f2 := CN.fr g c H 34
  have HH := Lib.hid (RowA.nil H)
  have HS := Lib.hid hs
  clear H hs
  by_cases hb0 : b = []
  · subst hb0
    have HB := Lib.hid HH.out.swap
    clear HH
    obtain ⟨L0, hL0⟩ : ∃ L0, L0 = ((left : Int) == 0) := ⟨_, rfl⟩
    have hl2 : decide (left = 0) = L0 := by rw [hL0]; cases h : decide (left = 0) <;> simp at h ⊢ <;> omega
    rw [hl2] at hfin
    clear hl2
    obtain ⟨E, hE⟩ : ∃ E, E = c.de := ⟨_, rfl⟩
    obtain ⟨T, hT⟩ : ∃ T, T = c.dt := ⟨_, rfl⟩
    obtain ⟨O, hO⟩ : ∃ O, O = c.ut := ⟨_, rfl⟩
    rw [← hE] at ci1
    rw [← hT] at ci2
    rw [← hO] at cio
    rw [← hE, ← hT] at hfin
    rw [← hT, ← hO] at hall
    cases L0 <;> cases E <;> cases T <;> cases O <;> simp only [Bool.and_true, Bool.and_false, Bool.true_and, Bool.false_and, Bool.not_true, Bool.not_false] at hfin <;> subst hfin <;> simp only [Bool.or_true, Bool.or_false, Bool.true_or, Bool.false_or, Bool.and_true, Bool.and_false, Bool.true_and, Bool.false_and] at hall <;> subst hall
    all_goals
      have dL := hL0.symm
      have HO := Lib.hid hO
      clear hL0 hE hT hO
      simp only [Bool.false_eq_true, if_false, if_true, Bool.or_false, Bool.or_true]
      go_enter Tryz.func80, Tryz.ntmps80
      go_wp2_with (first | (at_builtin; refine BigFrame.wpList_want (by rfl) fun K' hK' => ?_; refine op_append_acts (m := [⟨5, ⟨#[]⟩, 0⟩]) (by rfl) (by rfl) (by rfl) (HF.out.re 3 [2, 0, 1] [] rfl) (RowC.readsC HF.out) (by simp) ?_; intro v6 w6 H6; refine hK' _ _ ?_; clear hK' K'; have HD := Lib.hid (H6.re 3 [0, 2] [1] rfl); clear H6 HF) | (at_builtin; refine BigFrame.wpList_want (by rfl) fun K' hK' => ?_; refine op_append_acts (m := [⟨kind + 1, ⟨#[]⟩, 0⟩]) (by rfl) (by rfl) (by rfl) (((HB.out.store (i := 34) (.bool true)).alloc (.cells #[.int .i64 (kind + 1), .string ⟨#[]⟩, .int .i64 0] 49)).re 3 [2, 0, 1] [] rfl) (acts_blk' ⟨kind + 1, ⟨#[]⟩, 0⟩ (size_setCell _ _ _).symm ((HB.out.store (i := 34) (.bool true)).alloc _)) (by simp) ?_; intro v5 w5 H5; refine hK' _ _ ?_; clear hK' K'; have HC := Lib.hid (H5.re 3 [2, 0] [1] rfl); clear H5 HB; have k2 : w5.cell? ⟨g, 34, none⟩ = some (.bool true) := cellAt HC.out.get.1 34; have kio : w5.cell? ⟨g, 31, none⟩ = some (.bool c.ut) := cellAt HC.out.get.1 31; rw [← HO.out] at kio) | (go_at_call 75; (first | (refine (finish_calls g { c with dt := true } 0 _ w0 _ HC.out).mono ?_) | (refine (finish_calls g c 0 _ w0 _ HB.out).mono ?_)); rintro e w7 ⟨b7, rfl, H7⟩; have HF := Lib.hid H7; clear H7))
      go_ret
      first
        | exact ⟨_, c.due, rfl, HD.out⟩
        | exact ⟨_, c.due, rfl, HC.out.swap⟩
        | exact ⟨_, c.due, rfl, HB.out.swap⟩
  · unfold goesL
    rw [if_neg hb0]
    have hpos : 0 < b.length := List.length_pos_iff.2 hb0
    obtain ⟨L0, hL0⟩ : ∃ L0, L0 = ((left : Int) == 0) := ⟨_, rfl⟩
    have hl2 : decide (left = 0) = L0 := by rw [hL0]; cases h : decide (left = 0) <;> simp at h ⊢ <;> omega
    rw [hl2] at hfin
    clear hl2
    obtain ⟨E, hE⟩ : ∃ E, E = c.de := ⟨_, rfl⟩
    obtain ⟨T, hT⟩ : ∃ T, T = c.dt := ⟨_, rfl⟩
    obtain ⟨O, hO⟩ : ∃ O, O = c.ut := ⟨_, rfl⟩
    rw [← hE] at ci1
    rw [← hT] at ci2
    rw [← hO] at cio
    rw [← hE, ← hT] at hfin
    rw [← hT, ← hO] at hall
    cases L0 <;> cases E <;> cases T <;> cases O <;> simp only [Bool.and_true, Bool.and_false, Bool.true_and, Bool.false_and, Bool.not_true, Bool.not_false] at hfin <;> subst hfin <;> simp only [Bool.or_true, Bool.or_false, Bool.true_or, Bool.false_or, Bool.and_true, Bool.and_false, Bool.true_and, Bool.false_and] at hall <;> subst hall
    all_goals
      have dL := hL0.symm
      have HO := Lib.hid hO
      have HE := Lib.hid hE
      have HT := Lib.hid hT
      clear hL0 hE hT hO
      simp only [Bool.false_eq_true, if_false, if_true, Bool.or_false, Bool.or_true]
      go_enter Tryz.func80, Tryz.ntmps80
      go_wp2_with (first | (refine wp_conv_str (by rfl) (by rfl) Tryz.underlying42 (by kernel_rfl) Tryz.underlying9 (by rfl) (HS.out _ HH.out.tail.tail) ?_) | (go_at_call 76; refine (wait_calls g c 1000 (by decide) _ w0 _ HA.out).mono ?_; rintro e w2 ⟨rfl, H2⟩; have m1 : w2.cell? ⟨g, 33, none⟩ = some (.bool c.de) := CN.at g _ H2 33; have m2 : w2.cell? ⟨g, 34, none⟩ = some (.bool c.dt) := CN.at g _ H2 34; have mo : w2.cell? ⟨g, 31, none⟩ = some (.bool c.ut) := CN.at g _ H2 31; have mf := CN.fr g _ H2 34; rw [← HE.out] at m1; rw [← HT.out] at m2; rw [← HO.out] at mo; have HB := Lib.hid H2; clear H2 HA) | (at_builtin; refine BigFrame.wpList_want (by rfl) fun K' hK' => ?_; refine op_append_acts (m := [⟨5, ⟨#[]⟩, 0⟩]) (by rfl) (by rfl) (by rfl) (HF.out.re 3 [2, 0, 1] [] rfl) (RowC.readsC HF.out) (by simp) ?_; intro v6 w6 H6; refine hK' _ _ ?_; clear hK' K'; have HD := Lib.hid (H6.re 3 [0, 2] [1] rfl); clear H6 HF) | (at_builtin; refine BigFrame.wpList_want (by rfl) fun K' hK' => ?_; refine op_append_acts (m := [⟨kind + 1, ⟨#[]⟩, 0⟩]) (by rfl) (by rfl) (by rfl) (((HB.out.store (i := 34) (.bool true)).alloc (.cells #[.int .i64 (kind + 1), .string ⟨#[]⟩, .int .i64 0] 49)).re 3 [2, 0, 1] [] rfl) (acts_blk' ⟨kind + 1, ⟨#[]⟩, 0⟩ (size_setCell _ _ _).symm ((HB.out.store (i := 34) (.bool true)).alloc _)) (by simp) ?_; intro v5 w5 H5; refine hK' _ _ ?_; clear hK' K'; have HC := Lib.hid (H5.re 3 [2, 0] [1] rfl); clear H5 HB; have k2 : w5.cell? ⟨g, 34, none⟩ = some (.bool true) := cellAt HC.out.get.1 34; have kio : w5.cell? ⟨g, 31, none⟩ = some (.bool c.ut) := cellAt HC.out.get.1 31; rw [← HO.out] at kio) | (at_builtin; refine BigFrame.wpList_want (by rfl) fun K' hK' => ?_; refine op_append_acts (l := []) (m := [⟨kind, bstr b, 0⟩]) (by rfl) (by rfl) (by rfl) ((HH.out.alloc (.cells #[.int .i64 kind, .string (bstr b), .int .i64 0] 49)).re 3 [1, 0, 2] [] rfl) (acts_blk ⟨kind, bstr b, 0⟩ (HH.out.alloc _)) (by simp) ?_; intro v4 w4 H4; refine hK' _ _ ?_; clear hK' K'; have HA := Lib.hid (show sat w0 w4 (CN g c :: RowA v4 [⟨kind, bstr b, 0⟩] :: R) from H4.re 3 [2, 0] [1] rfl); clear H4 HH; have k5 : w4.cell? ⟨g, 5, none⟩ = some (.int .i64 1000) := CN.at g c HA.out 5) | (go_at_call 75; (first | (refine (finish_calls g { c with due := 1000, dt := true } 0 _ w0 _ HC.out).mono ?_) | (refine (finish_calls g { c with due := 1000 } 0 _ w0 _ HB.out).mono ?_)); rintro e w7 ⟨b7, rfl, H7⟩; have HF := Lib.hid H7; clear H7))
      go_ret
      first
        | exact ⟨_, 1000, rfl, HD.out⟩
        | exact ⟨_, 1000, rfl, HC.out.swap⟩
        | exact ⟨_, 1000, rfl, HB.out.swap⟩
end Go.Proofs.YtonipcfnhmnnlaaGreatDoor
