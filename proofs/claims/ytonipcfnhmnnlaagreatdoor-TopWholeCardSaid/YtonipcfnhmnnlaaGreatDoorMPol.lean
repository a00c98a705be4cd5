/- The policy: one line of two words. The policy's line; its parse; is it right? The policy: parsed, right; a judge of it. A judge of the policy. A tenant's policy is loaded. No pin, no refusal. -/
import Derived.Test.YtonipcfnhmnnlaaGreatDoorMText
import Derived.Test.YtonipcfnhmnnlaaGreatDoorCT18
namespace Go.Proofs.YtonipcfnhmnnlaaGreatDoor
open Go Go.RowKit Hg
set_option linter.unusedVariables false
set_option linter.unusedSimpArgs false
attribute [local go_sem] Lib.run_eql_slice_nil run_min2 run_max2 run_min_two run_max_two
/-- A block that somebody else has made. -/
theorem sat_own {w0 w w' : World} {l : List Asn} (h : sat w0 w l) (hb' : Below w.heap.size w w') {A : Nat} {o : Obj} (hA : w.heap.size ≤ A) (ho : w'.heap[A]? = some o) : sat w0 w' (blk A o :: l) := by
  obtain ⟨hb, x, hx, hs⟩ := h
  have hlt : ∀ k o', x k = some o' → k < w.heap.size := fun k o' hk => (Array.getElem?_eq_some_iff.1 (hx _ _ hk).2).1
  refine ⟨hb.trans (hb'.mono hb.size), fun k => if k = A then some o else x k, ?_, fun k => if k = A then some o else none, x, ?_, ?_, ?_, by simp [blk], hs⟩
  · intro k o' hk
    by_cases hkg : k = A
    · subst hkg; simp at hk; subst hk; exact ⟨Nat.le_trans hb.size hA, ho⟩
    · simp [hkg] at hk
      have := hx _ _ hk
      exact ⟨this.1, by rw [hb'.block k (hlt _ _ hk)]; exact this.2⟩
  · intro k
    by_cases hkg : k = A
    · subst hkg; right
      cases hk : x k with
      | none => rfl
      | some o' => have := hlt _ _ hk; omega
    · left; simp [hkg]
  · intro k o' hk
    by_cases hkg : k = A
    · simpa [hkg] using hk
    · simp [hkg] at hk
  · intro k o' hk
    have hkg : k ≠ A := by
      rintro rfl
      have := hlt _ _ hk; omega
    simp [hkg, hk]
def sDef : ByteArray := ⟨#[100, 101, 102, 97, 117, 108, 116]⟩
def sAll : ByteArray := ⟨#[97, 108, 108, 111, 119]⟩
def sLine : ByteArray := ⟨#[100, 101, 102, 97, 117, 108, 116, 32, 97, 108, 108, 111, 119]⟩
def pSpc (r : Nat) : Bool := decide (r = 32) || decide (r = 9)
theorem spc_gives (W : World) (r : Nat) : FnGives Tryz.prog 102 #[] #[.int .i32 r] (.bool (pSpc r)) W := by
  refine givesRfl ?_
  have HF : pSpc r = (decide (r = 32) || decide (r = 9)) := rfl
  have d1 : ((r : Int) == 32) = decide (r = 32) := by rw [Bool.eq_iff_iff]; simp; omega
  have d2 : ((r : Int) == 9) = decide (r = 9) := by rw [Bool.eq_iff_iff]; simp; omega
  generalize decide (r = 32) = x at *
  generalize decide (r = 9) = y at *
  rw [HF]
  clear HF
  generalize (r : Int) = z at *
  cases x <;> cases y
  all_goals (go_enter Tryz.func102, Tryz.ntmps102)
  all_goals go_wp2
  all_goals go_ret
  all_goals exact ⟨rfl, draw0 _⟩
theorem fields_calls (R : List Asn) (w0 w : World) (H : sat w0 w R) :
    Calls Tryz.prog 101 #[.string sLine, .func (.func 102) #[] #[]] w fun e w' => ∃ b : Nat, e = .returned (.slice (some ⟨b, 0, none⟩) 2 2) ∧ sat w0 w' (Strs b [sDef, sAll] :: R) := by
  refine (Tryz.strings_FieldsFunc_grows 102 #[] (fun args w => callee_of Tryz.func102 (by kernel_rfl) (by kernel_rfl) args w) pSpc sLine w (by decide) ?_).mono ?_
  · intro W x _ _
    refine (show Calls Tryz.prog 102 #[.int .i32 x] W _ from spc_gives W x).mono ?_
    rintro e w' ⟨rfl, q, rfl⟩
    exact ⟨rfl, below_drewNg W q⟩
  · have hf : Lib.goFieldsP pSpc sLine = [sDef, sAll] := by decide +kernel
    rw [hf]
    rintro e w' ⟨A, rfl, hA, ho, hb⟩
    refine ⟨A, rfl, ?_⟩
    rcases ho.2 with ⟨e, _⟩ | ⟨g, cap, cur, e, h1, h2, h3, h4, h5, h6⟩
    · cases e
    · injection e with e1 e2 e3
      injection e1 with e1
      injection e1 with e1
      subst e1
      have h7 : cur = ([sDef, sAll].map Value.string).toArray := by
        apply Array.ext'
        have : cur.toList.length = 2 := by simp at e3 h5 ⊢; omega
        rw [List.take_of_length_le (by simp at this ⊢; omega)] at h6
        simpa using h6
      rw [h7] at h2
      exact sat_own H hb hA h2
/-- A policy under way. -/
def RB (r g : Nat) (d : Bool) : Asn := blk r (.cells #[.pointer (some ⟨g, 0, none⟩), .bool d, .slice none 0 0, .slice none 0 0] 143)
theorem preset_calls (r g b : Nat) (R : List Asn) (w0 w : World) (H : sat w0 w (RB r g false :: Strs b [sDef, sAll] :: R)) :
    Calls Tryz.prog 104 #[.pointer (some ⟨r, 0, none⟩), .slice (some ⟨b, 0, none⟩) 2 2] w fun e w' => e = .returned (.int .i64 0) ∧ sat w0 w' (RB r g true :: Strs b [sDef, sAll] :: R) := by
  have k1 : w.cell? ⟨b, 1, none⟩ = some (.string ⟨#[97, 108, 108, 111, 119]⟩) := cellAt H.tail.get.1 1
  have r0 : w.cell? ⟨r, 0, none⟩ = some (.pointer (some ⟨g, 0, none⟩)) := cellAt H.get.1 0
  have r1 : w.cell? ⟨r, 1, none⟩ = some (.bool false) := cellAt H.get.1 1
  have f1 : w.frozen? ⟨r, 1, none⟩ = false := frozenAt H.get.1 1
  have HH := Lib.hid H
  clear H
  go_enter Tryz.func104, Tryz.ntmps104
  go_wp2
  go_ret
  exact ⟨rfl, HH.out.store (i := 1) (.bool true)⟩
end Go.Proofs.YtonipcfnhmnnlaaGreatDoor
namespace Go.Proofs.YtonipcfnhmnnlaaGreatDoor
open Go Go.RowKit Hg
set_option linter.unusedVariables false
set_option linter.unusedSimpArgs false
attribute [local go_sem] Lib.run_eql_slice_nil run_min2 run_max2 run_min_two run_max_two
theorem op_insert {P : Program} {α : Type} [DecidableEq α] {K : TypeId} {enc : α → Value} {w0 w : World} {R : List Asn} {m : Nat} {l : List (α × Value)} {o : Oper} {a : Act} {Kk : Act → World → Prop} {Q : Exit → Act → World → Prop} (L : KeyLw P K enc) {T E : TypeId} {x y z : Operand} (ho : o.op = .insert T x y z) (hT : P.underlying T = some (.map K E)) {k : α} {v : Value}
    (hx : a.eval x = .map (some m)) (hy : a.eval y = enc k) (hz : a.eval z = v) (h : sat w0 w (MapA enc m l :: R)) (hk : ∀ w', sat w0 w' (MapA enc m (putA k v l) :: R) → Kk (a.put o.dst undef) w') : o.wp P a w Kk Q := by
  obtain ⟨w', h1, h2⟩ := MapA.update L hT h k v
  unfold Oper.wp execOp
  simp only [ho, hx, hy, hz, Sem.run_bind, h1, Result.andThen_ok, Sem.run_pure]
  exact hk w' h2
set_option maxHeartbeats 1600000 in
set_option maxRecDepth 100000 in
theorem line_calls (r g : Nat) (R : List Asn) (w0 w : World) (H : sat w0 w (RB r g false :: R)) :
    Calls Tryz.prog 63 #[.pointer (some ⟨r, 0, none⟩), .string sLine] w fun e w' => e = .returned (.int .i64 0) ∧ sat w0 w' (RB r g true :: R) := by
  have HF := Lib.hid (fields_calls _ w0 w H)
  have hmm := @run_makeMap Tryz.prog
  have hq : ∀ W, (binOp .eql 191 (.func (.func 104) #[.pointer (some ⟨r, 0, none⟩)] #[]) .nilFunc).run Tryz.prog W = .ok (.bool false) W := fun W => by kernel_rfl
  clear H
  go_enter Tryz.func63, Tryz.ntmps63
  go_wp2_with (first | (go_at_call 101; refine HF.out.mono ?_; rintro e w1 ⟨b, rfl, H1⟩; have k0 : w1.cell? ⟨b, 0, none⟩ = some (.string ⟨#[100, 101, 102, 97, 117, 108, 116]⟩) := cellAt H1.get.1 0; have HA := Lib.hid H1; clear H1) | (go_at_call 103; refine (Tryz.strings_HasPrefix _ _ _).mono ?_; rintro e w1 ⟨rfl, rfl⟩) | (refine BigFrame.wpList_want (by rfl) fun K' hK' => ?_; refine op_insert (strKey Tryz.underlying9) (k := ⟨#[100, 101, 102, 97, 117, 108, 116]⟩) (v := .func (.func 104) #[.pointer (some ⟨r, 0, none⟩)] #[]) (by rfl) Tryz.underlying192 (by rfl) (by rfl) (by rfl) (MapA.new (enc := Value.string) (HA.out.alloc (.map #[] 0))) ?_; intro w9 H9; refine hK' _ _ ?_; clear hK' K'; generalize w1.heap.size = mb at *; have N1 : sat w0 w9 (MapA Value.string mb [(⟨#[100, 101, 102, 97, 117, 108, 116]⟩, .func (.func 104) #[.pointer (some ⟨r, 0, none⟩)] #[])] :: Strs b [sDef, sAll] :: RB r g false :: R) := H9; have M1 := Lib.hid N1; clear H9 N1 HA) | (refine BigFrame.wpList_want (by rfl) fun K' hK' => ?_; refine op_insert (strKey Tryz.underlying9) (k := ⟨#[97, 108, 108, 111, 119]⟩) (v := .func (.func 105) #[.pointer (some ⟨r, 0, none⟩)] #[]) (by rfl) Tryz.underlying192 (by rfl) (by rfl) (by rfl) M1.out ?_; intro w9 H9; refine hK' _ _ ?_; clear hK' K'; have N2 : sat w0 w9 (MapA Value.string mb [(⟨#[100, 101, 102, 97, 117, 108, 116]⟩, .func (.func 104) #[.pointer (some ⟨r, 0, none⟩)] #[]), (⟨#[97, 108, 108, 111, 119]⟩, .func (.func 105) #[.pointer (some ⟨r, 0, none⟩)] #[])] :: Strs b [sDef, sAll] :: RB r g false :: R) := H9; have M2 := Lib.hid N2; clear H9 N2 M1) | (refine BigFrame.wpList_want (by rfl) fun K' hK' => ?_; refine op_insert (strKey Tryz.underlying9) (k := ⟨#[100, 101, 110, 121]⟩) (v := .func (.func 105) #[.pointer (some ⟨r, 0, none⟩)] #[]) (by rfl) Tryz.underlying192 (by rfl) (by rfl) (by rfl) M2.out ?_; intro w9 H9; refine hK' _ _ ?_; clear hK' K'; have N3 : sat w0 w9 (MapA Value.string mb [(⟨#[100, 101, 102, 97, 117, 108, 116]⟩, .func (.func 104) #[.pointer (some ⟨r, 0, none⟩)] #[]), (⟨#[97, 108, 108, 111, 119]⟩, .func (.func 105) #[.pointer (some ⟨r, 0, none⟩)] #[]), (⟨#[100, 101, 110, 121]⟩, .func (.func 105) #[.pointer (some ⟨r, 0, none⟩)] #[])] :: Strs b [sDef, sAll] :: RB r g false :: R) := H9; have M3 := Lib.hid N3; clear H9 N3 M2) | (refine BigFrame.wpList_want (by rfl) fun K' hK' => ?_; refine op_insert (strKey Tryz.underlying9) (k := ⟨#[112, 105, 110]⟩) (v := .func (.func 106) #[.pointer (some ⟨r, 0, none⟩)] #[]) (by rfl) Tryz.underlying192 (by rfl) (by rfl) (by rfl) M3.out ?_; intro w9 H9; refine hK' _ _ ?_; clear hK' K'; have N4 : sat w0 w9 (MapA Value.string mb [(⟨#[100, 101, 102, 97, 117, 108, 116]⟩, .func (.func 104) #[.pointer (some ⟨r, 0, none⟩)] #[]), (⟨#[97, 108, 108, 111, 119]⟩, .func (.func 105) #[.pointer (some ⟨r, 0, none⟩)] #[]), (⟨#[100, 101, 110, 121]⟩, .func (.func 105) #[.pointer (some ⟨r, 0, none⟩)] #[]), (⟨#[112, 105, 110]⟩, .func (.func 106) #[.pointer (some ⟨r, 0, none⟩)] #[])] :: Strs b [sDef, sAll] :: RB r g false :: R) := H9; have M4 := Lib.hid N4; have k0 : w9.cell? ⟨b, 0, none⟩ = some (.string ⟨#[100, 101, 102, 97, 117, 108, 116]⟩) := cellAt N4.tail.get.1 0; have lk : (Instr.lookup 192 (.map (some mb)) (.string ⟨#[100, 101, 102, 97, 117, 108, 116]⟩) false).run Tryz.prog w9 = .ok (.func (.func 104) #[.pointer (some ⟨r, 0, none⟩)] #[]) w9 := (MapA.lookup (strKey Tryz.underlying9) Tryz.underlying192 (z := .nilFunc) (by kernel_rfl) N4 ⟨#[100, 101, 102, 97, 117, 108, 116]⟩ false).trans (by rfl); clear H9 N4 M3) | (refine BigFrame.wpList_want (by rfl) fun K' hK' => ?_; refine op_callv (xs := [.tmp 35]) (vs := [.slice (some ⟨b, 0, none⟩) 2 2]) (by rfl) (by rfl) Tryz.func104 (by kernel_rfl) (by kernel_rfl) (preset_calls r g b _ w0 _ (M4.out.re 3 [2, 1, 0] [] rfl)) (by rfl) (by rfl) ?_; rintro e w9 ⟨rfl, H9⟩; refine ⟨_, rfl, hK' _ _ ?_⟩; clear hK' K'; have HZ := Lib.hid H9; clear H9 M4))
  go_ret
  exact ⟨rfl, (HZ.out.re 3 [0] [1, 2] rfl)⟩
end Go.Proofs.YtonipcfnhmnnlaaGreatDoor
namespace Go.Proofs.YtonipcfnhmnnlaaGreatDoor
open Go Go.RowKit Hg
set_option linter.unusedVariables false
set_option linter.unusedSimpArgs false
attribute [local go_sem] Lib.run_eql_slice_nil run_min2 run_max2 run_min_two run_max_two
theorem results_row_tmp2 {fn : Func} {p u u2 : Tmp} {ty : TypeId} (h : fn.results = #[.cell p ty, .tmp u, .tmp u2]) (tmps : Array Value) (w : World) (g : Nat) (t : TypeId) (cs : Array Value) (fr : Nat × Nat) (d : TypeDesc)
    (hp : tmps.getD p undef = .pointer (some ⟨g, 0, none⟩)) (hg : w.heap[g]? = some (.cells cs t fr))
    (hu : Tryz.prog.underlying ty = some d) (hd : (match d with | .struct _ | .array _ _ => true | _ => false) = true) (hi : (Tryz.prog.info? ty).map (·.size) = some cs.size) :
    (results fn tmps).run Tryz.prog w = .ok (.tuple #[.agg cs, tmps.getD u undef, tmps.getD u2 undef]) w := by
  have hp' : tmps[p]?.getD undef = .pointer (some ⟨g, 0, none⟩) := by simpa using hp
  have hl := run_loadVar_row (P := Tryz.prog) w g t ty cs fr d hg hu (by cases d <;> first | rfl | exact hd) hi
  simp [results, h, hp', asAddr, hl]
def pol : Value := .agg #[.bool true, .slice none 0 0, .slice none 0 0]
set_option maxHeartbeats 1600000 in
set_option maxRecDepth 100000 in
theorem parse_calls (R : List Asn) (w0 w : World) (hm : MaxL w0) (H : sat w0 w R) :
    Calls Tryz.prog 31 #[.string sLine] w fun e w' => e = .returned (.tuple #[pol, .int .i64 0, .int .i64 0]) ∧ sat w0 w' R := by
  have HH := Lib.hid (H.alloc (.cells #[.bool false, .slice none 0 0, .slice none 0 0] 95))
  have HS := Lib.hid (fun (R : List Asn) (w1 : World) (h : sat w0 w1 R) => split_sat sLine ⟨#[10]⟩ [sLine] 1 (by decide +kernel) (by decide +kernel) (by decide) (by decide) R w0 w1 hm h)
  clear H hm
  go_enter Tryz.func31, Tryz.ntmps31
  go_wp2_with (first | (go_at_call 61; refine (fresh_calls _ w0 _ HH.out).mono ?_; rintro e w1 ⟨g, t, m, n, rfl, H1⟩; have HA := Lib.hid (show sat w0 _ (RB w1.heap.size g false :: blk w.heap.size (.cells #[.bool false, .slice none 0 0, .slice none 0 0] 95) :: R) from ((satDrop (L := [_, _, _, _]) H1).alloc (.cells #[.pointer (some ⟨g, 0, none⟩), .bool false, .slice none 0 0, .slice none 0 0] 143))); clear H1; generalize hrb : w1.heap.size = rb at *) | (go_at_call 62; refine (HS.out _ _ HA.out).mono ?_; rintro e w2 ⟨b, rfl, H2⟩; have HB := Lib.hid H2; clear H2 HA))
  go_loopw [15] (fun t wr => ((t = .int .i64 0 ∧ sat w0 wr (RB rb g false :: Strs b [sLine] :: blk w.heap.size (.cells #[.bool false, .slice none 0 0, .slice none 0 0] 95) :: R)) ∨ (t = .int .i64 1 ∧ sat w0 wr (RB rb g true :: Strs b [sLine] :: blk w.heap.size (.cells #[.bool false, .slice none 0 0, .slice none 0 0] 95) :: R)))) (fun t _ => 1 - (intOf t).toNat)
  case atStart => exact .inl ⟨rfl, HB.out.swap⟩
  case round =>
    rcases hrel with ⟨rfl, h⟩ | ⟨rfl, h⟩
    · have k0 : wr.cell? ⟨b, 0, none⟩ = some (.string sLine) := cellAt h.tail.get.1 0
      have HC := Lib.hid (line_calls rb g _ w0 wr h)
      clear h HB
      go_wp2_with (go_at_call 63; refine HC.out.mono ?_; rintro e w3 ⟨rfl, H3⟩; have HD := Lib.hid H3; clear H3)
      exact ⟨.inr ⟨rfl, HD.out⟩, by simp [intOf]⟩
    · have r1 : wr.cell? ⟨rb, 1, none⟩ = some (.bool true) := cellAt h.get.1 1
      have r2 : wr.cell? ⟨rb, 2, none⟩ = some (.slice none 0 0) := cellAt h.get.1 2
      have r3 : wr.cell? ⟨rb, 3, none⟩ = some (.slice none 0 0) := cellAt h.get.1 3
      have HC := Lib.hid h
      clear h HB
      go_wp2_with (refine BigFrame.wpList_want (by rfl) fun K' hK' => ?_; refine op_store (vs := [.bool true, .slice none 0 0, .slice none 0 0]) (by rfl) (by kernel_rfl) (by rfl) (by rfl) (by rfl) (by intro u hu; simp only [List.mem_cons, List.not_mem_nil, or_false] at hu; rcases hu with rfl | rfl | rfl <;> rfl) (HC.out.re 3 [2, 0, 1] [] rfl) (Nat.le_refl _) ?_; intro w4 H4; refine hK' _ _ ?_; clear hK' K'; have hg : w4.heap[w.heap.size]? = some (.cells #[.bool true, .slice none 0 0, .slice none 0 0] 95) := H4.get.1; have HE := Lib.hid H4; clear H4)
      refine bodyPost_ret (results_row_tmp2 rfl _ _ w.heap.size 95 #[.bool true, .slice none 0 0, .slice none 0 0] (0, 0) _ rfl hg Tryz.underlying95 rfl (by kernel_rfl)) rfl ?_
      exact ⟨rfl, satDrop (L := [_, _, _]) HE.out⟩
theorem right_calls (R : List Asn) (w0 w : World) (H : sat w0 w R) :
    Calls Tryz.prog 64 #[pol] w fun e w' => e = .returned (.int .i64 0) ∧ sat w0 w' R := by
  have HH := Lib.hid (H.alloc (.cells #[.bool true, .slice none 0 0, .slice none 0 0] 95))
  clear H
  go_enter Tryz.func64, Tryz.ntmps64
  go_wp2_with (go_at_call 61; refine (fresh_calls _ w0 _ HH.out).mono ?_; rintro e w1 ⟨g, t, m, n, rfl, H1⟩; have h1 := (satDrop (L := [_, _, _, _]) H1); have c1 : w1.cell? ⟨w.heap.size, 1, none⟩ = some (.slice none 0 0) := cellAt h1.get.1 1; have HA := Lib.hid h1; clear H1 h1)
  go_loopw [14] (fun t wr => t = .int .i64 0 ∧ sat w0 wr (blk w.heap.size (.cells #[.bool true, .slice none 0 0, .slice none 0 0] 95) :: R)) (fun _ _ => 0)
  case atStart => exact ⟨rfl, HA.out⟩
  case round =>
    obtain ⟨rfl, h⟩ := hrel
    have c2 : wr.cell? ⟨w.heap.size, 2, none⟩ = some (.slice none 0 0) := cellAt h.get.1 2
    have HB := Lib.hid h
    clear h HA
    go_wp2
    go_loopw [35] (fun t wr => t = .int .i64 0 ∧ sat w0 wr (blk w.heap.size (.cells #[.bool true, .slice none 0 0, .slice none 0 0] 95) :: R)) (fun _ _ => 0)
    case atStart => exact ⟨rfl, HB.out⟩
    case round =>
      obtain ⟨rfl, h⟩ := hrel
      have HC := Lib.hid h
      clear h HB
      go_wp2
      go_ret
      exact ⟨rfl, HC.out.tail⟩
end Go.Proofs.YtonipcfnhmnnlaaGreatDoor
namespace Go.Proofs.YtonipcfnhmnnlaaGreatDoor
open Go Go.RowKit Hg
set_option linter.unusedVariables false
set_option linter.unusedSimpArgs false
attribute [local go_sem] Lib.run_eql_slice_nil run_min2 run_max2 run_min_two run_max_two
def JG (j t p : Nat) : Asn := blk j (.cells #[.pointer (some ⟨t, 0, none⟩), .pointer (some ⟨p, 0, none⟩), .bool true, .slice none 0 0] 132)
/-- A judge that allows what no rule is about, with its trie and its pins, all without entries. -/
structure JI where
  t : Nat
  m : Nat
  p : Nat
  a : Nat
  b : Nat
def JL (j : Nat) (x : JI) : List Asn := JG j x.t x.p :: (TrieB x.t x.m ++ PinsB x.p x.a x.b)
def JA (j : Nat) : Asn := ex fun x : JI => many (JL j x)
theorem JA.open {j : Nat} {w0 w : World} {R : List Asn} (h : sat w0 w (JA j :: R)) : ∃ x : JI, sat w0 w (JL j x ++ R) := by
  obtain ⟨x, hx⟩ := h.open_ex
  exact ⟨x, hx.open_many⟩
theorem JA.close {j : Nat} {w0 w : World} {R : List Asn} (x : JI) (h : sat w0 w (JL j x ++ R)) : sat w0 w (JA j :: R) :=
  sat.ex (P := fun x : JI => many (JL j x)) x (sat.many (l := JL j x) h)
theorem clone67_calls (w : World) : Calls Tryz.prog 67 #[.slice none 0 0] w fun e w' => e = .returned (.slice none 0 0) ∧ w' = w := by
  go_enter Tryz.func67, Tryz.ntmps67
  go_wp2
  go_ret
  exact ⟨rfl, rfl⟩
set_option maxHeartbeats 1600000 in
set_option maxRecDepth 100000 in
theorem judgen_calls (R : List Asn) (w0 w : World) (H : sat w0 w R) :
    Calls Tryz.prog 33 #[pol] w fun e w' => ∃ j : Nat, e = .returned (.tuple #[.pointer (some ⟨j, 0, none⟩), .int .i64 0]) ∧ sat w0 w' (JA j :: R) := by
  unfold pol
  have hb : sat w0 (w.alloc (.cells #[.bool true, .slice none 0 0, .slice none 0 0] 95)) (blk w.heap.size (.cells #[.bool true, .slice none 0 0, .slice none 0 0] 95) :: R) := H.alloc _
  have b0 : (w.alloc (.cells #[.bool true, .slice none 0 0, .slice none 0 0] 95)).cell? ⟨w.heap.size, 0, none⟩ = some (.bool true) := cellAt hb.get.1 0
  have b1 : (w.alloc (.cells #[.bool true, .slice none 0 0, .slice none 0 0] 95)).cell? ⟨w.heap.size, 1, none⟩ = some (.slice none 0 0) := cellAt hb.get.1 1
  have b2 : (w.alloc (.cells #[.bool true, .slice none 0 0, .slice none 0 0] 95)).cell? ⟨w.heap.size, 2, none⟩ = some (.slice none 0 0) := cellAt hb.get.1 2
  have HH := Lib.hid hb
  clear H hb
  go_enter Tryz.func33, Tryz.ntmps33
  go_wp2_with (go_at_call 64; refine (show Calls Tryz.prog 64 #[.agg #[.bool true, .slice none 0 0, .slice none 0 0]] _ _ from right_calls _ w0 _ HH.out).mono ?_; rintro e w1 ⟨rfl, H1⟩; have HA := Lib.hid H1.drew; clear H1)
  generalize hp : w.heap.size = p at HA ⊢
  generalize hR : (blk p (.cells #[.bool true, .slice none 0 0, .slice none 0 0] 95) :: R) = R2 at HA
  have q0 : ∀ x : SW w0 R2, x.w.cell? ⟨p, 0, none⟩ = some (.bool true) := fun x => by subst hR; exact cellAt x.h.get.1 0
  have q2 : ∀ x : SW w0 R2, x.w.cell? ⟨p, 2, none⟩ = some (.slice none 0 0) := fun x => by subst hR; exact cellAt x.h.get.1 2
  have c0 := q0 ⟨_, HA.out⟩
  have c2 := q2 ⟨_, HA.out⟩
  dsimp only at c0 c2
  have hnon : Nonempty (SW w0 R2) := ⟨⟨_, HA.out⟩⟩
  have HR := Lib.hid hR
  clear hR b0 b1 b2
  refine wp_region_mix (fun u => ∃ x : SW w0 R2, u = x.w) [1, 2, 4, 5, 6, 7, 0, 3, 8, 9, 10, 11] [1, 2, 4, 5, 6, 7] (by kernel_rfl) (by kernel_rfl) ⟨⟨_, HA.out⟩, rfl⟩ ?_
  repeat (first | ((first | refine mix_a rfl (by decide +kernel) rfl (fun K hK => ?_) | refine mix_q rfl (by decide +kernel) rfl (fun K hK => ?_)); go_big_quiet_op; refine hK _ ?_; clear hK K) | (refine mix_s rfl rfl (by decide +kernel) ?_; simp only [Act.put, List.setIfInBounds_toArray, List.set_cons_zero, List.set_cons_succ]))
  refine mix_lC rfl rfl rfl (fun K hK => ?_)
  refine op_call rfl Tryz.func65 (by kernel_rfl) (by kernel_rfl) (trie_calls _ w0 _ HA.out) rfl ?_
  rintro r w2 ⟨t, m, rfl, H2⟩
  refine ⟨_, rfl, hK _ _ ⟨⟨_, satDrop H2⟩, rfl⟩ ?_⟩
  have HB := Lib.hid H2
  clear hK K H2 HA
  simp only [Act.put, List.setIfInBounds_toArray, List.set_cons_zero, List.set_cons_succ]
  repeat (first | ((first | refine mix_a rfl (by decide +kernel) rfl (fun K hK => ?_) | refine mix_q rfl (by decide +kernel) rfl (fun K hK => ?_)); go_big_quiet_op; refine hK _ ?_; clear hK K) | (refine mix_s rfl rfl (by decide +kernel) ?_; simp only [Act.put, List.setIfInBounds_toArray, List.set_cons_zero, List.set_cons_succ]))
  refine mix_lC rfl rfl rfl (fun K hK => ?_)
  refine op_call rfl Tryz.func66 (by kernel_rfl) (by kernel_rfl) (pins_calls _ w0 _ HB.out) rfl ?_
  rintro r w3 ⟨g, a, b, rfl, H3⟩
  refine ⟨_, rfl, hK _ _ ⟨⟨_, satDrop (satDrop H3)⟩, rfl⟩ ?_⟩
  have HC := Lib.hid H3
  clear hK K H3 HB
  simp only [Act.put, List.setIfInBounds_toArray, List.set_cons_zero, List.set_cons_succ]
  repeat (first | ((first | refine mix_a rfl (by decide +kernel) rfl (fun K hK => ?_) | refine mix_q rfl (by decide +kernel) rfl (fun K hK => ?_)); go_big_quiet_op; refine hK _ ?_; clear hK K) | (refine mix_s rfl rfl (by decide +kernel) ?_; simp only [Act.put, List.setIfInBounds_toArray, List.set_cons_zero, List.set_cons_succ]))
  refine mix_lC rfl rfl rfl (fun K hK => ?_)
  refine op_call rfl Tryz.func67 (by kernel_rfl) (by kernel_rfl) (clone67_calls _) rfl ?_
  rintro r w4 ⟨rfl, rfl⟩
  refine ⟨_, rfl, hK _ _ ⟨⟨_, satDrop (satDrop HC.out)⟩, rfl⟩ ?_⟩
  clear hK K
  simp only [Act.put, List.setIfInBounds_toArray, List.set_cons_zero, List.set_cons_succ]
  repeat (first | ((first | refine mix_a rfl (by decide +kernel) rfl (fun K hK => ?_) | refine mix_q rfl (by decide +kernel) rfl (fun K hK => ?_)); go_big_quiet_op; refine hK _ ?_; clear hK K) | (refine mix_s rfl rfl (by decide +kernel) ?_; simp only [Act.put, List.setIfInBounds_toArray, List.set_cons_zero, List.set_cons_succ]))
  refine mix_l rfl (by decide +kernel) rfl (fun K hK => ?_)
  refine op_box rfl rfl rfl HC.out ?_
  intro j w5 H5
  have HD := Lib.hid H5
  clear H5 HC
  have e1 : w5.cell? ⟨p, 1, none⟩ = some (.slice none 0 0) := cellAt (show sat w0 w5 (blk p (.cells #[.bool true, .slice none 0 0, .slice none 0 0] 95) :: R) by rw [HR.out]; exact satDrop (satDrop HD.out.tail)).get.1 1
  refine hK _ _ ?_; clear hK K; (try simp only [Act.put, List.setIfInBounds_toArray, List.set_cons_zero, List.set_cons_succ])
  repeat (first | ((first | refine mix_a rfl (by decide +kernel) rfl (fun K hK => ?_) | refine mix_q rfl (by decide +kernel) rfl (fun K hK => ?_)); go_big_quiet_op; refine hK _ ?_; clear hK K) | (refine mix_s rfl rfl (by decide +kernel) ?_; simp only [Act.put, List.setIfInBounds_toArray, List.set_cons_zero, List.set_cons_succ]))
  refine mix_nil ?_
  go_wp2
  have hfin : sat w0 w5 (JA j :: R) := by
    have h := HD.out
    rw [← HR.out] at h
    refine JA.close ⟨t, m, g, a, b⟩ ?_
    exact h.re 7 [0, 4, 5, 1, 2, 3] [6] rfl
  have HF := Lib.hid hfin
  clear hfin HD
  go_loopw [27] (fun t wr => t = .int .i64 0 ∧ sat w0 wr (JA j :: R)) (fun _ _ => 0)
  case atStart => exact ⟨rfl, HF.out⟩
  case round =>
    obtain ⟨rfl, h⟩ := hrel
    have HE := Lib.hid h
    clear h HF
    go_wp2
    go_ret2
    exact ⟨j, rfl, HE.out⟩
end Go.Proofs.YtonipcfnhmnnlaaGreatDoor
namespace Go.Proofs.YtonipcfnhmnnlaaGreatDoor
open Go Go.RowKit Hg
set_option linter.unusedVariables false
set_option linter.unusedSimpArgs false
attribute [local go_sem] Lib.run_eql_slice_nil run_min2 run_max2 run_min_two run_max_two
theorem ofnone_calls (p mt mc : Nat) (relay ct ca : Int) (t : ByteArray) (lg au : Value)
    (R : List Asn) (w0 w : World) (H : sat w0 w (PX p relay ct ca mt mc lg au :: MapA Value.string mt [] :: R)) :
    Calls Tryz.prog 32 #[.pointer (some ⟨p, 0, none⟩), .string t] w fun e w' => e = .returned (.agg #[.pointer none, .int .i64 0, .int .i64 0, .int .i64 0]) ∧ sat w0 w' (PX p relay ct ca mt mc lg au :: MapA Value.string mt [] :: R) := by
  have HH := Lib.hid H
  have c0 : ∀ o, (w.alloc o).cell? ⟨p, 0, none⟩ = some (.int .i64 16384) := fun o => PX.at _ _ _ _ _ _ _ _ (H.alloc o).tail 0
  have c9 : ∀ o, (w.alloc o).cell? ⟨p, 9, none⟩ = some (.map (some mt)) := fun o => PX.at _ _ _ _ _ _ _ _ (H.alloc o).tail 9
  have lk : ∀ o, (Instr.lookup 88 (.map (some mt)) (.string t) false).run Tryz.prog (w.alloc o) = .ok (.pointer none) (w.alloc o) := fun o => by
    have h := MapA.lookup (strKey Tryz.underlying9) Tryz.underlying88 (z := .pointer none) (by kernel_rfl) (H.alloc o).tail.tail t false
    rw [if_neg (by decide)] at h
    exact h
  clear H
  go_enter Tryz.func32, Tryz.ntmps32
  go_wp2
  refine bodyPost_ret (results_cell_row rfl _ _ w.heap.size 99 #[.pointer none, .int .i64 0, .int .i64 0, .int .i64 0] (0, 0) _ rfl (heap_alloc_new _ _) Tryz.underlying99 rfl (by kernel_rfl)) rfl ?_
  exact ⟨rfl, (HH.out.alloc _).tail⟩
set_option maxHeartbeats 1600000 in
set_option maxRecDepth 100000 in
theorem load_calls (p mt mc : Nat) (relay ct ca : Int) (lg au : Value)
    (R : List Asn) (w0 w : World) (hm : MaxL w0) (H : sat w0 w (PX p relay ct ca mt mc lg au :: MapA Value.string mt [] :: R)) :
    Calls Tryz.prog 8 #[.pointer (some ⟨p, 0, none⟩), .string tT, .string sLine] w fun e w' => ∃ tb j : Nat, e = .returned (.tuple #[.int .i64 0, .int .i64 0]) ∧ sat w0 w' (PX p relay ct ca mt mc lg au :: MapA Value.string mt [(tT, .pointer (some ⟨tb, 0, none⟩))] :: TN tb j 1 0 0 :: JA j :: R) := by
  have HP := Lib.hid (parse_calls _ w0 w hm H)
  unfold pol at HP
  clear H hm
  go_enter Tryz.func8, Tryz.ntmps8
  go_wp2_with (first | (go_at_call 31; refine HP.out.mono ?_; rintro e w1 ⟨rfl, H1⟩; have HA := Lib.hid ((H1.alloc (.cells #[.bool true, .slice none 0 0, .slice none 0 0] 95)).re 3 [1, 2, 0] [] rfl); clear H1) | (go_at_call 32; refine (ofnone_calls p mt mc relay ct ca tT lg au _ w0 _ HA.out).mono ?_; rintro e w2 ⟨rfl, H2⟩; have b0 : ∀ o, (w2.alloc o).cell? ⟨w1.heap.size, 0, none⟩ = some (.bool true) := fun o => cellAt (H2.alloc o).tail.tail.tail.get.1 0; have b1 : ∀ o, (w2.alloc o).cell? ⟨w1.heap.size, 1, none⟩ = some (.slice none 0 0) := fun o => cellAt (H2.alloc o).tail.tail.tail.get.1 1; have b2 : ∀ o, (w2.alloc o).cell? ⟨w1.heap.size, 2, none⟩ = some (.slice none 0 0) := fun o => cellAt (H2.alloc o).tail.tail.tail.get.1 2; have HB := Lib.hid (H2.alloc (.cells #[.pointer none, .int .i64 0, .int .i64 0, .int .i64 0] 99)); clear H2 HA) | (go_at_call 33; refine (show Calls Tryz.prog 33 #[.agg #[.bool true, .slice none 0 0, .slice none 0 0]] _ _ from judgen_calls _ w0 _ HB.out).mono ?_; rintro e w3 ⟨j, rfl, H3⟩; have h3 := H3.swap; have t1 : w3.cell? ⟨w2.heap.size, 1, none⟩ = some (.int .i64 0) := cellAt h3.get.1 1; have t0 : w3.cell? ⟨w2.heap.size, 0, none⟩ = some (.pointer none) := cellAt h3.get.1 0; have f0 : w3.frozen? ⟨w2.heap.size, 0, none⟩ = false := frozenAt h3.get.1 0; have f1 : w3.frozen? ⟨w2.heap.size, 1, none⟩ = false := frozenAt h3.get.1 1; have p9 : w3.cell? ⟨p, 9, none⟩ = some (.map (some mt)) := PX.at _ _ _ _ _ _ _ _ h3.tail.tail 9; have p0 : w3.cell? ⟨p, 0, none⟩ = some (.int .i64 16384) := PX.at _ _ _ _ _ _ _ _ h3.tail.tail 0; have hne : p ≠ w2.heap.size := (H3.re 3 [2, 1] [0] rfl).ne; have HC := Lib.hid h3; clear H3 h3 HB) | (refine BigFrame.wpList_want (by rfl) fun K' hK' => ?_; refine op_mapUpdate (strKey Tryz.underlying9) (k := tT) (v := .pointer (some ⟨w2.heap.size, 0, none⟩)) (by rfl) Tryz.underlying88 (by rfl) (by rfl) (by rfl) (((HC.out.store (i := 0) (.pointer (some ⟨j, 0, none⟩))).store (i := 1) (.int .i64 1)).re 4 [3, 2, 0, 1] [] rfl) ?_; intro w9 H9; refine hK' _ _ ?_; clear hK' K'; have HD := Lib.hid H9; clear H9 HC))
  go_ret2
  refine ⟨w2.heap.size, j, rfl, ?_⟩
  exact (show sat w0 w9 (MapA Value.string mt [(tT, .pointer (some ⟨w2.heap.size, 0, none⟩))] :: PX p relay ct ca mt mc lg au :: TN w2.heap.size j 1 0 0 :: JA j :: blk w1.heap.size _ :: R) from HD.out).re 5 [1, 0, 2, 3] [4] rfl
end Go.Proofs.YtonipcfnhmnnlaaGreatDoor
namespace Go.Proofs.YtonipcfnhmnnlaaGreatDoor
open Go Go.RowKit Hg
set_option linter.unusedVariables false
set_option linter.unusedSimpArgs false
attribute [local go_sem] Lib.run_eql_slice_nil run_min2 run_max2 run_min_two run_max_two
theorem live_calls (p a b : Nat) (host : ByteArray) (z : Int) (R : List Asn) (w0 w : World) (H : sat w0 w (PinsB p a b ++ R)) :
    Calls Tryz.prog 128 #[.pointer (some ⟨p, 0, none⟩), .string host, .int .i64 z] w fun e w' => e = .returned (.slice none 0 0) ∧ w' = w := by
  have c0 : w.cell? ⟨p, 0, none⟩ = some (.map (some a)) := cellAt H.get.1 0
  have c1 : w.cell? ⟨p, 1, none⟩ = some (.map (some b)) := cellAt H.get.1 1
  have lk : (Instr.lookup 195 (.map (some b)) (.string host) false).run Tryz.prog w = .ok (.int .i64 0) w := by
    have h := MapA.lookup (strKey Tryz.underlying9) Tryz.underlying195 (z := .int .i64 0) (by kernel_rfl) (MapA.new (H.pick 2 rfl)) host false
    rw [if_neg (by decide)] at h
    exact h
  clear H
  go_enter Tryz.func128, Tryz.ntmps128
  go_wp2
  go_ret
  exact ⟨rfl, rfl⟩
theorem check_calls (p a b : Nat) (host : ByteArray) (z : Int) (addr : Array Value) (R : List Asn) (w0 w : World) (H : sat w0 w (PinsB p a b ++ R)) :
    Calls Tryz.prog 96 #[.pointer (some ⟨p, 0, none⟩), .string host, .agg addr, .int .i64 z] w fun e w' => e = .returned (.int .i64 0) ∧ sat w0 w' (PinsB p a b ++ R) := by
  have HH := Lib.hid H
  clear H
  go_enter Tryz.func96, Tryz.ntmps96
  go_wp2_with (go_at_call 128; refine (live_calls p a b host z (_ :: R) w0 _ ((HH.out.alloc (.cells addr 38)).re 4 [1, 2, 3, 0] [] rfl)).mono ?_; rintro e w1 ⟨rfl, rfl⟩)
  go_ret
  exact ⟨rfl, (HH.out.alloc _).tail⟩
end Go.Proofs.YtonipcfnhmnnlaaGreatDoor
