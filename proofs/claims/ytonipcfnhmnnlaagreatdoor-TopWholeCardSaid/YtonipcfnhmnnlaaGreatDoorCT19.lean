/- Letters, digits, signs: whether all characters are so. -/
import Derived.Test.YtonipcfnhmnnlaaGreatDoorMConn
import Derived.Test.YtonipcfnhmnnlaaGreatDoorMOps
import Derived.Test.YtonipcfnhmnnlaaGreatDoorCShelf
import Derived.Lib.OthersKept
import Derived.Shelf.Strings.SlTrimAscii
namespace Go.Proofs.YtonipcfnhmnnlaaGreatDoor
open Go Go.RowKit Hg
set_option linter.unusedVariables false
set_option linter.unusedSimpArgs false
attribute [local go_sem] Lib.run_eql_slice_nil run_min2 run_max2 run_min_two run_max_two
/-- New memory of a call of the library's. -/
theorem _root_.Go.Proofs.YtonipcfnhmnnlaaGreatDoor.Hg.sat.grow {w0 w w' : World} {l : List Asn} (h : sat w0 w l) (hb : Below w.heap.size w w') : sat w0 w' l :=
  h.allocs hb.os hb.tape hb.output hb.size hb.block
theorem callee_of {f : FuncId} {fn : Func} (hf : Tryz.prog.funcs[f]? = some fn) (hname : (fn.name == "runtime.NumGoroutine") = false) (hb : fn.body.isNone = false) (args : Array Value) (w : World) : (callFunc f args).run Tryz.prog w = .ok (.enter f args) w := by
  have h1 : ¬ fn.name = "runtime.NumGoroutine" := by simpa using hname
  have h2 : ¬ fn.body = none := by cases hx : fn.body <;> simp_all
  simp [callFunc, hf, h1, h2]
/-- Are all characters from here on so? -/
def allR (p : Nat → Bool) (s : ByteArray) : Nat → Nat → Bool
  | 0, _ => true
  | f + 1, i => if i < s.size then p (Utf8.decode s i).1 && allR p s f (i + (Utf8.decode s i).2) else true
def allS (p : Nat → Bool) (s : ByteArray) : Bool := allR p s s.size 0 && decide (s.size ≠ 0)
theorem decode_pos (s : ByteArray) (i : Nat) : 1 ≤ (Utf8.decode s i).2 := by
  unfold Utf8.decode
  dsimp only
  split
  · simp
  split
  · split <;> simp
  split
  · split <;> simp
  split
  · split <;> simp
  · simp
theorem allR_fuel (p : Nat → Bool) (s : ByteArray) : ∀ (f g i : Nat), s.size ≤ i + f → s.size ≤ i + g → allR p s f i = allR p s g i
  | 0, 0, _, _, _ => rfl
  | 0, g + 1, i, h, _ => by simp [allR, show ¬ i < s.size by omega]
  | f + 1, 0, i, _, h => by simp [allR, show ¬ i < s.size by omega]
  | f + 1, g + 1, i, h1, h2 => by
    unfold allR
    split
    · have := decode_pos s i
      rw [allR_fuel p s f g _ (by omega) (by omega)]
    · rfl
set_option maxHeartbeats 800000 in
set_option maxRecDepth 100000 in
theorem all_calls (s : ByteArray) (g : Nat) (fn : Func) (hf : Tryz.prog.funcs[g]? = some fn) (hname : (fn.name == "runtime.NumGoroutine") = false) (hb : fn.body.isNone = false) (p : Nat → Bool) (hp : ∀ (W : World) (r : Nat), FnGives Tryz.prog g #[] #[.int .i32 r] (.bool (p r)) W)
    (R : List Asn) (w0 w : World) (H : sat w0 w R) :
    Calls Tryz.prog 172 #[.string s, .func (.func g) #[] #[]] w fun e w' => e = .returned (.bool (allS p s)) ∧ sat w0 w' R := by
  have HH := Lib.hid (H.alloc (.stringIter s 0))
  have HP := Lib.hid hp
  have heg : ∀ (args : Array Value) (w : World), (callFunc g args).run Tryz.prog w = .ok (.enter g args) w := fun args w => callee_of hf hname hb args w
  clear H hp hf hname hb
  go_enter Tryz.func172, Tryz.ntmps172
  go_wp2
  generalize hit : w.heap.size = it at *
  have HI : Hid (sat w0 (w.iter s 0) (blk it (.stringIter s 0) :: R)) := HH
  generalize w.iter s 0 = W0 at *
  go_loopw [6] (fun _ wr => ∃ pos : Nat, Hid (allR p s s.size 0 = allR p s s.size pos) ∧ sat w0 wr (blk it (.stringIter s pos) :: R)) (fun _ wr => s.size - wr.iterPos it)
  case atStart => exact ⟨0, Lib.hid rfl, HI.out⟩
  case round =>
    obtain ⟨pos, hall, HS⟩ := hrel
    have hmu : wr.iterPos it = pos := by simp [World.iterPos, HS.get.1]
    by_cases hpos : pos < s.size
    · have hnext : ∀ ty, (Instr.next (.pointer (some ⟨it, 0, none⟩)) true ty).run Tryz.prog wr = _ := fun ty => Lib.run_next_any_at wr it s pos ty HS.get.1 hpos
      have H1 : sat w0 (wr.iterAt it s (pos + (Utf8.decode s pos).2)) (blk it (.stringIter s (pos + (Utf8.decode s pos).2)) :: R) :=
        HS.put rfl rfl rfl (by simp [World.iterAt]) (Lib.iterAt_heap wr it s pos _ HS.get.1) fun b _ hne => by simp [World.iterAt, Ne.symm hne]
      have hd := decode_pos s pos
      have hstep : allR p s s.size pos = (p (Utf8.decode s pos).1 && allR p s s.size (pos + (Utf8.decode s pos).2)) := by
        rw [allR_fuel p s s.size (s.size + 1) pos (by omega) (by omega)]
        conv => lhs; unfold allR
        rw [if_pos hpos]
      have HST := Lib.hid hstep
      have H1' := Lib.hid H1
      clear H1 HS hstep HI HH
      revert hnext H1' HST hd
      generalize (Utf8.decode s pos).1 = r
      generalize (Utf8.decode s pos).2 = d
      intro hnext hd HST H1'
      generalize wr.iterAt it s (pos + d) = W1 at *
      by_cases hr : p r = true
      · go_wp2_with (go_at_fn g; refine (HP.out W1 r).mono ?_; rintro e W2 ⟨rfl, q, rfl⟩)
        refine ⟨⟨pos + d, Lib.hid ?_, H1'.out.drewN q⟩, ?_⟩
        · rw [hall.out, HST.out, hr, Bool.true_and]
        · rw [hmu, show (W1.drewN q).iterPos it = pos + d by simp [World.iterPos, H1'.out.get.1]]
          omega
      · have hr' : p r = false := by simpa using hr
        have hF : allS p s = false := by unfold allS; rw [hall.out, HST.out, hr', Bool.false_and, Bool.false_and]
        have HF := Lib.hid hF
        clear hF hr
        go_wp2_with (go_at_fn g; refine (HP.out W1 r).mono ?_; rintro e W2 ⟨rfl, q, rfl⟩)
        go_ret
        exact ⟨by rw [HF.out]; rfl, (H1'.out.drewN q).tail⟩
    · have hnext : ∀ ty, (Instr.next (.pointer (some ⟨it, 0, none⟩)) true ty).run Tryz.prog wr = _ := fun ty => Lib.run_next_end_at wr it s pos ty HS.get.1 hpos
      have hF : allS p s = decide (s.size ≠ 0) := by
        unfold allS
        rw [hall.out, allR_fuel p s s.size (s.size + 1) pos (by omega) (by omega)]
        conv => lhs; unfold allR
        rw [if_neg hpos, Bool.true_and]
      have HF := Lib.hid hF
      have HC := Lib.hid HS
      clear hF HS HI HH
      by_cases h0 : s.size = 0
      · have he : s = ⟨#[]⟩ := by
          apply ByteArray.ext
          apply Array.eq_empty_of_size_eq_zero
          exact h0
        subst he
        go_wp2
        go_ret
        exact ⟨by rw [HF.out]; rfl, HC.out.tail⟩
      · have he : s.toList.isEmpty = false := by
          rw [ByteArray.toList_eq, List.isEmpty_eq_false_iff]
          intro h
          exact h0 (by have := congrArg List.length h; simpa using this)
        go_wp2
        go_ret
        exact ⟨by rw [HF.out, decide_eq_true h0]; rfl, HC.out.tail⟩
/-! ### The predicates -/
theorem givesRfl {g : Nat} {a : Value} {b : Bool} {W : World} (h : Calls Tryz.prog g #[a] W fun e w' => e = .returned (.bool b) ∧ ∃ q, w' = W.drewN q) : FnGives Tryz.prog g #[] #[a] (.bool b) W := h
def pVis (r : Nat) : Bool := decide (32 < r ∧ r ≤ 126)
def pDig (r : Nat) : Bool := decide (48 ≤ r ∧ r ≤ 57)
def pOther (r : Nat) : Bool := decide (r < 48 ∨ 57 < r)
def pNst (r : Nat) : Bool := !(decide (97 ≤ r ∧ r ≤ 122) || decide (65 ≤ r ∧ r ≤ 90) || decide (r = 45) || decide (r = 95)) && pOther r
def signs : List UInt8 := [33, 35, 36, 37, 38, 39, 42, 43, 45, 46, 94, 95, 96, 124, 126]
def pTok (r : Nat) : Bool := decide (97 ≤ r ∧ r ≤ 122) || decide (65 ≤ r ∧ r ≤ 90) || pDig r || (decide (r < 128) && decide (0 ≤ Lib.indexByte signs r.toUInt8))
def pStr (r : Nat) : Bool := decide ((r < 32 ∧ r ≠ 9) ∨ r = 127)
theorem draw0 (W : World) : ∃ q, W = W.drewN q := ⟨0, rfl⟩
set_option maxHeartbeats 1600000 in
set_option maxRecDepth 100000 in
theorem vis_gives (W : World) (r : Nat) : FnGives Tryz.prog 185 #[] #[.int .i32 r] (.bool (pVis r)) W := by
  refine givesRfl ?_
  have HF := Lib.hid (show pVis r = pVis r from rfl)
  by_cases h1 : 32 < r <;> by_cases h2 : r ≤ 126
  all_goals first
  | (exfalso; omega)
  | (
    have d1 : decide ((32 : Int) < r) = decide (32 < r) := by rw [decide_eq_decide]; omega
    have d2 : decide ((r : Int) ≤ 126) = decide (r ≤ 126) := by rw [decide_eq_decide]; omega
    simp only [h1, h2, not_true, not_false_iff, decide_true, decide_false] at d1 d2
    go_enter Tryz.func185, Tryz.ntmps185
    go_wp2
    go_ret
    refine ⟨?_, draw0 _⟩
    simp [pVis, h1, h2])
set_option maxHeartbeats 1600000 in
set_option maxRecDepth 100000 in
theorem dig_gives (W : World) (r : Nat) : FnGives Tryz.prog 173 #[] #[.int .i32 r] (.bool (pDig r)) W := by
  refine givesRfl ?_
  have HF := Lib.hid (show pDig r = pDig r from rfl)
  by_cases h1 : 48 ≤ r <;> by_cases h2 : r ≤ 57
  all_goals first
  | (exfalso; omega)
  | (
    have d1 : decide ((48 : Int) ≤ r) = decide (48 ≤ r) := by rw [decide_eq_decide]; omega
    have d2 : decide ((r : Int) ≤ 57) = decide (r ≤ 57) := by rw [decide_eq_decide]; omega
    simp only [h1, h2, not_true, not_false_iff, decide_true, decide_false] at d1 d2
    go_enter Tryz.func173, Tryz.ntmps173
    go_wp2
    go_ret
    refine ⟨?_, draw0 _⟩
    simp [pDig, h1, h2])
set_option maxHeartbeats 1600000 in
set_option maxRecDepth 100000 in
theorem other_gives (W : World) (r : Nat) : FnGives Tryz.prog 182 #[] #[.int .i32 r] (.bool (pOther r)) W := by
  refine givesRfl ?_
  have HF := Lib.hid (show pOther r = pOther r from rfl)
  by_cases h1 : r < 48 <;> by_cases h2 : 57 < r
  all_goals first
  | (exfalso; omega)
  | (
    have d1 : decide ((r : Int) < 48) = decide (r < 48) := by rw [decide_eq_decide]; omega
    have d2 : decide ((57 : Int) < r) = decide (57 < r) := by rw [decide_eq_decide]; omega
    simp only [h1, h2, not_true, not_false_iff, decide_true, decide_false] at d1 d2
    go_enter Tryz.func182, Tryz.ntmps182
    go_wp2
    go_ret
    refine ⟨?_, draw0 _⟩
    simp [pOther, h1, h2])
set_option maxHeartbeats 1600000 in
set_option maxRecDepth 100000 in
theorem str_gives (W : World) (r : Nat) : FnGives Tryz.prog 356 #[] #[.int .i32 r] (.bool (pStr r)) W := by
  refine givesRfl ?_
  have HF := Lib.hid (show pStr r = pStr r from rfl)
  by_cases h1 : r < 32 <;> by_cases h2 : r = 9 <;> by_cases h3 : r = 127
  all_goals first
  | (exfalso; omega)
  | (
    have d1 : decide ((r : Int) < 32) = decide (r < 32) := by rw [decide_eq_decide]; omega
    have d2 : (((r : Int) != 9)) = decide (¬ r = 9) := by rw [Bool.eq_iff_iff]; simp; omega
    have d3 : (((r : Int) == 127)) = decide (r = 127) := by rw [Bool.eq_iff_iff]; simp; omega
    simp only [h1, h2, h3, not_true, not_false_iff, decide_true, decide_false] at d1 d2 d3
    go_enter Tryz.func356, Tryz.ntmps356
    go_wp2
    go_ret
    refine ⟨?_, draw0 _⟩
    simp [pStr, h1, h2, h3])
set_option maxHeartbeats 1600000 in
set_option maxRecDepth 100000 in
theorem nst_gives (W : World) (r : Nat) : FnGives Tryz.prog 223 #[] #[.int .i32 r] (.bool (pNst r)) W := by
  refine givesRfl ?_
  by_cases h1 : 97 ≤ r <;> by_cases h2 : r ≤ 122 <;> by_cases h3 : 65 ≤ r <;> by_cases h4 : r ≤ 90 <;> by_cases h5 : r = 45 <;> by_cases h6 : r = 95
  all_goals first
  | (exfalso; omega)
  | (
    have d1 : decide ((97 : Int) ≤ r) = decide (97 ≤ r) := by rw [decide_eq_decide]; omega
    have d2 : decide ((r : Int) ≤ 122) = decide (r ≤ 122) := by rw [decide_eq_decide]; omega
    have d3 : decide ((65 : Int) ≤ r) = decide (65 ≤ r) := by rw [decide_eq_decide]; omega
    have d4 : decide ((r : Int) ≤ 90) = decide (r ≤ 90) := by rw [decide_eq_decide]; omega
    have d5 : (((r : Int) == 45)) = decide (r = 45) := by rw [Bool.eq_iff_iff]; simp; omega
    have d6 : (((r : Int) == 95)) = decide (r = 95) := by rw [Bool.eq_iff_iff]; simp; omega
    simp only [h1, h2, h3, h4, h5, h6, not_true, not_false_iff, decide_true, decide_false] at d1 d2 d3 d4 d5 d6
    go_enter Tryz.func223, Tryz.ntmps223
    go_wp2_with (go_at_call 182; refine (show Calls Tryz.prog 182 #[.int .i32 r] _ _ from other_gives _ r).mono ?_; rintro e w1 ⟨rfl, q1, rfl⟩)
    go_ret
    refine ⟨?_, by first | exact draw0 _ | exact ⟨_, rfl⟩⟩
    simp [pNst, h1, h2, h3, h4, h5, h6])
set_option maxHeartbeats 1600000 in
set_option maxRecDepth 100000 in
theorem tok_gives (W : World) (r : Nat) : FnGives Tryz.prog 361 #[] #[.int .i32 r] (.bool (pTok r)) W := by
  refine givesRfl ?_
  by_cases h1 : 97 ≤ r <;> by_cases h2 : r ≤ 122 <;> by_cases h3 : 65 ≤ r <;> by_cases h4 : r ≤ 90 <;> by_cases h5 : 48 ≤ r <;> by_cases h6 : r ≤ 57 <;> by_cases h7 : r < 128
  all_goals first
  | (exfalso; omega)
  | (
    have d1 : decide ((97 : Int) ≤ r) = decide (97 ≤ r) := by rw [decide_eq_decide]; omega
    have d2 : decide ((r : Int) ≤ 122) = decide (r ≤ 122) := by rw [decide_eq_decide]; omega
    have d3 : decide ((65 : Int) ≤ r) = decide (65 ≤ r) := by rw [decide_eq_decide]; omega
    have d4 : decide ((r : Int) ≤ 90) = decide (r ≤ 90) := by rw [decide_eq_decide]; omega
    have d5 : decide ((48 : Int) ≤ r) = decide (48 ≤ r) := by rw [decide_eq_decide]; omega
    have d6 : decide ((r : Int) ≤ 57) = decide (r ≤ 57) := by rw [decide_eq_decide]; omega
    have d7 : decide ((r : Int) < 128) = decide (r < 128) := by rw [decide_eq_decide]; omega
    simp only [h1, h2, h3, h4, h5, h6, h7, not_true, not_false_iff, decide_true, decide_false] at d1 d2 d3 d4 d5 d6 d7
    have dd : pDig r = decide (48 ≤ r ∧ r ≤ 57) := rfl
    simp only [h5, h6, and_self, and_true, and_false, true_and, false_and, decide_true, decide_false] at dd
    go_enter Tryz.func361, Tryz.ntmps361
    go_wp2_with (first | (go_at_call 173; refine (show Calls Tryz.prog 173 #[.int .i32 r] _ _ from dig_gives _ r).mono ?_; rintro e w1 ⟨rfl, q1, rfl⟩) | (go_at_call 262; refine (Tryz.strings_IndexByte ⟨#[33, 35, 36, 37, 38, 39, 42, 43, 45, 46, 94, 95, 96, 124, 126]⟩ r _).mono ?_; rintro e w1 ⟨rfl, rfl⟩))
    go_ret
    refine ⟨?_, by first | exact draw0 _ | exact ⟨_, rfl⟩⟩
    simp [pTok, h1, h2, h3, h4, h5, h6, h7, pDig, signs])
end Go.Proofs.YtonipcfnhmnnlaaGreatDoor
