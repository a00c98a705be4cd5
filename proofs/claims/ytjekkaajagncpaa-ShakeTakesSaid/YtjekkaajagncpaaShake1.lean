/- Layer 8: the message's own functions that only read; the clone. No condition. -/
import Derived.Test.YtjekkaajagncpaaRows
import Derived.Test.YtjekkaajagncpaaMix
import Derived.Test.YtjekkaajagncpaaOps2
import Derived.WalkSpells
namespace Go.Proofs.Ytjekkaajagncpaa
open Go Go.RowKit Hg
set_option linter.unusedVariables false
set_option linter.unusedSimpArgs false
attribute [local go_sem] Lib.run_eql_slice_nil run_min2 run_max2 run_min_two run_max_two
theorem ret_int {k : IntKind} {a b : Int} (h : a = b) : Ending.returned (.int k a) = .returned (.int k b) := by rw [h]
/-- A message: bytes of the head that came, the size, the body, the error. -/
def MB (g : Nat) (v : Value) (h s e : Int) : Asn := blk g (.cells #[.int .i64 h, .int .i64 s, v, .int .i64 e] 41)
theorem info5 : (Try.prog.info? 5).map (fun i => (i.zero, i.size, i.bytes)) = some (some (.int .u8 0), 1, 1) := by kernel_rfl
theorem new_calls (R : List Asn) (w0 w : World) (H : sat w0 w R) :
    Calls Try.prog 10 #[] w fun e w' => ∃ g : Nat, e = .returned (.pointer (some ⟨g, 0, none⟩)) ∧ sat w0 w' (MB g (.slice none 0 0) 0 0 0 :: Row (.slice none 0 0) [] :: R) := by
  have HH := Lib.hid H
  clear H
  go_enter Try.func10, Try.ntmps10
  go_wp2
  go_ret
  exact ⟨_, rfl, (Row.nil HH.out).alloc _⟩
def wholeB (h s e : Int) (n : Nat) : Bool := decide (e = 0) && (decide (h = 4) && decide ((n : Int) = s))
theorem whole_calls (g : Nat) (a : Option Addr) (n c : Nat) (h s e : Int) (w : World) (hb : w.heap[g]? = some (.cells #[.int .i64 h, .int .i64 s, .slice a n c, .int .i64 e] 41)) :
    Calls Try.prog 19 #[.pointer (some ⟨g, 0, none⟩)] w fun r w' => r = .returned (.bool (wholeB h s e n)) ∧ ∃ m, w' = w.drewN m := by
  have c0 : w.cell? ⟨g, 0, none⟩ = some (.int .i64 h) := cellAt hb 0
  have c1 : w.cell? ⟨g, 1, none⟩ = some (.int .i64 s) := cellAt hb 1
  have c2 : w.cell? ⟨g, 2, none⟩ = some (.slice a n c) := cellAt hb 2
  have c3 : w.cell? ⟨g, 3, none⟩ = some (.int .i64 e) := cellAt hb 3
  clear hb
  by_cases he : e = 0
  · by_cases hh : h = 4
    · by_cases hn : (n : Int) = s
      · have HF : Hid (wholeB h s e n = true) := Lib.hid (by simp [wholeB, he, hh, hn])
        go_enter Try.func19, Try.ntmps19
        go_wp2
        go_quiet (fail)
        go_wp2
        go_ret
        exact ⟨by rw [HF.out]; rfl, _, rfl⟩
      · have HF : Hid (wholeB h s e n = false) := Lib.hid (by simp [wholeB, he, hh, hn])
        have d1 : ((n : Int) == s) = false := by simpa using hn
        go_enter Try.func19, Try.ntmps19
        go_wp2
        go_quiet (fail)
        go_wp2
        go_ret
        exact ⟨by rw [HF.out]; rfl, _, rfl⟩
    · have HF : Hid (wholeB h s e n = false) := Lib.hid (by simp [wholeB, he, hh])
      have d1 : (h == 4) = false := by simpa using hh
      go_enter Try.func19, Try.ntmps19
      go_wp2
      go_quiet (fail)
      go_wp2
      go_ret
      exact ⟨by rw [HF.out]; rfl, _, rfl⟩
  · have HF : Hid (wholeB h s e n = false) := Lib.hid (by simp [wholeB, he])
    have d1 : (e == 0) = false := by simpa using he
    go_enter Try.func19, Try.ntmps19
    go_wp2
    go_quiet (fail)
    go_wp2
    go_ret
    exact ⟨by rw [HF.out]; rfl, _, rfl⟩
/-- How many bytes are wanted. -/
def wantI (h s e : Int) (n : Nat) : Int := if e = 0 then if h < 4 then 4 - h else s - n else 0
theorem want_calls (g : Nat) (a : Option Addr) (n c : Nat) (h s e : Int) (w : World) (hb : w.heap[g]? = some (.cells #[.int .i64 h, .int .i64 s, .slice a n c, .int .i64 e] 41)) (hn : n ≤ 140737488355328) (h0 : 0 ≤ h ∧ h ≤ 4) (h1 : 0 ≤ s ∧ s ≤ 140737488355328) :
    Calls Try.prog 13 #[.pointer (some ⟨g, 0, none⟩)] w fun r w' => r = .returned (.int .i64 (wantI h s e n)) ∧ ∃ m, w' = w.drewN m := by
  have c0 : w.cell? ⟨g, 0, none⟩ = some (.int .i64 h) := cellAt hb 0
  have c1 : w.cell? ⟨g, 1, none⟩ = some (.int .i64 s) := cellAt hb 1
  have c2 : w.cell? ⟨g, 2, none⟩ = some (.slice a n c) := cellAt hb 2
  have c3 : w.cell? ⟨g, 3, none⟩ = some (.int .i64 e) := cellAt hb 3
  clear hb
  by_cases he : e = 0
  · by_cases hh : h < 4
    · have HF : Hid (wantI h s e n = 4 - h) := Lib.hid (by simp [wantI, he, hh])
      go_enter Try.func13, Try.ntmps13
      go_wp2
      go_ret
      exact ⟨by rw [HF.out]; rfl, 0, rfl⟩
    · have HF : Hid (wantI h s e n = s - n) := Lib.hid (by simp [wantI, he, hh])
      go_enter Try.func13, Try.ntmps13
      go_wp2
      go_quiet (fail)
      go_wp2
      go_ret
      exact ⟨by rw [HF.out]; rfl, _, rfl⟩
  · have HF : Hid (wantI h s e n = 0) := Lib.hid (by simp [wantI, he])
    go_enter Try.func13, Try.ntmps13
    go_wp2
    go_ret
    exact ⟨by rw [HF.out]; rfl, 0, rfl⟩
set_option maxHeartbeats 400000 in
theorem clone_calls (s : Value) (l : List UInt8) (R : List Asn) (w0 w : World) (H : sat w0 w R) (hs : Rd w0 R s l) (hl : l.length ≤ 140737488351232) :
    Calls Try.prog 23 #[s] w fun e w' => ∃ v' : Value, e = .returned v' ∧ sat w0 w' (Row v' l :: R) := by
  rcases (hs w H).cases with ⟨rfl, rfl⟩ | ⟨ad, cap, rfl, h1, h2, h3⟩
  · have HH := Lib.hid H
    clear H hs
    go_enter Try.func23, Try.ntmps23
    go_wp2
    go_ret
    exact ⟨_, rfl, Row.nil HH.out⟩
  · have HH := Lib.hid H
    have HS := Lib.hid hs
    clear H hs h3
    go_enter Try.func23, Try.ntmps23
    go_wp2_with (at_builtin; refine wp_append_bytes (l := []) rfl rfl Try.underlying22 info5 rfl rfl (RowC.of_blk (cap := 0) (HH.out.alloc (.cells #[] 5)) 0 [] rfl (Nat.le_refl _) (Nat.zero_le _) rfl rfl) (HS.out _ (HH.out.alloc _).tail) (by simp; omega) ?_; intro v' w1 H1 _)
    go_ret
    exact ⟨_, rfl, H1⟩
/-- The body of a whole one. -/
def bodyL (h s e : Int) (l : List UInt8) : List UInt8 := if wholeB h s e l.length then l else []
set_option maxHeartbeats 400000 in
theorem body_calls (g : Nat) (v : Value) (l : List UInt8) (h s e : Int) (R : List Asn) (w0 w : World) (H : sat w0 w (MB g v h s e :: Row v l :: R)) (hl : l.length ≤ 140737488351232) :
    Calls Try.prog 15 #[.pointer (some ⟨g, 0, none⟩)] w fun r w' => ∃ v' : Value, r = .returned v' ∧ sat w0 w' (MB g v h s e :: Row v l :: Row v' (bodyL h s e l) :: R) := by
  obtain ⟨a, c, rfl, _, _⟩ := Row.form H.tail
  have HH := Lib.hid H
  have c2 := cellAt H.get.1 2
  simp at c2
  have hrd : Hid (Rd w0 (MB g (.slice a l.length c) h s e :: Row (.slice a l.length c) l :: R) (.slice a l.length c) l) := Lib.hid Rd.row.weak
  clear H
  cases hw : wholeB h s e l.length with
  | false =>
    have HF : Hid (bodyL h s e l = []) := Lib.hid (by simp [bodyL, hw])
    go_enter Try.func15, Try.ntmps15
    go_wp2_with (go_at_call 19; refine (whole_calls g a _ c h s e _ HH.out.get.1).mono ?_; rintro e w1 ⟨rfl, m, rfl⟩)
    go_ret
    exact ⟨_, rfl, by rw [HF.out]; exact ((Row.nil (HH.out.drewN m)).re 3 [1, 2, 0] [] rfl)⟩
  | true =>
    have HF : Hid (bodyL h s e l = l) := Lib.hid (by simp [bodyL, hw])
    go_enter Try.func15, Try.ntmps15
    go_wp2_with (first | (go_at_call 19; refine (whole_calls g a _ c h s e _ HH.out.get.1).mono ?_; rintro e w1 ⟨rfl, m, rfl⟩; have c2 := cellAt (HH.out.drewN m).get.1 2; simp at c2) | (go_at_call 23; refine (clone_calls _ _ _ w0 _ (HH.out.drewN m) hrd.out (by omega)).mono ?_; rintro e w1 ⟨v', rfl, H1⟩; have HB := Lib.hid H1; clear H1))
    go_ret
    exact ⟨_, rfl, by rw [HF.out]; exact (HB.out.re 3 [1, 2, 0] [] rfl)⟩
end Go.Proofs.Ytjekkaajagncpaa
