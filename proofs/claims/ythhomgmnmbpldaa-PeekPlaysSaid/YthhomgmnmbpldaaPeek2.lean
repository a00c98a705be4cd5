/- Layer 6: what is made, what is told of a buffer; a small case. No condition. -/
import Derived.Test.YthhomgmnmbpldaaPeek1
namespace Go.Proofs.Ythhomgmnmbpldaa
open Go Go.RowKit Hg
set_option linter.unusedVariables false
set_option linter.unusedSimpArgs false
attribute [local go_sem] Lib.run_eql_slice_nil run_min2 run_max2 run_min_two run_max_two
theorem new_calls (n : Int) (mo : Nat) (hmo : mx 0 (mn n 16384) = mo) (R : List Asn) (w0 w : World) (H : sat w0 w R) :
    Calls Try.prog 10 #[.int .i64 n] w fun e w' => ∃ g : Nat, e = .returned (.pointer (some ⟨g, 0, none⟩)) ∧ sat w0 w' (PB g (.slice none 0 0) mo 0 false :: Row (.slice none 0 0) [] :: R) := by
  have HH := Lib.hid H
  clear H
  go_enter Try.func10, Try.ntmps10
  go_wp2
  go_ret
  exact ⟨_, rfl, (Row.nil HH.out).alloc _⟩
/-- What is asked of a buffer. -/
theorem back_calls (g : Nat) (v : Value) (mo at_ : Int) (over : Bool) (R : List Asn) (w0 w : World) (H : sat w0 w (PB g v mo at_ over :: R)) :
    Calls Try.prog 16 #[.pointer (some ⟨g, 0, none⟩)] w fun e w' => e = .returned (.tuple #[]) ∧ sat w0 w' (PB g v mo 0 over :: R) := by
  have HH := Lib.hid H
  have c2 : w.cell? ⟨g, 2, none⟩ = some (.int .i64 at_) := cellAt H.get.1 2
  have f2 := frozenAt H.get.1 2
  clear H
  go_enter Try.func16, Try.ntmps16
  go_wp2
  go_end0
  exact ⟨rfl, HH.out.store _⟩
theorem len_calls (g : Nat) (a : Option Addr) (n c : Nat) (mo at_ : Int) (over : Bool) (w : World) (h : w.heap[g]? = some (.cells #[.slice a n c, .int .i64 mo, .int .i64 at_, .bool over] 46)) :
    Calls Try.prog 18 #[.pointer (some ⟨g, 0, none⟩)] w fun e w' => e = .returned (.int .i64 n) ∧ w' = w := by
  have c0 : w.cell? ⟨g, 0, none⟩ = some (.slice a n c) := cellAt h 0
  clear h
  go_enter Try.func18, Try.ntmps18
  go_wp2
  go_ret
  exact ⟨rfl, rfl⟩
theorem over_calls (g : Nat) (v : Value) (mo at_ : Int) (over : Bool) (w : World) (h : w.heap[g]? = some (.cells #[v, .int .i64 mo, .int .i64 at_, .bool over] 46)) :
    Calls Try.prog 19 #[.pointer (some ⟨g, 0, none⟩)] w fun e w' => e = .returned (.bool over) ∧ w' = w := by
  have c0 : w.cell? ⟨g, 3, none⟩ = some (.bool over) := cellAt h 3
  clear h
  go_enter Try.func19, Try.ntmps19
  go_wp2
  go_ret
  exact ⟨rfl, rfl⟩
theorem left_calls (g : Nat) (a : Option Addr) (n c : Nat) (mo : Int) (at_ : Nat) (over : Bool) (w : World) (h : w.heap[g]? = some (.cells #[.slice a n c, .int .i64 mo, .int .i64 at_, .bool over] 46)) (hat : at_ ≤ n) (hn : n ≤ 140737488351232) :
    Calls Try.prog 20 #[.pointer (some ⟨g, 0, none⟩)] w fun e w' => e = .returned (.int .i64 ((n - at_ : Nat) : Int)) ∧ ∃ m, w' = w.drewN m := by
  have c0 : w.cell? ⟨g, 0, none⟩ = some (.slice a n c) := cellAt h 0
  have c2 : w.cell? ⟨g, 2, none⟩ = some (.int .i64 at_) := cellAt h 2
  clear h
  go_enter Try.func20, Try.ntmps20
  go_wp2
  go_quiet (fail)
  go_wp2
  go_ret
  exact ⟨ret_int (by omega), _, rfl⟩
set_option maxHeartbeats 400000 in
theorem bytes_calls (g : Nat) (v : Value) (l : List UInt8) (mo at_ : Int) (over : Bool) (R : List Asn) (w0 w : World) (H : sat w0 w (PB g v mo at_ over :: Row v l :: R)) (hl : l.length ≤ 16384) :
    Calls Try.prog 17 #[.pointer (some ⟨g, 0, none⟩)] w fun e w' => ∃ v' : Value, e = .returned v' ∧ sat w0 w' (PB g v mo at_ over :: Row v l :: Row v' l :: R) := by
  have HH := Lib.hid H
  have c0 : w.cell? ⟨g, 0, none⟩ = some v := cellAt H.get.1 0
  have hrd : Hid (Rd w0 (PB g v mo at_ over :: Row v l :: R) v l) := Lib.hid Rd.row.weak
  clear H
  go_enter Try.func17, Try.ntmps17
  go_wp2_with (go_at_call 21; refine (clone_calls _ _ _ w0 _ HH.out hrd.out (by omega)).mono ?_; rintro e w1 ⟨v', rfl, H1⟩; have HB := Lib.hid H1; clear H1)
  go_ret
  exact ⟨_, rfl, HB.out.perm ((List.Perm.swap _ _ _).trans ((List.Perm.swap _ _ _).cons _))⟩
end Go.Proofs.Ythhomgmnmbpldaa
