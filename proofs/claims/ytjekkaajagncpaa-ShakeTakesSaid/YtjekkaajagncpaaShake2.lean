/- Layer 8: a byte ahead of the body. No condition. -/
import Derived.Test.YtjekkaajagncpaaShake1
namespace Go.Proofs.Ytjekkaajagncpaa
open Go Go.RowKit Hg
set_option linter.unusedVariables false
set_option linter.unusedSimpArgs false
theorem or_byte (s c : Nat) (hs : s ≤ 65535) (hc : c ≤ 255) : bits BinOp.or .i64 ((s : Int) * 256) (c : Int) = s * 256 + c := by
  have e1 : BitVec.ofInt IntKind.i64.bits ((s : Int) * 256) = BitVec.ofNat 64 (s <<< 8) := by
    rw [Nat.shiftLeft_eq, show ((s : Int) * 256) = ((s * 2 ^ 8 : Nat) : Int) by omega]
    exact BitVec.ofInt_natCast _ _
  have e2 : BitVec.ofInt IntKind.i64.bits (c : Int) = BitVec.ofNat 64 c := BitVec.ofInt_natCast _ _
  have e3 : (BitVec.ofNat 64 (s <<< 8) ||| BitVec.ofNat 64 c).toNat = s * 256 + c := by
    rw [BitVec.toNat_or, BitVec.toNat_ofNat, BitVec.toNat_ofNat, Nat.mod_eq_of_lt (by rw [Nat.shiftLeft_eq]; omega), Nat.mod_eq_of_lt (by omega), ← Nat.shiftLeft_add_eq_or_of_lt (by omega : c < 2 ^ 8), Nat.shiftLeft_eq]
  unfold bits
  simp only [e1, e2]
  refine (show IntKind.i64.wrap (((BitVec.ofNat 64 (s <<< 8) ||| BitVec.ofNat 64 c : BitVec 64).toNat : Nat) : Int) = _ from ?_)
  rw [e3]
  simp [IntKind.wrap, IntKind.bits, IntKind.signed]
  omega
attribute [local go_sem] Lib.run_eql_slice_nil run_min2 run_max2 run_min_two run_max_two
/-- What is wrong of a byte ahead of the body, the size behind it. -/
def firstE (h s x : Nat) : Int := if h = 0 then if x = 1 then 0 else 4 else if 16384 < (s * 256 + x) * 2 ^ (8 * (3 - h)) then 6 else 0
def firstS (h s x : Nat) : Nat := if h = 0 then s else s * 256 + x
set_option maxHeartbeats 400000 in
theorem first_calls (g : Nat) (v : Value) (h s : Nat) (e : Int) (x : Nat) (R : List Asn) (w0 w : World) (H : sat w0 w (MB g v h s e :: R)) (hh : h < 4) (hs : s ≤ 65535) (hx : x ≤ 255) :
    Calls Try.prog 20 #[.pointer (some ⟨g, 0, none⟩), .int .u8 x] w fun r w' => r = .returned (.int .i64 (firstE h s x)) ∧ sat w0 w' (MB g v (h + 1 : Nat) (firstS h s x) e :: R) := by
  have c0 := cellAt H.get.1 0
  have c1 := cellAt H.get.1 1
  have f0 := frozenAt H.get.1 0
  have f1 := frozenAt H.get.1 1
  have hlt := H.lt
  simp at c0 c1
  have HH := Lib.hid H
  clear H
  have hor := or_byte s x hs hx
  obtain ⟨y, hy⟩ : ∃ y, y = s * 256 + x := ⟨_, rfl⟩
  have hy2 : y ≤ 16777215 := by omega
  rw [show ((s : Int) * 256 + x) = ((y : Nat) : Int) by omega] at hor
  have HY := Lib.hid hy
  clear hy
  obtain rfl | rfl | rfl | rfl : h = 0 ∨ h = 1 ∨ h = 2 ∨ h = 3 := by omega
  · by_cases hx1 : x = 1
    · subst hx1
      go_enter Try.func20, Try.ntmps20
      go_wp2
      go_ret
      exact ⟨rfl, HH.out.store _⟩
    · have d1 : ((x : Int) != 1) = true := by simp; omega
      have HF : Hid (firstE 0 s x = 4) := Lib.hid (by simp [firstE, hx1])
      go_enter Try.func20, Try.ntmps20
      go_wp2
      go_ret
      exact ⟨by rw [HF.out]; rfl, HH.out.store _⟩
  · have HS : Hid (firstS 1 s x = y) := Lib.hid (by have := HY.out; simp [firstS]; omega)
    by_cases hb : 16384 < y * 65536
    · have d1 : decide ((16384 : Int) < (y : Int) * 65536) = true := by simp; omega
      have HF : Hid (firstE 1 s x = 6) := Lib.hid (by unfold firstE; rw [if_neg (by decide), if_pos (by rw [← HY.out]; exact hb)])
      clear hb
      go_enter Try.func20, Try.ntmps20
      go_wp2
      go_quiet (fail)
      go_wp2
      go_ret
      exact ⟨by rw [HF.out]; rfl, by rw [HS.out]; exact (show sat w0 _ (MB g v (1 + 1 : Nat) (y : Nat) e :: R) from ((HH.out.store (i := 0) (.int .i64 2)).store (i := 1) (.int .i64 y)).drewN nq)⟩
    · have d1 : decide ((16384 : Int) < (y : Int) * 65536) = false := by simp; omega
      have HF : Hid (firstE 1 s x = 0) := Lib.hid (by unfold firstE; rw [if_neg (by decide), if_neg (by rw [← HY.out]; exact hb)])
      clear hb
      go_enter Try.func20, Try.ntmps20
      go_wp2
      go_quiet (fail)
      go_wp2
      go_ret
      exact ⟨by rw [HF.out]; rfl, by rw [HS.out]; exact (show sat w0 _ (MB g v (1 + 1 : Nat) (y : Nat) e :: R) from ((HH.out.store (i := 0) (.int .i64 2)).store (i := 1) (.int .i64 y)).drewN nq)⟩
  · have HS : Hid (firstS 2 s x = y) := Lib.hid (by have := HY.out; simp [firstS]; omega)
    by_cases hb : 16384 < y * 256
    · have d1 : decide ((16384 : Int) < (y : Int) * 256) = true := by simp; omega
      have HF : Hid (firstE 2 s x = 6) := Lib.hid (by unfold firstE; rw [if_neg (by decide), if_pos (by rw [← HY.out]; exact hb)])
      clear hb
      go_enter Try.func20, Try.ntmps20
      go_wp2
      go_quiet (fail)
      go_wp2
      go_ret
      exact ⟨by rw [HF.out]; rfl, by rw [HS.out]; exact (show sat w0 _ (MB g v (2 + 1 : Nat) (y : Nat) e :: R) from ((HH.out.store (i := 0) (.int .i64 3)).store (i := 1) (.int .i64 y)).drewN nq)⟩
    · have d1 : decide ((16384 : Int) < (y : Int) * 256) = false := by simp; omega
      have HF : Hid (firstE 2 s x = 0) := Lib.hid (by unfold firstE; rw [if_neg (by decide), if_neg (by rw [← HY.out]; exact hb)])
      clear hb
      go_enter Try.func20, Try.ntmps20
      go_wp2
      go_quiet (fail)
      go_wp2
      go_ret
      exact ⟨by rw [HF.out]; rfl, by rw [HS.out]; exact (show sat w0 _ (MB g v (2 + 1 : Nat) (y : Nat) e :: R) from ((HH.out.store (i := 0) (.int .i64 3)).store (i := 1) (.int .i64 y)).drewN nq)⟩
  · have HS : Hid (firstS 3 s x = y) := Lib.hid (by have := HY.out; simp [firstS]; omega)
    by_cases hb : 16384 < y * 1
    · have d1 : decide ((16384 : Int) < (y : Int) ) = true := by simp; omega
      have HF : Hid (firstE 3 s x = 6) := Lib.hid (by unfold firstE; rw [if_neg (by decide), if_pos (by rw [← HY.out]; exact hb)])
      clear hb
      go_enter Try.func20, Try.ntmps20
      go_wp2
      go_quiet (fail)
      go_wp2
      go_ret
      exact ⟨by rw [HF.out]; rfl, by rw [HS.out]; exact (show sat w0 _ (MB g v (3 + 1 : Nat) (y : Nat) e :: R) from ((HH.out.store (i := 0) (.int .i64 4)).store (i := 1) (.int .i64 y)).drewN nq)⟩
    · have d1 : decide ((16384 : Int) < (y : Int) ) = false := by simp; omega
      have HF : Hid (firstE 3 s x = 0) := Lib.hid (by unfold firstE; rw [if_neg (by decide), if_neg (by rw [← HY.out]; exact hb)])
      clear hb
      go_enter Try.func20, Try.ntmps20
      go_wp2
      go_quiet (fail)
      go_wp2
      go_ret
      exact ⟨by rw [HF.out]; rfl, by rw [HS.out]; exact (show sat w0 _ (MB g v (3 + 1 : Nat) (y : Nat) e :: R) from ((HH.out.store (i := 0) (.int .i64 4)).store (i := 1) (.int .i64 y)).drewN nq)⟩
end Go.Proofs.Ytjekkaajagncpaa
