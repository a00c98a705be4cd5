/- Layer 7: the deframer's own small functions; a byte ahead of a payload. No condition. -/
import Derived.Test.YtaigboapaedcgaaRows
import Derived.Test.YtaigboapaedcgaaMix
import Derived.Test.YtaigboapaedcgaaOps2
import Derived.WalkSpells
namespace Go.Proofs.Ytaigboapaedcgaa
open Go Go.RowKit Hg
set_option linter.unusedVariables false
set_option linter.unusedSimpArgs false
attribute [local go_sem] Lib.run_eql_slice_nil run_min2 run_max2 run_min_two run_max_two
theorem ret_int {k : IntKind} {a b : Int} (h : a = b) : Ending.returned (.int k a) = .returned (.int k b) := by rw [h]
theorem info5 : (Try.prog.info? 5).map (fun i => (i.zero, i.size, i.bytes)) = some (some (.int .u8 0), 1, 1) := by kernel_rfl
/-- A deframer: the part that comes next, how many bytes are left, the error, how many records. -/
def DB (g : Nat) (p l e c : Int) : Asn := blk g (.cells #[.int .i64 p, .int .i64 l, .int .i64 e, .int .i64 c] 43)
theorem new_calls (R : List Asn) (w0 w : World) (H : sat w0 w R) :
    Calls Try.prog 10 #[] w fun e w' => ∃ g : Nat, e = .returned (.pointer (some ⟨g, 0, none⟩)) ∧ sat w0 w' (DB g 0 0 0 0 :: R) := by
  have HH := Lib.hid H
  clear H
  go_enter Try.func10, Try.ntmps10
  go_wp2
  go_ret
  exact ⟨_, rfl, HH.out.alloc _⟩
theorem count_calls (g : Nat) (p l e c : Int) (R : List Asn) (w0 w : World) (H : sat w0 w (DB g p l e c :: R)) :
    Calls Try.prog 13 #[.pointer (some ⟨g, 0, none⟩)] w fun r w' => r = .returned (.int .i64 c) ∧ w' = w := by
  have c3 : w.cell? ⟨g, 3, none⟩ = some (.int .i64 c) := cellAt H.get.1 3
  clear H
  go_enter Try.func13, Try.ntmps13
  go_wp2
  go_ret
  exact ⟨rfl, rfl⟩
theorem open_calls (g : Nat) (p l e c : Int) (R : List Asn) (w0 w : World) (H : sat w0 w (DB g p l e c :: R)) :
    Calls Try.prog 14 #[.pointer (some ⟨g, 0, none⟩)] w fun r w' => r = .returned (.bool (decide (e = 0) && !decide (p = 0))) ∧ w' = w := by
  have c0 : w.cell? ⟨g, 0, none⟩ = some (.int .i64 p) := cellAt H.get.1 0
  have c2 : w.cell? ⟨g, 2, none⟩ = some (.int .i64 e) := cellAt H.get.1 2
  clear H
  obtain ⟨b, hb⟩ : ∃ b, b = (decide (e = 0) && !decide (p = 0)) := ⟨_, rfl⟩
  rw [← hb]
  by_cases he : e = 0
  · subst he
    by_cases hp : p = 0
    · subst hp
      have HF : Hid (b = false) := Lib.hid (by simpa using hb)
      clear hb
      go_enter Try.func14, Try.ntmps14
      go_wp2
      go_ret
      exact ⟨by rw [HF.out]; rfl, rfl⟩
    · have d : (p != 0) = true := by simpa using hp
      have HF : Hid (b = true) := Lib.hid (by simpa [hp] using hb)
      clear hb
      go_enter Try.func14, Try.ntmps14
      go_wp2
      go_ret
      exact ⟨by rw [HF.out]; rfl, rfl⟩
  · have d : (e == 0) = false := by simpa using he
    have HF : Hid (b = false) := Lib.hid (by simpa [he] using hb)
    clear hb
    go_enter Try.func14, Try.ntmps14
    go_wp2
    go_ret
    exact ⟨by rw [HF.out]; rfl, rfl⟩
theorem or_byte (s c : Nat) (hs : s ≤ 65535) (hc : c ≤ 255) : bits BinOp.or .i64 ((s : Int) * 256) (c : Int) = s * 256 + c := by
  have e1 : BitVec.ofInt IntKind.i64.bits ((s : Int) * 256) = BitVec.ofNat 64 (s <<< 8) := by
    rw [Nat.shiftLeft_eq, show ((s : Int) * 256) = ((s * 2 ^ 8 : Nat) : Int) by omega]
    exact BitVec.ofInt_natCast _ _
  have e2 : BitVec.ofInt IntKind.i64.bits (c : Int) = BitVec.ofNat 64 c := BitVec.ofInt_natCast _ _
  have e3 : (BitVec.ofNat 64 (s <<< 8) ||| BitVec.ofNat 64 c).toNat = s * 256 + c := by
    rw [BitVec.toNat_or, BitVec.toNat_ofNat, BitVec.toNat_ofNat, Nat.mod_eq_of_lt (by rw [Nat.shiftLeft_eq]; omega), Nat.mod_eq_of_lt (by omega), ← Nat.shiftLeft_add_eq_or_of_lt (by omega : c < 2 ^ 8), Nat.shiftLeft_eq]
  unfold bits
  simp only [e1, e2]
  refine (show IntKind.i64.wrap (((BitVec.ofNat 64 (s <<< 8) ||| BitVec.ofNat 64 c : BitVec 64).toNat : Nat) : Int) = _ from ?_)
  rw [e3]
  simp [IntKind.wrap, IntKind.bits, IntKind.signed]
  omega
/-- What is wrong of a byte ahead of a payload; what is left behind it. -/
def headE (p l x : Nat) : Int :=
  if p = 0 then if x = 22 then 0 else 4 else if p = 1 then if x = 3 then 0 else 5 else if p = 2 then if x ≤ 4 then 0 else 5 else if p = 3 then if 16384 < x * 256 then 6 else 0 else if l + x = 0 ∨ 16384 < l + x then 6 else 0
def headL (p l x : Nat) : Nat := if p = 3 then x * 256 else if p = 4 then l + x else l
def headP (p l x : Nat) : Nat := if headE p l x = 0 then p + 1 else p
set_option maxHeartbeats 1600000 in
theorem head_calls (g p k : Nat) (e c : Int) (x : Nat) (R : List Asn) (w0 w : World) (H : sat w0 w (DB g p (k * 256 : Nat) e c :: R)) (hp : p ≤ 4) (hk : k ≤ 64) (hx : x ≤ 255) :
    Calls Try.prog 19 #[.pointer (some ⟨g, 0, none⟩), .int .u8 x] w fun r w' => r = .returned (.int .i64 (headE p (k * 256) x)) ∧ sat w0 w' (DB g (headP p (k * 256) x) (headL p (k * 256) x) e c :: R) := by
  obtain ⟨l, hl⟩ : ∃ l, l = k * 256 := ⟨_, rfl⟩
  rw [← hl] at H ⊢
  have c0 : w.cell? ⟨g, 0, none⟩ = some (.int .i64 p) := cellAt H.get.1 0
  have c1 : w.cell? ⟨g, 1, none⟩ = some (.int .i64 l) := cellAt H.get.1 1
  have f0 := frozenAt H.get.1 0
  have f1 := frozenAt H.get.1 1
  have hlt := H.lt
  have HH := Lib.hid H
  have hl2 : l ≤ 16384 := by omega
  clear H
  obtain rfl | rfl | rfl | rfl | rfl : p = 0 ∨ p = 1 ∨ p = 2 ∨ p = 3 ∨ p = 4 := by omega
  · by_cases hx1 : x = 22
    · subst hx1
      have HE := Lib.hid (show headE 0 l 22 = 0 ∧ headP 0 l 22 = 1 ∧ headL 0 l 22 = l from ⟨rfl, rfl, rfl⟩)
      go_enter Try.func19, Try.ntmps19
      go_wp2
      go_ret
      exact ⟨by rw [HE.out.1]; rfl, by rw [HE.out.2.1, HE.out.2.2]; exact HH.out.store (i := 0) (.int .i64 1)⟩
    · have d1 : ((x : Int) != 22) = true := by simp; omega
      have HE := Lib.hid (show headE 0 l x = 4 ∧ headP 0 l x = 0 ∧ headL 0 l x = l by simp [headP, headE, headL, hx1])
      go_enter Try.func19, Try.ntmps19
      go_wp2
      go_ret
      exact ⟨by rw [HE.out.1]; rfl, by rw [HE.out.2.1, HE.out.2.2]; exact HH.out⟩
  · by_cases hx1 : x = 3
    · subst hx1
      have HE := Lib.hid (show headE 1 l 3 = 0 ∧ headP 1 l 3 = 2 ∧ headL 1 l 3 = l from ⟨rfl, rfl, rfl⟩)
      go_enter Try.func19, Try.ntmps19
      go_wp2
      go_ret
      exact ⟨by rw [HE.out.1]; rfl, by rw [HE.out.2.1, HE.out.2.2]; exact HH.out.store (i := 0) (.int .i64 2)⟩
    · have d1 : ((x : Int) != 3) = true := by simp; omega
      have HE := Lib.hid (show headE 1 l x = 5 ∧ headP 1 l x = 1 ∧ headL 1 l x = l by simp [headP, headE, headL, hx1])
      go_enter Try.func19, Try.ntmps19
      go_wp2
      go_ret
      exact ⟨by rw [HE.out.1]; rfl, by rw [HE.out.2.1, HE.out.2.2]; exact HH.out⟩
  · by_cases hx1 : x ≤ 4
    · have d1 : decide ((4 : Int) < x) = false := by simp; omega
      have HE := Lib.hid (show headE 2 l x = 0 ∧ headP 2 l x = 3 ∧ headL 2 l x = l by simp [headP, headE, headL, hx1])
      clear hx1
      go_enter Try.func19, Try.ntmps19
      go_wp2
      go_ret
      exact ⟨by rw [HE.out.1]; rfl, by rw [HE.out.2.1, HE.out.2.2]; exact HH.out.store (i := 0) (.int .i64 3)⟩
    · have d1 : decide ((4 : Int) < x) = true := by simp; omega
      have HE := Lib.hid (show headE 2 l x = 5 ∧ headP 2 l x = 2 ∧ headL 2 l x = l by simp [headP, headE, headL, hx1])
      clear hx1
      go_enter Try.func19, Try.ntmps19
      go_wp2
      go_ret
      exact ⟨by rw [HE.out.1]; rfl, by rw [HE.out.2.1, HE.out.2.2]; exact HH.out⟩
  · by_cases hx1 : 16384 < x * 256
    · have d1 : decide ((16384 : Int) < (x : Int) * 256) = true := by simp; omega
      have HE := Lib.hid (show headE 3 l x = 6 ∧ headP 3 l x = 3 ∧ headL 3 l x = x * 256 by simp [headP, headE, headL, hx1])
      clear hx1
      go_enter Try.func19, Try.ntmps19
      go_wp2
      go_ret
      exact ⟨by rw [HE.out.1]; rfl, by rw [HE.out.2.1, HE.out.2.2, show ((x * 256 : Nat) : Int) = (x : Int) * 256 by omega]; exact HH.out.store (i := 1) (.int .i64 ((x : Int) * 256))⟩
    · have d1 : decide ((16384 : Int) < (x : Int) * 256) = false := by simp; omega
      have HE := Lib.hid (show headE 3 l x = 0 ∧ headP 3 l x = 4 ∧ headL 3 l x = x * 256 by simp [headP, headE, headL, hx1])
      clear hx1
      go_enter Try.func19, Try.ntmps19
      go_wp2
      go_ret
      exact ⟨by rw [HE.out.1]; rfl, by rw [HE.out.2.1, HE.out.2.2, show ((x * 256 : Nat) : Int) = (x : Int) * 256 by omega]; exact (HH.out.store (i := 1) (.int .i64 ((x : Int) * 256))).store (i := 0) (.int .i64 4)⟩
  · have hor := or_byte k x (by omega) hx
    obtain ⟨y, hy⟩ : ∃ y, y = l + x := ⟨_, rfl⟩
    rw [show ((k : Int) * 256) = (l : Int) by omega, show ((l : Int) + x) = (y : Int) by omega] at hor
    have HY := Lib.hid hy
    have hy2 : y ≤ 16639 := by omega
    clear hy hl hk
    by_cases hx0 : y = 0
    · subst hx0
      have HE := Lib.hid (show headE 4 l x = 6 ∧ headP 4 l x = 4 ∧ headL 4 l x = 0 by have := HY.out; simp [headP, headE, headL]; omega)
      go_enter Try.func19, Try.ntmps19
      go_wp2
      go_ret
      exact ⟨by rw [HE.out.1]; rfl, by rw [HE.out.2.1, HE.out.2.2]; exact HH.out.store (i := 1) (.int .i64 0)⟩
    · have d0 : ((y : Int) == 0) = false := by simp; omega
      by_cases hx1 : 16384 < y
      · have d1 : decide ((16384 : Int) < (y : Int)) = true := by simp; omega
        have HE := Lib.hid (show headE 4 l x = 6 ∧ headP 4 l x = 4 ∧ headL 4 l x = y by have := HY.out; simp [headP, headE, headL]; omega)
        clear hx1
        go_enter Try.func19, Try.ntmps19
        go_wp2
        go_ret
        exact ⟨by rw [HE.out.1]; rfl, by rw [HE.out.2.1, HE.out.2.2]; exact HH.out.store (i := 1) (.int .i64 y)⟩
      · have d1 : decide ((16384 : Int) < (y : Int)) = false := by simp; omega
        have HE := Lib.hid (show headE 4 l x = 0 ∧ headP 4 l x = 5 ∧ headL 4 l x = y by have := HY.out; simp [headP, headE, headL]; omega)
        clear hx1
        go_enter Try.func19, Try.ntmps19
        go_wp2
        go_ret
        exact ⟨by rw [HE.out.1]; rfl, by rw [HE.out.2.1, HE.out.2.2]; exact (HH.out.store (i := 1) (.int .i64 y)).store (i := 0) (.int .i64 5)⟩
end Go.Proofs.Ytaigboapaedcgaa
