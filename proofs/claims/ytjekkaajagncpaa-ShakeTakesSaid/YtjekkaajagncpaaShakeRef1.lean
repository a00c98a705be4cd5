/- Layer 8: the document's message: its size. No condition. -/
import Derived.Test.YtjekkaajagncpaaShake7
namespace Go.Proofs.Ytjekkaajagncpaa
open Go Go.RowKit Hg
set_option linter.unusedVariables false
set_option linter.unusedSimpArgs false
attribute [local go_sem] Lib.run_eql_slice_nil run_min2 run_max2 run_min_two run_max_two
def RM (g : Nat) (v : Value) (e : Int) : Asn := blk g (.cells #[v, .int .i64 e] 29)
def bt (B : List UInt8) (i : Nat) : Nat := (B.getD i 0).toNat
def sizeR (B : List UInt8) : Nat := (bt B 1 * 256 + bt B 2) * 256 + bt B 3
theorem bt_le (B : List UInt8) (i : Nat) : bt B i ≤ 255 := by have := (B.getD i 0).toNat_lt; unfold bt; omega
theorem bt_zero (B : List UInt8) (i : Nat) (h : ¬ i < B.length) : bt B i = 0 := by
  unfold bt
  rw [List.getD, List.getElem?_eq_none (by omega)]
  rfl
set_option maxHeartbeats 800000 in
theorem size_calls (g : Nat) (v : Value) (B : List UInt8) (e : Int) (R : List Asn) (w0 w : World) (H : sat w0 w (RM g v e :: Row v B :: R)) :
    Calls Try.prog 22 #[.pointer (some ⟨g, 0, none⟩)] w fun r w' => r = .returned (.int .i64 (sizeR B)) ∧ w' = w := by
  obtain ⟨a, c, rfl, hc, _⟩ := Row.form H.tail
  have c0 : w.cell? ⟨g, 0, none⟩ = some (.slice a B.length c) := cellAt H.get.1 0
  have key : ∀ i, i < B.length → ∃ gg, a = some ⟨gg, 0, none⟩ ∧ w.cell? ⟨gg, i, none⟩ = some (.int .u8 (bt B i)) := by
    intro i hi
    obtain ⟨gg, c', hv, _, _, cc, _, _⟩ := Row.set H.tail hi 0 rfl
    injection hv with e1 _ _
    exact ⟨gg, e1, cc⟩
  have b1 := bt_le B 1
  have b2 := bt_le B 2
  have b3 := bt_le B 3
  have z1 := bt_zero B 1
  have z2 := bt_zero B 2
  have z3 := bt_zero B 3
  have HK := Lib.hid key
  obtain ⟨x, hx⟩ : ∃ x, x = bt B 1 := ⟨_, rfl⟩
  obtain ⟨y, hy⟩ : ∃ y, y = bt B 2 := ⟨_, rfl⟩
  obtain ⟨z, hz⟩ : ∃ z, z = bt B 3 := ⟨_, rfl⟩
  have HS := Lib.hid (show sizeR B = (x * 256 + y) * 256 + z by rw [hx, hy, hz]; rfl)
  rw [← hx] at b1 z1
  rw [← hy] at b2 z2
  rw [← hz] at b3 z3
  have HX := Lib.hid (And.intro hx (And.intro hy hz))
  have HZ := Lib.hid (And.intro z1 (And.intro z2 z3))
  clear key H hx hy hz z1 z2 z3
  go_enter Try.func22, Try.ntmps22
  go_wp2
  go_loop [3, 4] (fun n i => (i = .int .i64 1 ∧ n = .int .i64 0) ∨ (i = .int .i64 2 ∧ n = .int .i64 x) ∨ (i = .int .i64 3 ∧ n = .int .i64 ((x : Int) * 256 + y)) ∨ (i = .int .i64 4 ∧ n = .int .i64 (((x : Int) * 256 + y) * 256 + z))) (fun _ i => 4 - (intOf i).toNat)
  case atStart => exact .inl ⟨rfl, rfl⟩
  case round =>
    rcases hrel with ⟨rfl, rfl⟩ | ⟨rfl, rfl⟩ | ⟨rfl, rfl⟩ | ⟨rfl, rfl⟩
    · by_cases hi : 1 < B.length
      · obtain ⟨gg, rfl, cc⟩ := HK.out 1 hi
        rw [← HX.out.1] at cc
        have d : decide ((1 : Int) < B.length) = true := by simp; omega
        go_wp2
        go_round
        case rel => exact .inr (.inl ⟨rfl, rfl⟩)
        case measure => simp [intOf]
      · have d : decide ((1 : Int) < B.length) = false := by simp; omega
        have h0 := HZ.out.1 hi
        clear hi
        go_wp2
        go_round
        case rel => exact .inr (.inl ⟨rfl, by rw [h0]; rfl⟩)
        case measure => simp [intOf]
    · by_cases hi : 2 < B.length
      · obtain ⟨gg, rfl, cc⟩ := HK.out 2 hi
        rw [← HX.out.2.1] at cc
        have d : decide ((2 : Int) < B.length) = true := by simp; omega
        go_wp2
        go_round
        case rel => exact .inr (.inr (.inl ⟨rfl, rfl⟩))
        case measure => simp [intOf]
      · have d : decide ((2 : Int) < B.length) = false := by simp; omega
        have h0 := Lib.hid (HZ.out.2.1 hi)
        clear hi
        go_wp2
        go_round
        case rel => exact .inr (.inr (.inl ⟨rfl, by rw [h0.out]; simp⟩))
        case measure => simp [intOf]
    · by_cases hi : 3 < B.length
      · obtain ⟨gg, rfl, cc⟩ := HK.out 3 hi
        rw [← HX.out.2.2] at cc
        have d : decide ((3 : Int) < B.length) = true := by simp; omega
        go_wp2
        go_round
        case rel => exact .inr (.inr (.inr ⟨rfl, rfl⟩))
        case measure => simp [intOf]
      · have d : decide ((3 : Int) < B.length) = false := by simp; omega
        have h0 := Lib.hid (HZ.out.2.2 hi)
        clear hi
        go_wp2
        go_round
        case rel => exact .inr (.inr (.inr ⟨rfl, by rw [h0.out]; simp⟩))
        case measure => simp [intOf]
    · go_wp2
      go_ret
      exact ⟨by rw [HS.out]; exact ret_int (by omega), rfl⟩
end Go.Proofs.Ytjekkaajagncpaa
