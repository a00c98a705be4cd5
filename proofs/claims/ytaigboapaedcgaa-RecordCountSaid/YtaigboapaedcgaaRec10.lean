/- Layer 7: the document's Frame. No condition but that the slice takes at most 5000 bytes. -/
import Derived.Test.YtaigboapaedcgaaRec9
import Derived.Test.YtaigboapaedcgaaRec6
namespace Go.Proofs.Ytaigboapaedcgaa
open Go Go.RowKit Hg
set_option linter.unusedVariables false
set_option linter.unusedSimpArgs false
attribute [local go_sem] Lib.run_eql_slice_nil run_min2 run_max2 run_min_two run_max_two
theorem framesK_succ (N : Nat) (xs : List UInt8) (k : Nat) : framesK N xs (k + 1) = framesK N xs k ++ frame1 (chunk N xs k) := by simp [framesK, List.range_succ]
theorem framesK_len (N : Nat) (hN : N ≤ 16384) (xs : List UInt8) : ∀ k, (framesK N xs k).length ≤ k * 16389
  | 0 => by simp [framesK]
  | k + 1 => by
    have ih := framesK_len N hN xs k
    have h1 := frame1_len (chunk N xs k)
    have h2 := chunk_len N xs k
    rw [framesK_succ, List.length_append]
    omega
set_option maxRecDepth 100000 in
set_option maxHeartbeats 4000000 in
theorem rframe_calls (vx : Value) (xs : List UInt8) (size : Int) (N : Nat) (hN : mx 1 (mn size 16384) = N) (hN2 : 1 ≤ N ∧ N ≤ 16384) (R : List Asn) (w0 w : World) (H : sat w0 w R) (hx : Rd w0 R vx xs) (hl : xs.length ≤ 5000) :
    Calls Try.prog 18 #[vx, .int .i64 size] w fun e w' => ∃ v', e = .returned v' ∧ ∃ k, xs.length ≤ k * N ∧ (∀ j, j < k → j * N < xs.length) ∧ sat w0 w' (Row v' (framesK N xs k) :: R) := by
  obtain ⟨a, cap, rfl, hcap, hcap2⟩ := (hx w H).form
  have HX := Lib.hid hx
  have HH := Lib.hid H
  have HC2 := Lib.hid hcap2
  unfold maxLen at hcap2
  clear H hx
  go_enter Try.func18, Try.ntmps18
  go_wp2
  go_loopw [6, 7] (fun out at' wr => ∃ (k : Nat), at' = .int .i64 (k * N : Nat) ∧ Hid (k * N < xs.length + N) ∧ Hid (∀ j, j < k → j * N < xs.length) ∧ sat w0 wr (Row out (framesK N xs k) :: R)) (fun _ i _ => xs.length + N - (intOf i).toNat)
  case atStart => exact ⟨0, by simp, Lib.hid (by omega), Lib.hid (fun j hj => absurd hj (by omega)), Row.nil HH.out⟩
  case round =>
    obtain ⟨k, rfl, HK, HJ, HS⟩ := hrel
    clear HH
    obtain ⟨i, hi⟩ : ∃ i, i = k * N := ⟨_, rfl⟩
    have HI := Lib.hid hi
    have hk := HK.out
    rw [← hi] at hk ⊢
    have hik : k ≤ i := by
      have e2 : k * 1 ≤ k * N := Nat.mul_le_mul_left _ hN2.1
      omega
    have hfl := framesK_len N hN2.2 xs k
    obtain ⟨L, hL⟩ : ∃ L, L = framesK N xs k := ⟨_, rfl⟩
    have hL3 : i < xs.length → L.length ≤ 81945000 := by rw [hL]; omega
    have HL := Lib.hid hL
    rw [← hL] at HS
    have HB := Lib.hid HS
    clear HS hi hL hfl
    by_cases hlt : i < xs.length
    · obtain ⟨b0, off, c0, hv, cc, hcc⟩ := Reads.at' (HX.out _ HB.out.tail) i hlt
      injection hv with a1 _ a2
      subst a1 a2
      have hL4 := hL3 hlt
      obtain ⟨m, hm⟩ : ∃ m, m = min N (xs.length - i) := ⟨_, rfl⟩
      obtain ⟨c, hc⟩ : ∃ c, c = chunk N xs k := ⟨_, rfl⟩
      have hcl : c.length = m := by rw [hc, chunk_len, ← HI.out, hm]
      have hmm : 1 ≤ m ∧ m ≤ 16384 ∧ i + m ≤ xs.length := by omega
      have d : decide ((i : Int) < (xs.length : Int)) = true := by simp; omega
      have dm : mn (xs.length : Int) ((i : Int) + N) = ((i + m : Nat) : Int) := by rw [mn_eq]; omega
      have hrp := Lib.hid (show Rd w0 R (.slice (some ⟨b0, off + i, none⟩) m (cap - i)) c from fun u hu => by
        have h1 := (HX.out u hu).drop i (N := xs.length - i) (by omega)
        have h2 := h1.takeAs (n := N) (N := m) (by rw [List.length_drop]; exact hm)
        rw [hc, chunk, ← HI.out]
        exact h2)
      obtain ⟨b1, hb1⟩ : ∃ b1, b1 = UInt8.ofNat (m / 256) := ⟨_, rfl⟩
      obtain ⟨b2, hb2⟩ : ∃ b2, b2 = UInt8.ofNat m := ⟨_, rfl⟩
      have e1 : (m : Int) / 256 = b1.toNat := by rw [hb1, UInt8.toNat_ofNat']; omega
      have e2 : (m : Int) % 256 = b2.toNat := by rw [hb2, UInt8.toNat_ofNat']; omega
      obtain ⟨L1, hL1⟩ : ∃ L1, L1 = L ++ [22, 3, 1, b1, b2] := ⟨_, rfl⟩
      obtain ⟨L2, hL2⟩ : ∃ L2, L2 = L1 ++ c := ⟨_, rfl⟩
      have hL1l : L1.length ≤ 81945005 := by rw [hL1]; simp; omega
      have HF := Lib.hid (show framesK N xs (k + 1) = L2 by rw [framesK_succ, ← HL.out, hL2, hL1, ← hc, frame1, be16, hcl, ← hb1, ← hb2]; simp)
      have HL1 := Lib.hid hL1
      have HL2 := Lib.hid hL2
      have hcl2 : c.length ≤ 16384 := by omega
      clear hm hc hcl hb1 hb2 hL1 hL2 hL3 hk cc
      go_wp2_with (first | (refine BigFrame.wpList_want (by rfl) fun K' hK' => ?_; refine op_append_bytes (l := L) (m := [22, 3, 1, b1, b2]) (y := .slice (some ⟨wr.heap.size, 0, none⟩) 5 5) (by rfl) Try.underlying22 info5 (by rfl) (by rfl) ((HB.out.alloc (.cells ([22, 3, 1, b1, b2].map B8).toArray 5)).swap) (Rd.blk [22, 3, 1, b1, b2] (show (5 : Nat) ≤ maxLen by decide) _ (HB.out.alloc _)) (by simp; omega) ?_; intro v5 w5 H5 _; rw [← HL1.out] at H5; refine hK' _ _ ?_; clear hK' K'; have HC := Lib.hid (show sat w0 w5 (Row v5 L1 :: R) from H5.re 2 [0] [1] rfl); clear H5 HB) | (refine BigFrame.wpList_want (by rfl) fun K' hK' => ?_; refine op_append_bytes (l := L1) (m := c) (v := v5) (y := .slice (some ⟨b0, off + i, none⟩) m (cap - i)) (by rfl) Try.underlying22 info5 (by rfl) (by rfl) HC.out (hrp.out _ HC.out.tail) (by omega) ?_; intro v6 w6 H6 _; rw [← HL2.out] at H6; refine hK' _ _ ?_; clear hK' K'; have HD := Lib.hid H6; clear H6 HC))
      go_roundw
      case rel =>
        have hh : k * N + N < xs.length + N := by rw [← HI.out]; omega
        have hj : ∀ j, j < k + 1 → j * N < xs.length := fun j hj => by
          rcases Nat.lt_or_ge j k with h | h
          · exact HJ.out j h
          · have e : j = k := by omega
            rw [e, ← HI.out]
            exact hlt
        have hi : Value.int .i64 ((i : Int) + (N : Int)) = Value.int .i64 (((k + 1) * N : Nat) : Int) := by
          rw [Nat.add_mul, ← HI.out]
          simp
        have hk2 : (k + 1) * N < xs.length + N := by rw [Nat.add_mul]; omega
        have hd := HD.out
        rw [← HF.out] at hd
        first
          | exact ⟨k + 1, hi, Lib.hid hk2, Lib.hid hj, hd⟩
          | (repeat apply Exists.intro
             exact ⟨⟨k + 1, hi, Lib.hid hk2, Lib.hid hj, hd⟩, rfl⟩)
      case measure => simp [intOf]; omega
    · have d : decide ((i : Int) < (xs.length : Int)) = false := by simp; omega
      go_wp2
      go_ret
      exact ⟨_, rfl, k, by rw [← HI.out]; omega, HJ.out, by rw [← HL.out]; exact HB.out⟩
end Go.Proofs.Ytaigboapaedcgaa
