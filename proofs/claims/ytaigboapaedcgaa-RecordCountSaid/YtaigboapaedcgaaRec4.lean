/- Layer 7: the chunks of a slice, one by one. No condition. -/
import Derived.Test.YtaigboapaedcgaaRec3
import Derived.Test.YtaigboapaedcgaaFence
import Derived.Sort.QuietIn
namespace Go.Proofs.Ytaigboapaedcgaa
open Go Go.RowKit Go.Shelf Hg
set_option linter.unusedVariables false
set_option linter.unusedSimpArgs false
attribute [local go_sem] Lib.run_eql_slice_nil run_min2 run_max2 run_min_two run_max_two Oper.semAt_some
theorem chunk_in (F : Fence) (n : Nat) (h20 : F.fn 20) (hro : F.round = none) (a : Option Addr) (len cap : Nat) (N : Nat) (hN : 1 ≤ N ∧ N ≤ 16384) (w : World) :
    CallsIn F n Try.prog 20 #[.slice a len cap, .int .i64 N] w fun e w' => e = .returned (.func (.func 22) #[] #[.pointer (some ⟨w.heap.size, 0, none⟩), .pointer (some ⟨w.heap.size + 1, 0, none⟩)]) ∧ w' = (w.alloc (.cells #[.slice a len cap] 22)).alloc (.cells #[.int .i64 N] 3) := by
  have d : decide ((N : Int) < 1) = false := by simp; omega
  refine callsIn_of_wp Try.func20 rfl h20 ?_ hro
  simp only [Try.ntmps20, List.size_toArray, List.length_cons, List.length_nil, Nat.reduceAdd, Nat.reduceSub, Array.replicate_succ, Array.replicate_zero, List.push_toArray, List.append_toArray, List.nil_append, List.cons_append]
  gi_wp2
  go_ret
  exact ⟨rfl, rfl⟩
/-- A chunk's number, of those that there are. -/
abbrev Ck (N len : Nat) : Type := { j : Nat // j * N < len }
def piece (b off N len : Nat) (x : Ck N len) : Value := .slice (some ⟨b, off + x.1 * N, none⟩) (min N (len - x.1 * N)) (min N (len - x.1 * N))
def KpC (bs bn : Nat) (W W' : World) : Prop := W'.heap[bs]? = W.heap[bs]? ∧ W'.heap[bn]? = W.heap[bn]?
theorem KpC.cell {bs bn : Nat} {W W' : World} (h : KpC bs bn W W') {u v : Value} (h1 : W.cell? ⟨bs, 0, none⟩ = some u) (h2 : W.cell? ⟨bn, 0, none⟩ = some v) : W'.cell? ⟨bs, 0, none⟩ = some u ∧ W'.cell? ⟨bn, 0, none⟩ = some v :=
  ⟨by rw [World.cell?_of_block (w := W) (a := ⟨bs, 0, none⟩) h.1]; exact h1, by rw [World.cell?_of_block (w := W) (a := ⟨bn, 0, none⟩) h.2]; exact h2⟩
theorem grown_drewN (w : World) (n : Nat) (row : Option Nat) : w.grownBy (w.drewN n) row := ⟨rfl, rfl, rfl, Nat.le_refl _, fun _ _ _ => rfl⟩
theorem grown_drew (w : World) (row : Option Nat) : w.grownBy w.drew row := ⟨rfl, rfl, rfl, Nat.le_refl _, fun _ _ _ => rfl⟩
set_option maxRecDepth 100000 in
set_option maxHeartbeats 2000000 in
theorem chunk1_in (n : Nat) (hn : 1 ≤ n) (l bs bn b off len cap N : Nat) (hN : 1 ≤ N ∧ N ≤ 16384) (hlen : len ≤ 140737488351232) (hcap : len ≤ cap) (hcap2 : cap ≤ maxLen) (J Jx : List (Ck N len) → World → Prop)
    (B : Nat) (hJ : AbidesFrom B J)
    (hY : ∀ pre x W, J pre W → pre.length < len → YieldAt Fence.wide (n - 1) Try.prog l #[piece b off N len x] W fun e W' =>
      (e = .returned (.bool true) ∧ J (pre ++ [x]) W' ∧ KpC bs bn W W') ∨ (e = .returned (.bool false) ∧ Jx (pre ++ [x]) W'))
    (W : World) (hBs : W.cell? ⟨bs, 0, none⟩ = some (.slice (some ⟨b, off, none⟩) len cap)) (hBn : W.cell? ⟨bn, 0, none⟩ = some (.int .i64 N)) (h0 : J [] W) :
    CallsIn Fence.wide n Try.prog 22 #[.func (.yield l) #[] #[], .pointer (some ⟨bs, 0, none⟩), .pointer (some ⟨bn, 0, none⟩)] W fun e W' => (∃ v, e = .returned v) ∧
      ((∃ ys, (∃ k, len ≤ k * N ∧ ys.map Subtype.val = List.range k) ∧ J ys W') ∨ (∃ pre, True ∧ Jx pre W')) := by
  unfold maxLen at hcap2
  refine callsIn_of_wp Try.func22 rfl trivial ?_ rfl
  simp only [Try.ntmps22, List.size_toArray, List.length_cons, List.length_nil, Nat.reduceAdd, Nat.reduceSub, Array.replicate_succ, Array.replicate_zero, List.push_toArray, List.append_toArray, List.nil_append, List.cons_append]
  gi_wp2
  gi_loopw [4] (fun i wr => ∃ (k : Nat) (pre : List (Ck N len)), k * N ≤ len + N ∧ i = .int .i64 (k * N : Nat) ∧ pre.map Subtype.val = List.range k ∧ J pre wr ∧ wr.cell? ⟨bs, 0, none⟩ = some (.slice (some ⟨b, off, none⟩) len cap) ∧ wr.cell? ⟨bn, 0, none⟩ = some (.int .i64 N))
    (fun i _ => len - (intOf i).toNat)
  case atStart => exact ⟨0, [], by omega, by simp, rfl, h0, hBs, hBn⟩
  case round =>
    obtain ⟨k, pre, hk, rfl, hpre, hJs, hcs, hcn⟩ := hrel
    obtain ⟨i, hi⟩ : ∃ i, i = k * N := ⟨_, rfl⟩
    rw [← hi] at hk ⊢
    by_cases hlt : i < len
    · obtain ⟨m, hm⟩ : ∃ m, m = min N (len - i) := ⟨_, rfl⟩
      have d : decide ((i : Int) < (len : Int)) = true := by simp; omega
      have dm : mn (N : Int) ((len : Int) - i) = m := by rw [mn_eq]; omega
      have dm2 : mn (N : Int) ((len - i : Nat) : Int) = m := by rw [mn_eq]; omega
      have hm2 : m ≤ 16384 ∧ 1 ≤ m ∧ i + m ≤ len := by omega
      have hJd := fun q => hJ _ _ _ none hJs (grown_drewN wr q none) (fun r e => by cases e)
      have hl : pre.length < len := by
        have e1 : pre.length = k := by rw [← List.length_map (f := Subtype.val), hpre, List.length_range]
        have e2 : k * 1 ≤ k * N := Nat.mul_le_mul_left _ hN.1
        omega
      obtain ⟨x, hx⟩ : ∃ x : Ck N len, x.1 = k := ⟨⟨k, by omega⟩, rfl⟩
      have hyy := fun q => hY pre x (wr.drewN q) (hJd q) hl
      have hpc : piece b off N len x = .slice (some ⟨b, off + i, none⟩) m m := by unfold piece; rw [hx, ← hi, ← hm]
      rw [hpc] at hyy
      have HI := Lib.hid hi
      have HYY := Lib.hid hyy
      have HPX := Lib.hid (show (pre ++ [x]).map Subtype.val = List.range (k + 1) by rw [List.map_append, hpre, List.range_succ]; simp [hx])
      clear hyy hpc hi hm hx hpre hJd hl
      gi_wp2
      gi_quiet (fail)
      obtain ⟨fn, tmps, assign, body, hy, hR⟩ := HYY.out nq
      gi_wp2
      refine hR.mono ?_
      rintro e W3 (⟨rfl, hJ3, hk3⟩ | ⟨rfl, hJx3⟩)
      · obtain ⟨hcs3, hcn3⟩ := hk3.cell hcs hcn
        gi_wp2
        go_roundw
        case rel => exact ⟨k + 1, pre ++ [x], by rw [Nat.add_mul, ← HI.out]; omega, by rw [Nat.add_mul, ← HI.out]; simp, HPX.out, hJ3, hcs3, hcn3⟩
        case measure => simp [intOf]; omega
      · gi_wp2
        refine bodyPost_ret (results_none rfl _ _ _) rfl ?_
        exact ⟨⟨_, rfl⟩, .inr ⟨_, trivial, hJx3⟩⟩
    · have HI := Lib.hid hi
      have HP := Lib.hid hpre
      have d : decide ((i : Int) < (len : Int)) = false := by simp; omega
      clear hi hpre
      gi_wp2
      go_end0
      exact ⟨⟨_, rfl⟩, .inl ⟨pre, ⟨k, by rw [← HI.out]; omega, HP.out⟩, hJs⟩⟩
end Go.Proofs.Ytaigboapaedcgaa
