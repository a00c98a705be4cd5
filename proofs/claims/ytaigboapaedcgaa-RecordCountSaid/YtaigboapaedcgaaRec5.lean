/- Layer 7: Frame. No condition but that the slice takes at most 5000 bytes. -/
import Derived.Test.YtaigboapaedcgaaRec4
namespace Go.Proofs.Ytaigboapaedcgaa
open Go Go.RowKit Go.Shelf Hg
set_option linter.unusedVariables false
set_option linter.unusedSimpArgs false
attribute [local go_sem] Lib.run_eql_slice_nil run_min2 run_max2 run_min_two run_max_two Oper.semAt_some
set_option maxRecDepth 100000 in
set_option maxHeartbeats 2000000 in
/-- .. of an empty slice: no round. -/
theorem chunk0_in (n : Nat) (l bs bn cap : Nat) (a : Option Addr) (W : World) (P : World → Prop) (hBs : W.cell? ⟨bs, 0, none⟩ = some (.slice a 0 cap)) (h0 : P W) :
    CallsIn Fence.wide n Try.prog 22 #[.func (.yield l) #[] #[], .pointer (some ⟨bs, 0, none⟩), .pointer (some ⟨bn, 0, none⟩)] W fun e W' => (∃ v, e = .returned v) ∧ P W' := by
  refine callsIn_of_wp Try.func22 rfl trivial ?_ rfl
  simp only [Try.ntmps22, List.size_toArray, List.length_cons, List.length_nil, Nat.reduceAdd, Nat.reduceSub, Array.replicate_succ, Array.replicate_zero, List.push_toArray, List.append_toArray, List.nil_append, List.cons_append]
  gi_wp2
  gi_loopw [4] (fun i wr => i = .int .i64 0 ∧ wr = W) (fun _ _ => 0)
  case atStart => exact ⟨rfl, rfl⟩
  case round =>
    obtain ⟨rfl, rfl⟩ := hrel
    gi_wp2
    go_end0
    exact ⟨⟨_, rfl⟩, h0⟩
theorem chunk_stops (n : Nat) (hn : 1 ≤ n) (bs bn b off len cap N : Nat) (a : Option Addr) (hN : 1 ≤ N ∧ N ≤ 16384) (hlen : len ≤ 140737488351232) (hcap : len ≤ cap) (hcap2 : cap ≤ maxLen) (ha : len = 0 ∨ a = some ⟨b, off, none⟩) (w : World) (hbs : bs < w.heap.size) (hbn : bn < w.heap.size)
    (hBs : w.cell? ⟨bs, 0, none⟩ = some (.slice a len cap)) (hBn : w.cell? ⟨bn, 0, none⟩ = some (.int .i64 N)) :
    SeqStopsK Fence.wide n Try.prog 22 #[.pointer (some ⟨bs, 0, none⟩), .pointer (some ⟨bn, 0, none⟩)] (fun x : Ck N len => #[piece b off N len x]) (KpC bs bn) (fun ys => ∃ k, len ≤ k * N ∧ ys.map Subtype.val = List.range k) (fun _ => True) len w := fun l J Jx W hW hJ _ hY h0 => by
  have c1 := (hW.cell (p := ⟨bs, 0, none⟩) hbs).trans hBs
  have c2 := (hW.cell (p := ⟨bn, 0, none⟩) hbn).trans hBn
  rcases ha with h | rfl
  · have c1' : W.cell? ⟨bs, 0, none⟩ = some (.slice a 0 cap) := by rw [c1, h]
    refine (chunk0_in n l bs bn cap a W (fun u => J [] u) c1' h0).mono fun e W' hh => ⟨hh.1, .inl ⟨[], ⟨0, by omega, rfl⟩, hh.2⟩⟩
  · exact chunk1_in n hn l bs bn b off len cap N hN hlen hcap hcap2 J Jx _ hJ hY W c1 c2 h0
/-- A record. -/
def frame1 (c : List UInt8) : List UInt8 := [22, 3, 1] ++ be16 c.length ++ c
def chunk (N : Nat) (xs : List UInt8) (j : Nat) : List UInt8 := (xs.drop (j * N)).take N
def framesK (N : Nat) (xs : List UInt8) (k : Nat) : List UInt8 := (List.range k).flatMap fun j => frame1 (chunk N xs j)
def framesP (N : Nat) (xs : List UInt8) {len : Nat} (pre : List (Ck N len)) : List UInt8 := pre.flatMap fun x => frame1 (chunk N xs x.1)
theorem framesP_eq {N : Nat} {xs : List UInt8} {len : Nat} {pre : List (Ck N len)} {k : Nat} (h : pre.map Subtype.val = List.range k) : framesP N xs pre = framesK N xs k := by
  unfold framesP framesK
  rw [← h, List.flatMap_map]
theorem frame1_len (c : List UInt8) : (frame1 c).length = c.length + 5 := by simp [frame1, be16]
theorem chunk_len (N : Nat) (xs : List UInt8) (j : Nat) : (chunk N xs j).length = min N (xs.length - j * N) := by simp [chunk]
theorem framesP_len (N : Nat) (hN : N ≤ 16384) (xs : List UInt8) {len : Nat} : ∀ pre : List (Ck N len), (framesP N xs pre).length ≤ pre.length * 16389
  | [] => by simp [framesP]
  | x :: pre => by
    have ih := framesP_len N hN xs pre
    have h1 := frame1_len (chunk N xs x.1)
    have h2 := chunk_len N xs x.1
    unfold framesP at ih ⊢
    rw [List.flatMap_cons, List.length_append, List.length_cons]
    omega
theorem framesP_snoc (N : Nat) (xs : List UInt8) {len : Nat} (pre : List (Ck N len)) (x : Ck N len) : framesP N xs (pre ++ [x]) = framesP N xs pre ++ frame1 (chunk N xs x.1) := by simp [framesP]
theorem reads_recap {a : Option Addr} {n c c' : Nat} {l : List UInt8} {w : World} (h : Reads w (.slice a n c) l) (ha : a.isSome = true) (h1 : l.length ≤ c') (h2 : c' ≤ maxLen) : Reads w (.slice a n c') l := by
  rcases h.cases with ⟨h3, _⟩ | ⟨ad, cap, h3, _, _, h4⟩
  · injection h3 with e1 _ _; rw [e1] at ha; cases ha
  · injection h3 with e1 e2 e3
    subst e1 e2
    exact Reads.of_cells h1 h2 h4
/-- How many chunks there are. -/
theorem piece_reads {w : World} {b off cap N : Nat} {xs : List UInt8} (h : Reads w (.slice (some ⟨b, off, none⟩) xs.length cap) xs) (x : Ck N xs.length) (hcap : xs.length ≤ cap) (hcap2 : cap ≤ maxLen) : Reads w (piece b off N xs.length x) (chunk N xs x.1) := by
  have h1 := h.drop (x.1 * N) (N := xs.length - x.1 * N) (by have := x.2; omega)
  have h2 := h1.takeAs (n := N) (N := min N (xs.length - x.1 * N)) (by rw [List.length_drop])
  exact reads_recap (c' := min N (xs.length - x.1 * N)) h2 rfl (Nat.le_of_eq (chunk_len N xs x.1)) (Nat.le_trans (Nat.le_trans (Nat.min_le_right _ _) (Nat.sub_le _ _)) (Nat.le_trans hcap hcap2))
end Go.Proofs.Ytaigboapaedcgaa
