/- Layer 7: Frame's walk. No condition but that the slice takes at most 5000 bytes. -/
import Derived.Test.YtaigboapaedcgaaRec5
import Derived.Deep.DeepMust
namespace Go.Proofs.Ytaigboapaedcgaa
open Go Go.RowKit Go.Shelf Hg
set_option linter.unusedVariables false
set_option linter.unusedSimpArgs false
attribute [local go_sem] Lib.run_eql_slice_nil run_min2 run_max2 run_min_two run_max_two Oper.semAt_some
/-- What a loop over the chunks holds. -/
def LI (w : World) (go bs bn : Nat) (sv : Value) (N : Nat) (xs : List UInt8) (v : Value) (l : List UInt8) : List Asn :=
  [blk go (.cells #[v] 22), Row v l, blk bs (.cells #[sv] 22), blk bn (.cells #[.int .i64 N] 3)]
theorem LI_solid (w : World) (go bs bn : Nat) (sv : Value) (N : Nat) (xs : List UInt8) (v : Value) (l : List UInt8) : Solids (LI w go bs bn sv N xs v l) :=
  .cons (.blk _ _ _ _) (.cons (.row _ _) (.cons (.blk _ _ _ _) (.cons (.blk _ _ _ _) .nil)))
set_option maxRecDepth 100000 in
set_option maxHeartbeats 4000000 in
theorem frame_calls (vx : Value) (xs : List UInt8) (size : Int) (N : Nat) (hN : mx 1 (mn size 16384) = N) (hN2 : 1 ≤ N ∧ N ≤ 16384) (w : World) (hx : Reads w vx xs) (hl : xs.length ≤ 5000) :
    Calls Try.prog 17 #[vx, .int .i64 size] w fun e w' => ∃ v', e = .returned v' ∧ ∃ k, xs.length ≤ k * N ∧ (∀ j, j < k → j * N < xs.length) ∧ sat w w' (Row v' (framesK N xs k) :: []) := by
  obtain ⟨a, cap, rfl, hcap, hcap2⟩ := Reads.form hx
  obtain ⟨b, off, hab⟩ : ∃ b off, xs.length = 0 ∨ a = some ⟨b, off, none⟩ := by
    by_cases h0 : xs.length = 0
    · exact ⟨0, 0, .inl h0⟩
    · rcases hx.cases with ⟨_, h2⟩ | ⟨ad, cap', h3, h4, h5, h6⟩
      · rw [h2] at h0; exact absurd rfl h0
      · obtain ⟨b, off, rfl⟩ := cell_spot (h6 0 (by omega))
        injection h3 with e1 _ _
        exact ⟨b, off, .inr e1⟩
  have HXS := Lib.hid hx
  have HAB := Lib.hid hab
  clear hx hab
  refine (callsIn_wide (n := 9)).1 ?_
  refine callsIn_of_wp_marks Try.func17 rfl trivial ?_ rfl
  simp only [Try.ntmps17, List.size_toArray, List.length_cons, List.length_nil, Nat.reduceAdd, Nat.reduceSub, Array.replicate_succ, Array.replicate_zero, List.push_toArray, List.append_toArray, List.nil_append, List.cons_append]
  gi_wp2_with (refine ⟨trivial, ?_⟩; gi_at_call 20; refine (chunk_in Fence.wide _ trivial rfl _ _ _ N hN2 _).mono ?_; rintro e w' ⟨rfl, rfl⟩)
  have H1 : sat w (((w.alloc (.cells #[.slice none 0 0] 22)).alloc (.cells #[.slice a xs.length cap] 22)).alloc (.cells #[.int .i64 N] 3)) (LI w w.heap.size (w.heap.size + 1) (w.heap.size + 2) (.slice a xs.length cap) N xs (.slice none 0 0) []) := by
    have h := ((((sat_start w).alloc (.cells #[.slice none 0 0] 22)).alloc (.cells #[.slice a xs.length cap] 22)).alloc (.cells #[.int .i64 N] 3))
    simp only [World.size_alloc] at h
    exact (Row.nil h).re 4 [3, 0, 2, 1] [] rfl
  have hs1 : (((w.alloc (.cells #[.slice none 0 0] 22)).alloc (.cells #[.slice a xs.length cap] 22)).alloc (.cells #[.int .i64 N] 3)).heap.size = w.heap.size + 3 := by simp
  try simp only [World.size_alloc]
  obtain ⟨W0, hW0⟩ : ∃ W0, ((w.alloc (.cells #[.slice none 0 0] 22)).alloc (.cells #[.slice a xs.length cap] 22)).alloc (.cells #[.int .i64 N] 3) = W0 := ⟨_, rfl⟩
  rw [hW0] at H1 hs1 ⊢
  clear hW0
  have cs : W0.cell? ⟨w.heap.size + 1, 0, none⟩ = some (.slice a xs.length cap) := cellAt (H1.pick 2 rfl).get.1 0
  have cn : W0.cell? ⟨w.heap.size + 2, 0, none⟩ = some (.int .i64 N) := cellAt (H1.pick 3 rfl).get.1 0
  refine wpIn_rangeFunc_ownG (F := Fence.wide) rfl (by decide) (gf := 22) (lb := #[.pointer (some ⟨w.heap.size + 1, 0, none⟩), .pointer (some ⟨w.heap.size + 2, 0, none⟩)]) rfl trivial (enters_of Try.func22 (by kernel_rfl) rfl)
    (chunk_stops _ (by decide) (w.heap.size + 1) (w.heap.size + 2) b off xs.length cap N a hN2 (by omega) hcap hcap2 HAB.out W0 (by omega) (by omega) cs cn)
    (fun h1 h2 => ⟨h2.1.trans h1.1, h2.2.trans h1.2⟩) (fun W l o o' hl ho _ _ => ⟨World.putObj_heap_other (by omega), World.putObj_heap_other (by omega)⟩) (Below.refl _ _) (fun _ => rfl)
    (fun pre W => ∃ v, sat w W (LI w w.heap.size (w.heap.size + 1) (w.heap.size + 2) (.slice a xs.length cap) N xs v (framesP N xs pre)))
    (fun _ _ _ => False)
    (fun s A B row ⟨v, hs⟩ hg hr => ⟨v, hs.turned (LI_solid _ _ _ _ _ _ _ _ _) hg (fun r e => by obtain ⟨h1, h2⟩ := hr r e; exact ⟨by omega, h2⟩)⟩)
    (fun _ _ _ _ _ hs _ _ => hs)
    ⟨_, H1⟩
    (fun x => { tmps := #[.slice a xs.length cap, .int .i64 size, undef, undef, .slice none 0 0, .pointer (some ⟨w.heap.size, 0, none⟩), piece b off N xs.length x, .slice a xs.length cap, .int .i64 size, .int .i64 (mn size 16384), .int .i64 N, .func (.func 22) #[] #[.pointer (some ⟨w.heap.size + 1, 0, none⟩), .pointer (some ⟨w.heap.size + 2, 0, none⟩)], piece b off N xs.length x, undef, undef, undef, undef, undef, undef, undef, undef, undef, undef], defers := [] }) ?assign ?body ?done ?stop
  case assign =>
    intro l x W K hK
    gi_wp2
    exact hK
  case body =>
    rintro l pre x W ⟨v, hv⟩ hpl
    have ha : a = some ⟨b, off, none⟩ := by
      rcases HAB.out with h | h
      · exact absurd x.2 (by omega)
      · exact h
    have hrd := HXS.out
    rw [ha] at hrd
    have HRD := Lib.hid hrd
    have hll := framesP_len N hN2.2 xs pre
    obtain ⟨L, hL⟩ : ∃ L, L = framesP N xs pre := ⟨_, rfl⟩
    have hL2 : L.length ≤ 81945000 := by rw [hL]; omega
    rw [← hL] at hv hll
    obtain ⟨m, hm⟩ : ∃ m, m = chunk N xs x.1 := ⟨_, rfl⟩
    have hml : m.length ≤ 16384 := by rw [hm, chunk_len]; omega
    obtain ⟨L1, hL1⟩ : ∃ L1, L1 = L ++ [22, 3, 1] := ⟨_, rfl⟩
    obtain ⟨L2, hL2'⟩ : ∃ L2, L2 = L1 ++ be16 m.length ++ m := ⟨_, rfl⟩
    have HM := Lib.hid (show framesP N xs (pre ++ [x]) = L2 by rw [framesP_snoc, ← hL, ← hm, hL2', hL1]; simp [frame1])
    have HL1 := Lib.hid hL1
    have HL2 := Lib.hid hL2'
    have hL1l : L1.length ≤ 81945003 := by rw [hL1]; simp; omega
    have HPR := Lib.hid (show ∀ u, Below w.heap.size w u → Reads u (piece b off N xs.length x) m from fun u hu => by rw [hm]; exact piece_reads (HRD.out.below hu) x hcap hcap2)
    obtain ⟨av, cv, rfl, _, _⟩ := Row.form (hv.pick 1 rfl)
    have HV := Lib.hid hv
    have HR := Lib.hid (hv.rest (LI_solid _ _ _ _ _ _ _ _ _) (B := W0.heap.size) (by omega))
    have c5 : W.cell? ⟨w.heap.size, 0, none⟩ = some (.slice av L.length cv) := cellAt hv.get.1 0
    generalize hpc : piece b off N xs.length x = pc at *
    clear hv hrd hL hm hll ha hL1 hL2'
    gi_wp2_with (first
      | (gi_at_builtin
         go_must (refine wpListIn_append_bytes (l := L) (m := [22, 3, 1]) (v := .slice av L.length cv) (y := .slice (some ⟨W.heap.size, 0, none⟩) 3 3) rfl rfl Try.underlying22 info5 rfl rfl (show sat w (W.alloc (.cells ([22, 3, 1].map B8).toArray 5)) (Row (.slice av L.length cv) L :: blk w.heap.size (.cells #[.slice av L.length cv] 22) :: Idle W W0.heap.size :: blk (w.heap.size + 1) (.cells #[.slice a xs.length cap] 22) :: blk (w.heap.size + 2) (.cells #[.int .i64 N] 3) :: []) from (HR.out.alloc (.cells ([22, 3, 1].map B8).toArray 5)).re 6 [3, 2, 1, 4, 5] [0] rfl) (Rd.blk [22, 3, 1] (by decide) _ (HR.out.alloc _)) (by simp; omega) ?_)
         intro v1 w1 H1 hs2
         rw [← HL1.out] at H1
         obtain ⟨a1, k1, rfl, _, _⟩ := Row.form H1
         have c5 := cellAt (H1.pick 1 rfl).get.1 0
         have f5 := frozenAt (H1.pick 1 rfl).get.1 0
         simp at c5
         have HA := Lib.hid (show sat w w1 (blk w.heap.size (.cells #[.slice av L.length cv] 22) :: Row (.slice a1 L1.length k1) L1 :: Idle W W0.heap.size :: blk (w.heap.size + 1) (.cells #[.slice a xs.length cap] 22) :: blk (w.heap.size + 2) (.cells #[.int .i64 N] 3) :: []) from H1.swap)
         clear H1)
      | (refine ⟨trivial, ?_⟩
         gi_at_call 21
         go_must (
           have H2 := Lib.hid (show sat w _ (blk w.heap.size (.cells #[.slice a1 L1.length k1] 22) :: Row (.slice a1 L1.length k1) L1 :: Idle W W0.heap.size :: blk (w.heap.size + 1) (.cells #[.slice a xs.length cap] 22) :: blk (w.heap.size + 2) (.cells #[.int .i64 N] 3) :: []) from HA.out.store (i := 0) (.slice a1 L1.length k1))
           refine (CallsIn.inRound l (callsIn_wide.2 (vec_calls _ pc L1 m [] _ _ (sat_start _) (Rd.old (RowC.readsC H2.out.tail)) (Rd.old (HPR.out _ H2.out.below)) (by omega) (by omega)))).mono ?_
           rw [← HL2.out]
           rintro r w3 ⟨v3, rfl, H3⟩
           have H4 := Lib.hid (show sat w w3 (blk w.heap.size (.cells #[.slice a1 L1.length k1] 22) :: Row v3 (L2) :: Idle W W0.heap.size :: blk (w.heap.size + 1) (.cells #[.slice a xs.length cap] 22) :: blk (w.heap.size + 2) (.cells #[.int .i64 N] 3) :: []) from (H2.out.join H3).re 6 [1, 0, 3, 4, 5] [2] rfl)
           have hs3 := H3.size
           obtain ⟨a3, k3, rfl, _, _⟩ := Row.form H4.out.tail
           have c5 := cellAt H4.out.get.1 0
           have f5 := frozenAt H4.out.get.1 0
           simp at c5
           clear H3)))
    have H5 : sat w (w3.setCell ⟨w.heap.size, 0, none⟩ (.slice a3 L2.length k3)) (blk w.heap.size (.cells #[.slice a3 L2.length k3] 22) :: Row (.slice a3 L2.length k3) L2 :: Idle W W0.heap.size :: blk (w.heap.size + 1) (.cells #[.slice a xs.length cap] 22) :: blk (w.heap.size + 2) (.cells #[.int .i64 N] 3) :: []) := H4.out.store (i := 0) (.slice a3 L2.length k3)
    refine ⟨(H5.re 5 [2] [0, 1, 3, 4] rfl).keeps ?_, ⟨(H5.pick 3 rfl).get.1.trans (HV.out.pick 2 rfl).get.1.symm, (H5.pick 4 rfl).get.1.trans (HV.out.pick 3 rfl).get.1.symm⟩, .slice a3 L2.length k3, ?_⟩
    · simp at hs2 hs3 ⊢
      omega
    · rw [HM.out]
      exact H5.re 5 [0, 1, 3, 4] [2] rfl
  case done =>
    rintro D ys W hD ⟨k, hk, hys⟩ ⟨v, HS⟩ hK
    have c5 : W.cell? ⟨w.heap.size, 0, none⟩ = some v := cellAt HS.get.1 0
    gi_wp2
    refine ⟨by simp, .inl ⟨_, _, rfl, run_takeDeferred hK, ?_⟩⟩
    have H2 := HS.turned (LI_solid _ _ _ _ _ _ _ _ _) (grownBy_putObj' W D (.deferred none)) (fun r e => by cases e; exact ⟨by omega, _, hK, rfl⟩)
    refine ⟨_, results_tmp rfl _ _ _, _, rfl, k, hk, fun j hj => ?_, ?_⟩
    · have hm : j ∈ ys.map Subtype.val := by rw [hys]; exact List.mem_range.2 hj
      obtain ⟨x, _, rfl⟩ := List.mem_map.1 hm
      exact x.2
    · rw [framesP_eq hys] at H2
      exact H2.re 4 [1] [0, 2, 3] rfl
  case stop =>
    rintro D c pre W _ _ h _
    exact h.elim
end Go.Proofs.Ytaigboapaedcgaa
