/- Layer 8: Take, Want, Body over a message told plainly. No condition. -/
import Derived.Test.YtjekkaajagncpaaShake3
namespace Go.Proofs.Ytjekkaajagncpaa
open Go Go.RowKit Hg
set_option linter.unusedVariables false
set_option linter.unusedSimpArgs false
attribute [local go_sem] Lib.run_eql_slice_nil run_min2 run_max2 run_min_two run_max_two
set_option maxHeartbeats 800000 in
theorem take_calls (g : Nat) (v : Value) (m : Msg) (hm : m.ok) (c : UInt8) (R : List Asn) (w0 w : World) (H : sat w0 w (MB g v m.h m.s m.e :: Row v m.l :: R)) :
    Calls Try.prog 11 #[.pointer (some ⟨g, 0, none⟩), .int .u8 c.toNat] w fun r w' => ∃ v' : Value, r = .returned (.tuple #[.bool (m.take c).whole, .int .i64 (m.take c).e]) ∧ sat w0 w' (MB g v' (m.take c).h (m.take c).s (m.take c).e :: Row v' (m.take c).l :: R) := by
  obtain ⟨h1, h2, h3, h4, h5, h6, h7⟩ := hm
  have hx : c.toNat ≤ 255 := by have := c.toNat_lt; omega
  obtain ⟨x, hcx⟩ : ∃ x, c.toNat = x := ⟨_, rfl⟩
  obtain ⟨h, s, e, l⟩ := m
  simp only at h1 h2 h3 h4 h5 h6 h7 H
  have HH := Lib.hid H
  have c0 := cellAt H.get.1 0
  have c3 := cellAt H.get.1 3
  simp at c0 c3
  obtain ⟨M, hM⟩ : ∃ M, M = Msg.take ⟨h, s, e, l⟩ c := ⟨_, rfl⟩
  rw [← hM]
  have HM := Lib.hid hM
  clear H hM
  by_cases he : e ≠ 0
  · have d1 : (e != 0) = true := by simpa using he
    have HT := Lib.hid (show M = ⟨h, s, e, l⟩ by rw [HM.out, Msg.take, if_pos he])
    have HW := Lib.hid (show wholeB h s e l.length = false by simp [wholeB, he])
    clear HM h3 h5 h6 h7
    rw [hcx]
    go_enter Try.func11, Try.ntmps11
    go_wp2
    go_quiet (fail)
    go_wp2
    go_ret2
    exact ⟨v, by rw [HT.out]; show _ = Ending.returned (.tuple #[.bool (wholeB h s e l.length), _]); rw [HW.out]; rfl, by rw [HT.out]; exact HH.out.drewN _⟩
  obtain rfl : e = 0 := by simpa using he
  cases hw : wholeB h s 0 l.length with
  | true =>
    have HT := Lib.hid (show M = ⟨h, s, 0, l⟩ by rw [HM.out, Msg.take, if_neg (by simp), if_pos (show Msg.whole ⟨h, s, 0, l⟩ = true from hw)])
    have HW := Lib.hid hw
    clear HM h3 h5 h6 h7
    rw [hcx]
    obtain ⟨a8, c8, hv8, _, _⟩ := Row.form HH.out.tail
    subst hv8
    go_enter Try.func11, Try.ntmps11
    go_wp2_with (go_at_call 19; refine (whole_calls g a8 _ c8 _ _ _ _ HH.out.get.1).mono ?_; rintro r w1 ⟨rfl, m1, rfl⟩)
    go_ret2
    exact ⟨_, by rw [HT.out]; show _ = Ending.returned (.tuple #[.bool (wholeB h s 0 l.length), _]); rw [HW.out]; rfl, by rw [HT.out]; exact HH.out.drewN _⟩
  | false =>
  have hnw : ¬ Msg.whole ⟨h, s, 0, l⟩ = true := by simp [Msg.whole, hw]
  have HW := Lib.hid hw
  obtain ⟨a8, c8, hv8, _, _⟩ := Row.form HH.out.tail
  subst hv8
  by_cases hh : h < 4
  · obtain ⟨E, hE⟩ : ∃ E, E = firstE h s x := ⟨_, rfl⟩
    obtain ⟨S, hS⟩ : ∃ S, S = firstS h s x := ⟨_, rfl⟩
    have HT := Lib.hid (show M = ⟨h + 1, S, E, l⟩ by rw [HM.out, Msg.take, if_neg (by simp), if_neg hnw, if_pos hh, hE, hS, hcx])
    have HC := Lib.hid (And.intro hE hS)
    have hs16 : s ≤ 16384 := by first | exact h3 trivial | exact h3 rfl | simpa using h3
    have d1 : decide ((h : Int) < 4) = true := by simp; omega
    rw [hcx] at hx ⊢
    clear HM h3 h5 h6 h7 hE hS hnw
    go_enter Try.func11, Try.ntmps11
    go_wp2_with (first | (go_at_call 19; refine (whole_calls g a8 _ c8 _ _ _ _ HH.out.get.1).mono ?_; rintro r w1 ⟨rfl, m1, rfl⟩; have HX := Lib.hid (HH.out.drewN m1); have c0 := cellAt HX.out.get.1 0; simp at c0) | (go_at_call 20; refine (first_calls g _ h s 0 x _ w0 _ HX.out hh (by omega) hx).mono ?_; rw [← HC.out.1, ← HC.out.2]; rintro r w2 ⟨rfl, H2⟩; have c3 := cellAt H2.get.1 3; have f3 := frozenAt H2.get.1 3; simp at c3; have HY := Lib.hid H2; clear H2))
    obtain ⟨k, hk⟩ : ∃ k, k = h + 1 := ⟨_, rfl⟩
    have HZ := Lib.hid (show sat w0 _ (MB g (.slice a8 l.length c8) k S E :: Row (.slice a8 l.length c8) l :: R) by rw [hk]; exact HY.out.store (i := 3) (.int .i64 E))
    have HK := Lib.hid hk
    clear HY HX c0 c3 f3 d1 hk
    have k0 : ∀ x : SW w0 (MB g (.slice a8 l.length c8) k S E :: []), x.w.cell? ⟨g, 0, none⟩ = some (.int .i64 k) := fun x => cellAt x.h.get.1 0
    have k3 : ∀ x : SW w0 (MB g (.slice a8 l.length c8) k S E :: []), x.w.cell? ⟨g, 3, none⟩ = some (.int .i64 E) := fun x => cellAt x.h.get.1 3
    have hnon : Nonempty (SW w0 (MB g (.slice a8 l.length c8) k S E :: [])) := ⟨⟨_, HZ.out.head⟩⟩
    refine wp_region_mix (fun u => ∃ x : SW w0 (MB g (.slice a8 l.length c8) k S E :: []), u = x.w) [0, 2, 3, 4, 5, 1, 6, 7] [2, 3, 4, 5] (by kernel_rfl) (by kernel_rfl) ⟨⟨_, HZ.out.drew.head⟩, rfl⟩ ?_
    repeat (first | ((first | refine mix_a rfl (by decide +kernel) rfl (fun K hK => ?_) | refine mix_q rfl (by decide +kernel) rfl (fun K hK => ?_)); go_big_quiet_op; refine hK _ ?_; clear hK K) | (refine mix_s rfl rfl (by decide +kernel) ?_; simp only [Act.put, List.setIfInBounds_toArray, List.set_cons_zero, List.set_cons_succ]))
    refine mix_lC rfl rfl rfl (fun K hK => ?_)
    refine op_call rfl Try.func19 (by kernel_rfl) (by kernel_rfl) (whole_calls g a8 _ c8 _ _ _ _ HZ.out.drew.get.1) rfl ?_
    rintro r w8 ⟨rfl, m8, rfl⟩
    refine ⟨_, rfl, hK _ _ ⟨⟨_, (HZ.out.drew.drewN m8).head⟩, rfl⟩ ?_⟩
    clear hK K
    simp only [Act.put, List.setIfInBounds_toArray, List.set_cons_zero, List.set_cons_succ]
    repeat (first | ((first | refine mix_a rfl (by decide +kernel) rfl (fun K hK => ?_) | refine mix_q rfl (by decide +kernel) rfl (fun K hK => ?_)); go_big_quiet_op; refine hK _ ?_; clear hK K) | (refine mix_s rfl rfl (by decide +kernel) ?_; simp only [Act.put, List.setIfInBounds_toArray, List.set_cons_zero, List.set_cons_succ]))
    refine mix_nil ?_
    go_wp2
    go_ret2
    exact ⟨_, by rw [HT.out, ← HK.out]; rfl, by rw [HT.out, ← HK.out]; exact HZ.out.drew.drewN m8⟩
  · obtain rfl : h = 4 := by omega
    obtain ⟨l2, hl2⟩ : ∃ l2, l2 = l ++ [c] := ⟨_, rfl⟩
    have HT := Lib.hid (show M = ⟨4, s, 0, l2⟩ by rw [HM.out, Msg.take, if_neg (by simp), if_neg hnw, if_neg hh, hl2])
    have HL := Lib.hid hl2
    clear hl2
    clear HM h3 h5 h6 h7 hnw hcx
    have h4' : l.length ≤ 16384 := h4
    have hw4 : wholeB 4 s 0 l.length = false := hw
    have c2 := cellAt HH.out.get.1 2
    have f2 := frozenAt HH.out.get.1 2
    simp at c2
    go_enter Try.func11, Try.ntmps11
    go_wp2_with (first | (go_at_call 19; refine (whole_calls g a8 _ c8 _ _ _ _ HH.out.get.1).mono ?_; rintro r w1 ⟨rfl, m1, rfl⟩; have HX := Lib.hid (HH.out.drewN m1); have c0 := cellAt HX.out.get.1 0; have c2 := cellAt HX.out.get.1 2; simp at c0 c2) | (refine BigFrame.wpList_want (by rfl) fun K' hK' => ?_; refine op_append_bytes (l := l) (m := [c]) (v := .slice a8 l.length c8) (y := .slice (some ⟨w.heap.size, 0, none⟩) 1 1) (by rfl) Try.underlying22 info5 (by rfl) (by rfl) (show sat w0 ((w.drewN m1).alloc (.cells #[.int .u8 c.toNat] 5)) (Row (.slice a8 l.length c8) l :: blk w.heap.size (.cells ([c].map B8).toArray 5) :: MB g (.slice a8 l.length c8) 4 s 0 :: R) from (HX.out.alloc _).re 3 [2, 0, 1] [] rfl) (Rd.blk (R := MB g (.slice a8 l.length c8) 4 s 0 :: Row (.slice a8 l.length c8) l :: R) [c] (show (1 : Nat) ≤ maxLen by decide) _ (HX.out.alloc _)) (by simp; omega) ?_; intro v5 w5 H5 _; rw [← HL.out] at H5; obtain ⟨a5, c5, rfl, _, _⟩ := Row.form H5; refine hK' _ _ ?_; clear hK' K'; have c2 := cellAt H5.tail.tail.get.1 2; have f2 := frozenAt H5.tail.tail.get.1 2; simp at c2; have HY := Lib.hid (show sat w0 w5 (MB g (.slice a8 l.length c8) 4 s 0 :: Row (.slice a5 l2.length c5) l2 :: R) from H5.re 3 [2, 0] [1] rfl); clear H5))
    have HZ := Lib.hid (show sat w0 _ (MB g (.slice a5 l2.length c5) 4 s 0 :: Row (.slice a5 l2.length c5) l2 :: R) from HY.out.store (i := 2) (.slice a5 l2.length c5))
    clear HY HX c0 c3 f2 c2
    have k0 : ∀ x : SW w0 (MB g (.slice a5 l2.length c5) 4 s 0 :: []), x.w.cell? ⟨g, 0, none⟩ = some (.int .i64 4) := fun x => cellAt x.h.get.1 0
    have k3 : ∀ x : SW w0 (MB g (.slice a5 l2.length c5) 4 s 0 :: []), x.w.cell? ⟨g, 3, none⟩ = some (.int .i64 0) := fun x => cellAt x.h.get.1 3
    have hnon : Nonempty (SW w0 (MB g (.slice a5 l2.length c5) 4 s 0 :: [])) := ⟨⟨_, HZ.out.head⟩⟩
    refine wp_region_mix (fun u => ∃ x : SW w0 (MB g (.slice a5 l2.length c5) 4 s 0 :: []), u = x.w) [0, 2, 3, 4, 5, 1, 6, 7] [2, 3, 4, 5] (by kernel_rfl) (by kernel_rfl) ⟨⟨_, HZ.out.drew.head⟩, rfl⟩ ?_
    repeat (first | ((first | refine mix_a rfl (by decide +kernel) rfl (fun K hK => ?_) | refine mix_q rfl (by decide +kernel) rfl (fun K hK => ?_)); go_big_quiet_op; refine hK _ ?_; clear hK K) | (refine mix_s rfl rfl (by decide +kernel) ?_; simp only [Act.put, List.setIfInBounds_toArray, List.set_cons_zero, List.set_cons_succ]))
    refine mix_lC rfl rfl rfl (fun K hK => ?_)
    refine op_call rfl Try.func19 (by kernel_rfl) (by kernel_rfl) (whole_calls g a5 _ c5 _ _ _ _ HZ.out.drew.get.1) rfl ?_
    rintro r w8 ⟨rfl, m8, rfl⟩
    refine ⟨_, rfl, hK _ _ ⟨⟨_, (HZ.out.drew.drewN m8).head⟩, rfl⟩ ?_⟩
    clear hK K
    simp only [Act.put, List.setIfInBounds_toArray, List.set_cons_zero, List.set_cons_succ]
    repeat (first | ((first | refine mix_a rfl (by decide +kernel) rfl (fun K hK => ?_) | refine mix_q rfl (by decide +kernel) rfl (fun K hK => ?_)); go_big_quiet_op; refine hK _ ?_; clear hK K) | (refine mix_s rfl rfl (by decide +kernel) ?_; simp only [Act.put, List.setIfInBounds_toArray, List.set_cons_zero, List.set_cons_succ]))
    refine mix_nil ?_
    go_wp2
    go_ret2
    exact ⟨_, by rw [HT.out]; rfl, by rw [HT.out]; exact HZ.out.drew.drewN m8⟩
end Go.Proofs.Ytjekkaajagncpaa
