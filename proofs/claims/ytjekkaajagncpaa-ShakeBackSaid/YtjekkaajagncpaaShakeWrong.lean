/- ShakeWrong's walk. No condition. -/
import Derived.Test.YtjekkaajagncpaaShake7
namespace Go.Proofs.Ytjekkaajagncpaa
open Go Go.RowKit Hg
set_option linter.unusedVariables false
set_option linter.unusedSimpArgs false
attribute [local go_sem] Lib.run_eql_slice_nil run_min2 run_max2 run_min_two run_max_two bstr_size
theorem take_bad {m : Msg} (h : m.e ≠ 0) (c : UInt8) : m.take c = m := by unfold Msg.take; rw [if_pos h]
theorem take_head {h s : Nat} (c : UInt8) (hh : h < 4) : Msg.take ⟨h, s, 0, []⟩ c = ⟨h + 1, firstS h s c.toNat, firstE h s c.toNat, []⟩ := by
  unfold Msg.take
  rw [if_neg (by simp), if_neg (by simp [Msg.whole, wholeB]; omega), if_pos hh]
theorem byte_of (a : Int) (h : 0 ≤ a ∧ a ≤ 255) : ∃ A : UInt8, a = A.toNat := ⟨UInt8.ofNat a.toNat, by rw [UInt8.toNat_ofNat']; omega⟩
set_option maxHeartbeats 1600000 in
set_option maxRecDepth 100000 in
theorem wrong_walk (a b c d : UInt8) (w : World) (M1 M2 M3 M4 M5 : Msg) (h1 : M1 = Msg.new.take a) (h2 : M2 = M1.take b) (h3 : M3 = M2.take c) (h4 : M4 = M3.take d) (h5 : M5 = M4.take 1)
    (x1 x2 x3 x4 x5 : Int) (e1 : M1.e = x1) (e2 : M2.e = x2) (e3 : M3.e = x3) (e4 : M4.e = x4) (e5 : M5.e = x5) (t1 t2 t3 t4 : Bool) (g1 : ((a.toNat : Int) != 1) = t1) (g2 : decide ((16384 : Int) < b.toNat * 65536 + c.toNat * 256 + d.toNat) = t2) (g3 : decide ((0 : Int) < b.toNat) = t3) (g4 : decide ((64 : Int) < c.toNat) = t4) (g3' : decide (0 < b.toNat) = t3) (g4' : decide (64 < c.toNat) = t4)
    (hc : (t1, t2, t3, t4, x1, x2, x3, x4, x5) ∈ [(true, t2, t3, t4, 4, 4, 4, 4, 4), (false, true, true, t4, 0, 6, 6, 6, 6), (false, true, false, true, 0, 0, 6, 6, 6), (false, true, false, false, 0, 0, 0, 6, 6), (false, false, t3, t4, 0, 0, 0, 0, 0)]) :
    Calls Try.prog 7 #[.int .u8 a.toNat, .int .u8 b.toNat, .int .u8 c.toNat, .int .u8 d.toNat] w fun e w' => e = .returned (.bool true) ∧ Below w.heap.size w w' := by
  have o0 := Msg.ok_new
  have o1 : M1.ok := by rw [h1]; exact Msg.ok_take o0 a
  have o2 : M2.ok := by rw [h2]; exact Msg.ok_take o1 b
  have o3 : M3.ok := by rw [h3]; exact Msg.ok_take o2 c
  have o4 : M4.ok := by rw [h4]; exact Msg.ok_take o3 d
  have hab : a.toNat ≤ 255 ∧ b.toNat ≤ 255 ∧ c.toNat ≤ 255 ∧ d.toNat ≤ 255 := ⟨by have := a.toNat_lt; omega, by have := b.toNat_lt; omega, by have := c.toNat_lt; omega, by have := d.toNat_lt; omega⟩
  have HM := Lib.hid (And.intro h1 (And.intro h2 (And.intro h3 (And.intro h4 h5))))
  clear h1 h2 h3 h4 h5
  simp only [List.mem_cons, Prod.mk.injEq, List.not_mem_nil, or_false] at hc
  rcases hc with hc | hc | hc | hc | hc <;> obtain ⟨z1, z2, z3, z4, z5, z6, z7, z8, z9⟩ := hc <;> subst z1 <;> (try subst z2) <;> (try subst z3) <;> (try subst z4) <;> subst z5 <;> subst z6 <;> subst z7 <;> subst z8 <;> subst z9
  all_goals
    (try simp only [decide_eq_true_eq, decide_eq_false_iff_not] at g3')
    (try simp only [decide_eq_true_eq, decide_eq_false_iff_not] at g4')
    go_enter Try.func7, Try.ntmps7
    go_wp2_with (first | (go_at_call 9; refine (small_calls [] w _ (sat_start w)).mono ?_; rintro e w1 ⟨rfl, H1⟩; have HS := Lib.hid H1; clear H1) | (go_at_call 10; refine (new_calls [] w _ HS.out).mono ?_; rintro r w2 ⟨g, rfl, H2⟩; have HA := Lib.hid (show sat w w2 (MS g (.slice none 0 0) Msg.new :: Row (.slice none 0 0) Msg.new.l :: []) from H2); clear H2 HS) | (go_at_call 11; refine (mtake_calls g _ Msg.new o0 _ w _ HA.out a rfl).mono ?_; rw [← HM.out.1, e1]; rintro r w3 ⟨v3, rfl, H3⟩; have HB := Lib.hid H3; clear H3 HA) | (go_at_call 11; refine (mtake_calls g _ M1 o1 _ w _ HB.out b rfl).mono ?_; rw [← HM.out.2.1, e2]; rintro r w4 ⟨v4, rfl, H4⟩; have HC := Lib.hid H4; clear H4 HB) | (go_at_call 11; refine (mtake_calls g _ M2 o2 _ w _ HC.out c rfl).mono ?_; rw [← HM.out.2.2.1, e3]; rintro r w5 ⟨v5, rfl, H5⟩; have HD := Lib.hid H5; clear H5 HC) | (go_at_call 11; refine (mtake_calls g _ M3 o3 _ w _ HD.out d rfl).mono ?_; rw [← HM.out.2.2.2.1, e4]; rintro r w6 ⟨v6, rfl, H6⟩; have HE := Lib.hid H6; clear H6 HD) | (go_at_call 11; refine (mtake_calls g _ M4 o4 _ w _ HE.out 1 rfl).mono ?_; rw [← HM.out.2.2.2.2, e5]; rintro r w7 ⟨v7, rfl, H7⟩; have HF := Lib.hid H7; clear H7 HE))
    go_ret
    exact ⟨rfl, HF.out.below⟩
theorem wrong_calls (a b c d : Int) (w : World) (ha : 0 ≤ a ∧ a ≤ 255) (hb : 0 ≤ b ∧ b ≤ 255) (hc : 0 ≤ c ∧ c ≤ 255) (hd : 0 ≤ d ∧ d ≤ 255) :
    Calls Try.prog 7 #[.int .u8 a, .int .u8 b, .int .u8 c, .int .u8 d] w fun e w' => e = .returned (.bool true) ∧ Below w.heap.size w w' := by
  obtain ⟨a, rfl⟩ := byte_of a ha
  obtain ⟨b, rfl⟩ := byte_of b hb
  obtain ⟨c, rfl⟩ := byte_of c hc
  obtain ⟨d, rfl⟩ := byte_of d hd
  have m1 : Msg.new.take a = ⟨1, 0, firstE 0 0 a.toNat, []⟩ := take_head (h := 0) (s := 0) a (by decide)
  by_cases h1 : a.toNat = 1
  · rw [show firstE 0 0 a.toNat = 0 by simp [firstE, h1]] at m1
    have m2 : (Msg.new.take a).take b = ⟨2, b.toNat, firstE 1 0 b.toNat, []⟩ := by rw [m1, take_head b (by decide)]; simp [firstS]
    by_cases h2 : 0 < b.toNat
    · have e2 : firstE 1 0 b.toNat = 6 := by unfold firstE; rw [if_neg (by decide), if_pos (by show 16384 < (0 * 256 + b.toNat) * 65536; omega)]
      rw [e2] at m2
      have m3 : ((Msg.new.take a).take b).take c = ⟨2, b.toNat, 6, []⟩ := by rw [m2, take_bad (by simp)]
      have m4 : (((Msg.new.take a).take b).take c).take d = ⟨2, b.toNat, 6, []⟩ := by rw [m3, take_bad (by simp)]
      refine wrong_walk a b c d w _ _ _ _ _ rfl rfl rfl rfl rfl 0 6 6 6 6 (by rw [m1]) (by rw [m2]) (by rw [m3]) (by rw [m4]) (by rw [m4, take_bad (by simp)]) false true true _ (by simp [h1]) (by simp; omega) (by simp; omega) rfl (by simp; omega) (by rw [decide_eq_decide]; omega) (by simp)
    · have h2' : b.toNat = 0 := by omega
      have e2 : firstE 1 0 b.toNat = 0 := by rw [h2']; rfl
      rw [e2, h2'] at m2
      have m3 : ((Msg.new.take a).take b).take c = ⟨3, c.toNat, firstE 2 0 c.toNat, []⟩ := by rw [m2, take_head c (by decide)]; simp [firstS]
      by_cases h3 : 64 < c.toNat
      · have e3 : firstE 2 0 c.toNat = 6 := by unfold firstE; rw [if_neg (by decide), if_pos (by show 16384 < (0 * 256 + c.toNat) * 256; omega)]
        rw [e3] at m3
        have m4 : (((Msg.new.take a).take b).take c).take d = ⟨3, c.toNat, 6, []⟩ := by rw [m3, take_bad (by simp)]
        refine wrong_walk a b c d w _ _ _ _ _ rfl rfl rfl rfl rfl 0 0 6 6 6 (by rw [m1]) (by rw [m2]) (by rw [m3]) (by rw [m4]) (by rw [m4, take_bad (by simp)]) false true false true (by simp [h1]) (by simp; omega) (by simp; omega) (by simp; omega) (by simp; omega) (by simp; omega) (by simp)
      · have e3 : firstE 2 0 c.toNat = 0 := by unfold firstE; rw [if_neg (by decide), if_neg (by show ¬ 16384 < (0 * 256 + c.toNat) * 256; omega)]
        rw [e3] at m3
        have m4 : (((Msg.new.take a).take b).take c).take d = ⟨4, c.toNat * 256 + d.toNat, firstE 3 c.toNat d.toNat, []⟩ := by rw [m3, take_head d (by decide)]; simp [firstS]
        by_cases h4 : 16384 < c.toNat * 256 + d.toNat
        · have e4 : firstE 3 c.toNat d.toNat = 6 := by unfold firstE; rw [if_neg (by decide), if_pos (by show 16384 < (c.toNat * 256 + d.toNat) * 1; omega)]
          rw [e4] at m4
          refine wrong_walk a b c d w _ _ _ _ _ rfl rfl rfl rfl rfl 0 0 0 6 6 (by rw [m1]) (by rw [m2]) (by rw [m3]) (by rw [m4]) (by rw [m4, take_bad (by simp)]) false true false false (by simp [h1]) (by simp; omega) (by simp; omega) (by simp; omega) (by simp; omega) (by simp; omega) (by simp)
        · have e4 : firstE 3 c.toNat d.toNat = 0 := by unfold firstE; rw [if_neg (by decide), if_neg (by show ¬ 16384 < (c.toNat * 256 + d.toNat) * 1; omega)]
          rw [e4] at m4
          have e5 : ((((Msg.new.take a).take b).take c).take d |>.take 1).e = 0 := by
            rw [m4]
            unfold Msg.take
            rw [if_neg (by simp)]
            split
            · rfl
            · rw [if_neg (by simp)]
          refine wrong_walk a b c d w _ _ _ _ _ rfl rfl rfl rfl rfl 0 0 0 0 0 (by rw [m1]) (by rw [m2]) (by rw [m3]) (by rw [m4]) e5 false false false false (by simp [h1]) (by simp; omega) (by simp; omega) (by simp; omega) (by simp; omega) (by simp; omega) (by simp)
  · rw [show firstE 0 0 a.toNat = 4 by simp [firstE, h1]] at m1
    have mm : ∀ x : UInt8, Msg.take ⟨1, 0, 4, []⟩ x = ⟨1, 0, 4, []⟩ := fun x => take_bad (by simp) x
    refine wrong_walk a b c d w _ _ _ _ _ rfl rfl rfl rfl rfl 4 4 4 4 4 (by rw [m1]) (by rw [m1, mm]) (by rw [m1, mm, mm]) (by rw [m1, mm, mm, mm]) (by rw [m1, mm, mm, mm, mm]) true _ _ _ (by simp; omega) rfl rfl rfl (by rw [decide_eq_decide]; omega) (by rw [decide_eq_decide]; omega) (by simp)
end Go.Proofs.Ytjekkaajagncpaa
