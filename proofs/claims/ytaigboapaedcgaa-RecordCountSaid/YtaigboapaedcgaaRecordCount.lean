/- Layer 7, the law: how many records bytes are framed in, and how long they are. No condition. -/
import Derived.Test.YtaigboapaedcgaaRecLaw
namespace Go.Proofs.Ytaigboapaedcgaa
open Go Go.RowKit Hg
set_option linter.unusedVariables false
set_option linter.unusedSimpArgs false
attribute [local go_sem] Lib.run_eql_slice_nil run_min2 run_max2 run_min_two run_max_two bstr_size
theorem runD_next (l : List UInt8) (k : Nat) (h : k < l.length) : (l.take (k + 1)).foldl Df.take Df.new = ((l.take k).foldl Df.take Df.new).take (l.getD k 0) := by
  rw [List.take_succ_eq_append_getElem h, List.foldl_append]
  simp [List.getD, List.getElem?_eq_getElem h]
theorem runD_ok : ∀ (l : List UInt8) (d : Df), d.ok → (l.foldl Df.take d).ok
  | [], _, h => h
  | c :: l, d, h => runD_ok l _ (Df.ok_take h c)
theorem runD_c : ∀ (l : List UInt8) (d : Df), (l.foldl Df.take d).c ≤ d.c + l.length
  | [], d => by simp
  | c :: l, d => by
    have h1 := runD_c l (d.take c)
    have h2 := Df.take_c d c
    rw [List.foldl_cons, List.length_cons]
    omega
set_option maxHeartbeats 3200000 in
set_option maxRecDepth 100000 in
theorem lcount_calls (vx : Value) (size : Int) (w : World) {lx : List UInt8} (hx : Reads w vx lx) (h1 : lx.length ≤ 140737488351232) (hs : -9223372036854775808 ≤ size ∧ size ≤ 9223372036854775807) :
    Calls Try.prog 8 #[vx, .int .i64 size] w fun e w' => e = .returned (.bool true) ∧ Below w.heap.size w w' := by
  obtain ⟨ax, cx, rfl, _, _⟩ := Reads.form hx
  have HXX := Lib.hid hx
  clear hx
  have SH : ∀ (b1 b2 b3 : Bool), decide ((3000 : Int) < lx.length) = b1 → decide (size < 1) = b2 → decide (16384 < size) = b3 → (b1 || b2 || b3) = true → Calls Try.prog 8 #[.slice ax lx.length cx, .int .i64 size] w fun e w' => e = .returned (.bool true) ∧ Below w.heap.size w w' := by
    intro b1 b2 b3 e1 e2 e3 hor
    cases b1 <;> cases b2 <;> cases b3 <;> (try (exact absurd hor (by decide)))
    all_goals
      clear hor
      go_enter Try.func8, Try.ntmps8
      go_wp2_with (go_at_call 9; refine (small_calls [] w _ (sat_start w)).mono ?_; rintro e w1 ⟨rfl, H1⟩; have HS := Lib.hid H1; clear H1)
      go_ret
      exact ⟨rfl, HS.out.below⟩
  by_cases e1 : (3000 : Int) < lx.length
  · exact SH true _ _ (by simpa using e1) rfl rfl rfl
  by_cases e2 : size < 1
  · exact SH _ true _ rfl (by simpa using e2) rfl (by simp)
  by_cases e3 : 16384 < size
  · exact SH _ _ true rfl rfl (by simpa using e3) (by simp)
  clear SH
  obtain ⟨N, rfl⟩ : ∃ N : Nat, size = N := ⟨size.toNat, by omega⟩
  have hN : frN (N : Int) = N := by unfold frN; rw [mx_eq, mn_eq]; omega
  have d1 : decide ((3000 : Int) < lx.length) = false := by simpa using e1
  have d2 : decide ((N : Int) < 1) = false := by simpa using e2
  have d3 : decide (16384 < (N : Int)) = false := by simpa using e3
  obtain ⟨F, hF⟩ : ∃ F, F = frameL N lx := ⟨_, rfl⟩
  obtain ⟨n, hn⟩ : ∃ n, n = (lx.length + N - 1) / N := ⟨_, rfl⟩
  obtain ⟨r1, _, r3⟩ := frameL_run N lx
  rw [← hF, hN, nCh, ← hn] at r1 r3
  obtain ⟨FL, hFL⟩ : ∃ FL, FL = F.length := ⟨_, rfl⟩
  rw [← hFL] at r3
  have hn3 : n ≤ 3000 := by
    have h3 := (nCh_spec (len := lx.length) (N := N) (by omega)).2
    rw [nCh, ← hn] at h3
    rcases Nat.eq_zero_or_pos n with h0 | h0
    · omega
    · have h4 := h3 (n - 1) (by omega)
      have h5 : (n - 1) * 1 ≤ (n - 1) * N := Nat.mul_le_mul_left _ (by omega)
      omega
  have dq : ((lx.length : Int) + N - 1) / (N : Int) = (n : Int) := by
    rw [hn]
    have : ((lx.length : Int) + N - 1) = ((lx.length + N - 1 : Nat) : Int) := by omega
    rw [this]
    simp
  have dn0 : ((N : Int) == 0) = false := by simp; omega
  have d4 : ((FL : Int) != (lx.length : Int) + 5 * (n : Int)) = false := by simp; omega
  have hFl : FL ≤ 18000 := by omega
  have HFF := Lib.hid hF
  have HFL := Lib.hid hFL
  have HR1 := Lib.hid r1
  clear hF hn hFL r1 r3
  go_enter Try.func8, Try.ntmps8
  go_wp2_with (first
    | (go_at_call 9; refine (small_calls [] w _ (sat_start w)).mono ?_; rintro e w1 ⟨rfl, H1⟩; have HS := Lib.hid H1; clear H1)
    | (go_at_call 17; refine (framef_calls _ lx N _ w _ HS.out (Rd.old HXX.out) (by omega)).mono ?_; rw [← HFF.out]; rintro r w2 ⟨v2, rfl, H2⟩; obtain ⟨a2, c2, rfl, _, _⟩ := Row.form H2; rw [← HFL.out] at H2 ⊢; have HB := Lib.hid H2; clear H2 HS)
    | (go_at_call 10; refine (new_calls _ w _ HB.out).mono ?_; rintro r w3 ⟨g, rfl, H3⟩; have HC := Lib.hid (show sat w w3 (DS g Df.new :: Row (.slice a2 FL c2) F :: []) from H3); clear H3 HB))
  simp only [dq]
  go_loopw [9] (fun i wr => ∃ (k : Nat), k ≤ FL ∧ i = .int .i64 k ∧ sat w wr (DS g ((F.take k).foldl Df.take Df.new) :: Row (.slice a2 FL c2) F :: [])) (fun i _ => FL - (intOf i).toNat)
  case atStart => exact ⟨0, Nat.zero_le _, rfl, HC.out⟩
  case round =>
    obtain ⟨k, hk, rfl, HS⟩ := hrel
    clear HC
    by_cases hlt : k < FL
    · obtain ⟨g2, c0, hv, _, _, cc, _, _⟩ := Row.set (HS.pick 1 rfl) (j := k) (by rw [← HFL.out]; exact hlt) 0 rfl
      rw [← HFL.out] at hv
      injection hv with a1 _ a2
      subst a1 a2
      have hn := runD_next F k (by rw [← HFL.out]; exact hlt)
      obtain ⟨d, hd⟩ : ∃ d, d = (F.take k).foldl Df.take Df.new := ⟨_, rfl⟩
      obtain ⟨d2, hd2⟩ : ∃ d2, d2 = (F.take (k + 1)).foldl Df.take Df.new := ⟨_, rfl⟩
      have hdo : d.ok := by rw [hd]; exact runD_ok _ _ Df.ok_new
      have hdc : d.c ≤ 1000000 := by
        have h := runD_c (F.take k) Df.new
        have h0 : Df.new.c = 0 := rfl
        rw [← hd, List.length_take] at h
        omega
      rw [← hd, ← hd2] at hn
      rw [← hd] at HS
      generalize F.getD k 0 = x at cc hn
      have cc : wr.cell? ⟨g2, k, none⟩ = some (.int .u8 x.toNat) := cc
      have HB := Lib.hid HS
      have HN := Lib.hid hn
      have HD2 := Lib.hid hd2
      clear HS hn hd hd2
      go_wp2_with (go_at_call 11; refine (take_calls g d hdo hdc x _ w _ HB.out rfl).mono ?_; rw [← HN.out]; rintro u w7 ⟨rfl, H7⟩; have HC := Lib.hid H7; clear H7 HB)
      go_roundw
      case rel =>
        have hk1 : k + 1 ≤ FL := by omega
        have hi : Value.int .i64 ((k : Int) + 1) = Value.int .i64 ((k + 1 : Nat) : Int) := by go_num
        have hc := HC.out
        rw [HD2.out] at hc
        first
          | exact ⟨k + 1, hk1, hi, hc⟩
          | (repeat apply Exists.intro
             exact ⟨⟨k + 1, hk1, hi, hc⟩, rfl⟩)
      case measure => simp [intOf]; omega
    · obtain rfl : k = FL := by omega
      rw [List.take_of_length_le (by rw [← HFL.out]; exact Nat.le_refl _), HR1.out] at HS
      have HB := Lib.hid HS
      clear HS
      go_wp2_with (first
        | (go_at_call 13; refine (dcount_calls g (clean n) _ w _ HB.out).mono ?_; rw [show (clean n).c = n from rfl]; rintro u w7 ⟨rfl, rfl⟩; have HC := Lib.hid HB.out; clear HB)
        | (go_at_call 14; refine (dopen_calls g (clean n) _ w _ HC.out).mono ?_; rw [show (clean n).opened = false from rfl]; rintro u w7 ⟨rfl, rfl⟩; have HD := Lib.hid HC.out; clear HC))
      go_ret
      exact ⟨rfl, HD.out.below⟩
end Go.Proofs.Ytaigboapaedcgaa
