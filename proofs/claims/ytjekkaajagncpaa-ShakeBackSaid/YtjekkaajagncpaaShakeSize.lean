/- ShakeSize's walk. No condition. -/
import Derived.Test.YtjekkaajagncpaaShakeWrong
namespace Go.Proofs.Ytjekkaajagncpaa
open Go Go.RowKit Hg
set_option linter.unusedVariables false
set_option linter.unusedSimpArgs false
attribute [local go_sem] Lib.run_eql_slice_nil run_min2 run_max2 run_min_two run_max_two bstr_size
def msgN (n k : Nat) (c : UInt8) : Msg := ⟨4, n, 0, List.replicate k c⟩
theorem msgN_take (n k : Nat) (c : UInt8) (h : k < n) : (msgN n k c).take c = msgN n (k + 1) c := by
  unfold msgN Msg.take
  rw [if_neg (by simp), if_neg (by simp [Msg.whole, wholeB]; omega), if_neg (by simp)]
  simp [List.replicate_succ']
theorem msgN_whole (n k : Nat) (c : UInt8) : (msgN n k c).whole = decide (k = n) := by
  simp [msgN, Msg.whole, wholeB]
  omega
theorem msgN_want (n k : Nat) (c : UInt8) : (msgN n k c).want = (n : Int) - k := by
  simp [msgN, Msg.want, wantI]
theorem msgN_ok (n k : Nat) (c : UInt8) (h : k ≤ n) (hn : n ≤ 3000) : (msgN n k c).ok := by
  refine ⟨by simp [msgN], by simp [msgN]; omega, fun _ => by simp [msgN]; omega, by simp [msgN]; omega, fun _ h => absurd h (by simp [msgN]), fun _ _ => by simp [msgN]; omega, .inl rfl⟩
theorem msgN_body (n : Nat) (c : UInt8) : (msgN n n c).body.length = n := by
  simp [msgN, Msg.body, bodyL, wholeB]
set_option maxHeartbeats 1600000 in
set_option maxRecDepth 100000 in
theorem size_calls (n c : Int) (w : World) (hn : -9223372036854775808 ≤ n ∧ n ≤ 9223372036854775807) (hc : 0 ≤ c ∧ c ≤ 255) :
    Calls Try.prog 8 #[.int .i64 n, .int .u8 c] w fun e w' => e = .returned (.bool true) ∧ Below w.heap.size w w' := by
  obtain ⟨c, rfl⟩ := byte_of c hc
  clear hc
  by_cases h0 : n < 0
  · have d1 : decide (n < 0) = true := by simpa using h0
    go_enter Try.func8, Try.ntmps8
    go_wp2_with (go_at_call 9; refine (small_calls [] w _ (sat_start w)).mono ?_; rintro e w1 ⟨rfl, H1⟩; have HS := Lib.hid H1; clear H1)
    go_ret
    exact ⟨rfl, HS.out.below⟩
  by_cases h3 : 3000 < n
  · have d1 : decide (n < 0) = false := by simpa using h0
    have d2 : decide (3000 < n) = true := by simpa using h3
    go_enter Try.func8, Try.ntmps8
    go_wp2_with (go_at_call 9; refine (small_calls [] w _ (sat_start w)).mono ?_; rintro e w1 ⟨rfl, H1⟩; have HS := Lib.hid H1; clear H1)
    go_ret
    exact ⟨rfl, HS.out.below⟩
  obtain ⟨n, rfl⟩ : ∃ N : Nat, n = N := ⟨n.toNat, by omega⟩
  have hn3 : n ≤ 3000 := by omega
  have hnI : (n : Int) ≤ 3000 := by omega
  have d1 : decide ((n : Int) < 0) = false := by simp
  have d2 : decide ((3000 : Int) < n) = false := by simp; omega
  clear h0 h3 hn
  obtain ⟨x, hx⟩ : ∃ x, x = UInt8.ofNat (n / 256) := ⟨_, rfl⟩
  obtain ⟨y, hy⟩ : ∃ y, y = UInt8.ofNat (n % 256) := ⟨_, rfl⟩
  have ex : (n : Int) / 256 = x.toNat := by rw [hx, UInt8.toNat_ofNat']; omega
  have ey : (n : Int) % 256 = y.toNat := by rw [hy, UInt8.toNat_ofNat']; omega
  have hx2 : x.toNat = n / 256 := by omega
  have hy2 : y.toNat = n % 256 := by omega
  have p1 : Msg.new.take 1 = ⟨1, 0, 0, []⟩ := (take_head (h := 0) (s := 0) 1 (by decide)).trans (by simp [firstS, firstE])
  have p2 : Msg.take ⟨1, 0, 0, []⟩ 0 = ⟨2, 0, 0, []⟩ := (take_head (h := 1) (s := 0) 0 (by decide)).trans (by simp [firstS, firstE])
  have p3 : Msg.take ⟨2, 0, 0, []⟩ x = ⟨3, x.toNat, 0, []⟩ := by
    rw [take_head x (by decide), show firstE 2 0 x.toNat = 0 by unfold firstE; rw [if_neg (by decide), if_neg (by show ¬ 16384 < (0 * 256 + x.toNat) * 256; omega)]]
    simp [firstS]
  have p4 : Msg.take ⟨3, x.toNat, 0, []⟩ y = msgN n 0 c := by
    rw [take_head y (by decide), show firstE 3 x.toNat y.toNat = 0 by unfold firstE; rw [if_neg (by decide), if_neg (by show ¬ 16384 < (x.toNat * 256 + y.toNat) * 1; omega)]]
    simp only [firstS, msgN, List.replicate_zero]
    rw [if_neg (by decide), show x.toNat * 256 + y.toNat = n by omega]
  obtain ⟨M1, hM1⟩ : ∃ M1, M1 = Msg.new.take 1 := ⟨_, rfl⟩
  obtain ⟨M2, hM2⟩ : ∃ M2, M2 = M1.take 0 := ⟨_, rfl⟩
  obtain ⟨M3, hM3⟩ : ∃ M3, M3 = M2.take x := ⟨_, rfl⟩
  have o1 : M1.ok := by rw [hM1]; exact Msg.ok_take Msg.ok_new 1
  have o2 : M2.ok := by rw [hM2]; exact Msg.ok_take o1 0
  have o3 : M3.ok := by rw [hM3]; exact Msg.ok_take o2 x
  have h4 : M3.take y = msgN n 0 c := by rw [hM3, hM2, hM1, p1, p2, p3, p4]
  have HM := Lib.hid (And.intro hM1 (And.intro hM2 (And.intro hM3 h4)))
  have hN0 : Hid ((msgN n 0 c).e = 0 ∧ ((msgN n 0 c).whole = decide (0 = n))) := Lib.hid ⟨rfl, msgN_whole n 0 c⟩
  clear p1 p2 p3 p4 hM1 hM2 hM3 h4 hx hy hx2 hy2
  go_enter Try.func8, Try.ntmps8
  go_wp2_with (first | (go_at_call 9; refine (small_calls [] w _ (sat_start w)).mono ?_; rintro e w1 ⟨rfl, H1⟩; have HS := Lib.hid H1; clear H1) | (go_at_call 10; refine (new_calls [] w _ HS.out).mono ?_; rintro r w2 ⟨g, rfl, H2⟩; have HA := Lib.hid (show sat w w2 (MS g (.slice none 0 0) Msg.new :: Row (.slice none 0 0) Msg.new.l :: []) from H2); clear H2 HS) | (go_at_call 11; refine (mtake_calls g _ Msg.new Msg.ok_new _ w _ HA.out 1 rfl).mono ?_; rw [← HM.out.1]; rintro r w3 ⟨v3, rfl, H3⟩; have HB := Lib.hid H3; clear H3 HA) | (go_at_call 11; refine (mtake_calls g _ M1 o1 _ w _ HB.out 0 rfl).mono ?_; rw [← HM.out.2.1]; rintro r w4 ⟨v4, rfl, H4⟩; have HC := Lib.hid H4; clear H4 HB) | (go_at_call 11; refine (mtake_calls g _ M2 o2 _ w _ HC.out x rfl).mono ?_; rw [← HM.out.2.2.1]; rintro r w5 ⟨v5, rfl, H5⟩; have HD := Lib.hid H5; clear H5 HC) | (go_at_call 11; refine (mtake_calls g _ M3 o3 _ w _ HD.out y rfl).mono ?_; rw [HM.out.2.2.2, hN0.out.1, hN0.out.2]; rintro r w6 ⟨v6, rfl, H6⟩; have HE := Lib.hid H6; clear H6 HD))
  go_loopw [7, 8, 9] (fun wh e i wr => ∃ (k : Nat) (vm : Value), k ≤ n ∧ i = .int .i64 k ∧ wh = .bool (decide (k = n)) ∧ e = .int .i64 0 ∧ sat w wr (MS g vm (msgN n k c) :: Row vm (msgN n k c).l :: [])) (fun _ _ i _ => n - (intOf i).toNat)
  case atStart => exact ⟨0, _, Nat.zero_le _, rfl, rfl, rfl, HE.out⟩
  case round =>
    obtain ⟨k, vm, hk, rfl, rfl, rfl, HS⟩ := hrel
    have HB := Lib.hid HS
    have hok := msgN_ok n k c hk hn3
    clear HS HE
    by_cases hlt : k < n
    · have d3 : decide (k = n) = false := by simp; omega
      have hw := Lib.hid (msgN_want n k c)
      have ht := Lib.hid (And.intro (msgN_take n k c hlt) (And.intro (msgN_whole n (k + 1) c) (show (msgN n (k + 1) c).e = 0 from rfl)))
      go_wp2_with (first | (go_at_call 13; refine (mwant_calls g vm _ hok _ w _ HB.out).mono ?_; rw [hw.out]; rintro r w7 ⟨rfl, H7⟩; have HC := Lib.hid H7; clear H7 HB) | (go_at_call 11; refine (mtake_calls g vm _ hok _ w _ HC.out c rfl).mono ?_; rw [ht.out.1, ht.out.2.1, ht.out.2.2]; rintro r w8 ⟨v8, rfl, H8⟩; have HD := Lib.hid H8; clear H8 HC))
      go_roundw
      case rel =>
        have hk1 : k + 1 ≤ n := by omega
        have hi : Value.int .i64 ((k : Int) + 1) = Value.int .i64 ((k + 1 : Nat) : Int) := by go_num
        have hc := HD.out
        first
          | exact ⟨k + 1, _, hk1, hi, rfl, rfl, hc⟩
          | (repeat apply Exists.intro
             exact ⟨⟨k + 1, _, hk1, hi, rfl, rfl, hc⟩, rfl⟩)
      case measure => simp [intOf]; omega
    · obtain rfl : k = n := by omega
      have hw := Lib.hid (msgN_want k k c)
      have hl := Lib.hid (msgN_body k c)
      have d3 : ((k : Int) - k) = 0 := by omega
      go_wp2_with (first | (go_at_call 15; refine (mbody_calls g vm _ hok _ w _ HB.out).mono ?_; rintro r w7 ⟨v7, rfl, H7⟩; obtain ⟨a7, c7, rfl, _, _⟩ := Row.form H7.tail.tail; rw [hl.out]; have HC := Lib.hid H7; clear H7 HB) | (go_at_call 13; refine (mwant_calls g vm _ hok _ w _ HC.out).mono ?_; rw [hw.out, d3]; rintro r w8 ⟨rfl, H8⟩; have HD := Lib.hid H8; clear H8 HC))
      go_ret
      exact ⟨rfl, HD.out.below⟩
end Go.Proofs.Ytjekkaajagncpaa
