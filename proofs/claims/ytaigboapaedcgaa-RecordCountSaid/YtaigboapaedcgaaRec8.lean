/- Layer 7: All, the code's and the document's. No condition but that the slice takes at most a million bytes. -/
import Derived.Test.YtaigboapaedcgaaRec7
import Derived.Test.YtaigboapaedcgaaRec3
import Derived.OwnWalk
namespace Go.Proofs.Ytaigboapaedcgaa
open Go Go.RowKit Hg
set_option linter.unusedVariables false
set_option linter.unusedSimpArgs false
attribute [local go_sem] Lib.run_eql_slice_nil run_min2 run_max2 run_min_two run_max_two
theorem Reads.at' {w : World} {v : Value} {l : List UInt8} (h : Reads w v l) (j : Nat) (hj : j < l.length) : ∃ b off c, v = .slice (some ⟨b, off, none⟩) l.length c ∧ w.cell? ⟨b, off + j, none⟩ = some (.int .u8 (l.getD j 0).toNat) ∧ l.length ≤ c := by
  rcases h.cases with ⟨_, rfl⟩ | ⟨ad, cap, rfl, h1, h2, h3⟩
  · simp at hj
  · obtain ⟨b, off, rfl⟩ := cell_spot (h3 0 (by omega))
    have := h3 j hj
    rw [addAt] at this
    exact ⟨b, off, cap, rfl, this, h1⟩
def allGo : Df → List UInt8 → Nat → List UInt8 → List UInt8 × Int × Int
  | _, [], _, o => (o, -1, 0)
  | d, x :: t, k, o => if (d.take x).e ≠ 0 then (o, k, (d.take x).e) else allGo (d.take x) t (k + 1) (if d.pay then o ++ [x] else o)
def allL (b : List UInt8) : List UInt8 × Int × Int := allGo Df.new b 0 []
def rallGo : Rf → List UInt8 → Nat → List UInt8 → List UInt8 × Int × Int
  | _, [], _, o => (o, -1, 0)
  | r, x :: t, k, o => if (r.take x).e ≠ 0 then (o, k, (r.take x).e) else rallGo (r.take x) t (k + 1) (if r.pay then o ++ [x] else o)
def rallL (b : List UInt8) : List UInt8 × Int × Int := rallGo Rf.new b 0 []
theorem drop_getD {b : List UInt8} {k : Nat} (h : k < b.length) : b.drop k = b.getD k 0 :: b.drop (k + 1) := by
  rw [List.drop_eq_getElem_cons h]
  simp [List.getD, List.getElem?_eq_getElem h]
set_option maxHeartbeats 3200000 in
set_option maxRecDepth 100000 in
theorem all_calls (v : Value) (b : List UInt8) (R : List Asn) (w0 w : World) (H : sat w0 w R) (hv : Rd w0 R v b) (hb : b.length ≤ 1000000) :
    Calls Try.prog 15 #[v] w fun r w' => ∃ v', r = .returned (.tuple #[v', .int .i64 (allL b).2.1, .int .i64 (allL b).2.2]) ∧ sat w0 w' (Row v' (allL b).1 :: R) := by
  obtain ⟨a, cap, rfl, _, _⟩ := (hv w H).form
  have HV := Lib.hid hv
  have HH := Lib.hid H
  clear H hv
  go_enter Try.func15, Try.ntmps15
  go_wp2_with (go_at_call 10; refine (new_calls R w0 _ HH.out).mono ?_; rintro r w2 ⟨g, rfl, H2⟩; have HA := Lib.hid (show sat w0 w2 (DS g Df.new :: Row (.slice none 0 0) [] :: R) from (Row.nil H2).swap); clear H2)
  go_loopw [5, 14] (fun out i wr => ∃ (k : Nat) (d : Df) (o : List UInt8), k ≤ b.length ∧ i = .int .i64 k ∧ d.ok ∧ d.c ≤ k ∧ o.length ≤ k ∧ Hid (allL b = allGo d (b.drop k) k o) ∧ sat w0 wr (DS g d :: Row out o :: R)) (fun _ i _ => b.length - (intOf i).toNat)
  case atStart => exact ⟨0, Df.new, [], Nat.zero_le _, rfl, Df.ok_new, Nat.le_refl _, Nat.le_refl _, Lib.hid rfl, HA.out⟩
  case round =>
    obtain ⟨k, d, o, hk, rfl, hdo, hdc, hol, HG, HS⟩ := hrel
    clear HA
    by_cases hlt : k < b.length
    · obtain ⟨b0, off, c0, hv, cc, _⟩ := Reads.at' (HV.out _ HS.tail.tail) k hlt
      injection hv with a1 _ a2
      subst a1 a2
      have hG := HG.out
      rw [drop_getD hlt, allGo] at hG
      generalize b.getD k 0 = x at cc hG
      obtain ⟨d2, hd2⟩ : ∃ d2, d2 = d.take x := ⟨_, rfl⟩
      obtain ⟨E, hE⟩ : ∃ E, E = d2.e := ⟨_, rfl⟩
      have ho2 := Df.ok_take hdo x
      have hc2 := Df.take_c d x
      rw [← hd2] at hG ho2 hc2
      rw [← hE] at hG
      have HD2 := Lib.hid hd2
      have HE := Lib.hid hE
      have HB := Lib.hid HS
      clear HS HG hd2 hE
      by_cases he : E ≠ 0
      · have d1 : (E != 0) = true := by simpa using he
        rw [if_pos he] at hG
        have HR := Lib.hid hG
        clear hG
        cases hp : d.pay <;>
        · have HP := Lib.hid hp
          clear hp
          go_wp2_with (go_at_call 11; refine (take_calls g d hdo (by omega) x _ w0 _ HB.out rfl).mono ?_; rw [← HD2.out, ← HE.out, HP.out]; rintro r w7 ⟨rfl, H7⟩; have HC := Lib.hid H7; clear H7 HB)
          go_ret3
          exact ⟨_, by rw [HR.out]; rfl, by rw [HR.out]; exact HC.out.tail⟩
      · obtain rfl : E = 0 := by simpa using he
        rw [if_neg he] at hG
        clear he
        cases hp : d.pay with
        | false =>
          rw [hp] at hG
          have HG := Lib.hid hG
          have HP := Lib.hid hp
          clear hp hG
          go_wp2_with (go_at_call 11; refine (take_calls g d hdo (by omega) x _ w0 _ HB.out rfl).mono ?_; rw [← HD2.out, ← HE.out, HP.out]; rintro r w7 ⟨rfl, H7⟩; have HC := Lib.hid H7; clear H7 HB)
          go_roundw
          case rel =>
            have hc3 : d2.c ≤ k + 1 := by omega
            have ho3 : o.length ≤ k + 1 := by omega
            have hk1 : k + 1 ≤ b.length := by omega
            have hi : Value.int .i64 ((k : Int) + 1) = Value.int .i64 ((k + 1 : Nat) : Int) := by go_num
            first
              | exact ⟨k + 1, _, _, hk1, hi, ho2, hc3, ho3, HG, HC.out⟩
              | (repeat apply Exists.intro
                 exact ⟨⟨k + 1, _, _, hk1, hi, ho2, hc3, ho3, HG, HC.out⟩, rfl⟩)
          case measure => simp [intOf]; omega
        | true =>
          rw [hp] at hG
          have HG := Lib.hid (show allL b = allGo d2 (b.drop (k + 1)) (k + 1) (o ++ [x]) from hG)
          have HP := Lib.hid hp
          clear hp hG
          go_wp2_with (first | (go_at_call 11; refine (take_calls g d hdo (by omega) x _ w0 _ HB.out rfl).mono ?_; rw [← HD2.out, ← HE.out, HP.out]; rintro r w7 ⟨rfl, H7⟩; have HC := Lib.hid H7; clear H7 HB) | (refine BigFrame.wpList_want (by rfl) fun K' hK' => ?_; refine op_append_bytes (l := o) (m := [x]) (y := .slice (some ⟨w7.heap.size, 0, none⟩) 1 1) (by rfl) Try.underlying22 info5 (by rfl) (by rfl) (show sat w0 (w7.alloc (.cells ([x].map B8).toArray 5)) (Row _ o :: blk w7.heap.size (.cells ([x].map B8).toArray 5) :: DS g d2 :: R) from (HC.out.alloc _).re 3 [2, 0, 1] [] rfl) (Rd.blk [x] (show (1 : Nat) ≤ maxLen by decide) _ (HC.out.alloc _)) (by simp; omega) ?_; intro v5 w5 H5 _; refine hK' _ _ ?_; clear hK' K'; have HD := Lib.hid (show sat w0 w5 (DS g d2 :: Row v5 (o ++ [x]) :: R) from H5.re 3 [2, 0] [1] rfl); clear H5 HC))
          go_roundw
          case rel =>
            have hc3 : d2.c ≤ k + 1 := by omega
            have ho3 : (o ++ [x]).length ≤ k + 1 := by simp; omega
            have hk1 : k + 1 ≤ b.length := by omega
            have hi : Value.int .i64 ((k : Int) + 1) = Value.int .i64 ((k + 1 : Nat) : Int) := by go_num
            first
              | exact ⟨k + 1, _, _, hk1, hi, ho2, hc3, ho3, HG, HD.out⟩
              | (repeat apply Exists.intro
                 exact ⟨⟨k + 1, _, _, hk1, hi, ho2, hc3, ho3, HG, HD.out⟩, rfl⟩)
          case measure => simp [intOf]; omega
    · obtain rfl : k = b.length := by omega
      have hG := HG.out
      rw [List.drop_eq_nil_of_le (Nat.le_refl _), allGo] at hG
      have HR := Lib.hid hG
      have HB := Lib.hid HS
      clear HS HG hG
      go_wp2
      go_ret3
      exact ⟨_, by rw [HR.out]; rfl, by rw [HR.out]; exact HB.out.tail⟩
end Go.Proofs.Ytaigboapaedcgaa
