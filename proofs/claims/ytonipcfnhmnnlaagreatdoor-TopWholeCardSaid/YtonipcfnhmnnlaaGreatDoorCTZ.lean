/- The law TopWhole, walked: whatever the input, it returns true; what was there stays. No condition but that the library's one number is a number. -/
import Derived.Test.YtonipcfnhmnnlaaGreatDoorCT48
import Derived.Test.YtonipcfnhmnnlaaGreatDoorCTL
import Derived.Test.YtonipcfnhmnnlaaGreatDoorMMix
namespace Go.Proofs.YtonipcfnhmnnlaaGreatDoor
open Go Go.RowKit
open Hg hiding plainOp wp_region_mix mix_nil mix_a mix_q mix_s mix_sC mix_l mix_lC mix_lN
open Hx hiding run_v plain_value ancB anchored floats ncB wpMix mixB mixOk Yat wpM Closed
set_option linter.unusedVariables false
set_option linter.unusedSimpArgs false
attribute [local go_sem] Lib.run_eql_slice_nil run_min2 run_max2 run_min_two run_max_two
theorem ext_drop (S : ByteArray) (i : Nat) : (S.extract i S.size).data.toList = S.data.toList.drop i := by
  rw [ByteArray.data_extract, Array.toList_extract, List.extract_eq_take_drop]
  rw [List.take_of_length_le]
  rw [List.length_drop, Array.length_toList]
  exact Nat.le_refl _
theorem ext_size (S : ByteArray) (i : Nat) : (S.extract i S.size).size ≤ S.size := by
  rw [ByteArray.size_extract]; omega
theorem take_succ' {α : Type} {l : List α} {j : Nat} {a : α} (h : l[j]? = some a) : l.take (j + 1) = l.take j ++ [a] := by rw [List.take_add_one, h]; rfl
theorem bstr_cat (l : List UInt8) (b : ByteArray) : bstr l ++ b = bstr (l ++ b.data.toList) := by
  apply ByteArray.ext
  rw [ByteArray.data_append]
  apply Array.toList_inj.1
  rw [Array.toList_append]
  simp [bstr]
theorem bstr_of (b : ByteArray) : bstr b.data.toList = b := by
  apply ByteArray.ext
  simp [bstr]
theorem step1 {l : List AC} {j : Nat} {b : ByteArray} {w : Int} (h : l[j]? = some ⟨1, b, w⟩) : upOf (l.take (j + 1)) = upOf (l.take j) ++ b.data.toList ∧ dnOf (l.take (j + 1)) = dnOf (l.take j) ∧ endsOf (l.take (j + 1)) = endsOf (l.take j) := by
  rw [take_succ' h, upOf_append, dnOf_append, endsOf_append]; simp [upOf, dnOf, endsOf]
theorem step3 {l : List AC} {j : Nat} {b : ByteArray} {w : Int} (h : l[j]? = some ⟨3, b, w⟩) : upOf (l.take (j + 1)) = upOf (l.take j) ∧ dnOf (l.take (j + 1)) = dnOf (l.take j) ++ b.data.toList ∧ endsOf (l.take (j + 1)) = endsOf (l.take j) := by
  rw [take_succ' h, upOf_append, dnOf_append, endsOf_append]; simp [upOf, dnOf, endsOf]
theorem step2 {l : List AC} {j : Nat} {b : ByteArray} {w : Int} (h : l[j]? = some ⟨2, b, w⟩) : upOf (l.take (j + 1)) = upOf (l.take j) ∧ dnOf (l.take (j + 1)) = dnOf (l.take j) ∧ endsOf (l.take (j + 1)) = endsOf (l.take j) + 1 := by
  rw [take_succ' h, upOf_append, dnOf_append, endsOf_append]; simp [upOf, dnOf, endsOf]
theorem step4 {l : List AC} {j : Nat} {b : ByteArray} {w : Int} (h : l[j]? = some ⟨4, b, w⟩) : upOf (l.take (j + 1)) = upOf (l.take j) ∧ dnOf (l.take (j + 1)) = dnOf (l.take j) ∧ endsOf (l.take (j + 1)) = endsOf (l.take j) + 10 := by
  rw [take_succ' h, upOf_append, dnOf_append, endsOf_append]; simp [upOf, dnOf, endsOf]
theorem step0 {l : List AC} {j : Nat} {b : ByteArray} {k w : Int} (h : l[j]? = some ⟨k, b, w⟩) (h1 : k ≠ 1) (h2 : k ≠ 2) (h3 : k ≠ 3) (h4 : k ≠ 4) : upOf (l.take (j + 1)) = upOf (l.take j) ∧ dnOf (l.take (j + 1)) = dnOf (l.take j) ∧ endsOf (l.take (j + 1)) = endsOf (l.take j) := by
  rw [take_succ' h, upOf_append, dnOf_append, endsOf_append]; simp [upOf, dnOf, endsOf, h1, h2, h3, h4]
theorem up_le (l : List AC) (j : Nat) : (upOf (l.take j)).length ≤ (upOf l).length := by
  have h : (upOf l).length = (upOf (l.take j)).length + (upOf (l.drop j)).length := by rw [← List.length_append, ← upOf_append, List.take_append_drop]
  omega
theorem dn_le (l : List AC) (j : Nat) : (dnOf (l.take j)).length ≤ (dnOf l).length := by
  have h : (dnOf l).length = (dnOf (l.take j)).length + (dnOf (l.drop j)).length := by rw [← List.length_append, ← dnOf_append, List.take_append_drop]
  omega
theorem ends_nn (l : List AC) : 0 ≤ endsOf l := by
  induction l with
  | nil => exact Int.le_refl _
  | cons a t ih => unfold endsOf; split <;> (try split) <;> omega
theorem ends_le (l : List AC) (j : Nat) : endsOf (l.take j) ≤ endsOf l := by
  have h : endsOf l = endsOf (l.take j) + endsOf (l.drop j) := by rw [← endsOf_append, List.take_append_drop]
  have := ends_nn (l.drop j)
  omega
theorem wrapE {E c : Int} (h1 : 0 ≤ E) (h2 : E ≤ 11) (hc : 0 ≤ c ∧ c ≤ 10) : Value.int IntKind.i64 (wrap64 (E + c)) = Value.int IntKind.i64 (E + c) := congrArg (Value.int IntKind.i64) (by unfold wrap64; omega)
theorem wrapJ {n j : Nat} (h : j < n) (hn : n ≤ 20000) : Value.int IntKind.i64 (wrap64 ((j : Int) + 1)) = Value.int IntKind.i64 ((j + 1 : Nat) : Int) := congrArg (Value.int IntKind.i64) (by unfold wrap64; omega)
theorem meas {n j : Nat} (h : j < n) (hn : n ≤ 20000) : n - (intOf (Value.int IntKind.i64 (wrap64 ((j : Int) + 1)))).toNat < n - (intOf (Value.int IntKind.i64 (j : Int))).toNat := by
  rw [wrapJ h hn]
  have h1 : intOf (Value.int IntKind.i64 ((j + 1 : Nat) : Int)) = ((j + 1 : Nat) : Int) := rfl
  have h2 : intOf (Value.int IntKind.i64 (j : Int)) = (j : Int) := rfl
  rw [h1, h2]
  omega
theorem sizeOf' (l : List UInt8) : (bstr l).size = l.length := bstr_size l
theorem sizeUp {l : List AC} {j m : Nat} {S U b : ByteArray} (hl : upOf l = S.data.toList) (hU : bstr (upOf (l.take j)) = U) (hs : upOf (l.take (j + 1)) = upOf (l.take j) ++ b.data.toList) (h0 : S.size = 29 + m) (hm : m ≤ 600) : ¬ (9223372036854775807 < U.size + b.size) := by
  have h5 : (upOf (l.take j)).length + b.data.toList.length ≤ S.data.toList.length := by rw [← List.length_append, ← hs, ← hl]; exact up_le l (j + 1)
  have h2 : U.size = (upOf (l.take j)).length := by rw [← hU, sizeOf']
  have h8 : U.size + b.size ≤ S.size := by rw [h2]; exact h5
  clear hU hs hl h5 h2
  generalize U.size = x1 at *
  generalize b.size = x2 at *
  omega
theorem sizeDn {l : List AC} {j : Nat} {S U b : ByteArray} (hl : dnOf l = S.data.toList) (hU : bstr (dnOf (l.take j)) = U) (hs : dnOf (l.take (j + 1)) = dnOf (l.take j) ++ b.data.toList) (h0 : S.size ≤ 600) : ¬ (9223372036854775807 < U.size + b.size) := by
  have h5 : (dnOf (l.take j)).length + b.data.toList.length ≤ S.data.toList.length := by rw [← List.length_append, ← hs, ← hl]; exact dn_le l (j + 1)
  have h2 : U.size = (dnOf (l.take j)).length := by rw [← hU, sizeOf']
  have h8 : U.size + b.size ≤ S.size := by rw [h2]; exact h5
  clear hU hs hl h5 h2
  generalize U.size = x1 at *
  generalize b.size = x2 at *
  omega
set_option maxHeartbeats 6400000 in
set_option maxRecDepth 100000 in
theorem whole_calls (more back : ByteArray) (relay grant : Int) (w : World) (hm : MaxL w) :
    Calls Tryz.prog 3 #[.string more, .string back, .int .i64 relay, .int .i64 grant] w fun e w' => e = .returned (.bool true) ∧ Below w.heap.size w w' := by
  have HG := Lib.hid (goes_calls [] w w hm (sat_start w))
  have HM := Lib.hid hm
  clear hm
  by_cases e0 : (600 : Int) < more.size
  · have d0 : decide ((600 : Int) < more.size) = true := by simpa using e0
    clear e0
    go_enter Tryz.func3, Tryz.ntmps3
    go_wp2_with (go_at_call 5; refine HG.out.mono ?_; rintro e w1 ⟨rfl, H1⟩; have HS := Lib.hid H1; clear H1 HG)
    go_ret
    exact ⟨rfl, HS.out.below⟩
  have d0 : decide ((600 : Int) < more.size) = false := by simpa using e0
  by_cases e1 : (600 : Int) < back.size
  · have d1 : decide ((600 : Int) < back.size) = true := by simpa using e1
    clear e1
    go_enter Tryz.func3, Tryz.ntmps3
    go_wp2_with (go_at_call 5; refine HG.out.mono ?_; rintro e w1 ⟨rfl, H1⟩; have HS := Lib.hid H1; clear H1 HG)
    go_ret
    exact ⟨rfl, HS.out.below⟩
  have d1 : decide ((600 : Int) < back.size) = false := by simpa using e1
  by_cases e2 : relay < 1
  · have d2 : decide (relay < 1) = true := by simpa using e2
    clear e2
    go_enter Tryz.func3, Tryz.ntmps3
    go_wp2_with (go_at_call 5; refine HG.out.mono ?_; rintro e w1 ⟨rfl, H1⟩; have HS := Lib.hid H1; clear H1 HG)
    go_ret
    exact ⟨rfl, HS.out.below⟩
  have d2 : decide (relay < 1) = false := by simpa using e2
  by_cases e3 : (65536 : Int) < relay
  · have d3 : decide ((65536 : Int) < relay) = true := by simpa using e3
    clear e3
    go_enter Tryz.func3, Tryz.ntmps3
    go_wp2_with (go_at_call 5; refine HG.out.mono ?_; rintro e w1 ⟨rfl, H1⟩; have HS := Lib.hid H1; clear H1 HG)
    go_ret
    exact ⟨rfl, HS.out.below⟩
  have d3 : decide ((65536 : Int) < relay) = false := by simpa using e3
  by_cases e4 : grant < 1
  · have d4 : decide (grant < 1) = true := by simpa using e4
    clear e4
    go_enter Tryz.func3, Tryz.ntmps3
    go_wp2_with (go_at_call 5; refine HG.out.mono ?_; rintro e w1 ⟨rfl, H1⟩; have HS := Lib.hid H1; clear H1 HG)
    go_ret
    exact ⟨rfl, HS.out.below⟩
  have d4 : decide (grant < 1) = false := by simpa using e4
  by_cases e5 : (5000 : Int) < grant
  · have d5 : decide ((5000 : Int) < grant) = true := by simpa using e5
    clear e5
    go_enter Tryz.func3, Tryz.ntmps3
    go_wp2_with (go_at_call 5; refine HG.out.mono ?_; rintro e w1 ⟨rfl, H1⟩; have HS := Lib.hid H1; clear H1 HG)
    go_ret
    exact ⟨rfl, HS.out.below⟩
  have d5 : decide ((5000 : Int) < grant) = false := by simpa using e5
  obtain ⟨N, rfl⟩ : ∃ N : Nat, relay = N := ⟨relay.toNat, by omega⟩
  obtain ⟨G, rfl⟩ : ∃ G : Nat, grant = G := ⟨grant.toNat, by omega⟩
  have hb : (1 ≤ N ∧ N ≤ 65536) ∧ (1 ≤ G ∧ G ≤ 9999) ∧ more.size ≤ 600 ∧ back.size ≤ 600 := by omega
  have HN := Lib.hid hb
  clear hb e0 e1 e2 e3 e4 e5
  obtain ⟨S, hS⟩ : ∃ S : ByteArray, (⟨#[71, 69, 84, 32, 47, 32, 72, 84, 84, 80, 47, 49, 46, 49, 13, 10, 72, 111, 115, 116, 58, 32, 97, 46, 98, 13, 10, 13, 10]⟩ : ByteArray) ++ more = S := ⟨_, rfl⟩
  have hs1 : S.data.toList = HD ++ more.data.toList := by rw [← hS, ByteArray.data_append, Array.toList_append]; rfl
  have hs0 : S.size = 29 + more.size := by
    have h := congrArg List.length hs1
    rw [List.length_append, Array.length_toList, Array.length_toList] at h
    exact h
  have HS1 := Lib.hid hs1
  have HS0 := Lib.hid hs0
  have HS2 : Hid (S.data.toList.length ≤ 1000) := Lib.hid (by rw [Array.length_toList]; show S.size ≤ 1000; have := HN.out; omega)
  have HS3 : Hid (S.size ≤ maxLen) := Lib.hid (by have := HN.out; unfold maxLen; omega)
  have HL1 : Hid (∀ i, (S.extract i S.size).size ≤ maxLen) := Lib.hid (fun i => Nat.le_trans (ext_size S i) HS3.out)
  have HL2 : Hid (∀ i, (back.extract i back.size).size ≤ maxLen) := Lib.hid (fun i => Nat.le_trans (ext_size back i) (by have := HN.out; unfold maxLen; omega))
  have HS4 : Hid (back.data.toList.length ≤ 1000) := Lib.hid (by rw [Array.length_toList]; show back.size ≤ 1000; have := HN.out; omega)
  have f4 : ¬ (9223372036854775807 < 29 + more.size) := by have := HN.out; omega
  clear hs1 hs0
  go_enter Tryz.func3, Tryz.ntmps3
  go_wp2_with (first | (go_at_call 5; refine HG.out.mono ?_; rintro e w1 ⟨rfl, H1⟩; have HS := Lib.hid H1; clear H1 HG) | (go_at_call 6; refine (conf_calls [] w _ HS.out).mono ?_; rintro e w2 ⟨rfl, H2⟩; have HA := Lib.hid H2; clear H2 HS) | (go_at_call 7; refine (start_calls N 1 1 (by decide) _ w _ (HA.out.alloc (.cells #[.int .i64 16384, .int .i64 N, .int .i64 1000, .int .i64 1000, .int .i64 1000] 24))).mono ?_; rintro e w3 ⟨p, m, n, rfl, H2⟩; have HB := Lib.hid (H2.re 4 [0, 1, 2] [3] rfl); clear H2 HA) | (go_at_call 8; refine (load_calls p m n N 1 1 _ _ (MapA encK n ([] : List ((ByteArray × Int) × Value)) :: []) w _ HM.out HB.out).mono ?_; rintro e w3 ⟨tb, j, rfl, H3⟩; have HD := Lib.hid (H3.re 5 [0, 4, 1, 2, 3] [] rfl); clear H3 HB) | (go_at_call 9; refine (accept_calls p m n tb j 1 1 (by decide) N HN.out.1 [] w _ HD.out).mono ?_; rintro e w4 ⟨g, rfl, H4⟩; rw [encT]; have HE := Lib.hid H4; clear H4 HD) | (refine BigFrame.wpList_want (by rfl) fun K' hK' => ?_; refine op_str_bytes (s := S) (by rfl) Tryz.underlying9 Tryz.underlying42 Tryz.underlying5 (by rfl) HS3.out (HE.out.alloc (.cells #[.string tT, .int .i64 1] 34)) ?_; intro b c w5 H5; refine hK' _ _ ?_; clear hK' K'; generalize hkb : w4.heap.size = kb at *; have h6 := H5.re 3 [2, 0, 1] [] rfl; have k0 : w5.cell? ⟨kb, 0, none⟩ = some (.string tT) := cellAt h6.tail.tail.get.1 0; have k1 : w5.cell? ⟨kb, 1, none⟩ = some (.int .i64 1) := cellAt h6.tail.tail.get.1 1; have HF := Lib.hid h6; clear H5 h6 HE) | (go_at_call 10; clear k0 k1; rw [← encT]; refine (t_client0 p g N HN.out.1 S.data.toList back.data.toList more.data.toList HS1.out HS2.out (.slice (some ⟨b, 0, none⟩) S.size c) (blk kb (.cells #[.string tT, .int .i64 1] 34) :: []) w _ HM.out HF.out).mono ?_; rintro e w6 ⟨n0, rfl, hn0, hn1, h6⟩; have k0 : w6.cell? ⟨kb, 0, none⟩ = some (.string tT) := cellAt h6.tail.get.1 0; have k1 : w6.cell? ⟨kb, 1, none⟩ = some (.int .i64 1) := cellAt h6.tail.get.1 1; have HI := Lib.hid h6; have HN1 := Lib.hid (And.intro hn0 hn1); clear h6 HF hn0 hn1) | (go_at_call 11; clear k0 k1; rw [← encT]; refine (t_dialed p g N S.data.toList back.data.toList more.data.toList HS1.out n0 HN1.out.2 (blk kb (.cells #[.string tT, .int .i64 1] 34) :: []) w _ HI.out).mono ?_; rintro e w7 ⟨rfl, h6⟩; have k0 : w7.cell? ⟨kb, 0, none⟩ = some (.string tT) := cellAt h6.tail.get.1 0; have k1 : w7.cell? ⟨kb, 1, none⟩ = some (.int .i64 1) := cellAt h6.tail.get.1 1; have HJ := Lib.hid h6; clear h6 HI))
  clear k0 k1 f4 d0 d1 d2 d3 d4 d5 hS
  go_loopw [15, 16, 17] (fun vi vo vk wr => ∃ i o k : Nat, k ≤ 630 ∧ vi = .int .i64 i ∧ vo = .int .i64 o ∧ vk = .int .i64 k ∧ sat w wr (FlowE p g N S.data.toList back.data.toList k i o :: blk kb (.cells #[.string tT, .int .i64 1] 34) :: [])) (fun _ _ vk _ => 2000 - (intOf vk).toNat)
  case atStart => exact ⟨n0, 0, 0, by omega, rfl, rfl, rfl, HJ.out⟩
  case round =>
    obtain ⟨i, o, k, hk, rfl, rfl, rfl, HS⟩ := hrel
    obtain ⟨hi, ho, hall⟩ := FlowE.all HS
    rw [Array.length_toList] at hi hall
    rw [Array.length_toList] at ho hall
    have hi : i ≤ S.size := hi
    have ho : o ≤ back.size := ho
    have hall : S.size < k → back.size < k → i = S.size ∧ o = back.size := hall
    have dk : decide ((k : Int) < 2000) = true := by simp; omega
    clear HJ
    have HK := Lib.hid HS
    have HA := Lib.hid hall
    clear HS hall
    by_cases hc : i < S.size ∨ o < back.size
    · have hk2 : k + 1 ≤ 630 := by
        rcases Nat.lt_or_ge k 630 with h | h
        · omega
        · have h1 := HA.out (by have := HS0.out; have := HN.out; omega) (by have := HN.out; omega)
          omega
      have hs6 : S.size ≤ 629 ∧ back.size ≤ 600 := by have := HS0.out; have := HN.out; omega
      have HZ0 : Hid (k + 1 ≤ 630 ∧ i ≤ S.size ∧ o ≤ back.size ∧ S.size ≤ 629 ∧ back.size ≤ 600) := Lib.hid ⟨hk2, hi, ho, hs6⟩
      clear hk2 hs6
      have TEST : (i < S.size ∧ decide ((i : Int) < (S.size : Int)) = true) ∨ (¬ (i < S.size) ∧ o < back.size ∧ decide ((i : Int) < (S.size : Int)) = false ∧ decide ((o : Int) < (back.size : Int)) = true) := by
        rcases Nat.lt_or_ge i S.size with h | h
        · left; refine ⟨h, ?_⟩; simp; omega
        · right; refine ⟨by omega, by omega, ?_, ?_⟩
          · simp; omega
          · simp; omega
      clear hc
      rcases TEST with ⟨hc, dc⟩ | ⟨hc, he, dc, dd⟩
      all_goals
        go_wp2
        obtain ⟨R2, hR⟩ : ∃ R2, R2 = blk kb (.cells #[.string tT, .int .i64 1] 34) :: [] := ⟨_, rfl⟩
        have hcl : sat w wr.drew R2 := by rw [hR]; exact HK.out.drew.tail
        have q0 : ∀ x : SW w R2, x.w.cell? ⟨kb, 0, none⟩ = some (.string tT) := fun x => by subst hR; exact cellAt x.h.get.1 0
        have q1 : ∀ x : SW w R2, x.w.cell? ⟨kb, 1, none⟩ = some (.int .i64 1) := fun x => by subst hR; exact cellAt x.h.get.1 1
        have hnon : Nonempty (SW w R2) := ⟨⟨_, hcl⟩⟩
        have HR := Lib.hid hR
        clear hR
        refine wp_region_mix (fun u => ∃ x : SW w R2, u = x.w) [0, 1, 2, 3, 4, 5, 6, 7, 8, 9] [0, 1, 2] (by kernel_rfl) (by kernel_rfl) ⟨⟨_, hcl⟩, rfl⟩ ?_
        repeat (first | ((first | refine mix_a rfl (by decide +kernel) rfl (fun K hK => ?_) | refine mix_q rfl (by decide +kernel) rfl (fun K hK => ?_)); go_big_quiet_op; refine hK _ ?_; clear hK K) | (refine mix_s rfl rfl (by decide +kernel) ?_; simp only [Act.put, List.setIfInBounds_toArray, List.set_cons_zero, List.set_cons_succ]))
        refine mix_lC rfl rfl rfl (fun K hK => ?_)
        refine op_str_bytes (s := S.extract i S.size) rfl Tryz.underlying9 Tryz.underlying42 Tryz.underlying5 rfl (HL1.out i) HK.out.drew ?_
        intro b8 c8 w8 H8
        refine hK _ _ ⟨⟨_, by rw [HR.out]; exact H8.tail.tail⟩, rfl⟩ ?_
        have HX := Lib.hid H8
        clear hK K H8 HK
        simp only [Act.put, List.setIfInBounds_toArray, List.set_cons_zero, List.set_cons_succ]
        repeat (first | ((first | refine mix_a rfl (by decide +kernel) rfl (fun K hK => ?_) | refine mix_q rfl (by decide +kernel) rfl (fun K hK => ?_)); go_big_quiet_op; refine hK _ ?_; clear hK K) | (refine mix_s rfl rfl (by decide +kernel) ?_; simp only [Act.put, List.setIfInBounds_toArray, List.set_cons_zero, List.set_cons_succ]))
        refine mix_lC rfl rfl rfl (fun K hK => ?_)
        refine op_call rfl Tryz.func10 (by kernel_rfl) (by kernel_rfl) (t_client p g N k i o S.data.toList back.data.toList (by omega) HS2.out _ (blk kb (.cells #[.string tT, .int .i64 1] 34) :: []) w _ (by have h := HX.out; rw [ext_drop] at h; exact h.swap)) rfl ?_
        rintro e w9 ⟨nn, rfl, hle, H9⟩
        refine ⟨_, rfl, hK _ _ ⟨⟨_, by rw [HR.out]; exact H9.tail⟩, rfl⟩ ?_⟩
        clear hK K
        simp only [Act.put, List.setIfInBounds_toArray, List.set_cons_zero, List.set_cons_succ]
        repeat (first | ((first | refine mix_a rfl (by decide +kernel) rfl (fun K hK => ?_) | refine mix_q rfl (by decide +kernel) rfl (fun K hK => ?_)); go_big_quiet_op; refine hK _ ?_; clear hK K) | (refine mix_s rfl rfl (by decide +kernel) ?_; simp only [Act.put, List.setIfInBounds_toArray, List.set_cons_zero, List.set_cons_succ]))
        refine mix_nil ?_
        clear q0 q1 hnon hcl HR
        have HP := Lib.hid H9
        clear H9 HX
        go_wp2
        obtain ⟨R2, hR⟩ : ∃ R2, R2 = blk kb (.cells #[.string tT, .int .i64 1] 34) :: [] := ⟨_, rfl⟩
        have hcl : sat w w9.drew R2 := by rw [hR]; exact HP.out.drew.tail
        have q0 : ∀ x : SW w R2, x.w.cell? ⟨kb, 0, none⟩ = some (.string tT) := fun x => by subst hR; exact cellAt x.h.get.1 0
        have q1 : ∀ x : SW w R2, x.w.cell? ⟨kb, 1, none⟩ = some (.int .i64 1) := fun x => by subst hR; exact cellAt x.h.get.1 1
        have hnon : Nonempty (SW w R2) := ⟨⟨_, hcl⟩⟩
        have HR := Lib.hid hR
        clear hR
        refine wp_region_mix (fun u => ∃ x : SW w R2, u = x.w) [0, 1, 2, 3, 4, 5, 6, 7, 8, 9] [0, 1, 2] (by kernel_rfl) (by kernel_rfl) ⟨⟨_, hcl⟩, rfl⟩ ?_
        repeat (first | ((first | refine mix_a rfl (by decide +kernel) rfl (fun K hK => ?_) | refine mix_q rfl (by decide +kernel) rfl (fun K hK => ?_)); go_big_quiet_op; refine hK _ ?_; clear hK K) | (refine mix_s rfl rfl (by decide +kernel) ?_; simp only [Act.put, List.setIfInBounds_toArray, List.set_cons_zero, List.set_cons_succ]))
        refine mix_lC rfl rfl rfl (fun K hK => ?_)
        refine op_str_bytes (s := back.extract o back.size) rfl Tryz.underlying9 Tryz.underlying42 Tryz.underlying5 rfl (HL2.out o) HP.out.drew ?_
        intro b8 c8 w8 H8
        refine hK _ _ ⟨⟨_, by rw [HR.out]; exact H8.tail.tail⟩, rfl⟩ ?_
        have HX := Lib.hid H8
        clear hK K H8 HP
        simp only [Act.put, List.setIfInBounds_toArray, List.set_cons_zero, List.set_cons_succ]
        repeat (first | ((first | refine mix_a rfl (by decide +kernel) rfl (fun K hK => ?_) | refine mix_q rfl (by decide +kernel) rfl (fun K hK => ?_)); go_big_quiet_op; refine hK _ ?_; clear hK K) | (refine mix_s rfl rfl (by decide +kernel) ?_; simp only [Act.put, List.setIfInBounds_toArray, List.set_cons_zero, List.set_cons_succ]))
        refine mix_lC rfl rfl rfl (fun K hK => ?_)
        refine op_call rfl Tryz.func12 (by kernel_rfl) (by kernel_rfl) (t_up p g N k (i + nn) o S.data.toList back.data.toList (by omega) HS4.out _ (blk kb (.cells #[.string tT, .int .i64 1] 34) :: []) w _ (by have h := HX.out; rw [ext_drop] at h; exact h.swap)) rfl ?_
        rintro e w11 ⟨mm, rfl, hlf, H11⟩
        refine ⟨_, rfl, hK _ _ ⟨⟨_, by rw [HR.out]; exact H11.tail⟩, rfl⟩ ?_⟩
        clear hK K
        simp only [Act.put, List.setIfInBounds_toArray, List.set_cons_zero, List.set_cons_succ]
        repeat (first | ((first | refine mix_a rfl (by decide +kernel) rfl (fun K hK => ?_) | refine mix_q rfl (by decide +kernel) rfl (fun K hK => ?_)); go_big_quiet_op; refine hK _ ?_; clear hK K) | (refine mix_s rfl rfl (by decide +kernel) ?_; simp only [Act.put, List.setIfInBounds_toArray, List.set_cons_zero, List.set_cons_succ]))
        refine mix_nil ?_
        clear q0 q1 hnon hcl HR
        have HY := Lib.hid H11
        have k0 : w11.cell? ⟨kb, 0, none⟩ = some (.string tT) := cellAt H11.tail.get.1 0
        have k1 : w11.cell? ⟨kb, 1, none⟩ = some (.int .i64 1) := cellAt H11.tail.get.1 1
        clear H11 HX
        go_wp2_with (first | (go_at_call 13; clear k0 k1; rw [← encT]; refine (t_canup p g N k (i + nn) (o + mm) G S.data.toList back.data.toList (by omega) HN.out.2.1 (blk kb (.cells #[.string tT, .int .i64 1] 34) :: []) w _ HY.out).mono ?_; rintro e w12 ⟨rfl, h6⟩; have k0 : w12.cell? ⟨kb, 0, none⟩ = some (.string tT) := cellAt h6.tail.get.1 0; have k1 : w12.cell? ⟨kb, 1, none⟩ = some (.int .i64 1) := cellAt h6.tail.get.1 1; have HZ := Lib.hid h6; clear h6 HY) | (go_at_call 14; clear k0 k1; rw [← encT]; refine (t_canclient p g N k (i + nn) (o + mm) G S.data.toList back.data.toList (by omega) HN.out.2.1 HN.out.1.1 (blk kb (.cells #[.string tT, .int .i64 1] 34) :: []) w _ HZ.out).mono ?_; rintro e w13 ⟨rfl, h6⟩; have HW := Lib.hid h6; clear h6 HZ))
        refine ⟨⟨i + nn, o + mm, k + 1, HZ0.out.1, ?_, ?_, rfl, HW.out⟩, ?_⟩
        · have h1 := HZ0.out
          have h2 : i + nn ≤ S.size := by have h := hle; rw [Array.length_toList] at h; exact h
          exact congrArg (Value.int IntKind.i64) (by unfold wrap64; omega)
        · have h1 := HZ0.out
          have h2 : o + mm ≤ back.size := by have h := hlf; rw [Array.length_toList] at h; exact h
          exact congrArg (Value.int IntKind.i64) (by unfold wrap64; omega)
        · have h1 := HZ0.out
          simp [intOf]; omega
    · have hx : i = S.size ∧ o = back.size := by omega
      clear hc hi ho
      obtain ⟨rfl, rfl⟩ := hx
      have k0 : wr.cell? ⟨kb, 0, none⟩ = some (.string tT) := cellAt HK.out.tail.get.1 0
      have k1 : wr.cell? ⟨kb, 1, none⟩ = some (.int .i64 1) := cellAt HK.out.tail.get.1 1
      go_wp2_with (first | (go_at_call 15; clear k0 k1; rw [← encT]; refine (t_clienteof p g N k S.data.toList back.data.toList (by omega) (blk kb (.cells #[.string tT, .int .i64 1] 34) :: []) w _ HK.out).mono ?_; rintro e w14 ⟨rfl, h6⟩; have k0 : w14.cell? ⟨kb, 0, none⟩ = some (.string tT) := cellAt h6.tail.get.1 0; have k1 : w14.cell? ⟨kb, 1, none⟩ = some (.int .i64 1) := cellAt h6.tail.get.1 1; have HP := Lib.hid h6; clear h6 HK) | (go_at_call 16; clear k0 k1; rw [← encT]; refine (t_upeof p g N S.data.toList back.data.toList (blk kb (.cells #[.string tT, .int .i64 1] 34) :: []) w _ HP.out).mono ?_; rintro e w15 ⟨rfl, h6⟩; have k0 : w15.cell? ⟨kb, 0, none⟩ = some (.string tT) := cellAt h6.tail.get.1 0; have k1 : w15.cell? ⟨kb, 1, none⟩ = some (.int .i64 1) := cellAt h6.tail.get.1 1; have HQ := Lib.hid h6; clear h6 HP))
      clear k0 k1 dk hk HA
      go_loopw [18] (fun vr wx => ∃ r : Nat, r ≤ 1300 ∧ vr = .int .i64 r ∧ sat w wx (EbbE p g N S.data.toList back.data.toList r :: blk kb (.cells #[.string tT, .int .i64 1] 34) :: [])) (fun vr _ => 1300 - (intOf vr).toNat)
      case atStart => exact ⟨0, by omega, rfl, HQ.out⟩
      case round =>
        obtain ⟨r, hr, rfl, HS⟩ := hrel
        have k0 : wr.cell? ⟨kb, 0, none⟩ = some (.string tT) := cellAt HS.tail.get.1 0
        have k1 : wr.cell? ⟨kb, 1, none⟩ = some (.int .i64 1) := cellAt HS.tail.get.1 1
        clear HQ
        have HK := Lib.hid HS
        clear HS
        by_cases hlt : r < 1300
        · go_wp2_with (first | (go_at_call 13; clear k0 k1; rw [← encT]; refine (t_ecanup p g N r G S.data.toList back.data.toList (by omega) HN.out.2.1 (blk kb (.cells #[.string tT, .int .i64 1] 34) :: []) w _ HK.out).mono ?_; rintro e w16 ⟨rfl, h6⟩; have k0 : w16.cell? ⟨kb, 0, none⟩ = some (.string tT) := cellAt h6.tail.get.1 0; have k1 : w16.cell? ⟨kb, 1, none⟩ = some (.int .i64 1) := cellAt h6.tail.get.1 1; have HP := Lib.hid h6; clear h6 HK) | (go_at_call 14; clear k0 k1; rw [← encT]; refine (t_ecanclient p g N r G S.data.toList back.data.toList (by omega) HN.out.2.1 (blk kb (.cells #[.string tT, .int .i64 1] 34) :: []) w _ HP.out).mono ?_; rintro e w17 ⟨rfl, h6⟩; have HR2 := Lib.hid h6; clear h6 HP))
          refine ⟨⟨r + 1, by omega, rfl, HR2.out⟩, ?_⟩
          simp [intOf]; omega
        · obtain rfl : r = 1300 := by omega
          have HSB := Lib.hid (show S.size < 1300 ∧ back.size < 1300 by have := HS0.out; have := HN.out; omega)
          obtain ⟨log, hlog, hup, hdn, hends, hfine, hdone⟩ := EbbE.done (show S.data.toList.length < 1300 from HSB.out.1) (show back.data.toList.length < 1300 from HSB.out.2) (Nat.le_refl _) HK.out
          have HD := Lib.hid hdone
          have HF := Lib.hid (And.intro hlog (And.intro hup (And.intro hdn (And.intro hends hfine))))
          clear HK hdone hlog hup hdn hends hfine k0 k1 hlt hr
          go_wp2_with (go_at_call 17; refine (t_log p g N log HF.out.1 (blk kb (.cells #[.string tT, .int .i64 1] 34) :: []) w _ HD.out).mono ?_; rintro e w18 ⟨lv, rfl, h6⟩; obtain ⟨la, lc, hlv, _, _, hor⟩ := evs_block h6; rw [List.length_map] at hlv; subst hlv; have HL := Lib.hid h6; have HOR := Lib.hid hor; clear h6 HD hor)
          go_loopw [19, 20, 21, 23] (fun vu vd ve vi wy => ∃ j : Nat, j ≤ log.length ∧ vi = .int .i64 j ∧ vu = .string (bstr (upOf (log.take j))) ∧ vd = .string (bstr (dnOf (log.take j))) ∧ ve = .int .i64 (endsOf (log.take j)) ∧ sat w wy (RowE (.slice la log.length lc) (log.map (EV.mk kT)) :: DoneE p g N log :: blk kb (.cells #[.string tT, .int .i64 1] 34) :: [])) (fun _ _ _ vi _ => log.length - (intOf vi).toNat)
          case atStart => exact ⟨0, Nat.zero_le _, rfl, rfl, rfl, rfl, HL.out⟩
          case round =>
            obtain ⟨j, hj, rfl, rfl, rfl, rfl, HS⟩ := hrel
            clear HL
            generalize hU : bstr (upOf (log.take j)) = U
            generalize hD : bstr (dnOf (log.take j)) = D
            generalize hE : endsOf (log.take j) = E
            have HU := Lib.hid (And.intro hU (And.intro hD hE))
            by_cases hlt : j < log.length
            · obtain ⟨⟨kd, ab, aw⟩, ha⟩ : ∃ a, log[j]? = some a := ⟨_, List.getElem?_eq_getElem hlt⟩
              obtain ⟨lb, rfl⟩ : ∃ lb, la = some ⟨lb, 0, none⟩ := HOR.out.resolve_left (by intro h; have h := congrArg List.length h; rw [List.length_map] at h; simp at h; rw [h] at hlt; simp at hlt)
              have hc := evs_at HS (i := j) (e := ⟨kT, ⟨kd, ab, aw⟩⟩) (by rw [List.getElem?_map, ha]; rfl)
              have e0 : wr.cell? ⟨lb, j * 5 + 2, none⟩ = some (.int .i64 kd) := hc 2 (by decide)
              have e1 : wr.cell? ⟨lb, j * 5 + 2 + 1, none⟩ = some (.string ab) := hc 3 (by decide)
              have HB := Lib.hid HS
              have HAA := Lib.hid ha
              have HLT := Lib.hid hlt
              clear HS hc hU hD hE ha
              by_cases k1 : kd = 1
              · subst k1
                have hst := Lib.hid (step1 HAA.out)
                have f4 : ¬ (9223372036854775807 < U.size + ab.size) := sizeUp HF.out.2.1 HU.out.1 hst.out.1 HS0.out HN.out.2.2.1
                go_wp2
                refine ⟨⟨j + 1, Nat.succ_le_of_lt HLT.out, wrapJ HLT.out HF.out.1, (by rw [hst.out.1, ← HU.out.1, bstr_cat]), (by rw [hst.out.2.1, HU.out.2.1]), (by rw [hst.out.2.2, HU.out.2.2]), HB.out⟩, meas HLT.out HF.out.1⟩
              by_cases k3 : kd = 3
              · subst k3
                have hst := Lib.hid (step3 HAA.out)
                have f4 : ¬ (9223372036854775807 < D.size + ab.size) := sizeDn HF.out.2.2.1 HU.out.2.1 hst.out.2.1 HN.out.2.2.2
                go_wp2
                refine ⟨⟨j + 1, Nat.succ_le_of_lt HLT.out, wrapJ HLT.out HF.out.1, (by rw [hst.out.1, HU.out.1]), (by rw [hst.out.2.1, ← HU.out.2.1, bstr_cat]), (by rw [hst.out.2.2, HU.out.2.2]), HB.out⟩, meas HLT.out HF.out.1⟩
              by_cases k2 : kd = 2
              · subst k2
                have hst := Lib.hid (step2 HAA.out)
                obtain rfl : U = S := by rw [← HU.out.1, (HF.out.2.2.2.2 j _ HAA.out).1 rfl, bstr_of]
                go_wp2
                refine ⟨⟨j + 1, Nat.succ_le_of_lt HLT.out, wrapJ HLT.out HF.out.1, (by rw [hst.out.1, HU.out.1]), (by rw [hst.out.2.1, HU.out.2.1]), (by rw [hst.out.2.2, HU.out.2.2]; have h1 := ends_nn (log.take j); have h2 := ends_le log j; rw [HF.out.2.2.2.1] at h2; rw [HU.out.2.2] at h1 h2; exact wrapE h1 h2 (by decide)), HB.out⟩, meas HLT.out HF.out.1⟩
              by_cases k4 : kd = 4
              · subst k4
                have hst := Lib.hid (step4 HAA.out)
                obtain rfl : D = back := by rw [← HU.out.2.1, (HF.out.2.2.2.2 j _ HAA.out).2 rfl, bstr_of]
                go_wp2
                refine ⟨⟨j + 1, Nat.succ_le_of_lt HLT.out, wrapJ HLT.out HF.out.1, (by rw [hst.out.1, HU.out.1]), (by rw [hst.out.2.1, HU.out.2.1]), (by rw [hst.out.2.2, HU.out.2.2]; have h1 := ends_nn (log.take j); have h2 := ends_le log j; rw [HF.out.2.2.2.1] at h2; rw [HU.out.2.2] at h1 h2; exact wrapE h1 h2 (by decide)), HB.out⟩, meas HLT.out HF.out.1⟩
              have hst := Lib.hid (step0 HAA.out k1 k2 k3 k4)
              have t1 : (kd == 1) = false := by simpa using k1
              have t2 : (kd == 2) = false := by simpa using k2
              have t3 : (kd == 3) = false := by simpa using k3
              have t4 : (kd == 4) = false := by simpa using k4
              go_wp2
              refine ⟨⟨j + 1, Nat.succ_le_of_lt HLT.out, wrapJ HLT.out HF.out.1, (by rw [hst.out.1, HU.out.1]), (by rw [hst.out.2.1, HU.out.2.1]), (by rw [hst.out.2.2, HU.out.2.2]), HB.out⟩, meas HLT.out HF.out.1⟩
            · obtain rfl : j = log.length := by omega
              rw [List.take_length] at hU hD hE
              obtain rfl : U = S := by rw [← hU, HF.out.2.1, bstr_of]
              obtain rfl : D = back := by rw [← hD, HF.out.2.2.1, bstr_of]
              obtain rfl : E = 11 := by rw [← hE, HF.out.2.2.2.1]
              have HB := Lib.hid HS.tail
              clear HS hU hD hE HU hlt hj
              have b1 : (U.toList == U.toList) = true := by simp
              have b2 : (D.toList == D.toList) = true := by simp
              go_wp2_with (first | (go_at_call 18; refine (t_audits p g N log (blk kb (.cells #[.string tT, .int .i64 1] 34) :: []) w _ HB.out).mono ?_; rintro e w19 ⟨av, rfl, h6⟩; have k0 : w19.cell? ⟨kb, 0, none⟩ = some (.string tT) := cellAt h6.tail.tail.get.1 0; have k1 : w19.cell? ⟨kb, 1, none⟩ = some (.int .i64 1) := cellAt h6.tail.tail.get.1 1; obtain ⟨aa, ac, hav, _, _, hor2⟩ := aus_block h6; obtain ⟨ub, rfl⟩ := hor2.resolve_left (by simp); have hl2 : av = .slice (some ⟨ub, 0, none⟩) 1 ac := hav; subst hl2; clear hav hor2; have HC := Lib.hid (h6.re 2 [1, 0] [] rfl); clear h6 HB) | (go_at_call 19; clear k0 k1; rw [← encT]; refine (t_conn p g N log _ w _ HC.out).mono ?_; rintro e w20 ⟨rfl, h6⟩; have a2 : w20.cell? ⟨ub, 2, none⟩ = some (.int .i64 0) := aus_at h6.tail (i := 0) rfl 2 (by decide); have HCZ := Lib.hid h6; clear h6 HC) | (go_at_call 20; refine (t_live p g N log _ w _ HCZ.out).mono ?_; rintro e w21 ⟨rfl, h6⟩; have HDZ := Lib.hid h6; clear h6 HCZ))
              go_ret
              exact ⟨rfl, HDZ.out.below⟩
end Go.Proofs.YtonipcfnhmnnlaaGreatDoor
