/- The one form of a name; its labels. -/
import Derived.Test.YtonipcfnhmnnlaaGreatDoorCT24
namespace Go.Proofs.YtonipcfnhmnnlaaGreatDoor
open Go Go.RowKit Hg
set_option linter.unusedVariables false
set_option linter.unusedSimpArgs false
attribute [local go_sem] Lib.run_eql_slice_nil run_min2 run_max2 run_min_two run_max_two
set_option maxHeartbeats 800000 in
set_option maxRecDepth 100000 in
theorem bad_calls (s : ByteArray) (h1 : s.toList.isEmpty = false) (h2 : s.size ≤ 63) (h3 : decide (0 ≤ Lib.idxFunc pNst true s) = false) (h4 : Lib.hasPrefix s.data.toList [45] = false) (h5 : Lib.hasSuffix s.data.toList [45] = false) (R : List Asn) (w0 w : World) (H : sat w0 w R) :
    Calls Tryz.prog 180 #[.string s] w fun e w' => e = .returned (.bool false) ∧ sat w0 w' R := by
  have HC := Lib.hid (contf_sat s 223 Tryz.f223 Tryz.func223 (by kernel_rfl) (by kernel_rfl) pNst nst_gives false h3 R w0 w H)
  have HP := Lib.hid (Tryz.strings_HasPrefix s ⟨#[45]⟩)
  have HS := Lib.hid (Tryz.strings_HasSuffix s ⟨#[45]⟩)
  rw [show (⟨#[45]⟩ : ByteArray).data.toList = [45] from rfl, h4] at HP
  have hS : ∀ w, Calls Tryz.prog 224 #[.string s, .string ⟨#[45]⟩] w fun e w' => e = .returned (.bool false) ∧ w' = w := fun w => by
    have := HS.out w (by omega)
    rw [show (⟨#[45]⟩ : ByteArray).data.toList = [45] from rfl, h5] at this
    exact this
  have HS2 := Lib.hid hS
  have d1 : decide ((63 : Int) < (s.size : Int)) = false := by simp; omega
  clear H h3 h4 h5 HS hS
  go_enter Tryz.func180, Tryz.ntmps180
  go_wp2_with (first | (go_at_call 181; refine HC.out.mono ?_; rintro e w1 ⟨rfl, H1⟩; have HA := Lib.hid H1; clear H1) | (go_at_call 103; refine (HP.out _).mono ?_; rintro e w2 ⟨rfl, rfl⟩) | (go_at_call 224; refine (HS2.out _).mono ?_; rintro e w3 ⟨rfl, rfl⟩))
  go_ret
  exact ⟨rfl, HA.out⟩
theorem badA (R : List Asn) (w0 w : World) (H : sat w0 w R) : Calls Tryz.prog 180 #[.string sA] w fun e w' => e = .returned (.bool false) ∧ sat w0 w' R := bad_calls sA (by decide +kernel) (by decide) (by decide +kernel) (by decide +kernel) (by decide +kernel) R w0 w H
theorem badB (R : List Asn) (w0 w : World) (H : sat w0 w R) : Calls Tryz.prog 180 #[.string sB] w fun e w' => e = .returned (.bool false) ∧ sat w0 w' R := bad_calls sB (by decide +kernel) (by decide) (by decide +kernel) (by decide +kernel) (by decide +kernel) R w0 w H
set_option maxHeartbeats 800000 in
set_option maxRecDepth 100000 in
theorem idxbad_calls (b : Nat) (R : List Asn) (w0 w : World) (H : sat w0 w (Strs b [sA, sB] :: R)) :
    Calls Tryz.prog 222 #[.slice (some ⟨b, 0, none⟩) 2 2, .func (.func 180) #[] #[]] w fun e w' => e = .returned (.int .i64 (-1)) ∧ sat w0 w' (Strs b [sA, sB] :: R) := by
  have HH := Lib.hid H
  clear H
  go_enter Tryz.func222, Tryz.ntmps222
  go_wp2
  go_loopw [8] (fun i wr => (i = .int .i64 0 ∨ i = .int .i64 1 ∨ i = .int .i64 2) ∧ sat w0 wr (Strs b [sA, sB] :: R)) (fun i _ => 2 - (intOf i).toNat)
  case atStart => exact ⟨.inl rfl, HH.out⟩
  case round =>
    obtain ⟨hi, HS⟩ := hrel
    have HB := Lib.hid HS
    have c0 : wr.cell? ⟨b, 0, none⟩ = some (.string sA) := Strs.cell HS 0 (by decide)
    have c1 : wr.cell? ⟨b, 1, none⟩ = some (.string sB) := Strs.cell HS 1 (by decide)
    clear HS HH
    rcases hi with rfl | rfl | rfl
    · go_wp2_with (go_at_call 180; refine (badA _ w0 _ HB.out).mono ?_; rintro e w1 ⟨rfl, H1⟩; have HA := Lib.hid H1; clear H1)
      exact ⟨⟨.inr (.inl rfl), HA.out⟩, by simp [intOf]⟩
    · go_wp2_with (go_at_call 180; refine (badB _ w0 _ HB.out).mono ?_; rintro e w1 ⟨rfl, H1⟩; have HA := Lib.hid H1; clear H1)
      exact ⟨⟨.inr (.inr rfl), HA.out⟩, by simp [intOf]⟩
    · go_wp2
      go_ret
      exact ⟨rfl, HB.out⟩
set_option maxRecDepth 100000 in
theorem conbad_calls (b : Nat) (R : List Asn) (w0 w : World) (H : sat w0 w (Strs b [sA, sB] :: R)) :
    Calls Tryz.prog 179 #[.slice (some ⟨b, 0, none⟩) 2 2, .func (.func 180) #[] #[]] w fun e w' => e = .returned (.bool false) ∧ sat w0 w' (Strs b [sA, sB] :: R) := by
  have HC := Lib.hid (idxbad_calls b R w0 w H)
  clear H
  go_enter Tryz.func179, Tryz.ntmps179
  go_wp2_with (go_at_call 222; refine HC.out.mono ?_; rintro e w1 ⟨rfl, H1⟩; have HA := Lib.hid H1; clear H1)
  go_ret
  exact ⟨rfl, HA.out⟩
set_option maxHeartbeats 3200000 in
set_option maxRecDepth 100000 in
theorem normal_calls (R : List Asn) (w0 w : World) (hm : MaxL w0) (H : sat w0 w R) :
    Calls Tryz.prog 142 #[.string sAB] w fun e w' => e = .returned (.tuple #[.string sAB, .int .i64 0]) ∧ sat w0 w' R := by
  have HM := Lib.hid hm
  have HA0 := Lib.hid (addr_calls R w0 w hm H)
  have HL := Lib.hid (lower_calls sAB (by decide))
  rw [show lowS sAB = sAB by decide +kernel] at HL
  have hT : ∀ w, Calls Tryz.prog 177 #[.string sAB, .string ⟨#[46]⟩] w fun e w' => e = .returned (.string sAB) ∧ w' = w := fun w => by
    have := Tryz.strings_TrimSuffix sAB ⟨#[46]⟩ w (by decide)
    rw [show (⟨(Lib.trimSuffix sAB.data.toList (⟨#[46]⟩ : ByteArray).data.toList).toArray⟩ : ByteArray) = sAB by decide +kernel] at this
    exact this
  have HT := Lib.hid hT
  have HS := Lib.hid (split_sat sAB ⟨#[46]⟩ [sA, sB] 2 (by decide +kernel) (by decide +kernel) (by decide) (by decide))
  have HO := Lib.hid (contf_sat sB 182 Tryz.f182 Tryz.func182 (by kernel_rfl) (by kernel_rfl) pOther other_gives true (by decide +kernel))
  have e1 : sAB.toList.isEmpty = false := by decide +kernel
  have hz : sAB.size = 3 := rfl
  clear H hm hT
  go_enter Tryz.func142, Tryz.ntmps142
  go_wp2_with (first | (go_at_call 132; refine HA0.out.mono ?_; rintro e w1 ⟨rfl, H1⟩; have HA := Lib.hid (H1.alloc (.cells #[.int .u8 0, .int .u8 0, .int .u8 0, .int .u8 0, .int .u8 0, .int .u8 0, .int .u8 0, .int .u8 0, .int .u8 0, .int .u8 0, .int .u8 0, .int .u8 0, .int .u8 0, .int .u8 0, .int .u8 0, .int .u8 0] 38)).tail; clear H1) | (go_at_call 178; refine (HL.out _ w0 _ HA.out).mono ?_; rintro e w2 ⟨rfl, H2⟩; have HB := Lib.hid H2; clear H2) | (go_at_call 177; refine (HT.out _).mono ?_; rintro e w3 ⟨rfl, rfl⟩) | (go_at_call 62; refine (HS.out _ w0 _ HM.out HB.out).mono ?_; rintro e w4 ⟨b, rfl, H4⟩; have HC := Lib.hid H4; clear H4) | (go_at_call 179; refine (conbad_calls b _ w0 _ HC.out).mono ?_; rintro e w5 ⟨rfl, H5⟩; have c1 : w5.cell? ⟨b, 1, none⟩ = some (.string sB) := Strs.cell H5 1 (by decide); have HD := Lib.hid H5; clear H5) | (go_at_call 181; refine (HO.out _ w0 _ HD.out).mono ?_; rintro e w6 ⟨rfl, H6⟩; have HE := Lib.hid H6; clear H6))
  go_ret2
  exact ⟨rfl, HE.out.tail⟩
theorem op_make_strs {o : Oper} {a : Act} {K : Act → World → Prop} {Q : Exit → Act → World → Prop} {x y : Operand} (ho : o.op = .makeSlice 78 x y) {k k' : IntKind} {n : Nat} (hx : a.eval x = .int k n) (hy : a.eval y = .int k' n) (hc : n ≤ 1000000)
    {w0 w : World} {R : List Asn} (H : sat w0 w R) (hk : ∀ g w', sat w0 w' (Strs g (List.replicate n ⟨#[]⟩) :: R) → K (a.put o.dst (.slice (some ⟨g, 0, none⟩) n n)) w') : o.wp Tryz.prog a w K Q := by
  obtain ⟨i, hi1, hz1, hz2, hz3⟩ := info_parts (show (Tryz.prog.info? 9).map (fun i => (i.zero, i.size, i.bytes)) = some (some (.string ⟨#[]⟩), 1, 16) by kernel_rfl)
  have hrun := run_make (P := Tryz.prog) w 78 9 i (.string ⟨#[]⟩) Tryz.underlying78 hi1 hz1 k k' n n (by omega) (by omega) (by rw [hz3]; omega) (by omega)
  unfold Oper.wp execOp
  simp only [ho, hx, hy, Sem.run_bind, hrun, Result.andThen_ok, Sem.run_pure]
  simp only [Int.toNat_natCast]
  refine hk _ _ ?_
  have hm : madeCells (Value.string ⟨#[]⟩).cells (n * i.size) = ((List.replicate n (⟨#[]⟩ : ByteArray)).map Value.string).toArray := by
    rw [hz2, Nat.mul_one]
    apply Array.ext
    · simp [madeCells]
    · intro j h1 h2
      simp [madeCells, Value.cells, Nat.mod_one]
  rw [hm]
  exact H.alloc _
set_option maxHeartbeats 1600000 in
set_option maxRecDepth 100000 in
theorem labels_calls (R : List Asn) (w0 w : World) (hm : MaxL w0) (H : sat w0 w R) :
    Calls Tryz.prog 98 #[.string sAB] w fun e w' => ∃ b, e = .returned (.slice (some ⟨b, 0, none⟩) 2 2) ∧ sat w0 w' (Strs b [sB, sA] :: R) := by
  have HM := Lib.hid hm
  have HA0 := Lib.hid (addr_calls R w0 w hm H)
  have HS := Lib.hid (split_sat sAB ⟨#[46]⟩ [sA, sB] 2 (by decide +kernel) (by decide +kernel) (by decide) (by decide))
  clear H hm
  go_enter Tryz.func98, Tryz.ntmps98
  go_wp2_with (first | (go_at_call 132; refine HA0.out.mono ?_; rintro e w1 ⟨rfl, H1⟩; have HA := Lib.hid (H1.alloc (.cells #[.int .u8 0, .int .u8 0, .int .u8 0, .int .u8 0, .int .u8 0, .int .u8 0, .int .u8 0, .int .u8 0, .int .u8 0, .int .u8 0, .int .u8 0, .int .u8 0, .int .u8 0, .int .u8 0, .int .u8 0, .int .u8 0] 38)).tail; clear H1) | (go_at_call 62; refine (HS.out _ w0 _ HM.out HA.out).mono ?_; rintro e w4 ⟨b, rfl, H4⟩; have HC := Lib.hid H4; clear H4) | (at_make; refine BigFrame.wpList_want (by rfl) fun K' hK' => ?_; refine op_make_strs (n := 2) (by rfl) (by rfl) (by rfl) (by decide) HC.out ?_; intro o w5 H5; refine hK' _ _ ?_; clear hK' K'; have HD := Lib.hid H5; clear H5))
  go_loopw [23] (fun i wr => (i = .int .i64 0 ∧ sat w0 wr (Strs o [⟨#[]⟩, ⟨#[]⟩] :: Strs b [sA, sB] :: R)) ∨ (i = .int .i64 1 ∧ sat w0 wr (Strs o [⟨#[]⟩, sA] :: Strs b [sA, sB] :: R)) ∨ (i = .int .i64 2 ∧ sat w0 wr (Strs o [sB, sA] :: Strs b [sA, sB] :: R))) (fun i _ => 2 - (intOf i).toNat)
  case atStart => exact .inl ⟨rfl, HD.out⟩
  case round =>
    rcases hrel with ⟨rfl, HW⟩ | ⟨rfl, HW⟩ | ⟨rfl, HW⟩
    · have HB := Lib.hid HW
      have c0 : wr.cell? ⟨b, 0, none⟩ = some (.string sA) := Strs.cell HW.tail 0 (by decide)
      have e1 : wr.cell? ⟨o, 1, none⟩ = some (.string ⟨#[]⟩) := Strs.cell HW 1 (by decide)
      have f1 := frozenAt HW.get.1 1
      clear HW HD HC
      go_wp2
      exact ⟨.inr (.inl ⟨rfl, HB.out.store (i := 1) (.string sA)⟩), by simp [intOf]⟩
    · have HB := Lib.hid HW
      have c0 : wr.cell? ⟨b, 1, none⟩ = some (.string sB) := Strs.cell HW.tail 1 (by decide)
      have e1 : wr.cell? ⟨o, 0, none⟩ = some (.string ⟨#[]⟩) := Strs.cell HW 0 (by decide)
      have f1 := frozenAt HW.get.1 0
      clear HW HD HC
      go_wp2
      exact ⟨.inr (.inr ⟨rfl, HB.out.store (i := 0) (.string sB)⟩), by simp [intOf]⟩
    · have HB := Lib.hid HW
      clear HW HD HC
      go_wp2
      go_ret
      exact ⟨o, rfl, HB.out.re 2 [0] [1] rfl⟩
end Go.Proofs.YtonipcfnhmnnlaaGreatDoor
