/- Small letters; tokens; blanks taken off. The first line of a request. A header's line; the field of a name. Which host a request is for. -/
import Derived.Test.YtonipcfnhmnnlaaGreatDoorCT19
import Derived.Test.YtonipcfnhmnnlaaGreatDoorMOps
namespace Go.Proofs.YtonipcfnhmnnlaaGreatDoor
open Go Go.RowKit Hg
set_option linter.unusedVariables false
set_option linter.unusedSimpArgs false
attribute [local go_sem] Lib.run_eql_slice_nil run_min2 run_max2 run_min_two run_max_two
def lowB (c : UInt8) : UInt8 := if 65 ≤ c ∧ c ≤ 90 then c + 32 else c
set_option maxRecDepth 100000 in
theorem small_calls (c : UInt8) (w : World) : Calls Tryz.prog 221 #[.int .u8 c.toNat] w fun e w' => e = .returned (.int .u8 (lowB c).toNat) ∧ w' = w := by
  have hc : c.toNat < 256 := c.toNat_lt
  have HF : Hid ((lowB c).toNat = if 65 ≤ c.toNat ∧ c.toNat ≤ 90 then c.toNat + 32 else c.toNat) := Lib.hid (by
    unfold lowB
    have e : (65 ≤ c ∧ c ≤ 90) ↔ (65 ≤ c.toNat ∧ c.toNat ≤ 90) := by rw [UInt8.le_iff_toNat_le, UInt8.le_iff_toNat_le]; rfl
    by_cases h : 65 ≤ c.toNat ∧ c.toNat ≤ 90
    · rw [if_pos (e.2 h), if_pos h, UInt8.toNat_add]
      have : (32 : UInt8).toNat = 32 := rfl
      omega
    · rw [if_neg (fun h' => h (e.1 h')), if_neg h])
  generalize (lowB c).toNat = L at *
  generalize c.toNat = n at *
  by_cases h1 : 65 ≤ n <;> by_cases h2 : n ≤ 90
  all_goals
    have d1 : decide ((65 : Int) ≤ n) = decide (65 ≤ n) := by rw [decide_eq_decide]; omega
    have d2 : decide ((n : Int) ≤ 90) = decide (n ≤ 90) := by rw [decide_eq_decide]; omega
    simp only [h1, h2, decide_true, decide_false] at d1 d2
    go_enter Tryz.func221, Tryz.ntmps221
    go_wp2
    go_ret
    refine ⟨?_, rfl⟩
    have hF := HF.out
    simp only [h1, h2, and_self, and_true, and_false, if_true, if_false] at hF
    subst hF
  · exact ret_int (by omega)
  all_goals rfl
def lowL (l : List UInt8) (k : Nat) : List UInt8 := (l.take k).map lowB ++ l.drop k
theorem lowL_len (l : List UInt8) (k : Nat) : (lowL l k).length = l.length := by simp [lowL]; omega
theorem lowL_at (l : List UInt8) (k : Nat) (hk : k < l.length) : (lowL l k).getD k 0 = l.getD k 0 := by
  simp only [lowL, List.getD_eq_getElem?_getD]
  rw [List.getElem?_append_right (by simp; omega)]
  simp
  rw [show k - min k l.length = 0 by omega]
  simp
theorem lowL_step (l : List UInt8) (k : Nat) (hk : k < l.length) : (lowL l k).set k (lowB (l.getD k 0)) = lowL l (k + 1) := by
  have e : l.drop k = l.getD k 0 :: l.drop (k + 1) := by
    rw [List.drop_eq_getElem_cons hk]
    simp [List.getD, List.getElem?_eq_getElem hk]
  have e2 : l.take (k + 1) = l.take k ++ [l.getD k 0] := by
    rw [List.take_add_one, List.getElem?_eq_getElem hk]
    simp [List.getD, List.getElem?_eq_getElem hk]
  unfold lowL
  rw [e, e2, List.map_append, List.set_append_right _ _ (by simp; omega)]
  simp
  rw [show k - min k l.length = 0 by omega]
  simp
def lowS (s : ByteArray) : ByteArray := bstr (s.data.toList.map lowB)
set_option maxHeartbeats 800000 in
set_option maxRecDepth 100000 in
theorem lower_calls (s : ByteArray) (hs : s.size ≤ maxLen) (R : List Asn) (w0 w : World) (H : sat w0 w R) :
    Calls Tryz.prog 178 #[.string s] w fun e w' => e = .returned (.string (lowS s)) ∧ sat w0 w' R := by
  have HH := Lib.hid H
  have hsz : s.data.toList.length = s.size := Array.length_toList
  clear H
  go_enter Tryz.func178, Tryz.ntmps178
  go_wp2_with (refine BigFrame.wpList_want (by rfl) fun K' hK' => ?_; refine op_str_bytes (by rfl) Tryz.underlying9 Tryz.underlying42 Tryz.underlying5 (by rfl) hs HH.out ?_; intro g c w1 H1; refine hK' _ _ ?_; clear hK' K'; have HA := Lib.hid H1; clear H1)
  generalize hl : s.data.toList = l at *
  generalize hn : s.size = n at *
  have HL := Lib.hid hl
  clear hl
  have hcm : n ≤ maxLen := hs
  unfold maxLen at hs hcm
  go_loopw [10] (fun i wr => ∃ k : Nat, k ≤ n ∧ i = .int .i64 k ∧ sat w0 wr (BB (.slice (some ⟨g, 0, none⟩) n c) (lowL l k) :: R)) (fun i _ => n - (intOf i).toNat)
  case atStart => exact ⟨0, Nat.zero_le _, rfl, by simpa [lowL] using HA.out⟩
  case round =>
    obtain ⟨k, hk, rfl, HS⟩ := hrel
    by_cases hkn : k = n
    · subst hkn
      have HC := Lib.hid HS
      clear HS HA
      go_wp2_with (refine wp_conv_str (by rfl) (by rfl) Tryz.underlying42 (by kernel_rfl) Tryz.underlying9 (by rfl) (BB.reads HC.out) ?_)
      go_ret
      refine ⟨?_, HC.out.tail⟩
      have : lowL l k = l.map lowB := by unfold lowL; rw [← hsz, List.take_length, List.drop_length, List.append_nil]
      unfold lowS
      rw [HL.out, ← this]
      rfl
    · have hlt : k < n := by omega
      have d0 : decide ((k : Int) < (n : Int)) = true := by simp; omega
      have hset := BB.set HS (j := k) (by rw [lowL_len]; omega) (lowB (l.getD k 0)) rfl
      rw [lowL_at l k (by omega), lowL_step l k (by omega)] at hset
      obtain ⟨hc0, hf0, hset⟩ := hset
      obtain ⟨cv, hcv⟩ : ∃ cv, cv = l.getD k 0 := ⟨_, rfl⟩
      rw [← hcv] at hset hc0
      replace hc0 : wr.cell? ⟨g, k, none⟩ = some (.int .u8 cv.toNat) := hc0
      have HC := Lib.hid hset
      have HSM := Lib.hid (small_calls cv)
      clear hset HS HA hcv
      generalize (lowB cv).toNat = lw at *
      generalize cv.toNat = cn at *
      go_wp2_with (go_at_call 221; refine (HSM.out _).mono ?_; rintro e w2 ⟨rfl, rfl⟩)
      exact ⟨⟨k + 1, by omega, rfl, HC.out⟩, by simp [intOf]; omega⟩
set_option maxRecDepth 100000 in
theorem token_calls (s : ByteArray) (R : List Asn) (w0 w : World) (H : sat w0 w R) :
    Calls Tryz.prog 355 #[.string s] w fun e w' => e = .returned (.bool (allS pTok s)) ∧ sat w0 w' R := by
  have HC := Lib.hid (all_calls s 361 Tryz.f361 Tryz.func361 (by kernel_rfl) (by kernel_rfl) pTok tok_gives R w0 w H)
  clear H
  generalize allS pTok s = b at *
  go_enter Tryz.func355, Tryz.ntmps355
  go_wp2_with (go_at_call 172; refine HC.out.mono ?_; rintro e w1 ⟨rfl, H1⟩; have HD := Lib.hid H1; clear H1)
  go_ret
  exact ⟨rfl, HD.out⟩
set_option maxRecDepth 100000 in
theorem visible_calls (s : ByteArray) (R : List Asn) (w0 w : World) (H : sat w0 w R) :
    Calls Tryz.prog 145 #[.string s] w fun e w' => e = .returned (.bool (allS pVis s)) ∧ sat w0 w' R := by
  have HC := Lib.hid (all_calls s 185 Tryz.f185 Tryz.func185 (by kernel_rfl) (by kernel_rfl) pVis vis_gives R w0 w H)
  clear H
  generalize allS pVis s = b at *
  go_enter Tryz.func145, Tryz.ntmps145
  go_wp2_with (go_at_call 172; refine HC.out.mono ?_; rintro e w1 ⟨rfl, H1⟩; have HD := Lib.hid H1; clear H1)
  go_ret
  exact ⟨rfl, HD.out⟩
set_option maxRecDepth 100000 in
theorem trim_calls (s : ByteArray) (hs : s.size ≤ 9223372036854775807) (R : List Asn) (w0 w : World) (H : sat w0 w R) :
    Calls Tryz.prog 357 #[.string s] w fun e w' => e = .returned (.string ⟨(Lib.trimS s.data.toList [32, 9]).toArray⟩) ∧ sat w0 w' R := by
  have hc := Any.strings_Trim_laid Tryz.lays160 (by kernel_rfl) s ⟨#[32, 9]⟩ w hs (by decide) (by intro j b h; match j with | 0 => simp at h; subst h; decide | 1 => simp at h; subst h; decide | j + 2 => simp at h)
  have HH := Lib.hid H
  have HC : Hid (Calls Tryz.prog 362 #[.string s, .string ⟨#[32, 9]⟩] w _) := Lib.hid hc
  clear H hc
  go_enter Tryz.func357, Tryz.ntmps357
  go_wp2_with (go_at_call 362; refine HC.out.mono ?_; rintro e w1 ⟨rfl, hb⟩; have HD := Lib.hid hb; clear hb)
  go_ret
  exact ⟨rfl, HH.out.grow HD.out⟩
end Go.Proofs.YtonipcfnhmnnlaaGreatDoor
namespace Go.Proofs.YtonipcfnhmnnlaaGreatDoor
open Go Go.RowKit Hg
set_option linter.unusedVariables false
set_option linter.unusedSimpArgs false
attribute [local go_sem] Lib.run_eql_slice_nil run_min2 run_max2 run_min_two run_max_two
theorem results_row_tmp {fn : Func} {p u : Tmp} {ty : TypeId} (h : fn.results = #[.cell p ty, .tmp u]) (tmps : Array Value) (w : World) (g : Nat) (t : TypeId) (cs : Array Value) (fr : Nat × Nat) (d : TypeDesc)
    (hp : tmps.getD p undef = .pointer (some ⟨g, 0, none⟩)) (hg : w.heap[g]? = some (.cells cs t fr))
    (hd : (match d with | .struct _ | .array _ _ => true | _ => false) = true) (hu : Tryz.prog.underlying ty = some d) (hi : (Tryz.prog.info? ty).map (·.size) = some cs.size) :
    (results fn tmps).run Tryz.prog w = .ok (.tuple #[.agg cs, tmps.getD u undef]) w := by
  rw [results_cell_tmp h, hp]
  have hl := run_loadVar_row (P := Tryz.prog) w g t ty cs fr d hg hu (by cases d <;> first | rfl | exact hd) hi
  simp [asAddr, hl]
/-- The library's one number. -/
def MaxL (w0 : World) : Prop := ∃ m, w0.cell? ⟨0, 0, none⟩ = some (.int .i64 m)
/-- Strings in a new block. -/
def Strs (b : Nat) (l : List ByteArray) : Asn := blk b (.cells (l.map Value.string).toArray 9)
def splitS (s sep : ByteArray) : List ByteArray := Lib.splitB sep 0 (Lib.countB s sep) s
theorem split_sat (s sep : ByteArray) (l : List ByteArray) (n : Nat) (hl : splitS s sep = l) (hn : Lib.countB s sep + 1 = n) (hs : s.size < 4294967281) (h1 : 1 ≤ sep.size) (R : List Asn) (w0 w : World) (hm : MaxL w0) (H : sat w0 w R) :
    Calls Tryz.prog 62 #[.string s, .string sep] w fun e w' => ∃ b : Nat, e = .returned (.slice (some ⟨b, 0, none⟩) n n) ∧ sat w0 w' (Strs b l :: R) := by
  obtain ⟨m, hm⟩ := hm
  refine (Tryz.strings_Split s sep m w hs (H.cell hm) h1).mono ?_
  rintro e w' ⟨rfl, rfl⟩
  refine ⟨w.heap.size, by rw [hn], ?_⟩
  have h := H.alloc (.cells ((Lib.splitB sep 0 (Lib.countB s sep) s).map Value.string).toArray 9)
  rw [show Lib.splitB sep 0 (Lib.countB s sep) s = l from hl] at h ⊢
  exact h
theorem Strs.cell {b : Nat} {l : List ByteArray} {w0 w : World} {R : List Asn} (H : sat w0 w (Strs b l :: R)) (j : Nat) (hj : j < l.length) : w.cell? ⟨b, j, none⟩ = some (.string (l.getD j ByteArray.empty)) := by
  rw [cellAt H.get.1]
  simp [List.getD, List.getElem?_eq_getElem hj]
theorem idx_sat (b : Nat) (l : List ByteArray) (x : ByteArray) (hl : l.length ≤ 1000000) (R : List Asn) (w0 w : World) (H : sat w0 w (Strs b l :: R)) :
    Calls Tryz.prog 167 #[.slice (some ⟨b, 0, none⟩) l.length l.length, .string x] w fun e w' => e = .returned (.int .i64 (Lib.idxOfS l x)) ∧ w' = w := by
  refine (Tryz.slices_Index_string b 0 l.length l.length l x w (Nat.le_refl _) (by omega) (fun j hj => by rw [Nat.zero_add]; exact Strs.cell H j hj)).mono ?_
  rintro e w' ⟨rfl, rfl⟩
  exact ⟨by rw [List.take_length], rfl⟩
/-- What is wrong of a method and a target. -/
def wrongE (m t : ByteArray) : Int := if allS pTok m = false ∨ 32 < m.size then 11 else if allS pVis t = false then 3 else if 8000 < t.size then 6 else 0
set_option maxRecDepth 100000 in
theorem wrong_calls (m t : ByteArray) (hm : m.size ≤ maxLen) (ht : t.size ≤ maxLen) (R : List Asn) (w0 w : World) (H : sat w0 w R) :
    Calls Tryz.prog 349 #[.string m, .string t] w fun e w' => e = .returned (.int .i64 (wrongE m t)) ∧ sat w0 w' R := by
  have HT := Lib.hid (token_calls m)
  have HV := Lib.hid (visible_calls t)
  have HH := Lib.hid H
  have HF := Lib.hid (show wrongE m t = if allS pTok m = false ∨ 32 < m.size then 11 else if allS pVis t = false then 3 else if 8000 < t.size then 6 else 0 from rfl)
  clear H
  generalize wrongE m t = res at *
  generalize allS pTok m = A at *
  generalize allS pVis t = B at *
  cases A <;> cases B <;> by_cases h1 : 32 < m.size <;> by_cases h2 : 8000 < t.size
  all_goals
    have d1 : decide ((32 : Int) < (m.size : Int)) = decide (32 < m.size) := by rw [decide_eq_decide]; omega
    have d2 : decide ((8000 : Int) < (t.size : Int)) = decide (8000 < t.size) := by rw [decide_eq_decide]; omega
    simp only [h1, h2, decide_true, decide_false] at d1 d2
    go_enter Tryz.func349, Tryz.ntmps349
    go_wp2_with (first | (go_at_call 355; refine (HT.out _ w0 _ HH.out).mono ?_; rintro e w1 ⟨rfl, H1⟩; have HA := Lib.hid H1; clear H1) | (go_at_call 145; refine (HV.out _ w0 _ HA.out).mono ?_; rintro e w2 ⟨rfl, H2⟩; have HB := Lib.hid H2; clear H2))
    go_ret
    refine ⟨?_, by first | exact HB.out | exact HA.out⟩
    rw [HF.out]
    simp [h1, h2]
def sGET : ByteArray := ⟨#[71, 69, 84]⟩
def sSlash : ByteArray := ⟨#[47]⟩
def line1 : ByteArray := ⟨#[71, 69, 84, 32, 47, 32, 72, 84, 84, 80, 47, 49, 46, 49]⟩
set_option maxHeartbeats 1600000 in
set_option maxRecDepth 100000 in
theorem parse1_calls (R : List Asn) (w0 w : World) (hm : MaxL w0) (H : sat w0 w R) :
    Calls Tryz.prog 346 #[.string line1] w fun e w' => e = .returned (.tuple #[.agg #[.string sGET, .string sSlash, .int .i64 1], .int .i64 0]) ∧ sat w0 w' R := by
  have HM := Lib.hid hm
  have HH := Lib.hid (H.alloc (.cells #[.string ⟨#[]⟩, .string ⟨#[]⟩, .int .i64 0] 305))
  have HS := Lib.hid (split_sat line1 ⟨#[32]⟩ [sGET, sSlash, ⟨#[72, 84, 84, 80, 47, 49, 46, 49]⟩] 3 (by decide +kernel) (by decide +kernel) (by decide) (by decide))
  clear H hm
  go_enter Tryz.func346, Tryz.ntmps346
  go_wp2_with (go_at_call 62; refine (HS.out _ w0 _ HM.out HH.out).mono ?_; rintro e w1 ⟨b, rfl, H1⟩; have HA := Lib.hid H1; clear H1)
  have h := HA.out.drew
  have c0 : w1.drew.cell? ⟨b, 0, none⟩ = some (.string sGET) := Strs.cell h 0 (by decide)
  have c1 : w1.drew.cell? ⟨b, 1, none⟩ = some (.string sSlash) := Strs.cell h 1 (by decide)
  clear h
  refine wp_region_mix (fun u => ∃ x : World, u = x) [0, 1, 2, 3, 4, 5, 6, 7] [] (by kernel_rfl) (by kernel_rfl) ⟨_, rfl⟩ ?_
  repeat (first | ((first | refine mix_a rfl (by decide +kernel) rfl (fun K hK => ?_) | refine mix_q rfl (by decide +kernel) rfl (fun K hK => ?_)); go_big_quiet_op; refine hK _ ?_; clear hK K) | (refine mix_s rfl rfl (by decide +kernel) ?_; simp only [Act.put, List.setIfInBounds_toArray, List.set_cons_zero, List.set_cons_succ]))
  refine mix_l rfl (by decide +kernel) rfl (fun K hK => ?_)
  refine op_call rfl Tryz.func349 (by kernel_rfl) (by kernel_rfl) (wrong_calls sGET sSlash (by decide) (by decide) _ w0 _ HA.out.drew) rfl ?_
  rintro r w2 ⟨rfl, H2⟩
  refine ⟨_, rfl, ?_⟩
  have HB := Lib.hid H2
  clear H2 HA c0 c1
  rw [show wrongE sGET sSlash = 0 by decide +kernel]
  refine hK _ _ ?_; clear hK K; (try simp only [Act.put, List.setIfInBounds_toArray, List.set_cons_zero, List.set_cons_succ])
  repeat (first | ((first | refine mix_a rfl (by decide +kernel) rfl (fun K hK => ?_) | refine mix_q rfl (by decide +kernel) rfl (fun K hK => ?_)); go_big_quiet_op; refine hK _ ?_; clear hK K) | (refine mix_s rfl rfl (by decide +kernel) ?_; simp only [Act.put, List.setIfInBounds_toArray, List.set_cons_zero, List.set_cons_succ]))
  refine mix_nil ?_
  have h := HB.out.alloc (.cells #[.string ⟨#[72, 84, 84, 80, 47, 49, 46, 48]⟩, .string ⟨#[72, 84, 84, 80, 47, 49, 46, 49]⟩] 9)
  have c2 : ∀ o, (w2.alloc o).cell? ⟨b, 2, none⟩ = some (.string ⟨#[72, 84, 84, 80, 47, 49, 46, 49]⟩) := fun o => Strs.cell (HB.out.alloc o).tail 2 (by decide)
  have HX := Lib.hid (idx_sat w2.heap.size [⟨#[72, 84, 84, 80, 47, 49, 46, 48]⟩, ⟨#[72, 84, 84, 80, 47, 49, 46, 49]⟩] ⟨#[72, 84, 84, 80, 47, 49, 46, 49]⟩ (by decide) _ w0 _ h)
  rw [show Lib.idxOfS [⟨#[72, 84, 84, 80, 47, 49, 46, 48]⟩, ⟨#[72, 84, 84, 80, 47, 49, 46, 49]⟩] ⟨#[72, 84, 84, 80, 47, 49, 46, 49]⟩ = 1 by decide +kernel] at HX
  have HC := Lib.hid h
  clear h
  go_wp2_with (go_at_call 167; refine HX.out.mono ?_; rintro e w3 ⟨rfl, rfl⟩)
  have h := HC.out.drew
  generalize (w2.alloc _) = w3 at h ⊢
  generalize w2.heap.size = nb at *
  have c0 : w3.drew.cell? ⟨b, 0, none⟩ = some (.string sGET) := Strs.cell h.tail 0 (by decide)
  have c1 : w3.drew.cell? ⟨b, 1, none⟩ = some (.string sSlash) := Strs.cell h.tail 1 (by decide)
  have HD := Lib.hid h
  clear h c2 HC HB HX
  refine wp_region_mix (fun u => ∃ x : World, u = x) [0, 1, 2, 3, 4, 5, 6, 7, 8, 9] [] (by kernel_rfl) (by kernel_rfl) ⟨_, rfl⟩ ?_
  repeat (first | ((first | refine mix_a rfl (by decide +kernel) rfl (fun K hK => ?_) | refine mix_q rfl (by decide +kernel) rfl (fun K hK => ?_)); go_big_quiet_op; refine hK _ ?_; clear hK K) | (refine mix_s rfl rfl (by decide +kernel) ?_; simp only [Act.put, List.setIfInBounds_toArray, List.set_cons_zero, List.set_cons_succ]))
  refine mix_l rfl (by decide +kernel) rfl (fun K hK => ?_)
  refine op_store (vs := [.string sGET, .string sSlash, .int .i64 1]) rfl (by kernel_rfl) rfl rfl rfl (by intro u hu; simp only [List.mem_cons, List.not_mem_nil, or_false] at hu; rcases hu with rfl | rfl | rfl <;> rfl) (HD.out.re 3 [2, 0, 1] [] rfl) (Nat.le_refl _) ?_
  intro w4 H4
  have hg : w4.heap[w.heap.size]? = some (.cells #[.string sGET, .string sSlash, .int .i64 1] 305) := H4.get.1
  have HE := Lib.hid (H4.re 3 [] [0, 1, 2] rfl)
  clear H4 HD c0 c1
  refine hK _ _ ?_; clear hK K; (try simp only [Act.put, List.setIfInBounds_toArray, List.set_cons_zero, List.set_cons_succ])
  repeat (first | ((first | refine mix_a rfl (by decide +kernel) rfl (fun K hK => ?_) | refine mix_q rfl (by decide +kernel) rfl (fun K hK => ?_)); go_big_quiet_op; refine hK _ ?_; clear hK K) | (refine mix_s rfl rfl (by decide +kernel) ?_; simp only [Act.put, List.setIfInBounds_toArray, List.set_cons_zero, List.set_cons_succ]))
  refine mix_nil ?_
  go_wp2
  refine bodyPost_ret (results_row_tmp rfl _ _ w.heap.size 305 #[.string sGET, .string sSlash, .int .i64 1] (0, 0) _ rfl hg rfl Tryz.underlying305 (by kernel_rfl)) rfl ?_
  exact ⟨rfl, HE.out⟩
end Go.Proofs.YtonipcfnhmnnlaaGreatDoor
namespace Go.Proofs.YtonipcfnhmnnlaaGreatDoor
open Go Go.RowKit Hg
set_option linter.unusedVariables false
set_option linter.unusedSimpArgs false
attribute [local go_sem] Lib.run_eql_slice_nil run_min2 run_max2 run_min_two run_max_two
theorem cut_sat (s sep a b : ByteArray) (is : Bool) (hc : Lib.cut s.data.toList sep.data.toList = (a.data.toList, b.data.toList, is)) (hs : s.size < 4294967281) (R : List Asn) (w0 w : World) (hm : MaxL w0) (H : sat w0 w R) :
    Calls Tryz.prog 165 #[.string s, .string sep] w fun e w' => e = .returned (.tuple #[.string a, .string b, .bool is]) ∧ sat w0 w' R := by
  obtain ⟨m, hm⟩ := hm
  refine (Tryz.strings_Cut s sep m w hs (H.cell hm)).mono ?_
  rintro e w' ⟨rfl, n, rfl⟩
  rw [hc]
  exact ⟨rfl, H.drewN n⟩
theorem contf_sat (s : ByteArray) (g : Nat) (fn : Func) (hf : Tryz.prog.funcs[g]? = some fn) (hname : (fn.name == "runtime.NumGoroutine") = false) (hb : fn.body.isNone = false) (p : Nat → Bool) (hp : ∀ (W : World) (r : Nat), FnGives Tryz.prog g #[] #[.int .i32 r] (.bool (p r)) W)
    (r : Bool) (hr : decide (0 ≤ Lib.idxFunc p true s) = r) (R : List Asn) (w0 w : World) (H : sat w0 w R) :
    Calls Tryz.prog 181 #[.string s, .func (.func g) #[] #[]] w fun e w' => e = .returned (.bool r) ∧ sat w0 w' R := by
  refine (Tryz.strings_ContainsFunc g #[] (fun args w => callee_of hf hname hb args w) p s w (fun W x _ => hp W x)).mono ?_
  rintro e w' ⟨rfl, hb⟩
  rw [hr]
  exact ⟨rfl, H.grow hb⟩
def line2 : ByteArray := ⟨#[72, 111, 115, 116, 58, 32, 97, 46, 98]⟩
def sHost : ByteArray := ⟨#[72, 111, 115, 116]⟩
def shost : ByteArray := ⟨#[104, 111, 115, 116]⟩
def sAB : ByteArray := ⟨#[97, 46, 98]⟩
def spAB : ByteArray := ⟨#[32, 97, 46, 98]⟩
set_option maxHeartbeats 1600000 in
set_option maxRecDepth 100000 in
theorem fparse_calls (R : List Asn) (w0 w : World) (hm : MaxL w0) (H : sat w0 w R) :
    Calls Tryz.prog 350 #[.string line2] w fun e w' => e = .returned (.tuple #[.agg #[.string shost, .string sAB], .int .i64 0]) ∧ sat w0 w' R := by
  have HM := Lib.hid hm
  have HH := Lib.hid (H.alloc (.cells #[.string ⟨#[]⟩, .string ⟨#[]⟩] 457))
  have HC := Lib.hid (cut_sat line2 ⟨#[58]⟩ sHost spAB true (by decide +kernel) (by decide))
  have HT := Lib.hid (token_calls sHost)
  rw [show allS pTok sHost = true by decide +kernel] at HT
  have HF := Lib.hid (contf_sat spAB 356 Tryz.f356 Tryz.func356 (by kernel_rfl) (by kernel_rfl) pStr str_gives false (by decide +kernel))
  have HL := Lib.hid (lower_calls sHost (by decide))
  rw [show lowS sHost = shost by decide +kernel] at HL
  have HR := Lib.hid (trim_calls spAB (by decide))
  rw [show (⟨(Lib.trimS spAB.data.toList [32, 9]).toArray⟩ : ByteArray) = sAB by decide +kernel] at HR
  clear H hm
  go_enter Tryz.func350, Tryz.ntmps350
  go_wp2_with (first | (go_at_call 165; refine (HC.out _ w0 _ HM.out HH.out).mono ?_; rintro e w1 ⟨rfl, H1⟩; have HA := Lib.hid H1; clear H1) | (go_at_call 355; refine (HT.out _ w0 _ HA.out).mono ?_; rintro e w2 ⟨rfl, H2⟩; have HB := Lib.hid H2; clear H2) | (go_at_call 181; refine (HF.out _ w0 _ HB.out).mono ?_; rintro e w3 ⟨rfl, H3⟩; have HD := Lib.hid H3; clear H3) | (go_at_call 178; refine (HL.out _ w0 _ HD.out).mono ?_; rintro e w4 ⟨rfl, H4⟩; have HE := Lib.hid H4; clear H4) | (go_at_call 357; refine (HR.out _ w0 _ HE.out).mono ?_; rintro e w5 ⟨rfl, H5⟩; have HG := Lib.hid H5; clear H5) | (refine BigFrame.wpList_want (by rfl) fun K' hK' => ?_; refine op_store (vs := [.string shost, .string sAB]) (by rfl) (by kernel_rfl) (by rfl) (by rfl) (by rfl) (by intro u hu; simp only [List.mem_cons, List.not_mem_nil, or_false] at hu; rcases hu with rfl | rfl <;> rfl) HG.out (Nat.le_refl _) ?_; intro w6 H6; refine hK' _ _ ?_; clear hK' K'; have hg : w6.heap[w.heap.size]? = some (.cells #[.string shost, .string sAB] 457) := H6.get.1; have HI := Lib.hid H6.tail; clear H6))
  refine bodyPost_ret (results_row_tmp rfl _ _ w.heap.size 457 #[.string shost, .string sAB] (0, 0) _ rfl hg rfl Tryz.underlying457 (by kernel_rfl)) rfl ?_
  exact ⟨rfl, HI.out⟩
/-- Fields: a name, a text. -/
def flds (l : List (ByteArray × ByteArray)) : List Value := l.flatMap fun p => [.string p.1, .string p.2]
def RowF (v : Value) (l : List (ByteArray × ByteArray)) : Asn := RowC 457 2 v l.length (flds l)
set_option maxHeartbeats 1600000 in
set_option maxRecDepth 100000 in
theorem find_calls (v : Value) (R : List Asn) (w0 w : World) (H : sat w0 w (RowF v [(shost, sAB)] :: R)) :
    Calls Tryz.prog 351 #[v, .string shost] w fun e w' => e = .returned (.tuple #[.string sAB, .int .i64 1]) ∧ sat w0 w' (RowF v [(shost, sAB)] :: R) := by
  rcases (RowC.blk_of H).2 with ⟨_, h0, _⟩ | ⟨b, c, cur, rfl, h1, h2, h3, h4, h5⟩
  · cases h0
  have hr := (RowC.readsC H).2
  have hcell : ∀ (w' : World), sat w0 w' (RowF (.slice (some ⟨b, 0, none⟩) 1 c) [(shost, sAB)] :: R) → w'.cell? ⟨b, 0, none⟩ = some (.string shost) ∧ w'.cell? ⟨b, 1, none⟩ = some (.string sAB) := fun w' h => by
    rcases (RowC.readsC h).2 with ⟨h0, _⟩ | ⟨ad, c', h0, _, _, hh⟩
    · cases h0
    · injection h0 with h0 _ _
      injection h0 with h0
      have a0 := hh 0 (.string shost) rfl
      have a1 := hh 1 (.string sAB) rfl
      rw [← h0, addAt] at a0 a1
      exact ⟨a0, a1⟩
  have HL := Lib.hid (lower_calls shost (by decide))
  rw [show lowS shost = shost by decide +kernel] at HL
  have HH := Lib.hid H
  have HCE := Lib.hid hcell
  clear H hr h3 h4 h5 hcell
  have dS : (shost != shost) = false := by decide +kernel
  go_enter Tryz.func351, Tryz.ntmps351
  go_wp2_with (go_at_call 178; refine (HL.out _ w0 _ HH.out).mono ?_; rintro e w1 ⟨rfl, H1⟩; have HA := Lib.hid H1; clear H1)
  go_loopw [4, 5, 12] (fun t n i wr => ((t = .string ⟨#[]⟩ ∧ n = .int .i64 0 ∧ i = .int .i64 0) ∨ (t = .string sAB ∧ n = .int .i64 1 ∧ i = .int .i64 1)) ∧ sat w0 wr (RowF (.slice (some ⟨b, 0, none⟩) 1 c) [(shost, sAB)] :: R)) (fun _ _ i _ => 1 - (intOf i).toNat)
  case atStart => exact ⟨.inl ⟨rfl, rfl, rfl⟩, HA.out⟩
  case round =>
    obtain ⟨hrel, HS⟩ := hrel
    have HB := Lib.hid HS
    rcases hrel with ⟨rfl, rfl, rfl⟩ | ⟨rfl, rfl, rfl⟩
    · have hc := HCE.out _ HS
      obtain ⟨hc0, hc1⟩ := hc
      clear HS HA
      have hc1 : wr.cell? ⟨b, 0 + 1, none⟩ = some (.string sAB) := hc1
      generalize hsh : shost = sh at *
      generalize hab : sAB = ab at *
      go_wp2
      exact ⟨⟨.inr ⟨rfl, rfl, rfl⟩, HB.out.alloc _ |>.tail⟩, by simp [intOf]⟩
    · clear HS HA
      go_wp2
      go_ret2
      exact ⟨rfl, HB.out⟩
end Go.Proofs.YtonipcfnhmnnlaaGreatDoor
namespace Go.Proofs.YtonipcfnhmnnlaaGreatDoor
open Go Go.RowKit Hg
set_option linter.unusedVariables false
set_option linter.unusedSimpArgs false
attribute [local go_sem] Lib.run_eql_slice_nil run_min2 run_max2 run_min_two run_max_two
set_option maxRecDepth 100000 in
theorem auth_calls (R : List Asn) (w0 w : World) (H : sat w0 w R) :
    Calls Tryz.prog 353 #[.string sSlash] w fun e w' => e = .returned (.tuple #[.string ⟨#[]⟩, .bool false]) ∧ sat w0 w' R := by
  have HH := Lib.hid H
  clear H
  have hz : sSlash.size = 1 := rfl
  go_enter Tryz.func353, Tryz.ntmps353
  go_wp2
  go_ret2
  exact ⟨rfl, HH.out⟩
set_option maxHeartbeats 800000 in
set_option maxRecDepth 100000 in
theorem form_calls (R : List Asn) (w0 w : World) (H : sat w0 w R) :
    Calls Tryz.prog 352 #[.agg #[.string sGET, .string sSlash, .int .i64 1]] w fun e w' => e = .returned (.int .i64 1) ∧ sat w0 w' R := by
  have h := H.alloc (.cells #[.string sGET, .string sSlash, .int .i64 1] 305)
  have HA := Lib.hid (auth_calls _ w0 _ h)
  have HP := Lib.hid (Tryz.strings_HasPrefix sSlash ⟨#[47]⟩)
  rw [show Lib.hasPrefix sSlash.data.toList (⟨#[47]⟩ : ByteArray).data.toList = true by decide +kernel] at HP
  clear H h
  have e1 : (sGET.toList == [67, 79, 78, 78, 69, 67, 84]) = false := by decide +kernel
  have e2 : (sSlash.toList == [42]) = false := by decide +kernel
  go_enter Tryz.func352, Tryz.ntmps352
  go_wp2_with (go_at_call 353; refine HA.out.mono ?_; rintro e w1 ⟨rfl, H1⟩; have c0 : w1.cell? ⟨w.heap.size, 0, none⟩ = some (.string sGET) := cellAt H1.get.1 0; have c1 : w1.cell? ⟨w.heap.size, 1, none⟩ = some (.string sSlash) := cellAt H1.get.1 1; have HB := Lib.hid H1; clear H1)
  clear c0 c1
  have c1 : w1.drew.cell? ⟨w.heap.size, 1, none⟩ = some (.string sSlash) := cellAt HB.out.drew.get.1 1
  refine wp_region_mix (fun u => ∃ x : World, u = x) [0, 1, 2, 3, 4] [] (by kernel_rfl) (by kernel_rfl) ⟨_, rfl⟩ ?_
  repeat (first | ((first | refine mix_a rfl (by decide +kernel) rfl (fun K hK => ?_) | refine mix_q rfl (by decide +kernel) rfl (fun K hK => ?_)); go_big_quiet_op; refine hK _ ?_; clear hK K) | (refine mix_s rfl rfl (by decide +kernel) ?_; simp only [Act.put, List.setIfInBounds_toArray, List.set_cons_zero, List.set_cons_succ]))
  refine mix_l rfl (by decide +kernel) rfl (fun K hK => ?_)
  refine op_call rfl Tryz.func103 (by kernel_rfl) (by kernel_rfl) (HP.out _) rfl ?_
  rintro r w2 ⟨rfl, rfl⟩
  refine ⟨_, rfl, ?_⟩
  refine hK _ _ ?_; clear hK K; (try simp only [Act.put, List.setIfInBounds_toArray, List.set_cons_zero, List.set_cons_succ])
  repeat (first | ((first | refine mix_a rfl (by decide +kernel) rfl (fun K hK => ?_) | refine mix_q rfl (by decide +kernel) rfl (fun K hK => ?_)); go_big_quiet_op; refine hK _ ?_; clear hK K) | (refine mix_s rfl rfl (by decide +kernel) ?_; simp only [Act.put, List.setIfInBounds_toArray, List.set_cons_zero, List.set_cons_succ]))
  refine mix_nil ?_
  go_wp2
  go_ret
  exact ⟨rfl, HB.out.drew.tail⟩
set_option maxHeartbeats 800000 in
set_option maxRecDepth 100000 in
theorem split_calls (R : List Asn) (w0 w : World) (H : sat w0 w R) :
    Calls Tryz.prog 360 #[.string sAB] w fun e w' => e = .returned (.tuple #[.string sAB, .string ⟨#[]⟩, .int .i64 0]) ∧ sat w0 w' R := by
  have HH := Lib.hid H
  have HP := Lib.hid (Tryz.strings_HasPrefix sAB ⟨#[58]⟩)
  rw [show Lib.hasPrefix sAB.data.toList (⟨#[58]⟩ : ByteArray).data.toList = false by decide +kernel] at HP
  have HV := Lib.hid (visible_calls sAB)
  rw [show allS pVis sAB = true by decide +kernel] at HV
  have HC := Lib.hid (Tryz.strings_Contains_one sAB 64)
  rw [show decide (0 ≤ Lib.indexByte sAB.data.toList 64) = false by decide +kernel] at HC
  have HX := Lib.hid (Tryz.strings_CutPrefix sAB ⟨#[91]⟩)
  rw [show Lib.hasPrefix sAB.data.toList (⟨#[91]⟩ : ByteArray).data.toList = false by decide +kernel, show (⟨(Lib.trimPrefix sAB.data.toList (⟨#[91]⟩ : ByteArray).data.toList).toArray⟩ : ByteArray) = sAB by decide +kernel] at HX
  have HI := Lib.hid (Tryz.strings_Index_one (sAB ++ ⟨#[58]⟩) 58)
  rw [show Lib.indexByte (sAB ++ (⟨#[58]⟩ : ByteArray)).data.toList 58 = 3 by decide +kernel] at HI
  have e1 : sAB.toList.isEmpty = false := by decide +kernel
  have hz : sAB.size = 3 := rfl
  clear H
  go_enter Tryz.func360, Tryz.ntmps360
  go_wp2_with (first | (go_at_call 103; refine (HP.out _).mono ?_; rintro e w1 ⟨rfl, rfl⟩) | (go_at_call 145; refine (HV.out _ w0 _ HH.out).mono ?_; rintro e w2 ⟨rfl, H2⟩; have HA := Lib.hid H2; clear H2) | (go_at_call 175; refine (HC.out _).mono ?_; rintro e w3 ⟨rfl, rfl⟩) | (go_at_call 110; refine (HX.out _).mono ?_; rintro e w4 ⟨rfl, rfl⟩) | (go_at_call 136; refine (HI.out _).mono ?_; rintro e w5 ⟨rfl, rfl⟩))
  refine wp_region_mix (fun u => ∃ x : World, u = x) [0, 1, 2, 3, 4, 5, 6, 7, 8] [] (by kernel_rfl) (by kernel_rfl) ⟨_, rfl⟩ ?_
  repeat (first | ((first | refine mix_a rfl (by decide +kernel) rfl (fun K hK => ?_) | refine mix_q rfl (by decide +kernel) rfl (fun K hK => ?_)); go_big_quiet_op; refine hK _ ?_; clear hK K) | (refine mix_s rfl rfl (by decide +kernel) ?_; simp only [Act.put, List.setIfInBounds_toArray, List.set_cons_zero, List.set_cons_succ]))
  refine mix_nil ?_
  go_wp2
  go_ret3
  exact ⟨by rw [show sAB.extract 0 3 = sAB by decide +kernel]; rfl, HA.out.drew⟩
set_option maxRecDepth 100000 in
theorem aparse_calls (R : List Asn) (w0 w : World) (H : sat w0 w R) :
    Calls Tryz.prog 354 #[.string sAB] w fun e w' => e = .returned (.tuple #[.string sAB, .int .i64 0, .int .i64 0]) ∧ sat w0 w' R := by
  have HC := Lib.hid (split_calls R w0 w H)
  clear H
  go_enter Tryz.func354, Tryz.ntmps354
  go_wp2_with (go_at_call 360; refine HC.out.mono ?_; rintro e w1 ⟨rfl, H1⟩; have HA := Lib.hid H1; clear H1)
  go_ret3
  exact ⟨rfl, HA.out⟩
set_option maxHeartbeats 800000 in
set_option maxRecDepth 100000 in
theorem of1_calls (v : Value) (R : List Asn) (w0 w : World) (H : sat w0 w (RowF v [(shost, sAB)] :: R)) :
    Calls Tryz.prog 348 #[.agg #[.string sGET, .string sSlash, .int .i64 1], v] w fun e w' => e = .returned (.tuple #[.string sAB, .int .i64 0, .int .i64 0]) ∧ sat w0 w' (RowF v [(shost, sAB)] :: R) := by
  have h := H.alloc (.cells #[.string sGET, .string sSlash, .int .i64 1] 305)
  have HF := Lib.hid (find_calls v (blk w.heap.size (.cells #[.string sGET, .string sSlash, .int .i64 1] 305) :: R) w0 _ h.swap)
  clear H h
  go_enter Tryz.func348, Tryz.ntmps348
  go_wp2_with (first | (go_at_call 351; refine HF.out.mono ?_; rintro e w1 ⟨rfl, H1⟩; have c0 : w1.cell? ⟨w.heap.size, 0, none⟩ = some (.string sGET) := cellAt H1.tail.get.1 0; have c1 : w1.cell? ⟨w.heap.size, 1, none⟩ = some (.string sSlash) := cellAt H1.tail.get.1 1; have c2 : w1.cell? ⟨w.heap.size, 2, none⟩ = some (.int .i64 1) := cellAt H1.tail.get.1 2; have HA := Lib.hid H1; clear H1) | (go_at_call 352; refine (form_calls _ w0 _ HA.out).mono ?_; rintro e w2 ⟨rfl, H2⟩; have HB := Lib.hid H2; clear H2) | (go_at_call 354; refine (aparse_calls _ w0 _ HB.out).mono ?_; rintro e w3 ⟨rfl, H3⟩; have HC := Lib.hid H3; clear H3))
  go_ret3
  exact ⟨rfl, HC.out.re 2 [0] [1] rfl⟩
end Go.Proofs.YtonipcfnhmnnlaaGreatDoor
