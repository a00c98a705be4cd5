/- The first bytes of a client. -/
import Derived.Test.YtonipcfnhmnnlaaGreatDoorCT42
namespace Go.Proofs.YtonipcfnhmnnlaaGreatDoor
open Go Go.RowKit Hg
set_option linter.unusedVariables false
set_option linter.unusedSimpArgs false
attribute [local go_sem] Lib.run_eql_slice_nil run_min2 run_max2 run_min_two run_max_two
set_option maxHeartbeats 3200000 in
set_option maxRecDepth 100000 in
theorem first_calls (g N fu ub pn : Nat) (c : CS) (hst : c.st = 0) (Bu : List UInt8) (b : Value) (m more : List UInt8) (hmm : m = HD ++ more) (hlen : m.length ≤ 100000) (hu : RH Bu fu []) (lu : Bu.length = N) (hN : N ≤ 65536) (pv : Value)
    (R : List Asn) (w0 w : World) (hm : MaxL w0) (H : sat w0 w (CN g c :: SnK c.s 0 :: PB c.p pv 16384 0 false :: Row pv [] :: JA c.j :: RG c.u ub N fu 0 :: Bys ub Bu :: R)) (hs : Rd w0 R b m) :
    Calls Tryz.prog 72 #[.pointer (some ⟨g, 0, none⟩), b] w fun e w' => ∃ v pv' : Value, ∃ Bu' : List UInt8, e = .returned (.tuple #[.int .i64 (29 + min more.length N : Nat), v]) ∧ RH Bu' fu (more.take N) ∧ Bu'.length = N ∧
      sat w0 w' (RowA v [⟨0, ⟨#[]⟩, 0⟩] :: CN g { c with vs := 1, vp := 2, vu := 29, vh := sAB, al := true, why := 1, rule := -1, st := 1, due := 1000 } :: PB c.p pv' 16384 0 false :: Row pv' HD :: JA c.j :: RG c.u ub N fu (more.take N).length :: Bys ub Bu' :: R) := by
  have hml : m.length = 29 + more.length := by rw [hmm]; simp [HD]; omega
  obtain ⟨bb, off, cp, hb, hcp⟩ := (show ∃ bb off cp, b = .slice (some ⟨bb, off, none⟩) m.length cp ∧ m.length ≤ cp by
    rcases (hs w (satDrop (L := [_, _, _, _, _, _, _]) H)).cases with ⟨_, e⟩ | ⟨ad, cap, e, h1, h2, h3⟩
    · rw [e] at hml; simp at hml; omega
    · obtain ⟨b', off', rfl⟩ := cell_spot (h3 0 (by omega))
      exact ⟨b', off', cap, e, h1⟩)
  subst hb
  have c27 : w.cell? ⟨g, 27, none⟩ = some (.pointer (some ⟨c.s, 0, none⟩)) := CN.at g c H 27
  have c0 : w.cell? ⟨g, 0, none⟩ = some (.pointer (some ⟨c.j, 0, none⟩)) := CN.at g c H 0
  have HT := Lib.hid (show Calls Tryz.prog 57 #[.pointer (some ⟨c.s, 0, none⟩), .slice (some ⟨bb, off, none⟩) m.length cp] w (fun e w' => e = .returned (.tuple #[.int .i64 29, .agg #[.int .i64 1, .int .i64 2, .int .i64 29, .int .i64 0, .string sAB, .int .i64 0, .bool false, .string ⟨#[]⟩, .slice none 0 0, .slice none 0 0, .bool false]]) ∧ sat w0 w' (SnK c.s 29 :: CN g c :: PB c.p pv 16384 0 false :: Row pv [] :: JA c.j :: RG c.u ub N fu 0 :: Bys ub Bu :: R)) from sntake_calls c.s _ m more hmm (by omega) (CN g c :: PB c.p pv 16384 0 false :: Row pv [] :: JA c.j :: RG c.u ub N fu 0 :: Bys ub Bu :: R) w0 w hm H.swap (fun w' hw' => hs w' (satDrop (L := [_, _, _, _, _, _]) hw')))
  have HS := Lib.hid hs
  have HM := Lib.hid hm
  have HF := Lib.hid (And.intro hmm (And.intro hml (And.intro hlen (And.intro hcp (And.intro hu (And.intro lu hN))))))
  have htk : HD = m.take 29 := by rw [hmm]; rfl
  have HTK := Lib.hid htk
  have hl0 : (29 : Int) ≤ m.length ∧ (m.length : Int) ≤ cp ∧ (m.length : Int) ≤ 100000 := by omega
  clear H hs hm hmm hml hlen hcp hu lu hN htk
  generalize hL : m.length = ml at *
  go_enter Tryz.func72, Tryz.ntmps72
  go_wp2_with (go_at_call 57; refine HT.out.mono ?_; rintro e w1 ⟨rfl, H1⟩; have h1 := (H1.alloc (.cells #[.int .i64 1, .int .i64 2, .int .i64 29, .int .i64 0, .string sAB, .int .i64 0, .bool false, .string ⟨#[]⟩, .slice none 0 0, .slice none 0 0, .bool false] 83)).drew; have a28 : (w1.alloc (.cells #[.int .i64 1, .int .i64 2, .int .i64 29, .int .i64 0, .string sAB, .int .i64 0, .bool false, .string ⟨#[]⟩, .slice none 0 0, .slice none 0 0, .bool false] 83)).drew.cell? ⟨g, 28, none⟩ = some (.pointer (some ⟨c.p, 0, none⟩)) := CN.at g c h1.tail.tail 28; have a0 : (w1.alloc (.cells #[.int .i64 1, .int .i64 2, .int .i64 29, .int .i64 0, .string sAB, .int .i64 0, .bool false, .string ⟨#[]⟩, .slice none 0 0, .slice none 0 0, .bool false] 83)).drew.cell? ⟨g, 0, none⟩ = some (.pointer (some ⟨c.j, 0, none⟩)) := CN.at g c h1.tail.tail 0; have HA := Lib.hid h1; clear H1 h1 HT)
  refine wp_region_mix (fun u => ∃ x : World, u = x) [0, 1, 2, 3, 4, 5, 6, 7] [] (by kernel_rfl) (by kernel_rfl) ⟨_, rfl⟩ ?_

  repeat (first | ((first | refine mix_a rfl (by decide +kernel) rfl (fun K hK => ?_) | refine mix_q rfl (by decide +kernel) rfl (fun K hK => ?_)); go_big_quiet_op; refine hK _ ?_; clear hK K) | (refine mix_s rfl rfl (by decide +kernel) ?_; simp only [Act.put, List.setIfInBounds_toArray, List.set_cons_zero, List.set_cons_succ]))
  refine mix_l rfl (by decide +kernel) rfl (fun K hK => ?_)
  refine op_call rfl Tryz.func114 (by kernel_rfl) (by kernel_rfl) (padd_calls c.p pv [] 16384 0 false (.slice (some ⟨bb, off, none⟩) 29 cp) HD (blk w1.heap.size (.cells #[.int .i64 1, .int .i64 2, .int .i64 29, .int .i64 0, .string sAB, .int .i64 0, .bool false, .string ⟨#[]⟩, .slice none 0 0, .slice none 0 0, .bool false] 83) :: CN g c :: JA c.j :: RG c.u ub N fu 0 :: Bys ub Bu :: R) w0 _ (HA.out.re 8 [3, 4, 0, 2, 5, 6, 7] [1] rfl) (fun w' hw' => by rw [HTK.out]; exact Reads.take' (HS.out _ (satDrop (L := [_, _, _, _, _]) hw')) (by have := HF.out.2.1; omega)) (by decide) (by decide) (by decide)) rfl ?_
  rintro r w4 ⟨v', rfl, H4⟩
  refine ⟨_, rfl, ?_⟩
  have h4 : sat w0 w4 (blk w1.heap.size (.cells #[.int .i64 1, .int .i64 2, .int .i64 29, .int .i64 0, .string sAB, .int .i64 0, .bool false, .string ⟨#[]⟩, .slice none 0 0, .slice none 0 0, .bool false] 83) :: PB c.p v' 16384 0 false :: Row v' HD :: CN g c :: JA c.j :: RG c.u ub N fu 0 :: Bys ub Bu :: R) := H4.re 3 [2, 0, 1] [] rfl
  generalize w1.heap.size = vb at *
  have y0 : w4.cell? ⟨vb, 0, none⟩ = some (.int .i64 1) := cellAt h4.get.1 0
  have y1 : w4.cell? ⟨vb, 1, none⟩ = some (.int .i64 2) := cellAt h4.get.1 1
  have y2 : w4.cell? ⟨vb, 2, none⟩ = some (.int .i64 29) := cellAt h4.get.1 2
  have y3 : w4.cell? ⟨vb, 3, none⟩ = some (.int .i64 0) := cellAt h4.get.1 3
  have y4 : w4.cell? ⟨vb, 4, none⟩ = some (.string sAB) := cellAt h4.get.1 4
  have y5 : w4.cell? ⟨vb, 5, none⟩ = some (.int .i64 0) := cellAt h4.get.1 5
  have y6 : w4.cell? ⟨vb, 6, none⟩ = some (.bool false) := cellAt h4.get.1 6
  have y7 : w4.cell? ⟨vb, 7, none⟩ = some (.string ⟨#[]⟩) := cellAt h4.get.1 7
  have y8 : w4.cell? ⟨vb, 8, none⟩ = some (.slice none 0 0) := cellAt h4.get.1 8
  have y9 : w4.cell? ⟨vb, 9, none⟩ = some (.slice none 0 0) := cellAt h4.get.1 9
  have y10 : w4.cell? ⟨vb, 10, none⟩ = some (.bool false) := cellAt h4.get.1 10
  have e0 : w4.cell? ⟨g, 0, none⟩ = some (.pointer (some ⟨c.j, 0, none⟩)) := CN.at g c h4.tail.tail.tail 0
  have HB := Lib.hid (show sat w0 w4 (CN g c :: JA c.j :: blk vb (.cells #[.int .i64 1, .int .i64 2, .int .i64 29, .int .i64 0, .string sAB, .int .i64 0, .bool false, .string ⟨#[]⟩, .slice none 0 0, .slice none 0 0, .bool false] 83) :: PB c.p v' 16384 0 false :: Row v' HD :: RG c.u ub N fu 0 :: Bys ub Bu :: R) from h4.re 7 [3, 4, 0, 1, 2, 5, 6] [] rfl)
  clear H4 h4 HA a28 a0 c27 c0
  refine hK _ _ ?_; clear hK K; (try simp only [Act.put, List.setIfInBounds_toArray, List.set_cons_zero, List.set_cons_succ])
  repeat (first | ((first | refine mix_a rfl (by decide +kernel) rfl (fun K hK => ?_) | refine mix_q rfl (by decide +kernel) rfl (fun K hK => ?_)); go_big_quiet_op; refine hK _ ?_; clear hK K) | (refine mix_s rfl rfl (by decide +kernel) ?_; simp only [Act.put, List.setIfInBounds_toArray, List.set_cons_zero, List.set_cons_succ]))
  refine mix_nil ?_
  go_wp2_with (go_at_call 84; refine (condecide_calls g c _ w0 _ HM.out HB.out).mono ?_; rintro e w5 ⟨va, rfl, H5⟩; have i26 : w5.cell? ⟨g, 26, none⟩ = some (.int .i64 1) := CN.at g _ H5.tail 26; have h5 := H5.drew; have i29 : w5.drew.cell? ⟨g, 29, none⟩ = some (.pointer (some ⟨c.u, 0, none⟩)) := CN.at g _ h5.tail 29; have i0 : w5.drew.cell? ⟨g, 0, none⟩ = some (.pointer (some ⟨c.j, 0, none⟩)) := CN.at g _ h5.tail 0; have i00 : w5.cell? ⟨g, 0, none⟩ = some (.pointer (some ⟨c.j, 0, none⟩)) := CN.at g _ H5.tail 0; have HC := Lib.hid h5; clear H5 h5 HB)
  refine wp_region_mix (fun u => ∃ x : World, u = x) [0, 1, 2, 3, 4, 5, 6, 7, 8, 9, 10, 11] [0] (by kernel_rfl) (by kernel_rfl) ⟨_, rfl⟩ ?_
  repeat (first | ((first | refine mix_a rfl (by decide +kernel) rfl (fun K hK => ?_) | refine mix_q rfl (by decide +kernel) rfl (fun K hK => ?_)); go_big_quiet_op; refine hK _ ?_; clear hK K) | (refine mix_s rfl rfl (by decide +kernel) ?_; simp only [Act.put, List.setIfInBounds_toArray, List.set_cons_zero, List.set_cons_succ]))
  refine mix_lC rfl rfl rfl (fun K hK => ?_)
  have hrd : ∀ w', sat w0 w' R → Reads w' (.slice (if cp = 29 then some ⟨bb, off, none⟩ else some ⟨bb, off + 29, none⟩) (ml - 29) (cp - 29)) more := fun w' hw' => by
    have h := HS.out w' hw'
    obtain ⟨hmm, hml, hlen, hcp, _⟩ := HF.out
    have hd : m.drop 29 = more := by rw [hmm]; rfl
    rw [← hd]
    split
    · rename_i hc
      have e1 : ml - 29 = 0 := by omega
      rw [e1]
      exact Reads.dropAll h (by omega) ⟨rfl, rfl, by rw [hc]; decide⟩
    · exact Reads.drop h 29 (by omega)
  refine op_call rfl Tryz.func115 (by kernel_rfl) (by kernel_rfl) (rpush_calls c.u ub N fu Bu [] more _ (RowA va [⟨0, ⟨#[]⟩, 0⟩] :: CN g { c with vs := 1, vp := 2, vu := 29, vh := sAB, al := true, why := 1, rule := -1, st := 1, due := 1000 } :: JA c.j :: blk vb (.cells #[.int .i64 1, .int .i64 2, .int .i64 29, .int .i64 0, .string sAB, .int .i64 0, .bool false, .string ⟨#[]⟩, .slice none 0 0, .slice none 0 0, .bool false] 83) :: PB c.p v' 16384 0 false :: Row v' HD :: R) w0 _ HF.out.2.2.2.2.1 HF.out.2.2.2.2.2.1 HF.out.2.2.2.2.2.2 (by have := HF.out.2.1; have := HF.out.2.2.1; omega) (HC.out.re 8 [6, 7, 0, 1, 2, 3, 4, 5] [] rfl) (fun w' hw' => hrd w' (satDrop (L := [_, _, _, _, _, _]) hw'))) rfl ?_
  rintro r w6 ⟨Bu', rfl, hr1, hr2, H6⟩
  refine ⟨_, rfl, hK _ _ ⟨_, rfl⟩ ?_⟩
  have HE := Lib.hid H6
  have HRR := Lib.hid (And.intro hr1 hr2)
  clear hK K H6 HC hr1 hr2
  simp only [Act.put, List.setIfInBounds_toArray, List.set_cons_zero, List.set_cons_succ]
  repeat (first | ((first | refine mix_a rfl (by decide +kernel) rfl (fun K hK => ?_) | refine mix_q rfl (by decide +kernel) rfl (fun K hK => ?_)); go_big_quiet_op; refine hK _ ?_; clear hK K) | (refine mix_s rfl rfl (by decide +kernel) ?_; simp only [Act.put, List.setIfInBounds_toArray, List.set_cons_zero, List.set_cons_succ]))
  refine mix_nil ?_
  go_wp2
  all_goals go_ret2
  all_goals refine ⟨va, ?_, v', Bu', HRR.out.1, HRR.out.2, ?_⟩
  all_goals first | (have h7 : sat w0 w6 (RowA va [⟨0, ⟨#[]⟩, 0⟩] :: CN g { c with vs := 1, vp := 2, vu := 29, vh := sAB, al := true, why := 1, rule := -1, st := 1, due := 1000 } :: PB c.p v' 16384 0 false :: Row v' HD :: JA c.j :: RG c.u ub N fu (more.take N).length :: Bys ub Bu' :: R) := HE.out.re 8 [2, 3, 6, 7, 4, 0, 1] [5] rfl; simpa using h7) | skip
  all_goals (have hw : wrap64 (29 + ((min more.length N : Nat) : Int)) = 29 + ((min more.length N : Nat) : Int) := (by have := HF.out.2.2.2.2.2.2; unfold wrap64; omega))
  all_goals simp [Act.put, hw]
end Go.Proofs.YtonipcfnhmnnlaaGreatDoor
