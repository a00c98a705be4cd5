/- A connection: bytes go up, and down. A connection takes bytes of its client. -/
import Derived.Test.YtonipcfnhmnnlaaGreatDoorCT8
namespace Go.Proofs.YtonipcfnhmnnlaaGreatDoor
open Go Go.RowKit Hg
set_option linter.unusedVariables false
set_option linter.unusedSimpArgs false
attribute [local go_sem] Lib.run_eql_slice_nil run_min2 run_max2 run_min_two run_max_two
set_option maxHeartbeats 1600000 in
set_option maxRecDepth 100000 in
theorem canup_calls (g at_ b N f n : Nat) (hn : 1 ≤ n ∧ n ≤ 9999) (c : CS) (hst : c.st = 2) (v : Value) (l B L P U : List UInt8) (R : List Asn) (w0 w : World) (hat : at_ ≤ l.length) (hl : l.length ≤ 16384) (h : RH B f L) (hB : B.length = N) (hN : N ≤ 65536)
    (hP : P = (l.drop at_).take n) (hU : U = L.take (n - P.length)) (fin all : Bool) (hfin : fin = (decide ((l.length - (at_ + P.length)) + (L.drop (n - P.length)).length = 0) && c.ue && !c.ut)) (hall : all = ((c.ut || fin) && c.dt))
    (H : sat w0 w (CN g c :: PB c.p v 16384 at_ false :: Row v l :: RG c.u b N f L.length :: Bys b B :: R)) :
    Calls Tryz.prog 44 #[.pointer (some ⟨g, 0, none⟩), .int .i64 n] w fun e w' => ∃ (v' : Value) (t : Int) (f' : Nat), e = .returned v' ∧ RH B f' (L.drop (n - P.length)) ∧
      sat w0 w' (RowA v' (goesL 1 (P ++ U) fin all) :: CN g { c with due := t, ut := c.ut || fin, st := if all then 4 else c.st } :: PB c.p v 16384 (at_ + P.length : Nat) false :: Row v l :: RG c.u b N f' (L.drop (n - P.length)).length :: Bys b B :: R) := by
  obtain ⟨av, cv, rfl, hv1, hv2⟩ := Row.form H.tail.tail
  have hPl : P.length ≤ n := by rw [hP, List.length_take]; omega
  have hPl2 : at_ + P.length ≤ l.length := by rw [hP, List.length_take, List.length_drop]; omega
  have hPn : ((n : Int) - P.length).toNat = n - P.length := by omega
  have HH := Lib.hid H
  have c26 : w.cell? ⟨g, 26, none⟩ = some (.int .i64 c.st) := CN.at g c H 26
  rw [hst] at c26
  have c28 : w.cell? ⟨g, 28, none⟩ = some (.pointer (some ⟨c.p, 0, none⟩)) := CN.at g c H 28
  have d1 : decide ((n : Int) < 1) = false := by simp; omega
  have HN := Lib.hid (pnext_calls c.p (.slice av l.length cv) l 16384 at_ false n (CN g c :: RG c.u b N f L.length :: Bys b B :: R) w0 w (H.re 3 [1, 2, 0] [] rfl) hat hl)
  rw [Int.toNat_natCast, ← hP] at HN
  have HHP := Lib.hid hP
  have HHU := Lib.hid hU
  have HHB := Lib.hid (And.intro h hB)
  have HL := Lib.hid hl
  have HF := Lib.hid hfin
  have HAL := Lib.hid hall
  clear H hP h hl hat hfin hall
  have hUl : U.length ≤ 65536 := by
    have h := HHB.out.1.2.1
    have h2 := HHB.out.2
    rw [hU, List.length_take]; omega
  clear hU
  generalize hS : (if all then (4 : Int) else c.st) = st'
  have HST := Lib.hid hS
  clear hS
  go_enter Tryz.func44, Tryz.ntmps44
  go_wp2_with (first | (go_at_call 78; refine HN.out.mono ?_; rintro e w1 ⟨v1, rfl, H1⟩; obtain ⟨a1, p1, rfl, _, _⟩ := Row.form H1; have e29 : w1.cell? ⟨g, 29, none⟩ = some (.pointer (some ⟨c.u, 0, none⟩)) := CN.at g c (H1.re 4 [3, 0, 1, 2] [] rfl) 29; have HA := Lib.hid H1; clear H1) | (go_at_call 79; refine (rpop_calls c.u b N f B L ((n : Int) - P.length) (Row (.slice a1 P.length p1) P :: PB c.p (.slice av l.length cv) 16384 (at_ + P.length : Nat) false :: Row (.slice av l.length cv) l :: CN g c :: R) w0 _ HHB.out.1 HHB.out.2 hN (HA.out.re 6 [4, 5, 0, 1, 2, 3] [] rfl)).mono ?_; rw [hPn, ← HHU.out]; rintro e w2 ⟨o, f2, rfl, hr, H2⟩; have HR := Lib.hid hr; have HC := Lib.hid H2; clear H2 hr HA) | (at_builtin; refine BigFrame.wpList_want (by rfl) fun K' hK' => ?_; refine op_append_bytes (l := P) (m := U) (by rfl) Tryz.underlying42 info5 (by rfl) (by rfl) (HC.out.re 4 [3, 0, 1, 2] [] rfl) (by have h := Bys.reads HC.out (off := 0) (n := U.length) (c := U.length) (by omega) (Nat.le_refl _) (by unfold maxLen; omega); rwa [List.drop_zero, List.take_length] at h) (by omega) ?_; intro v4 w4 H4 _; refine hK' _ _ ?_; clear hK' K'; obtain ⟨a4, p4, rfl, _, _⟩ := Row.form H4; have HD := Lib.hid (show sat w0 w4 (Row (.slice a4 (P ++ U).length p4) (P ++ U) :: CN g c :: PB c.p (.slice av l.length cv) 16384 (at_ + P.length : Nat) false :: Row (.slice av l.length cv) l :: RG c.u b N f2 (L.drop (n - P.length)).length :: Bys b B :: R) from H4.re 7 [0, 6, 4, 5, 2, 3] [1] rfl); clear H4 HC))
  clear c26 c28 e29
  generalize hR : (Row (.slice a4 (P ++ U).length p4) (P ++ U) :: CN g c :: PB c.p (.slice av l.length cv) 16384 (at_ + P.length : Nat) false :: Row (.slice av l.length cv) l :: RG c.u b N f2 (L.drop (n - P.length)).length :: Bys b B :: R) = R2 at HD
  have hnon : Nonempty (SW w0 R2) := ⟨⟨_, HD.out.drew⟩⟩
  have k28 : ∀ x : SW w0 R2, x.w.cell? ⟨g, 28, none⟩ = some (.pointer (some ⟨c.p, 0, none⟩)) := fun x => by subst hR; exact CN.at g c x.h.tail 28
  have k29 : ∀ x : SW w0 R2, x.w.cell? ⟨g, 29, none⟩ = some (.pointer (some ⟨c.u, 0, none⟩)) := fun x => by subst hR; exact CN.at g c x.h.tail 29
  have k0 : ∀ x : SW w0 R2, x.w.cell? ⟨g, 0, none⟩ = some (.pointer (some ⟨c.j, 0, none⟩)) := fun x => by subst hR; exact CN.at g c x.h.tail 0
  have c28 := k28 ⟨_, HD.out.drew⟩
  have c29 := k29 ⟨_, HD.out.drew⟩
  have c0 := k0 ⟨_, HD.out.drew⟩
  dsimp only at c28 c29 c0
  refine wp_region_mix (fun u => ∃ x : SW w0 R2, u = x.w) [0, 1, 2, 3, 4, 5, 6, 7, 8, 10, 11, 12, 13, 14, 9, 15, 16, 17, 18] [0, 1, 2, 3, 4, 10, 11, 12, 13, 14] (by kernel_rfl) (by kernel_rfl) ⟨⟨_, HD.out.drew⟩, rfl⟩ ?_
  repeat (first | ((first | refine mix_a rfl (by decide +kernel) rfl (fun K hK => ?_) | refine mix_q rfl (by decide +kernel) rfl (fun K hK => ?_)); go_big_quiet_op; refine hK _ ?_; clear hK K) | (refine mix_s rfl rfl (by decide +kernel) ?_; simp only [Act.put, List.setIfInBounds_toArray, List.set_cons_zero, List.set_cons_succ]))
  refine mix_lC rfl rfl rfl (fun K hK => ?_)
  refine op_call rfl Tryz.func81 (by kernel_rfl) (by kernel_rfl) (pleft_calls c.p av l.length cv 16384 (at_ + P.length) false _ (by subst hR; exact HD.out.drew.tail.tail.get.1) hPl2 (by have := HL.out; omega)) rfl ?_
  rintro r w9 ⟨rfl, m9, rfl⟩
  refine ⟨_, rfl, hK _ _ ⟨⟨_, HD.out.drew.drewN m9⟩, rfl⟩ ?_⟩
  clear hK K
  simp only [Act.put, List.setIfInBounds_toArray, List.set_cons_zero, List.set_cons_succ]
  repeat (first | ((first | refine mix_a rfl (by decide +kernel) rfl (fun K hK => ?_) | refine mix_q rfl (by decide +kernel) rfl (fun K hK => ?_)); go_big_quiet_op; refine hK _ ?_; clear hK K) | (refine mix_s rfl rfl (by decide +kernel) ?_; simp only [Act.put, List.setIfInBounds_toArray, List.set_cons_zero, List.set_cons_succ]))
  refine mix_lC rfl rfl rfl (fun K hK => ?_)
  refine op_call rfl Tryz.func82 (by kernel_rfl) (by kernel_rfl) (rlen_calls c.u b N f2 (L.drop (n - P.length)).length _ (by subst hR; exact (HD.out.drew.drewN m9).tail.tail.tail.tail.get.1)) rfl ?_
  rintro r w10 ⟨rfl, rfl⟩
  refine ⟨_, rfl, hK _ _ ⟨⟨_, HD.out.drew.drewN m9⟩, rfl⟩ ?_⟩
  clear hK K
  simp only [Act.put, List.setIfInBounds_toArray, List.set_cons_zero, List.set_cons_succ]
  repeat (first | ((first | refine mix_a rfl (by decide +kernel) rfl (fun K hK => ?_) | refine mix_q rfl (by decide +kernel) rfl (fun K hK => ?_)); go_big_quiet_op; refine hK _ ?_; clear hK K) | (refine mix_s rfl rfl (by decide +kernel) ?_; simp only [Act.put, List.setIfInBounds_toArray, List.set_cons_zero, List.set_cons_succ]))
  refine mix_l rfl (by decide +kernel) rfl (fun K hK => ?_)
  refine op_call rfl Tryz.func80 (by kernel_rfl) (by kernel_rfl) (goesup_calls g (l.length - (at_ + P.length) + (L.drop (n - P.length)).length) 1 (.inl rfl) c (P ++ U) _ (Row (.slice a4 (P ++ U).length p4) (P ++ U) :: PB c.p (.slice av l.length cv) 16384 (at_ + P.length : Nat) false :: Row (.slice av l.length cv) l :: RG c.u b N f2 (L.drop (n - P.length)).length :: Bys b B :: R) w0 _ (by rw [List.length_append]; omega) hst (by subst hR; exact (HD.out.drew.drewN m9).swap) Rd.row fin all HF.out HAL.out) ?_ ?_
  · have h1 : L.length ≤ 65536 := by have h := HHB.out.1.2.1; have h2 := HHB.out.2; omega
    have h2 := HL.out
    simp [Act.eval]
    unfold wrap64; omega
  rintro r w11 ⟨v11, t11, rfl, H11⟩
  refine ⟨_, rfl, ?_⟩
  refine hK _ _ ?_; clear hK K; (try simp only [Act.put, List.setIfInBounds_toArray, List.set_cons_zero, List.set_cons_succ])
  have HE := Lib.hid H11
  clear H11
  repeat (first | ((first | refine mix_a rfl (by decide +kernel) rfl (fun K hK => ?_) | refine mix_q rfl (by decide +kernel) rfl (fun K hK => ?_)); go_big_quiet_op; refine hK _ ?_; clear hK K) | (refine mix_s rfl rfl (by decide +kernel) ?_; simp only [Act.put, List.setIfInBounds_toArray, List.set_cons_zero, List.set_cons_succ]))
  refine mix_nil ?_
  go_wp2
  go_ret
  have hE := HE.out.re 3 [0, 1] [2] rfl
  rw [HST.out] at hE
  first | exact ⟨_, t11, f2, rfl, HR.out, hE⟩ | exact ⟨_, rfl, t11, f2, HR.out, hE⟩
set_option maxHeartbeats 1600000 in
set_option maxRecDepth 100000 in
theorem canclient_calls (g b N f n : Nat) (hn : 1 ≤ n ∧ n ≤ 9999) (c : CS) (hst : c.st = 2) (B L : List UInt8) (R : List Asn) (w0 w : World) (h : RH B f L) (hB : B.length = N) (hN : N ≤ 65536)
    (fin all : Bool) (hfin : fin = (decide ((L.drop n).length = 0) && c.de && !c.dt)) (hall : all = ((c.dt || fin) && c.ut))
    (H : sat w0 w (CN g c :: RG c.d b N f L.length :: Bys b B :: R)) :
    Calls Tryz.prog 46 #[.pointer (some ⟨g, 0, none⟩), .int .i64 n] w fun e w' => ∃ (v' : Value) (t : Int) (f' : Nat), e = .returned v' ∧ RH B f' (L.drop n) ∧
      sat w0 w' (RowA v' (goesL 3 (L.take n) fin all) :: CN g { c with due := t, dt := c.dt || fin, st := if all then 4 else c.st } :: RG c.d b N f' (L.drop n).length :: Bys b B :: R) := by
  have HH := Lib.hid H
  have c26 : w.cell? ⟨g, 26, none⟩ = some (.int .i64 c.st) := CN.at g c H 26
  rw [hst] at c26
  have c32 : w.cell? ⟨g, 32, none⟩ = some (.pointer (some ⟨c.d, 0, none⟩)) := CN.at g c H 32
  have d1 : decide ((n : Int) < 1) = false := by simp; omega
  have HP := Lib.hid (rpop_calls c.d b N f B L n (CN g c :: R) w0 w h hB hN (H.re 3 [1, 2, 0] [] rfl))
  rw [Int.toNat_natCast] at HP
  have HHB := Lib.hid (And.intro h hB)
  have HF := Lib.hid hfin
  have HAL := Lib.hid hall
  clear H h hfin hall
  generalize hS : (if all then (4 : Int) else c.st) = st'
  have HST := Lib.hid hS
  clear hS
  have hL65 : L.length ≤ 65536 := by have h := HHB.out.1.2.1; have h2 := HHB.out.2; omega
  generalize hO : L.take n = O at *
  have hOl : O.length ≤ 65536 := by rw [← hO, List.length_take]; omega
  clear hO
  go_enter Tryz.func46, Tryz.ntmps46
  go_wp2_with (go_at_call 79; refine HP.out.mono ?_; rintro e w2 ⟨o, f2, rfl, hr, H2⟩; have HR := Lib.hid hr; have HC := Lib.hid H2; clear H2 hr)
  clear c26 c32
  generalize hR : (Bys o O :: RG c.d b N f2 (L.drop n).length :: Bys b B :: CN g c :: R) = R2 at HC
  have hnon : Nonempty (SW w0 R2) := ⟨⟨_, HC.out.drew⟩⟩
  have k32 : ∀ x : SW w0 R2, x.w.cell? ⟨g, 32, none⟩ = some (.pointer (some ⟨c.d, 0, none⟩)) := fun x => by subst hR; exact CN.at g c x.h.tail.tail.tail 32
  have k0 : ∀ x : SW w0 R2, x.w.cell? ⟨g, 0, none⟩ = some (.pointer (some ⟨c.j, 0, none⟩)) := fun x => by subst hR; exact CN.at g c x.h.tail.tail.tail 0
  have c32 := k32 ⟨_, HC.out.drew⟩
  have c0 := k0 ⟨_, HC.out.drew⟩
  dsimp only at c32 c0
  refine wp_region_mix (fun u => ∃ x : SW w0 R2, u = x.w) [0, 1, 2, 3, 4, 5, 6, 7, 8, 9, 10, 11, 12] [0, 1, 2, 3, 4] (by kernel_rfl) (by kernel_rfl) ⟨⟨_, HC.out.drew⟩, rfl⟩ ?_
  repeat (first | ((first | refine mix_a rfl (by decide +kernel) rfl (fun K hK => ?_) | refine mix_q rfl (by decide +kernel) rfl (fun K hK => ?_)); go_big_quiet_op; refine hK _ ?_; clear hK K) | (refine mix_s rfl rfl (by decide +kernel) ?_; simp only [Act.put, List.setIfInBounds_toArray, List.set_cons_zero, List.set_cons_succ]))
  refine mix_lC rfl rfl rfl (fun K hK => ?_)
  refine op_call rfl Tryz.func82 (by kernel_rfl) (by kernel_rfl) (rlen_calls c.d b N f2 (L.drop n).length _ (by subst hR; exact HC.out.drew.tail.get.1)) rfl ?_
  rintro r w10 ⟨rfl, rfl⟩
  refine ⟨_, rfl, hK _ _ ⟨⟨_, HC.out.drew⟩, rfl⟩ ?_⟩
  clear hK K
  simp only [Act.put, List.setIfInBounds_toArray, List.set_cons_zero, List.set_cons_succ]
  repeat (first | ((first | refine mix_a rfl (by decide +kernel) rfl (fun K hK => ?_) | refine mix_q rfl (by decide +kernel) rfl (fun K hK => ?_)); go_big_quiet_op; refine hK _ ?_; clear hK K) | (refine mix_s rfl rfl (by decide +kernel) ?_; simp only [Act.put, List.setIfInBounds_toArray, List.set_cons_zero, List.set_cons_succ]))
  refine mix_l rfl (by decide +kernel) rfl (fun K hK => ?_)
  refine op_call rfl Tryz.func80 (by kernel_rfl) (by kernel_rfl) (goesdown_calls g (L.drop n).length 3 (.inr rfl) c O _ (Bys o O :: RG c.d b N f2 (L.drop n).length :: Bys b B :: R) w0 _ (by omega) hst (by subst hR; exact HC.out.drew.re 4 [3, 0, 1, 2] [] rfl) (fun w' hw' => by have h := Bys.reads hw' (off := 0) (n := O.length) (c := O.length) (by omega) (Nat.le_refl _) (by unfold maxLen; omega); rwa [List.drop_zero, List.take_length] at h) fin all HF.out HAL.out) ?_ ?_
  · simp [Act.eval]
  rintro r w11 ⟨v11, t11, rfl, H11⟩
  refine ⟨_, rfl, ?_⟩
  refine hK _ _ ?_; clear hK K; (try simp only [Act.put, List.setIfInBounds_toArray, List.set_cons_zero, List.set_cons_succ])
  have HE := Lib.hid H11
  clear H11
  repeat (first | ((first | refine mix_a rfl (by decide +kernel) rfl (fun K hK => ?_) | refine mix_q rfl (by decide +kernel) rfl (fun K hK => ?_)); go_big_quiet_op; refine hK _ ?_; clear hK K) | (refine mix_s rfl rfl (by decide +kernel) ?_; simp only [Act.put, List.setIfInBounds_toArray, List.set_cons_zero, List.set_cons_succ]))
  refine mix_nil ?_
  go_wp2
  go_ret
  have hE := HE.out.re 3 [0, 1] [2] rfl
  rw [HST.out] at hE
  first | exact ⟨_, t11, f2, rfl, HR.out, hE⟩ | exact ⟨_, rfl, t11, f2, HR.out, hE⟩
end Go.Proofs.YtonipcfnhmnnlaaGreatDoor
namespace Go.Proofs.YtonipcfnhmnnlaaGreatDoor
open Go Go.RowKit Hg
set_option linter.unusedVariables false
set_option linter.unusedSimpArgs false
attribute [local go_sem] Lib.run_eql_slice_nil run_min2 run_max2 run_min_two run_max_two
set_option maxHeartbeats 1600000 in
set_option maxRecDepth 100000 in
theorem client2_calls (g b N f : Nat) (c : CS) (B L m : List UInt8) (s : Value) (R : List Asn) (w0 w : World) (hst : c.st = 2) (hue : c.ue = false) (h : RH B f L) (hB : B.length = N) (hN : N ≤ 65536) (hm : m.length ≤ 1000000)
    (H : sat w0 w (CN g c :: RG c.u b N f L.length :: Bys b B :: R)) (hs : Rd w0 R s m) :
    Calls Tryz.prog 38 #[.pointer (some ⟨g, 0, none⟩), s] w fun e w' => ∃ (B' : List UInt8) (t : Int), e = .returned (.tuple #[.int .i64 (min m.length (N - L.length) : Nat), .slice none 0 0]) ∧ RH B' f (L ++ m.take (N - L.length)) ∧ B'.length = N ∧
      sat w0 w' (CN g { c with due := t } :: RG c.u b N f (L ++ m.take (N - L.length)).length :: Bys b B' :: R) := by
  obtain ⟨aa, cc, rfl, hs1, hs2⟩ := (hs w H.tail.tail.tail).form
  have HH := Lib.hid H
  have c26 : w.cell? ⟨g, 26, none⟩ = some (.int .i64 c.st) := CN.at g c H 26
  rw [hst] at c26
  have HM := Lib.hid fun (R : List Asn) (w0 w : World) H hs => more_calls g b N f c B L m (.slice aa m.length cc) R w0 w hst hue h hB hN hm H hs
  have HS := Lib.hid hs
  clear H h hs
  generalize min m.length (N - L.length) = n at *
  go_enter Tryz.func38, Tryz.ntmps38
  go_wp2_with (first | (go_at_call 73; refine (HM.out R w0 _ HA.out.tail HS.out).mono ?_; rintro e w2 ⟨B', t, rfl, hr, hb, H2⟩; have HR := Lib.hid hr; have HB' := Lib.hid hb; have HC := Lib.hid H2; clear H2 hr hb HA) | (refine BigFrame.wpList_want (by rfl) fun K' hK' => ?_; refine op_store (vs := [.func (.func 72) #[.pointer (some ⟨g, 0, none⟩)] #[], .func (.func 73) #[.pointer (some ⟨g, 0, none⟩)] #[], .func (.func 73) #[.pointer (some ⟨g, 0, none⟩)] #[], .func (.func 74) #[.pointer (some ⟨g, 0, none⟩)] #[], .func (.func 74) #[.pointer (some ⟨g, 0, none⟩)] #[]]) (by rfl) (by kernel_rfl) (by rfl) (by rfl) (by rfl) (by intro u hu; simp only [List.mem_cons, List.not_mem_nil, or_false] at hu; rcases hu with rfl | rfl | rfl | rfl | rfl <;> rfl) (HH.out.alloc _) (Nat.le_refl _) ?_; intro w1 H1; refine hK' _ _ ?_; clear hK' K'; have HA := Lib.hid H1; have e26 : w1.cell? ⟨g, 26, none⟩ = some (.int .i64 c.st) := CN.at g c H1.tail 26; rw [hst] at e26; have q2 : w1.cell? ⟨w.heap.size, 2, none⟩ = some (.func (.func 73) #[.pointer (some ⟨g, 0, none⟩)] #[]) := cellAt H1.get.1 2; clear H1 HH))
  go_ret2
  exact ⟨B', t, rfl, HR.out, HB'.out, HC.out⟩
end Go.Proofs.YtonipcfnhmnnlaaGreatDoor
