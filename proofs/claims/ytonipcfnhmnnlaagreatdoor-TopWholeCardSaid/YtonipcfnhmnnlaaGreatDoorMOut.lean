/- A connection takes its client's first bytes. The proxy, at a connection's outset. -/
import Derived.Test.YtonipcfnhmnnlaaGreatDoorCT43
namespace Go.Proofs.YtonipcfnhmnnlaaGreatDoor
open Go Go.RowKit Hg
set_option linter.unusedVariables false
set_option linter.unusedSimpArgs false
attribute [local go_sem] Lib.run_eql_slice_nil run_min2 run_max2 run_min_two run_max_two
set_option maxHeartbeats 1600000 in
set_option maxRecDepth 100000 in
theorem client0_calls (g N fu ub : Nat) (c : CS) (hst : c.st = 0) (Bu : List UInt8) (b : Value) (m more : List UInt8) (hmm : m = HD ++ more) (hlen : m.length ≤ 100000) (hu : RH Bu fu []) (lu : Bu.length = N) (hN : N ≤ 65536) (pv : Value)
    (R : List Asn) (w0 w : World) (hm : MaxL w0) (H : sat w0 w (CN g c :: SnK c.s 0 :: PB c.p pv 16384 0 false :: Row pv [] :: JA c.j :: RG c.u ub N fu 0 :: Bys ub Bu :: R)) (hs : Rd w0 R b m) :
    Calls Tryz.prog 38 #[.pointer (some ⟨g, 0, none⟩), b] w fun e w' => ∃ v pv' : Value, ∃ Bu' : List UInt8, e = .returned (.tuple #[.int .i64 (29 + min more.length N : Nat), v]) ∧ RH Bu' fu (more.take N) ∧ Bu'.length = N ∧
      sat w0 w' (RowA v [⟨0, ⟨#[]⟩, 0⟩] :: CN g { c with vs := 1, vp := 2, vu := 29, vh := sAB, al := true, why := 1, rule := -1, st := 1, due := 1000 } :: PB c.p pv' 16384 0 false :: Row pv' HD :: JA c.j :: RG c.u ub N fu (more.take N).length :: Bys ub Bu' :: R) := by
  obtain ⟨aa, cc, rfl, hs1, hs2⟩ := (hs w (satDrop (L := [_, _, _, _, _, _, _]) H)).form
  have HH := Lib.hid H
  have c26 : w.cell? ⟨g, 26, none⟩ = some (.int .i64 c.st) := CN.at g c H 26
  rw [hst] at c26
  have HM := Lib.hid fun (R : List Asn) (w0 w : World) hm H hs => first_calls g N fu ub 0 c hst Bu (.slice aa m.length cc) m more hmm hlen hu lu hN pv R w0 w hm H hs
  have HS := Lib.hid hs
  have HL := Lib.hid hm
  clear H hs hm hmm hlen hu lu hN
  generalize 29 + min more.length N = n at *
  generalize { c with vs := 1, vp := 2, vu := 29, vh := sAB, al := true, why := 1, rule := -1, st := 1, due := 1000 } = c4 at *
  go_enter Tryz.func38, Tryz.ntmps38
  go_wp2_with (first | (go_at_call 72; refine (HM.out R w0 _ HL.out HA.out.tail HS.out).mono ?_; rintro e w2 ⟨v, pv', B', rfl, hr, hb, H2⟩; have HR := Lib.hid hr; have HB' := Lib.hid hb; have HC := Lib.hid H2; clear H2 hr hb HA) | (refine BigFrame.wpList_want (by rfl) fun K' hK' => ?_; refine op_store (vs := [.func (.func 72) #[.pointer (some ⟨g, 0, none⟩)] #[], .func (.func 73) #[.pointer (some ⟨g, 0, none⟩)] #[], .func (.func 73) #[.pointer (some ⟨g, 0, none⟩)] #[], .func (.func 74) #[.pointer (some ⟨g, 0, none⟩)] #[], .func (.func 74) #[.pointer (some ⟨g, 0, none⟩)] #[]]) (by rfl) (by kernel_rfl) (by rfl) (by rfl) (by rfl) (by intro u hu; simp only [List.mem_cons, List.not_mem_nil, or_false] at hu; rcases hu with rfl | rfl | rfl | rfl | rfl <;> rfl) (HH.out.alloc _) (Nat.le_refl _) ?_; intro w1 H1; refine hK' _ _ ?_; clear hK' K'; have HA := Lib.hid H1; have e26 : w1.cell? ⟨g, 26, none⟩ = some (.int .i64 c.st) := CN.at g c H1.tail 26; rw [hst] at e26; have q0 : w1.cell? ⟨w.heap.size, 0, none⟩ = some (.func (.func 72) #[.pointer (some ⟨g, 0, none⟩)] #[]) := cellAt H1.get.1 0; clear H1 HH))
  go_ret2
  exact ⟨v, pv', B', rfl, HR.out, HB'.out, HC.out⟩
end Go.Proofs.YtonipcfnhmnnlaaGreatDoor
namespace Go.Proofs.YtonipcfnhmnnlaaGreatDoor
open Go Go.RowKit Hg
set_option linter.unusedVariables false
set_option linter.unusedSimpArgs false
attribute [local go_sem] Lib.run_eql_slice_nil run_min2 run_max2 run_min_two run_max_two
/-- A connection at its outset, with its judge. -/
structure C0 where
  j : Nat
  s : Nat
  p : Nat
  u : Nat
  ub : Nat
  d : Nat
  db : Nat
def cs0 (N : Nat) (x : C0) : CS := ⟨x.j, N, 1000, 0, x.s, x.p, x.u, false, false, x.d, false, false, 0, 0, 0, ⟨#[]⟩, false, 0, 0⟩
def C0L (g N : Nat) (x : C0) : List Asn := [CN g (cs0 N x), SnK x.s 0, PB x.p (.slice none 0 0) 16384 0 false, Row (.slice none 0 0) [], JA x.j, RG x.u x.ub N 0 0, Bys x.ub (List.replicate N 0), RG x.d x.db N 0 0, Bys x.db (List.replicate N 0)]
def ConnO (g N : Nat) : Asn := ex fun x : C0 => many (C0L g N x)
theorem ConnO.open {g N : Nat} {w0 w : World} {R : List Asn} (h : sat w0 w (ConnO g N :: R)) : ∃ x : C0, sat w0 w (C0L g N x ++ R) := by
  obtain ⟨x, hx⟩ := h.open_ex
  exact ⟨x, hx.open_many⟩
theorem ConnO.close {g N : Nat} {w0 w : World} {R : List Asn} (x : C0) (h : sat w0 w (C0L g N x ++ R)) : sat w0 w (ConnO g N :: R) :=
  sat.ex (P := fun x : C0 => many (C0L g N x)) x (sat.many (l := C0L g N x) h)
/-- What is seen when it is decided. -/
def s1 (N : Nat) (more : List UInt8) : CV := ⟨sAB, true, 1, -1, false, false, false, false, 1, HD, more.take N, []⟩
theorem client0A (g N : Nat) (hN : 1 ≤ N ∧ N ≤ 65536) (b : Value) (m more : List UInt8) (hmm : m = HD ++ more) (hlen : m.length ≤ 100000) (R : List Asn) (w0 w : World) (hm : MaxL w0) (H : sat w0 w (ConnO g N :: R)) (hs : Rd w0 R b m) :
    Calls Tryz.prog 38 #[.pointer (some ⟨g, 0, none⟩), b] w fun e w' => ∃ v : Value, e = .returned (.tuple #[.int .i64 (29 + min more.length N : Nat), v]) ∧ sat w0 w' (RowA v [⟨0, ⟨#[]⟩, 0⟩] :: ConnA g N (s1 N more) :: R) := by
  obtain ⟨x, h⟩ := ConnO.open H
  refine (client0_calls g N 0 x.ub (cs0 N x) rfl (List.replicate N 0) b m more hmm hlen (RH.new hN.1) (List.length_replicate ..) hN.2 (.slice none 0 0) (RG x.d x.db N 0 0 :: Bys x.db (List.replicate N 0) :: R) w0 w hm h hs.weak.weak).mono ?_
  rintro e w' ⟨v, pv', B', rfl, h1, h2, H'⟩
  refine ⟨v, rfl, ?_⟩
  have h3 : sat w0 w' (CN g { cs0 N x with vs := 1, vp := 2, vu := 29, vh := sAB, al := true, why := 1, rule := -1, st := 1, due := 1000 } :: PB x.p pv' 16384 (0 : Nat) false :: Row pv' HD :: RG x.u x.ub N 0 (more.take N).length :: Bys x.ub B' :: RG x.d x.db N 0 0 :: Bys x.db (List.replicate N 0) :: RowA v [⟨0, ⟨#[]⟩, 0⟩] :: R) := H'.re 9 [1, 2, 3, 5, 6, 7, 8, 0] [4] rfl
  exact (ConnA.close (s := s1 N more) ⟨{ cs0 N x with vs := 1, vp := 2, vu := 29, vh := sAB, al := true, why := 1, rule := -1, st := 1, due := 1000 }, pv', HD, 0, 0, 0, x.ub, x.db, B', List.replicate N 0⟩ ⟨rfl, rfl, rfl, rfl, rfl, rfl, rfl, rfl, rfl, Nat.zero_le _, (show HD.length ≤ 16384 by decide), rfl, h1, h2, RH.new hN.1, List.length_replicate .., hN.2⟩ h3).swap
def SysLG (p g : Nat) (q : PV) (CB : Asn) (x : PI) : List Asn := [PX p q.relay q.ct q.ca x.mt x.mc x.lg x.au, MapA encK x.mc (if q.o then [(kT, lv g)] else []), RowE x.lg q.log, RowU x.au q.au, MapA Value.string x.mt [(tT, .pointer (some ⟨x.tb, 0, none⟩))], TN x.tb x.j 1 1 (if q.o then 1 else 0), CB]
def SysG (p g : Nat) (q : PV) (CB : Asn) : Asn := ex fun x : PI => many (SysLG p g q CB x)
theorem SysG.open {p g : Nat} {q : PV} {CB : Asn} {w0 w : World} {R : List Asn} (h : sat w0 w (SysG p g q CB :: R)) : ∃ x : PI, sat w0 w (PX p q.relay q.ct q.ca x.mt x.mc x.lg x.au :: MapA encK x.mc (if q.o then [(kT, lv g)] else []) :: RowE x.lg q.log :: RowU x.au q.au :: MapA Value.string x.mt [(tT, .pointer (some ⟨x.tb, 0, none⟩))] :: TN x.tb x.j 1 1 (if q.o then 1 else 0) :: CB :: R) := by
  obtain ⟨x, hx⟩ := h.open_ex
  exact ⟨x, hx.open_many⟩
theorem with_sysG (p g N : Nat) (q : PV) (CB : Asn) (s' : CV) (ho : q.o = true) (hL : q.log.length ≤ 900000) (hU : q.au.length ≤ 900000) (l0 l1 : List AC) (hl0 : ∀ a ∈ l0, a.kind ≠ 5) (hl1 : l1 = [] ∨ ∃ b why, l1 = [⟨5, b, why⟩]) (hl : l0.length ≤ 90000)
    (n : FuncId) (fn : Func) (cap : Array Value) (hf : Tryz.prog.funcs[n]? = some fn) (hname : (fn.name == "runtime.NumGoroutine") = false) (hb : fn.body.isNone = false)
    (E E' R : List Asn) (w0 w : World)
    (hcl : ∀ X w1, sat w0 w1 (CB :: (E ++ X)) → Calls Tryz.prog n (#[.agg #[.pointer (some ⟨g, 0, none⟩), .int .i64 1]] ++ cap) w1 fun e w2 => ∃ v, e = .returned v ∧ sat w0 w2 (RowA v (l0 ++ l1) :: ConnA g N s' :: (E' ++ X)))
    (H : sat w0 w (SysG p g q CB :: (E ++ R))) :
    Calls Tryz.prog 36 #[.pointer (some ⟨p, 0, none⟩), encK kT, .func (.func n) #[] cap] w fun e w' => e = .returned (.tuple #[]) ∧
      sat w0 w' (SysA p g N { q with log := q.log ++ (l0 ++ l1).map (EV.mk kT), au := q.au ++ l1.map fun a => aud s' a.why, o := l1.isEmpty } s' :: (E' ++ R)) := by
  obtain ⟨x, h⟩ := SysG.open H
  simp only [ho, if_true] at h
  have hin := h.re 7 [0, 1, 2, 3, 4, 5, 6] [] rfl
  refine (with_calls p x.mt x.mc g q.relay q.ct q.ca 1 kT x.lg x.au [(kT, lv g)] (get_kT g) n fn cap hf hname hb (RowE x.lg q.log :: RowU x.au q.au :: MapA Value.string x.mt [(tT, .pointer (some ⟨x.tb, 0, none⟩))] :: TN x.tb x.j 1 1 1 :: CB :: E) R w0 w
    (fun X v w2 => sat w0 w2 (RowA v (l0 ++ l1) :: ConnA g N s' :: (E' ++ (PX p q.relay q.ct q.ca x.mt x.mc x.lg x.au :: MapA encK x.mc [(kT, lv g)] :: RowE x.lg q.log :: RowU x.au q.au :: MapA Value.string x.mt [(tT, .pointer (some ⟨x.tb, 0, none⟩))] :: TN x.tb x.j 1 1 1 :: X))))
    (fun X w3 => sat w0 w3 (SysA p g N { q with log := q.log ++ (l0 ++ l1).map (EV.mk kT), au := q.au ++ l1.map fun a => aud s' a.why, o := l1.isEmpty } s' :: (E' ++ X)))
    (fun X w1 h1 => ?_) (fun X v w2 h2 => ?_) (fun X v w2 h2 => ?_) h).mono ?_
  · exact hcl (PX p q.relay q.ct q.ca x.mt x.mc x.lg x.au :: MapA encK x.mc [(kT, lv g)] :: RowE x.lg q.log :: RowU x.au q.au :: MapA Value.string x.mt [(tT, .pointer (some ⟨x.tb, 0, none⟩))] :: TN x.tb x.j 1 1 1 :: X) w1
      ((h1.re 7 [6, 0, 1, 2, 3, 4, 5] [] rfl).perm ((List.perm_append_comm_assoc [_, _, _, _, _, _] E X).cons _))
  · exact satDrop (L := [_, _, _, _, _, _]) (satDrop h2.tail.tail)
  · have h3 := h2.perm (((List.perm_append_comm_assoc E' [_, _, _, _, _, _] X).cons _).cons _)
    refine (did_sys p g N q s' ho v l0 l1 hl0 hl1 hL hU hl x (E' ++ X) w0 w2 (h3.re 8 [0, 2, 3, 4, 5, 6, 7, 1] [] rfl)).mono ?_
    rintro e w' ⟨rfl, h4⟩
    exact ⟨rfl, h4⟩
  · rintro e w' ⟨rfl, o1, o2, h4⟩
    refine ⟨rfl, ?_⟩
    have h5 := h4.perm ((List.perm_append_comm_assoc E' [o1, o2] R).cons _)
    exact h5.re 3 [0] [1, 2] rfl
set_option maxRecDepth 100000 in
theorem client0_cl (g N : Nat) (hN : 1 ≤ N ∧ N ≤ 65536) (m more : List UInt8) (hmm : m = HD ++ more) (b : Value) (hlen : m.length ≤ 100000) (bb nb : Nat) (r0 : Int) (R : List Asn) (w0 w : World) (hm : MaxL w0) (hs : Rd w0 R b m) (H : sat w0 w (ConnO g N :: blk bb (.cells #[b] 42) :: blk nb (.cells #[.int .i64 r0] 3) :: R)) :
    Calls Tryz.prog 37 #[.agg #[.pointer (some ⟨g, 0, none⟩), .int .i64 1], .pointer (some ⟨bb, 0, none⟩), .pointer (some ⟨nb, 0, none⟩)] w fun e w' => ∃ v' : Value, e = .returned v' ∧
      sat w0 w' (RowA v' [⟨0, ⟨#[]⟩, 0⟩] :: ConnA g N (s1 N more) :: blk bb (.cells #[b] 42) :: blk nb (.cells #[.int .i64 (29 + min more.length N : Nat)] 3) :: R) := by
  obtain ⟨aa, cc, rfl, hs1, hs2⟩ := (hs w H.tail.tail.tail).form
  have c0 : ∀ o, (w.alloc o).cell? ⟨bb, 0, none⟩ = some (.slice aa m.length cc) := fun o => cellAt ((H.alloc o).tail.tail).get.1 0
  have HC := Lib.hid (client0A g N hN (.slice aa m.length cc) m more hmm hlen (blk bb (.cells #[.slice aa m.length cc] 42) :: blk nb (.cells #[.int .i64 r0] 3) :: R) w0 _ hm (H.alloc (.cells #[.pointer (some ⟨g, 0, none⟩), .int .i64 1] 106)).tail hs.weak.weak)
  clear H hs hm hmm
  generalize (29 + min more.length N : Nat) = k at *
  go_enter Tryz.func37, Tryz.ntmps37
  go_wp2_with (go_at_call 38; refine HC.out.mono ?_; rintro e w2 ⟨v, rfl, H2⟩; have e0 : w2.cell? ⟨nb, 0, none⟩ = some (.int .i64 r0) := cellAt (H2.tail.tail.tail).get.1 0; have f0 := frozenAt (H2.tail.tail.tail).get.1 0; have HD := Lib.hid (H2.re 4 [3, 0, 1, 2] [] rfl); clear H2)
  go_ret
  exact ⟨_, rfl, (HD.out.store (i := 0) (.int .i64 k)).re 4 [1, 2, 3, 0] [] rfl⟩
set_option maxRecDepth 100000 in
theorem pclient0 (p g N : Nat) (hN : 1 ≤ N ∧ N ≤ 65536) (q : PV) (ho : q.o = true) (hL : q.log.length ≤ 900000) (hU : q.au.length ≤ 900000) (m more : List UInt8) (hmm : m = HD ++ more) (b : Value) (hlen : m.length ≤ 100000) (S R : List Asn) (w0 w : World) (hm : MaxL w0) (hs : ∀ X, Rd w0 (S ++ X) b m) (H : sat w0 w (SysG p g q (ConnO g N) :: (S ++ R))) :
    Calls Tryz.prog 10 #[.pointer (some ⟨p, 0, none⟩), encK kT, b] w fun e w' => e = .returned (.int .i64 (29 + min more.length N : Nat)) ∧
      sat w0 w' (SysA p g N { q with log := q.log ++ [⟨kT, ⟨0, ⟨#[]⟩, 0⟩⟩] } (s1 N more) :: (S ++ R)) := by
  obtain ⟨aa, cc, rfl, hs1, hs2⟩ := (hs R w H.tail).form
  have h2 := ((H.alloc (.cells #[.string tT, .int .i64 1] 34)).alloc (.cells #[.slice aa m.length cc] 42)).alloc (.cells #[.int .i64 0] 3)
  simp only [World.size_alloc, Nat.add_assoc, Nat.reduceAdd] at h2
  have h3 : sat w0 _ (SysG p g q (ConnO g N) :: (blk (w.heap.size + 1) (.cells #[.slice aa m.length cc] 42) :: blk (w.heap.size + 2) (.cells #[.int .i64 0] 3) :: S) ++ (blk w.heap.size (.cells #[.string tT, .int .i64 1] 34) :: R)) :=
    (h2.re 4 [3, 1, 0, 2] [] rfl).perm ((((List.perm_append_comm_assoc [_] S R).cons _).cons _).cons _)
  have hw := with_sysG p g N q (ConnO g N) (s1 N more) ho hL hU [⟨0, ⟨#[]⟩, 0⟩] [] (by intro a ha; simp at ha; subst ha; decide) (.inl rfl) (by decide)
    37 Tryz.f37 #[.pointer (some ⟨w.heap.size + 1, 0, none⟩), .pointer (some ⟨w.heap.size + 2, 0, none⟩)] Tryz.func37 (by kernel_rfl) (by kernel_rfl)
    (blk (w.heap.size + 1) (.cells #[.slice aa m.length cc] 42) :: blk (w.heap.size + 2) (.cells #[.int .i64 0] 3) :: S) (blk (w.heap.size + 1) (.cells #[.slice aa m.length cc] 42) :: blk (w.heap.size + 2) (.cells #[.int .i64 (29 + min more.length N : Nat)] 3) :: S)
    (blk w.heap.size (.cells #[.string tT, .int .i64 1] 34) :: R) w0 _
    (fun X w1 h => client0_cl g N hN m more hmm (.slice aa m.length cc) hlen (w.heap.size + 1) (w.heap.size + 2) 0 (S ++ X) w0 w1 hm (hs X) h) h3
  have hq : ({ q with log := q.log ++ ([⟨0, ⟨#[]⟩, 0⟩] ++ [] : List AC).map (EV.mk kT), au := q.au ++ ([] : List AC).map fun a => aud (s1 N more) a.why, o := ([] : List AC).isEmpty } : PV) = { q with log := q.log ++ [⟨kT, ⟨0, ⟨#[]⟩, 0⟩⟩] } := by
    obtain ⟨_, _, _, _, _, _⟩ := q
    simp_all
  rw [hq, encT] at hw
  have HW := Lib.hid hw
  rw [encT]
  clear hw h2 h3 H hs hq hm hmm
  generalize s1 N more = s' at HW ⊢
  generalize ({ q with log := q.log ++ [⟨kT, ⟨0, ⟨#[]⟩, 0⟩⟩] } : PV) = q' at HW ⊢
  generalize (29 + min more.length N : Nat) = k at HW ⊢
  go_enter Tryz.func10, Tryz.ntmps10
  go_wp2_with (go_at_call 36; refine HW.out.mono ?_; rintro e w2 ⟨rfl, H2⟩; have e2 : w2.cell? ⟨w.heap.size + 2, 0, none⟩ = some (.int .i64 k) := cellAt (H2.tail.tail.get.1) 0; have f2 := frozenAt (H2.tail.tail.get.1) 0; have HD := Lib.hid H2; clear H2)
  refine bodyPost_ret (results_int rfl _ _ ⟨w.heap.size + 2, 0, none⟩ (.int .i64 k) rfl ?_) rfl ?_
  · exact cellAt ((HD.out.re 3 [2, 0, 1] [] rfl).store (i := 0) (.int .i64 k)).get.1 0
  · refine ⟨rfl, ?_⟩
    have h := (HD.out.re 3 [2, 0, 1] [] rfl).store (i := 0) (.int .i64 k)
    have h2 := (h.re 3 [1] [0, 2] rfl).perm ((List.perm_append_comm_assoc S [_] R).cons _)
    exact h2.re 2 [0] [1] rfl
end Go.Proofs.YtonipcfnhmnnlaaGreatDoor
