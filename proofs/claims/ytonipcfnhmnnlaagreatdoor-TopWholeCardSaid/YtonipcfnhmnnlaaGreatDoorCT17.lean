/- The proxy's methods. -/
import Derived.Test.YtonipcfnhmnnlaaGreatDoorMSys
namespace Go.Proofs.YtonipcfnhmnnlaaGreatDoor
open Go Go.RowKit Hg
set_option linter.unusedVariables false
set_option linter.unusedSimpArgs false
attribute [local go_sem] Lib.run_eql_slice_nil run_min2 run_max2 run_min_two run_max_two
theorem results_int {fn : Func} {p : Tmp} (h : fn.results = #[.cell p 3]) (tmps : Array Value) (w : World) (a : Addr) (v : Value)
    (hp : tmps.getD p undef = .pointer (some a)) (hg : w.cell? a = some v) : (results fn tmps).run Tryz.prog w = .ok v w := by
  have hp' : tmps[p]?.getD undef = .pointer (some a) := by simpa using hp
  have hl : (loadVar 3 a).run Tryz.prog w = .ok v w := by simp [loadVar, go_sem, hg]
  simp [results, h, hp', asAddr, hl]
theorem encT : encK kT = .agg #[.string tT, .int .i64 1] := rfl
theorem with_closed (p g N : Nat) (q : PV) (s : CV) (ho : q.o = false) (f : Value) (R : List Asn) (w0 w : World) (H : sat w0 w (SysA p g N q s :: R)) :
    Calls Tryz.prog 36 #[.pointer (some ⟨p, 0, none⟩), encK kT, f] w fun e w' => e = .returned (.tuple #[]) ∧ sat w0 w' (SysA p g N q s :: R) := by
  obtain ⟨x, h⟩ := SysA.open H
  simp only [ho, Bool.false_eq_true, if_false] at h
  refine (with_none p x.mt x.mc q.relay q.ct q.ca kT f x.lg x.au [] rfl _ w0 w h).mono ?_
  rintro e w' ⟨rfl, h2⟩
  refine ⟨rfl, SysA.close x ?_⟩
  simp only [ho, Bool.false_eq_true, if_false]
  exact h2
theorem acts_map (s s' : CV) (hv : s'.vh = s.vh ∧ s'.al = s.al ∧ s'.why = s.why ∧ s'.rule = s.rule) (all : Bool) : (if all then [(⟨5, ⟨#[]⟩, 0⟩ : AC)] else []).map (fun a => aud s' a.why) = if all then [aud s 0] else [] := by
  obtain ⟨h1, h2, h3, h4⟩ := hv
  cases all <;> simp [aud, h1, h2, h3, h4]
theorem isEmpty_all (all : Bool) : (if all then [(⟨5, ⟨#[]⟩, 0⟩ : AC)] else []).isEmpty = !all := by cases all <;> rfl
set_option maxRecDepth 100000 in
theorem pcanup (p g N n : Nat) (hn : 1 ≤ n ∧ n ≤ 9999) (q : PV) (s : CV) (ho : q.o = true) (hL : q.log.length ≤ 900000) (hU : q.au.length ≤ 900000) (hst : s.st = 2) (P V : List UInt8) (hP : P = s.pk.take n) (hV : V = s.U.take (n - P.length)) (fin all : Bool) (hfin : fin = (decide ((s.pk.drop P.length).length + (s.U.drop (n - P.length)).length = 0) && s.ue && !s.ut)) (hall : all = ((s.ut || fin) && s.dt)) (R : List Asn) (w0 w : World) (H : sat w0 w (SysA p g N q s :: R)) :
    Calls Tryz.prog 13 #[.pointer (some ⟨p, 0, none⟩), encK kT, .int .i64 n] w fun e w' => e = .returned (.tuple #[]) ∧
      sat w0 w' (SysA p g N { q with log := q.log ++ (goesL 1 (P ++ V) fin all).map (EV.mk kT), au := q.au ++ (if all then [aud s 0] else []), o := !all } { s with pk := s.pk.drop P.length, U := s.U.drop (n - P.length), ut := s.ut || fin, st := if all then 4 else s.st } :: R) := by
  have h2 := (H.alloc (.cells #[.string tT, .int .i64 1] 34)).alloc (.cells #[.int .i64 n] 3)
  simp only [World.size_alloc] at h2
  obtain ⟨s', hs'⟩ : ∃ s' : CV, s' = { s with pk := s.pk.drop P.length, U := s.U.drop (n - P.length), ut := s.ut || fin, st := if all then 4 else s.st } := ⟨_, rfl⟩
  rw [← hs']
  have hw := with_sys p g N q s s' ho hL hU _ _ (goesL_l0 1 (by decide) (P ++ V) fin) (l1_cases all) (by have := goesL_len0 1 (P ++ V) fin; omega)
    43 Tryz.f43 #[.pointer (some ⟨w.heap.size + 1, 0, none⟩)] Tryz.func43 (by kernel_rfl) (by kernel_rfl) [blk (w.heap.size + 1) (.cells #[.int .i64 n] 3)] [blk (w.heap.size + 1) (.cells #[.int .i64 n] 3)] (blk w.heap.size (.cells #[.string tT, .int .i64 1] 34) :: R) w0 _
    (fun X w1 h => by rw [hs']; exact canup_cl g N n hn s hst P V hP hV fin all hfin hall (w.heap.size + 1) X w0 w1 h) (h2.re 3 [2, 0, 1] [] rfl)
  rw [← goesL_cut, acts_map s s' (by rw [hs']; exact ⟨rfl, rfl, rfl, rfl⟩), isEmpty_all, encT] at hw
  have HW := Lib.hid hw
  rw [encT]
  clear hw h2 H hfin hall hs'
  generalize ({ q with log := q.log ++ (goesL 1 (P ++ V) fin all).map (EV.mk kT), au := q.au ++ (if all then [aud s 0] else []), o := !all } : PV) = q' at HW ⊢
  go_enter Tryz.func13, Tryz.ntmps13
  go_wp2_with (go_at_call 36; refine HW.out.mono ?_; rintro e w2 ⟨rfl, H2⟩; have HD := Lib.hid H2; clear H2)
  go_end0
  exact ⟨rfl, HD.out.re 3 [0] [1, 2] rfl⟩
set_option maxRecDepth 100000 in
theorem pcanup_closed (p g N : Nat) (n : Int) (q : PV) (s : CV) (ho : q.o = false) (R : List Asn) (w0 w : World) (H : sat w0 w (SysA p g N q s :: R)) :
    Calls Tryz.prog 13 #[.pointer (some ⟨p, 0, none⟩), encK kT, .int .i64 n] w fun e w' => e = .returned (.tuple #[]) ∧ sat w0 w' (SysA p g N q s :: R) := by
  have h2 := (H.alloc (.cells #[.string tT, .int .i64 1] 34)).alloc (.cells #[.int .i64 n] 3)
  have hw := with_closed p g N q s ho (.func (.func 43) #[] #[.pointer (some ⟨w.heap.size + 1, 0, none⟩)]) _ w0 _ (h2.re 3 [2, 0, 1] [] rfl)
  rw [encT] at hw
  have HW := Lib.hid hw
  rw [encT]
  clear hw h2 H
  go_enter Tryz.func13, Tryz.ntmps13
  go_wp2_with (go_at_call 36; refine HW.out.mono ?_; rintro e w2 ⟨rfl, H2⟩; have HD := Lib.hid H2; clear H2)
  go_end0
  exact ⟨rfl, HD.out.re 3 [0] [1, 2] rfl⟩
set_option maxRecDepth 100000 in
theorem pcanclient (p g N n : Nat) (hn : 1 ≤ n ∧ n ≤ 9999) (q : PV) (s : CV) (ho : q.o = true) (hL : q.log.length ≤ 900000) (hU : q.au.length ≤ 900000) (hst : s.st = 2) (fin all : Bool) (hfin : fin = (decide ((s.D.drop n).length = 0) && s.de && !s.dt)) (hall : all = ((s.dt || fin) && s.ut)) (R : List Asn) (w0 w : World) (H : sat w0 w (SysA p g N q s :: R)) :
    Calls Tryz.prog 14 #[.pointer (some ⟨p, 0, none⟩), encK kT, .int .i64 n] w fun e w' => e = .returned (.tuple #[]) ∧
      sat w0 w' (SysA p g N { q with log := q.log ++ (goesL 3 (s.D.take n) fin all).map (EV.mk kT), au := q.au ++ (if all then [aud s 0] else []), o := !all } { s with D := s.D.drop n, dt := s.dt || fin, st := if all then 4 else s.st } :: R) := by
  have h2 := (H.alloc (.cells #[.string tT, .int .i64 1] 34)).alloc (.cells #[.int .i64 n] 3)
  simp only [World.size_alloc] at h2
  obtain ⟨s', hs'⟩ : ∃ s' : CV, s' = { s with D := s.D.drop n, dt := s.dt || fin, st := if all then 4 else s.st } := ⟨_, rfl⟩
  rw [← hs']
  have hw := with_sys p g N q s s' ho hL hU _ _ (goesL_l0 3 (by decide) (s.D.take n) fin) (l1_cases all) (by have := goesL_len0 3 (s.D.take n) fin; omega)
    45 Tryz.f45 #[.pointer (some ⟨w.heap.size + 1, 0, none⟩)] Tryz.func45 (by kernel_rfl) (by kernel_rfl) [blk (w.heap.size + 1) (.cells #[.int .i64 n] 3)] [blk (w.heap.size + 1) (.cells #[.int .i64 n] 3)] (blk w.heap.size (.cells #[.string tT, .int .i64 1] 34) :: R) w0 _
    (fun X w1 h => by rw [hs']; exact canclient_cl g N n hn s hst fin all hfin hall (w.heap.size + 1) X w0 w1 h) (h2.re 3 [2, 0, 1] [] rfl)
  rw [← goesL_cut, acts_map s s' (by rw [hs']; exact ⟨rfl, rfl, rfl, rfl⟩), isEmpty_all, encT] at hw
  have HW := Lib.hid hw
  rw [encT]
  clear hw h2 H hfin hall hs'
  generalize ({ q with log := q.log ++ (goesL 3 (s.D.take n) fin all).map (EV.mk kT), au := q.au ++ (if all then [aud s 0] else []), o := !all } : PV) = q' at HW ⊢
  go_enter Tryz.func14, Tryz.ntmps14
  go_wp2_with (go_at_call 36; refine HW.out.mono ?_; rintro e w2 ⟨rfl, H2⟩; have HD := Lib.hid H2; clear H2)
  go_end0
  exact ⟨rfl, HD.out.re 3 [0] [1, 2] rfl⟩
set_option maxRecDepth 100000 in
theorem pcanclient_closed (p g N : Nat) (n : Int) (q : PV) (s : CV) (ho : q.o = false) (R : List Asn) (w0 w : World) (H : sat w0 w (SysA p g N q s :: R)) :
    Calls Tryz.prog 14 #[.pointer (some ⟨p, 0, none⟩), encK kT, .int .i64 n] w fun e w' => e = .returned (.tuple #[]) ∧ sat w0 w' (SysA p g N q s :: R) := by
  have h2 := (H.alloc (.cells #[.string tT, .int .i64 1] 34)).alloc (.cells #[.int .i64 n] 3)
  have hw := with_closed p g N q s ho (.func (.func 45) #[] #[.pointer (some ⟨w.heap.size + 1, 0, none⟩)]) _ w0 _ (h2.re 3 [2, 0, 1] [] rfl)
  rw [encT] at hw
  have HW := Lib.hid hw
  rw [encT]
  clear hw h2 H
  go_enter Tryz.func14, Tryz.ntmps14
  go_wp2_with (go_at_call 36; refine HW.out.mono ?_; rintro e w2 ⟨rfl, H2⟩; have HD := Lib.hid H2; clear H2)
  go_end0
  exact ⟨rfl, HD.out.re 3 [0] [1, 2] rfl⟩
theorem pv_same (q : PV) (ho : q.o = true) (s' : CV) : ({ q with log := q.log ++ (([] : List AC) ++ []).map (EV.mk kT), au := q.au ++ ([] : List AC).map fun a => aud s' a.why, o := ([] : List AC).isEmpty } : PV) = q := by
  cases q; simp_all
set_option maxRecDepth 100000 in
theorem pdialed (p g N : Nat) (q : PV) (s : CV) (ho : q.o = true) (hL : q.log.length ≤ 900000) (hU : q.au.length ≤ 900000) (hst : s.st = 1) (R : List Asn) (w0 w : World) (H : sat w0 w (SysA p g N q s :: R)) :
    Calls Tryz.prog 11 #[.pointer (some ⟨p, 0, none⟩), encK kT, .bool true] w fun e w' => e = .returned (.tuple #[]) ∧ sat w0 w' (SysA p g N q { s with st := 2 } :: R) := by
  have h2 := (H.alloc (.cells #[.string tT, .int .i64 1] 34)).alloc (.cells #[.bool true] 4)
  simp only [World.size_alloc] at h2
  have hw := with_sys p g N q s { s with st := 2 } ho hL hU [] [] (by simp) (.inl rfl) (by simp)
    39 Tryz.f39 #[.pointer (some ⟨w.heap.size + 1, 0, none⟩)] Tryz.func39 (by kernel_rfl) (by kernel_rfl) [blk (w.heap.size + 1) (.cells #[.bool true] 4)] [blk (w.heap.size + 1) (.cells #[.bool true] 4)] (blk w.heap.size (.cells #[.string tT, .int .i64 1] 34) :: R) w0 _
    (fun X w1 h => dialed_cl g N s hst (w.heap.size + 1) X w0 w1 h) (h2.re 3 [2, 0, 1] [] rfl)
  rw [pv_same q ho, encT] at hw
  have HW := Lib.hid hw
  rw [encT]
  clear hw h2 H
  go_enter Tryz.func11, Tryz.ntmps11
  go_wp2_with (go_at_call 36; refine HW.out.mono ?_; rintro e w2 ⟨rfl, H2⟩; have HD := Lib.hid H2; clear H2)
  go_end0
  exact ⟨rfl, HD.out.re 3 [0] [1, 2] rfl⟩
set_option maxRecDepth 100000 in
theorem pclienteof (p g N : Nat) (q : PV) (s : CV) (ho : q.o = true) (hL : q.log.length ≤ 900000) (hU : q.au.length ≤ 900000) (hst : s.st = 2) (R : List Asn) (w0 w : World) (H : sat w0 w (SysA p g N q s :: R)) :
    Calls Tryz.prog 15 #[.pointer (some ⟨p, 0, none⟩), encK kT] w fun e w' => e = .returned (.tuple #[]) ∧ sat w0 w' (SysA p g N q { s with ue := true } :: R) := by
  have h2 := (H.alloc (.cells #[.string tT, .int .i64 1] 34))
  have hw := with_sys p g N q s { s with ue := true } ho hL hU [] [] (by simp) (.inl rfl) (by simp)
    47 Tryz.f47 #[] Tryz.func47 (by kernel_rfl) (by kernel_rfl) [] [] (blk w.heap.size (.cells #[.string tT, .int .i64 1] 34) :: R) w0 _
    (fun X w1 h => clienteof_cl g N s hst X w0 w1 h) (h2.re 2 [1, 0] [] rfl)
  rw [pv_same q ho, encT] at hw
  have HW := Lib.hid hw
  rw [encT]
  clear hw h2 H
  go_enter Tryz.func15, Tryz.ntmps15
  go_wp2_with (go_at_call 36; refine HW.out.mono ?_; rintro e w2 ⟨rfl, H2⟩; have HD := Lib.hid H2; clear H2)
  go_end0
  exact ⟨rfl, HD.out.re 2 [0] [1] rfl⟩
set_option maxRecDepth 100000 in
theorem pupeof (p g N : Nat) (q : PV) (s : CV) (ho : q.o = true) (hL : q.log.length ≤ 900000) (hU : q.au.length ≤ 900000) (hst : s.st = 2) (R : List Asn) (w0 w : World) (H : sat w0 w (SysA p g N q s :: R)) :
    Calls Tryz.prog 16 #[.pointer (some ⟨p, 0, none⟩), encK kT] w fun e w' => e = .returned (.tuple #[]) ∧ sat w0 w' (SysA p g N q { s with de := true } :: R) := by
  have h2 := (H.alloc (.cells #[.string tT, .int .i64 1] 34))
  have hw := with_sys p g N q s { s with de := true } ho hL hU [] [] (by simp) (.inl rfl) (by simp)
    49 Tryz.f49 #[] Tryz.func49 (by kernel_rfl) (by kernel_rfl) [] [] (blk w.heap.size (.cells #[.string tT, .int .i64 1] 34) :: R) w0 _
    (fun X w1 h => upeof_cl g N s hst X w0 w1 h) (h2.re 2 [1, 0] [] rfl)
  rw [pv_same q ho, encT] at hw
  have HW := Lib.hid hw
  rw [encT]
  clear hw h2 H
  go_enter Tryz.func16, Tryz.ntmps16
  go_wp2_with (go_at_call 36; refine HW.out.mono ?_; rintro e w2 ⟨rfl, H2⟩; have HD := Lib.hid H2; clear H2)
  go_end0
  exact ⟨rfl, HD.out.re 2 [0] [1] rfl⟩
set_option maxRecDepth 100000 in
theorem pclient (p g N : Nat) (q : PV) (s : CV) (ho : q.o = true) (hL : q.log.length ≤ 900000) (hU : q.au.length ≤ 900000) (hst : s.st = 2) (hue : s.ue = false) (m : List UInt8) (b : Value) (hm : m.length ≤ 1000000) (S R : List Asn) (w0 w : World) (hs : ∀ X, Rd w0 (S ++ X) b m) (H : sat w0 w (SysA p g N q s :: (S ++ R))) :
    Calls Tryz.prog 10 #[.pointer (some ⟨p, 0, none⟩), encK kT, b] w fun e w' => e = .returned (.int .i64 (min m.length (N - s.U.length) : Nat)) ∧
      sat w0 w' (SysA p g N q { s with U := s.U ++ m.take (N - s.U.length) } :: (S ++ R)) := by
  obtain ⟨aa, cc, rfl, hs1, hs2⟩ := (hs R w H.tail).form
  have h2 := ((H.alloc (.cells #[.string tT, .int .i64 1] 34)).alloc (.cells #[.slice aa m.length cc] 42)).alloc (.cells #[.int .i64 0] 3)
  simp only [World.size_alloc, Nat.add_assoc, Nat.reduceAdd] at h2
  have h3 : sat w0 _ (SysA p g N q s :: (blk (w.heap.size + 1) (.cells #[.slice aa m.length cc] 42) :: blk (w.heap.size + 2) (.cells #[.int .i64 0] 3) :: S) ++ (blk w.heap.size (.cells #[.string tT, .int .i64 1] 34) :: R)) :=
    (h2.re 4 [3, 1, 0, 2] [] rfl).perm ((((List.perm_append_comm_assoc [_] S R).cons _).cons _).cons _)
  have hw := with_sys p g N q s { s with U := s.U ++ m.take (N - s.U.length) } ho hL hU [] [] (by simp) (.inl rfl) (by simp)
    37 Tryz.f37 #[.pointer (some ⟨w.heap.size + 1, 0, none⟩), .pointer (some ⟨w.heap.size + 2, 0, none⟩)] Tryz.func37 (by kernel_rfl) (by kernel_rfl)
    (blk (w.heap.size + 1) (.cells #[.slice aa m.length cc] 42) :: blk (w.heap.size + 2) (.cells #[.int .i64 0] 3) :: S) (blk (w.heap.size + 1) (.cells #[.slice aa m.length cc] 42) :: blk (w.heap.size + 2) (.cells #[.int .i64 (min m.length (N - s.U.length) : Nat)] 3) :: S)
    (blk w.heap.size (.cells #[.string tT, .int .i64 1] 34) :: R) w0 _
    (fun X w1 h => client_cl g N s hst hue m (.slice aa m.length cc) hm (w.heap.size + 1) (w.heap.size + 2) 0 (S ++ X) w0 w1 (hs X) h) h3
  rw [pv_same q ho, encT] at hw
  have HW := Lib.hid hw
  rw [encT]
  clear hw h2 h3 H hs
  generalize ({ s with U := s.U ++ m.take (N - s.U.length) } : CV) = s' at HW ⊢
  generalize (min m.length (N - s.U.length) : Nat) = k at HW ⊢
  go_enter Tryz.func10, Tryz.ntmps10
  go_wp2_with (go_at_call 36; refine HW.out.mono ?_; rintro e w2 ⟨rfl, H2⟩; have e2 : w2.cell? ⟨w.heap.size + 2, 0, none⟩ = some (.int .i64 k) := cellAt (H2.tail.tail.get.1) 0; have f2 := frozenAt (H2.tail.tail.get.1) 0; have HD := Lib.hid H2; clear H2)
  refine bodyPost_ret (results_int rfl _ _ ⟨w.heap.size + 2, 0, none⟩ (.int .i64 k) rfl ?_) rfl ?_
  · exact cellAt ((HD.out.re 3 [2, 0, 1] [] rfl).store (i := 0) (.int .i64 k)).get.1 0
  · refine ⟨rfl, ?_⟩
    have h := (HD.out.re 3 [2, 0, 1] [] rfl).store (i := 0) (.int .i64 k)
    have h2 := (h.re 3 [1] [0, 2] rfl).perm ((List.perm_append_comm_assoc S [_] R).cons _)
    exact h2.re 2 [0] [1] rfl
set_option maxRecDepth 100000 in
theorem pup (p g N : Nat) (q : PV) (s : CV) (ho : q.o = true) (hL : q.log.length ≤ 900000) (hU : q.au.length ≤ 900000) (hst : s.st = 2) (hue : s.de = false) (m : List UInt8) (b : Value) (hm : m.length ≤ 1000000) (S R : List Asn) (w0 w : World) (hs : ∀ X, Rd w0 (S ++ X) b m) (H : sat w0 w (SysA p g N q s :: (S ++ R))) :
    Calls Tryz.prog 12 #[.pointer (some ⟨p, 0, none⟩), encK kT, b] w fun e w' => e = .returned (.int .i64 (min m.length (N - s.D.length) : Nat)) ∧
      sat w0 w' (SysA p g N q { s with D := s.D ++ m.take (N - s.D.length) } :: (S ++ R)) := by
  obtain ⟨aa, cc, rfl, hs1, hs2⟩ := (hs R w H.tail).form
  have h2 := ((H.alloc (.cells #[.string tT, .int .i64 1] 34)).alloc (.cells #[.slice aa m.length cc] 42)).alloc (.cells #[.int .i64 0] 3)
  simp only [World.size_alloc, Nat.add_assoc, Nat.reduceAdd] at h2
  have h3 : sat w0 _ (SysA p g N q s :: (blk (w.heap.size + 1) (.cells #[.slice aa m.length cc] 42) :: blk (w.heap.size + 2) (.cells #[.int .i64 0] 3) :: S) ++ (blk w.heap.size (.cells #[.string tT, .int .i64 1] 34) :: R)) :=
    (h2.re 4 [3, 1, 0, 2] [] rfl).perm ((((List.perm_append_comm_assoc [_] S R).cons _).cons _).cons _)
  have hw := with_sys p g N q s { s with D := s.D ++ m.take (N - s.D.length) } ho hL hU [] [] (by simp) (.inl rfl) (by simp)
    41 Tryz.f41 #[.pointer (some ⟨w.heap.size + 1, 0, none⟩), .pointer (some ⟨w.heap.size + 2, 0, none⟩)] Tryz.func41 (by kernel_rfl) (by kernel_rfl)
    (blk (w.heap.size + 1) (.cells #[.slice aa m.length cc] 42) :: blk (w.heap.size + 2) (.cells #[.int .i64 0] 3) :: S) (blk (w.heap.size + 1) (.cells #[.slice aa m.length cc] 42) :: blk (w.heap.size + 2) (.cells #[.int .i64 (min m.length (N - s.D.length) : Nat)] 3) :: S)
    (blk w.heap.size (.cells #[.string tT, .int .i64 1] 34) :: R) w0 _
    (fun X w1 h => up_cl g N s hst hue m (.slice aa m.length cc) hm (w.heap.size + 1) (w.heap.size + 2) 0 (S ++ X) w0 w1 (hs X) h) h3
  rw [pv_same q ho, encT] at hw
  have HW := Lib.hid hw
  rw [encT]
  clear hw h2 h3 H hs
  generalize ({ s with D := s.D ++ m.take (N - s.D.length) } : CV) = s' at HW ⊢
  generalize (min m.length (N - s.D.length) : Nat) = k at HW ⊢
  go_enter Tryz.func12, Tryz.ntmps12
  go_wp2_with (go_at_call 36; refine HW.out.mono ?_; rintro e w2 ⟨rfl, H2⟩; have e2 : w2.cell? ⟨w.heap.size + 2, 0, none⟩ = some (.int .i64 k) := cellAt (H2.tail.tail.get.1) 0; have f2 := frozenAt (H2.tail.tail.get.1) 0; have HD := Lib.hid H2; clear H2)
  refine bodyPost_ret (results_int rfl _ _ ⟨w.heap.size + 2, 0, none⟩ (.int .i64 k) rfl ?_) rfl ?_
  · exact cellAt ((HD.out.re 3 [2, 0, 1] [] rfl).store (i := 0) (.int .i64 k)).get.1 0
  · refine ⟨rfl, ?_⟩
    have h := (HD.out.re 3 [2, 0, 1] [] rfl).store (i := 0) (.int .i64 k)
    have h2 := (h.re 3 [1] [0, 2] rfl).perm ((List.perm_append_comm_assoc S [_] R).cons _)
    exact h2.re 2 [0] [1] rfl
end Go.Proofs.YtonipcfnhmnnlaaGreatDoor
