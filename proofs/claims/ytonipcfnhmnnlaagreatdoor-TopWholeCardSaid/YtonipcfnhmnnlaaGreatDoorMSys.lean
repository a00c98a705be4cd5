/- A connection, as it is seen from above. The proxy: its ways to a connection. The proxy: its ways to a connection, one by one. -/
import Derived.Test.YtonipcfnhmnnlaaGreatDoorCT13
import Derived.Test.YtonipcfnhmnnlaaGreatDoorMOps
namespace Go.Proofs.YtonipcfnhmnnlaaGreatDoor
open Go Go.RowKit Hg
set_option linter.unusedVariables false
set_option linter.unusedSimpArgs false
/-- What was seen and decided; which sides ended, and whether it was told; its state; what lies in it. -/
structure CV where
  vh : ByteArray
  al : Bool
  why : Int
  rule : Int
  ue : Bool
  ut : Bool
  de : Bool
  dt : Bool
  st : Int
  pk : List UInt8
  U : List UInt8
  D : List UInt8
/-- What is not seen. -/
structure CI where
  c : CS
  pv : Value
  l : List UInt8
  at_ : Nat
  fu : Nat
  fd : Nat
  ub : Nat
  db : Nat
  Bu : List UInt8
  Bd : List UInt8
structure Fits (N : Nat) (s : CV) (x : CI) : Prop where
  vh : x.c.vh = s.vh
  al : x.c.al = s.al
  why : x.c.why = s.why
  rule : x.c.rule = s.rule
  ue : x.c.ue = s.ue
  ut : x.c.ut = s.ut
  de : x.c.de = s.de
  dt : x.c.dt = s.dt
  st : x.c.st = s.st
  hat : x.at_ ≤ x.l.length
  hl : x.l.length ≤ 16384
  pk : x.l.drop x.at_ = s.pk
  hu : RH x.Bu x.fu s.U
  lu : x.Bu.length = N
  hd : RH x.Bd x.fd s.D
  ld : x.Bd.length = N
  hN : N ≤ 65536
def ConnL (g N : Nat) (s : CV) (x : CI) : List Asn := [CN g x.c, PB x.c.p x.pv 16384 x.at_ false, Row x.pv x.l, RG x.c.u x.ub N x.fu s.U.length, Bys x.ub x.Bu, RG x.c.d x.db N x.fd s.D.length, Bys x.db x.Bd]
def ConnA (g N : Nat) (s : CV) : Asn := ex fun x : CI => fact (Fits N s x) (ConnL g N s x)
theorem ConnA.open {g N : Nat} {s : CV} {w0 w : World} {R : List Asn} (h : sat w0 w (ConnA g N s :: R)) : ∃ x : CI, Fits N s x ∧ sat w0 w (CN g x.c :: PB x.c.p x.pv 16384 x.at_ false :: Row x.pv x.l :: RG x.c.u x.ub N x.fu s.U.length :: Bys x.ub x.Bu :: RG x.c.d x.db N x.fd s.D.length :: Bys x.db x.Bd :: R) := by
  obtain ⟨x, h⟩ := h.open_ex
  exact ⟨x, h.open_fact⟩
theorem ConnA.close {g N : Nat} {s : CV} {w0 w : World} {R : List Asn} (x : CI) (hf : Fits N s x) (h : sat w0 w (CN g x.c :: PB x.c.p x.pv 16384 x.at_ false :: Row x.pv x.l :: RG x.c.u x.ub N x.fu s.U.length :: Bys x.ub x.Bu :: RG x.c.d x.db N x.fd s.D.length :: Bys x.db x.Bd :: R)) : sat w0 w (ConnA g N s :: R) :=
  (sat.fact hf (l := ConnL g N s x) h).ex x
theorem ConnA.tells (g N : Nat) (s : CV) : Tells (ConnA g N s) g s.vh s.al s.why s.rule where
  ver R w0 w H := by
    obtain ⟨x, hf, h⟩ := ConnA.open H
    refine (verdict_calls g x.c _ w0 w h).mono fun e w' ⟨h1, h2⟩ => ⟨.int .i64 x.c.vs, .int .i64 x.c.vp, .int .i64 x.c.vu, .int .i64 0, .int .i64 0, .bool false, .string ⟨#[]⟩, .slice none 0 0, .slice none 0 0, .bool false, ?_, ConnA.close x hf h2⟩
    rw [← hf.vh]; exact h1
  dec R w0 w H := by
    obtain ⟨x, hf, h⟩ := ConnA.open H
    refine (decision_calls g x.c _ w0 w h).mono fun e w' ⟨h1, h2⟩ => ⟨?_, ConnA.close x hf h2⟩
    rw [← hf.al, ← hf.why, ← hf.rule]; exact h1
theorem canupA (g N n : Nat) (hn : 1 ≤ n ∧ n ≤ 9999) (s : CV) (hst : s.st = 2) (P V : List UInt8) (hP : P = s.pk.take n) (hV : V = s.U.take (n - P.length)) (fin all : Bool)
    (hfin : fin = (decide ((s.pk.drop P.length).length + (s.U.drop (n - P.length)).length = 0) && s.ue && !s.ut)) (hall : all = ((s.ut || fin) && s.dt)) (R : List Asn) (w0 w : World) (H : sat w0 w (ConnA g N s :: R)) :
    Calls Tryz.prog 44 #[.pointer (some ⟨g, 0, none⟩), .int .i64 n] w fun e w' => ∃ v' : Value, e = .returned v' ∧
      sat w0 w' (RowA v' (goesL 1 (P ++ V) fin all) :: ConnA g N { s with pk := s.pk.drop P.length, U := s.U.drop (n - P.length), ut := s.ut || fin, st := if all then 4 else s.st } :: R) := by
  obtain ⟨x, hf, h⟩ := ConnA.open H
  have hPl : P.length ≤ (x.l.drop x.at_).length := by rw [hP, List.length_take, hf.pk]; omega
  rw [List.length_drop] at hPl
  have hPl2 := hf.hat
  have hfin' : fin = (decide ((x.l.length - (x.at_ + P.length)) + (s.U.drop (n - P.length)).length = 0) && x.c.ue && !x.c.ut) := by
    rw [hfin, hf.ue, hf.ut, ← hf.pk, List.drop_drop, List.length_drop]
  refine (canup_calls g x.at_ x.ub N x.fu n hn x.c (by rw [hf.st, hst]) x.pv x.l x.Bu s.U P V _ w0 w hf.hat hf.hl hf.hu hf.lu hf.hN (by rw [hf.pk]; exact hP) hV fin all hfin' (by rw [hall, hf.ut, hf.dt]) h).mono ?_
  rintro e w' ⟨v', t, f', rfl, hr, h2⟩
  refine ⟨v', rfl, ?_⟩
  have h3 := h2.swap
  refine (ConnA.close (s := { s with pk := s.pk.drop P.length, U := s.U.drop (n - P.length), ut := s.ut || fin, st := if all then 4 else s.st }) ⟨{ x.c with due := t, ut := x.c.ut || fin, st := if all then 4 else x.c.st }, x.pv, x.l, x.at_ + P.length, f', x.fd, x.ub, x.db, x.Bu, x.Bd⟩ ?_ (h2.re 8 [1, 2, 3, 4, 5, 6, 7, 0] [] rfl)).swap
  refine ⟨hf.vh, hf.al, hf.why, hf.rule, hf.ue, by simp [hf.ut], hf.de, hf.dt, by simp [hf.st], (by show x.at_ + P.length ≤ x.l.length; omega), hf.hl, ?_, hr, hf.lu, hf.hd, hf.ld, hf.hN⟩
  show x.l.drop (x.at_ + P.length) = s.pk.drop P.length
  rw [← hf.pk, List.drop_drop]
theorem canclientA (g N n : Nat) (hn : 1 ≤ n ∧ n ≤ 9999) (s : CV) (hst : s.st = 2) (fin all : Bool)
    (hfin : fin = (decide ((s.D.drop n).length = 0) && s.de && !s.dt)) (hall : all = ((s.dt || fin) && s.ut)) (R : List Asn) (w0 w : World) (H : sat w0 w (ConnA g N s :: R)) :
    Calls Tryz.prog 46 #[.pointer (some ⟨g, 0, none⟩), .int .i64 n] w fun e w' => ∃ v' : Value, e = .returned v' ∧
      sat w0 w' (RowA v' (goesL 3 (s.D.take n) fin all) :: ConnA g N { s with D := s.D.drop n, dt := s.dt || fin, st := if all then 4 else s.st } :: R) := by
  obtain ⟨x, hf, h⟩ := ConnA.open H
  refine (canclient_calls g x.db N x.fd n hn x.c (by rw [hf.st, hst]) x.Bd s.D _ w0 w hf.hd hf.ld hf.hN fin all (by rw [hfin, hf.de, hf.dt]) (by rw [hall, hf.dt, hf.ut]) (h.re 7 [0, 5, 6, 1, 2, 3, 4] [] rfl)).mono ?_
  rintro e w' ⟨v', t, f', rfl, hr, h2⟩
  refine ⟨v', rfl, ?_⟩
  refine (ConnA.close (s := { s with D := s.D.drop n, dt := s.dt || fin, st := if all then 4 else s.st }) ⟨{ x.c with due := t, dt := x.c.dt || fin, st := if all then 4 else x.c.st }, x.pv, x.l, x.at_, x.fu, f', x.ub, x.db, x.Bu, x.Bd⟩ ?_ (h2.re 8 [1, 4, 5, 6, 7, 2, 3, 0] [] rfl)).swap
  exact ⟨hf.vh, hf.al, hf.why, hf.rule, hf.ue, hf.ut, hf.de, by simp [hf.dt], by simp [hf.st], hf.hat, hf.hl, hf.pk, hf.hu, hf.lu, hr, hf.ld, hf.hN⟩
theorem clientA (g N : Nat) (s : CV) (hst : s.st = 2) (hue : s.ue = false) (m : List UInt8) (b : Value) (hm : m.length ≤ 1000000) (R : List Asn) (w0 w : World) (H : sat w0 w (ConnA g N s :: R)) (hs : Rd w0 R b m) :
    Calls Tryz.prog 38 #[.pointer (some ⟨g, 0, none⟩), b] w fun e w' => e = .returned (.tuple #[.int .i64 (min m.length (N - s.U.length) : Nat), .slice none 0 0]) ∧
      sat w0 w' (ConnA g N { s with U := s.U ++ m.take (N - s.U.length) } :: R) := by
  obtain ⟨x, hf, h⟩ := ConnA.open H
  refine (client2_calls g x.ub N x.fu x.c x.Bu s.U m b (PB x.c.p x.pv 16384 x.at_ false :: Row x.pv x.l :: RG x.c.d x.db N x.fd s.D.length :: Bys x.db x.Bd :: R) w0 w (by rw [hf.st, hst]) (by rw [hf.ue, hue]) hf.hu hf.lu hf.hN hm (h.re 7 [0, 3, 4, 1, 2, 5, 6] [] rfl) (hs.weak.weak.weak.weak)).mono ?_
  rintro e w' ⟨B', t, rfl, hr, hb, h2⟩
  refine ⟨rfl, ConnA.close (s := { s with U := s.U ++ m.take (N - s.U.length) }) ⟨{ x.c with due := t }, x.pv, x.l, x.at_, x.fu, x.fd, x.ub, x.db, B', x.Bd⟩ ?_ (h2.re 7 [0, 3, 4, 1, 2, 5, 6] [] rfl)⟩
  exact ⟨hf.vh, hf.al, hf.why, hf.rule, hf.ue, hf.ut, hf.de, hf.dt, hf.st, hf.hat, hf.hl, hf.pk, hr, hb, hf.hd, hf.ld, hf.hN⟩
theorem upA (g N : Nat) (s : CV) (hst : s.st = 2) (hde : s.de = false) (m : List UInt8) (b : Value) (hm : m.length ≤ 1000000) (R : List Asn) (w0 w : World) (H : sat w0 w (ConnA g N s :: R)) (hs : Rd w0 R b m) :
    Calls Tryz.prog 42 #[.pointer (some ⟨g, 0, none⟩), b] w fun e w' => e = .returned (.tuple #[.int .i64 (min m.length (N - s.D.length) : Nat), .slice none 0 0]) ∧
      sat w0 w' (ConnA g N { s with D := s.D ++ m.take (N - s.D.length) } :: R) := by
  obtain ⟨x, hf, h⟩ := ConnA.open H
  refine (up_calls g x.db N x.fd x.c x.Bd s.D m b (PB x.c.p x.pv 16384 x.at_ false :: Row x.pv x.l :: RG x.c.u x.ub N x.fu s.U.length :: Bys x.ub x.Bu :: R) w0 w (by rw [hf.st, hst]) (by rw [hf.de, hde]) hf.hd hf.ld hf.hN hm (h.re 7 [0, 5, 6, 1, 2, 3, 4] [] rfl) (hs.weak.weak.weak.weak)).mono ?_
  rintro e w' ⟨B', t, rfl, hr, hb, h2⟩
  refine ⟨rfl, ConnA.close (s := { s with D := s.D ++ m.take (N - s.D.length) }) ⟨{ x.c with due := t }, x.pv, x.l, x.at_, x.fu, x.fd, x.ub, x.db, x.Bu, B'⟩ ?_ (h2.re 7 [0, 3, 4, 5, 6, 1, 2] [] rfl)⟩
  exact ⟨hf.vh, hf.al, hf.why, hf.rule, hf.ue, hf.ut, hf.de, hf.dt, hf.st, hf.hat, hf.hl, hf.pk, hf.hu, hf.lu, hr, hb, hf.hN⟩
theorem clienteofA (g N : Nat) (s : CV) (hst : s.st = 2) (R : List Asn) (w0 w : World) (H : sat w0 w (ConnA g N s :: R)) :
    Calls Tryz.prog 48 #[.pointer (some ⟨g, 0, none⟩)] w fun e w' => e = .returned (.slice none 0 0) ∧ sat w0 w' (ConnA g N { s with ue := true } :: R) := by
  obtain ⟨x, hf, h⟩ := ConnA.open H
  refine (clienteof_calls g x.c (by rw [hf.st, hst]) _ w0 w h).mono ?_
  rintro e w' ⟨rfl, h2⟩
  exact ⟨rfl, ConnA.close (s := { s with ue := true }) ⟨{ x.c with ue := true }, x.pv, x.l, x.at_, x.fu, x.fd, x.ub, x.db, x.Bu, x.Bd⟩ ⟨hf.vh, hf.al, hf.why, hf.rule, rfl, hf.ut, hf.de, hf.dt, hf.st, hf.hat, hf.hl, hf.pk, hf.hu, hf.lu, hf.hd, hf.ld, hf.hN⟩ h2⟩
theorem upeofA (g N : Nat) (s : CV) (hst : s.st = 2) (R : List Asn) (w0 w : World) (H : sat w0 w (ConnA g N s :: R)) :
    Calls Tryz.prog 50 #[.pointer (some ⟨g, 0, none⟩)] w fun e w' => e = .returned (.slice none 0 0) ∧ sat w0 w' (ConnA g N { s with de := true } :: R) := by
  obtain ⟨x, hf, h⟩ := ConnA.open H
  refine (upeof_calls g x.c (by rw [hf.st, hst]) _ w0 w h).mono ?_
  rintro e w' ⟨rfl, h2⟩
  exact ⟨rfl, ConnA.close (s := { s with de := true }) ⟨{ x.c with de := true }, x.pv, x.l, x.at_, x.fu, x.fd, x.ub, x.db, x.Bu, x.Bd⟩ ⟨hf.vh, hf.al, hf.why, hf.rule, hf.ue, hf.ut, rfl, hf.dt, hf.st, hf.hat, hf.hl, hf.pk, hf.hu, hf.lu, hf.hd, hf.ld, hf.hN⟩ h2⟩
theorem dialedA (g N : Nat) (s : CV) (hst : s.st = 1) (R : List Asn) (w0 w : World) (H : sat w0 w (ConnA g N s :: R)) :
    Calls Tryz.prog 40 #[.pointer (some ⟨g, 0, none⟩), .bool true] w fun e w' => e = .returned (.slice none 0 0) ∧ sat w0 w' (ConnA g N { s with st := 2 } :: R) := by
  obtain ⟨x, hf, h⟩ := ConnA.open H
  refine (dialed_calls g x.c (by rw [hf.st, hst]) _ w0 w h).mono ?_
  rintro e w' ⟨rfl, h2⟩
  exact ⟨rfl, ConnA.close (s := { s with st := 2 }) ⟨{ x.c with st := 2, due := 1000 }, x.pv, x.l, x.at_, x.fu, x.fd, x.ub, x.db, x.Bu, x.Bd⟩ ⟨hf.vh, hf.al, hf.why, hf.rule, hf.ue, hf.ut, hf.de, hf.dt, rfl, hf.hat, hf.hl, hf.pk, hf.hu, hf.lu, hf.hd, hf.ld, hf.hN⟩ h2⟩
end Go.Proofs.YtonipcfnhmnnlaaGreatDoor
namespace Go.Proofs.YtonipcfnhmnnlaaGreatDoor
open Go Go.RowKit Hg
set_option linter.unusedVariables false
set_option linter.unusedSimpArgs false
attribute [local go_sem] Lib.run_eql_slice_nil run_min2 run_max2 run_min_two run_max_two
/-- The one connection's key. -/
def tT : ByteArray := ⟨#[116]⟩
def kT : ByteArray × Int := (tT, 1)
def lv (g : Nat) : Value := .agg #[.pointer (some ⟨g, 0, none⟩), .int .i64 1]
structure PI where
  mt : Nat
  mc : Nat
  tb : Nat
  j : Nat
  lg : Value
  au : Value
structure PV where
  relay : Int
  ct : Int
  ca : Int
  log : List EV
  au : List AU
  o : Bool
def SysL (p g N : Nat) (q : PV) (s : CV) (x : PI) : List Asn := [PX p q.relay q.ct q.ca x.mt x.mc x.lg x.au, MapA encK x.mc (if q.o then [(kT, lv g)] else []), RowE x.lg q.log, RowU x.au q.au, MapA Value.string x.mt [(tT, .pointer (some ⟨x.tb, 0, none⟩))], TN x.tb x.j 1 1 (if q.o then 1 else 0), ConnA g N s]
/-- A proxy with one tenant, who had one connection. -/
def SysA (p g N : Nat) (q : PV) (s : CV) : Asn := ex fun x : PI => many (SysL p g N q s x)
theorem SysA.open {p g N : Nat} {q : PV} {s : CV} {w0 w : World} {R : List Asn} (h : sat w0 w (SysA p g N q s :: R)) : ∃ x : PI, sat w0 w (PX p q.relay q.ct q.ca x.mt x.mc x.lg x.au :: MapA encK x.mc (if q.o then [(kT, lv g)] else []) :: RowE x.lg q.log :: RowU x.au q.au :: MapA Value.string x.mt [(tT, .pointer (some ⟨x.tb, 0, none⟩))] :: TN x.tb x.j 1 1 (if q.o then 1 else 0) :: ConnA g N s :: R) := by
  obtain ⟨x, h⟩ := h.open_ex
  exact ⟨x, h.open_many⟩
theorem SysA.close {p g N : Nat} {q : PV} {s : CV} {w0 w : World} {R : List Asn} (x : PI) (h : sat w0 w (PX p q.relay q.ct q.ca x.mt x.mc x.lg x.au :: MapA encK x.mc (if q.o then [(kT, lv g)] else []) :: RowE x.lg q.log :: RowU x.au q.au :: MapA Value.string x.mt [(tT, .pointer (some ⟨x.tb, 0, none⟩))] :: TN x.tb x.j 1 1 (if q.o then 1 else 0) :: ConnA g N s :: R)) : sat w0 w (SysA p g N q s :: R) :=
  (sat.many (l := SysL p g N q s x) h).ex x
theorem get_kT (g : Nat) : getA kT [(kT, lv g)] = some (.agg #[.pointer (some ⟨g, 0, none⟩), .int .i64 1]) := by simp [getA, findA, lv]
theorem get_none : getA kT ([] : List ((ByteArray × Int) × Value)) = none := rfl
theorem get_tT (tb : Nat) : getA tT [(tT, Value.pointer (some ⟨tb, 0, none⟩))] = some (.pointer (some ⟨tb, 0, none⟩)) := by simp [getA, findA]
theorem del_kT (g : Nat) : delA kT [(kT, lv g)] = [] := by simp [delA, findA]
/-- What a connection did is logged. -/
def aud (s : CV) (why : Int) : AU := ⟨kT, why, 1, s.vh, s.al, s.why, s.rule⟩
theorem did_sys (p g N : Nat) (q : PV) (s : CV) (ho : q.o = true) (v : Value) (l0 l1 : List AC) (hl0 : ∀ a ∈ l0, a.kind ≠ 5) (hl1 : l1 = [] ∨ ∃ b why, l1 = [⟨5, b, why⟩]) (hL : q.log.length ≤ 900000) (hU : q.au.length ≤ 900000) (hl : l0.length ≤ 90000)
    (x : PI) (R : List Asn) (w0 w : World) (H : sat w0 w (RowA v (l0 ++ l1) :: PX p q.relay q.ct q.ca x.mt x.mc x.lg x.au :: MapA encK x.mc [(kT, lv g)] :: RowE x.lg q.log :: RowU x.au q.au :: MapA Value.string x.mt [(tT, .pointer (some ⟨x.tb, 0, none⟩))] :: TN x.tb x.j 1 1 1 :: ConnA g N s :: R)) :
    Calls Tryz.prog 71 #[.pointer (some ⟨p, 0, none⟩), encK kT, .agg #[.pointer (some ⟨g, 0, none⟩), .int .i64 1], v] w fun e w' => e = .returned (.tuple #[]) ∧
      sat w0 w' (SysA p g N { q with log := q.log ++ (l0 ++ l1).map (EV.mk kT), au := q.au ++ l1.map fun a => aud s a.why, o := l1.isEmpty } s :: R) := by
  refine (did_calls p x.mt x.mc x.tb x.j g q.relay q.ct q.ca 1 1 1 1 kT (ConnA g N s) s.vh s.al s.why s.rule (ConnA.tells g N s) x.lg x.au v q.log q.au [(tT, .pointer (some ⟨x.tb, 0, none⟩))] [(kT, lv g)] (get_tT x.tb) l0 l1 hl0 hl1 hL hU hl (by decide) R w0 w
    (H.re 8 [1, 3, 4, 5, 6, 2, 7, 0] [] rfl)).mono ?_
  rintro e w' ⟨rfl, lg', au', h⟩
  refine ⟨rfl, SysA.close ⟨x.mt, x.mc, x.tb, x.j, lg', au'⟩ ?_⟩
  have h2 := h.re 7 [0, 5, 1, 2, 3, 4, 6] [] rfl
  rcases hl1 with rfl | ⟨b, why, rfl⟩
  · exact h2
  · have e1 : (if ([⟨5, b, why⟩] : List AC) = [] then [(kT, lv g)] else delA kT [(kT, lv g)]) = [] := by rw [if_neg (by simp), del_kT]
    rw [e1] at h2
    exact h2
theorem with_sys (p g N : Nat) (q : PV) (s s' : CV) (ho : q.o = true) (hL : q.log.length ≤ 900000) (hU : q.au.length ≤ 900000) (l0 l1 : List AC) (hl0 : ∀ a ∈ l0, a.kind ≠ 5) (hl1 : l1 = [] ∨ ∃ b why, l1 = [⟨5, b, why⟩]) (hl : l0.length ≤ 90000)
    (n : FuncId) (fn : Func) (cap : Array Value) (hf : Tryz.prog.funcs[n]? = some fn) (hname : (fn.name == "runtime.NumGoroutine") = false) (hb : fn.body.isNone = false)
    (E E' R : List Asn) (w0 w : World)
    (hcl : ∀ X w1, sat w0 w1 (ConnA g N s :: (E ++ X)) → Calls Tryz.prog n (#[.agg #[.pointer (some ⟨g, 0, none⟩), .int .i64 1]] ++ cap) w1 fun e w2 => ∃ v, e = .returned v ∧ sat w0 w2 (RowA v (l0 ++ l1) :: ConnA g N s' :: (E' ++ X)))
    (H : sat w0 w (SysA p g N q s :: (E ++ R))) :
    Calls Tryz.prog 36 #[.pointer (some ⟨p, 0, none⟩), encK kT, .func (.func n) #[] cap] w fun e w' => e = .returned (.tuple #[]) ∧
      sat w0 w' (SysA p g N { q with log := q.log ++ (l0 ++ l1).map (EV.mk kT), au := q.au ++ l1.map fun a => aud s' a.why, o := l1.isEmpty } s' :: (E' ++ R)) := by
  obtain ⟨x, h⟩ := SysA.open H
  simp only [ho, if_true] at h
  have hin := h.re 7 [0, 1, 2, 3, 4, 5, 6] [] rfl
  refine (with_calls p x.mt x.mc g q.relay q.ct q.ca 1 kT x.lg x.au [(kT, lv g)] (get_kT g) n fn cap hf hname hb (RowE x.lg q.log :: RowU x.au q.au :: MapA Value.string x.mt [(tT, .pointer (some ⟨x.tb, 0, none⟩))] :: TN x.tb x.j 1 1 1 :: ConnA g N s :: E) R w0 w
    (fun X v w2 => sat w0 w2 (RowA v (l0 ++ l1) :: ConnA g N s' :: (E' ++ (PX p q.relay q.ct q.ca x.mt x.mc x.lg x.au :: MapA encK x.mc [(kT, lv g)] :: RowE x.lg q.log :: RowU x.au q.au :: MapA Value.string x.mt [(tT, .pointer (some ⟨x.tb, 0, none⟩))] :: TN x.tb x.j 1 1 1 :: X))))
    (fun X w3 => sat w0 w3 (SysA p g N { q with log := q.log ++ (l0 ++ l1).map (EV.mk kT), au := q.au ++ l1.map fun a => aud s' a.why, o := l1.isEmpty } s' :: (E' ++ X)))
    (fun X w1 h1 => ?_) (fun X v w2 h2 => ?_) (fun X v w2 h2 => ?_) h).mono ?_
  · exact hcl (PX p q.relay q.ct q.ca x.mt x.mc x.lg x.au :: MapA encK x.mc [(kT, lv g)] :: RowE x.lg q.log :: RowU x.au q.au :: MapA Value.string x.mt [(tT, .pointer (some ⟨x.tb, 0, none⟩))] :: TN x.tb x.j 1 1 1 :: X) w1
      ((h1.re 7 [6, 0, 1, 2, 3, 4, 5] [] rfl).perm ((List.perm_append_comm_assoc [_, _, _, _, _, _] E X).cons _))
  · exact satDrop (L := [_, _, _, _, _, _]) (satDrop h2.tail.tail)
  · have h3 := h2.perm (((List.perm_append_comm_assoc E' [_, _, _, _, _, _] X).cons _).cons _)
    refine (did_sys p g N q s' ho v l0 l1 hl0 hl1 hL hU hl x (E' ++ X) w0 w2 (h3.re 8 [0, 2, 3, 4, 5, 6, 7, 1] [] rfl)).mono ?_
    rintro e w' ⟨rfl, h4⟩
    exact ⟨rfl, h4⟩
  · rintro e w' ⟨rfl, o1, o2, h4⟩
    refine ⟨rfl, ?_⟩
    have h5 := h4.perm ((List.perm_append_comm_assoc E' [o1, o2] R).cons _)
    exact h5.re 3 [0] [1, 2] rfl
theorem goesL_l0 (k : Int) (hk : k = 1 ∨ k = 3) (b : List UInt8) (fin : Bool) : ∀ a ∈ (if b = [] then [] else [(⟨k, bstr b, 0⟩ : AC)]) ++ (if fin then [(⟨k + 1, ⟨#[]⟩, 0⟩ : AC)] else []), a.kind ≠ 5 := by
  intro a ha
  by_cases hb : b = [] <;> cases fin <;> simp [hb] at ha
  · subst ha; show k + 1 ≠ 5; omega
  · subst ha; show k ≠ 5; omega
  · rcases ha with rfl | rfl
    · show k ≠ 5; omega
    · show k + 1 ≠ 5; omega
theorem goesL_len0 (k : Int) (b : List UInt8) (fin : Bool) : ((if b = [] then [] else [(⟨k, bstr b, 0⟩ : AC)]) ++ (if fin then [(⟨k + 1, ⟨#[]⟩, 0⟩ : AC)] else [])).length ≤ 2 := by
  by_cases hb : b = [] <;> cases fin <;> simp [hb]
set_option maxRecDepth 100000 in
theorem canup_cl (g N n : Nat) (hn : 1 ≤ n ∧ n ≤ 9999) (s : CV) (hst : s.st = 2) (P V : List UInt8) (hP : P = s.pk.take n) (hV : V = s.U.take (n - P.length)) (fin all : Bool)
    (hfin : fin = (decide ((s.pk.drop P.length).length + (s.U.drop (n - P.length)).length = 0) && s.ue && !s.ut)) (hall : all = ((s.ut || fin) && s.dt)) (nb : Nat) (R : List Asn) (w0 w : World) (H : sat w0 w (ConnA g N s :: blk nb (.cells #[.int .i64 n] 3) :: R)) :
    Calls Tryz.prog 43 #[.agg #[.pointer (some ⟨g, 0, none⟩), .int .i64 1], .pointer (some ⟨nb, 0, none⟩)] w fun e w' => ∃ v' : Value, e = .returned v' ∧
      sat w0 w' (RowA v' (goesL 1 (P ++ V) fin all) :: ConnA g N { s with pk := s.pk.drop P.length, U := s.U.drop (n - P.length), ut := s.ut || fin, st := if all then 4 else s.st } :: blk nb (.cells #[.int .i64 n] 3) :: R) := by
  have c0 : ∀ o, (w.alloc o).cell? ⟨nb, 0, none⟩ = some (.int .i64 n) := fun o => cellAt ((H.alloc o).tail.tail).get.1 0
  have HC := Lib.hid (canupA g N n hn s hst P V hP hV fin all hfin hall (blk nb (.cells #[.int .i64 n] 3) :: R) w0 _ (H.alloc (.cells #[.pointer (some ⟨g, 0, none⟩), .int .i64 1] 106)).tail)
  clear H hP hV hfin hall
  generalize hs' : ({ s with pk := s.pk.drop P.length, U := s.U.drop (n - P.length), ut := s.ut || fin, st := if all then 4 else s.st } : CV) = s' at HC ⊢
  generalize hgl : goesL 1 (P ++ V) fin all = gl at HC ⊢
  clear hs' hgl
  go_enter Tryz.func43, Tryz.ntmps43
  go_wp2_with (go_at_call 44; refine HC.out.mono ?_; rintro e w2 ⟨v2, rfl, H2⟩; have HD := Lib.hid H2; clear H2)
  go_ret
  exact ⟨v2, rfl, HD.out⟩
theorem goesL_cut (k : Int) (b : List UInt8) (fin all : Bool) : goesL k b fin all = ((if b = [] then [] else [(⟨k, bstr b, 0⟩ : AC)]) ++ (if fin then [(⟨k + 1, ⟨#[]⟩, 0⟩ : AC)] else [])) ++ (if all then [⟨5, ⟨#[]⟩, 0⟩] else []) := rfl
theorem l1_cases (all : Bool) : (if all then [(⟨5, ⟨#[]⟩, 0⟩ : AC)] else []) = [] ∨ ∃ b why, (if all then [(⟨5, ⟨#[]⟩, 0⟩ : AC)] else []) = [⟨5, b, why⟩] := by
  cases all
  · exact .inl rfl
  · exact .inr ⟨_, _, rfl⟩
end Go.Proofs.YtonipcfnhmnnlaaGreatDoor
namespace Go.Proofs.YtonipcfnhmnnlaaGreatDoor
open Go Go.RowKit Hg
set_option linter.unusedVariables false
set_option linter.unusedSimpArgs false
attribute [local go_sem] Lib.run_eql_slice_nil run_min2 run_max2 run_min_two run_max_two
set_option maxRecDepth 100000 in
theorem canclient_cl (g N n : Nat) (hn : 1 ≤ n ∧ n ≤ 9999) (s : CV) (hst : s.st = 2) (fin all : Bool)
    (hfin : fin = (decide ((s.D.drop n).length = 0) && s.de && !s.dt)) (hall : all = ((s.dt || fin) && s.ut)) (nb : Nat) (R : List Asn) (w0 w : World) (H : sat w0 w (ConnA g N s :: blk nb (.cells #[.int .i64 n] 3) :: R)) :
    Calls Tryz.prog 45 #[.agg #[.pointer (some ⟨g, 0, none⟩), .int .i64 1], .pointer (some ⟨nb, 0, none⟩)] w fun e w' => ∃ v' : Value, e = .returned v' ∧
      sat w0 w' (RowA v' (goesL 3 (s.D.take n) fin all) :: ConnA g N { s with D := s.D.drop n, dt := s.dt || fin, st := if all then 4 else s.st } :: blk nb (.cells #[.int .i64 n] 3) :: R) := by
  have c0 : ∀ o, (w.alloc o).cell? ⟨nb, 0, none⟩ = some (.int .i64 n) := fun o => cellAt ((H.alloc o).tail.tail).get.1 0
  have HC := Lib.hid (canclientA g N n hn s hst fin all hfin hall (blk nb (.cells #[.int .i64 n] 3) :: R) w0 _ (H.alloc (.cells #[.pointer (some ⟨g, 0, none⟩), .int .i64 1] 106)).tail)
  clear H hfin hall
  generalize hs' : ({ s with D := s.D.drop n, dt := s.dt || fin, st := if all then 4 else s.st } : CV) = s' at HC ⊢
  generalize hgl : goesL 3 (s.D.take n) fin all = gl at HC ⊢
  clear hs' hgl
  go_enter Tryz.func45, Tryz.ntmps45
  go_wp2_with (go_at_call 46; refine HC.out.mono ?_; rintro e w2 ⟨v2, rfl, H2⟩; have HD := Lib.hid H2; clear H2)
  go_ret
  exact ⟨v2, rfl, HD.out⟩
set_option maxRecDepth 100000 in
theorem dialed_cl (g N : Nat) (s : CV) (hst : s.st = 1) (nb : Nat) (R : List Asn) (w0 w : World) (H : sat w0 w (ConnA g N s :: blk nb (.cells #[.bool true] 4) :: R)) :
    Calls Tryz.prog 39 #[.agg #[.pointer (some ⟨g, 0, none⟩), .int .i64 1], .pointer (some ⟨nb, 0, none⟩)] w fun e w' => ∃ v' : Value, e = .returned v' ∧
      sat w0 w' (RowA v' [] :: ConnA g N { s with st := 2 } :: blk nb (.cells #[.bool true] 4) :: R) := by
  have c0 : ∀ o, (w.alloc o).cell? ⟨nb, 0, none⟩ = some (.bool true) := fun o => cellAt ((H.alloc o).tail.tail).get.1 0
  have HC := Lib.hid (dialedA g N s hst (blk nb (.cells #[.bool true] 4) :: R) w0 _ (H.alloc (.cells #[.pointer (some ⟨g, 0, none⟩), .int .i64 1] 106)).tail)
  clear H
  go_enter Tryz.func39, Tryz.ntmps39
  go_wp2_with (go_at_call 40; refine HC.out.mono ?_; rintro e w2 ⟨rfl, H2⟩; have HD := Lib.hid H2; clear H2)
  go_ret
  exact ⟨_, rfl, RowA.nil HD.out⟩
set_option maxRecDepth 100000 in
theorem clienteof_cl (g N : Nat) (s : CV) (hst : s.st = 2) (R : List Asn) (w0 w : World) (H : sat w0 w (ConnA g N s :: R)) :
    Calls Tryz.prog 47 #[.agg #[.pointer (some ⟨g, 0, none⟩), .int .i64 1]] w fun e w' => ∃ v' : Value, e = .returned v' ∧ sat w0 w' (RowA v' [] :: ConnA g N { s with ue := true } :: R) := by
  have HC := Lib.hid (clienteofA g N s hst R w0 _ (H.alloc (.cells #[.pointer (some ⟨g, 0, none⟩), .int .i64 1] 106)).tail)
  clear H
  go_enter Tryz.func47, Tryz.ntmps47
  go_wp2_with (go_at_call 48; refine HC.out.mono ?_; rintro e w2 ⟨rfl, H2⟩; have HD := Lib.hid H2; clear H2)
  go_ret
  exact ⟨_, rfl, RowA.nil HD.out⟩
set_option maxRecDepth 100000 in
theorem upeof_cl (g N : Nat) (s : CV) (hst : s.st = 2) (R : List Asn) (w0 w : World) (H : sat w0 w (ConnA g N s :: R)) :
    Calls Tryz.prog 49 #[.agg #[.pointer (some ⟨g, 0, none⟩), .int .i64 1]] w fun e w' => ∃ v' : Value, e = .returned v' ∧ sat w0 w' (RowA v' [] :: ConnA g N { s with de := true } :: R) := by
  have HC := Lib.hid (upeofA g N s hst R w0 _ (H.alloc (.cells #[.pointer (some ⟨g, 0, none⟩), .int .i64 1] 106)).tail)
  clear H
  go_enter Tryz.func49, Tryz.ntmps49
  go_wp2_with (go_at_call 50; refine HC.out.mono ?_; rintro e w2 ⟨rfl, H2⟩; have HD := Lib.hid H2; clear H2)
  go_ret
  exact ⟨_, rfl, RowA.nil HD.out⟩
set_option maxRecDepth 100000 in
theorem client_cl (g N : Nat) (s : CV) (hst : s.st = 2) (hue : s.ue = false) (m : List UInt8) (b : Value) (hm : m.length ≤ 1000000) (bb nb : Nat) (r0 : Int) (R : List Asn) (w0 w : World) (hs : Rd w0 R b m) (H : sat w0 w (ConnA g N s :: blk bb (.cells #[b] 42) :: blk nb (.cells #[.int .i64 r0] 3) :: R)) :
    Calls Tryz.prog 37 #[.agg #[.pointer (some ⟨g, 0, none⟩), .int .i64 1], .pointer (some ⟨bb, 0, none⟩), .pointer (some ⟨nb, 0, none⟩)] w fun e w' => ∃ v' : Value, e = .returned v' ∧
      sat w0 w' (RowA v' [] :: ConnA g N { s with U := s.U ++ m.take (N - s.U.length) } :: blk bb (.cells #[b] 42) :: blk nb (.cells #[.int .i64 (min m.length (N - s.U.length) : Nat)] 3) :: R) := by
  obtain ⟨aa, cc, rfl, hs1, hs2⟩ := (hs w H.tail.tail.tail).form
  have c0 : ∀ o, (w.alloc o).cell? ⟨bb, 0, none⟩ = some (.slice aa m.length cc) := fun o => cellAt ((H.alloc o).tail.tail).get.1 0
  have HC := Lib.hid (clientA g N s hst hue m (.slice aa m.length cc) hm (blk bb (.cells #[.slice aa m.length cc] 42) :: blk nb (.cells #[.int .i64 r0] 3) :: R) w0 _ (H.alloc (.cells #[.pointer (some ⟨g, 0, none⟩), .int .i64 1] 106)).tail hs.weak.weak)
  clear H hs
  generalize (min m.length (N - s.U.length) : Nat) = k at *
  go_enter Tryz.func37, Tryz.ntmps37
  go_wp2_with (go_at_call 38; refine HC.out.mono ?_; rintro e w2 ⟨rfl, H2⟩; have e0 : w2.cell? ⟨nb, 0, none⟩ = some (.int .i64 r0) := cellAt (H2.tail.tail).get.1 0; have f0 := frozenAt (H2.tail.tail).get.1 0; have HD := Lib.hid (H2.re 3 [2, 0, 1] [] rfl); clear H2)
  go_ret
  exact ⟨_, rfl, (RowA.nil (HD.out.store (i := 0) (.int .i64 k))).re 4 [0, 2, 3, 1] [] rfl⟩
set_option maxRecDepth 100000 in
theorem up_cl (g N : Nat) (s : CV) (hst : s.st = 2) (hue : s.de = false) (m : List UInt8) (b : Value) (hm : m.length ≤ 1000000) (bb nb : Nat) (r0 : Int) (R : List Asn) (w0 w : World) (hs : Rd w0 R b m) (H : sat w0 w (ConnA g N s :: blk bb (.cells #[b] 42) :: blk nb (.cells #[.int .i64 r0] 3) :: R)) :
    Calls Tryz.prog 41 #[.agg #[.pointer (some ⟨g, 0, none⟩), .int .i64 1], .pointer (some ⟨bb, 0, none⟩), .pointer (some ⟨nb, 0, none⟩)] w fun e w' => ∃ v' : Value, e = .returned v' ∧
      sat w0 w' (RowA v' [] :: ConnA g N { s with D := s.D ++ m.take (N - s.D.length) } :: blk bb (.cells #[b] 42) :: blk nb (.cells #[.int .i64 (min m.length (N - s.D.length) : Nat)] 3) :: R) := by
  obtain ⟨aa, cc, rfl, hs1, hs2⟩ := (hs w H.tail.tail.tail).form
  have c0 : ∀ o, (w.alloc o).cell? ⟨bb, 0, none⟩ = some (.slice aa m.length cc) := fun o => cellAt ((H.alloc o).tail.tail).get.1 0
  have HC := Lib.hid (upA g N s hst hue m (.slice aa m.length cc) hm (blk bb (.cells #[.slice aa m.length cc] 42) :: blk nb (.cells #[.int .i64 r0] 3) :: R) w0 _ (H.alloc (.cells #[.pointer (some ⟨g, 0, none⟩), .int .i64 1] 106)).tail hs.weak.weak)
  clear H hs
  generalize (min m.length (N - s.D.length) : Nat) = k at *
  go_enter Tryz.func41, Tryz.ntmps41
  go_wp2_with (go_at_call 42; refine HC.out.mono ?_; rintro e w2 ⟨rfl, H2⟩; have e0 : w2.cell? ⟨nb, 0, none⟩ = some (.int .i64 r0) := cellAt (H2.tail.tail).get.1 0; have f0 := frozenAt (H2.tail.tail).get.1 0; have HD := Lib.hid (H2.re 3 [2, 0, 1] [] rfl); clear H2)
  go_ret
  exact ⟨_, rfl, (RowA.nil (HD.out.store (i := 0) (.int .i64 k))).re 4 [0, 2, 3, 1] [] rfl⟩
end Go.Proofs.YtonipcfnhmnnlaaGreatDoor
