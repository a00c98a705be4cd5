/- What a proxy with its one connection does, told by what went through. -/
import Derived.Test.YtonipcfnhmnnlaaGreatDoorMEnd
import Derived.Test.YtonipcfnhmnnlaaGreatDoorCTW
namespace Go.Proofs.YtonipcfnhmnnlaaGreatDoor
open Go Go.RowKit Hg
set_option linter.unusedVariables false
set_option linter.unusedSimpArgs false
def cv (ue ut de dt : Bool) (st : Int) (pk U D : List UInt8) : CV := ⟨sAB, true, 1, -1, ue, ut, de, dt, st, pk, U, D⟩
def au1 : AU := ⟨kT, 0, 1, sAB, true, 1, -1⟩
def pv (relay : Nat) (log : List AC) (c : Bool) : PV := ⟨relay, 1, 1, log.map (EV.mk kT), if c then [au1] else [], !c⟩
structure FX where
  pk : List UInt8
  U : List UInt8
  D : List UInt8
  log : List AC
/-- While bytes come, ahead of a round. -/
def FlowE (p g relay : Nat) (s back : List UInt8) (k i o : Nat) : Asn :=
  ex fun x : FX => Hg.fact (Flow s back relay k i o x.pk x.U x.D x.log) [SysA p g relay (pv relay x.log false) (cv false false false false 2 x.pk x.U x.D)]
/-- Behind the client's bytes. -/
def FlowC (p g relay : Nat) (s back : List UInt8) (k i' o : Nat) : Asn :=
  ex fun x : FX => Hg.fact (∃ i U, Flow s back relay k i o x.pk U x.D x.log ∧ i' = i + min (s.length - i) (relay - U.length) ∧ x.U = U ++ (s.drop i).take (relay - U.length)) [SysA p g relay (pv relay x.log false) (cv false false false false 2 x.pk x.U x.D)]
/-- Behind the bytes of the other side. -/
def FlowD (p g relay : Nat) (s back : List UInt8) (k i' o' : Nat) : Asn :=
  ex fun x : FX => Hg.fact (∃ i U o D, Flow s back relay k i o x.pk U D x.log ∧ i' = i + min (s.length - i) (relay - U.length) ∧ x.U = U ++ (s.drop i).take (relay - U.length) ∧ o' = o + min (back.length - o) (relay - D.length) ∧ x.D = D ++ (back.drop o).take (relay - D.length)) [SysA p g relay (pv relay x.log false) (cv false false false false 2 x.pk x.U x.D)]
/-- Behind what went up. -/
def FlowU (p g relay : Nat) (s back : List UInt8) (n k i' o' : Nat) : Asn :=
  ex fun x : FX => Hg.fact (∃ i U o D pk U1 P V log, Flow s back relay k i o pk U D log ∧ i' = i + min (s.length - i) (relay - U.length) ∧ U1 = U ++ (s.drop i).take (relay - U.length) ∧ o' = o + min (back.length - o) (relay - D.length) ∧ x.D = D ++ (back.drop o).take (relay - D.length) ∧
    P = pk.take n ∧ V = U1.take (n - P.length) ∧ x.pk = pk.drop P.length ∧ x.U = U1.drop (n - P.length) ∧ x.log = log ++ goesL 1 (P ++ V) false false) [SysA p g relay (pv relay x.log false) (cv false false false false 2 x.pk x.U x.D)]
theorem opened {φ : FX → Prop} {A : FX → Asn} {R : List Asn} {w0 w : World} (h : sat w0 w ((ex fun x : FX => Hg.fact (φ x) [A x]) :: R)) : ∃ x, φ x ∧ sat w0 w (A x :: R) := by
  obtain ⟨x, h⟩ := h.open_ex
  obtain ⟨h1, h2⟩ := h.open_fact
  exact ⟨x, h1, h2⟩
theorem closed' {φ : FX → Prop} {A : FX → Asn} {R : List Asn} {w0 w : World} (x : FX) (hx : φ x) (h : sat w0 w (A x :: R)) : sat w0 w ((ex fun x : FX => Hg.fact (φ x) [A x]) :: R) :=
  sat.ex (P := fun x : FX => Hg.fact (φ x) [A x]) x (sat.fact (l := [A x]) hx h)
theorem pv_goes (relay : Nat) (log : List AC) (l : List AC) (a : AU) : ({ pv relay log false with log := (pv relay log false).log ++ l.map (EV.mk kT), au := (pv relay log false).au ++ (if false then [a] else []), o := !false } : PV) = pv relay (log ++ l) false := by
  simp [pv]
theorem pv_len (relay : Nat) (log : List AC) (h : log.length ≤ 900000) (c : Bool) : (pv relay log c).log.length ≤ 900000 ∧ (pv relay log c).au.length ≤ 900000 := by
  refine ⟨by simpa [pv] using h, ?_⟩
  cases c <;> simp [pv]
theorem t_client (p g relay k i o : Nat) (s back : List UInt8) (hk : k ≤ 2000) (hs : s.length ≤ 1000) (b : Value) (R : List Asn) (w0 w : World) (H : sat w0 w (FlowE p g relay s back k i o :: BB b (s.drop i) :: R)) :
    Calls Tryz.prog 10 #[.pointer (some ⟨p, 0, none⟩), encK kT, b] w fun e w' => ∃ n : Nat, e = .returned (.int .i64 n) ∧ i + n ≤ s.length ∧ sat w0 w' (FlowC p g relay s back k (i + n) o :: R) := by
  obtain ⟨x, hx, h⟩ := opened H
  have hl := pv_len relay x.log (by have := hx.len; omega) false
  refine (pclient p g relay (pv relay x.log false) (cv false false false false 2 x.pk x.U x.D) rfl hl.1 hl.2 rfl rfl (s.drop i) b (by rw [List.length_drop]; omega) [BB b (s.drop i)] R w0 w (fun X => BB.rd) h).mono ?_
  rintro e w' ⟨rfl, h2⟩
  refine ⟨_, rfl, ?_, closed' ⟨x.pk, x.U ++ (s.drop i).take (relay - x.U.length), x.D, x.log⟩ ⟨i, x.U, hx, ?_, rfl⟩ (h2.re 2 [0] [1] rfl)⟩
  · show i + min (s.drop i).length (relay - x.U.length) ≤ s.length
    have := hx.hi
    rw [List.length_drop]; omega
  · show i + min (s.drop i).length (relay - x.U.length) = _
    rw [List.length_drop]
theorem t_up (p g relay k i o : Nat) (s back : List UInt8) (hk : k ≤ 2000) (hs : back.length ≤ 1000) (b : Value) (R : List Asn) (w0 w : World) (H : sat w0 w (FlowC p g relay s back k i o :: BB b (back.drop o) :: R)) :
    Calls Tryz.prog 12 #[.pointer (some ⟨p, 0, none⟩), encK kT, b] w fun e w' => ∃ n : Nat, e = .returned (.int .i64 n) ∧ o + n ≤ back.length ∧ sat w0 w' (FlowD p g relay s back k i (o + n) :: R) := by
  obtain ⟨x, ⟨i0, U0, hx, hi, hU⟩, h⟩ := opened H
  have hl := pv_len relay x.log (by have := hx.len; omega) false
  refine (pup p g relay (pv relay x.log false) (cv false false false false 2 x.pk x.U x.D) rfl hl.1 hl.2 rfl rfl (back.drop o) b (by rw [List.length_drop]; omega) [BB b (back.drop o)] R w0 w (fun X => BB.rd) h).mono ?_
  rintro e w' ⟨rfl, h2⟩
  refine ⟨_, rfl, ?_, closed' ⟨x.pk, x.U, x.D ++ (back.drop o).take (relay - x.D.length), x.log⟩ ⟨i0, U0, o, x.D, hx, hi, hU, ?_, rfl⟩ (h2.re 2 [0] [1] rfl)⟩
  · show o + min (back.drop o).length (relay - x.D.length) ≤ back.length
    have := hx.ho
    rw [List.length_drop]; omega
  · show o + min (back.drop o).length (relay - x.D.length) = _
    rw [List.length_drop]
theorem t_canup (p g relay k i o n : Nat) (s back : List UInt8) (hk : k ≤ 2000) (hn : 1 ≤ n ∧ n ≤ 9999) (R : List Asn) (w0 w : World) (H : sat w0 w (FlowD p g relay s back k i o :: R)) :
    Calls Tryz.prog 13 #[.pointer (some ⟨p, 0, none⟩), encK kT, .int .i64 n] w fun e w' => e = .returned (.tuple #[]) ∧ sat w0 w' (FlowU p g relay s back n k i o :: R) := by
  obtain ⟨x, ⟨i0, U0, o0, D0, hx, hi, hU, ho, hD⟩, h⟩ := opened H
  have hl := pv_len relay x.log (by have := hx.len; omega) false
  refine (pcanup p g relay n hn (pv relay x.log false) (cv false false false false 2 x.pk x.U x.D) rfl hl.1 hl.2 rfl (x.pk.take n) (x.U.take (n - (x.pk.take n).length)) rfl rfl false false (by simp [cv]) rfl R w0 w h).mono ?_
  rintro e w' ⟨rfl, h2⟩
  rw [pv_goes] at h2
  exact ⟨rfl, closed' ⟨x.pk.drop (x.pk.take n).length, x.U.drop (n - (x.pk.take n).length), x.D, x.log ++ goesL 1 (x.pk.take n ++ x.U.take (n - (x.pk.take n).length)) false false⟩ ⟨i0, U0, o0, D0, x.pk, x.U, _, _, x.log, hx, hi, hU, ho, hD, rfl, rfl, rfl, rfl, rfl⟩ h2⟩
theorem t_canclient (p g relay k i o n : Nat) (s back : List UInt8) (hk : k ≤ 2000) (hn : 1 ≤ n ∧ n ≤ 9999) (hr : 1 ≤ relay) (R : List Asn) (w0 w : World) (H : sat w0 w (FlowU p g relay s back n k i o :: R)) :
    Calls Tryz.prog 14 #[.pointer (some ⟨p, 0, none⟩), encK kT, .int .i64 n] w fun e w' => e = .returned (.tuple #[]) ∧ sat w0 w' (FlowE p g relay s back (k + 1) i o :: R) := by
  obtain ⟨x, ⟨i0, U0, o0, D0, pk, U1, P, V, log, hx, hi, hU, ho, hD, hP, hV, hp', hU', hlog⟩, h⟩ := opened H
  have hlen := len_goes 1 (P ++ V) false false
  have hl := pv_len relay x.log (by rw [hlog, List.length_append]; have := hx.len; omega) false
  refine (pcanclient p g relay n hn (pv relay x.log false) (cv false false false false 2 x.pk x.U x.D) rfl hl.1 hl.2 rfl false false (by simp [cv]) rfl R w0 w h).mono ?_
  rintro e w' ⟨rfl, h2⟩
  rw [pv_goes] at h2
  refine ⟨rfl, closed' ⟨x.pk, x.U, x.D.drop n, x.log ++ goesL 3 (x.D.take n) false false⟩ ?_ h2⟩
  show Flow s back relay (k + 1) i o x.pk x.U (x.D.drop n) (x.log ++ goesL 3 (x.D.take n) false false)
  rw [hlog, hp', hU']
  exact hx.round hr hn.1 hi ho hU hD hP hV
theorem FlowE.all {p g relay k i o : Nat} {s back : List UInt8} {R : List Asn} {w0 w : World} (H : sat w0 w (FlowE p g relay s back k i o :: R)) : i ≤ s.length ∧ o ≤ back.length ∧ (s.length < k → back.length < k → i = s.length ∧ o = back.length) := by
  obtain ⟨x, hx, h⟩ := opened H
  exact ⟨hx.hi, hx.ho, fun h1 h2 => hx.all h1 h2⟩
/-- Both ended. -/
structure GX where
  pk : List UInt8
  U : List UInt8
  D : List UInt8
  log : List AC
  ut : Bool
  dt : Bool
def GSys (p g relay : Nat) (ue de : Bool) (x : GX) : Asn := SysA p g relay (pv relay x.log (x.ut && x.dt)) (cv ue x.ut de x.dt (if x.ut && x.dt then 4 else 2) x.pk x.U x.D)
theorem gopened {φ : GX → Prop} {A : GX → Asn} {R : List Asn} {w0 w : World} (h : sat w0 w ((ex fun x : GX => Hg.fact (φ x) [A x]) :: R)) : ∃ x, φ x ∧ sat w0 w (A x :: R) := by
  obtain ⟨x, h⟩ := h.open_ex
  obtain ⟨h1, h2⟩ := h.open_fact
  exact ⟨x, h1, h2⟩
theorem gclosed {φ : GX → Prop} {A : GX → Asn} {R : List Asn} {w0 w : World} (x : GX) (hx : φ x) (h : sat w0 w (A x :: R)) : sat w0 w ((ex fun x : GX => Hg.fact (φ x) [A x]) :: R) :=
  sat.ex (P := fun x : GX => Hg.fact (φ x) [A x]) x (sat.fact (l := [A x]) hx h)
/-- The client's side ended. -/
def HalfE (p g relay : Nat) (s back : List UInt8) : Asn :=
  ex fun x : GX => Hg.fact (x.ut = false ∧ x.dt = false ∧ Ebb s back relay 0 x.pk x.U x.D false false x.log) [GSys p g relay true false x]
def EbbE (p g relay : Nat) (s back : List UInt8) (k : Nat) : Asn :=
  ex fun x : GX => Hg.fact (Ebb s back relay k x.pk x.U x.D x.ut x.dt x.log) [GSys p g relay true true x]
structure Mid (s back : List UInt8) (relay k : Nat) (pk U D : List UInt8) (ut dt : Bool) (log : List AC) : Prop where
  hU : U.length ≤ relay
  hD : D.length ≤ relay
  up : upOf log ++ (pk ++ U) = s
  dn : dnOf log ++ D = back
  ends : endsOf log = (if ut then 1 else 0) + (if dt then 10 else 0)
  fine : Fine s back log
  len : log.length ≤ 12001 + 6 * k + 3
  gu : if ut then pk = [] ∧ U = [] else k + 1 ≤ (upOf log).length
  gd : if dt then D = [] else k ≤ (dnOf log).length
def MidE (p g relay : Nat) (s back : List UInt8) (k : Nat) : Asn :=
  ex fun x : GX => Hg.fact (Mid s back relay k x.pk x.U x.D x.ut x.dt x.log) [GSys p g relay true true x]
theorem t_clienteof (p g relay k : Nat) (s back : List UInt8) (hk : k ≤ 2000) (R : List Asn) (w0 w : World) (H : sat w0 w (FlowE p g relay s back k s.length back.length :: R)) :
    Calls Tryz.prog 15 #[.pointer (some ⟨p, 0, none⟩), encK kT] w fun e w' => e = .returned (.tuple #[]) ∧ sat w0 w' (HalfE p g relay s back :: R) := by
  obtain ⟨x, hx, h⟩ := opened H
  have hl := pv_len relay x.log (by have := hx.len; omega) false
  refine (pclienteof p g relay (pv relay x.log false) (cv false false false false 2 x.pk x.U x.D) rfl hl.1 hl.2 rfl R w0 w h).mono ?_
  rintro e w' ⟨rfl, h2⟩
  exact ⟨rfl, gclosed ⟨x.pk, x.U, x.D, x.log, false, false⟩ ⟨rfl, rfl, hx.ebb hk⟩ h2⟩
theorem t_upeof (p g relay : Nat) (s back : List UInt8) (R : List Asn) (w0 w : World) (H : sat w0 w (HalfE p g relay s back :: R)) :
    Calls Tryz.prog 16 #[.pointer (some ⟨p, 0, none⟩), encK kT] w fun e w' => e = .returned (.tuple #[]) ∧ sat w0 w' (EbbE p g relay s back 0 :: R) := by
  obtain ⟨⟨pk, U, D, log, ut, dt⟩, ⟨rfl, rfl, hx⟩, h⟩ := gopened H
  dsimp only at hx h
  have hl := pv_len relay log (by have := hx.len; omega) false
  refine (pupeof p g relay (pv relay log false) (cv true false false false 2 pk U D) rfl hl.1 hl.2 rfl R w0 w h).mono ?_
  rintro e w' ⟨rfl, h2⟩
  exact ⟨rfl, gclosed ⟨pk, U, D, log, false, false⟩ hx h2⟩
theorem pv_goes' (relay : Nat) (log l : List AC) (all : Bool) (ue ut de dt : Bool) (st : Int) (pk U D : List UInt8) : ({ pv relay log false with log := (pv relay log false).log ++ l.map (EV.mk kT), au := (pv relay log false).au ++ (if all then [aud (cv ue ut de dt st pk U D) 0] else []), o := !all } : PV) = pv relay (log ++ l) all := by
  cases all <;> simp [pv, aud, cv, au1]
theorem t_ecanup (p g relay k n : Nat) (s back : List UInt8) (hk : k ≤ 1300) (hn : 1 ≤ n ∧ n ≤ 9999) (R : List Asn) (w0 w : World) (H : sat w0 w (EbbE p g relay s back k :: R)) :
    Calls Tryz.prog 13 #[.pointer (some ⟨p, 0, none⟩), encK kT, .int .i64 n] w fun e w' => e = .returned (.tuple #[]) ∧ sat w0 w' (MidE p g relay s back k :: R) := by
  obtain ⟨⟨pk, U, D, log, ut, dt⟩, hx, h⟩ := gopened H
  dsimp only at hx h
  cases hc : (ut && dt) with
  | true =>
    obtain ⟨rfl, rfl⟩ := Bool.and_eq_true_iff.1 hc
    refine (pcanup_closed p g relay n _ _ rfl R w0 w h).mono ?_
    rintro e w' ⟨rfl, h2⟩
    refine ⟨rfl, gclosed ⟨pk, U, D, log, true, true⟩ ?_ h2⟩
    obtain ⟨hU, hD, up, dn, ends, fine, len, gu, gd⟩ := hx
    exact ⟨hU, hD, up, dn, ends, fine, (show log.length ≤ 12001 + 6 * k + 3 by omega), gu, gd⟩
  | false =>
    have hl := pv_len relay log (by have := hx.len; omega) false
    unfold GSys at h
    dsimp only at h
    rw [hc] at h
    obtain ⟨fin, hfin⟩ : ∃ fin, fin = (decide ((pk.drop (pk.take n).length).length + (U.drop (n - (pk.take n).length)).length = 0) && !ut) := ⟨_, rfl⟩
    obtain ⟨all, hall⟩ : ∃ all, all = ((ut || fin) && dt) := ⟨_, rfl⟩
    refine (pcanup p g relay n hn (pv relay log false) (cv true ut true dt 2 pk U D) rfl hl.1 hl.2 rfl (pk.take n) (U.take (n - (pk.take n).length)) rfl rfl fin all (by rw [hfin]; simp [cv]) hall R w0 w h).mono ?_
    rintro e w' ⟨rfl, h2⟩
    have hp := pv_goes' relay log (goesL 1 (pk.take n ++ U.take (n - (pk.take n).length)) fin all) all true ut true dt 2 pk U D
    rw [hp] at h2
    obtain ⟨e1, e2, e3, e4, e5, e6, e7⟩ := hx.canUp hn.1 rfl rfl hfin all
    refine ⟨rfl, gclosed ⟨pk.drop (pk.take n).length, U.drop (n - (pk.take n).length), D, log ++ goesL 1 (pk.take n ++ U.take (n - (pk.take n).length)) fin all, ut || fin, dt⟩ ⟨e7, hx.hD, e2, by rw [e3]; exact hx.dn, e4, e5, e6, e1, by rw [e3]; exact hx.gd⟩ ?_⟩
    unfold GSys
    dsimp only
    rw [← hall]
    exact h2
theorem t_ecanclient (p g relay k n : Nat) (s back : List UInt8) (hk : k ≤ 1300) (hn : 1 ≤ n ∧ n ≤ 9999) (R : List Asn) (w0 w : World) (H : sat w0 w (MidE p g relay s back k :: R)) :
    Calls Tryz.prog 14 #[.pointer (some ⟨p, 0, none⟩), encK kT, .int .i64 n] w fun e w' => e = .returned (.tuple #[]) ∧ sat w0 w' (EbbE p g relay s back (k + 1) :: R) := by
  obtain ⟨⟨pk, U, D, log, ut, dt⟩, hx, h⟩ := gopened H
  dsimp only at hx h
  cases hc : (ut && dt) with
  | true =>
    obtain ⟨rfl, rfl⟩ := Bool.and_eq_true_iff.1 hc
    refine (pcanclient_closed p g relay n _ _ rfl R w0 w h).mono ?_
    rintro e w' ⟨rfl, h2⟩
    refine ⟨rfl, gclosed ⟨pk, U, D, log, true, true⟩ ?_ h2⟩
    obtain ⟨hU, hD, up, dn, ends, fine, len, gu, gd⟩ := hx
    exact ⟨hU, hD, up, dn, ends, fine, (show log.length ≤ 12001 + 6 * (k + 1) by omega), gu, gd⟩
  | false =>
    have hl := pv_len relay log (by have := hx.len; omega) false
    unfold GSys at h
    dsimp only at h
    rw [hc] at h
    obtain ⟨fin, hfin⟩ : ∃ fin, fin = (decide ((D.drop n).length = 0) && !dt) := ⟨_, rfl⟩
    obtain ⟨all, hall⟩ : ∃ all, all = ((dt || fin) && ut) := ⟨_, rfl⟩
    refine (pcanclient p g relay n hn (pv relay log false) (cv true ut true dt 2 pk U D) rfl hl.1 hl.2 rfl fin all (by rw [hfin]; simp [cv]) hall R w0 w h).mono ?_
    rintro e w' ⟨rfl, h2⟩
    have hp := pv_goes' relay log (goesL 3 (D.take n) fin all) all true ut true dt 2 pk U D
    erw [hp] at h2
    obtain ⟨e1, e2, e3, e4, e5, e6, e7⟩ := Ebb.canDown hx.hD hx.dn hx.ends hx.fine hx.len hx.gd hn.1 hfin all
    refine ⟨rfl, gclosed ⟨pk, U, D.drop n, log ++ goesL 3 (D.take n) fin all, ut, dt || fin⟩ ⟨hx.hU, e7, by rw [e3]; exact hx.up, e2, e4, e5, e6, by rw [e3]; exact hx.gu, e1⟩ ?_⟩
    unfold GSys
    dsimp only
    rw [Bool.and_comm, ← hall]
    exact h2
/-- Behind all: what is told. -/
def DoneE (p g relay : Nat) (log : List AC) : Asn := ex fun x : GX => Hg.fact (x.log = log ∧ x.ut = true ∧ x.dt = true) [GSys p g relay true true x]
theorem EbbE.done {p g relay k : Nat} {s back : List UInt8} {R : List Asn} {w0 w : World} (hs : s.length < k) (hb : back.length < k) (hk : k ≤ 1300) (H : sat w0 w (EbbE p g relay s back k :: R)) :
    ∃ log : List AC, log.length ≤ 20000 ∧ upOf log = s ∧ dnOf log = back ∧ endsOf log = 11 ∧ Fine s back log ∧ sat w0 w (DoneE p g relay log :: R) := by
  obtain ⟨⟨pk, U, D, log, ut, dt⟩, hx, h⟩ := gopened H
  obtain ⟨h1, h2⟩ := hx.all hs hb
  dsimp only at hx h h1 h2
  subst h1 h2
  obtain ⟨hU, hD, up, dn, ends, fine, len, gu, gd⟩ := hx
  rw [if_pos rfl] at gu gd
  obtain ⟨rfl, rfl⟩ := gu
  subst gd
  rw [List.append_nil, List.append_nil] at up
  rw [List.append_nil] at dn
  exact ⟨log, by omega, up, dn, ends, fine, gclosed ⟨[], [], [], log, true, true⟩ ⟨rfl, rfl, rfl⟩ h⟩
theorem t_log (p g relay : Nat) (log : List AC) (hl : log.length ≤ 20000) (R : List Asn) (w0 w : World) (H : sat w0 w (DoneE p g relay log :: R)) :
    Calls Tryz.prog 17 #[.pointer (some ⟨p, 0, none⟩)] w fun e w' => ∃ v' : Value, e = .returned v' ∧ sat w0 w' (RowE v' (log.map (EV.mk kT)) :: DoneE p g relay log :: R) := by
  obtain ⟨x, ⟨rfl, h1, h2⟩, h⟩ := gopened H
  refine (plog p g relay _ _ (by simp only [pv, List.length_map]; omega) R w0 w h).mono ?_
  rintro e w' ⟨v, rfl, h3⟩
  exact ⟨v, rfl, (gclosed x ⟨rfl, h1, h2⟩ h3.swap).swap⟩
theorem t_audits (p g relay : Nat) (log : List AC) (R : List Asn) (w0 w : World) (H : sat w0 w (DoneE p g relay log :: R)) :
    Calls Tryz.prog 18 #[.pointer (some ⟨p, 0, none⟩)] w fun e w' => ∃ v' : Value, e = .returned v' ∧ sat w0 w' (RowU v' [au1] :: DoneE p g relay log :: R) := by
  obtain ⟨⟨pk, U, D, log, ut, dt⟩, ⟨rfl, rfl, rfl⟩, h⟩ := gopened H
  refine (paudits p g relay _ _ (by simp [pv]) R w0 w h).mono ?_
  rintro e w' ⟨v, rfl, h3⟩
  exact ⟨v, rfl, (gclosed ⟨pk, U, D, log, true, true⟩ ⟨rfl, rfl, rfl⟩ h3.swap).swap⟩
theorem t_conn (p g relay : Nat) (log : List AC) (R : List Asn) (w0 w : World) (H : sat w0 w (DoneE p g relay log :: R)) :
    Calls Tryz.prog 19 #[.pointer (some ⟨p, 0, none⟩), encK kT] w fun e w' => e = .returned (.tuple #[.pointer none, .bool false]) ∧ sat w0 w' (DoneE p g relay log :: R) := by
  obtain ⟨⟨pk, U, D, log, ut, dt⟩, ⟨rfl, rfl, rfl⟩, h⟩ := gopened H
  refine (pconn_closed p g relay _ _ rfl R w0 w h).mono ?_
  rintro e w' ⟨rfl, h3⟩
  exact ⟨rfl, gclosed ⟨pk, U, D, log, true, true⟩ ⟨rfl, rfl, rfl⟩ h3⟩
theorem t_live (p g relay : Nat) (log : List AC) (R : List Asn) (w0 w : World) (H : sat w0 w (DoneE p g relay log :: R)) :
    Calls Tryz.prog 20 #[.pointer (some ⟨p, 0, none⟩), .string tT] w fun e w' => e = .returned (.int .i64 0) ∧ sat w0 w' (DoneE p g relay log :: R) := by
  obtain ⟨⟨pk, U, D, log, ut, dt⟩, ⟨rfl, rfl, rfl⟩, h⟩ := gopened H
  refine (plive p g relay _ _ R w0 w h).mono ?_
  rintro e w' ⟨rfl, h3⟩
  exact ⟨rfl, gclosed ⟨pk, U, D, log, true, true⟩ ⟨rfl, rfl, rfl⟩ h3⟩
/-- The outset. -/
theorem t_client0 (p g relay : Nat) (hN : 1 ≤ relay ∧ relay ≤ 65536) (s back more : List UInt8) (hmm : s = HD ++ more) (hlen : s.length ≤ 1000) (b : Value) (R : List Asn) (w0 w : World) (hm : MaxL w0) (H : sat w0 w (SysG p g ⟨relay, 1, 1, [], [], true⟩ (ConnO g relay) :: BB b s :: R)) :
    Calls Tryz.prog 10 #[.pointer (some ⟨p, 0, none⟩), encK kT, b] w fun e w' => ∃ n : Nat, e = .returned (.int .i64 n) ∧ n ≤ s.length ∧ n = 29 + min more.length relay ∧
      sat w0 w' (SysA p g relay (pv relay [⟨0, ⟨#[]⟩, 0⟩] false) (s1 relay more) :: R) := by
  refine (pclient0 p g relay hN ⟨relay, 1, 1, [], [], true⟩ rfl (Nat.zero_le _) (Nat.zero_le _) s more hmm b (by omega) [BB b s] R w0 w hm (fun X => BB.rd) H).mono ?_
  rintro e w' ⟨rfl, h⟩
  refine ⟨_, rfl, ?_, rfl, h.re 2 [0] [1] rfl⟩
  have : s.length = 29 + more.length := by rw [hmm, List.length_append]; rfl
  omega
theorem t_dialed (p g relay : Nat) (s back more : List UInt8) (hmm : s = HD ++ more) (n : Nat) (hn : n = 29 + min more.length relay) (R : List Asn) (w0 w : World) (H : sat w0 w (SysA p g relay (pv relay [⟨0, ⟨#[]⟩, 0⟩] false) (s1 relay more) :: R)) :
    Calls Tryz.prog 11 #[.pointer (some ⟨p, 0, none⟩), encK kT, .bool true] w fun e w' => e = .returned (.tuple #[]) ∧ sat w0 w' (FlowE p g relay s back 0 n 0 :: R) := by
  refine (pdialed p g relay _ (s1 relay more) rfl (by simp [pv]) (by simp [pv]) rfl R w0 w H).mono ?_
  rintro e w' ⟨rfl, h⟩
  have hh : HD.length = 29 := rfl
  refine ⟨rfl, closed' ⟨HD, more.take relay, [], [⟨0, ⟨#[]⟩, 0⟩]⟩ ⟨?_, Nat.zero_le _, ?_, ?_, ?_, rfl, rfl, ?_, by simp, .inr (Nat.zero_le _), .inr (Nat.zero_le _)⟩ h⟩
  · rw [hmm, List.length_append, hn, hh]; omega
  · rw [List.length_take]; omega
  · exact Nat.zero_le _
  · show HD ++ more.take relay = s.take n
    rw [hmm, hn, List.take_append, hh, List.take_of_length_le (l := HD) (by rw [hh]; omega)]
    congr 1
    rw [List.take_eq_take_iff]; omega
  · intro i a hi
    match i with
    | 0 => simp at hi; subst hi; simp
    | i + 1 => simp at hi
end Go.Proofs.YtonipcfnhmnnlaaGreatDoor
