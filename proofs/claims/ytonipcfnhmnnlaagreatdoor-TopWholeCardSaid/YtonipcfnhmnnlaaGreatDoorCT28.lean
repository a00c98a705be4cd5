/- A head's phases, byte by byte. -/
import Derived.Test.YtonipcfnhmnnlaaGreatDoorCT27
namespace Go.Proofs.YtonipcfnhmnnlaaGreatDoor
open Go Go.RowKit Hg
set_option linter.unusedVariables false
set_option linter.unusedSimpArgs false
attribute [local go_sem] Lib.run_eql_slice_nil run_min2 run_max2 run_min_two run_max_two
/-- The one head that is sent. -/
def HD : List UInt8 := [71, 69, 84, 32, 47, 32, 72, 84, 84, 80, 47, 49, 46, 49, 13, 10, 72, 111, 115, 116, 58, 32, 97, 46, 98, 13, 10, 13, 10]
/-- The line that a peeker holds after k bytes of it; the fields that it knows. -/
def hLine (k : Nat) : List UInt8 := if k < 16 then HD.take (min k 14) else if k < 27 then (HD.drop 16).take (min (k - 16) 9) else []
def hFl (k : Nat) : List (ByteArray × ByteArray) := if k < 27 then [] else [(shost, sAB)]
def hS (k : Nat) (lv fv : Value) : HS := ⟨lv, decide (k = 15 ∨ k = 26 ∨ k = 28), decide (16 ≤ k), if 16 ≤ k then sGET else ⟨#[]⟩, if 16 ≤ k then sSlash else ⟨#[]⟩, if 16 ≤ k then 1 else 0, fv, if k = 29 then 1 else 0, k, if k = 29 then sAB else ⟨#[]⟩⟩
def PkL (g k : Nat) (x : Value × Value) : List Asn := [HP g (hS k x.1 x.2), Row x.1 (hLine k), RowF x.2 (hFl k)]
def PkA (g k : Nat) : Asn := ex fun x : Value × Value => fact (k < 27 → x.2 = .slice none 0 0) (PkL g k x)
theorem PkA.open {g k : Nat} {w0 w : World} {R : List Asn} (h : sat w0 w (PkA g k :: R)) : ∃ lv fv : Value, (k < 27 → fv = .slice none 0 0) ∧ sat w0 w (HP g (hS k lv fv) :: Row lv (hLine k) :: RowF fv (hFl k) :: R) := by
  obtain ⟨x, hx⟩ := h.open_ex
  obtain ⟨a, b⟩ := hx.open_fact
  exact ⟨x.1, x.2, a, b⟩
theorem PkA.close {g k : Nat} {w0 w : World} {R : List Asn} (lv fv : Value) (hq : k < 27 → fv = .slice none 0 0) (h : sat w0 w (HP g (hS k lv fv) :: Row lv (hLine k) :: RowF fv (hFl k) :: R)) : sat w0 w (PkA g k :: R) :=
  sat.ex (P := fun x : Value × Value => fact (k < 27 → x.2 = .slice none 0 0) (PkL g k x)) (lv, fv) (sat.fact (l := PkL g k (lv, fv)) hq h)
/-- What is known after k bytes. -/
def vK (k : Nat) : Array Value := #[.int .i64 (if k = 29 then 1 else 0), .int .i64 2, .int .i64 k, .int .i64 0, .string (if k = 29 then sAB else ⟨#[]⟩), .int .i64 0, .bool false, .string ⟨#[]⟩, .slice none 0 0, .slice none 0 0, .bool false]
theorem pk_char (g k : Nat) (c : UInt8) (cn : Int) (hcn : (c.toNat : Int) = cn) (hc : c.toNat ≠ 10 ∧ c.toNat ≠ 13) (h1 : hLine (k + 1) = hLine k ++ [c]) (h2 : ∀ lv fv lv', ({ hS k lv fv with lv := lv', used := (hS k lv fv).used + 1 } : HS) = hS (k + 1) lv' fv) (h3 : hFl (k + 1) = hFl k) (h4 : ∀ lv fv, (hS k lv fv).st = 0 ∧ (hS k lv fv).back = false ∧ 0 ≤ (hS k lv fv).used ∧ (hS k lv fv).used ≤ 20000) (h5 : (hLine k).length ≤ 20000) (h6 : ∀ lv fv, ({ hS k lv fv with used := (hS k lv fv).used + 1 } : HS).verd = vK (k + 1)) (R : List Asn) (w0 w : World) (H : sat w0 w (PkA g k :: R)) :
    Calls Tryz.prog 342 #[.pointer (some ⟨g, 0, none⟩), .int .u8 cn] w fun e w' => e = .returned (.agg (vK (k + 1))) ∧ sat w0 w' (PkA g (k + 1) :: R) := by
  subst hcn
  obtain ⟨lv, fv, hq, H⟩ := PkA.open H
  obtain ⟨a1, a2, a3, a4⟩ := h4 lv fv
  refine (take_char g (hS k lv fv) c hc a1 a2 ⟨a3, a4⟩ (hLine k) h5 (RowF fv (hFl k) :: R) w0 w H).mono ?_
  rintro e w' ⟨v', rfl, H'⟩
  refine ⟨by rw [h6], PkA.close v' fv (fun h => hq (by omega)) ?_⟩
  rw [h2] at H'
  rw [h1, h3]
  exact H'
theorem pk_cr (g k : Nat) (h1 : hLine (k + 1) = hLine k) (h2 : ∀ lv fv, ({ hS k lv fv with back := true, used := (hS k lv fv).used + 1 } : HS) = hS (k + 1) lv fv) (h3 : hFl (k + 1) = hFl k) (h4 : ∀ lv fv, (hS k lv fv).st = 0 ∧ (hS k lv fv).back = false ∧ 0 ≤ (hS k lv fv).used ∧ (hS k lv fv).used ≤ 20000) (h6 : ∀ lv fv, ({ hS k lv fv with used := (hS k lv fv).used + 1 } : HS).verd = vK (k + 1)) (R : List Asn) (w0 w : World) (H : sat w0 w (PkA g k :: R)) :
    Calls Tryz.prog 342 #[.pointer (some ⟨g, 0, none⟩), .int .u8 13] w fun e w' => e = .returned (.agg (vK (k + 1))) ∧ sat w0 w' (PkA g (k + 1) :: R) := by
  obtain ⟨lv, fv, hq, H⟩ := PkA.open H
  obtain ⟨a1, a2, a3, a4⟩ := h4 lv fv
  refine (take_cr g (hS k lv fv) a1 a2 ⟨a3, a4⟩ (Row lv (hLine k) :: RowF fv (hFl k) :: R) w0 w H).mono ?_
  rintro e w' ⟨rfl, H'⟩
  refine ⟨by rw [h6], PkA.close lv fv (fun h => hq (by omega)) ?_⟩
  rw [h2] at H'
  rw [h1, h3]
  exact H'
theorem pk_lf1 (g : Nat) (R : List Asn) (w0 w : World) (hm : MaxL w0) (H : sat w0 w (PkA g 15 :: R)) :
    Calls Tryz.prog 342 #[.pointer (some ⟨g, 0, none⟩), .int .u8 10] w fun e w' => e = .returned (.agg (vK 16)) ∧ sat w0 w' (PkA g 16 :: R) := by
  obtain ⟨lv, fv, hq, H⟩ := PkA.open H
  refine (take_lf g (hS 15 lv fv) rfl rfl ⟨by show (0 : Int) ≤ 15; decide, by show (15 : Int) ≤ 20000; decide⟩ (hLine 15) [RowF fv []] R w0 w H Unit (fun _ => hS 16 (.slice none 0 0) fv) (fun _ => [RowF fv []]) 0 16 ⟨#[]⟩ (fun _ => ⟨rfl, rfl, rfl⟩) ?_).mono ?_
  · intro X w1 H1
    have e : bstr (hLine 15) = line1 := by decide +kernel
    rw [e]
    exact (ended1_calls g _ rfl _ w0 w1 hm H1).mono fun e w' ⟨a, b⟩ => ⟨(), a, b⟩
  · rintro e w' ⟨_, rfl, H'⟩
    exact ⟨rfl, PkA.close (.slice none 0 0) fv (fun h => hq (by omega)) (Row.nil (R := HP g (hS 16 (.slice none 0 0) fv) :: RowF fv [] :: R) H').swap⟩
theorem pk_lf2 (g : Nat) (R : List Asn) (w0 w : World) (hm : MaxL w0) (H : sat w0 w (PkA g 26 :: R)) :
    Calls Tryz.prog 342 #[.pointer (some ⟨g, 0, none⟩), .int .u8 10] w fun e w' => e = .returned (.agg (vK 27)) ∧ sat w0 w' (PkA g 27 :: R) := by
  obtain ⟨lv, fv0, hq, H⟩ := PkA.open H
  have hfv : fv0 = .slice none 0 0 := hq (by decide)
  subst hfv
  refine (take_lf g (hS 26 lv (.slice none 0 0)) rfl rfl ⟨by show (0 : Int) ≤ 26; decide, by show (26 : Int) ≤ 20000; decide⟩ (hLine 26) [RowF (.slice none 0 0) []] R w0 w H Value (fun v => hS 27 (.slice none 0 0) v) (fun v => [RowF v [(shost, sAB)]]) 0 27 ⟨#[]⟩ (fun _ => ⟨rfl, rfl, rfl⟩) ?_).mono ?_
  · intro X w1 H1
    have e : bstr (hLine 26) = line2 := by decide +kernel
    rw [e]
    exact (ended2_calls g _ rfl rfl _ w0 w1 hm H1).mono fun e w' ⟨v, a, b⟩ => ⟨v, a, b⟩
  · rintro e w' ⟨v, rfl, H'⟩
    exact ⟨rfl, PkA.close (.slice none 0 0) v (fun h => absurd h (by omega)) (Row.nil (R := HP g (hS 27 (.slice none 0 0) v) :: RowF v [(shost, sAB)] :: R) H').swap⟩
theorem pk_lf3 (g : Nat) (R : List Asn) (w0 w : World) (hm : MaxL w0) (H : sat w0 w (PkA g 28 :: R)) :
    Calls Tryz.prog 342 #[.pointer (some ⟨g, 0, none⟩), .int .u8 10] w fun e w' => e = .returned (.agg (vK 29)) ∧ sat w0 w' (PkA g 29 :: R) := by
  obtain ⟨lv, fv, hq, H⟩ := PkA.open H
  refine (take_lf g (hS 28 lv fv) rfl rfl ⟨by show (0 : Int) ≤ 28; decide, by show (28 : Int) ≤ 20000; decide⟩ (hLine 28) [RowF fv [(shost, sAB)]] R w0 w H Unit (fun _ => hS 29 (.slice none 0 0) fv) (fun _ => [RowF fv [(shost, sAB)]]) 1 29 sAB (fun _ => ⟨rfl, rfl, rfl⟩) ?_).mono ?_
  · intro X w1 H1
    have e : bstr (hLine 28) = ⟨#[]⟩ := by decide +kernel
    rw [e]
    exact (ended3_calls g _ rfl ⟨rfl, rfl, rfl⟩ _ w0 w1 hm H1).mono fun e w' ⟨a, b⟩ => ⟨(), a, b⟩
  · rintro e w' ⟨_, rfl, H'⟩
    exact ⟨rfl, PkA.close (.slice none 0 0) fv (fun h => hq (by omega)) (Row.nil (R := HP g (hS 29 (.slice none 0 0) fv) :: RowF fv [(shost, sAB)] :: R) H').swap⟩
theorem pk_take (g k : Nat) (hk : k < 29) (R : List Asn) (w0 w : World) (hm : MaxL w0) (H : sat w0 w (PkA g k :: R)) :
    Calls Tryz.prog 342 #[.pointer (some ⟨g, 0, none⟩), .int .u8 (HD.getD k 0).toNat] w fun e w' => e = .returned (.agg (vK (k + 1))) ∧ sat w0 w' (PkA g (k + 1) :: R) := by
  have hcs : k = 0 ∨ k = 1 ∨ k = 2 ∨ k = 3 ∨ k = 4 ∨ k = 5 ∨ k = 6 ∨ k = 7 ∨ k = 8 ∨ k = 9 ∨ k = 10 ∨ k = 11 ∨ k = 12 ∨ k = 13 ∨ k = 14 ∨ k = 15 ∨ k = 16 ∨ k = 17 ∨ k = 18 ∨ k = 19 ∨ k = 20 ∨ k = 21 ∨ k = 22 ∨ k = 23 ∨ k = 24 ∨ k = 25 ∨ k = 26 ∨ k = 27 ∨ k = 28 := by omega
  rcases hcs with rfl | rfl | rfl | rfl | rfl | rfl | rfl | rfl | rfl | rfl | rfl | rfl | rfl | rfl | rfl | rfl | rfl | rfl | rfl | rfl | rfl | rfl | rfl | rfl | rfl | rfl | rfl | rfl | rfl
  · exact pk_char g 0 71 _ rfl (by decide) (by decide) (fun _ _ _ => rfl) (by decide) (fun _ _ => ⟨rfl, rfl, by show (0 : Int) ≤ 0; decide, by show (0 : Int) ≤ 20000; decide⟩) (by decide) (fun _ _ => rfl) R w0 w H
  · exact pk_char g 1 69 _ rfl (by decide) (by decide) (fun _ _ _ => rfl) (by decide) (fun _ _ => ⟨rfl, rfl, by show (0 : Int) ≤ 1; decide, by show (1 : Int) ≤ 20000; decide⟩) (by decide) (fun _ _ => rfl) R w0 w H
  · exact pk_char g 2 84 _ rfl (by decide) (by decide) (fun _ _ _ => rfl) (by decide) (fun _ _ => ⟨rfl, rfl, by show (0 : Int) ≤ 2; decide, by show (2 : Int) ≤ 20000; decide⟩) (by decide) (fun _ _ => rfl) R w0 w H
  · exact pk_char g 3 32 _ rfl (by decide) (by decide) (fun _ _ _ => rfl) (by decide) (fun _ _ => ⟨rfl, rfl, by show (0 : Int) ≤ 3; decide, by show (3 : Int) ≤ 20000; decide⟩) (by decide) (fun _ _ => rfl) R w0 w H
  · exact pk_char g 4 47 _ rfl (by decide) (by decide) (fun _ _ _ => rfl) (by decide) (fun _ _ => ⟨rfl, rfl, by show (0 : Int) ≤ 4; decide, by show (4 : Int) ≤ 20000; decide⟩) (by decide) (fun _ _ => rfl) R w0 w H
  · exact pk_char g 5 32 _ rfl (by decide) (by decide) (fun _ _ _ => rfl) (by decide) (fun _ _ => ⟨rfl, rfl, by show (0 : Int) ≤ 5; decide, by show (5 : Int) ≤ 20000; decide⟩) (by decide) (fun _ _ => rfl) R w0 w H
  · exact pk_char g 6 72 _ rfl (by decide) (by decide) (fun _ _ _ => rfl) (by decide) (fun _ _ => ⟨rfl, rfl, by show (0 : Int) ≤ 6; decide, by show (6 : Int) ≤ 20000; decide⟩) (by decide) (fun _ _ => rfl) R w0 w H
  · exact pk_char g 7 84 _ rfl (by decide) (by decide) (fun _ _ _ => rfl) (by decide) (fun _ _ => ⟨rfl, rfl, by show (0 : Int) ≤ 7; decide, by show (7 : Int) ≤ 20000; decide⟩) (by decide) (fun _ _ => rfl) R w0 w H
  · exact pk_char g 8 84 _ rfl (by decide) (by decide) (fun _ _ _ => rfl) (by decide) (fun _ _ => ⟨rfl, rfl, by show (0 : Int) ≤ 8; decide, by show (8 : Int) ≤ 20000; decide⟩) (by decide) (fun _ _ => rfl) R w0 w H
  · exact pk_char g 9 80 _ rfl (by decide) (by decide) (fun _ _ _ => rfl) (by decide) (fun _ _ => ⟨rfl, rfl, by show (0 : Int) ≤ 9; decide, by show (9 : Int) ≤ 20000; decide⟩) (by decide) (fun _ _ => rfl) R w0 w H
  · exact pk_char g 10 47 _ rfl (by decide) (by decide) (fun _ _ _ => rfl) (by decide) (fun _ _ => ⟨rfl, rfl, by show (0 : Int) ≤ 10; decide, by show (10 : Int) ≤ 20000; decide⟩) (by decide) (fun _ _ => rfl) R w0 w H
  · exact pk_char g 11 49 _ rfl (by decide) (by decide) (fun _ _ _ => rfl) (by decide) (fun _ _ => ⟨rfl, rfl, by show (0 : Int) ≤ 11; decide, by show (11 : Int) ≤ 20000; decide⟩) (by decide) (fun _ _ => rfl) R w0 w H
  · exact pk_char g 12 46 _ rfl (by decide) (by decide) (fun _ _ _ => rfl) (by decide) (fun _ _ => ⟨rfl, rfl, by show (0 : Int) ≤ 12; decide, by show (12 : Int) ≤ 20000; decide⟩) (by decide) (fun _ _ => rfl) R w0 w H
  · exact pk_char g 13 49 _ rfl (by decide) (by decide) (fun _ _ _ => rfl) (by decide) (fun _ _ => ⟨rfl, rfl, by show (0 : Int) ≤ 13; decide, by show (13 : Int) ≤ 20000; decide⟩) (by decide) (fun _ _ => rfl) R w0 w H
  · exact pk_cr g 14 (by decide) (fun _ _ => rfl) (by decide) (fun _ _ => ⟨rfl, rfl, by show (0 : Int) ≤ 14; decide, by show (14 : Int) ≤ 20000; decide⟩) (fun _ _ => rfl) R w0 w H
  · exact pk_lf1 g R w0 w hm H
  · exact pk_char g 16 72 _ rfl (by decide) (by decide) (fun _ _ _ => rfl) (by decide) (fun _ _ => ⟨rfl, rfl, by show (0 : Int) ≤ 16; decide, by show (16 : Int) ≤ 20000; decide⟩) (by decide) (fun _ _ => rfl) R w0 w H
  · exact pk_char g 17 111 _ rfl (by decide) (by decide) (fun _ _ _ => rfl) (by decide) (fun _ _ => ⟨rfl, rfl, by show (0 : Int) ≤ 17; decide, by show (17 : Int) ≤ 20000; decide⟩) (by decide) (fun _ _ => rfl) R w0 w H
  · exact pk_char g 18 115 _ rfl (by decide) (by decide) (fun _ _ _ => rfl) (by decide) (fun _ _ => ⟨rfl, rfl, by show (0 : Int) ≤ 18; decide, by show (18 : Int) ≤ 20000; decide⟩) (by decide) (fun _ _ => rfl) R w0 w H
  · exact pk_char g 19 116 _ rfl (by decide) (by decide) (fun _ _ _ => rfl) (by decide) (fun _ _ => ⟨rfl, rfl, by show (0 : Int) ≤ 19; decide, by show (19 : Int) ≤ 20000; decide⟩) (by decide) (fun _ _ => rfl) R w0 w H
  · exact pk_char g 20 58 _ rfl (by decide) (by decide) (fun _ _ _ => rfl) (by decide) (fun _ _ => ⟨rfl, rfl, by show (0 : Int) ≤ 20; decide, by show (20 : Int) ≤ 20000; decide⟩) (by decide) (fun _ _ => rfl) R w0 w H
  · exact pk_char g 21 32 _ rfl (by decide) (by decide) (fun _ _ _ => rfl) (by decide) (fun _ _ => ⟨rfl, rfl, by show (0 : Int) ≤ 21; decide, by show (21 : Int) ≤ 20000; decide⟩) (by decide) (fun _ _ => rfl) R w0 w H
  · exact pk_char g 22 97 _ rfl (by decide) (by decide) (fun _ _ _ => rfl) (by decide) (fun _ _ => ⟨rfl, rfl, by show (0 : Int) ≤ 22; decide, by show (22 : Int) ≤ 20000; decide⟩) (by decide) (fun _ _ => rfl) R w0 w H
  · exact pk_char g 23 46 _ rfl (by decide) (by decide) (fun _ _ _ => rfl) (by decide) (fun _ _ => ⟨rfl, rfl, by show (0 : Int) ≤ 23; decide, by show (23 : Int) ≤ 20000; decide⟩) (by decide) (fun _ _ => rfl) R w0 w H
  · exact pk_char g 24 98 _ rfl (by decide) (by decide) (fun _ _ _ => rfl) (by decide) (fun _ _ => ⟨rfl, rfl, by show (0 : Int) ≤ 24; decide, by show (24 : Int) ≤ 20000; decide⟩) (by decide) (fun _ _ => rfl) R w0 w H
  · exact pk_cr g 25 (by decide) (fun _ _ => rfl) (by decide) (fun _ _ => ⟨rfl, rfl, by show (0 : Int) ≤ 25; decide, by show (25 : Int) ≤ 20000; decide⟩) (fun _ _ => rfl) R w0 w H
  · exact pk_lf2 g R w0 w hm H
  · exact pk_cr g 27 (by decide) (fun _ _ => rfl) (by decide) (fun _ _ => ⟨rfl, rfl, by show (0 : Int) ≤ 27; decide, by show (27 : Int) ≤ 20000; decide⟩) (fun _ _ => rfl) R w0 w H
  · exact pk_lf3 g R w0 w hm H
end Go.Proofs.YtonipcfnhmnnlaaGreatDoor
