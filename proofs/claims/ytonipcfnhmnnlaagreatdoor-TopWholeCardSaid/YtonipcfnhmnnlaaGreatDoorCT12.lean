/- The proxy logs what a connection did. -/
import Derived.Test.YtonipcfnhmnnlaaGreatDoorCT11
namespace Go.Proofs.YtonipcfnhmnnlaaGreatDoor
open Go Go.RowKit Hg
set_option linter.unusedVariables false
set_option linter.unusedSimpArgs false
attribute [local go_sem] Lib.run_eql_slice_nil run_min2 run_max2 run_min_two run_max_two
/-- A proxy: how its connections are, how many there may be; its tenants, its connections; what happened, what became of them. -/
def pxA (relay ct ca : Int) (mt mc : Nat) (lg au : Value) : Array Value := #[.int .i64 16384, .int .i64 relay, .int .i64 1000, .int .i64 1000, .int .i64 1000, .int .i64 ct, .int .i64 ca, .int .i64 0, .bool false, .map (some mt), .map (some mc), lg, au]
def PX (p : Nat) (relay ct ca : Int) (mt mc : Nat) (lg au : Value) : Asn := blk p (.cells (pxA relay ct ca mt mc lg au) 91)
theorem PX.at (p : Nat) (relay ct ca : Int) (mt mc : Nat) (lg au : Value) {w0 w : World} {R : List Asn} (h : sat w0 w (PX p relay ct ca mt mc lg au :: R)) (i : Nat) : w.cell? ⟨p, i, none⟩ = (pxA relay ct ca mt mc lg au)[i]? := cellAt h.get.1 i
/-- A tenant: its judge, its policy's version, how many it had, how many it has. -/
def TN (t j : Nat) (ver count live : Int) : Asn := blk t (.cells #[.pointer (some ⟨j, 0, none⟩), .int .i64 ver, .int .i64 count, .int .i64 live] 99)
theorem flat_get {α β : Type} (f : α → List β) (n : Nat) (hf : ∀ a, (f a).length = n) : ∀ (l : List α) (q : Nat) (a : α), l[q]? = some a → ∀ j, j < n → (l.flatMap f)[q * n + j]? = (f a)[j]?
  | [], q, a, h, _, _ => by simp at h
  | x :: l, 0, a, h, j, hj => by
    simp at h
    subst h
    rw [List.flatMap_cons, Nat.zero_mul, Nat.zero_add, List.getElem?_append_left (by rw [hf]; exact hj)]
  | x :: l, q + 1, a, h, j, hj => by
    rw [List.flatMap_cons, List.getElem?_append_right (by rw [hf, Nat.add_mul]; omega), hf]
    have := flat_get f n hf l q a (by simpa using h) j hj
    rw [show (q + 1) * n + j - n = q * n + j by rw [Nat.add_mul]; omega]
    exact this
/-- A connection that tells its verdict's host, and its decision. -/
structure Tells (A : Asn) (g : Nat) (host : ByteArray) (al : Bool) (why rule : Int) : Prop where
  ver : ∀ (R : List Asn) (w0 w : World), sat w0 w (A :: R) → Calls Tryz.prog 112 #[.pointer (some ⟨g, 0, none⟩)] w fun e w' => ∃ a0 a1 a2 a3 a5 a6 a7 a8 a9 a10 : Value, e = .returned (.agg #[a0, a1, a2, a3, .string host, a5, a6, a7, a8, a9, a10]) ∧ sat w0 w' (A :: R)
  dec : ∀ (R : List Asn) (w0 w : World), sat w0 w (A :: R) → Calls Tryz.prog 113 #[.pointer (some ⟨g, 0, none⟩)] w fun e w' => e = .returned (.agg #[.bool al, .int .i64 why, .int .i64 rule]) ∧ sat w0 w' (A :: R)
theorem CN.tells (g : Nat) (c : CS) : Tells (CN g c) g c.vh c.al c.why c.rule where
  ver R w0 w H := (verdict_calls g c R w0 w H).mono fun e w' ⟨h1, h2⟩ => ⟨_, _, _, _, _, _, _, _, _, _, h1, h2⟩
  dec R w0 w H := decision_calls g c R w0 w H
theorem field83 (a0 a1 a2 a3 a5 a6 a7 a8 a9 a10 : Value) (host : ByteArray) (w : World) : (Instr.field 83 (.agg #[a0, a1, a2, a3, .string host, a5, a6, a7, a8, a9, a10]) 4).run Tryz.prog w = .ok (.string host) w := by
  unfold Instr.field
  simp [go_sem, run_underlying Tryz.underlying83, asAgg]
set_option maxHeartbeats 3200000 in
set_option maxRecDepth 100000 in
theorem did_calls (p mt mc tb j g : Nat) (relay ct ca ver count live cver : Int) (k : ByteArray × Int) (A : Asn) (host : ByteArray) (al : Bool) (dw rule : Int) (hA : Tells A g host al dw rule) (lg au v : Value) (L : List EV) (U : List AU) (T : List (ByteArray × Value)) (M : List ((ByteArray × Int) × Value))
    (hT : getA k.1 T = some (.pointer (some ⟨tb, 0, none⟩))) (l0 l1 : List AC) (hl0 : ∀ a ∈ l0, a.kind ≠ 5) (hl1 : l1 = [] ∨ ∃ b why, l1 = [⟨5, b, why⟩]) (hL : L.length ≤ 900000) (hU : U.length ≤ 900000) (hl : l0.length ≤ 90000) (hlive : 0 ≤ live ∧ live ≤ 1000000)
    (R : List Asn) (w0 w : World) (H : sat w0 w (PX p relay ct ca mt mc lg au :: RowE lg L :: RowU au U :: MapA Value.string mt T :: TN tb j ver count live :: MapA encK mc M :: A :: RowA v (l0 ++ l1) :: R)) :
    Calls Tryz.prog 71 #[.pointer (some ⟨p, 0, none⟩), encK k, .agg #[.pointer (some ⟨g, 0, none⟩), .int .i64 cver], v] w fun e w' => e = .returned (.tuple #[]) ∧ ∃ lg' au' : Value,
      sat w0 w' (PX p relay ct ca mt mc lg' au' :: RowE lg' (L ++ (l0 ++ l1).map (EV.mk k)) :: RowU au' (U ++ l1.map fun a => ⟨k, a.why, cver, host, al, dw, rule⟩) :: MapA Value.string mt T :: TN tb j ver count (live - l1.length) :: MapA encK mc (if l1 = [] then M else delA k M) :: A :: R) := by
  obtain ⟨kt, kn⟩ := k
  rw [show encK (kt, kn) = .agg #[.string kt, .int .i64 kn] from rfl]
  have hN0 : ∃ N, N = (l0 ++ l1).length := ⟨_, rfl⟩
  obtain ⟨N, hN⟩ := hN0
  obtain ⟨av, cv, rfl, hv1, hv2⟩ := RowC.form (show sat w0 w (RowA v (l0 ++ l1) :: _) from (H.pick 7 rfl))
  have h := (H.alloc (.cells #[.string kt, .int .i64 kn] 34)).alloc (.cells #[.pointer (some ⟨g, 0, none⟩), .int .i64 cver] 106)
  simp only [World.size_alloc] at h
  have HB := Lib.hid h
  clear h H
  rw [← hN] at HB ⊢
  have HN := Lib.hid hN
  have H0 := Lib.hid hl0
  have H1 := Lib.hid hl1
  have HT := Lib.hid hT
  clear hN hl0 hl1 hT
  generalize hM' : (if l1 = [] then M else delA (kt, kn) M) = M'
  have HM := Lib.hid hM'
  clear hM'
  go_enter Tryz.func71, Tryz.ntmps71
  go_wp2
  generalize hkb : w.heap.size = kb at *
  generalize hcb : kb + 1 = cb at *
  have HI : Hid (sat w0 ((w.alloc (.cells #[.string kt, .int .i64 kn] 34)).alloc (.cells #[.pointer (some ⟨g, 0, none⟩), .int .i64 cver] 106)) (PX p relay ct ca mt mc lg au :: RowE lg L :: RowU au U :: MapA Value.string mt T :: TN tb j ver count live :: MapA encK mc M :: A :: RowA (.slice av N cv) (l0 ++ l1) ::
    blk kb (.cells #[.string kt, .int .i64 kn] 34) :: blk cb (.cells #[.pointer (some ⟨g, 0, none⟩), .int .i64 cver] 106) :: R)) := Lib.hid (HB.out.re 10 [2, 3, 4, 5, 6, 7, 8, 9, 1, 0] [] rfl)
  clear HB
  generalize (w.alloc _).alloc _ = W at HI ⊢
  go_loopw [12] (fun i wr => ∃ (q : Nat) (lg' au' : Value), q ≤ N ∧ i = .int .i64 q ∧ sat w0 wr (PX p relay ct ca mt mc lg' au' :: RowE lg' (L ++ ((l0 ++ l1).take q).map (EV.mk (kt, kn))) :: RowU au' (U ++ (l1.take (q - l0.length)).map fun a => ⟨(kt, kn), a.why, cver, host, al, dw, rule⟩) :: MapA Value.string mt T ::
    TN tb j ver count (live - (l1.take (q - l0.length)).length) :: MapA encK mc (if l1.take (q - l0.length) = [] then M else delA (kt, kn) M) :: A :: RowA (.slice av N cv) (l0 ++ l1) :: blk kb (.cells #[.string kt, .int .i64 kn] 34) :: blk cb (.cells #[.pointer (some ⟨g, 0, none⟩), .int .i64 cver] 106) :: R)) (fun i _ => N - (intOf i).toNat)
  case atStart => exact ⟨0, lg, au, Nat.zero_le _, rfl, by simpa using HI.out⟩
  case round =>
    obtain ⟨q, lg', au', hq, rfl, HS⟩ := hrel
    by_cases hlast : q = N
    · subst hlast
      have HC := Lib.hid HS
      clear HS HI
      go_wp2
      go_end0
      have hq : l0.length ≤ q ∧ q - l0.length = l1.length := by have := HN.out; rw [List.length_append] at this; omega
      have h := HC.out
      rw [HN.out, List.take_length, ← HN.out, hq.2, List.take_length, HM.out] at h
      exact ⟨rfl, lg', au', h.re 10 [0, 1, 2, 3, 4, 5, 6] [7, 8, 9] rfl⟩
    · have hlt : q < N := by omega
      have d0 : decide ((q : Int) < (N : Int)) = true := by simp; omega
      obtain ⟨a, ha⟩ : ∃ a, (l0 ++ l1)[q]? = some a := ⟨_, List.getElem?_eq_getElem (by rw [← HN.out]; exact hlt)⟩
      obtain ⟨bv, rfl⟩ : ∃ bv, av = some ⟨bv, 0, none⟩ := by
        rcases (RowC.blk_of (show sat w0 wr (RowA (.slice av N cv) (l0 ++ l1) :: _) from (HS.pick 7 rfl))).2 with ⟨_, h0, _⟩ | ⟨bv, c', cur, h0, _⟩
        · rw [← HN.out] at h0; omega
        · injection h0 with h0 _ _; exact ⟨bv, h0⟩
      have hcell : ∀ jj, jj < 3 → wr.cell? ⟨bv, q * 3 + jj, none⟩ = a.cells[jj]? := fun jj hj => by
        rcases (RowC.readsC (show sat w0 wr (RowA (.slice (some ⟨bv, 0, none⟩) N cv) (l0 ++ l1) :: _) from (HS.pick 7 rfl))).2 with ⟨h0, _⟩ | ⟨ad, c', h0, _, _, hh⟩
        · cases h0
        · injection h0 with h0 _ _
          injection h0 with h0
          have hg := flat_get AC.cells 3 (fun _ => rfl) (l0 ++ l1) q a ha jj hj
          have hjl : jj < a.cells.length := hj
          rw [List.getElem?_eq_getElem hjl] at hg ⊢
          have := hh _ _ hg
          rw [← h0, addAt, Nat.zero_add] at this
          exact this
      have e0 : wr.cell? ⟨bv, q * 3, none⟩ = some (.int .i64 a.kind) := hcell 0 (by decide)
      have e1 : wr.cell? ⟨bv, q * 3 + 1, none⟩ = some (.string a.b) := hcell 1 (by decide)
      have e2 : wr.cell? ⟨bv, q * 3 + 2, none⟩ = some (.int .i64 a.why) := hcell 2 (by decide)
      clear hcell
      have HC := Lib.hid HS
      have HAq := Lib.hid ha
      clear HS ha HI
      go_wp2
      clear e0 e1 e2
      have h := (HC.out.alloc (.cells #[.int .i64 a.kind, .string a.b, .int .i64 a.why] 49)).drew
      generalize hab : wr.heap.size = ab at h ⊢
      generalize (wr.alloc _) = W1 at h ⊢
      have HD := Lib.hid h
      clear h HC
      have hR0 : ∃ R2, R2 = PX p relay ct ca mt mc lg' au' :: blk ab (.cells #[.int .i64 a.kind, .string a.b, .int .i64 a.why] 49) :: blk kb (.cells #[.string kt, .int .i64 kn] 34) :: R := ⟨_, rfl⟩
      obtain ⟨R2, hR⟩ := hR0
      have hcl : sat w0 W1.drew R2 := by
        rw [hR]
        exact HD.out.re 11 [1, 0, 9] [2, 3, 4, 5, 6, 7, 8, 10] rfl
      have q0 : ∀ x : SW w0 R2, x.w.cell? ⟨p, 0, none⟩ = some (.int .i64 16384) := fun x => by subst hR; exact PX.at _ _ _ _ _ _ _ _ x.h 0
      have q11 : ∀ x : SW w0 R2, x.w.cell? ⟨p, 11, none⟩ = some lg' := fun x => by subst hR; exact PX.at _ _ _ _ _ _ _ _ x.h 11
      have qa0 : ∀ x : SW w0 R2, x.w.cell? ⟨ab, 0, none⟩ = some (.int .i64 a.kind) := fun x => by subst hR; exact cellAt x.h.tail.get.1 0
      have qa1 : ∀ x : SW w0 R2, x.w.cell? ⟨ab, 1, none⟩ = some (.string a.b) := fun x => by subst hR; exact cellAt x.h.tail.get.1 1
      have qa2 : ∀ x : SW w0 R2, x.w.cell? ⟨ab, 2, none⟩ = some (.int .i64 a.why) := fun x => by subst hR; exact cellAt x.h.tail.get.1 2
      have qk0 : ∀ x : SW w0 R2, x.w.cell? ⟨kb, 0, none⟩ = some (.string kt) := fun x => by subst hR; exact cellAt x.h.tail.tail.get.1 0
      have qk1 : ∀ x : SW w0 R2, x.w.cell? ⟨kb, 1, none⟩ = some (.int .i64 kn) := fun x => by subst hR; exact cellAt x.h.tail.tail.get.1 1
      have c0 := q0 ⟨_, hcl⟩
      have c11 := q11 ⟨_, hcl⟩
      have ca0 := qa0 ⟨_, hcl⟩
      have ca1 := qa1 ⟨_, hcl⟩
      have ca2 := qa2 ⟨_, hcl⟩
      have ck0 := qk0 ⟨_, hcl⟩
      have ck1 := qk1 ⟨_, hcl⟩
      dsimp only at c0 c11 ca0 ca1 ca2 ck0 ck1
      have hnon : Nonempty (SW w0 R2) := ⟨⟨_, hcl⟩⟩
      have HR := Lib.hid hR
      clear hR
      refine wp_region_mix (fun u => ∃ x : SW w0 R2, u = x.w) [0, 1, 2, 3, 4, 5, 6, 7, 8, 9, 10, 11, 12] [0, 1, 2, 3, 4] (by kernel_rfl) (by kernel_rfl) ⟨⟨_, hcl⟩, rfl⟩ ?_
      repeat (first | ((first | refine mix_a rfl (by decide +kernel) rfl (fun K hK => ?_) | refine mix_q rfl (by decide +kernel) rfl (fun K hK => ?_)); go_big_quiet_op; refine hK _ ?_; clear hK K) | (refine mix_s rfl rfl (by decide +kernel) ?_; simp only [Act.put, List.setIfInBounds_toArray, List.set_cons_zero, List.set_cons_succ]))
      refine mix_lC rfl rfl rfl (fun K hK => ?_)
      refine op_build1 (xs := EV.cells ⟨(kt, kn), a⟩) rfl Tryz.underlying46 (e := 51) (z := .agg #[.string ⟨#[]⟩, .int .i64 0, .int .i64 0, .string ⟨#[]⟩, .int .i64 0]) (sz := 5) (bytes := 56) (by kernel_rfl) rfl rfl rfl (by decide) HD.out ?_
      intro g9 w9 H9
      refine hK _ _ ⟨⟨_, by rw [HR.out]; exact H9.re 12 [2, 1, 10] [0, 3, 4, 5, 6, 7, 8, 9, 11] rfl⟩, rfl⟩ ?_
      have HE := Lib.hid H9
      clear hK K H9 HD
      simp only [Act.put, List.setIfInBounds_toArray, List.set_cons_zero, List.set_cons_succ]
      refine mix_lC rfl rfl rfl (fun K hK => ?_)
      refine op_append_evs (l := L ++ ((l0 ++ l1).take q).map (EV.mk (kt, kn))) (m := [⟨(kt, kn), a⟩]) rfl rfl rfl (HE.out.re 12 [3, 2, 1, 4, 5, 6, 7, 8, 9, 10, 11] [0] rfl) (RowC.readsC HE.out) ?_ ?_
      · have := HN.out
        rw [List.length_append] at this
        have h1 : l1.length ≤ 1 := by rcases H1.out with h | ⟨b, why, h⟩ <;> rw [h] <;> simp
        simp only [List.length_append, List.length_map, List.length_take, List.length_singleton]
        omega
      intro lg2 w10 H10
      refine hK _ _ ⟨⟨_, by rw [HR.out]; exact H10.re 11 [1, 2, 9] [0, 3, 4, 5, 6, 7, 8, 10] rfl⟩, rfl⟩ ?_
      have HF := Lib.hid (H10.re 2 [1, 0] [] rfl)
      clear hK K H10 HE
      simp only [Act.put, List.setIfInBounds_toArray, List.set_cons_zero, List.set_cons_succ]
      repeat (first | ((first | refine mix_a rfl (by decide +kernel) rfl (fun K hK => ?_) | refine mix_q rfl (by decide +kernel) rfl (fun K hK => ?_)); go_big_quiet_op; refine hK _ ?_; clear hK K) | (refine mix_s rfl rfl (by decide +kernel) ?_; simp only [Act.put, List.setIfInBounds_toArray, List.set_cons_zero, List.set_cons_succ]))
      refine mix_l rfl (by decide +kernel) rfl (fun K hK => ?_)
      have hone : lg2.oneCell' = true ∧ lg2.cells = #[lg2] := by
        obtain ⟨a2, c2, h2, _, _⟩ := RowC.form HF.out.tail
        rw [h2]; exact ⟨rfl, rfl⟩
      refine op_store1 lg2 rfl (by kernel_rfl) rfl rfl hone.1 hone.2 HF.out (by simp [pxA]) ?_
      intro w12 H12
      have HG := Lib.hid (show sat w0 w12 (PX p relay ct ca mt mc lg2 au' :: _) from H12)
      have e0 : w12.cell? ⟨ab, 0, none⟩ = some (.int .i64 a.kind) := cellAt (H12.pick 2 rfl).get.1 0
      refine hK _ _ ?_; clear hK K; (try simp only [Act.put, List.setIfInBounds_toArray, List.set_cons_zero, List.set_cons_succ])
      refine mix_nil ?_
      clear H12 HF c0 c11 ca0 ca1 ca2 ck0 ck1 q0 q11 qa0 qa1 qa2 qk0 qk1
      by_cases hq0 : q < l0.length
      · have d5 : (a.kind == 5) = false := by
          have h1 := HAq.out
          rw [List.getElem?_append_left hq0] at h1
          have := H0.out a (List.mem_of_getElem? h1)
          simpa using this
        go_wp2
        have h := HG.out.re 3 [0, 1] [2] rfl
        refine ⟨⟨q + 1, lg2, au', by omega, rfl, ?_⟩, by simp [intOf]; omega⟩
        rw [show (l0 ++ l1).take (q + 1) = (l0 ++ l1).take q ++ [a] by rw [List.take_add_one, HAq.out]; rfl, List.map_append, ← List.append_assoc, show q + 1 - l0.length = q - l0.length by omega]
        exact h
      · have hq1 : q = l0.length := by
          have := HN.out
          rw [List.length_append] at this
          have h1 : l1.length ≤ 1 := by rcases H1.out with h | ⟨b, why, h⟩ <;> rw [h] <;> simp
          omega
        obtain ⟨b, why, hab1, hl1⟩ : ∃ b why, a = ⟨5, b, why⟩ ∧ l1 = [⟨5, b, why⟩] := by
          rcases H1.out with h | ⟨b, why, h⟩
          · have := HN.out
            rw [h, List.append_nil] at this
            omega
          · have h2 := HAq.out
            rw [List.getElem?_append_right (by omega), h, show q - l0.length = 0 by omega] at h2
            exact ⟨b, why, (Option.some.inj h2).symm, h⟩
        subst hab1
        have hG := HG.out
        rw [show q - l0.length = 0 by omega, List.take_zero, if_pos rfl, List.map_nil, List.append_nil, show live - (([] : List AC).length : Int) = live by simp] at hG
        have HG2 := Lib.hid (show sat w0 w12 (PX p relay ct ca mt mc lg2 au' :: RowE lg2 (L ++ ((l0 ++ l1).take q).map (EV.mk (kt, kn)) ++ [⟨(kt, kn), ⟨5, b, why⟩⟩]) :: blk ab (.cells #[.int .i64 5, .string b, .int .i64 why] 49) :: RowU au' U :: MapA Value.string mt T :: TN tb j ver count live :: MapA encK mc M :: A :: RowA (.slice (some ⟨bv, 0, none⟩) N cv) (l0 ++ l1) :: blk kb (.cells #[.string kt, .int .i64 kn] 34) :: blk cb (.cells #[.pointer (some ⟨g, 0, none⟩), .int .i64 cver] 106) :: R) from hG)
        have hE := Lib.hid (And.intro hq1 hl1)
        have hqs : q ≤ 90000 := by omega
        clear hG HG hl1 hq1 hq0
        go_wp2
        clear e0
        have hR0 : ∃ R2, R2 = PX p relay ct ca mt mc lg2 au' :: blk ab (.cells #[.int .i64 5, .string b, .int .i64 why] 49) :: blk kb (.cells #[.string kt, .int .i64 kn] 34) :: blk cb (.cells #[.pointer (some ⟨g, 0, none⟩), .int .i64 cver] 106) :: R := ⟨_, rfl⟩
        obtain ⟨R2, hR⟩ := hR0
        have hcl : sat w0 w12.drew R2 := by
          rw [hR]
          exact HG2.out.drew.re 11 [0, 2, 9, 10] [1, 3, 4, 5, 6, 7, 8] rfl
        have q0 : ∀ x : SW w0 R2, x.w.cell? ⟨p, 0, none⟩ = some (.int .i64 16384) := fun x => by subst hR; exact PX.at _ _ _ _ _ _ _ _ x.h 0
        have q12 : ∀ x : SW w0 R2, x.w.cell? ⟨p, 12, none⟩ = some au' := fun x => by subst hR; exact PX.at _ _ _ _ _ _ _ _ x.h 12
        have qa2 : ∀ x : SW w0 R2, x.w.cell? ⟨ab, 2, none⟩ = some (.int .i64 why) := fun x => by subst hR; exact cellAt x.h.tail.get.1 2
        have qk0 : ∀ x : SW w0 R2, x.w.cell? ⟨kb, 0, none⟩ = some (.string kt) := fun x => by subst hR; exact cellAt x.h.tail.tail.get.1 0
        have qk1 : ∀ x : SW w0 R2, x.w.cell? ⟨kb, 1, none⟩ = some (.int .i64 kn) := fun x => by subst hR; exact cellAt x.h.tail.tail.get.1 1
        have qc0 : ∀ x : SW w0 R2, x.w.cell? ⟨cb, 0, none⟩ = some (.pointer (some ⟨g, 0, none⟩)) := fun x => by subst hR; exact cellAt x.h.tail.tail.tail.get.1 0
        have qc1 : ∀ x : SW w0 R2, x.w.cell? ⟨cb, 1, none⟩ = some (.int .i64 cver) := fun x => by subst hR; exact cellAt x.h.tail.tail.tail.get.1 1
        have c0 := q0 ⟨_, hcl⟩
        have c12 := q12 ⟨_, hcl⟩
        have ca2 := qa2 ⟨_, hcl⟩
        have ck0 := qk0 ⟨_, hcl⟩
        have ck1 := qk1 ⟨_, hcl⟩
        have cc0 := qc0 ⟨_, hcl⟩
        have cc1 := qc1 ⟨_, hcl⟩
        dsimp only at c0 c12 ca2 ck0 ck1 cc0 cc1
        have hnon2 : Nonempty (SW w0 R2) := ⟨⟨_, hcl⟩⟩
        have HR2 := Lib.hid hR
        clear hR
        refine wp_region_mix (fun u => ∃ x : SW w0 R2, u = x.w) [0, 1, 2, 3, 4, 5, 6, 7, 8, 9, 10, 11, 14, 15, 12, 13, 16, 17, 18, 19, 20, 21, 22] [0, 1, 2, 3, 4, 5, 6, 7, 8, 9, 14, 15, 13] (by kernel_rfl) (by kernel_rfl) ⟨⟨_, hcl⟩, rfl⟩ ?_
        repeat (first | ((first | refine mix_a rfl (by decide +kernel) rfl (fun K hK => ?_) | refine mix_q rfl (by decide +kernel) rfl (fun K hK => ?_)); go_big_quiet_op; refine hK _ ?_; clear hK K) | (refine mix_s rfl rfl (by decide +kernel) ?_; simp only [Act.put, List.setIfInBounds_toArray, List.set_cons_zero, List.set_cons_succ]))
        refine mix_lC rfl rfl rfl (fun K hK => ?_)
        refine op_call rfl Tryz.func112 (by kernel_rfl) (by kernel_rfl) (hA.ver _ w0 _ (HG2.out.drew.re 9 [7, 0, 1, 2, 3, 4, 5, 6, 8] [] rfl)) rfl ?_
        rintro r w13 ⟨a0, a1, a2, a3, a5, a6, a7, a8, a9, a10, rfl, H13⟩
        refine ⟨_, rfl, hK _ _ ⟨⟨_, by rw [HR2.out]; exact H13.re 11 [1, 3, 9, 10] [0, 2, 4, 5, 6, 7, 8] rfl⟩, rfl⟩ ?_⟩
        have HH := Lib.hid H13
        have hfld := fun u => field83 a0 a1 a2 a3 a5 a6 a7 a8 a9 a10 host u
        clear hK K H13
        simp only [Act.put, List.setIfInBounds_toArray, List.set_cons_zero, List.set_cons_succ]
        repeat (first | ((first | refine mix_a rfl (by decide +kernel) rfl (fun K hK => ?_) | refine mix_q rfl (by decide +kernel) rfl (fun K hK => ?_)); go_big_quiet_op; refine hK _ ?_; clear hK K) | (refine mix_s rfl rfl (by decide +kernel) ?_; simp only [Act.put, List.setIfInBounds_toArray, List.set_cons_zero, List.set_cons_succ]))
        refine mix_lC rfl rfl rfl (fun K hK => ?_)
        refine op_call rfl Tryz.func113 (by kernel_rfl) (by kernel_rfl) (hA.dec _ w0 _ HH.out) rfl ?_
        rintro r w14 ⟨rfl, H14⟩
        refine ⟨_, rfl, hK _ _ ⟨⟨_, by rw [HR2.out]; exact H14.re 11 [1, 3, 9, 10] [0, 2, 4, 5, 6, 7, 8] rfl⟩, rfl⟩ ?_⟩
        have HJ := Lib.hid H14
        clear hK K H14 HH
        simp only [Act.put, List.setIfInBounds_toArray, List.set_cons_zero, List.set_cons_succ]
        repeat (first | ((first | refine mix_a rfl (by decide +kernel) rfl (fun K hK => ?_) | refine mix_q rfl (by decide +kernel) rfl (fun K hK => ?_)); go_big_quiet_op; refine hK _ ?_; clear hK K) | (refine mix_s rfl rfl (by decide +kernel) ?_; simp only [Act.put, List.setIfInBounds_toArray, List.set_cons_zero, List.set_cons_succ]))
        refine mix_lC rfl rfl rfl (fun K hK => ?_)
        refine op_build1 (xs := AU.cells ⟨(kt, kn), why, cver, host, al, dw, rule⟩) rfl Tryz.underlying52 (e := 60) (z := .agg #[.string ⟨#[]⟩, .int .i64 0, .int .i64 0, .int .i64 0, .string ⟨#[]⟩, .bool false, .int .i64 0, .int .i64 0]) (sz := 8) (bytes := 80) (by kernel_rfl) rfl rfl rfl (by decide) HJ.out ?_
        intro g15 w15 H15
        refine hK _ _ ⟨⟨_, by rw [HR2.out]; exact H15.re 12 [2, 4, 10, 11] [0, 1, 3, 5, 6, 7, 8, 9] rfl⟩, rfl⟩ ?_
        have HK := Lib.hid H15
        clear hK K H15 HJ
        simp only [Act.put, List.setIfInBounds_toArray, List.set_cons_zero, List.set_cons_succ]
        refine mix_lC rfl rfl rfl (fun K hK => ?_)
        refine op_append_aus (l := U) (m := [⟨(kt, kn), why, cver, host, al, dw, rule⟩]) rfl rfl rfl (HK.out.re 12 [5, 1, 2, 3, 4, 6, 7, 8, 9, 10, 11] [0] rfl) (RowC.readsC HK.out) (by simp only [List.length_singleton]; omega) ?_
        intro au2 w16 H16
        refine hK _ _ ⟨⟨_, by rw [HR2.out]; exact H16.re 11 [2, 4, 9, 10] [0, 1, 3, 5, 6, 7, 8] rfl⟩, rfl⟩ ?_
        have HL := Lib.hid (H16.re 3 [2, 0, 1] [] rfl)
        clear hK K H16 HK
        simp only [Act.put, List.setIfInBounds_toArray, List.set_cons_zero, List.set_cons_succ]
        repeat (first | ((first | refine mix_a rfl (by decide +kernel) rfl (fun K hK => ?_) | refine mix_q rfl (by decide +kernel) rfl (fun K hK => ?_)); go_big_quiet_op; refine hK _ ?_; clear hK K) | (refine mix_s rfl rfl (by decide +kernel) ?_; simp only [Act.put, List.setIfInBounds_toArray, List.set_cons_zero, List.set_cons_succ]))
        refine mix_l rfl (by decide +kernel) rfl (fun K hK => ?_)
        have hone : au2.oneCell' = true ∧ au2.cells = #[au2] := by
          obtain ⟨a2, c2, h2, _, _⟩ := RowC.form HL.out.tail
          rw [h2]; exact ⟨rfl, rfl⟩
        refine op_store1 au2 rfl (by kernel_rfl) rfl rfl hone.1 hone.2 HL.out (by simp [pxA]) ?_
        intro w17 H17
        have HO := Lib.hid (show sat w0 w17 (PX p relay ct ca mt mc lg2 au2 :: RowU au2 (U ++ [⟨(kt, kn), why, cver, host, al, dw, rule⟩]) :: A :: RowE lg2 (L ++ ((l0 ++ l1).take q).map (EV.mk (kt, kn)) ++ [⟨(kt, kn), ⟨5, b, why⟩⟩]) :: blk ab (.cells #[.int .i64 5, .string b, .int .i64 why] 49) :: MapA Value.string mt T :: TN tb j ver count live :: MapA encK mc M :: RowA (.slice (some ⟨bv, 0, none⟩) N cv) (l0 ++ l1) :: blk kb (.cells #[.string kt, .int .i64 kn] 34) :: blk cb (.cells #[.pointer (some ⟨g, 0, none⟩), .int .i64 cver] 106) :: R) from H17)
        clear H17 HL c0 c12 ca2 ck0 ck1 cc0 cc1 q0 q12 qa2 qk0 qk1 qc0 qc1
        refine hK _ _ ?_; clear hK K; (try simp only [Act.put, List.setIfInBounds_toArray, List.set_cons_zero, List.set_cons_succ])
        refine mix_nil ?_
        go_wp2
        have h := HO.out.drew
        have x0 : w17.drew.cell? ⟨p, 0, none⟩ = some (.int .i64 16384) := PX.at _ _ _ _ _ _ _ _ h 0
        have x9 : w17.drew.cell? ⟨p, 9, none⟩ = some (.map (some mt)) := PX.at _ _ _ _ _ _ _ _ h 9
        have xk0 : w17.drew.cell? ⟨kb, 0, none⟩ = some (.string kt) := cellAt (h.pick 9 rfl).get.1 0
        have xt0 : w17.drew.cell? ⟨tb, 0, none⟩ = some (.pointer (some ⟨j, 0, none⟩)) := cellAt (h.pick 6 rfl).get.1 0
        have xt3 : w17.drew.cell? ⟨tb, 3, none⟩ = some (.int .i64 live) := cellAt (h.pick 6 rfl).get.1 3
        have xl := MapA.lookup (strKey Tryz.underlying9) Tryz.underlying88 (z := .pointer none) (by kernel_rfl) (h.pick 5 rfl) kt false
        rw [HT.out] at xl
        rw [if_neg (by decide), Option.getD_some] at xl
        clear h
        refine wp_region_mix (fun u => ∃ x : World, u = x) [0, 1, 2, 3, 4, 5, 6, 7, 8, 9, 10, 11, 12, 13] [] (by kernel_rfl) (by kernel_rfl) ⟨_, rfl⟩ ?_
        repeat (first | ((first | refine mix_a rfl (by decide +kernel) rfl (fun K hK => ?_) | refine mix_q rfl (by decide +kernel) rfl (fun K hK => ?_)); go_big_quiet_op; refine hK _ ?_; clear hK K) | (refine mix_s rfl rfl (by decide +kernel) ?_; simp only [Act.put, List.setIfInBounds_toArray, List.set_cons_zero, List.set_cons_succ]))
        refine mix_l rfl (by decide +kernel) rfl (fun K hK => ?_)
        refine op_store1 (.int .i64 (live - 1)) rfl (by kernel_rfl) rfl rfl rfl rfl (HO.out.drew.re 7 [6, 0, 1, 2, 3, 4, 5] [] rfl) (by simp) ?_
        intro w18 H18
        have HP := Lib.hid (show sat w0 w18 (TN tb j ver count (live - 1) :: PX p relay ct ca mt mc lg2 au2 :: RowU au2 (U ++ [⟨(kt, kn), why, cver, host, al, dw, rule⟩]) :: A :: RowE lg2 (L ++ ((l0 ++ l1).take q).map (EV.mk (kt, kn)) ++ [⟨(kt, kn), ⟨5, b, why⟩⟩]) :: blk ab (.cells #[.int .i64 5, .string b, .int .i64 why] 49) :: MapA Value.string mt T :: MapA encK mc M :: RowA (.slice (some ⟨bv, 0, none⟩) N cv) (l0 ++ l1) :: blk kb (.cells #[.string kt, .int .i64 kn] 34) :: blk cb (.cells #[.pointer (some ⟨g, 0, none⟩), .int .i64 cver] 106) :: R) from H18)
        clear H18 HO x0 x9 xk0 xt0 xt3 xl
        refine hK _ _ ?_; clear hK K; (try simp only [Act.put, List.setIfInBounds_toArray, List.set_cons_zero, List.set_cons_succ])
        refine mix_nil ?_
        go_wp2
        have h := HP.out.drew
        have x0 : w18.drew.cell? ⟨p, 0, none⟩ = some (.int .i64 16384) := PX.at _ _ _ _ _ _ _ _ h.swap 0
        have x10 : w18.drew.cell? ⟨p, 10, none⟩ = some (.map (some mc)) := PX.at _ _ _ _ _ _ _ _ h.swap 10
        have xk0 : w18.drew.cell? ⟨kb, 0, none⟩ = some (.string kt) := cellAt (h.pick 9 rfl).get.1 0
        have xk1 : w18.drew.cell? ⟨kb, 1, none⟩ = some (.int .i64 kn) := cellAt (h.pick 9 rfl).get.1 1
        clear h
        refine wp_region_mix (fun u => ∃ x : World, u = x) [0, 1, 2, 3, 4, 5] [] (by kernel_rfl) (by kernel_rfl) ⟨_, rfl⟩ ?_
        repeat (first | ((first | refine mix_a rfl (by decide +kernel) rfl (fun K hK => ?_) | refine mix_q rfl (by decide +kernel) rfl (fun K hK => ?_)); go_big_quiet_op; refine hK _ ?_; clear hK K) | (refine mix_s rfl rfl (by decide +kernel) ?_; simp only [Act.put, List.setIfInBounds_toArray, List.set_cons_zero, List.set_cons_succ]))
        refine mix_l rfl (by decide +kernel) rfl (fun K hK => ?_)
        refine op_delete (k := (kt, kn)) keyK rfl Tryz.underlying89 rfl rfl (HP.out.drew.re 8 [7, 1, 0, 2, 3, 4, 5, 6] [] rfl) ?_
        intro w19 H19
        have HQ := Lib.hid (show sat w0 w19 (MapA encK mc (delA (kt, kn) M) :: PX p relay ct ca mt mc lg2 au2 :: TN tb j ver count (live - 1) :: RowU au2 (U ++ [⟨(kt, kn), why, cver, host, al, dw, rule⟩]) :: A :: RowE lg2 (L ++ ((l0 ++ l1).take q).map (EV.mk (kt, kn)) ++ [⟨(kt, kn), ⟨5, b, why⟩⟩]) :: blk ab (.cells #[.int .i64 5, .string b, .int .i64 why] 49) :: MapA Value.string mt T :: RowA (.slice (some ⟨bv, 0, none⟩) N cv) (l0 ++ l1) :: blk kb (.cells #[.string kt, .int .i64 kn] 34) :: blk cb (.cells #[.pointer (some ⟨g, 0, none⟩), .int .i64 cver] 106) :: R) from H19)
        clear H19 HP x0 x10 xk0 xk1
        refine hK _ _ ?_; clear hK K; (try simp only [Act.put, List.setIfInBounds_toArray, List.set_cons_zero, List.set_cons_succ])
        refine mix_nil ?_
        go_wp2
        have hq2 : q + 1 - l0.length = 1 := by have := hE.out.1; omega
        refine ⟨⟨q + 1, lg2, au2, by omega, rfl, ?_⟩, by simp [intOf]; omega⟩
        have h := HQ.out.re 11 [1, 5, 3, 7, 2, 0, 4, 8, 9, 10] [6] rfl
        rw [show (l0 ++ l1).take (q + 1) = (l0 ++ l1).take q ++ [⟨5, b, why⟩] by rw [List.take_add_one, HAq.out]; rfl, List.map_append, ← List.append_assoc, hq2, show l1.take 1 = [⟨5, b, why⟩] by rw [hE.out.2]; rfl]
        exact h
end Go.Proofs.YtonipcfnhmnnlaaGreatDoor
