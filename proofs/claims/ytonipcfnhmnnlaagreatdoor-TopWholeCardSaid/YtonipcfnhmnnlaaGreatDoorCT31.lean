/- The sniffer at a whole head. -/
import Derived.Test.YtonipcfnhmnnlaaGreatDoorCT30
namespace Go.Proofs.YtonipcfnhmnnlaaGreatDoor
open Go Go.RowKit Hg
set_option linter.unusedVariables false
set_option linter.unusedSimpArgs false
attribute [local go_sem] Lib.run_eql_slice_nil run_min2 run_max2 run_min_two run_max_two
theorem results_tmp_row {fn : Func} {p u : Tmp} {ty : TypeId} (h : fn.results = #[.tmp u, .cell p ty]) (tmps : Array Value) (w : World) (g : Nat) (t : TypeId) (cs : Array Value) (fr : Nat × Nat) (d : TypeDesc)
    (hp : tmps.getD p undef = .pointer (some ⟨g, 0, none⟩)) (hg : w.heap[g]? = some (.cells cs t fr))
    (hu : Tryz.prog.underlying ty = some d) (hd : (match d with | .struct _ | .array _ _ => true | _ => false) = true) (hi : (Tryz.prog.info? ty).map (·.size) = some cs.size) :
    (results fn tmps).run Tryz.prog w = .ok (.tuple #[tmps.getD u undef, .agg cs]) w := by
  have hp' : tmps[p]?.getD undef = .pointer (some ⟨g, 0, none⟩) := by simpa using hp
  have hl := run_loadVar_row (P := Tryz.prog) w g t ty cs fr d hg hu (by cases d <;> first | rfl | exact hd) hi
  simp [results, h, hp', asAddr, hl]
/-- A sniffer at a head, from its outset on. -/
def SnK (s i : Nat) : Asn := if i = 0 then SN s .nilIface v0 else ex fun g : Nat => many [SN s (itf g) (vK i), PkA g i]
theorem SnK.at0 {s i : Nat} {w0 w : World} {R : List Asn} (h : sat w0 w (SnK s i :: R)) : w.cell? ⟨s, 2, none⟩ = some (.int .i64 (if i = 29 then 1 else 0)) := by
  unfold SnK at h
  split at h
  · rename_i e
    subst e
    exact SN.at s _ _ h 2
  · obtain ⟨g, hg⟩ := h.open_ex
    exact SN.at s _ _ hg.open_many 2
theorem SnK.one {s i : Nat} (hi : i < 29) {w0 w : World} {R : List Asn} (hm : MaxL w0) (h : sat w0 w (SnK s i :: R)) :
    Calls Tryz.prog 94 #[.pointer (some ⟨s, 0, none⟩), .int .u8 (HD.getD i 0).toNat] w fun e w' => e = .returned (.tuple #[]) ∧ sat w0 w' (SnK s (i + 1) :: R) := by
  have hc : ∀ g w', sat w0 w' (SN s (itf g) (vK (i + 1)) :: PkA g (i + 1) :: R) → sat w0 w' (SnK s (i + 1) :: R) := fun g w' h' => by
    unfold SnK
    rw [if_neg (by omega)]
    exact sat.ex (P := fun g : Nat => many [SN s (itf g) (vK (i + 1)), PkA g (i + 1)]) g (sat.many (l := [SN s (itf g) (vK (i + 1)), PkA g (i + 1)]) h')
  unfold SnK at h
  split at h
  · rename_i e
    subst e
    refine (one_first s R w0 w hm h).mono ?_
    rintro e w' ⟨g, a, b⟩
    exact ⟨a, hc g w' b⟩
  · obtain ⟨g, hg⟩ := h.open_ex
    refine (one_next s g i ⟨by omega, hi⟩ R w0 w hm hg.open_many).mono ?_
    rintro e w' ⟨a, b⟩
    exact ⟨a, hc g w' b⟩
theorem SnK.now {s : Nat} {w0 w : World} {R : List Asn} (h : sat w0 w (SnK s 29 :: R)) :
    Calls Tryz.prog 95 #[.pointer (some ⟨s, 0, none⟩)] w fun e w' => e = .returned (.agg (vK 29)) ∧ sat w0 w' (SnK s 29 :: R) := by
  unfold SnK at h
  rw [if_neg (by decide)] at h
  obtain ⟨g, hg⟩ := h.open_ex
  refine (now_calls s (itf g) (PkA g 29 :: R) w0 w hg.open_many).mono ?_
  rintro e w' ⟨a, b⟩
  refine ⟨a, ?_⟩
  unfold SnK
  rw [if_neg (by decide)]
  exact sat.ex (P := fun g : Nat => many [SN s (itf g) (vK 29), PkA g 29]) g (sat.many (l := [SN s (itf g) (vK 29), PkA g 29]) b)
set_option maxHeartbeats 1600000 in
set_option maxRecDepth 100000 in
theorem sntake_calls (s : Nat) (b : Value) (m more : List UInt8) (hmm : m = HD ++ more) (hlen : m.length ≤ 1000000) (R : List Asn) (w0 w : World) (hm : MaxL w0) (H : sat w0 w (SnK s 0 :: R)) (hs : Rd w0 R b m) :
    Calls Tryz.prog 57 #[.pointer (some ⟨s, 0, none⟩), b] w fun e w' => e = .returned (.tuple #[.int .i64 29, .agg (vK 29)]) ∧ sat w0 w' (SnK s 29 :: R) := by
  have hl : 29 ≤ m.length := by rw [hmm]; simp [HD]
  have hget : ∀ i, i < 29 → m.getD i 0 = HD.getD i 0 := fun i hi => by rw [hmm]; simp [List.getD, List.getElem?_append_left (show i < HD.length from hi)]
  obtain ⟨bb, off, c, hb, _, hc⟩ := (show ∃ bb off c, b = .slice (some ⟨bb, off, none⟩) m.length c ∧ True ∧ m.length ≤ c by
    rcases (hs w H.tail).cases with ⟨_, e⟩ | ⟨ad, cap, e, h1, h2, h3⟩
    · rw [e] at hl; simp at hl
    · obtain ⟨b', off', rfl⟩ := cell_spot (h3 0 (by omega))
      exact ⟨b', off', cap, e, trivial, h1⟩)
  subst hb
  have hcell : ∀ wr i, i < 29 → sat w0 wr R → wr.cell? ⟨bb, off + i, none⟩ = some (.int .u8 (HD.getD i 0).toNat) := fun wr i hi hw => by
    rcases (hs wr hw).cases with ⟨e, _⟩ | ⟨ad, cap, e, h1, h2, h3⟩
    · cases e
    · injection e with e1 e2 e3
      injection e1 with e1
      have := h3 i (by omega)
      rw [← e1, addAt, hget i hi] at this
      exact this
  have HH := Lib.hid (H.alloc (.cells v0 83))
  have HM := Lib.hid hm
  have HCE := Lib.hid hcell
  generalize m.length = ml at *
  clear H hm hs hget hmm hcell hc
  go_enter Tryz.func57, Tryz.ntmps57
  go_wp2
  go_loopw [6] (fun t wr => ∃ i : Nat, i ≤ 29 ∧ t = .int .i64 i ∧ sat w0 wr (SnK s i :: blk w.heap.size (.cells v0 83) :: R)) (fun t _ => 29 - (intOf t).toNat)
  case atStart => exact ⟨0, by decide, rfl, HH.out.swap⟩
  case round =>
    obtain ⟨i, hi, rfl, h⟩ := hrel
    have q2 := SnK.at0 h
    have hcl := fun h29 => HCE.out wr i h29 h.tail.tail
    rcases Nat.lt_or_ge i 29 with h29 | h29
    · rw [if_neg (by omega)] at q2
      have hcl := hcl h29
      have HT := Lib.hid (SnK.one h29 HM.out h)
      have d1 : decide ((i : Int) < (ml : Int)) = true := by simp; omega
      clear h HCE HM HH
      generalize ((HD.getD i 0).toNat : Int) = cn at *
      have hi0 : (0 : Int) ≤ i ∧ (i : Int) < ml := by omega
      have hi1 : (i : Int) ≤ 30 := by omega
      have HI := Lib.hid h29
      clear h29 hi
      go_wp2_with (go_at_call 94; refine HT.out.mono ?_; rintro e w1 ⟨rfl, H1⟩; have HA := Lib.hid H1; clear H1)
      refine ⟨⟨i + 1, HI.out, by simp, HA.out⟩, ?_⟩
      have := HI.out
      simp [intOf]
      omega
    · have e29 : i = 29 := by omega
      subst e29
      have q2 : wr.cell? ⟨s, 2, none⟩ = some (.int .i64 1) := q2
      have HS := Lib.hid h
      clear h HCE HM HH hcl hi h29
      go_wp2_with (first | (go_at_call 95; refine (SnK.now HS.out).mono ?_; rintro e w1 ⟨rfl, H1⟩; have HA := Lib.hid H1; clear H1) | (refine BigFrame.wpList_want (by rfl) fun K' hK' => ?_; refine op_store (vs := [.int .i64 1, .int .i64 2, .int .i64 29, .int .i64 0, .string sAB, .int .i64 0, .bool false, .string ⟨#[]⟩, .slice none 0 0, .slice none 0 0, .bool false]) (by rfl) (by kernel_rfl) (by rfl) (by rfl) (by rfl) (by intro u hu; simp only [List.mem_cons, List.not_mem_nil, or_false] at hu; rcases hu with rfl | rfl | rfl | rfl | rfl | rfl | rfl | rfl | rfl | rfl | rfl <;> rfl) HA.out.swap (Nat.le_refl _) ?_; intro w2 H2; refine hK' _ _ ?_; clear hK' K'; have hg : w2.heap[w.heap.size]? = some (.cells (vK 29) 83) := H2.get.1; have HB := Lib.hid H2.tail; clear H2 HA))
      all_goals refine bodyPost_ret (results_tmp_row rfl _ _ w.heap.size 83 (vK 29) (0, 0) _ rfl hg Tryz.underlying83 rfl (by kernel_rfl)) rfl ?_
      all_goals exact ⟨rfl, HB.out⟩
end Go.Proofs.YtonipcfnhmnnlaaGreatDoor
