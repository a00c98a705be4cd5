/- What is made anew: configurations, tries, pins, queues, buffers, sniffers, proxies. No condition. A connection's configuration, clamped; a connection that begins. What came before it was decided (turned from Peek1, Peek2). A bounded queue, in plain lists. No program. A bounded queue: the walks. A connection: the small walks. No condition. A connection: bytes are taken for a way. -/
import Derived.Test.YtonipcfnhmnnlaaGreatDoorProg
import Derived.KernelRfl
import Derived.Test.YtonipcfnhmnnlaaGreatDoorMMix
import Derived.Test.YtonipcfnhmnnlaaGreatDoorMOps
import Derived.WalkSpells
import Derived.OwnWalk
namespace Go.Proofs.YtonipcfnhmnnlaaGreatDoor
open Go Go.RowKit Hg
set_option linter.unusedVariables false
set_option linter.unusedSimpArgs false
attribute [local go_sem] Lib.run_eql_slice_nil run_min2 run_max2 run_min_two run_max_two
theorem ret_int {k : IntKind} {a b : Int} (h : a = b) : Ending.returned (.int k a) = .returned (.int k b) := by rw [h]
theorem info5 : (Tryz.prog.info? 5).map (fun i => (i.zero, i.size, i.bytes)) = some (some (.int .u8 0), 1, 1) := by kernel_rfl
def ints (l : List Int) : List Value := l.map (Value.int .i64)
theorem conf_calls (R : List Asn) (w0 w : World) (H : sat w0 w R) :
    Calls Tryz.prog 6 #[] w fun e w' => e = .returned (.agg #[.int .i64 16384, .int .i64 65536, .int .i64 1000, .int .i64 1000, .int .i64 1000]) ∧ sat w0 w' R := by
  have HH := Lib.hid H
  clear H
  go_enter Tryz.func6, Tryz.ntmps6
  go_wp2
  (try simp only [Exit.inBlock, Exit.then])
  refine bodyPost_ret (results_cell_row rfl _ _ w.heap.size 24 #[.int .i64 16384, .int .i64 65536, .int .i64 1000, .int .i64 1000, .int .i64 1000] (0, 0) _ rfl (heap_alloc_new _ _) Tryz.underlying24 rfl (by kernel_rfl)) rfl ?_
  exact ⟨rfl, (HH.out.alloc _).tail⟩
theorem clamp_calls (x low high : Int) (w : World) : Calls Tryz.prog 58 #[.int .i64 x, .int .i64 low, .int .i64 high] w fun e w' => e = .returned (.int .i64 (mx low (mn x high))) ∧ w' = w := by
  go_enter Tryz.func58, Tryz.ntmps58
  go_wp2
  go_ret
  exact ⟨rfl, rfl⟩
/-- A trie without rules: its block, its map. -/
def TrieB (g m : Nat) : List Asn := [blk g (.cells #[.slice none 0 0, .slice none 0 0, .slice none 0 0, .slice none 0 0, .map none, .map (some m)] 179), blk m (.map #[] 0)]
theorem trie_calls (R : List Asn) (w0 w : World) (H : sat w0 w R) :
    Calls Tryz.prog 65 #[] w fun e w' => ∃ g m : Nat, e = .returned (.pointer (some ⟨g, 0, none⟩)) ∧ sat w0 w' (TrieB g m ++ R) := by
  have HH := Lib.hid H
  have hmm := @run_makeMap Tryz.prog
  clear H
  go_enter Tryz.func65, Tryz.ntmps65
  go_wp2
  go_ret
  have h := (HH.out.alloc (.map #[] 0)).alloc (.cells #[.slice none 0 0, .slice none 0 0, .slice none 0 0, .slice none 0 0, .map none, .map (some w.heap.size)] 179)
  simp only [World.size_alloc] at h
  exact ⟨_, _, rfl, h⟩
def PinsB (g m n : Nat) : List Asn := [blk g (.cells #[.map (some m), .map (some n)] 197), blk m (.map #[] 0), blk n (.map #[] 0)]
theorem fresh_calls (R : List Asn) (w0 w : World) (H : sat w0 w R) :
    Calls Tryz.prog 61 #[] w fun e w' => ∃ g t m n : Nat, e = .returned (.pointer (some ⟨g, 0, none⟩)) ∧ sat w0 w' (blk g (.cells #[.pointer (some ⟨t, 0, none⟩), .map (some n)] 186) :: blk n (.map #[] 0) :: (TrieB t m ++ R)) := by
  have HH := Lib.hid H
  have hmm := @run_makeMap Tryz.prog
  clear H
  go_enter Tryz.func61, Tryz.ntmps61
  go_wp2_with (go_at_call 65; refine (trie_calls R w0 _ HH.out).mono ?_; rintro r w1 ⟨t, m, rfl, H1⟩; have HA := Lib.hid H1; clear H1)
  go_ret
  have h := (HA.out.alloc (.map #[] 0)).alloc (.cells #[.pointer (some ⟨t, 0, none⟩), .map (some w1.heap.size)] 186)
  simp only [World.size_alloc] at h
  exact ⟨_, t, m, _, rfl, h⟩
theorem pins_calls (R : List Asn) (w0 w : World) (H : sat w0 w R) :
    Calls Tryz.prog 66 #[.slice none 0 0] w fun e w' => ∃ g m n : Nat, e = .returned (.pointer (some ⟨g, 0, none⟩)) ∧ sat w0 w' (PinsB g m n ++ R) := by
  have HH := Lib.hid H
  have hmm := @run_makeMap Tryz.prog
  clear H
  have h := ((HH.out.alloc (.map #[] 0)).alloc (.map #[] 0)).alloc (.cells #[.map (some w.heap.size), .map (some (w.heap.size + 1))] 197)
  simp only [World.size_alloc] at h
  have HA := Lib.hid (show sat w0 _ (PinsB (w.heap.size + 2) w.heap.size (w.heap.size + 1) ++ R) from h.re 3 [0, 2, 1] [] rfl)
  clear h
  go_enter Tryz.func66, Tryz.ntmps66
  go_wp2
  go_loopw [12] (fun i wr => i = .int .i64 0 ∧ sat w0 wr (PinsB (w.heap.size + 2) w.heap.size (w.heap.size + 1) ++ R)) (fun _ _ => 0)
  case atStart => exact ⟨rfl, HA.out⟩
  case round =>
    obtain ⟨rfl, HS⟩ := hrel
    have HB := Lib.hid HS
    clear HS HA
    go_wp2
    go_ret
    exact ⟨_, _, _, rfl, HB.out⟩
theorem peekn_calls (n : Int) (R : List Asn) (w0 w : World) (H : sat w0 w R) :
    Calls Tryz.prog 69 #[.int .i64 n] w fun e w' => ∃ g : Nat, e = .returned (.pointer (some ⟨g, 0, none⟩)) ∧ sat w0 w' (blk g (.cells #[.slice none 0 0, .int .i64 (mx 0 (mn n 16384)), .int .i64 0, .bool false] 203) :: R) := by
  have HH := Lib.hid H
  clear H
  go_enter Tryz.func69, Tryz.ntmps69
  go_wp2
  go_ret
  exact ⟨_, rfl, HH.out.alloc _⟩
theorem sniffn_calls (n : Int) (R : List Asn) (w0 w : World) (H : sat w0 w R) :
    Calls Tryz.prog 56 #[.int .i64 n] w fun e w' => ∃ g : Nat, e = .returned (.pointer (some ⟨g, 0, none⟩)) ∧
      sat w0 w' (blk g (.cells #[.int .i64 (mx 1 (mn n 16384)), .nilIface, .int .i64 0, .int .i64 0, .int .i64 0, .int .i64 0, .string ⟨#[]⟩, .int .i64 0, .bool false, .string ⟨#[]⟩, .slice none 0 0, .slice none 0 0, .bool false] 171) :: R) := by
  have HH := Lib.hid H
  clear H
  go_enter Tryz.func56, Tryz.ntmps56
  go_wp2
  go_ret
  exact ⟨_, rfl, HH.out.alloc _⟩
set_option maxRecDepth 100000 in
theorem ringn_calls (n : Nat) (hn : 1 ≤ n ∧ n ≤ 65536) (R : List Asn) (w0 w : World) (H : sat w0 w R) :
    Calls Tryz.prog 70 #[.int .i64 n] w fun e w' => ∃ g b : Nat, e = .returned (.pointer (some ⟨g, 0, none⟩)) ∧
      sat w0 w' (blk g (.cells #[.slice (some ⟨b, 0, none⟩) n n, .int .i64 0, .int .i64 0] 205) :: Row (.slice (some ⟨b, 0, none⟩) n n) (List.replicate n 0) :: R) := by
  have HH := Lib.hid H
  clear H
  have d1 : mn (n : Int) 65536 = n := by rw [mn_eq]; omega
  have d2 : mx 0 (n : Int) = n := by rw [mx_eq]; omega
  go_enter Tryz.func70, Tryz.ntmps70
  go_wp2_with (at_make; refine BigFrame.wpList_want (by rfl) fun K' hK' => ?_; refine op_make_bytes (n := n) (c := n) (by rfl) Tryz.underlying42 info5 (by rfl) (by rfl) rfl (by omega) (by omega) HH.out ?_; intro b w1 H1; refine hK' _ _ ?_; clear hK' K'; have HA := Lib.hid H1; clear H1)
  go_ret
  exact ⟨_, b, rfl, HA.out.alloc (.cells #[.slice (some ⟨b, 0, none⟩) n n, .int .i64 0, .int .i64 0] 205)⟩
theorem httpn_calls (R : List Asn) (w0 w : World) (H : sat w0 w R) :
    Calls Tryz.prog 157 #[] w fun e w' => ∃ g : Nat, e = .returned (.pointer (some ⟨g, 0, none⟩)) ∧
      sat w0 w' (blk g (.cells #[.slice none 0 0, .bool false, .bool false, .string ⟨#[]⟩, .string ⟨#[]⟩, .int .i64 0, .slice none 0 0, .int .i64 0, .int .i64 2, .int .i64 0, .int .i64 0, .string ⟨#[]⟩, .int .i64 0, .bool false, .string ⟨#[]⟩, .slice none 0 0, .slice none 0 0, .bool false] 308) :: R) := by
  have HH := Lib.hid H
  clear H
  go_enter Tryz.func157, Tryz.ntmps157
  go_wp2
  go_ret
  exact ⟨_, rfl, HH.out.alloc _⟩
theorem proxyn_calls (relay t a : Int) (R : List Asn) (w0 w : World) (H : sat w0 w R) :
    Calls Tryz.prog 7 #[.agg #[.int .i64 16384, .int .i64 relay, .int .i64 1000, .int .i64 1000, .int .i64 1000], .agg #[.int .i64 t, .int .i64 a]] w fun e w' => ∃ g m n : Nat, e = .returned (.pointer (some ⟨g, 0, none⟩)) ∧
      sat w0 w' (blk g (.cells #[.int .i64 16384, .int .i64 relay, .int .i64 1000, .int .i64 1000, .int .i64 1000, .int .i64 (mx 0 (mn t 1000)), .int .i64 (mx 0 (mn a 1000)), .int .i64 0, .bool false, .map (some m), .map (some n), .slice none 0 0, .slice none 0 0] 91) :: blk m (.map #[] 0) :: blk n (.map #[] 0) :: R) := by
  have HH := Lib.hid H
  have hmm := @run_makeMap Tryz.prog
  clear H
  have h := ((((HH.out.alloc (.cells #[.int .i64 16384, .int .i64 relay, .int .i64 1000, .int .i64 1000, .int .i64 1000] 24)).alloc (.cells #[.int .i64 (mx 0 (mn t 1000)), .int .i64 (mx 0 (mn a 1000))] 29)).alloc (.map #[] 0)).alloc (.map #[] 0)).alloc (.cells #[.int .i64 16384, .int .i64 relay, .int .i64 1000, .int .i64 1000, .int .i64 1000, .int .i64 (mx 0 (mn t 1000)), .int .i64 (mx 0 (mn a 1000)), .int .i64 0, .bool false, .map (some (w.heap.size + 2)), .map (some (w.heap.size + 3)), .slice none 0 0, .slice none 0 0] 91)
  simp only [World.size_alloc, Nat.add_assoc, Nat.reduceAdd] at h
  have HB := Lib.hid h
  clear h
  go_enter Tryz.func7, Tryz.ntmps7
  go_wp2
  go_ret
  exact ⟨w.heap.size + 4, w.heap.size + 2, w.heap.size + 3, rfl, HB.out.re 5 [0, 2, 1] [3, 4] rfl⟩
end Go.Proofs.YtonipcfnhmnnlaaGreatDoor
namespace Go.Proofs.YtonipcfnhmnnlaaGreatDoor
open Go Go.RowKit Hg
set_option linter.unusedVariables false
set_option linter.unusedSimpArgs false
attribute [local go_sem] Lib.run_eql_slice_nil run_min2 run_max2 run_min_two run_max_two
/-- The one configuration, with whatever room. -/
def confV (relay : Int) : Value := .agg #[.int .i64 16384, .int .i64 relay, .int .i64 1000, .int .i64 1000, .int .i64 1000]
def confO (relay : Int) : Obj := .cells #[.int .i64 16384, .int .i64 relay, .int .i64 1000, .int .i64 1000, .int .i64 1000] 24
set_option maxHeartbeats 800000 in
set_option maxRecDepth 100000 in
theorem Clamp_calls (relay : Int) (hr : 1 ≤ relay ∧ relay ≤ 65536) (R : List Asn) (w0 w : World) (H : sat w0 w R) :
    Calls Tryz.prog 28 #[.agg #[.int .i64 16384, .int .i64 relay, .int .i64 1000, .int .i64 1000, .int .i64 1000]] w fun e w' => e = .returned (confV relay) ∧ sat w0 w' R := by
  have d1 : mx 1 (mn relay 65536) = relay := by rw [mx_eq, mn_eq]; omega
  have d2 : mx 1 (mn 16384 16384) = 16384 := by decide
  have d3 : mx 1 (mn 1000 1048576) = 1000 := by decide
  have HH := Lib.hid H
  clear H
  have h := (HH.out.alloc (confO relay)).alloc (.cells #[.int .i64 0, .int .i64 0, .int .i64 0, .int .i64 0, .int .i64 0] 24)
  simp only [World.size_alloc, Nat.add_assoc, Nat.reduceAdd] at h
  have HB := Lib.hid h.drew
  clear h
  generalize hR : (blk (w.heap.size + 1) _ :: blk w.heap.size _ :: R) = R2 at HB
  have k0 : ∀ x : SW w0 R2, x.w.cell? ⟨w.heap.size, 0, none⟩ = some (.int .i64 16384) := fun x => by subst hR; exact cellAt x.h.tail.get.1 0
  have k1 : ∀ x : SW w0 R2, x.w.cell? ⟨w.heap.size, 1, none⟩ = some (.int .i64 relay) := fun x => by subst hR; exact cellAt x.h.tail.get.1 1
  have k2 : ∀ x : SW w0 R2, x.w.cell? ⟨w.heap.size, 2, none⟩ = some (.int .i64 1000) := fun x => by subst hR; exact cellAt x.h.tail.get.1 2
  have k3 : ∀ x : SW w0 R2, x.w.cell? ⟨w.heap.size, 3, none⟩ = some (.int .i64 1000) := fun x => by subst hR; exact cellAt x.h.tail.get.1 3
  have k4 : ∀ x : SW w0 R2, x.w.cell? ⟨w.heap.size, 4, none⟩ = some (.int .i64 1000) := fun x => by subst hR; exact cellAt x.h.tail.get.1 4
  have c0 := k0 ⟨_, HB.out⟩
  have c1 := k1 ⟨_, HB.out⟩
  have c2 := k2 ⟨_, HB.out⟩
  have c3 := k3 ⟨_, HB.out⟩
  have c4 := k4 ⟨_, HB.out⟩
  dsimp only at c0 c1 c2 c3 c4
  have hnon : Nonempty (SW w0 R2) := ⟨⟨_, HB.out⟩⟩
  go_enter Tryz.func28, Tryz.ntmps28
  go_wp2
  refine wp_region_mix (fun u => ∃ x : SW w0 R2, u = x.w) [0, 1, 3, 4, 6, 7, 9, 10, 12, 13, 2, 5, 8, 11, 14, 15, 16] [3, 4, 6, 7, 9, 10, 12, 13] (by kernel_rfl) (by kernel_rfl) ⟨⟨_, HB.out⟩, rfl⟩ ?_
  repeat (first | ((first | refine mix_a rfl (by decide +kernel) rfl (fun K hK => ?_) | refine mix_q rfl (by decide +kernel) rfl (fun K hK => ?_)); go_big_quiet_op; refine hK _ ?_; clear hK K) | (refine mix_s rfl rfl (by decide +kernel) ?_; simp only [Act.put, List.setIfInBounds_toArray, List.set_cons_zero, List.set_cons_succ]))
  refine mix_lC rfl rfl rfl (fun K hK => ?_)
  refine op_call rfl Tryz.func58 (by kernel_rfl) (by kernel_rfl) (clamp_calls _ _ _ _) rfl ?_
  rintro r w9 ⟨rfl, rfl⟩
  refine ⟨_, rfl, hK _ _ ⟨⟨_, HB.out⟩, rfl⟩ ?_⟩
  clear hK K
  simp only [Act.put, List.setIfInBounds_toArray, List.set_cons_zero, List.set_cons_succ]
  refine mix_lC rfl rfl rfl (fun K hK => ?_)
  refine op_call rfl Tryz.func58 (by kernel_rfl) (by kernel_rfl) (clamp_calls _ _ _ _) rfl ?_
  rintro r w9 ⟨rfl, rfl⟩
  refine ⟨_, rfl, hK _ _ ⟨⟨_, HB.out⟩, rfl⟩ ?_⟩
  clear hK K
  simp only [Act.put, List.setIfInBounds_toArray, List.set_cons_zero, List.set_cons_succ]
  refine mix_lC rfl rfl rfl (fun K hK => ?_)
  refine op_call rfl Tryz.func58 (by kernel_rfl) (by kernel_rfl) (clamp_calls _ _ _ _) rfl ?_
  rintro r w9 ⟨rfl, rfl⟩
  refine ⟨_, rfl, hK _ _ ⟨⟨_, HB.out⟩, rfl⟩ ?_⟩
  clear hK K
  simp only [Act.put, List.setIfInBounds_toArray, List.set_cons_zero, List.set_cons_succ]
  refine mix_lC rfl rfl rfl (fun K hK => ?_)
  refine op_call rfl Tryz.func58 (by kernel_rfl) (by kernel_rfl) (clamp_calls _ _ _ _) rfl ?_
  rintro r w9 ⟨rfl, rfl⟩
  refine ⟨_, rfl, hK _ _ ⟨⟨_, HB.out⟩, rfl⟩ ?_⟩
  clear hK K
  simp only [Act.put, List.setIfInBounds_toArray, List.set_cons_zero, List.set_cons_succ]
  refine mix_lC rfl rfl rfl (fun K hK => ?_)
  refine op_call rfl Tryz.func58 (by kernel_rfl) (by kernel_rfl) (clamp_calls _ _ _ _) rfl ?_
  rintro r w9 ⟨rfl, rfl⟩
  refine ⟨_, rfl, hK _ _ ⟨⟨_, HB.out⟩, rfl⟩ ?_⟩
  clear hK K
  simp only [Act.put, List.setIfInBounds_toArray, List.set_cons_zero, List.set_cons_succ]
  repeat (first | ((first | refine mix_a rfl (by decide +kernel) rfl (fun K hK => ?_) | refine mix_q rfl (by decide +kernel) rfl (fun K hK => ?_)); go_big_quiet_op; refine hK _ ?_; clear hK K) | (refine mix_s rfl rfl (by decide +kernel) ?_; simp only [Act.put, List.setIfInBounds_toArray, List.set_cons_zero, List.set_cons_succ]))
  simp only [d1, d2, d3]
  refine mix_l rfl (by decide +kernel) rfl (fun K hK => ?_)
  refine op_store (vs := [.int .i64 16384, .int .i64 relay, .int .i64 1000, .int .i64 1000, .int .i64 1000]) rfl (by kernel_rfl) rfl rfl rfl (by simp [Value.oneCell']) (show sat w0 _ (blk (w.heap.size + 1) _ :: blk w.heap.size _ :: R) by subst hR; exact HB.out) (Nat.le_refl _) ?_
  clear HB
  intro w2 H2
  have hg := H2.get.1
  have HB := Lib.hid H2
  clear H2
  refine hK _ _ ?_; clear hK K; (try simp only [Act.put, List.setIfInBounds_toArray, List.set_cons_zero, List.set_cons_succ])
  refine mix_nil ?_
  go_wp2
  refine bodyPost_ret (results_cell_row rfl _ _ (w.heap.size + 1) 24 #[.int .i64 16384, .int .i64 relay, .int .i64 1000, .int .i64 1000, .int .i64 1000] (0, 0) _ rfl hg Tryz.underlying24 rfl (by kernel_rfl)) rfl ?_
  exact ⟨rfl, HB.out.tail.tail⟩
/-- A connection: its judge; how much it takes; when it is due, and its state; its sniffer, its bytes, its two ways; what was seen; what was decided. -/
def connA (j : Nat) (relay due st : Int) (s p u : Nat) (ue ut : Bool) (d : Nat) (de dt : Bool) (vs vp vu : Int) (vh : ByteArray) (al : Bool) (why rule : Int) : Array Value :=
  #[.pointer (some ⟨j, 0, none⟩), .int .i64 16384, .int .i64 relay, .int .i64 1000, .int .i64 1000, .int .i64 1000,
    .int .u8 0, .int .u8 0, .int .u8 0, .int .u8 0, .int .u8 0, .int .u8 0, .int .u8 0, .int .u8 0, .int .u8 0, .int .u8 0, .int .u8 0, .int .u8 0, .int .u8 0, .int .u8 0, .int .u8 0, .int .u8 0, .int .i64 80,
    .int .i64 0, .int .i64 0, .int .i64 due, .int .i64 st, .pointer (some ⟨s, 0, none⟩), .pointer (some ⟨p, 0, none⟩),
    .pointer (some ⟨u, 0, none⟩), .bool ue, .bool ut, .pointer (some ⟨d, 0, none⟩), .bool de, .bool dt,
    .int .i64 vs, .int .i64 vp, .int .i64 vu, .int .i64 0, .string vh, .int .i64 0, .bool false, .string ⟨#[]⟩, .slice none 0 0, .slice none 0 0, .bool false,
    .bool al, .int .i64 why, .int .i64 rule]
/-- A sniffer: what it asks, what it knows. -/
def sniffA (i : Value) (vs vp vu : Int) (vh : ByteArray) : Array Value :=
  #[.int .i64 16384, i, .int .i64 vs, .int .i64 vp, .int .i64 vu, .int .i64 0, .string vh, .int .i64 0, .bool false, .string ⟨#[]⟩, .slice none 0 0, .slice none 0 0, .bool false]
/-- A queue. -/
def ringA (b : Nat) (n : Nat) (f k : Int) : Array Value := #[.slice (some ⟨b, 0, none⟩) n n, .int .i64 f, .int .i64 k]
/-- A beginning. -/
def peekA (b : Value) (at_ : Int) : Array Value := #[b, .int .i64 16384, .int .i64 at_, .bool false]
/-- A place, by port. -/
def destA (port : Int) : Array Value := #[.int .u8 0, .int .u8 0, .int .u8 0, .int .u8 0, .int .u8 0, .int .u8 0, .int .u8 0, .int .u8 0, .int .u8 0, .int .u8 0, .int .u8 0, .int .u8 0, .int .u8 0, .int .u8 0, .int .u8 0, .int .u8 0, .int .i64 port]
set_option maxHeartbeats 800000 in
set_option maxRecDepth 100000 in
theorem connn_calls (j : Nat) (relay : Nat) (hr : 1 ≤ relay ∧ relay ≤ 65536) (R : List Asn) (w0 w : World) (H : sat w0 w R) :
    Calls Tryz.prog 35 #[.pointer (some ⟨j, 0, none⟩), confV relay, .agg (destA 80), .int .i64 0] w fun e w' => ∃ g s p u ub d db : Nat, e = .returned (.pointer (some ⟨g, 0, none⟩)) ∧
      sat w0 w' (blk g (.cells (connA j relay 1000 0 s p u false false d false false 0 0 0 ⟨#[]⟩ false 0 0) 138) :: blk s (.cells (sniffA .nilIface 0 0 0 ⟨#[]⟩) 171) :: blk p (.cells (peekA (.slice none 0 0) 0) 203) ::
        blk u (.cells (ringA ub relay 0 0) 205) :: Row (.slice (some ⟨ub, 0, none⟩) relay relay) (List.replicate relay 0) :: blk d (.cells (ringA db relay 0 0) 205) :: Row (.slice (some ⟨db, 0, none⟩) relay relay) (List.replicate relay 0) :: R) := by
  have HH := Lib.hid H
  clear H
  have d1 : mx 0 (mn 0 1099511627776) = 0 := by decide
  have h := (HH.out.alloc (confO relay)).alloc (.cells (destA 80) 40)
  simp only [World.size_alloc, Nat.add_assoc, Nat.reduceAdd] at h
  have HB := Lib.hid h
  clear h
  unfold destA at HB
  unfold confV destA
  go_enter Tryz.func35, Tryz.ntmps35
  go_wp2_with (first | (go_at_call 28; refine (Clamp_calls relay (by omega) _ w0 _ HB.out).mono ?_; rintro e w1 ⟨rfl, H1⟩; unfold confV; have HA := Lib.hid H1; clear H1 HB) | (go_at_call 58; refine (clamp_calls _ _ _ _).mono ?_; rintro e w9 ⟨rfl, rfl⟩) | (refine BigFrame.wpList_want (by rfl) fun K' hK' => ?_; refine op_store (T := 24) (vs := [.int .i64 16384, .int .i64 relay, .int .i64 1000, .int .i64 1000, .int .i64 1000]) rfl (by kernel_rfl) rfl rfl rfl (by simp [Value.oneCell']) HA.out.swap (Nat.le_refl _) ?_; clear HA; intro w2 H2; refine hK' _ _ ?_; clear hK' K'; have HA := Lib.hid (show sat w0 w2 (blk w.heap.size (confO relay) :: blk (w.heap.size + 1) (.cells (destA 80) 40) :: R) from H2); clear H2))
  generalize hg : w.heap.size = g at HA
  clear hg
  have HD := Lib.hid HA.out.drew
  clear HA
  generalize hR : (blk g (confO relay) :: blk (g + 1) (.cells (destA 80) 40) :: R) = R2 at HD
  have k0 : ∀ x : SW w0 R2, x.w.cell? ⟨g, 0, none⟩ = some (.int .i64 16384) := fun x => by subst hR; exact cellAt x.h.get.1 0
  have k1 : ∀ x : SW w0 R2, x.w.cell? ⟨g, 1, none⟩ = some (.int .i64 relay) := fun x => by subst hR; exact cellAt x.h.get.1 1
  have k2 : ∀ x : SW w0 R2, x.w.cell? ⟨g, 2, none⟩ = some (.int .i64 1000) := fun x => by subst hR; exact cellAt x.h.get.1 2
  have k3 : ∀ x : SW w0 R2, x.w.cell? ⟨g, 3, none⟩ = some (.int .i64 1000) := fun x => by subst hR; exact cellAt x.h.get.1 3
  have k4 : ∀ x : SW w0 R2, x.w.cell? ⟨g, 4, none⟩ = some (.int .i64 1000) := fun x => by subst hR; exact cellAt x.h.get.1 4
  have q0 : ∀ x : SW w0 R2, x.w.cell? ⟨g + 1, 0, none⟩ = some (.int .u8 0) := fun x => by subst hR; exact cellAt x.h.tail.get.1 0
  have q1 : ∀ x : SW w0 R2, x.w.cell? ⟨g + 1, 1, none⟩ = some (.int .u8 0) := fun x => by subst hR; exact cellAt x.h.tail.get.1 1
  have q2 : ∀ x : SW w0 R2, x.w.cell? ⟨g + 1, 2, none⟩ = some (.int .u8 0) := fun x => by subst hR; exact cellAt x.h.tail.get.1 2
  have q3 : ∀ x : SW w0 R2, x.w.cell? ⟨g + 1, 3, none⟩ = some (.int .u8 0) := fun x => by subst hR; exact cellAt x.h.tail.get.1 3
  have q4 : ∀ x : SW w0 R2, x.w.cell? ⟨g + 1, 4, none⟩ = some (.int .u8 0) := fun x => by subst hR; exact cellAt x.h.tail.get.1 4
  have q5 : ∀ x : SW w0 R2, x.w.cell? ⟨g + 1, 5, none⟩ = some (.int .u8 0) := fun x => by subst hR; exact cellAt x.h.tail.get.1 5
  have q6 : ∀ x : SW w0 R2, x.w.cell? ⟨g + 1, 6, none⟩ = some (.int .u8 0) := fun x => by subst hR; exact cellAt x.h.tail.get.1 6
  have q7 : ∀ x : SW w0 R2, x.w.cell? ⟨g + 1, 7, none⟩ = some (.int .u8 0) := fun x => by subst hR; exact cellAt x.h.tail.get.1 7
  have q8 : ∀ x : SW w0 R2, x.w.cell? ⟨g + 1, 8, none⟩ = some (.int .u8 0) := fun x => by subst hR; exact cellAt x.h.tail.get.1 8
  have q9 : ∀ x : SW w0 R2, x.w.cell? ⟨g + 1, 9, none⟩ = some (.int .u8 0) := fun x => by subst hR; exact cellAt x.h.tail.get.1 9
  have q10 : ∀ x : SW w0 R2, x.w.cell? ⟨g + 1, 10, none⟩ = some (.int .u8 0) := fun x => by subst hR; exact cellAt x.h.tail.get.1 10
  have q11 : ∀ x : SW w0 R2, x.w.cell? ⟨g + 1, 11, none⟩ = some (.int .u8 0) := fun x => by subst hR; exact cellAt x.h.tail.get.1 11
  have q12 : ∀ x : SW w0 R2, x.w.cell? ⟨g + 1, 12, none⟩ = some (.int .u8 0) := fun x => by subst hR; exact cellAt x.h.tail.get.1 12
  have q13 : ∀ x : SW w0 R2, x.w.cell? ⟨g + 1, 13, none⟩ = some (.int .u8 0) := fun x => by subst hR; exact cellAt x.h.tail.get.1 13
  have q14 : ∀ x : SW w0 R2, x.w.cell? ⟨g + 1, 14, none⟩ = some (.int .u8 0) := fun x => by subst hR; exact cellAt x.h.tail.get.1 14
  have q15 : ∀ x : SW w0 R2, x.w.cell? ⟨g + 1, 15, none⟩ = some (.int .u8 0) := fun x => by subst hR; exact cellAt x.h.tail.get.1 15
  have q16 : ∀ x : SW w0 R2, x.w.cell? ⟨g + 1, 16, none⟩ = some (.int .i64 80) := fun x => by subst hR; exact cellAt x.h.tail.get.1 16
  have hnon : Nonempty (SW w0 R2) := ⟨⟨_, HD.out⟩⟩
  refine wp_region_mix (fun u => ∃ x : SW w0 R2, u = x.w) [0, 1, 2, 3, 4, 5, 6, 7, 8, 9, 10, 12, 13, 15, 16, 19, 20, 11, 14, 17, 18, 21, 22, 23, 24, 25] [0, 1, 2, 3, 4, 5, 6, 7, 8, 12, 13, 15, 16, 19, 20, 18] (by kernel_rfl) (by kernel_rfl) ⟨⟨_, HD.out⟩, rfl⟩ ?_
  have c0 := k0 ⟨_, HD.out⟩
  dsimp only at c0
  repeat (first | ((first | refine mix_a rfl (by decide +kernel) rfl (fun K hK => ?_) | refine mix_q rfl (by decide +kernel) rfl (fun K hK => ?_)); go_big_quiet_op; refine hK _ ?_; clear hK K) | (refine mix_s rfl rfl (by decide +kernel) ?_; simp only [Act.put, List.setIfInBounds_toArray, List.set_cons_zero, List.set_cons_succ]))
  clear c0 k0 k1 k2 k3 k4 q0 q1 q2 q3 q4 q5 q6 q7 q8 q9 q10 q11 q12 q13 q14 q15 q16
  refine mix_lC rfl rfl rfl (fun K hK => ?_)
  refine op_call rfl Tryz.func56 (by kernel_rfl) (by kernel_rfl) (sniffn_calls 16384 R2 w0 _ HD.out) rfl ?_
  clear HD
  rintro r w3 ⟨s, rfl, H3⟩
  refine ⟨_, rfl, hK _ _ ⟨⟨_, H3.tail⟩, rfl⟩ ?_⟩
  clear hK K
  simp only [Act.put, List.setIfInBounds_toArray, List.set_cons_zero, List.set_cons_succ]
  refine mix_lC rfl rfl rfl (fun K hK => ?_)
  refine op_call rfl Tryz.func69 (by kernel_rfl) (by kernel_rfl) (peekn_calls 16384 _ w0 _ H3) rfl ?_
  clear H3
  rintro r w4 ⟨p, rfl, H4⟩
  refine ⟨_, rfl, hK _ _ ⟨⟨_, H4.tail.tail⟩, rfl⟩ ?_⟩
  clear hK K
  simp only [Act.put, List.setIfInBounds_toArray, List.set_cons_zero, List.set_cons_succ]
  refine mix_lC rfl rfl rfl (fun K hK => ?_)
  refine op_call rfl Tryz.func70 (by kernel_rfl) (by kernel_rfl) (ringn_calls relay hr _ w0 _ H4) rfl ?_
  clear H4
  rintro r w5 ⟨u, ub, rfl, H5⟩
  refine ⟨_, rfl, hK _ _ ⟨⟨_, H5.tail.tail.tail.tail⟩, rfl⟩ ?_⟩
  clear hK K
  simp only [Act.put, List.setIfInBounds_toArray, List.set_cons_zero, List.set_cons_succ]
  repeat (first | ((first | refine mix_a rfl (by decide +kernel) rfl (fun K hK => ?_) | refine mix_q rfl (by decide +kernel) rfl (fun K hK => ?_)); go_big_quiet_op; refine hK _ ?_; clear hK K) | (refine mix_s rfl rfl (by decide +kernel) ?_; simp only [Act.put, List.setIfInBounds_toArray, List.set_cons_zero, List.set_cons_succ]))
  refine mix_lC rfl rfl rfl (fun K hK => ?_)
  refine op_call rfl Tryz.func70 (by kernel_rfl) (by kernel_rfl) (ringn_calls relay hr _ w0 _ H5) rfl ?_
  clear H5
  rintro r w6 ⟨d, db, rfl, H6⟩
  refine ⟨_, rfl, hK _ _ ⟨⟨_, H6.tail.tail.tail.tail.tail.tail⟩, rfl⟩ ?_⟩
  clear hK K
  simp only [Act.put, List.setIfInBounds_toArray, List.set_cons_zero, List.set_cons_succ]
  repeat (first | ((first | refine mix_a rfl (by decide +kernel) rfl (fun K hK => ?_) | refine mix_q rfl (by decide +kernel) rfl (fun K hK => ?_)); go_big_quiet_op; refine hK _ ?_; clear hK K) | (refine mix_s rfl rfl (by decide +kernel) ?_; simp only [Act.put, List.setIfInBounds_toArray, List.set_cons_zero, List.set_cons_succ]))
  refine mix_l rfl (by decide +kernel) rfl (fun K hK => ?_)
  refine op_box (T := 138) rfl rfl rfl H6 ?_
  clear H6
  intro gc w7 H7
  refine hK _ _ ?_; clear hK K; (try simp only [Act.put, List.setIfInBounds_toArray, List.set_cons_zero, List.set_cons_succ])
  repeat (first | ((first | refine mix_a rfl (by decide +kernel) rfl (fun K hK => ?_) | refine mix_q rfl (by decide +kernel) rfl (fun K hK => ?_)); go_big_quiet_op; refine hK _ ?_; clear hK K) | (refine mix_s rfl rfl (by decide +kernel) ?_; simp only [Act.put, List.setIfInBounds_toArray, List.set_cons_zero, List.set_cons_succ]))
  refine mix_nil ?_
  subst hR
  have HE := Lib.hid H7
  clear H7
  go_wp2
  go_ret
  exact ⟨gc, s, p, u, ub, d, db, rfl, (HE.out.re 9 [0, 6, 5, 3, 4, 1, 2] [7, 8] rfl)⟩
end Go.Proofs.YtonipcfnhmnnlaaGreatDoor
namespace Go.Proofs.YtonipcfnhmnnlaaGreatDoor
open Go Go.RowKit Hg
set_option linter.unusedVariables false
set_option linter.unusedSimpArgs false
attribute [local go_sem] Lib.run_eql_slice_nil run_min2 run_max2 run_min_two run_max_two
def PB (g : Nat) (v : Value) (most at_ : Int) (over : Bool) : Asn := blk g (.cells #[v, .int .i64 most, .int .i64 at_, .bool over] 203)
set_option maxHeartbeats 400000 in
set_option maxRecDepth 100000 in
theorem padd_calls (g : Nat) (v : Value) (l : List UInt8) (mo : Nat) (at_ : Int) (over : Bool) (s : Value) (m : List UInt8) (R : List Asn) (w0 w : World)
    (H : sat w0 w (PB g v mo at_ over :: Row v l :: R)) (hs : Rd w0 R s m) (h1 : mo ≤ 16384) (hl : l.length ≤ mo) (hm : m.length ≤ 140737488351232) :
    Calls Tryz.prog 114 #[.pointer (some ⟨g, 0, none⟩), s] w fun e w' => ∃ v' : Value, e = .returned (.int .i64 (min m.length (mo - l.length) : Nat)) ∧ sat w0 w' (PB g v' mo at_ (over || decide (mo - l.length < m.length)) :: Row v' (l ++ m.take (mo - l.length)) :: R) := by
  obtain ⟨a, c, rfl, hc1, hc2⟩ := Row.form H.tail
  obtain ⟨b, d, rfl, hd1, hd2⟩ := Reads.form (hs w H.tail.tail)
  obtain ⟨j, hj, hjm⟩ : ∃ j : Nat, mn m.length (mo - l.length) = j ∧ j = min m.length (mo - l.length) := ⟨min m.length (mo - l.length), by rw [mn_eq]; omega, rfl⟩
  rw [← hjm]
  have hb := H.get.1
  have c0 := cellAt hb 0
  have c1 := cellAt hb 1
  simp at c0 c1
  clear hb
  have HH := Lib.hid H
  have HS := Lib.hid hs
  have HJ := Lib.hid hjm
  clear H hs
  unfold maxLen at hc2 hd2
  have hjl : j ≤ m.length := by omega
  clear hjm
  by_cases hc : j < m.length
  all_goals
    go_enter Tryz.func114, Tryz.ntmps114
    go_wp2
    go_quiet (fail)
    go_wp2
    refine wp_region_mix (fun u => ∃ x : World, u = x) [0, 1, 2, 3, 4, 5, 6, 7, 8, 9, 10, 11] [0] (by kernel_rfl) (by kernel_rfl) ⟨_, rfl⟩ ?_
    repeat (first | ((first | refine mix_a rfl (by decide +kernel) rfl (fun K hK => ?_) | refine mix_q rfl (by decide +kernel) rfl (fun K hK => ?_)); go_big_quiet_op; refine hK _ ?_; clear hK K) | (refine mix_s rfl rfl (by decide +kernel) ?_; simp only [Act.put, List.setIfInBounds_toArray, List.set_cons_zero, List.set_cons_succ]))
    refine mix_lC rfl rfl rfl (fun K hK => ?_)
    have H1 := (HH.out.swap.drewN nq).drew
    have hr := HS.out _ H1.tail.tail
    have hj2 := HJ.out
    refine op_append_bytes (m := m.take (mo - l.length)) rfl Tryz.underlying42 info5 rfl rfl H1 (hr.takeAs (by omega)) (by simp only [List.length_take]; omega) ?_
    clear H1 hr hj2
    intro v' w1 H1 _
    obtain ⟨a', c', rfl, _, _⟩ := Row.form H1
    refine hK _ _ ⟨_, rfl⟩ ?_
    clear hK K
    simp only [Act.put, List.setIfInBounds_toArray, List.set_cons_zero, List.set_cons_succ]
    repeat (first | ((first | refine mix_a rfl (by decide +kernel) rfl (fun K hK => ?_) | refine mix_q rfl (by decide +kernel) rfl (fun K hK => ?_)); go_big_quiet_op; refine hK _ ?_; clear hK K) | (refine mix_s rfl rfl (by decide +kernel) ?_; simp only [Act.put, List.setIfInBounds_toArray, List.set_cons_zero, List.set_cons_succ]))
    refine mix_l rfl (by decide +kernel) rfl (fun K hK => ?_)
    refine op_store1 (.slice a' _ c') rfl (by kernel_rfl) rfl rfl rfl rfl H1.swap (by simp) ?_
    clear H1
    intro w2 H2
    refine hK _ _ ?_; clear hK K; (try simp only [Act.put, List.setIfInBounds_toArray, List.set_cons_zero, List.set_cons_succ])
    refine mix_nil ?_
    have HB := Lib.hid H2
    have c3 : w2.cell? ⟨g, 3, none⟩ = some (.bool over) := cellAt H2.get.1 3
    have f3 := frozenAt H2.get.1 3
    clear H2
    go_wp2
    go_ret
    have hj2 := HJ.out
  · refine ⟨.slice a' (l ++ m.take (mo - l.length)).length c', rfl, ?_⟩
    rw [show (over || decide (mo - l.length < m.length)) = true by rw [decide_eq_true (by omega), Bool.or_true]]
    exact HB.out.store (.bool true)
  · refine ⟨.slice a' (l ++ m.take (mo - l.length)).length c', rfl, ?_⟩
    rw [show (over || decide (mo - l.length < m.length)) = over by rw [decide_eq_false (by omega), Bool.or_false]]
    exact HB.out

set_option maxHeartbeats 400000 in
set_option maxRecDepth 100000 in
theorem clone_calls (s : Value) (l : List UInt8) (R : List Asn) (w0 w : World) (H : sat w0 w R) (hs : Rd w0 R s l) (hl : l.length ≤ 140737488351232) :
    Calls Tryz.prog 116 #[s] w fun e w' => ∃ v' : Value, e = .returned v' ∧ sat w0 w' (Row v' l :: R) := by
  rcases (hs w H).cases with ⟨rfl, rfl⟩ | ⟨ad, cap, rfl, h1, h2, h3⟩
  · have HH := Lib.hid H
    clear H hs
    go_enter Tryz.func116, Tryz.ntmps116
    go_wp2
    go_ret
    exact ⟨_, rfl, Row.nil HH.out⟩
  · have HH := Lib.hid H
    have HS := Lib.hid hs
    clear H hs h3
    go_enter Tryz.func116, Tryz.ntmps116
    go_wp2_with (at_builtin; refine wp_append_bytes (l := []) rfl rfl Tryz.underlying42 info5 rfl rfl (RowC.of_blk (cap := 0) (HH.out.alloc (.cells #[] 5)) 0 [] rfl (Nat.le_refl _) (Nat.zero_le _) rfl rfl) (HS.out _ (HH.out.alloc _).tail) (by simp; omega) ?_; intro v' w1 H1 _)
    go_ret
    exact ⟨_, rfl, H1⟩

set_option maxHeartbeats 400000 in
set_option maxRecDepth 100000 in
theorem pnext_calls (g : Nat) (v : Value) (l : List UInt8) (mo : Int) (at_ : Nat) (over : Bool) (n : Int) (R : List Asn) (w0 w : World)
    (H : sat w0 w (PB g v mo at_ over :: Row v l :: R)) (hat : at_ ≤ l.length) (hl : l.length ≤ 16384) :
    Calls Tryz.prog 78 #[.pointer (some ⟨g, 0, none⟩), .int .i64 n] w fun e w' => ∃ v' : Value, e = .returned v' ∧ sat w0 w' (Row v' ((l.drop at_).take n.toNat) :: PB g v mo (at_ + ((l.drop at_).take n.toNat).length : Nat) over :: Row v l :: R) := by
  obtain ⟨r, hr⟩ : ∃ r, l.length = at_ + r := ⟨l.length - at_, by omega⟩
  obtain ⟨d, hd⟩ : ∃ d, d = (l.drop at_).take n.toNat := ⟨_, rfl⟩
  have hdl : d.length = min n.toNat r := by rw [hd, List.length_take, List.length_drop]; omega
  have hj : mx 0 (mn n r) = (d.length : Int) := by rw [mx_eq, mn_eq]; omega
  have hjr : d.length ≤ r := by omega
  have HD := Lib.hid (And.intro hd hdl)
  rw [← hd]
  clear hd hdl
  have key : (v = .slice none 0 0 ∧ at_ = 0 ∧ r = 0) ∨ ∃ b c, v = .slice (some ⟨b, 0, none⟩) (at_ + r) c ∧ at_ + r ≤ c ∧ c ≤ maxLen := by
    rcases (RowC.blk_of H.tail).2 with ⟨rfl, h0, _⟩ | ⟨b, c, cur, rfl, h1, h2, _⟩
    · exact .inl ⟨rfl, by omega, by omega⟩
    · exact .inr ⟨b, c, by rw [hr], by omega, h2⟩
  have hb := H.get.1
  have c0 := cellAt hb 0
  have c2 := cellAt hb 2
  simp at c0 c2
  clear hb
  have hrd : Rd w0 (PB g v mo at_ over :: Row v l :: R) v l := Rd.row.weak
  have HH := Lib.hid H
  have HR := Lib.hid hr
  clear H hr
  rcases key with ⟨rfl, rfl, rfl⟩ | ⟨b, c, rfl, hc1, hc2⟩
  · obtain rfl : d = [] := List.eq_nil_of_length_eq_zero (by omega)
    have hj' : mx 0 (mn n 0) = 0 := hj
    have HC : Hid (Rd w0 (PB g (.slice none 0 0) mo 0 over :: Row (.slice none 0 0) l :: R) (.slice none 0 0) []) := Lib.hid (Rd.old ⟨rfl, .inl ⟨rfl, rfl⟩⟩)
    clear hj hrd
    go_enter Tryz.func78, Tryz.ntmps78
    go_wp2
    go_quiet (fail)
    go_wp2_with (go_at_call 116; refine (clone_calls _ _ _ w0 _ (HH.out.drewN _) HC.out (by simp)).mono ?_; rintro e w1 ⟨v', rfl, H1⟩; have c2 : w1.cell? ⟨g, 2, none⟩ = some (.int .i64 0) := cellAt H1.tail.get.1 2; have f2 := frozenAt H1.tail.get.1 2; obtain ⟨a', c', rfl, hx1, hx2⟩ := Row.form H1; have HB := Lib.hid H1; clear H1)
    go_ret
    exact ⟨.slice a' 0 c', rfl, (HB.out.swap.store _).swap⟩
  · unfold maxLen at hc2
    by_cases hcap : c = at_
    · have HC : Hid (Rd w0 (PB g (.slice (some ⟨b, 0, none⟩) (at_ + r) c) mo at_ over :: Row (.slice (some ⟨b, 0, none⟩) (at_ + r) c) l :: R) (.slice (some ⟨b, 0, none⟩) d.length 0) d) := Lib.hid fun w' hw' => by
        have h0 : d.length = 0 := by omega
        have := (hrd w' hw').dropAll (n := l.length) (a' := some ⟨b, 0, none⟩) (c' := 0) (Nat.le_refl _) ⟨rfl, rfl, by unfold maxLen; omega⟩
        rw [List.drop_eq_nil_of_le (Nat.le_refl _)] at this
        rw [h0, List.eq_nil_of_length_eq_zero h0]; exact this
      clear hrd
      go_enter Tryz.func78, Tryz.ntmps78
      go_wp2
      go_quiet (fail)
      go_wp2_with (go_at_call 116; refine (clone_calls _ _ _ w0 _ (HH.out.drewN _) HC.out (by have := HR.out; omega)).mono ?_; rintro e w1 ⟨v', rfl, H1⟩; have c2 : w1.cell? ⟨g, 2, none⟩ = some (.int .i64 at_) := cellAt H1.tail.get.1 2; have f2 := frozenAt H1.tail.get.1 2; obtain ⟨a', c', rfl, hx1, hx2⟩ := Row.form H1; have HB := Lib.hid H1; clear H1)
      go_ret
      exact ⟨.slice a' d.length c', rfl, (HB.out.swap.store _).swap⟩
    · have HC : Hid (Rd w0 (PB g (.slice (some ⟨b, 0, none⟩) (at_ + r) c) mo at_ over :: Row (.slice (some ⟨b, 0, none⟩) (at_ + r) c) l :: R) (.slice (some ⟨b, at_, none⟩) d.length (c - at_)) d) := Lib.hid fun w' hw' => by
        have h1 := (hrd w' hw').drop at_ HR.out
        rw [Nat.zero_add] at h1
        have h2 := h1.takeAs (n := n.toNat) (N := d.length) (by rw [List.length_drop, HR.out, HD.out.2]; omega)
        rw [← HD.out.1] at h2
        exact h2
      clear hrd
      go_enter Tryz.func78, Tryz.ntmps78
      go_wp2
      go_quiet (fail)
      go_wp2_with (go_at_call 116; refine (clone_calls _ _ _ w0 _ (HH.out.drewN _) HC.out (by have := HR.out; omega)).mono ?_; rintro e w1 ⟨v', rfl, H1⟩; have c2 : w1.cell? ⟨g, 2, none⟩ = some (.int .i64 at_) := cellAt H1.tail.get.1 2; have f2 := frozenAt H1.tail.get.1 2; obtain ⟨a', c', rfl, hx1, hx2⟩ := Row.form H1; have HB := Lib.hid H1; clear H1)
      go_ret
      exact ⟨.slice a' d.length c', rfl, (HB.out.swap.store _).swap⟩
theorem pleft_calls (g : Nat) (a : Option Addr) (n c : Nat) (mo : Int) (at_ : Nat) (over : Bool) (w : World) (h : w.heap[g]? = some (.cells #[.slice a n c, .int .i64 mo, .int .i64 at_, .bool over] 203)) (hat : at_ ≤ n) (hn : n ≤ 140737488351232) :
    Calls Tryz.prog 81 #[.pointer (some ⟨g, 0, none⟩)] w fun e w' => e = .returned (.int .i64 ((n - at_ : Nat) : Int)) ∧ ∃ m, w' = w.drewN m := by
  have c0 : w.cell? ⟨g, 0, none⟩ = some (.slice a n c) := cellAt h 0
  have c2 : w.cell? ⟨g, 2, none⟩ = some (.int .i64 at_) := cellAt h 2
  clear h
  go_enter Tryz.func81, Tryz.ntmps81
  go_wp2
  go_quiet (fail)
  go_wp2
  go_ret
  exact ⟨ret_int (by omega), _, rfl⟩
end Go.Proofs.YtonipcfnhmnnlaaGreatDoor
namespace Go.Proofs.YtonipcfnhmnnlaaGreatDoor
open Go Go.RowKit Hg
set_option linter.unusedVariables false
set_option linter.unusedSimpArgs false
theorem modc {x N : Nat} (h : x < 2 * N) : x % N = if x < N then x else x - N := by
  split
  · exact Nat.mod_eq_of_lt ‹_›
  · rw [Nat.mod_eq_sub_mod (by omega)]; exact Nat.mod_eq_of_lt (by omega)
theorem list_ext {l m : List UInt8} (h1 : l.length = m.length) (h2 : ∀ i, i < l.length → l.getD i 0 = m.getD i 0) : l = m := by
  apply List.ext_getElem h1
  intro i ha hb
  have := h2 i ha
  simpa [List.getD_eq_getElem?_getD, List.getElem?_eq_getElem ha, List.getElem?_eq_getElem hb] using this
theorem take_getD {l : List UInt8} {n i : Nat} : (l.take n).getD i 0 = if i < n then l.getD i 0 else 0 := by
  simp only [List.getD_eq_getElem?_getD, List.getElem?_take]; split <;> rfl
theorem drop_getD' {l : List UInt8} {n i : Nat} : (l.drop n).getD i 0 = l.getD (n + i) 0 := by
  simp only [List.getD_eq_getElem?_getD, List.getElem?_drop]
theorem append_getD {l m : List UInt8} {i : Nat} : (l ++ m).getD i 0 = if i < l.length then l.getD i 0 else m.getD (i - l.length) 0 := by
  simp only [List.getD_eq_getElem?_getD]
  split
  · rw [List.getElem?_append_left ‹_›]
  · rw [List.getElem?_append_right (by omega)]
/-- The bytes of a queue lie so. -/
def RH (B : List UInt8) (f : Nat) (L : List UInt8) : Prop := f < B.length ∧ L.length ≤ B.length ∧ ∀ i, i < L.length → L.getD i 0 = B.getD ((f + i) % B.length) 0
theorem RH.push {B : List UInt8} {f : Nat} {L s : List UInt8} (h : RH B f L) (hs : L.length + s.length ≤ B.length) {at_ k1 : Nat} (hat : at_ = (f + L.length) % B.length) (hk : k1 = min s.length (B.length - at_)) :
    RH (over (over B at_ (s.take k1)) 0 (s.drop k1)) f (L ++ s) := by
  obtain ⟨h1, h2, h3⟩ := h
  rw [modc (by omega)] at hat
  have hk1 : (s.take k1).length = k1 := by simp; omega
  have hk2 : (s.drop k1).length = s.length - k1 := by simp
  have hfit1 : at_ + (s.take k1).length ≤ B.length := by rw [hk1]; split at hat <;> omega
  have hl1 : (over B at_ (s.take k1)).length = B.length := over_length hfit1
  have hfit2 : 0 + (s.drop k1).length ≤ (over B at_ (s.take k1)).length := by rw [hl1, hk2]; split at hat <;> omega
  refine ⟨by rw [over_length hfit2, hl1]; exact h1, by rw [over_length hfit2, hl1, List.length_append]; exact hs, fun i hi => ?_⟩
  rw [List.length_append] at hi
  rw [over_length hfit2, hl1, over_getD hfit2, over_getD hfit1, hk1, hk2, modc (by omega), append_getD]
  by_cases hL : i < L.length
  · rw [if_pos hL, h3 i hL, modc (by omega)]
    split at hat <;> split <;> (rw [if_neg (by omega), if_neg (by omega)])
  · rw [if_neg hL]
    split at hat
    · split
      · by_cases h0 : i - L.length < k1
        · rw [if_neg (by omega), if_pos (by omega), take_getD, if_pos (by omega)]
          congr 1; omega
        · omega
      · rw [if_pos (by omega), drop_getD']
        congr 1; omega
    · rw [if_neg (show ¬ f + i < B.length by omega), if_neg (by omega), if_pos (by omega), take_getD, if_pos (by omega)]
      congr 1; omega
theorem RH.see {B : List UInt8} {f : Nat} {L : List UInt8} (h : RH B f L) {j k1 : Nat} (hj : j ≤ L.length) (hk : k1 = min j (B.length - f)) {z : List UInt8} (hz : z.length = j) :
    over (over z 0 ((B.drop f).take k1)) k1 (B.take (j - k1)) = L.take j := by
  obtain ⟨h1, h2, h3⟩ := h
  have hk1 : ((B.drop f).take k1).length = k1 := by simp; omega
  have hk2 : (B.take (j - k1)).length = j - k1 := by simp; omega
  have hfit1 : 0 + ((B.drop f).take k1).length ≤ z.length := by rw [hk1]; omega
  have hl1 := over_length hfit1
  have hfit2 : k1 + (B.take (j - k1)).length ≤ (over z 0 ((B.drop f).take k1)).length := by rw [hl1, hk2]; omega
  refine list_ext (by rw [over_length hfit2, hl1, List.length_take]; omega) fun i hi => ?_
  rw [over_length hfit2, hl1, hz] at hi
  have hR : (L.take j).getD i 0 = B.getD (if f + i < B.length then f + i else f + i - B.length) 0 := by rw [take_getD, if_pos hi, h3 i (by omega), modc (by omega)]
  rw [hR, over_getD hfit2, over_getD hfit1, hk1, hk2]
  by_cases h0 : i < k1
  · rw [if_neg (by omega), if_pos (by omega), take_getD, if_pos (by omega), drop_getD', if_pos (by omega)]
    rfl
  · rw [if_pos (by omega), take_getD, if_pos (by omega), if_neg (show ¬ f + i < B.length by omega)]
    congr 1; omega
theorem RH.pop {B : List UInt8} {f : Nat} {L : List UInt8} (h : RH B f L) {j : Nat} (hj : j ≤ L.length) : RH B ((f + j) % B.length) (L.drop j) := by
  obtain ⟨h1, h2, h3⟩ := h
  refine ⟨Nat.mod_lt _ (by omega), by simp; omega, fun i hi => ?_⟩
  rw [List.length_drop] at hi
  rw [drop_getD', h3 _ (by omega), Nat.mod_add_mod, Nat.add_assoc]
theorem RH.new {N : Nat} (h : 1 ≤ N) : RH (List.replicate N 0) 0 [] := ⟨by rw [List.length_replicate]; omega, by simp, fun i hi => by simp at hi⟩
theorem RH.len {B s : List UInt8} {at_ k1 : Nat} (hs : s.length ≤ B.length) (hat : at_ < B.length) (hk : k1 = min s.length (B.length - at_)) : (over (over B at_ (s.take k1)) 0 (s.drop k1)).length = B.length := by
  have h1 : (over B at_ (s.take k1)).length = B.length := over_length (by simp; omega)
  rw [over_length (by rw [h1]; simp; omega), h1]
end Go.Proofs.YtonipcfnhmnnlaaGreatDoor
namespace Go.Proofs.YtonipcfnhmnnlaaGreatDoor
open Go Go.RowKit Hg
set_option linter.unusedVariables false
set_option linter.unusedSimpArgs false
attribute [local go_sem] Lib.run_eql_slice_nil run_min2 run_max2 run_min_two run_max_two
def RG (g b N : Nat) (f k : Int) : Asn := blk g (.cells #[.slice (some ⟨b, 0, none⟩) N N, .int .i64 f, .int .i64 k] 205)
theorem rlen_calls (g b N : Nat) (f k : Int) (w : World) (h : w.heap[g]? = some (.cells #[.slice (some ⟨b, 0, none⟩) N N, .int .i64 f, .int .i64 k] 205)) :
    Calls Tryz.prog 82 #[.pointer (some ⟨g, 0, none⟩)] w fun e w' => e = .returned (.int .i64 k) ∧ w' = w := by
  have c2 : w.cell? ⟨g, 2, none⟩ = some (.int .i64 k) := cellAt h 2
  clear h
  go_enter Tryz.func82, Tryz.ntmps82
  go_wp2
  go_ret
  exact ⟨rfl, rfl⟩
theorem rfree_calls (g b N k : Nat) (f : Int) (hk : k ≤ N) (hN : N ≤ 65536) (w : World) (h : w.heap[g]? = some (.cells #[.slice (some ⟨b, 0, none⟩) N N, .int .i64 f, .int .i64 k] 205)) :
    Calls Tryz.prog 147 #[.pointer (some ⟨g, 0, none⟩)] w fun e w' => e = .returned (.int .i64 ((N - k : Nat) : Int)) ∧ ∃ m, w' = w.drewN m := by
  have c0 : w.cell? ⟨g, 0, none⟩ = some (.slice (some ⟨b, 0, none⟩) N N) := cellAt h 0
  have c2 : w.cell? ⟨g, 2, none⟩ = some (.int .i64 k) := cellAt h 2
  clear h
  go_enter Tryz.func147, Tryz.ntmps147
  go_wp2
  go_quiet (fail)
  go_wp2
  go_ret
  exact ⟨ret_int (by omega), _, rfl⟩
set_option maxHeartbeats 1600000 in
set_option maxRecDepth 100000 in
theorem rpush_calls (g b N f : Nat) (B L m : List UInt8) (s : Value) (R : List Asn) (w0 w : World) (h : RH B f L) (hB : B.length = N) (hN : N ≤ 65536) (hm : m.length ≤ 1000000)
    (H : sat w0 w (RG g b N f L.length :: Bys b B :: R)) (hs : Rd w0 R s m) :
    Calls Tryz.prog 115 #[.pointer (some ⟨g, 0, none⟩), s] w fun e w' => ∃ B' : List UInt8, e = .returned (.int .i64 (min m.length (N - L.length) : Nat)) ∧ RH B' f (L ++ m.take (N - L.length)) ∧ B'.length = N ∧
      sat w0 w' (RG g b N f (L ++ m.take (N - L.length)).length :: Bys b B' :: R) := by
  have hh := h
  obtain ⟨h1, h2, _⟩ := h
  obtain ⟨n, hn⟩ : ∃ n : Nat, n = min m.length (N - L.length) := ⟨_, rfl⟩
  obtain ⟨k, hk⟩ : ∃ k, k = L.length := ⟨_, rfl⟩
  have htk : m.take (N - L.length) = m.take n := by
    rcases Nat.le_total m.length (N - L.length) with h | h
    · rw [hn, Nat.min_eq_left h, List.take_of_length_le h, List.take_of_length_le (Nat.le_refl _)]
    · rw [hn, Nat.min_eq_right h]
  have hmn : mn m.length ((N - k : Nat) : Int) = (n : Int) := by rw [mn_eq]; omega
  rw [htk, List.length_append, List.length_take, ← hn, Nat.min_eq_left (show n ≤ m.length by omega), ← hk]
  rw [← hk] at H
  have hg := H.get.1
  have HF := Lib.hid fun (w : World) h => rfree_calls g b N k f (by omega) hN w h
  rcases (hs w H.tail.tail).cases with ⟨rfl, rfl⟩ | ⟨ad, c, rfl, hc1, hc2, hc3⟩
  · obtain rfl : n = 0 := by simpa using hn
    have HH := Lib.hid H
    clear H
    simp only [List.length_nil] at hmn
    have hmn' : mn 0 ((N - k : Nat) : Int) = 0 := hmn
    have HR := Lib.hid hh
    clear hmn hh hs htk hn h2 hm hk
    go_enter Tryz.func115, Tryz.ntmps115
    go_wp2_with (go_at_call 147; refine (HF.out _ hg).mono ?_; rintro e w1 ⟨rfl, q, rfl⟩)
    go_ret
    exact ⟨B, rfl, by simpa using HR.out, hB, HH.out.drewN _⟩
  · have HH := Lib.hid H
    have HS := Lib.hid hs
    have HR := Lib.hid hh
    have HT := Lib.hid htk
    have HK := Lib.hid hk
    have HN := Lib.hid hn
    have hnm : n ≤ m.length := by omega
    have hkN : k + n ≤ N := by omega
    have hfN : f < N := by omega
    clear H hs hh htk hk hn h2 h1
    by_cases h0 : n = 0
    · subst h0
      generalize m.length = M at *
      clear hc3
      go_enter Tryz.func115, Tryz.ntmps115
      go_wp2_with (go_at_call 147; refine (HF.out _ hg).mono ?_; rintro e w1 ⟨rfl, q, rfl⟩)
      go_ret
      exact ⟨B, rfl, by simpa using HR.out, hB, HH.out.drewN _⟩
    · obtain ⟨b2, off2, rfl⟩ := cell_spot (hc3 0 (by omega))
      clear hc3
      generalize hM : m.length = M at *
      have HM := Lib.hid hM
      clear hM
      have d0 : ((n : Int) == 0) = false := by simpa using h0
      have hg0 := cellAt hg 0
      have hg1 := cellAt hg 1
      have hg2 := cellAt hg 2
      simp at hg0 hg1 hg2
      go_enter Tryz.func115, Tryz.ntmps115
      go_wp2_with (go_at_call 147; refine (HF.out _ hg).mono ?_; rintro e w1 ⟨rfl, q, rfl⟩)
      go_quiet (fail)
      clear hg0 hg1 hg2
      rw [show ((f : Int) + k) % N = (((f + k) % N : Nat) : Int) by simp]
      obtain ⟨at_, hat⟩ : ∃ at_, at_ = (f + k) % N := ⟨_, rfl⟩
      have hatN : at_ < N := by rw [hat]; exact Nat.mod_lt _ (by omega)
      rw [← hat]
      have HAT := Lib.hid hat
      clear hat
      obtain ⟨k1, hk1⟩ : ∃ k1, k1 = min n (N - at_) := ⟨_, rfl⟩
      have hb2 : sat w0 ((w.drewN q).drewN nq) (Bys b B :: RG g b N f k :: R) := ((HH.out.drewN q).drewN nq).swap
      revert hb2
      generalize (w.drewN q).drewN nq = W
      intro hb2
      have hg0 : W.cell? ⟨g, 0, none⟩ = some (.slice (some ⟨b, 0, none⟩) N N) := cellAt hb2.tail.get.1 0
      have HB2 := Lib.hid hb2
      clear hb2
      have hk1n : k1 ≤ n := by omega
      have HK1 := Lib.hid hk1
      clear hk1
      have hrd : Reads W (.slice (some ⟨b2, off2, none⟩) n c) (m.take n) := Reads.take' (HS.out _ HB2.out.tail.tail) (by have := HM.out; omega)
      have hkm : k1 = min (m.take n).length (N - at_) := by have := HK1.out; have := HM.out; rw [List.length_take]; omega
      have hfit : at_ + k1 ≤ B.length := by have := HK1.out; omega
      have HR2 : Hid (Rd w0 R (.slice (some ⟨b2, off2, none⟩) n c) (m.take n)) := Lib.hid fun w' hw' => Reads.take' (HS.out _ hw') (by have := HM.out; omega)
      have HP := Lib.hid (And.intro hrd (And.intro hkm hfit))
      clear hrd hkm hfit
      go_wp2_with (refine BigFrame.wpList_want (by rfl) fun K' hK' => ?_; refine op_copy_at (k := k1) (m := m.take n) rfl Tryz.underlying42 info5 rfl rfl HB2.out ?_ ?_ ?_ ?_; exact HP.out.1; exact HP.out.2.1; exact HP.out.2.2; intro w5 H5; refine hK' _ _ ?_; clear hK' K'; have HC := Lib.hid H5; clear H5)
      clear hg0
      have hg0 : w5.drew.cell? ⟨g, 0, none⟩ = some (.slice (some ⟨b, 0, none⟩) N N) := cellAt HC.out.drew.tail.get.1 0
      by_cases hcap : c = k1
      all_goals
        refine wp_region_mix (fun u => ∃ x : World, u = x) [0, 1, 2, 3, 4, 5, 6, 7] [] (by kernel_rfl) (by kernel_rfl) ⟨_, rfl⟩ ?_
        repeat (first | ((first | refine mix_a rfl (by decide +kernel) rfl (fun K hK => ?_) | refine mix_q rfl (by decide +kernel) rfl (fun K hK => ?_)); go_big_quiet_op; refine hK _ ?_; clear hK K) | (refine mix_s rfl rfl (by decide +kernel) ?_; simp only [Act.put, List.setIfInBounds_toArray, List.set_cons_zero, List.set_cons_succ]))
        refine mix_l rfl (by decide +kernel) rfl (fun K hK => ?_)
      · have hX : Reads w5.drew (.slice (some ⟨b2, off2, none⟩) (n - k1) 0) ((m.take n).drop k1) := by
          have h := HK1.out
          have h2 := HM.out
          rw [show n - k1 = 0 by omega]
          exact Reads.dropAll (HR2.out _ HC.out.drew.tail.tail) (by rw [List.length_take]; omega) ⟨rfl, rfl, by unfold maxLen; omega⟩
        refine op_copy_at (k := n - k1) (m := (m.take n).drop k1) rfl Tryz.underlying42 info5 rfl rfl HC.out.drew ?_ ?_ ?_ ?_
        · exact hX
        · have h := HK1.out
          have h2 := HM.out
          rw [List.length_drop, List.length_take]; omega
        · have h := HK1.out
          rw [over_length (by have h2 := HM.out; rw [List.length_take, List.length_take]; omega)]; omega
        intro w6 H6
        rw [List.take_of_length_le (show ((m.take n).drop k1).length ≤ n - k1 by rw [List.length_drop, List.length_take]; omega)] at H6
        refine hK _ _ ?_; clear hK K; (try simp only [Act.put, List.setIfInBounds_toArray, List.set_cons_zero, List.set_cons_succ])
        refine mix_nil ?_
        have H7 := H6.swap
        clear hg0 hX H6
        have hg2 : w6.cell? ⟨g, 2, none⟩ = some (.int .i64 k) := cellAt H7.get.1 2
        have hf2 := frozenAt H7.get.1 2
        have HD := Lib.hid H7
        clear H7
        go_wp2
        go_ret
        have e1 : L.length + (m.take n).length ≤ B.length := by have h2 := HM.out; have := HK.out; rw [List.length_take]; omega
        have e2 : at_ = (f + L.length) % B.length := by rw [HAT.out, HK.out, hB]
        have e3 : k1 = min (m.take n).length (B.length - at_) := by have h2 := HM.out; rw [HK1.out, List.length_take, hB]; omega
        refine ⟨over (over B at_ ((m.take n).take k1)) 0 ((m.take n).drop k1), rfl, HR.out.push e1 e2 e3, ?_, ?_⟩
        · rw [RH.len (by omega) (by omega) e3, hB]
        · have := HD.out.store (i := 2) (.int .i64 ((k + n : Nat) : Int))
          exact this
      · have hX : Reads w5.drew (.slice (some ⟨b2, off2 + k1, none⟩) (n - k1) (c - k1)) ((m.take n).drop k1) := by
          have h := HK1.out
          have h2 := HM.out
          exact Reads.drop (HR2.out _ HC.out.drew.tail.tail) k1 (by rw [List.length_take]; omega)
        refine op_copy_at (k := n - k1) (m := (m.take n).drop k1) rfl Tryz.underlying42 info5 rfl rfl HC.out.drew ?_ ?_ ?_ ?_
        · exact hX
        · have h := HK1.out
          have h2 := HM.out
          rw [List.length_drop, List.length_take]; omega
        · have h := HK1.out
          rw [over_length (by have h2 := HM.out; rw [List.length_take, List.length_take]; omega)]; omega
        intro w6 H6
        rw [List.take_of_length_le (show ((m.take n).drop k1).length ≤ n - k1 by rw [List.length_drop, List.length_take]; omega)] at H6
        refine hK _ _ ?_; clear hK K; (try simp only [Act.put, List.setIfInBounds_toArray, List.set_cons_zero, List.set_cons_succ])
        refine mix_nil ?_
        have H7 := H6.swap
        clear hg0 hX H6
        have hg2 : w6.cell? ⟨g, 2, none⟩ = some (.int .i64 k) := cellAt H7.get.1 2
        have hf2 := frozenAt H7.get.1 2
        have HD := Lib.hid H7
        clear H7
        go_wp2
        go_ret
        have e1 : L.length + (m.take n).length ≤ B.length := by have h2 := HM.out; have := HK.out; rw [List.length_take]; omega
        have e2 : at_ = (f + L.length) % B.length := by rw [HAT.out, HK.out, hB]
        have e3 : k1 = min (m.take n).length (B.length - at_) := by have h2 := HM.out; rw [HK1.out, List.length_take, hB]; omega
        refine ⟨over (over B at_ ((m.take n).take k1)) 0 ((m.take n).drop k1), rfl, HR.out.push e1 e2 e3, ?_, ?_⟩
        · rw [RH.len (by omega) (by omega) e3, hB]
        · have := HD.out.store (i := 2) (.int .i64 ((k + n : Nat) : Int))
          exact this
theorem over_nil (B : List UInt8) (i : Nat) : over B i [] = B := by simp [over]
set_option maxHeartbeats 1600000 in
set_option maxRecDepth 100000 in
theorem rsee_calls (g b N f : Nat) (B L : List UInt8) (n : Int) (R : List Asn) (w0 w : World) (h : RH B f L) (hB : B.length = N) (hN : N ≤ 65536) (H : sat w0 w (RG g b N f L.length :: Bys b B :: R)) :
    Calls Tryz.prog 117 #[.pointer (some ⟨g, 0, none⟩), .int .i64 n] w fun e w' => ∃ o, e = .returned (.slice (some ⟨o, 0, none⟩) (L.take n.toNat).length (L.take n.toNat).length) ∧ sat w0 w' (Bys o (L.take n.toNat) :: RG g b N f L.length :: Bys b B :: R) := by
  have hh := h
  obtain ⟨h1, h2, _⟩ := h
  obtain ⟨k, hk⟩ : ∃ k, k = L.length := ⟨_, rfl⟩
  obtain ⟨j, hj⟩ : ∃ j : Nat, j = min n.toNat k := ⟨_, rfl⟩
  have hjm : mx 0 (mn n (k : Int)) = (j : Int) := by rw [mx_eq, mn_eq]; omega
  have htk : L.take n.toNat = L.take j := by
    rcases Nat.le_total L.length n.toNat with h | h
    · rw [hj, hk, Nat.min_eq_right h, List.take_of_length_le h, List.take_of_length_le (Nat.le_refl _)]
    · rw [hj, hk, Nat.min_eq_left h]
  have hjk : j ≤ k := by omega
  have hkN : k ≤ N := by omega
  have hfN : f < N := by omega
  obtain ⟨k1, hk1⟩ : ∃ k1, k1 = min j (N - f) := ⟨_, rfl⟩
  rw [htk, List.length_take, ← hk, Nat.min_eq_left hjk]
  rw [← hk] at H
  have hx : over (over (List.replicate j 0) 0 ((B.drop f).take k1)) k1 (B.take (j - k1)) = L.take j := hh.see (by omega) (by rw [hB]; exact hk1) (by simp)
  have HX := Lib.hid hx
  have HH := Lib.hid H
  have hb := H.get.1
  have c0 := cellAt hb 0
  have c1 := cellAt hb 1
  have c2 := cellAt hb 2
  simp at c0 c1 c2
  clear hb H hx htk hj hk hh h1 h2
  have hfk : f + k1 ≤ N ∧ k1 ≤ j ∧ j - k1 ≤ N := by omega
  have HK1 := Lib.hid hk1
  clear hk1
  go_enter Tryz.func117, Tryz.ntmps117
  go_wp2_with (at_make; refine BigFrame.wpList_want (by rfl) fun K' hK' => ?_; refine op_make_bytes (n := j) (c := j) (by rfl) Tryz.underlying42 info5 (by rfl) (by rfl) rfl (by omega) (by omega) HH.out ?_; intro o w1 H1; refine hK' _ _ ?_; clear hK' K'; have HA := Lib.hid (Row.bys H1 (by simp)); clear H1)
  clear c0 c1 c2
  have hg0 : w1.drew.cell? ⟨g, 0, none⟩ = some (.slice (some ⟨b, 0, none⟩) N N) := cellAt HA.out.drew.tail.get.1 0
  have hg1 : w1.drew.cell? ⟨g, 1, none⟩ = some (.int .i64 f) := cellAt HA.out.drew.tail.get.1 1
  refine wp_region_mix (fun u => ∃ x : World, u = x) [0, 1, 2, 3, 4, 5, 6, 7, 8, 9, 10, 11] [] (by kernel_rfl) (by kernel_rfl) ⟨_, rfl⟩ ?_
  repeat (first | ((first | refine mix_a rfl (by decide +kernel) rfl (fun K hK => ?_) | refine mix_q rfl (by decide +kernel) rfl (fun K hK => ?_)); go_big_quiet_op; refine hK _ ?_; clear hK K) | (refine mix_s rfl rfl (by decide +kernel) ?_; simp only [Act.put, List.setIfInBounds_toArray, List.set_cons_zero, List.set_cons_succ]))
  refine mix_l rfl (by decide +kernel) rfl (fun K hK => ?_)
  have hX : Reads w1.drew (.slice (some ⟨b, f, none⟩) (N - f) (N - f)) (B.drop f) := by
    have h := Bys.reads (HA.out.drew.tail.tail) (off := f) (n := N - f) (c := N - f) (by omega) (Nat.le_refl _) (by unfold maxLen; omega)
    rwa [List.take_of_length_le (by rw [List.length_drop]; omega)] at h
  refine op_copy_at (k := k1) (m := B.drop f) rfl Tryz.underlying42 info5 rfl rfl HA.out.drew ?_ ?_ ?_ ?_
  · exact hX
  · have := HK1.out; rw [List.length_drop]; omega
  · rw [List.length_replicate]; omega
  intro w5 H5
  refine hK _ _ ?_; clear hK K; (try simp only [Act.put, List.setIfInBounds_toArray, List.set_cons_zero, List.set_cons_succ])
  clear hg0 hg1 hX
  have HC := Lib.hid H5
  clear H5
  repeat (first | ((first | refine mix_a rfl (by decide +kernel) rfl (fun K hK => ?_) | refine mix_q rfl (by decide +kernel) rfl (fun K hK => ?_)); go_big_quiet_op; refine hK _ ?_; clear hK K) | (refine mix_s rfl rfl (by decide +kernel) ?_; simp only [Act.put, List.setIfInBounds_toArray, List.set_cons_zero, List.set_cons_succ]))
  refine mix_nil ?_
  have hl2 : (over (List.replicate j 0) 0 ((B.drop f).take k1)).length = j := by
    rw [over_length (by simp; omega), List.length_replicate]
  have hg0 : w5.drew.cell? ⟨g, 0, none⟩ = some (.slice (some ⟨b, 0, none⟩) N N) := cellAt HC.out.drew.tail.get.1 0
  have hX : Reads w5.drew (.slice (some ⟨b, 0, none⟩) N N) B := by
    have h := Bys.reads (HC.out.drew.tail.tail) (off := 0) (n := N) (c := N) (by omega) (Nat.le_refl _) (by unfold maxLen; omega)
    rwa [List.drop_zero, List.take_of_length_le (by omega)] at h
  by_cases hcap : j = k1
  all_goals
    go_wp2
    refine wp_region_mix (fun u => ∃ x : World, u = x) [0, 1, 2, 3, 4, 5, 6, 7] [] (by kernel_rfl) (by kernel_rfl) ⟨_, rfl⟩ ?_
    repeat (first | ((first | refine mix_a rfl (by decide +kernel) rfl (fun K hK => ?_) | refine mix_q rfl (by decide +kernel) rfl (fun K hK => ?_)); go_big_quiet_op; refine hK _ ?_; clear hK K) | (refine mix_s rfl rfl (by decide +kernel) ?_; simp only [Act.put, List.setIfInBounds_toArray, List.set_cons_zero, List.set_cons_succ]))
    refine mix_l rfl (by decide +kernel) rfl (fun K hK => ?_)
  ·
    refine op_copy_at (k := j - k1) (m := B) rfl Tryz.underlying42 info5 rfl rfl HC.out.drew ?_ ?_ ?_ ?_
    · exact hX
    · rw [hB]; omega
    · have := hfk; rw [hl2]; omega
    intro w6 H6
    refine hK _ _ ?_; clear hK K; (try simp only [Act.put, List.setIfInBounds_toArray, List.set_cons_zero, List.set_cons_succ])
    refine mix_nil ?_
    have HD := Lib.hid H6
    clear hg0 hX H6
    go_wp2
    go_ret
    refine ⟨o, rfl, ?_⟩
    have h := HD.out
    have hy := HX.out
    rw [show j - k1 = 0 by omega, List.take_zero, over_nil] at h hy
    rw [hy] at h
    exact h
  ·
    refine op_copy_at (k := j - k1) (m := B) rfl Tryz.underlying42 info5 rfl rfl HC.out.drew ?_ ?_ ?_ ?_
    · exact hX
    · rw [hB]; omega
    · have := hfk; rw [hl2]; omega
    intro w6 H6
    refine hK _ _ ?_; clear hK K; (try simp only [Act.put, List.setIfInBounds_toArray, List.set_cons_zero, List.set_cons_succ])
    refine mix_nil ?_
    have HD := Lib.hid H6
    clear hg0 hX H6
    go_wp2
    go_ret
    refine ⟨o, rfl, ?_⟩
    have h := HD.out
    rw [HX.out] at h
    exact h
set_option maxHeartbeats 1600000 in
set_option maxRecDepth 100000 in
theorem rpop_calls (g b N f : Nat) (B L : List UInt8) (n : Int) (R : List Asn) (w0 w : World) (h : RH B f L) (hB : B.length = N) (hN : N ≤ 65536) (H : sat w0 w (RG g b N f L.length :: Bys b B :: R)) :
    Calls Tryz.prog 79 #[.pointer (some ⟨g, 0, none⟩), .int .i64 n] w fun e w' => ∃ o f', e = .returned (.slice (some ⟨o, 0, none⟩) (L.take n.toNat).length (L.take n.toNat).length) ∧ RH B f' (L.drop n.toNat) ∧
      sat w0 w' (Bys o (L.take n.toNat) :: RG g b N f' (L.drop n.toNat).length :: Bys b B :: R) := by
  have hh := h
  obtain ⟨h1, h2, _⟩ := h
  obtain ⟨k, hk⟩ : ∃ k, k = L.length := ⟨_, rfl⟩
  obtain ⟨j, hj⟩ : ∃ j : Nat, j = (L.take n.toNat).length := ⟨_, rfl⟩
  have hjk : j ≤ k := by rw [hj, List.length_take]; omega
  have hpop : RH B ((f + j) % N) (L.drop n.toNat) := by
    have := hh.pop (j := j) (by omega)
    rw [hB] at this
    rcases Nat.le_total L.length n.toNat with h | h
    · rw [List.drop_eq_nil_of_le h]
      rwa [List.drop_eq_nil_of_le (by rw [hj, List.length_take]; omega)] at this
    · rwa [show j = n.toNat by rw [hj, List.length_take]; omega] at this ⊢
  have hdl : (L.drop n.toNat).length = k - j := by rw [List.length_drop, hj, List.length_take]; omega
  have HSEE := Lib.hid (rsee_calls g b N f B L n R w0 w hh hB hN H)
  have HP := Lib.hid hpop
  rw [← hj, hdl]
  clear hpop hdl hh
  rw [← hj, ← hk] at HSEE
  have hkN : k ≤ N := by omega
  have hfN : f < N := by omega
  clear hk hj H h1 h2
  have hN0 : (N : Int) > 0 := by omega
  have dN : decide ((0 : Int) < (N : Int)) = true := by simpa using hN0
  have hNne : ((N : Int) == 0) = false := by simp; omega
  go_enter Tryz.func79, Tryz.ntmps79
  go_wp2_with (go_at_call 117; refine HSEE.out.mono ?_; rintro e w1 ⟨o, rfl, H1⟩; have hg0 : w1.cell? ⟨g, 0, none⟩ = some (.slice (some ⟨b, 0, none⟩) N N) := cellAt H1.tail.get.1 0; have hg2 : w1.cell? ⟨g, 2, none⟩ = some (.int .i64 k) := cellAt H1.tail.get.1 2; have hf2 := frozenAt H1.tail.get.1 2; have HA := Lib.hid H1; clear H1)
  have hb2 := HA.out.swap.store (i := 2) (.int .i64 ((k - j : Nat) : Int))
  rw [show ((k - j : Nat) : Int) = (k : Int) - j by omega] at hb2
  have hb2 : sat w0 _ (RG g b N f ((k : Int) - j) :: Bys o (L.take n.toNat) :: Bys b B :: R) := hb2
  clear hg0 hg2 hf2
  generalize w1.setCell _ _ = W at hb2 ⊢
  have hg0 : W.drew.cell? ⟨g, 0, none⟩ = some (.slice (some ⟨b, 0, none⟩) N N) := cellAt hb2.drew.get.1 0
  have hg1 : W.drew.cell? ⟨g, 1, none⟩ = some (.int .i64 f) := cellAt hb2.drew.get.1 1
  have HB2 := Lib.hid hb2
  clear hb2
  refine wp_region_mix (fun u => ∃ x : World, u = x) [0, 1, 2, 3, 4, 5, 6, 7, 8, 9, 10, 11, 12, 13, 14, 15, 16] [] (by kernel_rfl) (by kernel_rfl) ⟨_, rfl⟩ ?_
  repeat (first | ((first | refine mix_a rfl (by decide +kernel) rfl (fun K hK => ?_) | refine mix_q rfl (by decide +kernel) rfl (fun K hK => ?_)); go_big_quiet_op; refine hK _ ?_; clear hK K) | (refine mix_s rfl rfl (by decide +kernel) ?_; simp only [Act.put, List.setIfInBounds_toArray, List.set_cons_zero, List.set_cons_succ]))
  rw [show ((f : Int) + j) % N = (((f + j) % N : Nat) : Int) by simp]
  refine mix_l rfl (by decide +kernel) rfl (fun K hK => ?_)
  refine op_store1 (.int .i64 ((f + j) % N : Nat)) rfl (by kernel_rfl) rfl rfl rfl rfl HB2.out.drew (by simp) ?_
  clear hg0 hg1
  intro w2 H2
  have HC := Lib.hid H2
  clear H2
  refine hK _ _ ?_; clear hK K; (try simp only [Act.put, List.setIfInBounds_toArray, List.set_cons_zero, List.set_cons_succ])
  refine mix_nil ?_
  go_wp2
  go_ret
  refine ⟨o, (f + j) % N, rfl, HP.out, ?_⟩
  have h := HC.out.swap
  rw [show ((k - j : Nat) : Int) = (k : Int) - j by omega]
  exact h
end Go.Proofs.YtonipcfnhmnnlaaGreatDoor
namespace Go.Proofs.YtonipcfnhmnnlaaGreatDoor
open Go Go.RowKit Hg
set_option linter.unusedVariables false
set_option linter.unusedSimpArgs false
attribute [local go_sem] Lib.run_eql_slice_nil run_min2 run_max2 run_min_two run_max_two
/-- What a connection's block holds. -/
structure CS where
  j : Nat
  relay : Int
  due : Int
  st : Int
  s : Nat
  p : Nat
  u : Nat
  ue : Bool
  ut : Bool
  d : Nat
  de : Bool
  dt : Bool
  vs : Int
  vp : Int
  vu : Int
  vh : ByteArray
  al : Bool
  why : Int
  rule : Int
def CS.arr (c : CS) : Array Value := connA c.j c.relay c.due c.st c.s c.p c.u c.ue c.ut c.d c.de c.dt c.vs c.vp c.vu c.vh c.al c.why c.rule
def CN (g : Nat) (c : CS) : Asn := blk g (.cells c.arr 138)
theorem CN.at (g : Nat) (c : CS) {w0 w : World} {R : List Asn} (h : sat w0 w (CN g c :: R)) (i : Nat) : w.cell? ⟨g, i, none⟩ = c.arr[i]? := cellAt h.get.1 i
theorem CN.fr (g : Nat) (c : CS) {w0 w : World} {R : List Asn} (h : sat w0 w (CN g c :: R)) (i : Nat) : w.frozen? ⟨g, i, none⟩ = false := frozenAt h.get.1 i
theorem wait_calls (g : Nat) (c : CS) (t : Int) (ht : 0 ≤ t ∧ t ≤ 1000) (R : List Asn) (w0 w : World) (H : sat w0 w (CN g c :: R)) :
    Calls Tryz.prog 76 #[.pointer (some ⟨g, 0, none⟩), .int .i64 t] w fun e w' => e = .returned (.tuple #[]) ∧ sat w0 w' (CN g { c with due := t } :: R) := by
  have HH := Lib.hid H
  have c24 : w.cell? ⟨g, 24, none⟩ = some (.int .i64 0) := CN.at g c H 24
  have c25 : w.cell? ⟨g, 25, none⟩ = some (.int .i64 c.due) := CN.at g c H 25
  have f25 := CN.fr g c H 25
  clear H
  go_enter Tryz.func76, Tryz.ntmps76
  go_wp2
  go_end0
  exact ⟨rfl, HH.out.store _⟩
theorem state_calls (g : Nat) (c : CS) (R : List Asn) (w0 w : World) (H : sat w0 w (CN g c :: R)) :
    Calls Tryz.prog 30 #[.pointer (some ⟨g, 0, none⟩)] w fun e w' => e = .returned (.int .i64 c.st) ∧ w' = w := by
  have c26 : w.cell? ⟨g, 26, none⟩ = some (.int .i64 c.st) := CN.at g c H 26
  clear H
  go_enter Tryz.func30, Tryz.ntmps30
  go_wp2
  go_ret
  exact ⟨rfl, rfl⟩
theorem relays_calls (g : Nat) (c : CS) (hst : c.st = 2) (R : List Asn) (w0 w : World) (H : sat w0 w (CN g c :: R)) :
    Calls Tryz.prog 86 #[.pointer (some ⟨g, 0, none⟩)] w fun e w' => e = .returned (.bool true) ∧ w' = w := by
  have c26 : w.cell? ⟨g, 26, none⟩ = some (.int .i64 c.st) := CN.at g c H 26
  rw [hst] at c26
  clear H
  go_enter Tryz.func86, Tryz.ntmps86
  go_wp2
  go_ret
  exact ⟨rfl, rfl⟩
theorem dialed_calls (g : Nat) (c : CS) (hst : c.st = 1) (R : List Asn) (w0 w : World) (H : sat w0 w (CN g c :: R)) :
    Calls Tryz.prog 40 #[.pointer (some ⟨g, 0, none⟩), .bool true] w fun e w' => e = .returned (.slice none 0 0) ∧ sat w0 w' (CN g { c with st := 2, due := 1000 } :: R) := by
  have HH := Lib.hid H
  have c26 : w.cell? ⟨g, 26, none⟩ = some (.int .i64 c.st) := CN.at g c H 26
  rw [hst] at c26
  have c5 : w.cell? ⟨g, 5, none⟩ = some (.int .i64 1000) := CN.at g c H 5
  have f26 := CN.fr g c H 26
  clear H
  go_enter Tryz.func40, Tryz.ntmps40
  go_wp2_with (go_at_call 76; refine (wait_calls g { c with st := 2 } 1000 (by decide) R w0 _ (HH.out.store (i := 26) (.int .i64 2))).mono ?_; rintro e w1 ⟨rfl, H1⟩; have HA := Lib.hid H1; clear H1)
  go_ret
  exact ⟨rfl, HA.out⟩
theorem clienteof_calls (g : Nat) (c : CS) (hst : c.st = 2) (R : List Asn) (w0 w : World) (H : sat w0 w (CN g c :: R)) :
    Calls Tryz.prog 48 #[.pointer (some ⟨g, 0, none⟩)] w fun e w' => e = .returned (.slice none 0 0) ∧ sat w0 w' (CN g { c with ue := true } :: R) := by
  have HH := Lib.hid H
  have c26 : w.cell? ⟨g, 26, none⟩ = some (.int .i64 c.st) := CN.at g c H 26
  rw [hst] at c26
  have c30 : w.cell? ⟨g, 30, none⟩ = some (.bool c.ue) := CN.at g c H 30
  have f30 := CN.fr g c H 30
  have HR := Lib.hid (relays_calls g c hst R w0 w H)
  clear H
  go_enter Tryz.func48, Tryz.ntmps48
  go_wp2_with (go_at_call 86; refine HR.out.mono ?_; rintro e w1 ⟨rfl, rfl⟩)
  go_ret
  exact ⟨rfl, HH.out.store (i := 30) (.bool true)⟩
theorem upeof_calls (g : Nat) (c : CS) (hst : c.st = 2) (R : List Asn) (w0 w : World) (H : sat w0 w (CN g c :: R)) :
    Calls Tryz.prog 50 #[.pointer (some ⟨g, 0, none⟩)] w fun e w' => e = .returned (.slice none 0 0) ∧ sat w0 w' (CN g { c with de := true } :: R) := by
  have HH := Lib.hid H
  have c26 : w.cell? ⟨g, 26, none⟩ = some (.int .i64 c.st) := CN.at g c H 26
  rw [hst] at c26
  have c33 : w.cell? ⟨g, 33, none⟩ = some (.bool c.de) := CN.at g c H 33
  have f33 := CN.fr g c H 33
  clear H
  go_enter Tryz.func50, Tryz.ntmps50
  go_wp2
  go_ret
  exact ⟨rfl, HH.out.store (i := 33) (.bool true)⟩
end Go.Proofs.YtonipcfnhmnnlaaGreatDoor
namespace Go.Proofs.YtonipcfnhmnnlaaGreatDoor
open Go Go.RowKit Hg
set_option linter.unusedVariables false
set_option linter.unusedSimpArgs false
attribute [local go_sem] Lib.run_eql_slice_nil run_min2 run_max2 run_min_two run_max_two
set_option maxHeartbeats 800000 in
theorem pushup_calls (g b N f : Nat) (c : CS) (B L m : List UInt8) (s : Value) (R : List Asn) (w0 w : World) (hst : c.st = 2) (hue : c.ue = false) (h : RH B f L) (hB : B.length = N) (hN : N ≤ 65536) (hm : m.length ≤ 1000000)
    (H : sat w0 w (CN g c :: RG c.u b N f L.length :: Bys b B :: R)) (hs : Rd w0 R s m) :
    Calls Tryz.prog 77 #[.pointer (some ⟨g, 0, none⟩), .pointer (some ⟨g, 29, none⟩), s] w fun e w' => ∃ (B' : List UInt8) (t : Int), e = .returned (.int .i64 (min m.length (N - L.length) : Nat)) ∧ RH B' f (L ++ m.take (N - L.length)) ∧ B'.length = N ∧
      sat w0 w' (CN g { c with due := t } :: RG c.u b N f (L ++ m.take (N - L.length)).length :: Bys b B' :: R) := by
  have HH := Lib.hid H
  have c26 : w.cell? ⟨g, 26, none⟩ = some (.int .i64 c.st) := CN.at g c H 26
  have ci0 : w.cell? ⟨g, 29, none⟩ = some (.pointer (some ⟨c.u, 0, none⟩)) := CN.at g c H 29
  have ci1 : w.cell? ⟨g, 30, none⟩ = some (.bool c.ue) := CN.at g c H 30
  rw [hue] at ci1
  have HP := Lib.hid (rpush_calls c.u b N f B L m s (CN g c :: R) w0 w h hB hN hm (H.re 3 [1, 2, 0] [] rfl) hs.weak)
  have hn := Nat.zero_le (min m.length (N - L.length))
  revert HP
  generalize min m.length (N - L.length) = n at hn ⊢
  intro HP
  have HB := Lib.hid hB
  clear H h hs hB hm
  by_cases h0 : n = 0
  · subst h0
    go_enter Tryz.func77, Tryz.ntmps77
    go_wp2_with (go_at_call 115; refine HP.out.mono ?_; rintro e w1 ⟨B', rfl, hr, hb, H1⟩; have HR := Lib.hid hr; have HB' := Lib.hid hb; have HA := Lib.hid H1; clear H1 hr hb)
    go_ret
    exact ⟨B', c.due, rfl, HR.out, HB'.out, HA.out.re 3 [2, 0, 1] [] rfl⟩
  · have d0 : decide ((0 : Int) < (n : Int)) = true := by simp; omega
    go_enter Tryz.func77, Tryz.ntmps77
    go_wp2_with (first | (go_at_call 115; refine HP.out.mono ?_; rintro e w1 ⟨B', rfl, hr, hb, H1⟩; have HR := Lib.hid hr; have HB' := Lib.hid hb; have H1' := H1.re 3 [2, 0, 1] [] rfl; have k26 : w1.cell? ⟨g, 26, none⟩ = some (.int .i64 c.st) := CN.at g c H1' 26; rw [hst] at k26; have k5 : w1.cell? ⟨g, 5, none⟩ = some (.int .i64 1000) := CN.at g c H1' 5; have HA := Lib.hid H1'; clear H1 H1' hr hb) | (go_at_call 76; refine (wait_calls g c 1000 (by decide) _ w0 _ HA.out).mono ?_; rintro e w2 ⟨rfl, H2⟩; have HD := Lib.hid H2; clear H2))
    go_ret
    exact ⟨B', 1000, rfl, HR.out, HB'.out, HD.out⟩
set_option maxHeartbeats 800000 in
theorem pushdown_calls (g b N f : Nat) (c : CS) (B L m : List UInt8) (s : Value) (R : List Asn) (w0 w : World) (hst : c.st = 2) (hue : c.de = false) (h : RH B f L) (hB : B.length = N) (hN : N ≤ 65536) (hm : m.length ≤ 1000000)
    (H : sat w0 w (CN g c :: RG c.d b N f L.length :: Bys b B :: R)) (hs : Rd w0 R s m) :
    Calls Tryz.prog 77 #[.pointer (some ⟨g, 0, none⟩), .pointer (some ⟨g, 32, none⟩), s] w fun e w' => ∃ (B' : List UInt8) (t : Int), e = .returned (.int .i64 (min m.length (N - L.length) : Nat)) ∧ RH B' f (L ++ m.take (N - L.length)) ∧ B'.length = N ∧
      sat w0 w' (CN g { c with due := t } :: RG c.d b N f (L ++ m.take (N - L.length)).length :: Bys b B' :: R) := by
  have HH := Lib.hid H
  have c26 : w.cell? ⟨g, 26, none⟩ = some (.int .i64 c.st) := CN.at g c H 26
  have ci0 : w.cell? ⟨g, 32, none⟩ = some (.pointer (some ⟨c.d, 0, none⟩)) := CN.at g c H 32
  have ci1 : w.cell? ⟨g, 33, none⟩ = some (.bool c.de) := CN.at g c H 33
  rw [hue] at ci1
  have HP := Lib.hid (rpush_calls c.d b N f B L m s (CN g c :: R) w0 w h hB hN hm (H.re 3 [1, 2, 0] [] rfl) hs.weak)
  have hn := Nat.zero_le (min m.length (N - L.length))
  revert HP
  generalize min m.length (N - L.length) = n at hn ⊢
  intro HP
  have HB := Lib.hid hB
  clear H h hs hB hm
  by_cases h0 : n = 0
  · subst h0
    go_enter Tryz.func77, Tryz.ntmps77
    go_wp2_with (go_at_call 115; refine HP.out.mono ?_; rintro e w1 ⟨B', rfl, hr, hb, H1⟩; have HR := Lib.hid hr; have HB' := Lib.hid hb; have HA := Lib.hid H1; clear H1 hr hb)
    go_ret
    exact ⟨B', c.due, rfl, HR.out, HB'.out, HA.out.re 3 [2, 0, 1] [] rfl⟩
  · have d0 : decide ((0 : Int) < (n : Int)) = true := by simp; omega
    go_enter Tryz.func77, Tryz.ntmps77
    go_wp2_with (first | (go_at_call 115; refine HP.out.mono ?_; rintro e w1 ⟨B', rfl, hr, hb, H1⟩; have HR := Lib.hid hr; have HB' := Lib.hid hb; have H1' := H1.re 3 [2, 0, 1] [] rfl; have k26 : w1.cell? ⟨g, 26, none⟩ = some (.int .i64 c.st) := CN.at g c H1' 26; rw [hst] at k26; have k5 : w1.cell? ⟨g, 5, none⟩ = some (.int .i64 1000) := CN.at g c H1' 5; have HA := Lib.hid H1'; clear H1 H1' hr hb) | (go_at_call 76; refine (wait_calls g c 1000 (by decide) _ w0 _ HA.out).mono ?_; rintro e w2 ⟨rfl, H2⟩; have HD := Lib.hid H2; clear H2))
    go_ret
    exact ⟨B', 1000, rfl, HR.out, HB'.out, HD.out⟩
set_option maxHeartbeats 800000 in
theorem more_calls (g b N f : Nat) (c : CS) (B L m : List UInt8) (s : Value) (R : List Asn) (w0 w : World) (hst : c.st = 2) (hue : c.ue = false) (h : RH B f L) (hB : B.length = N) (hN : N ≤ 65536) (hm : m.length ≤ 1000000)
    (H : sat w0 w (CN g c :: RG c.u b N f L.length :: Bys b B :: R)) (hs : Rd w0 R s m) :
    Calls Tryz.prog 73 #[.pointer (some ⟨g, 0, none⟩), s] w fun e w' => ∃ (B' : List UInt8) (t : Int), e = .returned (.tuple #[.int .i64 (min m.length (N - L.length) : Nat), .slice none 0 0]) ∧ RH B' f (L ++ m.take (N - L.length)) ∧ B'.length = N ∧
      sat w0 w' (CN g { c with due := t } :: RG c.u b N f (L ++ m.take (N - L.length)).length :: Bys b B' :: R) := by
  have HP := Lib.hid (pushup_calls g b N f c B L m s R w0 w hst hue h hB hN hm H hs)
  have c26 : w.cell? ⟨g, 26, none⟩ = some (.int .i64 c.st) := CN.at g c H 26
  rw [hst] at c26
  revert HP
  generalize min m.length (N - L.length) = n
  intro HP
  clear H h hs hB hm
  go_enter Tryz.func73, Tryz.ntmps73
  go_wp2_with (go_at_call 77; refine HP.out.mono ?_; rintro e w1 ⟨B', t, rfl, hr, hb, H1⟩; have HR := Lib.hid hr; have HB' := Lib.hid hb; have HA := Lib.hid H1; clear H1 hr hb)
  go_ret2
  exact ⟨B', t, rfl, HR.out, HB'.out, HA.out⟩
set_option maxHeartbeats 800000 in
theorem up_calls (g b N f : Nat) (c : CS) (B L m : List UInt8) (s : Value) (R : List Asn) (w0 w : World) (hst : c.st = 2) (hue : c.de = false) (h : RH B f L) (hB : B.length = N) (hN : N ≤ 65536) (hm : m.length ≤ 1000000)
    (H : sat w0 w (CN g c :: RG c.d b N f L.length :: Bys b B :: R)) (hs : Rd w0 R s m) :
    Calls Tryz.prog 42 #[.pointer (some ⟨g, 0, none⟩), s] w fun e w' => ∃ (B' : List UInt8) (t : Int), e = .returned (.tuple #[.int .i64 (min m.length (N - L.length) : Nat), .slice none 0 0]) ∧ RH B' f (L ++ m.take (N - L.length)) ∧ B'.length = N ∧
      sat w0 w' (CN g { c with due := t } :: RG c.d b N f (L ++ m.take (N - L.length)).length :: Bys b B' :: R) := by
  have HP := Lib.hid (pushdown_calls g b N f c B L m s R w0 w hst hue h hB hN hm H hs)
  have c26 : w.cell? ⟨g, 26, none⟩ = some (.int .i64 c.st) := CN.at g c H 26
  rw [hst] at c26
  revert HP
  generalize min m.length (N - L.length) = n
  intro HP
  clear H h hs hB hm
  go_enter Tryz.func42, Tryz.ntmps42
  go_wp2_with (go_at_call 77; refine HP.out.mono ?_; rintro e w1 ⟨B', t, rfl, hr, hb, H1⟩; have HR := Lib.hid hr; have HB' := Lib.hid hb; have HA := Lib.hid H1; clear H1 hr hb)
  go_ret2
  exact ⟨B', t, rfl, HR.out, HB'.out, HA.out⟩
end Go.Proofs.YtonipcfnhmnnlaaGreatDoor
