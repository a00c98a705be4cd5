/- Layer 6: are calls few? No condition. -/
import Derived.Test.YthhomgmnmbpldaaPeek4
namespace Go.Proofs.Ythhomgmnmbpldaa
open Go Go.RowKit Hg
set_option linter.unusedVariables false
set_option linter.unusedSimpArgs false
attribute [local go_sem] Lib.run_eql_slice_nil run_min2 run_max2 run_min_two run_max_two bstr_size
def tot (ls : List Trip) : Nat := (ls.map fun t => t.b.length).sum
theorem tot_succ (ls : List Trip) (k : Nat) (h : k < ls.length) : tot (ls.take (k + 1)) = tot (ls.take k) + (ls.getD k trip0).b.length := by
  rw [List.take_succ_eq_append_getElem h]
  simp only [tot, List.map_append, List.sum_append, List.map_cons, List.map_nil, List.sum_cons, List.sum_nil, List.getD, List.getElem?_eq_getElem h, Option.getD_some, Nat.add_zero]
theorem tot_le (ls : List Trip) (B : Nat) (h : ∀ i, i < ls.length → (ls.getD i trip0).b.length ≤ B) : ∀ k, k ≤ ls.length → tot (ls.take k) ≤ k * B
  | 0, _ => by simp [tot]
  | k + 1, hk => by
    rw [tot_succ ls k (by omega)]
    have := tot_le ls B h k (by omega)
    have := h k (by omega)
    rw [Nat.add_mul]
    omega
def fewB (ls : List Trip) : Bool := decide (ls.length ≤ 100) && decide (tot ls ≤ 20000)
set_option maxHeartbeats 400000 in
theorem few_calls (v : Value) (ls : List Trip) (w : World) (h : TripsIn w v ls) (hl : ls.length ≤ 140737488351232) :
    Calls Try.prog 9 #[v] w fun e w' => e = .returned (.bool (fewB ls)) ∧ w' = w := by
  rcases h.cases with ⟨a, c, rfl, rfl⟩ | ⟨b, off, cap, rfl, h1, h2, h3⟩
  · clear h
    go_enter Try.func9, Try.ntmps9
    go_wp2
    go_loop [3, 4] (fun n i => n = .int .i64 0 ∧ i = .int .i64 0) (fun _ _ => 0)
    case atStart => exact ⟨rfl, rfl⟩
    case round =>
      obtain ⟨rfl, rfl⟩ := hrel
      go_wp2
      go_ret
      exact ⟨rfl, rfl⟩
  · have H3 := Lib.hid h3
    have tl := tot_le ls 140737488351232 (fun i hi => (h3 i hi).2.2.2.2.1)
    have TL := Lib.hid tl
    clear h h3 tl
    go_enter Try.func9, Try.ntmps9
    go_wp2
    go_loop [3, 4] (fun n i => ∃ (z : Int) (k : Nat), k ≤ ls.length ∧ n = .int .i64 z ∧ i = .int .i64 k ∧ (ls.length ≤ 100 → z = tot (ls.take k))) (fun _ i => ls.length - (intOf i).toNat)
    case atStart => exact ⟨0, 0, Nat.zero_le _, rfl, rfl, fun _ => rfl⟩
    case round =>
      obtain ⟨z, k, hk, rfl, rfl, hz⟩ := hrel
      have HZ := Lib.hid hz
      clear hz
      by_cases hlt : k < ls.length
      · have F := H3.out k hlt
        have h3 := tot_succ ls k hlt
        generalize ls.getD k trip0 = t at F h3
        have HT := Lib.hid h3
        obtain ⟨_, c1, _, hr, hb, _, _⟩ := F
        obtain ⟨a', c', hv, _, _⟩ := hr.form
        rw [hv] at c1
        clear hv hr h3
        go_wp2
        go_round
        case rel =>
          refine ⟨_, k + 1, by omega, rfl, by go_num, fun hl => ?_⟩
          have h1 := HZ.out hl
          have h2 := TL.out k (by omega)
          have h3 := HT.out
          have h4 : tot (ls.take k) ≤ 100 * 140737488351232 := Nat.le_trans h2 (Nat.mul_le_mul_right _ (by omega))
          unfold wrap64
          omega
        case measure => simp [intOf]; omega
      · obtain rfl : k = ls.length := by omega
        have hz := HZ.out
        rw [List.take_length] at hz
        by_cases hl1 : ls.length ≤ 100
        · obtain rfl := hz hl1
          by_cases hl2 : tot ls ≤ 20000
          · have HF : Hid (fewB ls = true) := Lib.hid (by simp [fewB, hl1, hl2])
            have d1 : decide ((ls.length : Int) ≤ 100) = true := by simp; omega
            have d2 : decide ((tot ls : Int) ≤ 20000) = true := by simp; omega
            clear hz
            go_wp2
            go_ret
            exact ⟨by rw [HF.out]; rfl, rfl⟩
          · have HF : Hid (fewB ls = false) := Lib.hid (by simp [fewB, hl2])
            have d1 : decide ((ls.length : Int) ≤ 100) = true := by simp; omega
            have d2 : decide ((tot ls : Int) ≤ 20000) = false := by simp; omega
            clear hz
            go_wp2
            go_ret
            exact ⟨by rw [HF.out]; rfl, rfl⟩
        · have HF : Hid (fewB ls = false) := Lib.hid (by simp [fewB, hl1])
          have d1 : decide ((ls.length : Int) ≤ 100) = false := by simp; omega
          clear hz
          go_wp2
          go_ret
          exact ⟨by rw [HF.out]; rfl, rfl⟩
end Go.Proofs.Ythhomgmnmbpldaa
