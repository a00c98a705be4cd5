/- ShakeWraps' walk. No condition but that the slice takes fewer than 2^47 bytes. -/
import Derived.Test.YtjekkaajagncpaaShake7
namespace Go.Proofs.Ytjekkaajagncpaa
open Go Go.RowKit Hg
set_option linter.unusedVariables false
set_option linter.unusedSimpArgs false
attribute [local go_sem] Lib.run_eql_slice_nil run_min2 run_max2 run_min_two run_max_two bstr_size
set_option maxHeartbeats 800000 in
theorem wraps_calls (v : Value) (w : World) {l : List UInt8} (h : Reads w v l) (hl : l.length ≤ 140737488351232) :
    Calls Try.prog 4 #[v] w fun e w' => e = .returned (.bool true) ∧ Below w.heap.size w w' := by
  obtain ⟨a, c, rfl, _, _⟩ := Reads.form h
  have HX := Lib.hid h
  clear h
  by_cases hbig : (70000 : Int) < l.length
  · have d1 : decide ((70000 : Int) < l.length) = true := by simpa using hbig
    go_enter Try.func4, Try.ntmps4
    go_wp2_with (go_at_call 9; refine (small_calls [] w _ (sat_start w)).mono ?_; rintro e w1 ⟨rfl, H1⟩; have HS := Lib.hid H1; clear H1)
    go_ret
    exact ⟨rfl, HS.out.below⟩
  · have d1 : decide ((70000 : Int) < l.length) = false := by simpa using hbig
    obtain ⟨L, hL⟩ : ∃ L, L = wrapL l := ⟨_, rfl⟩
    have HL := Lib.hid hL
    have q1 : ((bstr L).toList == (bstr L).toList) = true := by simp
    clear hL
    go_enter Try.func4, Try.ntmps4
    go_wp2_with (first | (go_at_call 9; refine (small_calls [] w _ (sat_start w)).mono ?_; rintro e w1 ⟨rfl, H1⟩; have HS := Lib.hid H1; clear H1) | (go_at_call 17; refine (wrap_calls _ l [] w _ HS.out (Rd.old HX.out) (by omega)).mono ?_; rw [← HL.out]; rintro r w2 ⟨v2, rfl, H2⟩; have HA := Lib.hid H2; clear H2 HS) | (go_at_call 18; refine (rwrap_calls _ l _ w _ HA.out (Rd.old HX.out) (by omega)).mono ?_; rw [← HL.out]; rintro r w3 ⟨v3, rfl, H3⟩; have HB := Lib.hid H3; clear H3 HA) | (refine BigFrame.wpList_want (by rfl) fun K' hK' => ?_; refine op_conv_str (v := v2) (by rfl) Try.underlying22 Try.underlying5 Try.underlying9 (by rfl) (Rd.row.weak _ HB.out) ?_; refine hK' _ _ ?_; clear hK' K') | (refine BigFrame.wpList_want (by rfl) fun K' hK' => ?_; refine op_conv_str (v := v3) (by rfl) Try.underlying22 Try.underlying5 Try.underlying9 (by rfl) (Rd.row _ HB.out) ?_; refine hK' _ _ ?_; clear hK' K'))
    go_ret
    exact ⟨rfl, HB.out.below⟩
end Go.Proofs.Ytjekkaajagncpaa
