/- The card of TopWhole: the row, with what it lists tied to the program's text. No condition. -/
import Derived.Test.YtonipcfnhmnnlaaGreatDoorRows
import Derived.Test.YtonipcfnhmnnlaaGreatDoorTie
import Derived.Test.YtonipcfnhmnnlaaGreatDoorCards
import Derived.SevenTiedAt
namespace Go.Proofs.YtonipcfnhmnnlaaGreatDoor
open Go
/-- The card, from the row. -/
theorem topWhole_card (h : Rows.TopWholeSaid) : Rows.TopWholeCardSaid :=
  Claim7.holds_tied_plain_at .later [] [.data, .data, .data, .data, .sentinel, .sentinel, .widerDeep, .pinned] true (true, "079212f403b863968cb893c4d405f092b43a3b03eb075c3af81e2537b019675a") true
    h (fun _ h => by cases h) (by kernel_rfl) (fun _ h => by cases h) topWhole_row_tie rfl ⟨rfl, rfl⟩ (by kernel_rfl) rfl
    (fun f fn hf hfn => by
      obtain rfl : f = 3 := Option.some.inj ((show Tryz.prog.funcNamed "hagioscope/hagioscopetop.TopWhole" = some 3 by kernel_rfl).symm.trans hf) |>.symm
      obtain rfl : fn = Tryz.f3 := (Option.some.inj (Tryz.func3.symm.trans hfn)).symm
      exact ⟨by kernel_rfl, fun j t ht => by
        rw [Tryz.params3] at ht
        have hm : t ∈ [9, 9, 3, 3] := by simpa using Array.mem_of_getElem? ht
        have hall : ([9, 9, 3, 3].all fun u => !Tryz.prog.wantsStandIn u) = true := by kernel_rfl
        exact (show Tryz.prog.wantsStandIn t = false by simpa using List.all_eq_true.1 hall t hm)⟩)
    (by kernel_rfl)
#print axioms topWhole_card
end Go.Proofs.YtonipcfnhmnnlaaGreatDoor
