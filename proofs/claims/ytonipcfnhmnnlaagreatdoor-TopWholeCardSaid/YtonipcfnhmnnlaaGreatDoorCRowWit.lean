/- A start at which the listed variables read as the row says: the witness of TopWhole's row. No condition. -/
import Derived.Test.YtonipcfnhmnnlaaGreatDoorRows
import Derived.WalkKit
import Derived.ProofKit
import Derived.Lay
import Derived.LaidMore
namespace Go.Proofs.YtonipcfnhmnnlaaGreatDoor.topWhole
open Go Go.ChangeShapes Go.WideShapes Go.ChangeAt Go.RowKit
theorem met (os : Os) (args : Array Value) : laidMetH Tryz.prog Rows.topWholeRow.laid ((World.laidAll Tryz.prog os Rows.topWholeRow.laid).forCall (fun _ _ => 0) ⟨#[], args, []⟩).memory := by
  rw [MakeChecks.laidMetH_plain _ _ _ (by kernel_rfl)]
  exact laidMet_laidAll _ (by kernel_rfl) (by kernel_rfl)
theorem witness {H : Type} (enc : TypeId × Value → H) (os : Os) : ∃ (w : World) (tape : Tape) (i : Input), w.os = os ∧ (w.forCall tape i).Shaped Tryz.checked.prog ∧ i.vars = [] ∧ Input.okWide Tryz.checked.prog (w.forCall tape i) .any w.heap.size 3 i ∧
      ((Rows.topWholeSpec.pre enc Tryz.checked.prog Tryz.f3 [] false (w.forCall tape i).memory i.args ∧ laidMetH Tryz.prog Rows.topWholeRow.laid (w.forCall tape i).memory) ∧ sizedMet enc Tryz.checked.prog Tryz.f3 (OpenSpec.ofChange Rows.topWholeSpec) false (w.forCall tape i).memory i.args) ∧ ({ modest := false } : Assume).holds Tryz.checked.prog (lone (Frame.enter Tryz.checked.prog 3 i.args .normal) [] (w.forCall tape i)) :=
  ChangeSpec.witness_shaped (enc := enc) (C := Tryz.checked) (os := os) (X := fun w _ => laidMetH Tryz.prog Rows.topWholeRow.laid w) false (World.laidAll Tryz.prog os Rows.topWholeRow.laid) #[.string ByteArray.empty, .string ByteArray.empty, .int .i64 0, .int .i64 0] 8 (World.laidAll_os _ _ _)
    (World.shaped_of_ZipB (by kernel_rfl) (by kernel_rfl)) (by kernel_rfl) (by kernel_rfl) (by kernel_rfl) (met os _)
end Go.Proofs.YtonipcfnhmnnlaaGreatDoor.topWhole
