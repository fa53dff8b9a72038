/-
  The witness that every row of this seat asks: a world in which the pinned tables lie as they are told, shown once. No conditions.
-/
import Derived.Test.YtjbcomdljmfgjabGreatDoorFacts
import Derived.LaidMore
import Derived.Lay
import Derived.SevenTiedAt
import Derived.Stop.Joined
namespace Go.Proofs.YtjbcomdljmfgjabGreatDoor
open Go.ChangeShapes Go.WideShapes Go.ChangeAt Go.RowKit
set_option maxRecDepth 100000 in
theorem wit_shaped (os : Os) (args : Array Value) : ((World.laidAll Tryz.prog os Rows.classNormalRow.laid).forCall (fun _ _ => 0) ⟨#[], args, []⟩).Shaped Tryz.checked.prog :=
  World.shaped_of_ZipB (by kernel_rfl) (by kernel_rfl)
set_option maxRecDepth 100000 in
theorem wit_met (os : Os) (args : Array Value) : laidMetH Tryz.prog Rows.classNormalRow.laid ((World.laidAll Tryz.prog os Rows.classNormalRow.laid).forCall (fun _ _ => 0) ⟨#[], args, []⟩).memory := by
  rw [MakeChecks.laidMetH_plain _ _ _ (by kernel_rfl)]; exact laidMet_laidAll _ (by kernel_rfl) (by kernel_rfl)
theorem pf_looks : false = Tryz.pinned.checked.prog.looks [] := by kernel_rfl
theorem pf_main : Tryz.pinned.checked.prog.mainIs = some (true, ("47c8d805d2aab3e1eb953368d66f49cff9ad7ef6c07401b44f01aa4b8448fe4b" : String).toList) := by kernel_rfl
end Go.Proofs.YtjbcomdljmfgjabGreatDoor
