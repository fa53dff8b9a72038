/-
  The witness that every row of this seat asks: a world in which the pinned tables lie as they are told, shown once. No conditions.
-/
import Derived.Test.YtfcidkjpebalkaaGreatDoorFacts
import Derived.LaidMore
import Derived.Lay
import Derived.SevenTiedAt
import Derived.Stop.Joined
namespace Go.Proofs.YtfcidkjpebalkaaGreatDoor
open Go.ChangeShapes Go.WideShapes Go.ChangeAt Go.RowKit
set_option maxRecDepth 100000 in
theorem wit_shaped (os : Os) (args : Array Value) : ((World.laidAll Tryz.prog os Rows.lookupDecidesRow.laid).forCall (fun _ _ => 0) ⟨#[], args, []⟩).Shaped Tryz.checked.prog :=
  World.shaped_of_ZipB (by kernel_rfl) (by kernel_rfl)
set_option maxRecDepth 100000 in
theorem wit_met (os : Os) (args : Array Value) : laidMetH Tryz.prog Rows.lookupDecidesRow.laid ((World.laidAll Tryz.prog os Rows.lookupDecidesRow.laid).forCall (fun _ _ => 0) ⟨#[], args, []⟩).memory := by
  rw [MakeChecks.laidMetH_plain _ _ _ (by kernel_rfl)]; exact laidMet_laidAll _ (by kernel_rfl) (by kernel_rfl)
theorem pf_looks : false = Tryz.pinned.checked.prog.looks [] := by kernel_rfl
theorem pf_main : Tryz.pinned.checked.prog.mainIs = some (true, ("6bf70af1dba189e8938b38a5d76dc23586737c5eca55d4435bd98339120c4aa1" : String).toList) := by kernel_rfl
end Go.Proofs.YtfcidkjpebalkaaGreatDoor
