/-
  The witness that every row of this seat asks: a world in which the pinned tables lie as they are told, shown once. No conditions.
-/
import Derived.Test.YtaicfjchbhnegaaDoorFacts
import Derived.LaidMore
import Derived.Lay
import Derived.SevenTiedAt
import Derived.Stop.Joined
namespace Go.Proofs.YtaicfjchbhnegaaDoor
open Go.ChangeShapes Go.WideShapes Go.ChangeAt Go.RowKit
set_option maxRecDepth 100000 in
theorem wit_shaped (os : Os) (args : Array Value) : ((World.laidAll Tryd.prog os Rows.fieldlineParsesRow.laid).forCall (fun _ _ => 0) ⟨#[], args, []⟩).Shaped Tryd.checked.prog :=
  World.shaped_of_ZipB (by kernel_rfl) (by kernel_rfl)
set_option maxRecDepth 100000 in
theorem wit_met (os : Os) (args : Array Value) : laidMetH Tryd.prog Rows.fieldlineParsesRow.laid ((World.laidAll Tryd.prog os Rows.fieldlineParsesRow.laid).forCall (fun _ _ => 0) ⟨#[], args, []⟩).memory := by
  rw [MakeChecks.laidMetH_plain _ _ _ (by kernel_rfl)]; exact laidMet_laidAll _ (by kernel_rfl) (by kernel_rfl)
theorem pf_looks : false = Tryd.pinned.checked.prog.looks [] := by kernel_rfl
theorem pf_main : Tryd.pinned.checked.prog.mainIs = some (true, ("c9b1eb8fba350dd1439d07572b500f5884dfc217dbd421dc6546bbe65816ef19" : String).toList) := by kernel_rfl
end Go.Proofs.YtaicfjchbhnegaaDoor
