/-
  The witness that every row of this seat asks: a world in which the pinned tables lie as they are told, shown once. No conditions.
-/
import Derived.Test.YtgahnjchpomcfaaDoorFacts
import Derived.LaidMore
import Derived.Lay
import Derived.SevenTiedAt
import Derived.Stop.Joined
namespace Go.Proofs.YtgahnjchpomcfaaDoor
open Go.ChangeShapes Go.WideShapes Go.ChangeAt Go.RowKit
set_option maxRecDepth 100000 in
theorem wit_shaped (os : Os) (args : Array Value) : ((World.laidAll Tryd.prog os Rows.variantkeyKnownRow.laid).forCall (fun _ _ => 0) ⟨#[], args, []⟩).Shaped Tryd.checked.prog :=
  World.shaped_of_ZipB (by kernel_rfl) (by kernel_rfl)
set_option maxRecDepth 100000 in
theorem wit_met (os : Os) (args : Array Value) : laidMetH Tryd.prog Rows.variantkeyKnownRow.laid ((World.laidAll Tryd.prog os Rows.variantkeyKnownRow.laid).forCall (fun _ _ => 0) ⟨#[], args, []⟩).memory := by
  rw [MakeChecks.laidMetH_plain _ _ _ (by kernel_rfl)]; exact laidMet_laidAll _ (by kernel_rfl) (by kernel_rfl)
theorem pf_looks : false = Tryd.pinned.checked.prog.looks [] := by kernel_rfl
theorem pf_main : Tryd.pinned.checked.prog.mainIs = some (true, ("a6be9dc4b421275a427c902f677a669f003e36d7970a5244775afdffd81e0c04" : String).toList) := by kernel_rfl
end Go.Proofs.YtgahnjchpomcfaaDoor
