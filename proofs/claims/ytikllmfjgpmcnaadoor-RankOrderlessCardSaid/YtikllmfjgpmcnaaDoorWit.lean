/-
  The witness that every row of this seat asks: a world in which the pinned tables lie as they are told, shown once. No conditions.
-/
import Derived.Test.YtikllmfjgpmcnaaDoorFacts
import Derived.LaidMore
import Derived.Lay
import Derived.SevenTiedAt
import Derived.Stop.Joined
namespace Go.Proofs.YtikllmfjgpmcnaaDoor
open Go.ChangeShapes Go.WideShapes Go.ChangeAt Go.RowKit
set_option maxRecDepth 100000 in
theorem wit_shaped (os : Os) (args : Array Value) : ((World.laidAll Tryd.prog os Rows.acceptKindsRow.laid).forCall (fun _ _ => 0) ⟨#[], args, []⟩).Shaped Tryd.checked.prog :=
  World.shaped_of_ZipB (by kernel_rfl) (by kernel_rfl)
set_option maxRecDepth 100000 in
theorem wit_met (os : Os) (args : Array Value) : laidMetH Tryd.prog Rows.acceptKindsRow.laid ((World.laidAll Tryd.prog os Rows.acceptKindsRow.laid).forCall (fun _ _ => 0) ⟨#[], args, []⟩).memory := by
  rw [MakeChecks.laidMetH_plain _ _ _ (by kernel_rfl)]; exact laidMet_laidAll _ (by kernel_rfl) (by kernel_rfl)
theorem pf_looks : false = Tryd.pinned.checked.prog.looks [] := by kernel_rfl
theorem pf_main : Tryd.pinned.checked.prog.mainIs = some (true, ("afe76c3eaaf1f6da5f234db97120ee7a851f0076f1417e3a9c9fc355ac6d38f8" : String).toList) := by kernel_rfl
end Go.Proofs.YtikllmfjgpmcnaaDoor
