/-
  The closed facts of this seat's program that every row asks, shown once. No conditions.
-/
import Derived.Test.YtlniaacdjllonaaGreatRows
import Derived.WalkKit
import Derived.ProofKit
namespace Go.Proofs.YtlniaacdjllonaaGreat
theorem pf_laid : laidOutB Tryz.prog = true := by kernel_rfl
theorem pf_maps : mapsRowed Tryz.prog = true := by kernel_rfl
theorem pf_stops : (Tryz.prog.stops == []) = true := by kernel_rfl
theorem pf_knobs : (Tryz.prog.stopKnobs == []) = true := by kernel_rfl
theorem pf_keys : Tryz.prog.plainKeys = true := by kernel_rfl
theorem pf_heard : Tryz.prog.stopsHeard = true := by kernel_rfl
theorem pf_enter : Tryz.prog.mayEnter = true := by kernel_rfl
theorem pf_lifts : Tryz.prog.liftsFinal = false := by kernel_rfl
theorem pf_make : (Tryz.prog.make == some .cut) = true := by kernel_rfl
end Go.Proofs.YtlniaacdjllonaaGreat
