/-
  The closed facts of this seat's program that every row asks, shown once. No conditions.
-/
import Derived.Test.YtgahnjchpomcfaaDoorRows
import Derived.WalkKit
import Derived.ProofKit
namespace Go.Proofs.YtgahnjchpomcfaaDoor
theorem pf_laid : laidOutB Tryd.prog = true := by kernel_rfl
theorem pf_maps : mapsRowed Tryd.prog = true := by kernel_rfl
theorem pf_stops : (Tryd.prog.stops == []) = true := by kernel_rfl
theorem pf_knobs : (Tryd.prog.stopKnobs == []) = true := by kernel_rfl
theorem pf_keys : Tryd.prog.plainKeys = true := by kernel_rfl
theorem pf_heard : Tryd.prog.stopsHeard = true := by kernel_rfl
theorem pf_enter : Tryd.prog.mayEnter = true := by kernel_rfl
theorem pf_lifts : Tryd.prog.liftsFinal = false := by kernel_rfl
theorem pf_make : (Tryd.prog.make == some .cut) = true := by kernel_rfl
end Go.Proofs.YtgahnjchpomcfaaDoor
