/-
 Contracts of functions of the program: each returns what a plain function says, for every input within the bounds named. Conditions: the bounds.
-/
import Derived.Test.YtjbcomdljmfgjaaGreatDoorRows
import Derived.Test.YtjbcomdljmfgjaaGreatDoorXK5
namespace Go.Proofs.YtjbcomdljmfgjaaGreatDoor
open Go Go.Sep
set_option linter.unusedSimpArgs false
set_option linter.unusedVariables false

open Go.Plain

theorem cal_16 : Cal Tryz.prog 16 := cal_of Tryz.func16 (by kernel_rfl) rfl
theorem cal_31 : Cal Tryz.prog 31 := cal_of Tryz.func31 (by kernel_rfl) rfl
end Go.Proofs.YtjbcomdljmfgjaaGreatDoor
