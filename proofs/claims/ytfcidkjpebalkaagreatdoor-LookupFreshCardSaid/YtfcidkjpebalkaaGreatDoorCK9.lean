/-
 Contracts of functions of the program: each returns what a plain function says,for every input within the bounds named. Conditions: the bounds.
-/
import Derived.Test.YtfcidkjpebalkaaGreatDoorRows
import Derived.Test.YtfcidkjpebalkaaGreatDoorCK5
import Derived.Test.YtfcidkjpebalkaaGreatDoorCLawE
namespace Go.Proofs.YtfcidkjpebalkaaGreatDoor
open Go Go.Sep
set_option linter.unusedSimpArgs false
set_option linter.unusedVariables false
open Go.Plain
end Go.Proofs.YtfcidkjpebalkaaGreatDoor
