/-
  Contracts of functions of the program: each returns what a plain function says, for every input within the bounds named. Conditions: the bounds.
-/
import Derived.Test.YtikllmfjgpmcnaaGreatDoorRows
import Derived.Test.YtikllmfjgpmcnaaGreatDoorC5
import Derived.Test.YtikllmfjgpmcnaaGreatDoorSepM
import Derived.Test.YtikllmfjgpmcnaaGreatDoorLaw03D
namespace Go.Proofs.YtikllmfjgpmcnaaGreatDoor
open Go Go.Sep
set_option linter.unusedSimpArgs false
set_option linter.unusedVariables false

open Go.Plain




end Go.Proofs.YtikllmfjgpmcnaaGreatDoor
