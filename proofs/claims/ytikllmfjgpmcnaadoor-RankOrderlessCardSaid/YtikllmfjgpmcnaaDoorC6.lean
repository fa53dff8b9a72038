/-
  Contracts of functions of the program: each returns what a plain function says, for every input within the bounds named. Conditions: the bounds.
-/
import Derived.Test.YtikllmfjgpmcnaaDoorRows
import Derived.Test.YtikllmfjgpmcnaaDoorC5
import Derived.Test.YtikllmfjgpmcnaaDoorSepM
import Derived.Test.YtikllmfjgpmcnaaDoorLaw03D
namespace Go.Proofs.YtikllmfjgpmcnaaDoor
open Go Go.Sep
set_option linter.unusedSimpArgs false
set_option linter.unusedVariables false

open Go.Plain




end Go.Proofs.YtikllmfjgpmcnaaDoor
