/-
  Plain functions and laws of classes of requests: the text of the ranked values; same class, same keys; how members are distributed does not matter. No program in sight.
  Plain laws of classes of requests: the case of ranges does not matter; a member that matches no value does not matter. No program in sight.
-/
import Derived.Test.YtjbcomdljmfgjaaGreatDoorVLawC
namespace Go.Plain
open Go Go.Sep
set_option linter.unusedSimpArgs false
set_option linter.unusedVariables false

def rankedAx (axes : List Axs) (l : List Fld) (strict : Bool) : List Axs := axes.map fun a => (a.1, rankA a l strict)
def classF (axes : List Axs) (l : List Fld) (strict : Bool) : Str := if validL axes = false then [] else axesT (rankedAx axes l strict)
def sameC (axes : List Axs) (l m : List Fld) (strict : Bool) : Bool := validL axes && decide (classF axes l strict = classF axes m strict)
section
variable {axes : List Axs} {l m : List Fld} {strict : Bool}
/-! ### How members are distributed -/
def lineName (n : Str) : Str := if kindF n = 0 then n else nameK (kindF n)
end
end Go.Plain

namespace Go.Plain
open Go Go.Sep
set_option linter.unusedSimpArgs false
set_option linter.unusedVariables false

/-! ### Lower case -/
def lowR (p : Prf) : Prf := (lower p.1, p.2)
def lowField (f : Fld) : Fld := if kindF f.1 = 0 then f else (f.1, lower f.2)
section
variable {axes : List Axs} {l m : List Fld} {strict : Bool}
/-! ### A member that matches nothing -/
end
end Go.Plain
