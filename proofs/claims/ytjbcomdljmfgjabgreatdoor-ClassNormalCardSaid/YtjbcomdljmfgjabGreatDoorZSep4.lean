/-
  The rules of the calculus for the greater and the lesser of two numbers with a sign. No program in sight. No conditions.
-/
import Derived.Test.YtjbcomdljmfgjabGreatDoorZSep3
namespace Go.Sep
open Go
set_option linter.unusedVariables false
section ops
variable {c : Cx} {L : List (Nat × Value)} {As R : List Asn} {T : TypeId}
end ops
end Go.Sep
