/-
 The rules of the calculus for the equality of structs of two numbers. No program in sight. No conditions.
-/
import Derived.Test.YtlniaacdjllonaaGreatGSep2
namespace Go.Sep
open Go
set_option linter.unusedVariables false
set_option linter.unusedSimpArgs false
section ops
variable {c:Cx} {L:List (Nat×Value)} {As R:List Asn} {Q:Exit→Act→World→Prop} {K:Act→World→Prop} {ops:Array Oper} {rest:List Oper} {T:TypeId} {pos:String} {aft:Array Edge} {gd:Option (Nat×Bool)}
end ops
end Go.Sep
