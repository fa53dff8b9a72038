/-
 The rules of the calculus for own slices in any number,and for own maps from strings to data. No program in sight. No conditions.
-/
import Derived.Test.YtfcidkjpebalkaaGreatDoorASep2
import Derived.Test.YtfcidkjpebalkaaGreatDoorASep3
import Derived.ChangeMaps4
namespace Go.Sep
open Go
set_option linter.unusedVariables false
set_option linter.unusedSimpArgs false
/-! ### Own slices,in any number -/
section ops
variable {c:Cx} {L:List (Nat×Value)} {As R:List Asn} {Q:Exit→Act→World→Prop} {K:Act→World→Prop} {ops:Array Oper} {rest:List Oper} {T:TypeId} {pos:String} {aft:Array Edge} {gd:Option (Nat×Bool)}
end ops
/-! ### Own maps from strings to data -/
def delS {α:Type} (l:List (List UInt8×α)) (k:List UInt8):List (List UInt8×α):=l.filter fun p=>!decide (p.1=k)
section ops2
variable {c:Cx} {L:List (Nat×Value)} {As R:List Asn} {Q:Exit→Act→World→Prop} {K:Act→World→Prop} {ops:Array Oper} {rest:List Oper} {T:TypeId} {pos:String} {aft:Array Edge} {gd:Option (Nat×Bool)}
end ops2
end Go.Sep
