/-
 The rules of the calculus for maps compared with nil,and for calls that look at own memory and hand back a new row of data without slices. No program in sight. No conditions.
-/
import Derived.Test.YtfcidkjpebalkaaGreatDoorASep7
import Derived.Test.YtfcidkjpebalkaaGreatDoorASep6
namespace Go.Sep
open Go
set_option linter.unusedVariables false
set_option linter.unusedSimpArgs false
section ops
variable {c:Cx} {L:List (Nat×Value)} {As R:List Asn} {Q:Exit→Act→World→Prop} {K:Act→World→Prop} {ops:Array Oper} {rest:List Oper} {T:TypeId} {pos:String} {aft:Array Edge} {gd:Option (Nat×Bool)}
/-- An element of an array's value,one cell each. -/
theorem W7 {ty E:TypeId} {x y:Operand} {cs:List Value} {len i by_:Nat} {z:Option Value} {v:Value} (hx:ev L x=some (.agg cs.toArray)) (hy:ev L y=some (.int .i64 (i:Int))) (hu:c.P.underlying ty=some (.array len E)) (he:TyF c.P E false 1 by_ z) (hi:i<len) (hv:cs[i]?=some v) :
  PR c (.index ty x y) T L As v:=fun a w hf _ d pos aft gd=>by
 simp [execOp,Instr.index,hf.ev hx,hf.ev hy,asIntOf,run_underlying hu,part,hi,he.isAgg,he.sizeOf,hv]
theorem str_at {xs:List (List UInt8)} {i:Nat} (h:i<xs.length):(xs.map str)[i]?=some (str (xs.getD i [])):=by
 rw [List.getElem?_map,List.getD_eq_getElem?_getD,List.getElem?_eq_getElem h];rfl
theorem int_at {xs:List Nat} {i:Nat} (h:i<xs.length):(xs.map fun n=>Value.int .i64 ((n:Nat):Int))[i]?=some (.int .i64 ((xs.getD i 0:Nat):Int)):=by
 rw [List.getElem?_map,List.getD_eq_getElem?_getD,List.getElem?_eq_getElem h];rfl
theorem pr_sslice_i {x lo hi:Operand} {m:List UInt8} {i j:Nat} {mi mj:Int} {k k':IntKind} {ty:TypeId} (hx:ev L x=some (str m)) (hlo:ev L lo=some (.int k mi)) (hhi:ev L hi=some (.int k' mj)) (ht:c.P.underlying ty=some .string)
  (ei:mi=(i:Int)) (ej:mj=(j:Int)) (hij:i≤j) (hj:j≤m.length):PR c (.slice ty x (some lo) (some hi) none) T L As (str ((m.take j).drop i)):=by
 subst ei;subst ej
 exact Yh hx hlo hhi ht hij hj
end ops
end Go.Sep
