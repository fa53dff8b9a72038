/-
 The rules of the calculus for the greater and the lesser of two numbers with a sign. No program in sight. No conditions.
-/
import Derived.Test.YtlniaacdjllonaaGreatGSep3
namespace Go.Sep
open Go
set_option linter.unusedVariables false
section ops
variable {c:Cx} {L:List (Nat×Value)} {As R:List Asn} {T:TypeId}
theorem pr_maxI {x y:Operand} {m n:Int} {tys:Array TypeId} (hx:ev L x=some (.int .i64 m)) (hy:ev L y=some (.int .i64 n)):PR c (.call { callee:=.builtin .max,args:=#[x,y],argTypes:=tys }) T L As (.int .i64 (max m n)):=fun a w hf _ d pos aft gd=>by
 have e:(if m<n then n else m)=max m n:=by
  split <;> omega
 simp [execOp,resolve,invoke,builtin,Builtin.max_,Builtin.max2,hf.ev hx,hf.ev hy,e]
end ops
end Go.Sep
