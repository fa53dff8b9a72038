/-
 The rules of the calculus for the equality of structs of two numbers. No program in sight. No conditions.
-/
import Derived.Test.YtfcidkjpebalkaaGreatDoorASep2
namespace Go.Sep
open Go
set_option linter.unusedVariables false
set_option linter.unusedSimpArgs false
section ops
variable {c:Cx} {L:List (Nat×Value)} {As R:List Asn} {Q:Exit→Act→World→Prop} {K:Act→World→Prop} {ops:Array Oper} {rest:List Oper} {T:TypeId} {pos:String} {aft:Array Edge} {gd:Option (Nat×Bool)}
theorem run_eq_ii {P:Program} {w:World} {t:TypeId} {f1 f2:Field} {a1 b1 a2 b2:Int} {k1 k2:IntKind} (hu:P.underlying t=some (.struct #[f1,f2])) (hp:P.stoodInHeld t=false)
  (n1:(f1.name=="_")=false) (n2:(f2.name=="_")=false) (o1:f1.offset=0) (o2:f2.offset=1) (u1:P.underlying f1.type=some (.int k1)) (u2:P.underlying f2.type=some (.int k2))
  {by1 by2:Nat} {z1 z2:Option Value} (t1:TyF P f1.type false 1 by1 z1) (t2:TyF P f2.type false 1 by2 z2) :
  (Op.equalIn 10000 t (.agg #[.int k1 a1,.int k2 a2]) (.agg #[.int k1 b1,.int k2 b2])).run P w=.ok (decide (a1=b1)&&decide (a2=b2)) w:=by
 have hfs:P.fieldsOf t=#[f1,f2]:=by simp [Program.fieldsOf,hu]
 have n1':f1.name≠"_":=by simpa using n1
 have n2':f2.name≠"_":=by simpa using n2
 have p1:∀ (x y:Value) ,(part f1.type #[x,y] 0).run P w=.ok x w:=fun x y=>by simp [part,t1.isAgg]
 have p2:∀ (x y:Value) ,(part f2.type #[x,y] 1).run P w=.ok y w:=fun x y=>by simp [part,t2.isAgg]
 have e2:∀ d t k (a b:Int),P.underlying t=some (.int k)→(Op.equalIn (d+1) t (.int k a) (.int k b)).run P w=.ok (decide (a=b)) w:=fun d t k a b h=>by
  unfold Op.equalIn
  by_cases hab:a=b <;> simp [run_underlying h,hab]
 rw [show (10000:Nat)=9999+1 from rfl,run_equalIn_agg w 9999 t _ _ (by rw [hfs];exact hu) hp,hfs]
 simp only [Op.eqFields,if_pos n1',if_pos n2',Sem.run_bind,o1,o2,p1,p2,Result.andThen_ok,e2 9998 _ _ _ _ u1,Sem.run_ite]
 by_cases h1:a1=b1
 ·simp only [h1,decide_true,Bool.not_true,Bool.false_eq_true,if_false,Sem.run_bind,o1,o2,p1,p2,Result.andThen_ok,e2 9998 _ _ _ _ u2,Sem.run_ite,Bool.true_and]
  by_cases h2:a2=b2 <;> simp [h2]
 ·simp [h1]
theorem pr_eql_ii {t t':TypeId} {x y:Operand} {f1 f2:Field} {a1 b1 a2 b2:Int} {k1 k2:IntKind} (hx:ev L x=some (.agg #[.int k1 a1,.int k2 a2])) (hy:ev L y=some (.agg #[.int k1 b1,.int k2 b2])) (hu:c.P.underlying t=some (.struct #[f1,f2])) (hp:c.P.stoodInHeld t=false) (hm:c.P.eqGuardType c.P.depth t=false)
  (n1:(f1.name=="_")=false) (n2:(f2.name=="_")=false) (o1:f1.offset=0) (o2:f2.offset=1) (u1:c.P.underlying f1.type=some (.int k1)) (u2:c.P.underlying f2.type=some (.int k2))
  {by1 by2:Nat} {z1 z2:Option Value} (t1:TyF c.P f1.type false 1 by1 z1) (t2:TyF c.P f2.type false 1 by2 z2):PR c (.binOp .eql t x y t') T L As (.bool (decide (a1=b1)&&decide (a2=b2))):=fun a w hf _ d pos aft gd=>by
 simp only [execOp,hf.ev hx,hf.ev hy,Sem.run_bind,run_eqGuard_agg w _ _ _ _ _ _ hm,Result.andThen_ok,run_eql_struct,run_eq_ii hu hp n1 n2 o1 o2 u1 u2 t1 t2,Sem.run_pure]
end ops
end Go.Sep
