/-
 The rules of the calculus for own rows of data that hold slices: read,written,sliced,cleared behind their end,shifted in place. No program in sight. No conditions.
 Regions that draw their order and change memory: operations that look at memory which only the region's last operations change are taken first. No program in sight. No conditions.
-/
import Derived.Test.YtfcidkjpebalkaaGreatDoorASep3
import Derived.Test.YtfcidkjpebalkaaGreatDoorASep4
namespace Go.Sep
open Go
set_option linter.unusedVariables false
set_option linter.unusedSimpArgs false
section ops
variable {c:Cx} {L:List (Nat×Value)} {As R:List Asn} {Q:Exit→Act→World→Prop} {K:Act→World→Prop} {ops:Array Oper} {rest:List Oper} {T:TypeId} {pos:String} {aft:Array Edge} {gd:Option (Nat×Bool)}
/-! ### Elements with slices in them -/
theorem load_core {ty E:TypeId} {agg:Bool} {m by_:Nat} {z:Option Value} {w:World} {I:zt} {g cap i o d:Nat} {t:Ty} {xs:List t.den} {mk:Bool} (dd:t.den) (hr:wh w I mk g cap E t xs) (ht:TyF c.P ty agg m by_ z) (h1:agg=false→m=1) (hom:o+m≤t.n) (hi:i<xs.length) :
  ∃ cs,repC w I t cs (xs.getD i dd)∧(loadVar ty ⟨g,i*t.n+o,none⟩).run c.P w=.ok (qd agg ((cs.drop o).take m)) w:=by
 obtain ⟨cs,h2,h3,h4⟩:=hr.cell hi
 refine ⟨cs,by rw [getD_eq (dd:=dd) hi];exact h2,Yj ht w ⟨g,i*t.n+o,none⟩ ((cs.drop o).take m) (by rw [List.length_take,List.length_drop];omega) h1 (fun j u hu=>?_)⟩
 rw [List.getElem?_take] at hu
 split at hu
 ·rw [List.getElem?_drop] at hu
  rw [Addr.add_mk,Nat.add_assoc]
  exact h4 _ u hu
 ·cases hu
theorem jo_loadO {ty E:TypeId} {agg:Bool} {m by_:Nat} {z:Option Value} {x:Operand} {g o p i cap d:Nat} {t:Ty} {xs:List t.den} (dd:t.den) (hx:ev L x=some (.pointer (some ⟨g,p,none⟩))) (ht:TyF c.P ty agg m by_ z) (h1:agg=false→m=1) (hom:Nat.ble (o+m) t.n=true) (hA:Asn.rowg g cap E t xs∈As) (hi:i<xs.length) (hp:i*t.n+o=p) (hd:Nat.blt d c.n=true)
  (h:∀ lv:LV t,J c ((d,qd agg (((encL t (xs.getD i dd) lv).drop o).take m))::L) (immsL t (xs.getD i dd) lv++As) (wpList c.P ops Q rest)):J c L As (wpList c.P ops Q (⟨some d,.load ty x,T,pos,aft,none⟩::rest)):=YJ rfl fun a w hf hm=>by
 obtain ⟨I,m0,he,hs⟩:=hm
 obtain ⟨m1,hA1,_⟩:=hs.mem_own hA
 subst hp
 obtain ⟨cs,hrep,hrun⟩:=load_core (c:=c) (d:=d) (o:=o) dd hA1.2 ht h1 (Nat.le_of_ble_eq_true hom) hi
 show Oper.upon _ _ _ _ _ ((execOp a.eval _).run c.P w)
 have hr:(execOp a.eval ⟨some d,.load ty x,T,pos,aft,none⟩).run c.P w=.ok (.value (qd agg ((cs.drop o).take m))) w:=by
  simp only [execOp,hf.ev hx,Instr.loadAt,Instr.sureAddr,Sem.run_bind,Sem.run_pure,Result.andThen_ok,hrun]
 obtain ⟨lv,hcs,himm⟩:=Qi hrep
 rw [hr,hcs]
 exact h lv _ _ (hf.put (by rw [Nat.blt_eq] at hd;exact hd) _) ⟨I,m0,he,Sats.nil_append himm hs⟩
/-! ### Slices of an own row from an index on -/
def ownS (g cap l k n:Nat):Value:=.slice (some (if cap=l then ⟨g,0,none⟩ else ⟨g,l*n,none⟩)) k (cap-l)
theorem yW {A1 A2 A3 A4 A5 A6 A7 A8 A9 A10 A11 A12 X:Asn} (h:J c L (X::A1::A2::A3::A4::A5::A6::A7::A8::A9::A10::A11::A12::As) K):J c L (A1::A2::A3::A4::A5::A6::A7::A8::A9::A10::A11::A12::X::As) K:=q6 (fun _ h=>Mem.pull (As:=[A1,A2,A3,A4,A5,A6,A7,A8,A9,A10,A11,A12]) h) h
theorem zg {A1 A2 A3 A4 A5 A6 A7 A8 A9 A10 A11 A12 A13 A14 X:Asn} (h:J c L (X::A1::A2::A3::A4::A5::A6::A7::A8::A9::A10::A11::A12::A13::A14::As) K):J c L (A1::A2::A3::A4::A5::A6::A7::A8::A9::A10::A11::A12::A13::A14::X::As) K:=q6 (fun _ h=>Mem.pull (As:=[A1,A2,A3,A4,A5,A6,A7,A8,A9,A10,A11,A12,A13,A14]) h) h
theorem pr_max_sub {x y:Operand} {m n:Nat} {tys:Array TypeId} (hx:ev L x=some (.int .i64 ((m:Nat)-(n:Nat):Int))) (hy:ev L y=some (.int .i64 ((0:Nat):Int))):PR c (.call { callee:=.builtin .max,args:=#[x,y],argTypes:=tys }) T L As (.int .i64 ((m-n:Nat):Int)):=by
 have e:((m-n:Nat):Int)=max ((m:Nat)-(n:Nat):Int) ((0:Nat):Int):=by omega
 rw [e]
 exact pr_maxI hx hy
end ops
end Go.Sep
namespace Go.Sep
open Go
set_option linter.unusedVariables false
set_option linter.unusedSimpArgs false
/-- None of these has come up. -/
def clearOf (bar:List Nat) (listed:Array Bool):Bool:=bar.all fun b=>!(listed.getD b true)
/-- Each of these waits for number i. -/
def waitsFor (md:Region.Mode) (ops:Array Oper) (bar:List Nat) (i:Nat):Bool:=bar.all fun b=>match ops[b]? with
 | some o=>o.after.any fun e=>Region.binds md e&&e.on==i
 | none=>false
section held
variable {P:Program} {ops:Array Oper} {Q:Exit→Act→World→Prop} {md:Region.Mode} {S:World→Prop} {bar:List Nat}
def wpAnyI (P:Program) (md:Region.Mode) (ops:Array Oper) (Q:Exit→Act→World→Prop) (S:World→Prop) (bar:List Nat):Nat→Array Bool→Act→World→Prop
 | 0,listed,a,w=>Region.ready md ops listed=[]∧Q .normal a w
 | fuel+1,listed,a,w =>
  (Region.ready md ops listed=[]→Q .normal a w) ∧
  ∀ i∈Region.ready md ops listed,wpOp P ops Q i (fun a' w'=>(clearOf bar (listed.setIfInBounds i true)=true→S w')∧wpAnyI P md ops Q S bar fuel (listed.setIfInBounds i true) a' w') a w
end held
section ops
variable {c:Cx} {L:List (Nat×Value)} {As R:List Asn} {Q:Exit→Act→World→Prop} {K:Act→World→Prop} {ops:Array Oper} {rest:List Oper} {T:TypeId} {pos:String} {aft:Array Edge} {gd:Option (Nat×Bool)}
def JI (c:Cx) (As0:List Asn) (bar:List Nat) (ops:Array Oper) (F:Act→World→Prop) (fuel:Nat) (listed:Array Bool) (L:List (Nat×Value)) (As:List Asn):Prop :=
 J c L As (fun a w=>wpAnyI c.P .any ops (only F) (Mem c As0) bar fuel listed a w)
variable {As0:List Asn} {bar:List Nat} {F:Act→World→Prop} {fuel:Nat} {listed listed':Array Bool}
end ops
end Go.Sep
