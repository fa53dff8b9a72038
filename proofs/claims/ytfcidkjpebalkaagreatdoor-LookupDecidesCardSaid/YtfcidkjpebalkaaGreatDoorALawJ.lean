/-
 Tables and stores in plain Lean: sizes along Put and Replace,and that what is stored stays of bounded length. No program in sight. No conditions.
 The calls of a law on stores in plain Lean: the entry of a call,what a call does to a store,and that every store that calls make keeps the bounds. No program in sight. No conditions.
-/
import Derived.Test.YtfcidkjpebalkaaGreatDoorALawI
namespace Go.Plain
open Go.Sep
set_option linter.unusedVariables false
set_option linter.unusedSimpArgs false
end Go.Plain
namespace Go.Plain
open Go.Sep
set_option linter.unusedVariables false
set_option linter.unusedSimpArgs false
abbrev OpD:=Int×Int×Int×Int×Ent×List Axs
def and3 (m:Int):Nat:=(m % 4).toNat
def nameF (k:Int):Str:=[[97],[98],[99],[100]].getD (and3 k) []
def keepE (e:Ent):Bool:=((((keepK e.1&&Wm e.2.1)&&Wm e.2.2.1)&&decide (e.2.2.2.1.length≤100))&&decide (e.2.2.2.2.2.1.length≤2000))&&WJ e.2.2.2.2.1
def keepO (o:OpD):Bool:=keepE o.2.2.2.2.1&&QV o.2.2.2.2.2
def smallL (l:List OpD):Bool:=(l.take 13).all keepO&&decide (l.length≤12)
def ofE (o:OpD):Ent:=(o.2.2.2.2.1.1,o.2.2.2.2.1.2.1,o.2.2.2.2.1.2.2.1,o.2.2.2.2.1.2.2.2.1,o.2.2.2.2.1.2.2.2.2.1,o.2.2.2.2.1.2.2.2.2.2.1++List.replicate (min o.2.2.2.1.toNat 200) 120,o.2.2.2.2.1.2.2.2.2.2.2)
def doA (B V T:Nat) (A:Sto) (o:OpD):Sto :=
 if and3 o.1=0 then putA B V T A (nameF o.2.1) (ofE o) o.2.2.2.2.2 else if and3 o.1=1 then touchA A (nameF o.2.1) else if and3 o.1=2 then replA B T A (nameF o.2.1) o.2.2.1 (ofE o) else delS A (nameF o.2.1)
def doB (B:Nat) (A:Sto) (o:OpD):Bool :=
 if and3 o.1=0 then fitsB B (ofE o) o.2.2.2.2.2 else if and3 o.1=1 then inA A (nameF o.2.1) else if and3 o.1=2 then replB2 B A (nameF o.2.1) o.2.2.1 (ofE o) else inA A (nameF o.2.1)
section
variable {B V T:Nat} {A:Sto} {o:OpD}
end
def runA (B V T:Nat) (A:Sto) (l:List OpD):Sto:=l.foldl (doA B V T) A
def noOp:OpD:=(0,0,0,0,noEnt,[])
structure KeepE (e:Ent):Prop where
 k:keepK e.1=true
 v:Wm e.2.1=true
 n:Wm e.2.2.1=true
 r:e.2.2.2.1.length≤100
 b:e.2.2.2.2.2.1.length≤2000
 f:WJ e.2.2.2.2.1=true
theorem keepE_of {e:Ent} (h:keepE e=true):KeepE e:=by
 unfold keepE at h
 simp only [Bool.and_eq_true,decide_eq_true_iff] at h
 exact ⟨h.1.1.1.1.1,h.1.1.1.1.2,h.1.1.1.2,h.1.1.2,h.1.2,h.2⟩
theorem okA_keep {l:List Axs} (h:QV l=true):OkA l :=
 ⟨by have:=keepA_len h;omega,fun a ha=>by have:=keepA_mem h a ha;omega,fun a ha=>by have:=keepA_mem h a ha;omega,fun a ha x hx=>by have:=(keepA_mem h a ha).2.2 x hx;omega⟩
/-- What holds of a store between the calls. -/
structure StoA (B V T:Nat) (A:Sto):Prop where
 inv:InvA B V T A
 ok:∀ x∈A,OkT x.2
structure LimA (B V T:Nat):Prop where
 b:1≤B∧B≤100000000
 v:1≤V∧V≤64
 t:1≤T∧T≤1000
theorem StoA.len {B V T:Nat} {A:Sto} (hl:LimA B V T) (h:StoA B V T A):totA A≤100000000∧A.length≤1000:=by
 have:=h.inv.tot
 have:=hl.b
 have:=hl.t
 omega
def allowB (b v t:Int):Bool:=((((decide (1≤b)&&decide (b≤100000000))&&decide (1≤v))&&decide (v≤64))&&decide (1≤t))&&decide (t≤1000)
end Go.Plain
