/-
 The rules of the calculus for fields of elements,and for calls through function values. No program in sight. No conditions.
 The rules of the calculus for ways that meet again,for data that hold slices,and for appending what nobody writes any more. No program in sight. No conditions.
 The rules of the calculus for pointers held against each other and for what a strings.Builder does. No program in sight. No conditions.
 The rules of the calculus for maps that one has made,for making slices,for the least of two numbers,for division,and for what strings.Builder's Grow does. No program in sight. No conditions.
 slices.Insert in the calculus: from the kit's four proved roads to one contract. Conditions: the roads,told as hypotheses.
 The rules of the calculus for interface values and their methods,and for maps of one's own whose keys are strings. No program in sight. No conditions.
 From a row's reading of an argument to the calculus' data. No program in sight. No conditions.
-/
import Derived.Test.YtlniaacdjllonaaGreatGSep1
import Derived.Deep.Slices
import Derived.Lib.AppendStr
import Derived.Lib.Builder
import Derived.Lib.UnsafeStr
import Derived.Lib.MakeNoZero
import Derived.Lib.Bytealg
import Derived.Shelf.Spec.SlicesInsertGrow
import Derived.Scope
import Derived.Laws.Runes
import Derived.Laws.RangeString
import Derived.ProofKit
import Derived.OpenShut
import Derived.ChangeSame
namespace Go.Sep
open Go
set_option linter.unusedSimpArgs false
/-- Where a part of element i of a slice lies. -/
def qR (v:Value) (i n o:Nat):Value :=
 match v with
 | .slice (some a) _ _=>.pointer (some (a.add (i*n+o)))
 | _=>.pointer none
section ops
variable {c:Cx} {L:List (Nat×Value)} {As R:List Asn} {Q:Exit→Act→World→Prop} {K:Act→World→Prop} {ops:Array Oper} {rest:List Oper} {T:TypeId} {pos:String} {aft:Array Edge} {gd:Option (Nat×Bool)}
theorem Wl {s:TypeId} {x:Operand} {k b off n cap i m:Nat} {fs:Array Field} {f:Field} {agg:Bool} {n' by_:Nat} {z:Option Value} {a:Act} {w:World} {nn:Nat} {v:Value} (hf':Fits nn L a) (hv:v=.slice (some ⟨b,off,none⟩) n cap) (hx:ev L x=some (Zn v i m)) (hu:c.P.underlying s=some (.struct fs)) (hf:fs[k]?=some f)
  (ht:TyF c.P f.type agg n' by_ z) (hn:Nat.blt 0 n'=true) {d:Option Tmp}:(execOp a.eval ⟨d,.fieldAddr s x k,T,pos,aft,gd⟩).run c.P w=.ok (.value (qR v i m f.offset)) w:=by
 subst hv
 have hn':n'≠0:=by rw [Nat.blt_eq] at hn;omega
 simp [execOp,Instr.fieldAt,hf'.ev hx,run_underlying hu,hf,Instr.sureAddr,fieldPlace,ht.sizeOf,hn',Addr.add_mk,Zn,qR,Nat.add_assoc]
theorem zc {s:TypeId} {x:Operand} {k i o:Nat} {fs:Array Field} {f:Field} {agg:Bool} {n by_:Nat} {z:Option Value} {v:Value} {t:Ty} {xs:List t.den} (hx:ev L x=some (Zn v i t.n)) (hA:Asn.imm (.list t) v xs∈As) (hu:c.P.underlying s=some (.struct fs)) (hf:fs[k]?=some f)
  (ht:TyF c.P f.type agg n by_ z) (hn:Nat.blt 0 n=true) (ho:f.offset=o) (hi:i<xs.length):PR c (.fieldAddr s x k) T L As (qR v i t.n o):=fun a w hf' hm d pos aft gd=>by
 obtain ⟨I,m,_,rfl,cs,hv,hr⟩:=hm.get hA
 obtain ⟨ad,len,cap,rfl,hl,_,hr⟩:=hr
 rcases hr with h | ⟨b,off,C,E',fz,rfl,_⟩
 ·subst h;simp at hi
 ·rw [← ho];exact Wl (c:=c) hf' hv hx hu hf ht hn
theorem YV {s E:TypeId} {x:Operand} {k i o:Nat} {fs:Array Field} {f:Field} {agg:Bool} {n by_:Nat} {z:Option Value} {v:Value} {t:Ty} {xs:List t.den} (hx:ev L x=some (Zn v i t.n)) (hA:Asn.row v E t xs∈As) (hu:c.P.underlying s=some (.struct fs)) (hf:fs[k]?=some f)
  (ht:TyF c.P f.type agg n by_ z) (hn:Nat.blt 0 n=true) (ho:f.offset=o) (hi:i<xs.length):PR c (.fieldAddr s x k) T L As (qR v i t.n o):=fun a w hf' hm d pos aft gd=>by
 obtain ⟨I,m,_,hr⟩:=hm.get hA
 rcases hr with ⟨_,h,_⟩ | ⟨g,cap,rfl,_,hr⟩
 ·subst h;simp at hi
 ·rw [← ho];exact Wl (c:=c) hf' rfl hx hu hf ht hn
theorem load_off {w:World} {ty:TypeId} {agg:Bool} {m by_:Nat} {z:Option Value} {b off o:Nat} {C:Array Value} {E:TypeId} {fz:Nat×Nat} {t:Ty} {I:zl} {x:t.den} (ht:TyF c.P ty agg m by_ z) (h1:agg=false→m=1) (hfl:t.flat=true) (hom:o+m≤t.n) (hh:w.heap[b]?=some (.cells C E fz)) (hr:repC w I t ((C.toList.drop off).take t.n) x) :
  (loadVar ty ⟨b,off+o,none⟩).run c.P w=.ok (Zl agg (((enc t x).drop o).take m)) w:=by
 have hr':=(Zd hfl).1 hr
 have hl:=q7 x
 refine Yj ht w ⟨b,off+o,none⟩ _ (by simp;omega) h1 (fun j u hu=>?_)
 rw [Addr.add_mk,z4 hh]
 rw [← hr',List.getElem?_take] at hu
 split at hu
 ·rw [List.getElem?_drop,List.getElem?_take] at hu
  split at hu
  ·rw [List.getElem?_drop,← Nat.add_assoc] at hu;simpa using hu
  ·cases hu
 ·cases hu
theorem Zo {ty:TypeId} {agg:Bool} {m by_:Nat} {z:Option Value} {x:Operand} {v:Value} {t:Ty} {xs:List t.den} {i o:Nat} {dd:t.den} (u:Value) (hx:ev L x=some (qR v i t.n o)) (hA:Asn.imm (.list t) v xs∈As) (ht:TyF c.P ty agg m by_ z) (hfl:t.flat=true) (h1:agg=false→m=1) (hom:Nat.ble (o+m) t.n=true) (hi:i<xs.length)
  (hu:Zl agg (((enc t (xs.getD i dd)).drop o).take m)=u):PR c (.load ty x) T L As u:=fun a w hf hm d pos aft gd=>by
 obtain ⟨I,m',_,rfl,hr⟩:=hm.get hA
 obtain ⟨b,off,C,E,fz,e,_,h2,_,h4⟩:=imm_cell hr hi
 have:=load_off (c:=c) ht h1 hfl (Nat.le_of_ble_eq_true hom) h2 h4
 rw [← getD_eq (dd:=dd) hi,hu] at this
 have e':qR v i t.n o=.pointer (some ⟨b,off+o,none⟩):=by
  unfold Zn at e
  unfold qR
  split at e
  ·rename_i a' _ _
   simp only [Value.pointer.injEq,Option.some.injEq] at e ⊢
   rw [← Deep.add_add,e,Addr.add_mk]
  ·cases e
 rw [e'] at hx
 simp only [execOp,hf.ev hx,Instr.loadAt,Instr.sureAddr,Sem.run_bind,Sem.run_pure,Result.andThen_ok,this]
/-! ### Calls through function values -/
theorem run_callv {x:Operand} {os:List Operand} {vs fi ca:List Value} {f:FuncId} {tys:Array TypeId} {P:Program} {a:Act} {n:Nat} (hf:Fits n L a) (hx:ev L x=some (.func (.func f) fi.toArray ca.toArray)) (hc:Cal P f) (hv:EvL L os vs) {d:Option Tmp} (w:World) :
  (execOp a.eval ⟨d,.call { callee:=.value x,args:=os.toArray,argTypes:=tys },T,pos,aft,gd⟩).run P w=.ok (.enter f (fi++vs++ca).toArray) w:=by
 have hm:=hv.map hf
 have:=hc (fi++vs++ca).toArray w
 simp only [execOp,resolve,invoke,Deferred.ofValue,hf.ev hx,Sem.run_bind,Sem.run_pure,Result.andThen_ok,List.map_toArray,hm]
 simpa using this
/-- A call through a function value,by a contract that asks only what lasts. -/
theorem Z5 {x:Operand} {os:List Operand} {vs fi ca:List Value} {f:FuncId} {tys:Array TypeId} {Bs:List Asn} {ι:Type} {val:ι→Value} {asn:ι→List Asn} {d:Nat} (hx:ev L x=some (.func (.func f) fi.toArray ca.toArray)) (hc:Cal c.P f) (con:Con c.P f (fi++vs++ca).toArray Bs val asn) (hv:EvL L os vs) (hd:Nat.blt d c.n=true) (hB:HasP As Bs)
  (h:∀ i,J c ((d,val i)::L) (asn i++As) (wpList c.P ops Q rest)):J c L As (wpList c.P ops Q (⟨some d,.call { callee:=.value x,args:=os.toArray,argTypes:=tys },T,pos,aft,none⟩::rest)):=Yc rfl fun a w hf hm=>by
 show Oper.upon _ _ _ _ _ ((execOp a.eval _).run c.P w)
 rw [run_callv hf hx hc hv w]
 obtain ⟨I,m,he,hs⟩:=hm
 have ho:=he.okw
 refine (con w I [] ho.nil (hB.sats hs)).mono fun e w' hE=>?_
 obtain ⟨i,I',m1',rfl,h3,h4⟩:=hE
 exact h i _ _ (hf.put (by rw [Nat.blt_eq] at hd;exact hd) _) ⟨I',m1'++m,he.trans (Eff.frame (m1:=[]) ho h3),Yl.2 ⟨m1',m,rfl,h4,Sats.frame (m1:=[]) ho h3 hs⟩⟩
end ops
end Go.Sep
namespace Go.Sep
open Go
set_option linter.unusedSimpArgs false
set_option linter.unusedVariables false
section code
variable {c:Cx} {L:List (Nat×Value)} {As:List Asn} {Q:Exit→Act→World→Prop} {K:Act→World→Prop}
theorem jc_loop5 {x:Code} {S0 S1 S2 S3 S4:Type} (StL:S0→S1→S2→S3→S4→List (Nat×Value)) (StA:S0→S1→S2→S3→S4→List Asn) (inv:S0→S1→S2→S3→S4→Prop) (meas:S0→S1→S2→S3→S4→Nat) (a0:S0) (a1:S1) (a2:S2) (a3:S3) (a4:S4) (h0:inv a0 a1 a2 a3 a4)
  (hL:SubL (StL a0 a1 a2 a3 a4) L) (hA:∀ w,Mem c As w→Mem c (StA a0 a1 a2 a3 a4) w)
  (round:∀ x0 x1 x2 x3 x4,inv x0 x1 x2 x3 x4→J c (StL x0 x1 x2 x3 x4) (StA x0 x1 x2 x3 x4) (x.wp c.P (Exit.then (fun a w=>∃ s':S0×S1×S2×S3×S4,inv s'.1 s'.2.1 s'.2.2.1 s'.2.2.2.1 s'.2.2.2.2∧meas s'.1 s'.2.1 s'.2.2.1 s'.2.2.2.1 s'.2.2.2.2<meas x0 x1 x2 x3 x4∧Fits c.n (StL s'.1 s'.2.1 s'.2.2.1 s'.2.2.2.1 s'.2.2.2.2) a∧Mem c (StA s'.1 s'.2.1 s'.2.2.1 s'.2.2.2.1 s'.2.2.2.2) w) Q))) :
  J c L As ((Code.loop x).wp c.P Q) :=
 zu (S:=S0×S1×S2×S3×S4) (fun s=>StL s.1 s.2.1 s.2.2.1 s.2.2.2.1 s.2.2.2.2) (fun s=>StA s.1 s.2.1 s.2.2.1 s.2.2.2.1 s.2.2.2.2) (fun s=>inv s.1 s.2.1 s.2.2.1 s.2.2.2.1 s.2.2.2.2) (fun s=>meas s.1 s.2.1 s.2.2.1 s.2.2.2.1 s.2.2.2.2) (a0,a1,a2,a3,a4) h0 hL hA fun s h=>round s.1 s.2.1 s.2.2.1 s.2.2.2.1 s.2.2.2.2 h
end code
/-! ### Data that hold slices -/
/-- The slices within a datum. -/
@[reducible] def LV:Ty→Type
 | .list _=>Value
 | .pair a b=>LV a×LV b
 | _=>Unit
def encL:(t:Ty)→t.den→LV t→List Value
 | .bool,x,_=>[.bool x]
 | .int k,x,_=>[.int k x]
 | .u8,x,_=>[byte x]
 | .raw,x,_=>[x]
 | .str,x,_=>[str x]
 | .list _,_,v=>[v]
 | .pair a b,x,v=>encL a x.1 v.1++encL b x.2 v.2
def immsL:(t:Ty)→t.den→LV t→List Asn
 | .list t,x,v=>[.imm (.list t) v x]
 | .pair a b,x,v=>immsL a x.1 v.1++immsL b x.2 v.2
 | .bool,_,_=>[]
 | .int _,_,_=>[]
 | .u8,_,_=>[]
 | .raw,x,_=>[.fact (fun _ _=>x.oneCell'=true)]
 | .str,_,_=>[]
theorem encL_len:∀ {t:Ty} (x:t.den) (v:LV t),(encL t x v).length=t.n
 | .bool,_,_ | .int _,_,_ | .u8,_,_ | .str,_,_ | .list _,_,_ | .raw,_,_=>rfl
 | .pair a b,x,v=>by simp only [encL,List.length_append,encL_len,Ty.n]
theorem Sats.nil_append {w:World} {I:zl} {As Bs:List Asn} {m:List Nat} (h1:Sats w I As []) (h2:Sats w I Bs m):Sats w I (As++Bs) m:=Yl.2 ⟨[],m,rfl,h1,h2⟩
theorem ws {w:World} {I:zl}:∀ {t:Ty} {cs:List Value} {x:t.den},repC w I t cs x→∃ v:LV t,cs=encL t x v∧Sats w I (immsL t x v) []
 | .bool,_,_,h=>⟨(),(by simp only [repC] at h;exact h),rfl⟩
 | .int _,_,_,h=>⟨(),(by simp only [repC] at h;exact h),rfl⟩
 | .u8,_,_,h=>⟨(),(by simp only [repC] at h;exact h),rfl⟩
 | .raw,_,_,h=>⟨(),(by simp only [repC] at h;exact h.1),[],[],rfl,⟨rfl,fun _ _ _ _ _=>(by simp only [repC] at h;exact h.2)⟩,rfl⟩
 | .str,_,_,h=>⟨(),(by simp only [repC] at h;exact h),rfl⟩
 | .list t,cs,x,h=>by
  have h':=h
  simp only [repC] at h'
  obtain ⟨a,len,cap,rfl,_⟩:=h'
  exact ⟨.slice a len cap,rfl,[],[],rfl,⟨rfl,[_],rfl,h⟩,rfl⟩
 | .pair a b,cs,x,h=>by
  simp only [repC] at h
  obtain ⟨c1,c2,rfl,h1,h2⟩:=h
  obtain ⟨v1,e1,s1⟩:=ws h1
  obtain ⟨v2,e2,s2⟩:=ws h2
  exact ⟨(v1,v2),by rw [e1,e2];rfl,Sats.nil_append s1 s2⟩
/-- Element i of a slice holds just these cells. -/
def YE (w:World) (I:zl) (v:Value) (i:Nat) (n:Nat) (cs:List Value):Prop :=
 ∃ b off C E fz,Zn v i n=.pointer (some ⟨b,off,none⟩)∧I b∧w.heap[b]?=some (.cells C E fz)∧(C.toList.drop off).take n=cs∧cs.length=n
section ops
variable {c:Cx} {L:List (Nat×Value)} {As R:List Asn} {Q:Exit→Act→World→Prop} {K:Act→World→Prop} {ops:Array Oper} {rest:List Oper} {T:TypeId} {pos:String} {aft:Array Edge} {gd:Option (Nat×Bool)}
/-- An element of a slice that nobody writes any more,opened. -/
theorem ze {v:Value} {t:Ty} {xs:List t.den} {i:Nat} (dd:t.den) (hA:Asn.imm (.list t) v xs∈As) (hi:i<xs.length)
  (h:∀ lv:LV t,J c L (immsL t (xs.getD i dd) lv++.fact (fun w I=>YE w I v i t.n (encL t (xs.getD i dd) lv))::As) K):J c L As K:=fun a w hf hm=>by
 obtain ⟨I,m,he,hs⟩:=hm
 obtain ⟨_,hr⟩:=hs.pers hA rfl
 obtain ⟨b,off,C,E,fz,e,h1,h2,_,h4⟩:=imm_cell hr hi
 rw [← getD_eq (dd:=dd) hi] at h4
 obtain ⟨lv,e4,s4⟩:=ws h4
 refine h lv a w hf ⟨I,m,he,Sats.nil_append s4 ⟨[],m,rfl,⟨rfl,fun w' I' _ hb hI=>⟨b,off,C,E,fz,e,hI b h1,(hb b h1).trans h2,e4,encL_len _ _⟩⟩,hs⟩⟩
theorem zF {ty:TypeId} {agg:Bool} {n by_:Nat} {z:Option Value} {x:Operand} {v:Value} {i:Nat} {cs:List Value} (u:Value) (hx:ev L x=some (Zn v i n)) (hA:Asn.fact (fun w I=>YE w I v i n cs)∈As) (ht:TyF c.P ty agg n by_ z) (h1:agg=false→n=1)
  (hu:Zl agg cs=u):PR c (.load ty x) T L As u:=fun a w hf hm d pos aft gd=>by
 obtain ⟨I,m,ho,_,hr⟩:=hm.get hA
 obtain ⟨b,off,C,E,fz,e,_,h2,h4,h5⟩:=hr w I (Nat.le_refl _) (fun _ _=>rfl) (fun _ h=>h)
 rw [e] at hx
 have:=Yj ht w ⟨b,off,none⟩ cs h5 h1 (fun j u hu=>by
  rw [Addr.add_mk,z4 h2]
  rw [← h4,List.getElem?_take] at hu
  split at hu
  ·simpa using hu
  ·cases hu)
 simp only [execOp,hf.ev hx,Instr.loadAt,Instr.sureAddr,Sem.run_bind,Sem.run_pure,Result.andThen_ok,this,hu]
theorem zU {ty:TypeId} {agg:Bool} {n m by_:Nat} {z:Option Value} {x:Operand} {v:Value} {i o:Nat} {cs:List Value} (u:Value) (hx:ev L x=some (qR v i n o)) (hA:Asn.fact (fun w I=>YE w I v i n cs)∈As) (ht:TyF c.P ty agg m by_ z) (h1:agg=false→m=1) (hom:Nat.ble (o+m) n=true)
  (hu:Zl agg ((cs.drop o).take m)=u):PR c (.load ty x) T L As u:=fun a w hf hm d pos aft gd=>by
 obtain ⟨I,m',ho,_,hr⟩:=hm.get hA
 obtain ⟨b,off,C,E,fz,e,_,h2,h4,h5⟩:=hr w I (Nat.le_refl _) (fun _ _=>rfl) (fun _ h=>h)
 have hom':=Nat.le_of_ble_eq_true hom
 have e':qR v i n o=.pointer (some ⟨b,off+o,none⟩):=by
  unfold Zn at e
  unfold qR
  split at e
  ·rename_i a' _ _
   simp only [Value.pointer.injEq,Option.some.injEq] at e ⊢
   rw [← Deep.add_add,e,Addr.add_mk]
  ·cases e
 rw [e'] at hx
 have:=Yj ht w ⟨b,off+o,none⟩ ((cs.drop o).take m) (by simp;omega) h1 (fun j u hu=>by
  rw [Addr.add_mk,z4 h2]
  rw [← h4,List.getElem?_take] at hu
  split at hu
  ·rw [List.getElem?_drop,List.getElem?_take] at hu
   split at hu
   ·rw [List.getElem?_drop,← Nat.add_assoc] at hu;simpa using hu
   ·cases hu
  ·cases hu)
 simp only [execOp,hf.ev hx,Instr.loadAt,Instr.sureAddr,Sem.run_bind,Sem.run_pure,Result.andThen_ok,this,hu]
/-- Cells that stand for a datum,by what lasts. -/
def HasRep (As:List Asn):(t:Ty)→List Value→t.den→Prop
 | .list t,cs,x=>∃ v,cs=[v]∧Asn.imm (.list t) v x∈As
 | .pair a b,cs,x=>∃ c1 c2,cs=c1++c2∧HasRep As a c1 x.1∧HasRep As b c2 x.2
 | .bool,cs,x=>cs=[.bool x]
 | .int k,cs,x=>cs=[.int k x]
 | .u8,cs,x=>cs=[byte x]
 | .raw,cs,x=>cs=[x]∧x.oneCell'=true
 | .str,cs,x=>cs=[str x]
theorem HasRep.rep {w:World} {I:zl} (hs:∀ A∈As,A.pers=true→A.sat w I []):∀ {t:Ty} {cs:List Value} {x:t.den},HasRep As t cs x→repC w I t cs x
 | .bool,_,_,h=>by simp only [repC];exact h
 | .int _,_,_,h=>by simp only [repC];exact h
 | .u8,_,_,h=>by simp only [repC];exact h
 | .raw,_,_,h=>by simp only [repC];exact h
 | .str,_,_,h=>by simp only [repC];exact h
 | .list t,_,x,h=>by
  obtain ⟨v,rfl,hA⟩:=h
  obtain ⟨_,cs,hv,hr⟩:=hs _ hA rfl
  have hr':=hr
  simp only [repC] at hr'
  obtain ⟨a,len,cap,rfl,_⟩:=hr'
  have hv':v=.slice a len cap:=hv
  subst hv'
  exact hr
 | .pair a b,_,_,h=>by
  obtain ⟨c1,c2,rfl,h1,h2⟩:=h
  exact ⟨c1,c2,rfl,h1.rep hs,h2.rep hs⟩
def HasReps (As:List Asn) (t:Ty):List (List Value)→List t.den→Prop
 | [],[]=>True
 | cs::css,x::xs=>HasRep As t cs x∧HasReps As t css xs
 | _,_=>False
theorem HasReps.all {w:World} {I:zl} {t:Ty} (hs:∀ A∈As,A.pers=true→A.sat w I []):∀ {css:List (List Value)} {xs:List t.den},HasReps As t css xs →
  css.length=xs.length∧(∀ cs∈css,cs.length=t.n)∧∀ i (h:i<xs.length),repC w I t ((css.flatten.drop (i*t.n)).take t.n) xs[i]
 | [],[],_=>⟨rfl,by simp,fun i h=>by simp at h⟩
 | cs::css,x::xs,h=>by
  obtain ⟨h1,h2⟩:=h
  have r1:=h1.rep hs
  have hl:=Wm r1
  obtain ⟨i1,i2,i3⟩:=HasReps.all hs h2
  refine ⟨by simp [i1],fun c hc=>by rcases List.mem_cons.1 hc with rfl | hc;exact hl;exact i2 c hc,fun i hi=>?_⟩
  cases i with
  | zero=>simp only [Nat.zero_mul,List.drop_zero,List.flatten_cons,List.getElem_cons_zero];rw [List.take_append_of_le_length (by omega),List.take_of_length_le (by omega)];exact r1
  | succ i =>
   simp only [List.flatten_cons,List.getElem_cons_succ]
   rw [Nat.add_mul,Nat.one_mul,Nat.add_comm,← List.drop_drop,← hl,List.drop_left,hl]
   exact i3 i (by simpa using hi)
 | [],_::_,h=>h.elim
 | _::_,[],h=>h.elim
theorem wO {α:Type}:∀ (css:List (List α)) (k:Nat),(∀ cs∈css,cs.length=k)→css.flatten.length=css.length*k
 | [],k,_=>by simp
 | x::r,k,h=>by rw [List.flatten_cons,List.length_append,h x (by simp),wO r k (fun cs hcs=>h cs (by simp [hcs])),List.length_cons,Nat.add_mul];omega
/-- A new block that leads on to memory. -/
theorem Mem.newP {c:Cx} {As Bs:List Asn} {w:World} {o:Obj} (h:Mem c As w)
  (hB:∀ I,Okw w I []→(∀ A∈As,A.pers=true→A.sat (w.alloc o) I [])→Sats (w.alloc o) I Bs [w.heap.size]):Mem c (Bs++As) (w.alloc o):=by
 obtain ⟨I,m,he,hs⟩:=h
 have ho:=he.okw
 have eff:Eff w I [] (w.alloc o) I [w.heap.size]:=⟨rfl,rfl,rfl,by rw [wn];omega,fun k hk _=>heap_alloc_old w o hk,fun _ h=>h,fun _ h=>.inl h,fun b hb=>by have:=ho.lt b hb;rw [wn];omega,
  by simp,fun b hb hI=>by simp at hb;subst hb;exact Nat.lt_irrefl _ (ho.lt _ hI),fun b hb=>by simp at hb;subst hb;exact ⟨.inr (Nat.le_refl _),by rw [wn];omega⟩⟩
 have hs':=Sats.frame (m1:=[]) ho eff hs
 exact ⟨I,[w.heap.size]++m,he.trans (Eff.frame (m1:=[]) ho eff),Yl.2 ⟨[w.heap.size],m,rfl,hB I ho.nil (fun A hA hp=>hs'.pers hA hp),hs'⟩⟩
/-- A slice literal,whatever the data. -/
theorem z0 {ty E:TypeId} {len d:Nat} {parts:Array (Nat×Operand)} {t:Ty} {agg:Bool} {by_:Nat} {z:Value} (xs:List t.den) (vs:List Value) (css:List (List Value)) (hp:∀ a,Fits c.n L a→(parts.map fun (i,x)=>(i,a.eval x)).toList=(vs.zipIdx 0).map fun x=>(x.2,x.1)) (hv:vs.map Value.cells=css.map List.toArray)
  (hrep:HasReps As t css xs) (hu:c.P.underlying ty=some (.slice E)) (he:TyF c.P E agg t.n by_ (some z)) (hlen:xs.length=len) (hpos:Nat.blt 0 len=true) (hsm:Nat.ble (len*t.n) 16777216=true) (hd:Nat.blt d c.n=true)
  (h:∀ g,J c ((d,.slice (some ⟨g,0,none⟩) xs.length xs.length)::L) (.rowg g xs.length E t xs::As) (wpList c.P ops Q rest)) :
  J c L As (wpList c.P ops Q (⟨some d,.buildSlice ty len parts,T,pos,aft,none⟩::rest)):=Yc rfl fun a w hf hm=>by
 obtain ⟨i,hi1,hi2,_,hi4⟩:=he.get
 have hn:=t.n_pos
 rw [Nat.blt_eq] at hpos
 have hsm':=Nat.le_of_ble_eq_true hsm
 have hmul:0<len*t.n:=Nat.mul_pos hpos hn
 obtain ⟨I0,m0,he0,hs0⟩:=id hm
 obtain ⟨a1,a2,_⟩:=hrep.all (w:=w) (I:=I0) (fun A hA hp=>hs0.pers hA hp)
 have hfill:=fill_parts (t:=t) vs css 0 ((Array.range (len*i.size)).map (z.cells[· % z.cells.size]!)) hv a2 (by simp [hi2,hlen,a1])
 simp only [Nat.zero_mul,List.take_zero,List.nil_append] at hfill
 have hr:=run_buildSlice (P:=c.P) w ty E len (parts.map fun (i,x)=>(i,a.eval x)) css.flatten.toArray i z hu hi1 hi4 (by rw [hi2];omega) (by rw [hi2];omega) (by rw [hp a hf,hi2];rw [hi2] at hfill;exact hfill)
 have hr':(execOp a.eval ⟨some d,.buildSlice ty len parts,T,pos,aft,none⟩).run c.P w=.ok (.value (.slice (some ⟨w.heap.size,0,none⟩) len len)) (w.alloc (.cells css.flatten.toArray E)):=by
  simp only [execOp,Sem.run_bind,hr,Result.andThen_ok,Sem.run_pure]
 show Oper.upon _ _ _ _ _ ((execOp a.eval _).run c.P w)
 rw [hr']
 subst hlen
 have hml:xs.length≤maxLen:=by
  have:xs.length≤xs.length*t.n:=Nat.le_mul_of_pos_right _ hn
  simp only [maxLen];omega
 have hfl:css.flatten.length=xs.length*t.n:=by rw [← a1];exact wO css t.n a2
 refine h _ _ _ (hf.put (by rw [Nat.blt_eq] at hd;exact hd) _) (Mem.newP (Bs:=[.rowg w.heap.size xs.length E t xs]) hm fun I ho hs=>⟨[w.heap.size],[],rfl,⟨rfl,?_⟩,rfl⟩)
 obtain ⟨_,_,a3⟩:=hrep.all (w:=w.alloc (.cells css.flatten.toArray E)) (I:=I) hs
 exact ⟨_,heap_alloc_new w _,Nat.le_refl _,hml,by simpa using hfl,fun i hi=>by simpa using a3 i hi⟩
/-- The cells of a slice that nobody writes. -/
theorem imm_src {w:World} {I:zl} {t:Ty} {a:Option Addr} {len cap:Nat} {xs:List t.den} (h:repC w I (.list t) [.slice a len cap] xs) (hne:xs≠[]) :
  ∃ b off C E fz,a=some ⟨b,off,none⟩∧len=xs.length∧len≤cap∧I b∧w.heap[b]?=some (.cells C E fz)∧off+len*t.n≤C.size∧∀ i (h:i<xs.length),repC w I t ((C.toList.drop (off+i*t.n)).take t.n) xs[i]:=by
 obtain ⟨a',len',cap',e,hl,hc,hr⟩:=h
 simp only [List.cons.injEq,Value.slice.injEq,and_true] at e
 obtain ⟨rfl,rfl,rfl⟩:=e
 rcases hr with rfl | ⟨b,off,C,E,fz,rfl,h1,h2,h3,h4⟩
 ·exact absurd rfl hne
 ·exact ⟨b,off,C,E,fz,rfl,hl,hc,h1,h2,h3,h4⟩
/-- What an append leaves. -/
theorem grown_mem {w w':World} {v v':Value} {E:TypeId} {t:Ty} {zs:List t.den} {cs:List Value} {I:zl} {m1 m3:List Nat} (hE:Eff c.w0 c.I0 c.m0 w I (m1++m3)) (q1:∀ b,v.ownBlock=some b↔b∈m1) (h3:Sats w I R m3)
  (o2:w'.ownsRow 0 E t.n v' zs.length cs) (g1:w.grownBy w' v.ownBlock) (b1:v'.ownBlock=v.ownBlock∨∃ g',v'.ownBlock=some g'∧w.heap.size≤g')
  (hrep:(∀ b,I b→w'.heap[b]?=w.heap[b]?)→∀ k (hk:k<zs.length),repC w' I t ((cs.drop (k*t.n)).take t.n) zs[k]):Mem c (.row v' E t zs::R) w':=by
 have ho:=hE.okw
 have hI:∀ b,I b→w'.heap[b]?=w.heap[b]?:=fun b hb'=>g1.block b (ho.lt b hb') (fun e=>ho.apart b (by simp [(q1 b).1 e.symm]) hb')
 have hrep:=hrep hI
 obtain ⟨m1',hsat,hm1⟩:∃ m1',(Asn.row v' E t zs).sat w' I m1'∧((m1'=[])∨∃ g',m1'=[g']∧v'.ownBlock=some g'∧g'<w'.heap.size):=by
  obtain ⟨l2,o2⟩:=o2
  rcases o2 with ⟨rfl,hz⟩ | ⟨g',cap',cur,rfl,_,e1,e2,e3,e4,e5⟩
  ·exact ⟨[],.inl ⟨rfl,List.length_eq_zero_iff.1 hz,rfl⟩,.inl rfl⟩
  ·refine ⟨[g'],.inr ⟨g',cap',rfl,rfl,cur,e1,e2,e3,e4,fun k hk=>?_⟩,.inr ⟨g',rfl,rfl,?_⟩⟩
   ·have:=hrep k hk
    rw [← e5,WU _ hk] at this
    exact this
   ·rcases Nat.lt_or_ge g' w'.heap.size with h | h
    ·exact h
    ·rw [Array.getElem?_eq_none h] at e1;cases e1
 have eff:Eff w I m1 w' I m1':=by
  refine ⟨g1.os,g1.tape,g1.output,g1.size,fun k hk hkm=>g1.block k hk (fun e=>hkm (by simp [(q1 k).1 e.symm])),fun _ h=>h,fun _ h=>.inl h,fun b hb'=>Nat.lt_of_lt_of_le (ho.lt b hb') g1.size,?_,fun b hb'=>?_,fun b hb'=>?_⟩
  ·rcases hm1 with rfl | ⟨g',rfl,_⟩ <;> simp
  ·rcases hm1 with rfl | ⟨g',rfl,e,_⟩
   ·cases hb'
   ·obtain rfl:=List.mem_singleton.1 hb'
    rcases b1 with b1 | ⟨g2,b1,b2⟩
    ·exact ho.apart b (by simp [(q1 b).1 (b1 ▸ e)])
    ·intro hI'
     have:=ho.lt b hI'
     rw [e] at b1
     have:=Option.some.inj b1
     omega
  ·rcases hm1 with rfl | ⟨g',rfl,e,hlt⟩
   ·cases hb'
   ·obtain rfl:=List.mem_singleton.1 hb'
    refine ⟨?_,hlt⟩
    rcases b1 with b1 | ⟨g2,b1,b2⟩
    ·exact .inl (by simp [(q1 b).1 (b1 ▸ e)])
    ·rw [e] at b1
     have:=Option.some.inj b1
     exact .inr (by omega)
 exact ⟨I,m1'++m3,hE.trans (eff.frame ho),m1',m3,rfl,hsat,Sats.frame ho eff h3⟩
/-- 'append(s,xs...)' to an own slice,out of a slice that nobody writes. -/
theorem Yt {ty E:TypeId} {x y:Operand} {v u:Value} {d:Nat} {t:Ty} {xs ys:List t.den} {agg:Bool} {by_:Nat} {z:Value} (hx:ev L x=some v) (hy:ev L y=some u) (hA:Asn.imm (.list t) u ys∈R) (hu:c.P.underlying ty=some (.slice E)) (he:TyF c.P E agg t.n by_ (some z)) (hzs:z.cells.size=t.n)
  (hml:xs.length+ys.length≤maxLen) (hb:(xs.length+ys.length)*by_≤140737488355328) (hd:Nat.blt d c.n=true)
  (h:∀ v',J c ((d,v')::L) (.row v' E t (xs++ys)::R) (wpList c.P ops Q rest)) :
  J c L (.row v E t xs::R) (wpList c.P ops Q (⟨some d,.call { callee:=.builtin .append,args:=#[x,y],argTypes:=#[ty,ty] },T,pos,aft,none⟩::rest)):=Yc rfl fun a w hf hm=>by
 obtain ⟨i,hi1,hi2,hi3,hi4⟩:=he.get
 obtain ⟨I,m,hE,hs⟩:=hm
 obtain ⟨m1,m3,rfl,h1,h3⟩:=hs
 have ho:=hE.okw
 obtain ⟨_,cs0,hv0,hr0⟩:=h3.pers hA rfl
 have hr0':=hr0
 simp only [repC] at hr0'
 obtain ⟨ua,ulen,ucap,rfl,hul,huc,_⟩:=hr0'
 have hu':u=.slice ua ulen ucap:=hv0
 subst hu'
 obtain ⟨cs,o1,p1,q1⟩:=row_owns h1
 show Oper.upon _ _ _ _ _ ((execOp a.eval _).run c.P w)
 by_cases hys:ys=[]
 ·subst hys
  simp only [List.length_nil] at hul
  subst hul
  obtain ⟨va,vl,vc,hvv,hvle⟩:∃ va vl vc,v=.slice va vl vc∧vl≤vc:=by
   rcases h1 with ⟨rfl,_,_⟩ | ⟨g,cap,rfl,_,C,_,h2,_⟩
   ·exact ⟨none,0,0,rfl,Nat.le_refl _⟩
   ·exact ⟨_,_,_,rfl,h2⟩
  have hr:(Builtin.append_ #[ty,ty] T #[v,.slice ua 0 ucap]).run c.P w=.ok v w:=by
   subst hvv
   cases va <;> cases ua <;> simp [Builtin.append_,run_underlying hu,sizeOf,typeInfo,hi1,Builtin.lenOf,hvle,storeCells,Builtin.firstCells,loadCells,loadCellsFrom]
  have hr':(execOp a.eval ⟨some d,.call { callee:=.builtin .append,args:=#[x,y],argTypes:=#[ty,ty] },T,pos,aft,none⟩).run c.P w=.ok (.value v) w:=by
   simp only [execOp,resolve,invoke,builtin,Sem.run_bind,Sem.run_pure,Result.andThen_ok,List.map_toArray,List.map_cons,List.map_nil,hf.ev hx,hf.ev hy,hr]
  rw [hr']
  exact h v _ _ (hf.put (by rw [Nat.blt_eq] at hd;exact hd) _) ⟨I,m1++m3,hE,m1,m3,rfl,by simpa using h1,h3⟩
 obtain ⟨b,off,C2,E2,fz2,rfl,_,_,hIb,c1,c4,c5⟩:=imm_src hr0 hys
 subst hul
 have hone:∀ u∈(C2.toList.drop off).take (ys.length*t.n),u.oneCell'=true:=all_parts (C2.toList.drop off) t.n ys.length (fun i hi u hu=>wL (c5 i hi) u (by simpa [List.drop_drop] using hu))
 obtain ⟨v',w',hr,o2,g1,_,b1⟩:=run_append_own_at (P:=c.P) w 0 ty T E i z t.n by_ hu hi1 hi4 hi2 hi3 hzs t.n_pos v xs.length cs o1 ⟨b,off,none⟩ ys.length ucap ((C2.toList.drop off).take (ys.length*t.n)) (by simp;omega)
  (fun j u hj=>by
   rw [List.getElem?_take] at hj
   rw [Addr.add_mk,z4 c1]
   split at hj
   ·simpa using hj
   ·cases hj) hone hml hb (Nat.zero_le _)
 have hr':(execOp a.eval ⟨some d,.call { callee:=.builtin .append,args:=#[x,y],argTypes:=#[ty,ty] },T,pos,aft,none⟩).run c.P w=.ok (.value v') w':=by
  simp only [execOp,resolve,invoke,builtin,Sem.run_bind,Sem.run_pure,Result.andThen_ok,List.map_toArray,List.map_cons,List.map_nil,hf.ev hx,hf.ev hy,hr]
 rw [hr']
 refine h v' _ _ (hf.put (by rw [Nat.blt_eq] at hd;exact hd) _) (grown_mem hE q1 h3 (by rw [List.length_append];exact o2) g1 (b1.imp id fun h=>⟨_,h,Nat.le_refl _⟩) fun hI k hk=>?_)
 rw [List.length_append] at hk
 by_cases hkx:k<xs.length
 ·rw [part_left o1.1 hkx,List.getElem_append_left hkx]
  exact Zc hI (fun _ h=>h) (p1 k hkx)
 ·have hk2:k-xs.length<ys.length:=by omega
  rw [part_right o1.1 (by omega),WU _ hk2,List.getElem_append_right (by omega),List.drop_drop]
  exact Zc hI (fun _ h=>h) (c5 _ hk2)
end ops
end Go.Sep
namespace Go.Sep
open Go
set_option linter.unusedSimpArgs false
set_option linter.unusedVariables false
section ops
variable {c:Cx} {L:List (Nat×Value)} {As R:List Asn} {Q:Exit→Act→World→Prop} {K:Act→World→Prop} {ops:Array Oper} {rest:List Oper} {T:TypeId} {pos:String} {aft:Array Edge} {gd:Option (Nat×Bool)}
theorem run_eq_ptrnil {P:Program} {w:World} {t te:TypeId} {p:Addr} (hu:P.underlying t=some (.pointer te)):(Op.equal t (.pointer (some p)) (.pointer none)).run P w=.ok false w:=by
 have h:∀ d:Nat,(Op.equalIn (d+1) t (.pointer (some p)) (.pointer none)).run P w=.ok false w:=fun d=>by simp [Op.equalIn,run_underlying hu]
 simp [Op.equal,Op.maxDepth,h 9999]
theorem pr_eql_ptrnil {t t' te:TypeId} {x y:Operand} {p:Addr} (hx:ev L x=some (.pointer (some p))) (hy:ev L y=some (.pointer none)) (hu:c.P.underlying t=some (.pointer te)):PR c (.binOp .eql t x y t') T L As (.bool false):=fun a w hf _ d pos aft gd=>by
 have h:=run_eq_ptrnil (P:=c.P) (w:=w) (p:=p) hu
 simp only [execOp,hf.ev hx,hf.ev hy,eqGuard,binOp,Sem.run_bind,Sem.run_pure,Result.andThen_ok,h]
 simp [h]
theorem pr_neq_ptrnil {t t' te:TypeId} {x y:Operand} {p:Addr} (hx:ev L x=some (.pointer (some p))) (hy:ev L y=some (.pointer none)) (hu:c.P.underlying t=some (.pointer te)):PR c (.binOp .neq t x y t') T L As (.bool true):=fun a w hf _ d pos aft gd=>by
 have h:=run_eq_ptrnil (P:=c.P) (w:=w) (p:=p) hu
 simp only [execOp,hf.ev hx,hf.ev hy,eqGuard,binOp,Sem.run_bind,Sem.run_pure,Result.andThen_ok,h]
 simp [h]
/-! ### What is passed over -/
theorem y6 {op:Op} {d j:Nat} {want b:Bool} {t:Nat} (hj:(ops[j]?).bind (·.dst)=some t) (hl:lk L t=some (.bool b)) (hb:b=!want) (hd:Nat.blt d c.n=true) (h:J c ((d,undef)::L) As (wpList c.P ops Q rest)):J c L As (wpList c.P ops Q (⟨some d,op,T,pos,aft,some (j,want)⟩::rest)):=fun a w hf hm=>by
 have hy:yielded ops a.tmps j=some (!want):=by
  have:=hf.2.2 t _ hl
  simp [yielded,hj,this,hb]
 unfold wpList
 rw [if_neg (by simp [Region.wanted,hy])]
 exact h _ w (hf.put (by rw [Nat.blt_eq] at hd;exact hd) _) hm
theorem jo_skipn {op:Op} {d j:Nat} {want:Bool} {t:Nat} (hj:(ops[j]?).bind (·.dst)=some t) (hl:lk L t=some undef) (hd:Nat.blt d c.n=true) (h:J c ((d,undef)::L) As (wpList c.P ops Q rest)):J c L As (wpList c.P ops Q (⟨some d,op,T,pos,aft,some (j,want)⟩::rest)):=fun a w hf hm=>by
 have hy:Region.wanted ⟨some d,op,T,pos,aft,some (j,want)⟩ (yielded ops a.tmps)=false:=by
  have:=hf.2.2 t _ hl
  simp [Region.wanted,yielded,hj,this,undef]
 unfold wpList
 rw [if_neg (by rw [hy];simp)]
 exact h _ w (hf.put (by rw [Nat.blt_eq] at hd;exact hd) _) hm
/-! ### Storing slices whose address is hidden -/
def wB (v:Value):Prop:=∃ a n k,v=.slice a n k
theorem wB.one {v:Value} (h:wB v):v.oneCell'=true:=by obtain ⟨a,n,k,rfl⟩:=h;rfl
theorem wB.cells {v:Value} (h:wB v):v.cells=[v].toArray:=by obtain ⟨a,n,k,rfl⟩:=h;rfl
theorem slice_mem {w:World} {I:zl}:∀ {As:List Asn} {m:List Nat} {A:Asn},Sats w I As m→A∈As→∃ m',A.sat w I m'
 | [],_,_,_,h=>by cases h
 | B::As,m,A,hs,hA=>by
  obtain ⟨m1,m2,rfl,h1,h2⟩:=hs
  rcases List.mem_cons.1 hA with rfl | hA
  ·exact ⟨_,h1⟩
  ·exact slice_mem h2 hA
theorem WS {w:World} {I:zl} {m:List Nat} {v:Value} {E:TypeId} {t:Ty} {xs:List t.den} (hA:Asn.row v E t xs∈As) (hs:Sats w I As m):wB v:=by
 obtain ⟨m',h⟩:=slice_mem hs hA
 rcases h with ⟨rfl,_⟩ | ⟨g,cap,rfl,_⟩
 ·exact ⟨_,_,_,rfl⟩
 ·exact ⟨_,_,_,rfl⟩
theorem ZC {w:World} {I:zl} {m:List Nat} {v:Value} {t:Ty} {xs:List t.den} (hA:Asn.imm (.list t) v xs∈As) (hs:Sats w I As m):wB v:=by
 obtain ⟨m',_,cs,hv,hr⟩:=slice_mem hs hA
 obtain ⟨a,len,cap,rfl,_⟩:=hr
 exact ⟨_,_,_,hv⟩
theorem jo_storeV {ty E:TypeId} {agg:Bool} {n by_:Nat} {z:Option Value} {x y:Operand} {b o:Nat} {cs:List Value} {v:Value} (hx:ev L x=some (.pointer (some ⟨b,o,none⟩))) (hy:ev L y=some v) (ht:TyF c.P ty agg n by_ z)
  (vs:List Value) (hv:∀ w I m,Sats w I (.box b E cs::R) m→v.cells=vs.toArray) (hl:vs.length=n) (h1:∀ w I m,Sats w I (.box b E cs::R) m→vs.all (·.oneCell')=true) (cs':List Value) (hfit:Nat.ble (o+vs.length) cs.length=true) (hcs:setL cs o vs=cs')
  (h:J c L (.box b E cs'::R) (wpList c.P ops Q rest)):J c L (.box b E cs::R) (wpList c.P ops Q (⟨none,.store ty x y,T,pos,aft,none⟩::rest)):=fun a w hf hm=>by
 obtain ⟨I,m,he,hs⟩:=id hm
 exact jo_store hx hy ht vs (hv w I m hs) hl (h1 w I m hs) cs' hfit hcs h a w hf hm
theorem pr_buildV {t:TypeId} {parts:Array (Nat×Operand)} (vs:List (Nat×Value)) (cs:List Value) (hp:∀ a,Fits c.n L a→(parts.map fun (i,x)=>(i,a.eval x)).toList=vs) (hb:∀ w I m,Sats w I As m→c.P.built t vs=some cs.toArray) :
  PR c (.build t parts) T L As (.agg cs.toArray):=fun a w hf hm=>by
 obtain ⟨I,m,he,hs⟩:=id hm
 exact pr_build vs cs hp (hb w I m hs) a w hf hm
/-- A call that takes what it asks for. -/
theorem y5 {os:List Operand} {vs:List Value} {f:FuncId} {tys:Array TypeId} {Bs:List Asn} {ι:Type} {val:ι→Value} {asn:ι→List Asn} {d:Nat} (R:List Asn) (hAs:As=Bs++R) (hc:Cal c.P f) (con:Con c.P f vs.toArray Bs val asn) (hv:EvL L os vs) (hd:Nat.blt d c.n=true)
  (h:∀ i,J c ((d,val i)::L) (asn i++R) (wpList c.P ops Q rest)):J c L As (wpList c.P ops Q (⟨some d,.call { callee:=.value (.func f),args:=os.toArray,argTypes:=tys },T,pos,aft,none⟩::rest)):=by
 subst hAs
 exact jo_call hc con hv hd h
/-! ### The bytes of a row as a string,without a copy -/
def LenF (v:Value) (n:Nat) (_:World) (_:zl):Prop:=∃ a cap,v=.slice a n cap
def Ssd (v:Value) (xs:List UInt8) (p:Value) (_:World) (_:zl):Prop:=(xs=[]∧∃ o,p=.pointer o)∨∃ g cap,v=.slice (some ⟨g,0,none⟩) xs.length cap∧p=.pointer (some ⟨g,0,none⟩)
theorem Mem.swap {w:World} {A B:Asn} (h:Mem c (A::B::As) w):Mem c (B::A::As) w:=Mem.pull (As:=[A]) h
end ops
end Go.Sep
namespace Go.Sep
open Go
set_option linter.unusedSimpArgs false
set_option linter.unusedVariables false
section ops
variable {c:Cx} {L:List (Nat×Value)} {As R:List Asn} {Q:Exit→Act→World→Prop} {K:Act→World→Prop} {ops:Array Oper} {rest:List Oper} {T:TypeId} {pos:String} {aft:Array Edge} {gd:Option (Nat×Bool)}
/-! ### Numbers -/
theorem pr_minN {x y:Operand} {m n:Nat} {tys:Array TypeId} (hx:ev L x=some (.int .i64 m)) (hy:ev L y=some (.int .i64 n)):PR c (.call { callee:=.builtin .min,args:=#[x,y],argTypes:=tys }) T L As (.int .i64 ((min m n:Nat):Int)):=fun a w hf _ d pos aft gd=>by
 have e:(if n<m then (n:Int) else (m:Int))=((min m n:Nat):Int):=by
  split <;> (congr 1;omega)
 simp [execOp,resolve,invoke,builtin,Builtin.min_,Builtin.min2,hf.ev hx,hf.ev hy,e]
theorem pr_maxN {x y:Operand} {m n:Nat} {tys:Array TypeId} (hx:ev L x=some (.int .i64 m)) (hy:ev L y=some (.int .i64 n)):PR c (.call { callee:=.builtin .max,args:=#[x,y],argTypes:=tys }) T L As (.int .i64 ((max m n:Nat):Int)):=fun a w hf _ d pos aft gd=>by
 have e:(if m<n then (n:Int) else (m:Int))=((max m n:Nat):Int):=by
  split <;> (congr 1;omega)
 simp [execOp,resolve,invoke,builtin,Builtin.max_,Builtin.max2,hf.ev hx,hf.ev hy,e]
/-! ### Slices of one's own -/
theorem ZE {ty E:TypeId} {x y:Operand} {g len cap h:Nat} {K:IntKind} {agg:Bool} {k by_:Nat} {z:Option Value} (hx:ev L x=some (.slice (some ⟨g,0,none⟩) len cap)) (hy:ev L y=some (.int K h)) (ht:c.P.underlying ty=some (.slice E)) (he:TyF c.P E agg k by_ z) (hh:h≤cap) :
  PR c (.slice ty x none (some y) none) T L As (.slice (some ⟨g,0,none⟩) h cap):=fun a w hf _ d pos aft gd=>by
 simp [execOp,Instr.sliceAt,Instr.slice,Instr.sliceBounds,hf.ev hx,hf.ev hy,run_underlying ht,zZ hh,he.sizeOf,Addr.add_mk]
/-- Fewer elements of an own slice. -/
theorem j_own_take {g cap:Nat} {E:TypeId} {t:Ty} {xs:List t.den} (k:Nat) (h:J c L (.rowg g cap E t (xs.take k)::R) K):J c L (.rowg g cap E t xs::R) K :=
 Za (fun w hw=>Mem.step (Ps:=[_]) (Bs:=[_]) hw fun I m1 ho hs=>by
  obtain ⟨m1,m2,rfl,⟨rfl,C,h1,h2,h3,h4,h5⟩,rfl⟩:=hs
  refine ⟨I,[g],ho.eff,[g],[],rfl,⟨rfl,C,h1,by rw [List.length_take];omega,h3,h4,fun i hi=>?_⟩,rfl⟩
  rw [List.length_take] at hi
  rw [List.getElem_take]
  exact h5 i (by omega)) h
/-- Slicing a row of one's own. -/
theorem jo_slice_own {ty E:TypeId} {x y:Operand} {g len cap h d:Nat} {K:IntKind} {agg:Bool} {k by_:Nat} {z:Option Value} {t:Ty} {E':TypeId} {xs:List t.den} (hx:ev L x=some (.slice (some ⟨g,0,none⟩) len cap)) (hy:ev L y=some (.int K h)) (ht:c.P.underlying ty=some (.slice E)) (he:TyF c.P E agg k by_ z) (hc:h≤cap) (hl:h≤xs.length) (hd:Nat.blt d c.n=true)
  (hh:J c ((d,.slice (some ⟨g,0,none⟩) (xs.take h).length cap)::L) (.rowg g cap E' t (xs.take h)::R) (wpList c.P ops Q rest)):J c L (.rowg g cap E' t xs::R) (wpList c.P ops Q (⟨some d,.slice ty x none (some y) none,T,pos,aft,none⟩::rest)):=by
 have e:(xs.take h).length=h:=by rw [List.length_take];omega
 rw [e] at hh
 exact jo_pure hd (ZE hx hy ht he hc) (j_own_take h hh)
/-- A variable that holds a slice from the start. -/
theorem jo_boxV {E:TypeId} {x:Operand} {v:Value} {d:Nat} (hx:ev L x=some v) (cs:List Value) (hz:∀ w I m,Sats w I As m→v.cells=cs.toArray) (hd:Nat.blt d c.n=true)
  (h:∀ b,J c ((d,.pointer (some ⟨b,0,none⟩))::L) (.box b E cs::As) (wpList c.P ops Q rest)):J c L As (wpList c.P ops Q (⟨some d,.box E x,T,pos,aft,none⟩::rest)):=fun a w hf hm=>by
 obtain ⟨I,m,he,hs⟩:=id hm
 exact zY hx cs (hz w I m hs) hd h a w hf hm
/-! ### Equality of structs of a string and a number -/
theorem map_range_mod {α:Type} [Inhabited α] (z:Array α) (k n:Nat) (hk:z.size=k) (h0:0<k):((Array.range (n*k)).map (z[· % z.size]!)).toList=(List.replicate n z.toList).flatten:=by
 subst hk
 apply List.ext_getElem?
 intro i
 simp only [Array.toList_map,Array.toList_range,List.getElem?_map]
 by_cases hi:i<n*z.size
 ·rw [List.getElem?_range hi]
  simp only [Option.map_some]
  have hm:i % z.size<z.size:=Nat.mod_lt _ h0
  have hl:((List.replicate n z.toList).flatten).length=n*z.size:=by rw [wO _ z.size (fun cs hcs=>by rw [List.eq_of_mem_replicate hcs,Array.length_toList]),List.length_replicate]
  have hi2:i<((List.replicate n z.toList).flatten).length:=by omega
  rw [List.getElem?_eq_getElem hi2,getElem!_pos z _ hm]
  congr 1
  have key:∀ (n i:Nat) (hi:i<((List.replicate n z.toList).flatten).length),((List.replicate n z.toList).flatten)[i]=z[i % z.size]'(Nat.mod_lt _ h0):=by
   intro n
   induction n with
   | zero=>intro i hi;simp at hi
   | succ n ih =>
    intro i hi
    simp only [List.replicate_succ,List.flatten_cons] at hi ⊢
    by_cases h:i<z.toList.length
    ·rw [List.getElem_append_left h]
     have:i % z.size=i:=Nat.mod_eq_of_lt (by simpa using h)
     simp [this]
    ·have hge:z.size≤i:=by simpa using h
     rw [List.getElem_append_right (by omega),ih]
     congr 1
     rw [Array.length_toList,← Nat.mod_eq_sub_mod hge]
  exact (key n i hi2).symm
 ·have hl:((List.replicate n z.toList).flatten).length=n*z.size:=by rw [wO _ z.size (fun cs hcs=>by rw [List.eq_of_mem_replicate hcs,Array.length_toList]),List.length_replicate]
  rw [List.getElem?_eq_none (by simp;omega),List.getElem?_eq_none (by omega)];rfl
/-- 'make([]T,n)'. -/
theorem jo_makeSlice {ty E:TypeId} {x:Operand} {n d:Nat} {t:Ty} {agg:Bool} {by_:Nat} {z:Value} (dd:t.den) (hx:ev L x=some (.int .i64 (n:Nat))) (hu:c.P.underlying ty=some (.slice E)) (he:TyF c.P E agg t.n by_ (some z)) (hz:z.cells=(enc t dd).toArray) (hfl:t.flat=true)
  (hn:n≤maxLen) (hb:by_*n≤281474976710656) (hd:Nat.blt d c.n=true)
  (h:∀ g,J c ((d,.slice (some ⟨g,0,none⟩) n n)::L) (.rowg g n E t (List.replicate n dd)::As) (wpList c.P ops Q rest)) :
  J c L As (wpList c.P ops Q (⟨some d,.makeSlice ty x x,T,pos,aft,none⟩::rest)):=Yc rfl fun a w hf hm=>by
 obtain ⟨i,hi1,hi2,hi3,hi4⟩:=he.get
 have hmx:n≤9223372036854775807:=by simp only [maxLen] at hn;omega
 have hw:IntKind.i64.wrap (n:Int)=n:=wrap_i64 (by omega)
 have hcs:z.cells.size=t.n:=by rw [hz];simp [q7]
 show Oper.upon _ _ _ _ _ ((execOp a.eval _).run c.P w)
 have hcells:((Array.range (n*t.n)).map (z.cells[· % z.cells.size]!))=((List.replicate n dd).flatMap (enc t)).toArray:=by
  apply Array.ext'
  rw [map_range_mod z.cells t.n n hcs t.n_pos,hz,List.flatMap_def,List.map_replicate]
 have hr:(execOp a.eval ⟨some d,.makeSlice ty x x,T,pos,aft,none⟩).run c.P w=.ok (.value (.slice (some ⟨w.heap.size,0,none⟩) n n)) (w.alloc (.cells ((List.replicate n dd).flatMap (enc t)).toArray E)):=by
  have h1:¬ ((by_:Int)*(n:Int)>281474976710656):=by rw [← Int.natCast_mul];omega
  by_cases h0:n=0
  ·subst h0
   have hw0:IntKind.i64.wrap 0=0:=rfl
   simp [execOp,Instr.makeSlice,hf.ev hx,run_underlying hu,asInt,asIntOf,typeInfo,hi1,hi3,hw0,sizeOf,hi2,newRow]
   exact congrArg (fun x=>w.alloc (Obj.cells x E)) (Array.eq_empty_of_size_eq_zero (by rw [Array.size_map,Array.size_range]))
  ·have h2:¬ n*t.n=0:=by have:=t.n_pos;rw [Nat.mul_eq_zero];omega
   have h3:¬ (n:Int)<0:=by omega
   have h4:¬ 281474976710656<(by_:Int)*(n:Int):=h1
   simp [execOp,Instr.makeSlice,hf.ev hx,run_underlying hu,asInt,asIntOf,typeInfo,hi1,hi3,hi4,hw,sizeOf,hi2,newRow,zeroValue,h4,h3,h0,Nat.ne_of_gt t.n_pos]
   rw [← hcells,hcs,if_neg h2]
 rw [hr]
 refine h _ _ _ (hf.put (by rw [Nat.blt_eq] at hd;exact hd) _) (Mem.new (Bs:=[.rowg w.heap.size n E t (List.replicate n dd)]) hm fun I _=>⟨[w.heap.size],[],rfl,⟨rfl,?_⟩,rfl⟩)
 have:=rowIs_flat (w:=w.alloc (.cells ((List.replicate n dd).flatMap (enc t)).toArray E)) (I:=I) (E:=E) (xs:=List.replicate n dd) hfl (by rw [List.length_replicate];exact hn) (heap_alloc_new w _)
 rwa [List.length_replicate] at this
/-! ### Maps of one's own -/
theorem jo_makeMap {t:TypeId} {d:Nat} (hd:Nat.blt d c.n=true) (h:∀ r,J c ((d,.map (some r))::L) (.mp r [] 0::As) (wpList c.P ops Q rest)):J c L As (wpList c.P ops Q (⟨some d,.makeMap t none,T,pos,aft,none⟩::rest)):=Yc rfl fun a w hf hm=>by
 show Oper.upon _ _ _ _ _ ((execOp a.eval _).run c.P w)
 have hr:(execOp a.eval ⟨some d,.makeMap t none,T,pos,aft,none⟩).run c.P w=.ok (.value (.map (some w.heap.size))) (w.alloc (.map #[] 0)):=by
  have:(Instr.makeMap t none).run c.P w=.ok (.map (some w.heap.size)) (w.alloc (.map #[] 0)):=rfl
  simp [execOp,this]
 rw [hr]
 exact h _ _ _ (hf.put (by rw [Nat.blt_eq] at hd;exact hd) _) (Mem.new (Bs:=[.mp w.heap.size [] 0]) hm fun I _=>⟨[w.heap.size],[],rfl,⟨rfl,heap_alloc_new w _⟩,rfl⟩)
theorem run_checkKeyS {P:Program} {w:World} {b:Bool} {n:Nat} {t:TypeId} {v:Value} {k:IntKind} (ht:P.underlying t=some (.int k)∨P.underlying t=some .string):(Instr.checkKey b (n+1) t v).run P w=.ok () w:=by
 rcases ht with ht | ht <;> (unfold Instr.checkKey;simp [run_underlying ht])
theorem qZ {P:Program} {w:World} {b:Bool} {t:TypeId} {v:Value} {k:IntKind} (ht:P.underlying t=some (.int k)∨P.underlying t=some .string):(Instr.checkKey b 10000 t v).run P w=.ok () w:=run_checkKeyS (n:=9999) ht
theorem ZR {P:Program} {w:World} {t:TypeId} {td:TypeDesc} {v:Value} {es:List MapEntry} {r:Option (Nat×Value)} (ht:P.underlying t=some td) (h:Instr.findNow td v es 0=some r):(Instr.findKey t v es).run P w=.ok r w:=by
 simp [Instr.findKey,run_underlying ht,h]
theorem ZV {P:Program} {w:World} {r:Nat} {es:Array MapEntry} {clk:Nat} (h:w.heap[r]?=some (.map es clk)):(getObj r).run P w=.ok (.map es clk) w:=by
 simp [getObj,Sem.run,h]
/-! ### Growing a builder -/
end ops
end Go.Sep
namespace Go.Sep
open Go
set_option linter.unusedSimpArgs false
set_option linter.unusedVariables false
def RoadRoom (P:Program) (f:FuncId):Prop:=∀ (b off n c vb voff m vc:Nat) (vs:List Value) (w:World),0<m→n+m≤c→c≤9223372036854775807→vs.length=m→(∀ j,j<m→(w.cell? ⟨b,off+n+j,none⟩).isSome=true)→(∀ j,j<m→w.frozen? ⟨b,off+n+j,none⟩=false) →
  (∀ j v,vs[j]?=some v→w.cell? ⟨vb,voff+j,none⟩=some v)→(∀ v∈vs,v.oneCell'=true) →
  Calls P f #[.slice (some ⟨b,off,none⟩) n c,.int .i64 n,.slice (some ⟨vb,voff,none⟩) m vc] w fun e w'=>e=.returned (.slice (some ⟨b,off,none⟩) (n+m) c)∧w'=w.setCells b (off+n) vs
def RoadEnd (P:Program) (f:FuncId) (E:TypeId) (Z:Array Value):Prop:=∀ (base:Option Addr) (n c vb voff m vc:Nat) (cs vs:List Value) (w:World),0<m→n≤c→c<n+m→(n+m)*16≤140737488355328→cs.length=n→vs.length=m→(base=none→n=0) →
  (∀ a,base=some a→∀ j v,cs[j]?=some v→w.cell? (a.add j)=some v)→(∀ j v,vs[j]?=some v→w.cell? ⟨vb,voff+j,none⟩=some v)→(∀ v∈vs,v.oneCell'=true) →
  Calls P f #[.slice base n c,.int .i64 n,.slice (some ⟨vb,voff,none⟩) m vc] w fun e w'=>e=.returned (.slice (some ⟨w.heap.size,0,none⟩) (n+m) (grownCap w (n+m) c E))∧w'=w.drew.alloc (.cells ((cs++vs).toArray++Builtin.zeroCells Z (grownCap w (n+m) c E-(n+m))) E)
def RoadShift (P:Program) (f:FuncId):Prop:=∀ (b off n c i vb voff m vc:Nat) (cs vs:List Value) (w:World),i<n→0<m→n+m≤c→c≤9223372036854775807→vb≠b→cs.length=n→vs.length=m→(∀ j v,cs[j]?=some v→w.cell? ⟨b,off+j,none⟩=some v)→(∀ j,j<n+m→(w.cell? ⟨b,off+j,none⟩).isSome=true) →
  (∀ j,j<n+m→w.frozen? ⟨b,off+j,none⟩=false)→(∀ j v,vs[j]?=some v→w.cell? ⟨vb,voff+j,none⟩=some v)→(∀ v∈cs,v.oneCell'=true)→(∀ v∈vs,v.oneCell'=true) →
  ∀ (tA tB:TypeId) (kA kB:Nat),w.shape? vb=some (tA,kA)→w.shape? b=some (tB,kB)→kB≠0→w.frozen? ⟨vb,voff,none⟩=false→w.frozen? ⟨vb,kA,none⟩=false →
  Calls P f #[.slice (some ⟨b,off,none⟩) n c,.int .i64 i,.slice (some ⟨vb,voff,none⟩) m vc] w fun e w'=>e=.returned (.slice (some ⟨b,off,none⟩) (n+m) c)∧w'=(w.drew.setCells b (off+(i+m)) (cs.drop i)).setCells b (off+i) vs
def RoadGrow (P:Program) (f:FuncId) (E:TypeId) (Z:Array Value):Prop:=∀ (b off n c i vb voff m vc:Nat) (cs vs:List Value) (w:World),i<n→0<m→n≤c→c<n+m→(n+m)*16≤140737488355328→cs.length=n→vs.length=m→(∀ j v,cs[j]?=some v→w.cell? ⟨b,off+j,none⟩=some v) →
  (∀ j v,vs[j]?=some v→w.cell? ⟨vb,voff+j,none⟩=some v)→(∀ v∈cs,v.oneCell'=true)→(∀ v∈vs,v.oneCell'=true) →
  Calls P f #[.slice (some ⟨b,off,none⟩) n c,.int .i64 i,.slice (some ⟨vb,voff,none⟩) m vc] w fun e w'=>e=.returned (.slice (some ⟨w.heap.size,0,none⟩) (n+m) (grownCap w (n+m) c E)) ∧
   w'=(((w.alloc (.cells ((cs.take i).toArray++Builtin.zeroCells Z (n+m-i)++Builtin.zeroCells Z (grownCap w (n+m) c E-(n+m))) E)).drew.setCells w.heap.size i vs).drew).setCells w.heap.size (i+m) (cs.drop i)
end Go.Sep
namespace Go.Sep
open Go
set_option linter.unusedVariables false
set_option linter.unusedSimpArgs false
/-- Called on the value 'recv',the method 'name' does what the contract says. -/
def Meth (P:Program) (recv:Value) (name:String) (vs:List Value) (Bs:List Asn) {ι:Type} (val:ι→Value) (asn:ι→List Asn):Prop :=
 ∃ f args,(∀ w,(invoke (.fn (.method name) #[]) (#[recv]++vs.toArray)).run P w=.ok (.enter f args) w)∧Con P f args Bs val asn
def concrete (P:Program) (T:TypeId):Bool:=match P.underlying T with | some (.interface _)=>false | some _=>true | none=>false
/-! ### Entries of a map from strings -/
def zk {α:Type}:List (List UInt8×α)→List UInt8→Option α
 | [],_=>none
 | (a,v)::r,k=>if k=a then some v else zk r k
def mpE (t:Ty) (l:List (List UInt8×t.den)):List MapEntry:=(l.zipIdx 0).map fun x=>{ key:=str x.1.1,val:=toV t (enc t x.1.2),born:=x.2 }
theorem same_str (a b:List UInt8):Instr.sameNow .string (str a) (str b)=some (decide (a=b)):=by
 have e:((⟨a.toArray⟩:ByteArray)==⟨b.toArray⟩)=decide (a=b):=by
  show (a.toArray==b.toArray)=_
  rw [Bool.eq_iff_iff,beq_iff_eq,decide_eq_true_iff]
  exact ⟨fun h=>by simpa using h,fun h=>by rw [h]⟩
 show some ((⟨a.toArray⟩:ByteArray)==⟨b.toArray⟩)=_
 rw [e]
theorem find_mpE {t:Ty} (k:List UInt8):∀ (l:List (List UInt8×t.den)) (n i:Nat),∃ j,Instr.findNow .string (str k) ((l.zipIdx n).map fun x=>{ key:=str x.1.1,val:=toV t (enc t x.1.2),born:=x.2 }) i=some ((zk l k).map fun v=>(j,toV t (enc t v)))
 | [],n,i=>⟨0,rfl⟩
 | (a,v)::r,n,i=>by
  rw [List.zipIdx_cons,List.map_cons,Instr.findNow]
  simp only [same_str,zk]
  by_cases h:k=a
  ·simp only [h,decide_true,if_true,Option.map_some];exact ⟨i,rfl⟩
  ·simp only [h,decide_false,if_false];exact find_mpE k r (n+1) (i+1)
theorem mpE_push {t:Ty} (l:List (List UInt8×t.den)) (k:List UInt8) (v:t.den):mpE t l++[({ key:=str k,val:=toV t (enc t v),born:=l.length }:MapEntry)]=mpE t (l++[(k,v)]):=by
 unfold mpE
 rw [List.zipIdx_append,List.map_append]
 simp
section ops
variable {c:Cx} {L:List (Nat×Value)} {As R:List Asn} {Q:Exit→Act→World→Prop} {K:Act→World→Prop} {ops:Array Oper} {rest:List Oper} {T:TypeId} {pos:String} {aft:Array Edge} {gd:Option (Nat×Bool)}
theorem ZN {xT:TypeId} {x:Operand} {v:Value} (hx:ev L x=some v) (hu:concrete c.P xT=true):PR c (.makeInterface xT x) T L As (.iface xT v):=fun a w hf _ d pos aft gd=>by
 unfold concrete at hu
 have:(Instr.makeInterface xT v).run c.P w=.ok (.iface xT v) w:=by
  unfold Instr.makeInterface
  cases h:c.P.underlying xT with
  | none=>rw [h] at hu;cases hu
  | some td =>
   rw [h] at hu
   simp only [Sem.run_bind,run_underlying h,Result.andThen_ok]
   cases td <;> first | (simp at hu;done) | simp
 simp [execOp,hf.ev hx,this]
/-- A call through an interface value,by a contract that asks only what lasts. -/
theorem jo_invokep {x:Operand} {name:String} {os:List Operand} {vs:List Value} {recv:Value} {tys:Array TypeId} {Bs:List Asn} {ι:Type} {val:ι→Value} {asn:ι→List Asn} {d:Nat} (hx:ev L x=some recv) (hc:Meth c.P recv name vs Bs val asn) (hv:EvL L os vs) (hd:Nat.blt d c.n=true) (hB:HasP As Bs)
  (h:∀ i,J c ((d,val i)::L) (asn i++As) (wpList c.P ops Q rest)):J c L As (wpList c.P ops Q (⟨some d,.call { callee:=.invoke x name,args:=os.toArray,argTypes:=tys },T,pos,aft,none⟩::rest)):=Yc rfl fun a w hf hm=>by
 obtain ⟨f,args,hi,con⟩:=hc
 show Oper.upon _ _ _ _ _ ((execOp a.eval _).run c.P w)
 have hr:(execOp a.eval ⟨some d,.call { callee:=.invoke x name,args:=os.toArray,argTypes:=tys },T,pos,aft,none⟩).run c.P w=.ok (.enter f args) w:=by
  have hmp:=hv.map hf
  have:=hi w
  simp only [execOp,resolve,hf.ev hx,Sem.run_bind,Sem.run_pure,Result.andThen_ok,List.map_toArray,hmp]
  simpa using this
 rw [hr]
 obtain ⟨I,m,he,hs⟩:=hm
 have ho:=he.okw
 refine (con w I [] ho.nil (hB.sats hs)).mono fun e w' hE=>?_
 obtain ⟨i,I',m1',rfl,h3,h4⟩:=hE
 exact h i _ _ (hf.put (by rw [Nat.blt_eq] at hd;exact hd) _) ⟨I',m1'++m,he.trans (Eff.frame (m1:=[]) ho h3),Yl.2 ⟨m1',m,rfl,h4,Sats.frame (m1:=[]) ho h3 hs⟩⟩
/-! ### Maps from strings -/
theorem pr_lookS {t kt et:TypeId} {x y:Operand} {r clk:Nat} {ty:Ty} {l:List (List UInt8×ty.den)} {k:List UInt8} {dd:ty.den} {agg:Bool} {n by_:Nat} {z v:Value} (hx:ev L x=some (.map (some r))) (hy:ev L y=some (str k)) (hA:Asn.mp r (mpE ty l) clk∈As) (ht:c.P.underlying t=some (.map kt et)) (hk:c.P.underlying kt=some .string)
  (hz:TyF c.P et agg n by_ (some z)) (hzd:toV ty (enc ty dd)=z) (hv:toV ty (enc ty ((zk l k).getD dd))=v):PR c (.lookup t x y false) T L As v:=fun a w hf hm d pos aft gd=>by
 obtain ⟨I,m,ho,rfl,hh⟩:=hm.get hA
 obtain ⟨i,hi1,_,_,hi4⟩:=hz.get
 have hck:∀ b,(Instr.checkKey b 10000 kt (str k)).run c.P w=.ok () w:=fun b=>qZ (k:=.i64) (.inr hk)
 obtain ⟨j,hj⟩:=find_mpE k l 0 0
 have hfk:(Instr.findKey kt (str k) (mpE ty l)).run c.P w=.ok _ w:=ZR hk hj
 subst hv
 subst hzd
 cases hl:zk l k with
 | none=>rw [hl] at hfk;simp at hfk;simp [execOp,hf.ev hx,hf.ev hy,Instr.lookup,run_underlying ht,ZV hh,hck,hfk,zeroValue,typeInfo,hi1,hi4]
 | some u=>rw [hl] at hfk;simp at hfk;simp [execOp,hf.ev hx,hf.ev hy,Instr.lookup,run_underlying ht,ZV hh,hck,hfk]
/-- A new key. -/
theorem jo_mapUpdate {t kt et:TypeId} {x y v:Operand} {r clk:Nat} {es:List MapEntry} {kv vv:Value} {k:IntKind} {td:TypeDesc} (hx:ev L x=some (.map (some r))) (hy:ev L y=some kv) (hv:ev L v=some vv) (ht:c.P.underlying t=some (.map kt et)) (hk:c.P.underlying kt=some td) (htd:td=.int k∨td=.string) (hn:Instr.findNow td kv es 0=some none)
  (h:J c L (.mp r (es++[{ key:=kv,val:=vv,born:=clk }]) (clk+1)::R) (wpList c.P ops Q rest)):J c L (.mp r es clk::R) (wpList c.P ops Q (⟨none,.mapUpdate t x y v,T,pos,aft,none⟩::rest)):=Yc rfl fun a w hf hm=>by
 obtain ⟨I,m,ho,rfl,hh⟩:=hm.get (A:=.mp r es clk) (by simp)
 show Oper.upon _ _ _ _ _ ((execOp a.eval _).run c.P w)
 have hck:(Instr.checkKey false 10000 kt kv).run c.P w=.ok () w:=qZ (k:=k) (by rcases htd with rfl | rfl;exact .inl hk;exact .inr hk)
 have hfk:(Instr.findKey kt kv es).run c.P w=.ok none w:=ZR hk hn
 have hset:∀ o,(setObj r o).run c.P w=.ok () { w with heap:=w.heap.set! r o }:=fun o=>by simp [setObj,Sem.run,hh]
 have hr:(execOp a.eval ⟨none,.mapUpdate t x y v,T,pos,aft,none⟩).run c.P w=.ok .skip { w with heap:=w.heap.set! r (.map (es++[({ key:=kv,val:=vv,born:=clk }:MapEntry)]).toArray (clk+1)) }:=by
  simp only [execOp,hf.ev hx,hf.ev hy,hf.ev hv,Instr.mapUpdate,Sem.run_bind,run_underlying ht,Result.andThen_ok,ZV hh,hck,List.toList_toArray,hfk,hset,Sem.run_pure]
  simp
 rw [hr]
 have hlt:r<w.heap.size:=by
  rcases Nat.lt_or_ge r w.heap.size with h | h
  ·exact h
  ·rw [Array.getElem?_eq_none h] at hh;cases hh
 refine h _ _ (hf.none _) (Mem.step (Ps:=[.mp r es clk]) (Bs:=[.mp r _ _]) hm fun I m1 ho hs=>?_)
 obtain ⟨m1,m2,rfl,⟨rfl,_⟩,rfl⟩:=hs
 refine ⟨I,[r],Eff.write ho rfl rfl rfl (by simp) (fun k hk=>by simp [Array.getElem?_setIfInBounds,Ne.symm hk]),[r],[],rfl,⟨rfl,?_⟩,rfl⟩
 simp [hlt]
/-- A new key,a string. -/
theorem jo_putS {t kt et:TypeId} {x y v:Operand} {r:Nat} {ty:Ty} {l:List (List UInt8×ty.den)} {k:List UInt8} {vv:Value} (u:ty.den) (hx:ev L x=some (.map (some r))) (hy:ev L y=some (str k)) (hv:ev L v=some vv) (hu:toV ty (enc ty u)=vv) (ht:c.P.underlying t=some (.map kt et)) (hk:c.P.underlying kt=some .string) (hn:zk l k=none)
  (h:J c L (.mp r (mpE ty (l++[(k,u)])) (l++[(k,u)]).length::R) (wpList c.P ops Q rest)):J c L (.mp r (mpE ty l) l.length::R) (wpList c.P ops Q (⟨none,.mapUpdate t x y v,T,pos,aft,none⟩::rest)):=by
 obtain ⟨j,hj⟩:=find_mpE k l 0 0
 rw [hn] at hj
 have h2:J c L (.mp r (mpE ty l++[({ key:=str k,val:=vv,born:=l.length }:MapEntry)]) (l.length+1)::R) (wpList c.P ops Q rest):=by
  rw [← hu,mpE_push];simpa using h
 exact jo_mapUpdate (k:=.i64) hx hy hv ht hk (.inr rfl) hj h2
/-! ### Ranging over a string -/
def runeAt (s:List UInt8) (i:Nat):Int:=((Utf8.decode ⟨s.toArray⟩ i).1:Nat)
def runeW (s:List UInt8) (i:Nat):Nat:=(Utf8.decode ⟨s.toArray⟩ i).2
/-! ### Runes,scopes -/
def encR (r:Int):List UInt8:=(Utf8.encode r).data.toList
end ops
end Go.Sep
namespace Go.Sep
open Go Go.Deep
set_option linter.unusedSimpArgs false
/-- The blocks of a world. -/
def Old (W:World):zl:=fun b=>b<W.heap.size
/-- No slice within is longer than a slice can be. -/
def FinL:(t:Ty)→t.den→Prop
 | .list t,xs=>xs.length≤maxLen∧∀ x∈xs,FinL t x
 | .pair a b,x=>FinL a x.1∧FinL b x.2
 | .bool,_=>True
 | .int _,_=>True
 | .u8,_=>True
 | .raw,_=>True
 | .str,_=>True
/-- Cells of type T that read as any datum hold a datum of t. -/
def Opens (P:Program) (t:Ty) (T:TypeId):Prop :=
 ∀ {H:Type} {enc:TypeId×Value→H} {W:World} {fuel:Nat} {cs:List Value} {x:DataW H×List MemPlace},DataW.trod enc P W 0 (fun _=>true) true fuel T cs=some x→∃ y:t.den,repC W (Old W) t cs y∧FinL t y
theorem qz {P:Program} {T:TypeId} (h:P.underlying T=some .string):Opens P .str T:=fun hd=>by
 obtain ⟨s,rfl,_⟩:=DataW.trod_string h hd
 exact ⟨s.data.toList,(by simp only [repC];rw [str_data]),trivial⟩
theorem We {P:Program} {T:TypeId} {k:IntKind} (h:P.underlying T=some (.int k)):Opens P (.int k) T:=fun hd=>by
 obtain ⟨s,rfl,_⟩:=DataW.trod_int h hd
 exact ⟨s,rfl,trivial⟩
theorem qm {P:Program} {T E:TypeId} {t:Ty} (h:P.underlying T=some (.slice E)) (hn:P.cellsOf E=t.n) (he:Opens P t E):Opens P (.list t) T:=fun {H enc W fuel cs x} hd=>by
 rcases open_slice h hd with ⟨rfl,_⟩ | ⟨a,len,cap,m,n,D,Pl,rfl,hb,hl,hm,hmm,rfl,hx⟩
 ·exact ⟨[],⟨none,0,0,rfl,rfl,Nat.le_refl _,.inl rfl⟩,by simp [FinL]⟩
 have hm':m=cap:=by simpa using hmm
 subst hm'
 have key:∀ i,i<m→∃ cs',W.cells? 0 (a.add (i*t.n)) t.n=some cs'∧∃ y:t.den,repC W (Old W) t cs' y∧FinL t y:=fun i hi=>by
  obtain ⟨cs',h1,h2⟩:=hx i hi
  rw [hn] at h1
  exact ⟨cs',h1,he h2⟩
 rcases Nat.eq_zero_or_pos m with h0 | h0
 ·subst h0
  obtain rfl:len=0:=by omega
  exact ⟨[],⟨some a,0,0,rfl,rfl,Nat.le_refl _,.inl rfl⟩,by simp [FinL]⟩
 have hpos:=t.n_pos
 -- the block
 have hcell:∀ i,i<m→∀ j,j<t.n→∃ u,W.cell? (a.add (i*t.n+j))=some u:=fun i hi j hj=>by
  obtain ⟨cs',h1,_⟩:=key i hi
  obtain ⟨_,h2,h3⟩:=World.cells?_some h1
  have:=h3 j hj
  rw [Deep.add_add] at this
  rw [this,List.getElem?_eq_getElem (by omega)]
  exact ⟨_,rfl⟩
 obtain ⟨u0,hu0⟩:=hcell 0 h0 0 hpos
 have hspot:a.spot=none:=by
  unfold Addr.add at hu0
  simp only [Nat.zero_mul,Nat.zero_add] at hu0
  unfold World.cell? at hu0
  simp only [if_true] at hu0
  split at hu0
  ·split at hu0
   ·cases hu0
   ·rename_i h;simpa using h
  ·cases hu0
 obtain ⟨b,off,sp⟩:=a
 simp only at hspot
 subst hspot
 simp only [Addr.add_mk] at hcell key hu0
 obtain ⟨C,E',fz,hC⟩:∃ C E' fz,W.heap[b]?=some (.cells C E' fz):=by
  unfold World.cell? at hu0
  split at hu0
  ·rename_i c e f hc;exact ⟨c,e,f,hc⟩
  ·cases hu0
 have hlt:b<W.heap.size:=by
  rcases Nat.lt_or_ge b W.heap.size with h | h
  ·exact h
  ·rw [Array.getElem?_eq_none h] at hC;cases hC
 have hfit:off+m*t.n≤C.size:=by
  obtain ⟨u,hu⟩:=hcell (m-1) (by omega) (t.n-1) (by omega)
  rw [z4 hC] at hu
  have:off+((m-1)*t.n+(t.n-1))<C.size:=by
   rcases Nat.lt_or_ge (off+((m-1)*t.n+(t.n-1))) C.size with h | h
   ·exact h
   ·rw [Array.getElem?_eq_none h] at hu;cases hu
  have e:m*t.n=(m-1)*t.n+t.n:=by conv=>lhs;rw [show m=m-1+1 from by omega,Nat.add_mul,Nat.one_mul]
  omega
 have hcells:∀ i,i<m→∃ y:t.den,repC W (Old W) t ((C.toList.drop (off+i*t.n)).take t.n) y∧FinL t y:=fun i hi=>by
  obtain ⟨cs',h1,y,h2⟩:=key i hi
  obtain ⟨_,h3,h4⟩:=World.cells?_some h1
  have hle:i*t.n+t.n≤m*t.n:=Zm hi (Nat.le_refl _)
  have:(C.toList.drop (off+i*t.n)).take t.n=cs':=by
   apply List.ext_getElem?
   intro j
   rw [List.getElem?_take]
   by_cases hj:j<t.n
   ·rw [if_pos hj,List.getElem?_drop,← h4 j hj,Addr.add_mk,z4 hC,Array.getElem?_toList,Nat.add_assoc]
   ·rw [if_neg hj,List.getElem?_eq_none (by omega)]
  rw [this];exact ⟨y,h2⟩
 let F:Nat→t.den:=fun i=>if hi:i<m then (hcells i hi).choose else (hcells 0 h0).choose
 have hF:∀ i (him:i<m),F i=(hcells i him).choose:=fun i him=>by show (if hi:i<m then _ else _)=_;rw [dif_pos him]
 refine ⟨(List.range len).map F,⟨some ⟨b,off,none⟩,len,m,rfl,by simp,hl,.inr ⟨b,off,C,E',fz,rfl,hlt,hC,?_,fun i hi=>?_⟩⟩,⟨by simp;omega,fun x hx=>?_⟩⟩
 ·have:=Nat.mul_le_mul_right t.n hl
  omega
 ·simp only [List.length_map,List.length_range] at hi
  have him:i<m:=by omega
  simp only [List.getElem_map,List.getElem_range]
  show repC W (Old W) t _ (F i)
  rw [hF i him]
  exact (hcells i him).choose_spec.1
 ·obtain ⟨i,hi,rfl⟩:=List.mem_map.1 hx
  have him:i<m:=by have:=List.mem_range.1 hi;omega
  rw [hF i him]
  exact (hcells i him).choose_spec.2
/-- The fields from one on. -/
def OpensF (P:Program) (fs:List Field) (o:Nat) (t:Ty):Prop :=
 ∀ {H:Type} {enc:TypeId×Value→H} {W:World} {fuel:Nat} {cs:List Value},
  (∀ (k:Nat) (f:Field),fs[k]?=some f→∃ y,DataW.trod enc P W 0 (fun _=>true) true fuel f.type ((cs.drop f.offset).take (P.cellsOf f.type))=some y)→cs.length=o+t.n→∃ y:t.den,repC W (Old W) t (cs.drop o) y∧FinL t y
theorem opensF_one {P:Program} {f:Field} {o:Nat} {t:Ty} (ho:f.offset=o) (hn:P.cellsOf f.type=t.n) (h:Opens P t f.type):OpensF P [f] o t:=fun {H enc W fuel cs} hd hl=>by
 obtain ⟨x,hx⟩:=hd 0 f rfl
 rw [ho,hn,List.take_of_length_le (by simp;omega)] at hx
 exact h hx
theorem YM {P:Program} {f:Field} {fs:List Field} {o o':Nat} {a b:Ty} (ho:f.offset=o) (hn:P.cellsOf f.type=a.n) (h:Opens P a f.type) (ho':o+a.n=o') (hr:OpensF P fs o' b):OpensF P (f::fs) o (.pair a b):=fun {H enc W fuel cs} hd hl=>by
 obtain ⟨x,hx⟩:=hd 0 f rfl
 rw [ho,hn] at hx
 obtain ⟨y1,h1,f1⟩:=h hx
 obtain ⟨y2,h2,f2⟩:=hr (fun k g hk=>hd (k+1) g (by simpa using hk)) (by rw [hl];simp [Ty.n];omega)
 exact ⟨(y1,y2),⟨_,_,(by rw [← ho',← List.drop_drop,List.take_append_drop]),h1,h2⟩,f1,f2⟩
theorem w6 {P:Program} {T:TypeId} {fs:Array Field} {t:Ty} (h:P.underlying T=some (.struct fs)) (hn:P.cellsOf T=t.n) (hf:OpensF P fs.toList 0 t):Opens P t T:=fun {H enc W fuel cs x} hd=>by
 obtain ⟨xs,n,_,rfl,hl,hlen,hk⟩:=DataW.trod_struct h hd
 obtain ⟨y,hy,fy⟩:=hf (cs:=cs) (enc:=enc) (fuel:=n) (fun k f hkf=>by
  have hlt:k<xs.length:=by
   rw [hlen]
   rcases Nat.lt_or_ge k fs.toList.length with h | h
   ·simpa using h
   ·rw [List.getElem?_eq_none h] at hkf;cases hkf
  have:=hk k f (by simpa using hkf)
  rw [this,List.getElem?_eq_getElem hlt]
  exact ⟨_,rfl⟩) (by rw [hl,hn,Nat.zero_add])
 exact ⟨y,by simpa using hy,fy⟩
theorem open_list {P:Program} {T E:TypeId} {t:Ty} (ho:Opens P (.list t) T) (h:P.underlying T=some (.slice E)) {H:Type} {enc:TypeId×Value→H} {W:World} {r:Reach} {b0:Nat} {v:Value} {d:DataW H} {ps:List MemPlace}
  (hval:Value.okWide P W r b0 T v) (hd:DataW.Trod enc P W 0 (fun _=>true) true T v d ps):∃ y:List t.den,repV W (Old W) (.list t) v y∧y.length≤maxLen∧FinL (.list t) y:=by
 obtain ⟨fuel,hf⟩:=hd
 obtain ⟨y,hy,fy⟩:=ho hf
 have:v.cells=#[v]:=by
  cases v <;> first | rfl | (unfold Value.okWide at hval;rw [h] at hval;simp [Cell.okWide,Cell.ok,h] at hval)
 rw [this] at hy
 exact ⟨y,⟨_,by simp [toV,Ty.isPair],hy⟩,fy.1,fy⟩
end Go.Sep

namespace Go.Sep
section
variable {c:Cx} {L:List (Nat×Value)} {As R:List Asn} {Q Q':Exit→Act→World→Prop} {K:Act→World→Prop} {ops:Array Oper} {rest:List Oper} {T:TypeId} {pos:String} {aft:Array Edge}
theorem yx (h:J c L As K):J c L As (wpList c.P ops (Exit.then K Q) []):=h
theorem yz {id:Nat} {l:List Oper} {y:Code} (h:J c L As (wpList c.P l.toArray (Exit.then (y.wp c.P Q) Q) l)):J c L As ((Code.seq (Code.region id l.toArray false) y).wp c.P Q):=yg (yj h)
theorem Yr {id:Nat} {l:List Oper} {y:Code} (h:J c L As (wpList c.P l.toArray (Exit.then (y.wp c.P Q') Q') l)):J c L As (wpList c.P ops (Exit.then ((Code.seq (Code.region id l.toArray false) y).wp c.P Q') Q) []):=yg (yj h)
theorem zS (h:J c L As K):J c L As (Code.skip.wp c.P (Exit.then K Q)):=zm h
theorem ZJ {id:Nat} (h:J c L As (Q .ret)):J c L As (Code.ret.wp c.P (Exit.inBlock id Q)):=yw h
theorem qf {id:Nat} (h:J c L As (Q .ret)):J c L As (Exit.then K (Exit.inBlock id Q) .ret):=h
theorem yq {x:Operand} {d:Nat} {v:Value} (hv:ev L x=some v) (h:J c ((d,v)::L) As (wpList c.P ops Q rest)) (hd:Nat.blt d c.n=true:=by rfl):J c L As (wpList c.P ops Q (⟨some d,.move x,T,pos,aft,none⟩::rest)):=jo_pure hd (yh hv) h
theorem yy {x:Operand} {d:Nat} {v:Value} (hv:ev L x=some v) (h:J c ((d,v)::L) As (wpList c.P ops Q rest)) (hd:Nat.blt d c.n=true:=by rfl):J c L As (wpList c.P ops Q (⟨some d,.assign x,T,pos,aft,none⟩::rest)):=jo_pure hd (Ys hv) h
theorem xP {op:Op} {d:Nat} {v:Value} (hp:PR c op T L As v) (h:J c ((d,v)::L) As (wpList c.P ops Q rest)) (hd:Nat.blt d c.n=true:=by rfl):J c L As (wpList c.P ops Q (⟨some d,op,T,pos,aft,none⟩::rest)):=jo_pure hd hp h
theorem zJ {op:Op} {d:Nat} {v:Value} (hp:PR c op T L As v) (h:JD c ((d,v)::L) As ops Q rest) (hd:Nat.blt d c.n=true:=by rfl):JD c L As ops Q (⟨some d,op,T,pos,aft,none⟩::rest):=jd_pure hd hp h
theorem xG {op:Op} {d j t:Nat} {b b' want:Bool} {v:Value} (hj:(ops[j]?).bind (·.dst)=some t) (hl:lk L t=some (.bool b)) (hw:(b==want)=b') (hp:b'=true→PR c op T L As v) (h:J c ((d,gv b' v)::L) As (wpList c.P ops Q rest)) (hd:Nat.blt d c.n=true:=by rfl):J c L As (wpList c.P ops Q (⟨some d,op,T,pos,aft,some (j,want)⟩::rest)):=jo_gpure hj hl hd hw hp h
theorem qL {op:Op} {d j t:Nat} {b b' want:Bool} {v:Value} (hj:(ops[j]?).bind (·.dst)=some t) (hl:lk L t=some (.bool b)) (hw:(b==want)=b') (hp:b'=true→PR c op T L As v) (h:JD c ((d,gv b' v)::L) As ops Q rest) (hd:Nat.blt d c.n=true:=by rfl):JD c L As ops Q (⟨some d,op,T,pos,aft,some (j,want)⟩::rest):=jd_gpure hj hl hd hw hp h
theorem xcD {x:Operand} {th el:Code} {p:Prop} {inst:Decidable p} (hv:ev L x=some (.bool (@decide p inst))) (ht:@decide p inst=true→p→J c L As (th.wp c.P Q)) (hf:@decide p inst=false→¬p→J c L As (el.wp c.P Q)):J c L As ((Code.cond x th el).wp c.P Q):=ZM hv (fun h=>ht h (of_decide_eq_true h)) (fun h=>hf h (of_decide_eq_false h))
theorem xC {P:Program} {f:FuncId} {fn:Func} {code:Code} {args:List Value} {As:List Asn} {ι:Type} {val:ι→Value} {asn:ι→List Asn} (hf:P.funcs[f]?=some fn) (hb:fn.body=some code) {n:Nat} (hn:Nat.ble args.length fn.ntmps=true) (hn':fn.ntmps=n) (h:∀ w0 I0 m0,J ⟨P,n,w0,I0,m0⟩ (args.zipIdx.map fun x=>(x.2,x.1)) As (code.wp P (bodyPost P fn (Ends w0 I0 m0 val asn)))):Con P f args.toArray As val asn:=con_of_J hf hb (Nat.le_of_ble_eq_true hn) hn' h
end
end Go.Sep
