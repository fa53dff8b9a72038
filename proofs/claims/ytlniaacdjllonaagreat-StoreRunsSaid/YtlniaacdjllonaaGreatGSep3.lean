/-
 The rules of the calculus for calls through function values that take memory,and for remainders with a sign. No program in sight. No conditions.
 The rules of the calculus for own rows of slices: made,written,read. No program in sight. No conditions.
-/
import Derived.Test.YtlniaacdjllonaaGreatGSep2
namespace Go.Sep
open Go
set_option linter.unusedVariables false
set_option linter.unusedSimpArgs false
section ops
variable {c:Cx} {L:List (Nat×Value)} {As R:List Asn} {Q:Exit→Act→World→Prop} {K:Act→World→Prop} {ops:Array Oper} {rest:List Oper} {T:TypeId} {pos:String} {aft:Array Edge} {gd:Option (Nat×Bool)}
/-- A call through a function value that takes what it asks for. -/
theorem jo_callvm {x:Operand} {os:List Operand} {vs fi ca:List Value} {f:FuncId} {tys:Array TypeId} {Bs:List Asn} {ι:Type} {val:ι→Value} {asn:ι→List Asn} {d:Nat} (R:List Asn) (hAs:As=Bs++R) (hx:ev L x=some (.func (.func f) fi.toArray ca.toArray)) (hc:Cal c.P f) (con:Con c.P f (fi++vs++ca).toArray Bs val asn) (hv:EvL L os vs) (hd:Nat.blt d c.n=true)
  (h:∀ i,J c ((d,val i)::L) (asn i++R) (wpList c.P ops Q rest)):J c L As (wpList c.P ops Q (⟨some d,.call { callee:=.value x,args:=os.toArray,argTypes:=tys },T,pos,aft,none⟩::rest)):=by
 subst hAs
 refine Yc rfl fun a w hf hm=>?_
 show Oper.upon _ _ _ _ _ ((execOp a.eval _).run c.P w)
 rw [run_callv hf hx hc hv w]
 obtain ⟨I,m,he,hs⟩:=hm
 obtain ⟨m1,m2,rfl,h1,h2⟩:=Yl.1 hs
 refine (con w I m1 he.okw.left h1).mono fun e w' hE=>?_
 obtain ⟨i,I',m1',rfl,h3,h4⟩:=hE
 exact h i _ _ (hf.put (by rw [Nat.blt_eq] at hd;exact hd) _) ⟨I',m1'++m2,he.trans (h3.frame he.okw),Yl.2 ⟨m1',m2,rfl,h4,h2.frame he.okw h3⟩⟩
/-! ### Calls that look at memory of one's own while they run -/
/-- What a call may be shown: what lasts,or an own row,an own variable,as long as the call runs. -/
def Peek (As:List Asn) (B:Asn):Prop:=(B.pers=true∧B∈As)∨(∃ v E t xs,B=.imm (.list t) v xs∧Asn.row v E t xs∈As)∨(∃ b T cs,B=.ibox b T cs∧Asn.box b T cs∈As)
def HasQ (As:List Asn):List Asn→Prop
 | []=>True
 | B::Bs=>Peek As B∧HasQ As Bs
theorem ZA {As:List Asn} {B:Asn} (h1:B.pers=true) (h2:B∈As):Peek As B:=.inl ⟨h1,h2⟩
theorem Z0 {As:List Asn} {v:Value} {E:TypeId} {t:Ty} {xs:List t.den} (h:Asn.row v E t xs∈As):Peek As (.imm (.list t) v xs):=.inr (.inl ⟨v,E,t,xs,rfl,h⟩)
theorem qI {As:List Asn} {b:Nat} {T:TypeId} {cs:List Value} (h:Asn.box b T cs∈As):Peek As (.ibox b T cs):=.inr (.inr ⟨b,T,cs,rfl,h⟩)
theorem Sats.mem_own {w:World} {I:zl}:∀ {As:List Asn} {m:List Nat} {A:Asn},Sats w I As m→A∈As→∃ m1,A.sat w I m1∧∀ b∈m1,b∈m
 | [],_,_,_,h=>by cases h
 | B::As,m,A,hs,hA=>by
  obtain ⟨m1,m2,rfl,h1,h2⟩:=hs
  rcases List.mem_cons.1 hA with rfl | hA
  ·exact ⟨m1,h1,fun b hb=>by simp [hb]⟩
  ·obtain ⟨m3,h3,h4⟩:=Sats.mem_own h2 hA
   exact ⟨m3,h3,fun b hb=>by simp [h4 b hb]⟩
theorem Peek.sat {w:World} {I:zl} {m:List Nat} {As:List Asn} {B:Asn} (hs:Sats w I As m) (h:Peek As B):B.sat w (fun b=>I b∨b∈m) []:=by
 have mono:∀ {A:Asn} {m1:List Nat},A.sat w I m1→A.sat w (fun b=>I b∨b∈m) m1:=fun h=>Asn.sat_mono (Nat.le_refl _) (fun _ _=>rfl) (fun _ hb=>.inl hb) h
 rcases h with ⟨h1,h2⟩ | ⟨v,E,t,xs,rfl,h2⟩ | ⟨b,T,cs,rfl,h2⟩
 ·exact mono (hs.pers h2 h1)
 ·obtain ⟨m1,h3,h4⟩:=hs.mem_own h2
  have h5:=mono h3
  rcases h5 with ⟨rfl,rfl,_⟩ | ⟨g,cap,rfl,rfl,hr⟩
  ·exact ⟨rfl,_,rfl,none,0,0,rfl,rfl,Nat.le_refl _,.inl rfl⟩
  ·exact ⟨rfl,_,rfl,Z9.rep (I:=fun b=>I b∨b∈m) (.inr (h4 g (by simp))) hr⟩
 ·obtain ⟨m1,h3,h4⟩:=hs.mem_own h2
  obtain ⟨rfl,h5⟩:=h3
  exact ⟨rfl,.inr (h4 b (by simp)),h5⟩
theorem HasQ.sats {w:World} {I:zl} {m:List Nat} {As:List Asn} (hs:Sats w I As m):∀ {Bs:List Asn},HasQ As Bs→Sats w (fun b=>I b∨b∈m) Bs []
 | [],_=>rfl
 | _::_,h=>⟨[],[],rfl,h.1.sat hs,HasQ.sats hs h.2⟩
/-- After a call that was shown own memory and hands back none,all is as it was. -/
theorem Mem.after {c:Cx} {As:List Asn} {w w':World} {I I1':zl} {m m':List Nat} (he:Eff c.w0 c.I0 c.m0 w I m) (hs:Sats w I As m) (h:Eff w (fun b=>I b∨b∈m) [] w' I1' m'):Mem c As w':=by
 have ho:=he.okw
 have hb:∀ k,k<w.heap.size→w'.heap[k]?=w.heap[k]?:=fun k hk=>h.block k hk List.not_mem_nil
 refine ⟨I,m,he.trans ⟨h.os,h.tape,h.output,h.size,fun k hk _=>hb k hk,fun _ h=>h,fun _ h=>.inl h,fun b hb'=>Nat.lt_of_lt_of_le (ho.lt b hb') h.size,ho.nodup,ho.apart,fun b hb'=>⟨.inl hb',Nat.lt_of_lt_of_le (ho.own b hb') h.size⟩⟩,?_⟩
 exact W1 h.size (fun _ h=>h) (fun b hb'=>by rcases hb' with hb' | hb';exact hb b (ho.lt b hb');exact hb b (ho.own b hb')) hs
theorem Okw.shown {w:World} {I:zl} {m:List Nat} (h:Okw w I m):Okw w (fun b=>I b∨b∈m) []:=⟨fun b hb=>hb.elim (h.lt b) (h.own b),by simp,fun _ hb=>by simp at hb,fun _ hb=>by simp at hb⟩
theorem Zx {os:List Operand} {vs:List Value} {f:FuncId} {tys:Array TypeId} {Bs:List Asn} {ι:Type} {val:ι→Value} {d:Nat} (hc:Cal c.P f) (con:Con c.P f vs.toArray Bs val (fun _=>[])) (hv:EvL L os vs) (hd:Nat.blt d c.n=true) (hB:HasQ As Bs)
  (h:∀ i,J c ((d,val i)::L) As (wpList c.P ops Q rest)):J c L As (wpList c.P ops Q (⟨some d,.call { callee:=.value (.func f),args:=os.toArray,argTypes:=tys },T,pos,aft,none⟩::rest)):=Yc rfl fun a w hf hm=>by
 show Oper.upon _ _ _ _ _ ((execOp a.eval _).run c.P w)
 rw [WR hf hc hv w]
 obtain ⟨I,m,he,hs⟩:=hm
 refine (con w _ [] he.okw.shown (hB.sats hs)).mono fun e w' hE=>?_
 obtain ⟨i,I',m1',rfl,h3,h4⟩:=hE
 exact h i _ _ (hf.put (by rw [Nat.blt_eq] at hd;exact hd) _) (Mem.after he hs h3)
theorem jo_buildSliceLV {ty E:TypeId} {len d:Nat} {parts:Array (Nat×Operand)} {t:Ty} {agg:Bool} {by_:Nat} {z:Value} (xs:List t.den) (vs:List Value) (css:List (List Value)) (hp:∀ a,Fits c.n L a→(parts.map fun (i,x)=>(i,a.eval x)).toList=(vs.zipIdx 0).map fun x=>(x.2,x.1)) (hv:∀ w I m,Sats w I As m→vs.map Value.cells=css.map List.toArray)
  (hrep:HasReps As t css xs) (hu:c.P.underlying ty=some (.slice E)) (he:TyF c.P E agg t.n by_ (some z)) (hlen:xs.length=len) (hpos:Nat.blt 0 len=true) (hsm:Nat.ble (len*t.n) 16777216=true) (hd:Nat.blt d c.n=true)
  (h:∀ g,J c ((d,.slice (some ⟨g,0,none⟩) xs.length xs.length)::L) (.rowg g xs.length E t xs::As) (wpList c.P ops Q rest)) :
  J c L As (wpList c.P ops Q (⟨some d,.buildSlice ty len parts,T,pos,aft,none⟩::rest)):=Yc rfl fun a w hf hm=>by
 obtain ⟨i,hi1,hi2,_,hi4⟩:=he.get
 have hn:=t.n_pos
 rw [Nat.blt_eq] at hpos
 have hsm':=Nat.le_of_ble_eq_true hsm
 have hmul:0<len*t.n:=Nat.mul_pos hpos hn
 obtain ⟨I0,m0,he0,hs0⟩:=id hm
 obtain ⟨a1,a2,_⟩:=hrep.all (w:=w) (I:=I0) (fun A hA hp=>hs0.pers hA hp)
 have hfill:=fill_parts (t:=t) vs css 0 ((Array.range (len*i.size)).map (z.cells[· % z.cells.size]!)) (hv w I0 m0 hs0) a2 (by simp [hi2,hlen,a1])
 simp only [Nat.zero_mul,List.take_zero,List.nil_append] at hfill
 have hr:=run_buildSlice (P:=c.P) w ty E len (parts.map fun (i,x)=>(i,a.eval x)) css.flatten.toArray i z hu hi1 hi4 (by rw [hi2];omega) (by rw [hi2];omega) (by rw [hp a hf,hi2];rw [hi2] at hfill;exact hfill)
 have hr':(execOp a.eval ⟨some d,.buildSlice ty len parts,T,pos,aft,none⟩).run c.P w=.ok (.value (.slice (some ⟨w.heap.size,0,none⟩) len len)) (w.alloc (.cells css.flatten.toArray E)):=by
  simp only [execOp,Sem.run_bind,hr,Result.andThen_ok,Sem.run_pure]
 show Oper.upon _ _ _ _ _ ((execOp a.eval _).run c.P w)
 rw [hr']
 subst hlen
 have hml:xs.length≤maxLen:=by
  have:xs.length≤xs.length*t.n:=Nat.le_mul_of_pos_right _ hn
  simp only [maxLen];omega
 have hfl:css.flatten.length=xs.length*t.n:=by rw [← a1];exact wO css t.n a2
 refine h _ _ _ (hf.put (by rw [Nat.blt_eq] at hd;exact hd) _) (Mem.newP (Bs:=[.rowg w.heap.size xs.length E t xs]) hm fun I ho hs=>⟨[w.heap.size],[],rfl,⟨rfl,?_⟩,rfl⟩)
 obtain ⟨_,_,a3⟩:=hrep.all (w:=w.alloc (.cells css.flatten.toArray E)) (I:=I) hs
 exact ⟨_,heap_alloc_new w _,Nat.le_refl _,hml,by simpa using hfl,fun i hi=>by simpa using a3 i hi⟩
/-- An own row with its address hidden,its length told in other words. -/
theorem j_hide {g cap n:Nat} {E:TypeId} {t:Ty} {xs:List t.den} (hn:n=xs.length) (h:J c L (.row (.slice (some ⟨g,0,none⟩) n cap) E t xs::R) K):J c L (.rowg g cap E t xs::R) K:=by
 subst hn;exact Z6 h
end ops
end Go.Sep
namespace Go.Sep
open Go
set_option linter.unusedVariables false
set_option linter.unusedSimpArgs false
section ops
variable {c:Cx} {L:List (Nat×Value)} {As R:List Asn} {Q:Exit→Act→World→Prop} {K:Act→World→Prop} {ops:Array Oper} {rest:List Oper} {T:TypeId} {pos:String} {aft:Array Edge} {gd:Option (Nat×Bool)}
theorem Zr {w:World} {I:zl} {t:Ty}:repC w I (.list t) [.slice none 0 0] ([]:List t.den):=by
 simp only [repC]
 exact ⟨none,0,0,rfl,rfl,Nat.le_refl _,.inl trivial⟩
end ops
end Go.Sep
