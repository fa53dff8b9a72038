/-
 The rules of the calculus for calls through function values that take memory,and for remainders with a sign. No program in sight. No conditions.
 The rules of the calculus for own rows of slices: made,written,read. No program in sight. No conditions.
-/
import Derived.Test.YtfcidkjpebalkaaGreatDoorASep2
namespace Go.Sep
open Go
set_option linter.unusedVariables false
set_option linter.unusedSimpArgs false
section ops
variable {c:Cx} {L:List (Nat×Value)} {As R:List Asn} {Q:Exit→Act→World→Prop} {K:Act→World→Prop} {ops:Array Oper} {rest:List Oper} {T:TypeId} {pos:String} {aft:Array Edge} {gd:Option (Nat×Bool)}
/-- A call through a function value that takes what it asks for. -/
theorem jo_callvm {x:Operand} {os:List Operand} {vs fi ca:List Value} {f:FuncId} {tys:Array TypeId} {Bs:List Asn} {ι:Type} {val:ι→Value} {asn:ι→List Asn} {d:Nat} (R:List Asn) (hAs:As=Bs++R) (hx:ev L x=some (.func (.func f) fi.toArray ca.toArray)) (hc:Cal c.P f) (con:Con c.P f (fi++vs++ca).toArray Bs val asn) (hv:EvL L os vs) (hd:Nat.blt d c.n=true)
  (h:∀ i,J c ((d,val i)::L) (asn i++R) (wpList c.P ops Q rest)):J c L As (wpList c.P ops Q (⟨some d,.call { callee:=.value x,args:=os.toArray,argTypes:=tys },T,pos,aft,none⟩::rest)):=by
 subst hAs
 refine YJ rfl fun a w hf hm=>?_
 show Oper.upon _ _ _ _ _ ((execOp a.eval _).run c.P w)
 rw [run_callv hf hx hc hv w]
 obtain ⟨I,m,he,hs⟩:=hm
 obtain ⟨m1,m2,rfl,h1,h2⟩:=YF.1 hs
 refine (con w I m1 he.okw.left h1).mono fun e w' hE=>?_
 obtain ⟨i,I',m1',rfl,h3,h4⟩:=hE
 exact h i _ _ (hf.put (by rw [Nat.blt_eq] at hd;exact hd) _) ⟨I',m1'++m2,he.trans (h3.frame he.okw),YF.2 ⟨m1',m2,rfl,h4,h2.frame he.okw h3⟩⟩
/-! ### Calls that look at memory of one's own while they run -/
/-- What a call may be shown: what lasts,or an own row,an own variable,as long as the call runs. -/
def Peek (As:List Asn) (B:Asn):Prop:=(B.pers=true∧B∈As)∨(∃ v E t xs,B=.imm (.list t) v xs∧Asn.row v E t xs∈As)∨(∃ b T cs,B=.ibox b T cs∧Asn.box b T cs∈As)
def HasQ (As:List Asn):List Asn→Prop
 | []=>True
 | B::Bs=>Peek As B∧HasQ As Bs
theorem Sats.mem_own {w:World} {I:zt}:∀ {As:List Asn} {m:List Nat} {A:Asn},Sats w I As m→A∈As→∃ m1,A.sat w I m1∧∀ b∈m1,b∈m
 | [],_,_,_,h=>by cases h
 | B::As,m,A,hs,hA=>by
  obtain ⟨m1,m2,rfl,h1,h2⟩:=hs
  rcases List.mem_cons.1 hA with rfl | hA
  ·exact ⟨m1,h1,fun b hb=>by simp [hb]⟩
  ·obtain ⟨m3,h3,h4⟩:=Sats.mem_own h2 hA
   exact ⟨m3,h3,fun b hb=>by simp [h4 b hb]⟩
theorem Peek.sat {w:World} {I:zt} {m:List Nat} {As:List Asn} {B:Asn} (hs:Sats w I As m) (h:Peek As B):B.sat w (fun b=>I b∨b∈m) []:=by
 have mono:∀ {A:Asn} {m1:List Nat},A.sat w I m1→A.sat w (fun b=>I b∨b∈m) m1:=fun h=>Asn.sat_mono (Nat.le_refl _) (fun _ _=>rfl) (fun _ hb=>.inl hb) h
 rcases h with ⟨h1,h2⟩ | ⟨v,E,t,xs,rfl,h2⟩ | ⟨b,T,cs,rfl,h2⟩
 ·exact mono (hs.pers h2 h1)
 ·obtain ⟨m1,h3,h4⟩:=hs.mem_own h2
  have h5:=mono h3
  rcases h5 with ⟨rfl,rfl,_⟩ | ⟨g,cap,rfl,rfl,hr⟩
  ·exact ⟨rfl,_,rfl,none,0,0,rfl,rfl,Nat.le_refl _,.inl rfl⟩
  ·exact ⟨rfl,_,rfl,wh.rep (I:=fun b=>I b∨b∈m) (.inr (h4 g (by simp))) hr⟩
 ·obtain ⟨m1,h3,h4⟩:=hs.mem_own h2
  obtain ⟨rfl,h5⟩:=h3
  exact ⟨rfl,.inr (h4 b (by simp)),h5⟩
theorem HasQ.sats {w:World} {I:zt} {m:List Nat} {As:List Asn} (hs:Sats w I As m):∀ {Bs:List Asn},HasQ As Bs→Sats w (fun b=>I b∨b∈m) Bs []
 | [],_=>rfl
 | _::_,h=>⟨[],[],rfl,h.1.sat hs,HasQ.sats hs h.2⟩
/-- After a call that was shown own memory and hands back none,all is as it was. -/
theorem Mem.after {c:Cx} {As:List Asn} {w w':World} {I I1':zt} {m m':List Nat} (he:Eff c.w0 c.I0 c.m0 w I m) (hs:Sats w I As m) (h:Eff w (fun b=>I b∨b∈m) [] w' I1' m'):Mem c As w':=by
 have ho:=he.okw
 have hb:∀ k,k<w.heap.size→w'.heap[k]?=w.heap[k]?:=fun k hk=>h.block k hk List.not_mem_nil
 refine ⟨I,m,he.trans ⟨h.os,h.tape,h.output,h.size,fun k hk _=>hb k hk,fun _ h=>h,fun _ h=>.inl h,fun b hb'=>Nat.lt_of_lt_of_le (ho.lt b hb') h.size,ho.nodup,ho.apart,fun b hb'=>⟨.inl hb',Nat.lt_of_lt_of_le (ho.own b hb') h.size⟩⟩,?_⟩
 exact Sats_mono h.size (fun _ h=>h) (fun b hb'=>by rcases hb' with hb' | hb';exact hb b (ho.lt b hb');exact hb b (ho.own b hb')) hs
theorem jo_buildSliceLV {ty E:TypeId} {len d:Nat} {parts:Array (Nat×Operand)} {t:Ty} {agg:Bool} {by_:Nat} {z:Value} (xs:List t.den) (vs:List Value) (css:List (List Value)) (hp:∀ a,Fits c.n L a→(parts.map fun (i,x)=>(i,a.eval x)).toList=(vs.zipIdx 0).map fun x=>(x.2,x.1)) (hv:∀ w I m,Sats w I As m→vs.map Value.cells=css.map List.toArray)
  (hrep:HasReps As t css xs) (hu:c.P.underlying ty=some (.slice E)) (he:TyF c.P E agg t.n by_ (some z)) (hlen:xs.length=len) (hpos:Nat.blt 0 len=true) (hsm:Nat.ble (len*t.n) 16777216=true) (hd:Nat.blt d c.n=true)
  (h:∀ g,J c ((d,.slice (some ⟨g,0,none⟩) xs.length xs.length)::L) (.rowg g xs.length E t xs::As) (wpList c.P ops Q rest)) :
  J c L As (wpList c.P ops Q (⟨some d,.buildSlice ty len parts,T,pos,aft,none⟩::rest)):=YJ rfl fun a w hf hm=>by
 obtain ⟨i,hi1,hi2,_,hi4⟩:=he.get
 have hn:=t.n_pos
 rw [Nat.blt_eq] at hpos
 have hsm':=Nat.le_of_ble_eq_true hsm
 have hmul:0<len*t.n:=Nat.mul_pos hpos hn
 obtain ⟨I0,m0,he0,hs0⟩:=id hm
 obtain ⟨a1,a2,_⟩:=hrep.all (w:=w) (I:=I0) (fun A hA hp=>hs0.pers hA hp)
 have hfill:=fill_parts (t:=t) vs css 0 ((Array.range (len*i.size)).map (z.cells[· % z.cells.size]!)) (hv w I0 m0 hs0) a2 (by simp [hi2,hlen,a1])
 simp only [Nat.zero_mul,List.take_zero,List.nil_append] at hfill
 have hr:=run_buildSlice (P:=c.P) w ty E len (parts.map fun (i,x)=>(i,a.eval x)) css.flatten.toArray i z hu hi1 hi4 (by rw [hi2];omega) (by rw [hi2];omega) (by rw [hp a hf,hi2];rw [hi2] at hfill;exact hfill)
 have hr':(execOp a.eval ⟨some d,.buildSlice ty len parts,T,pos,aft,none⟩).run c.P w=.ok (.value (.slice (some ⟨w.heap.size,0,none⟩) len len)) (w.alloc (.cells css.flatten.toArray E)):=by
  simp only [execOp,Sem.run_bind,hr,Result.andThen_ok,Sem.run_pure]
 show Oper.upon _ _ _ _ _ ((execOp a.eval _).run c.P w)
 rw [hr']
 subst hlen
 have hml:xs.length≤maxLen:=by
  have:xs.length≤xs.length*t.n:=Nat.le_mul_of_pos_right _ hn
  simp only [maxLen];omega
 have hfl:css.flatten.length=xs.length*t.n:=by rw [← a1];exact WK css t.n a2
 refine h _ _ _ (hf.put (by rw [Nat.blt_eq] at hd;exact hd) _) (Mem.newP (Bs:=[.rowg w.heap.size xs.length E t xs]) hm fun I ho hs=>⟨[w.heap.size],[],rfl,⟨rfl,?_⟩,rfl⟩)
 obtain ⟨_,_,a3⟩:=hrep.all (w:=w.alloc (.cells css.flatten.toArray E)) (I:=I) hs
 exact ⟨_,heap_alloc_new w _,Nat.le_refl _,hml,by simpa using hfl,fun i hi=>by simpa using a3 i hi⟩
/-- An own row with its address hidden,its length told in other words. -/
theorem j_hide {g cap n:Nat} {E:TypeId} {t:Ty} {xs:List t.den} (hn:n=xs.length) (h:J c L (.row (.slice (some ⟨g,0,none⟩) n cap) E t xs::R) K):J c L (.rowg g cap E t xs::R) K:=by
 subst hn;exact YO h
end ops
end Go.Sep
namespace Go.Sep
open Go
set_option linter.unusedVariables false
set_option linter.unusedSimpArgs false
section ops
variable {c:Cx} {L:List (Nat×Value)} {As R:List Asn} {Q:Exit→Act→World→Prop} {K:Act→World→Prop} {ops:Array Oper} {rest:List Oper} {T:TypeId} {pos:String} {aft:Array Edge} {gd:Option (Nat×Bool)}
theorem repC_nil {w:World} {I:zt} {t:Ty}:repC w I (.list t) [.slice none 0 0] ([]:List t.den):=by
 simp only [repC]
 exact ⟨none,0,0,rfl,rfl,Nat.le_refl _,.inl trivial⟩
theorem list_n (t:Ty):(Ty.list t).n=1:=rfl
/-- An own row of nil slices. -/
theorem jo_makeSliceL {ty E:TypeId} {x:Operand} {n d:Nat} {t:Ty} {by_:Nat} (hx:ev L x=some (.int .i64 (n:Nat))) (hu:c.P.underlying ty=some (.slice E)) (he:TyF c.P E false 1 by_ (some (.slice none 0 0)))
  (hn:n≤maxLen) (hb:by_*n≤281474976710656) (hd:Nat.blt d c.n=true)
  (h:∀ g,J c ((d,.slice (some ⟨g,0,none⟩) n n)::L) (.rowg g n E (.list t) (List.replicate n [])::As) (wpList c.P ops Q rest)) :
  J c L As (wpList c.P ops Q (⟨some d,.makeSlice ty x x,T,pos,aft,none⟩::rest)):=YJ rfl fun a w hf hm=>by
 obtain ⟨i,hi1,hi2,hi3,hi4⟩:=he.get
 have hmx:n≤9223372036854775807:=by simp only [maxLen] at hn;omega
 have hw:IntKind.i64.wrap (n:Int)=n:=Qo (by omega)
 show Oper.upon _ _ _ _ _ ((execOp a.eval _).run c.P w)
 have hcells:((Array.range (n*1)).map ((Value.slice none 0 0).cells[· % (Value.slice none 0 0).cells.size]!))=(List.replicate n (Value.slice none 0 0)).toArray:=by
  apply Array.ext (by simp)
  intro i h1 h2
  simp [Value.cells,Nat.mod_one]
 have hr:(execOp a.eval ⟨some d,.makeSlice ty x x,T,pos,aft,none⟩).run c.P w=.ok (.value (.slice (some ⟨w.heap.size,0,none⟩) n n)) (w.alloc (.cells (List.replicate n (Value.slice none 0 0)).toArray E)):=by
  have h1:¬ ((by_:Int)*(n:Int)>281474976710656):=by rw [← Int.natCast_mul];omega
  by_cases h0:n=0
  ·subst h0
   have hw0:IntKind.i64.wrap 0=0:=rfl
   simp [execOp,Instr.makeSlice,hf.ev hx,run_underlying hu,asInt,asIntOf,typeInfo,hi1,hi3,hw0,sizeOf,hi2,newRow]
   exact congrArg (fun x=>w.alloc (Obj.cells x E)) (Array.eq_empty_of_size_eq_zero (by rw [Array.size_map,Array.size_range]))
  ·have h3:¬ (n:Int)<0:=by omega
   have h4:¬ 281474976710656<(by_:Int)*(n:Int):=h1
   have hsz:(Value.slice none 0 0).cells.size=1:=rfl
   simp [execOp,Instr.makeSlice,hf.ev hx,run_underlying hu,asInt,asIntOf,typeInfo,hi1,hi3,hi4,hw,sizeOf,hi2,newRow,zeroValue,h4,h3,h0]
   have hc2:=hcells
   rw [Nat.mul_one] at hc2
   rw [hc2];simp
 rw [hr]
 refine h _ _ _ (hf.put (by rw [Nat.blt_eq] at hd;exact hd) _) (Mem.new (Bs:=[.rowg w.heap.size n E (.list t) (List.replicate n [])]) hm fun I _=>⟨[w.heap.size],[],rfl,⟨rfl,?_⟩,rfl⟩)
 refine ⟨(List.replicate n (Value.slice none 0 0)).toArray,heap_alloc_new w _,by rw [List.length_replicate];exact Nat.le_refl _,hn,by simp [list_n],fun i hi=>?_⟩
 rw [List.length_replicate] at hi
 have e1:(((List.replicate n (Value.slice none 0 0)).toArray.toList.drop (i*(Ty.list t).n)).take (Ty.list t).n)=[.slice none 0 0]:=by
  rw [list_n,Nat.mul_one,List.drop_replicate,List.take_replicate,Nat.min_eq_left (by omega)];rfl
 have e2:(List.replicate n ([]:List t.den))[i]'(by rw [List.length_replicate];exact hi)=[]:=by rw [List.getElem_replicate]
 show repC _ I (.list t) _ ((List.replicate n ([]:List t.den))[i]'_)
 rw [e1,e2]
 exact repC_nil
/-- A slice that lasts,put into an own row. -/
theorem jo_store_gL {ty E:TypeId} {by_:Nat} {z:Option Value} {x y:Operand} {g o i cap:Nat} {t:Ty} {xs:List (Ty.list t).den} {v:Value} (u:(Ty.list t).den) (hx:ev L x=some (.pointer (some ⟨g,o,none⟩))) (hy:ev L y=some v) (ht:TyF c.P ty false 1 by_ z)
  (hi:i<xs.length) (ho:i*1=o)
  (h:J c L (.rowg g cap E (.list t) (xs.set i u)::R) (wpList c.P ops Q rest)):J c L (.rowg g cap E (.list t) xs::.imm (.list t) v u::R) (wpList c.P ops Q (⟨none,.store ty x y,T,pos,aft,none⟩::rest)):=YJ rfl fun a w hf hm=>by
 obtain ⟨I0,m0,_,hr0⟩:=hm.get (A:=.rowg g cap E (.list t) xs) (by simp)
 obtain ⟨I1,m1,_,hr1⟩:=hm.get (A:=.imm (.list t) v u) (by simp)
 obtain ⟨_,cs,hv,hrep⟩:=hr1
 have hcl:cs.length=1:=WH hrep
 obtain ⟨C,h1,h2,h3,h4,_⟩:=hr0.2
 have hc:i*1+1≤C.size:=by rw [h4];exact qW hi h2
 subst ho
 have hst:=qL ht w g (i*1) v cs (by rw [hv];exact toV_cells hrep) hcl (fun x hx=>WG hrep x hx) (fun j hj=>by rw [hcl] at hj;rw [zZ h1];simp;omega) (fun j hj=>by simp [World.frozen?,h1])
 show Oper.upon _ _ _ _ _ ((execOp a.eval _).run c.P w)
 have hrun:(execOp a.eval ⟨none,.store ty x y,T,pos,aft,none⟩).run c.P w=.ok .skip (w.setCells g (i*1) cs):=by
  simp only [execOp,hf.ev hx,hf.ev hy,Instr.storeAt,Instr.sureAddr,Sem.run_bind,Sem.run_pure,Result.andThen_ok,hst]
 rw [hrun]
 refine h _ _ (hf.none _) (Mem.step (Ps:=[_,_]) (Bs:=[_]) hm fun I m1 ho hs=>?_)
 obtain ⟨m1,m2,rfl,hs,hs2⟩:=hs
 obtain ⟨m3,m4,rfl,hs3,rfl⟩:=hs2
 obtain ⟨rfl,hr⟩:=hs
 obtain ⟨rfl,cs2,hv2,hrep2⟩:=hs3
 have hcs:cs2=cs:=by
  have e1:=toV_cells hrep2
  have e2:=toV_cells hrep
  rw [← hv2] at e1
  rw [← hv] at e2
  have:=e1.symm.trans e2
  simpa using this
 subst hcs
 obtain ⟨e1,e2⟩:=hr.write (by simpa using ho) hi hrep2
 exact ⟨I,[g],e1,[g],[],rfl,⟨rfl,e2⟩,rfl⟩
/-- An element of an own row of slices: it lasts. -/
theorem jo_loadL {ty E:TypeId} {by_:Nat} {z:Option Value} {x:Operand} {g o i cap d:Nat} {t:Ty} {xs:List (Ty.list t).den} (hx:ev L x=some (.pointer (some ⟨g,o,none⟩))) (ht:TyF c.P ty false 1 by_ z) (hA:Asn.rowg g cap E (.list t) xs∈As) (hi:i<xs.length) (ho:i*1=o) (hd:Nat.blt d c.n=true)
  (h:∀ v,J c ((d,v)::L) (.imm (.list t) v (xs.getD i [])::As) (wpList c.P ops Q rest)):J c L As (wpList c.P ops Q (⟨some d,.load ty x,T,pos,aft,none⟩::rest)):=YJ rfl fun a w hf hm=>by
 obtain ⟨I,m,he,hs⟩:=hm
 obtain ⟨m1,h1,_⟩:=hs.mem_own hA
 obtain ⟨cs,h2,h3,h4⟩:=h1.2.cell hi
 subst ho
 have hrun:=Yj ht w ⟨g,i*1,none⟩ cs h3 (fun _=>rfl) (fun j u hu=>by rw [Addr.add_mk];exact h4 j u hu)
 show Oper.upon _ _ _ _ _ ((execOp a.eval _).run c.P w)
 have hr:(execOp a.eval ⟨some d,.load ty x,T,pos,aft,none⟩).run c.P w=.ok (.value (qd false cs)) w:=by
  simp only [execOp,hf.ev hx,Instr.loadAt,Instr.sureAddr,Sem.run_bind,Sem.run_pure,Result.andThen_ok,hrun]
 rw [hr]
 have e:toV (.list t) cs=qd false cs:=by
  have:=QL (.list t) cs
  simpa [Ty.isPair] using this
 refine h _ _ _ (hf.put (by rw [Nat.blt_eq] at hd;exact hd) _) ⟨I,m,he,[],m,rfl,⟨rfl,cs,e.symm,?_⟩,hs⟩
 rw [getD_eq (dd:=[]) hi]
 exact h2
end ops
end Go.Sep
