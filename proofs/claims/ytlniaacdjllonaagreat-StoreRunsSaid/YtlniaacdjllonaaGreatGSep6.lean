/-
 The rules of the calculus for own slices in any number,and for own maps from strings to data. No program in sight. No conditions.
-/
import Derived.Test.YtlniaacdjllonaaGreatGSep2
import Derived.Test.YtlniaacdjllonaaGreatGSep3
import Derived.ChangeMaps4
namespace Go.Sep
open Go
set_option linter.unusedVariables false
set_option linter.unusedSimpArgs false
/-! ### Own slices,in any number -/
theorem rowsIs_perm {w:World} {I:zl} {E:TypeId} {t:Ty} {l1 l2:List (Value×List t.den)} (h:l1.Perm l2):∀ {m:List Nat},rowsIs w I E t l1 m→∃ m',m.Perm m'∧rowsIs w I E t l2 m':=by
 induction h with
 | nil=>exact fun h=>⟨_,List.Perm.refl _,h⟩
 | cons x _ ih =>
  rintro m ⟨m1,m2,rfl,h1,h2⟩
  obtain ⟨m3,h3,h4⟩:=ih h2
  exact ⟨m1++m3,h3.append_left m1,m1,m3,rfl,h1,h4⟩
 | swap x y l =>
  rintro m ⟨m1,m2,rfl,h1,m3,m4,rfl,h2,h3⟩
  exact ⟨m3++(m1++m4),List.perm_append_comm_assoc m1 m3 m4,m3,m1++m4,rfl,h2,m1,m4,rfl,h1,h3⟩
 | trans _ _ ih1 ih2 =>
  intro m h
  obtain ⟨m1,h1,h2⟩:=ih1 h
  obtain ⟨m2,h3,h4⟩:=ih2 h2
  exact ⟨m2,h1.trans h3,h4⟩
section ops
variable {c:Cx} {L:List (Nat×Value)} {As R:List Asn} {Q:Exit→Act→World→Prop} {K:Act→World→Prop} {ops:Array Oper} {rest:List Oper} {T:TypeId} {pos:String} {aft:Array Edge} {gd:Option (Nat×Bool)}
theorem Mem.turn {c:Cx} {A:Asn} {Bs R:List Asn} {w:World} (h:Mem c (A::R) w) (hA:∀ I m,A.sat w I m→∃ m',(m'.Perm m)∧Sats w I Bs m'):Mem c (Bs++R) w:=by
 obtain ⟨I,m,he,m1,m2,rfl,h1,h2⟩:=h
 obtain ⟨m',hp,hs⟩:=hA I m1 h1
 exact ⟨I,m'++m2,he.perm (hp.symm.append_right m2),Yl.2 ⟨m',m2,rfl,hs,h2⟩⟩
theorem j_rows_nil {E:TypeId} {t:Ty} (h:J c L (.rows E t []::As) K):J c L As K:=fun a w hf hm=>by
 obtain ⟨I,m,he,hs⟩:=hm
 exact h a w hf ⟨I,m,he,[],m,rfl,rfl,hs⟩
/-- One of them,taken out. -/
theorem Y9 {E:TypeId} {t:Ty} {l l':List (Value×List t.den)} {v:Value} {xs:List t.den} (hp:l.Perm ((v,xs)::l')) (h:J c L (.row v E t xs::.rows E t l'::R) K):J c L (.rows E t l::R) K:=fun a w hf hm =>
 h a w hf (hm.turn (Bs:=[.row v E t xs,.rows E t l']) fun I m hs=>by
  obtain ⟨_,h1,m1,m2,rfl,h3,h4⟩:=rowsIs_perm hp hs
  exact ⟨m1++m2,h1.symm,m1,m2,rfl,h3,m2,[],by simp,h4,rfl⟩)
/-- And put back,or a new one put in. -/
theorem Yp {E:TypeId} {t:Ty} {l l':List (Value×List t.den)} {v:Value} {xs:List t.den} (hp:((v,xs)::l').Perm l) (h:J c L (.rows E t l::R) K):J c L (.row v E t xs::.rows E t l'::R) K:=Za (fun w hm=>by
 obtain ⟨I,m,he,m1,m2,rfl,h1,m3,m4,rfl,h2,h3⟩:=hm
 have h4:rowsIs w I E t ((v,xs)::l') (m1++m3):=⟨m1,m3,rfl,h1,h2⟩
 obtain ⟨m5,h5,h6⟩:=rowsIs_perm hp h4
 exact ⟨I,m5++m4,he.perm (by rw [← List.append_assoc];exact h5.append_right m4),m5,m4,rfl,h6,h3⟩) h
end ops
/-! ### Own maps from strings to data -/
def delS {α:Type} (l:List (List UInt8×α)) (k:List UInt8):List (List UInt8×α):=l.filter fun p=>!decide (p.1=k)
theorem wx {α:Type} {l:List (List UInt8×α)} {k:List UInt8} (h:k ∉ l.map (·.1)):delS l k=l:=List.filter_eq_self.2 fun p hp=>by
 have:p.1≠k:=fun e=>h (e ▸ List.mem_map_of_mem hp)
 simp [this]
theorem delS_keys {α:Type} {l:List (List UInt8×α)} {k:List UInt8}:(delS l k).map (·.1)=(l.map (·.1)).filter fun a=>!decide (a=k):=by
 induction l with
 | nil=>rfl
 | cons x r ih =>
  unfold delS at ih ⊢
  by_cases e:x.1=k <;> simp [List.filter_cons,e,ih]
theorem delS_nodup {α:Type} {l:List (List UInt8×α)} {k:List UInt8} (h:(l.map (·.1)).Nodup):((delS l k).map (·.1)).Nodup:=by rw [delS_keys];exact h.filter _
theorem delS_not {α:Type} {l:List (List UInt8×α)} {k:List UInt8}:k ∉ (delS l k).map (·.1):=by rw [delS_keys];simp
theorem putS_nodup {α:Type} {l:List (List UInt8×α)} {k:List UInt8} {x:α} (h:(l.map (·.1)).Nodup):((delS l k++[(k,x)]).map (·.1)).Nodup:=by
 rw [List.map_append,List.map_cons,List.map_nil]
 refine List.nodup_append.2 ⟨delS_nodup h,by simp,fun a ha b hb e=>?_⟩
 obtain rfl:=List.mem_singleton.1 hb
 exact delS_not (e ▸ ha)
theorem lookS_none {α:Type} {k:List UInt8}:∀ {l:List (List UInt8×α)},k ∉ l.map (·.1)→zk l k=none
 | [],_=>rfl
 | x::r,h=>by
  rw [List.map_cons,List.mem_cons,not_or] at h
  unfold zk
  rw [if_neg h.1,lookS_none h.2]
theorem WV {α:Type} {k:List UInt8} {x:α}:∀ {l:List (List UInt8×α)},zk l k=some x→(k,x)∈l
 | [],h=>by cases h
 | y::r,h=>by
  unfold zk at h
  split at h
  ·rename_i e;cases h;subst e;exact List.mem_cons_self
  ·exact List.mem_cons_of_mem _ (WV h)
theorem qB {α:Type} {k:List UInt8} {x:α}:∀ {l:List (List UInt8×α)},(l.map (·.1)).Nodup→(k,x)∈l→zk l k=some x
 | [],_,h=>by cases h
 | y::r,hn,h=>by
  rw [List.map_cons,List.nodup_cons] at hn
  unfold zk
  rcases List.mem_cons.1 h with h | h
  ·subst h;rw [if_pos rfl]
  ·rw [if_neg (fun e:k=y.1=>hn.1 (by rw [← e];exact List.mem_map_of_mem (f:=(·.1)) h)),qB hn.2 h]
theorem lookS_perm {α:Type} {k:List UInt8} {l l':List (List UInt8×α)} (hp:l.Perm l') (hn:(l.map (·.1)).Nodup):zk l k=zk l' k:=by
 have hn':(l'.map (·.1)).Nodup:=(hp.map _).nodup_iff.1 hn
 cases h:zk l k with
 | some x=>exact (qB hn' (hp.mem_iff.1 (WV h))).symm
 | none =>
  cases h':zk l' k with
  | none=>rfl
  | some x=>rw [qB hn (hp.mem_iff.2 (WV h'))] at h;cases h
theorem delS_perm {α:Type} {k:List UInt8} {l l':List (List UInt8×α)} (hp:l.Perm l'):(delS l k).Perm (delS l' k):=hp.filter _
theorem wN {w:World} {I:zl} {t:Ty} {k:List UInt8}:∀ {es:List MapEntry} {l:List (List UInt8×t.den)} (i:Nat),mptIs w I t es l→(l.map (·.1)).Nodup →
  (zk l k=none∧Instr.findNow .string (str k) es i=some none∧delS l k=l) ∨
  ∃ j e x,zk l k=some x∧Instr.findNow .string (str k) es i=some (some (i+j,e.val))∧es[j]?=some e∧e.key=str k∧repV w I t e.val x ∧
   (∀ e' y,e'.key=str k→repV w I t e'.val y→∃ l2,l2.Perm (delS l k++[(k,y)])∧mptIs w I t (es.set j e') l2)∧mptIs w I t (es.eraseIdx j) (delS l k)
 | [],[],i,_,_=>.inl ⟨rfl,rfl,rfl⟩
 | e::es,x::l,i,h,hn=>by
  obtain ⟨h1,h2,h3⟩:=h
  rw [List.map_cons,List.nodup_cons] at hn
  have hs:Instr.sameNow .string (str k) e.key=some (decide (k=x.1)):=by rw [h1];exact same_str k x.1
  by_cases hk:k=x.1
  ·refine .inr ⟨0,e,x.2,by unfold zk;rw [if_pos hk],?_,rfl,by rw [h1,hk],h2,fun e' y he hy=>?_,?_⟩
   ·unfold Instr.findNow;rw [hs];simp [hk]
   ·have hd:delS (x::l) k=l:=by
     have:delS l k=l:=wx (hk ▸ hn.1)
     unfold delS at this ⊢
     rw [List.filter_cons,if_neg (by simp [hk]),this]
    refine ⟨(k,y)::l,by rw [hd];exact (List.perm_append_singleton _ _).symm,?_⟩
    exact ⟨he,hy,h3⟩
   ·have hd:delS (x::l) k=l:=by
     have:delS l k=l:=wx (hk ▸ hn.1)
     unfold delS at this ⊢
     rw [List.filter_cons,if_neg (by simp [hk]),this]
    rw [hd];exact h3
  ·have hl:zk (x::l) k=zk l k:=by
    show (if k=x.1 then some x.2 else zk l k)=_
    rw [if_neg hk]
   have hf:Instr.findNow .string (str k) (e::es) i=Instr.findNow .string (str k) es (i+1):=by
    conv=>lhs;unfold Instr.findNow
    rw [hs];simp [hk]
   have hd:delS (x::l) k=x::delS l k:=by unfold delS;rw [List.filter_cons,if_pos (by simp [Ne.symm hk])]
   rw [hl,hf,hd]
   rcases wN (i+1) h3 hn.2 with ⟨a1,a2,a3⟩ | ⟨j,e0,x0,a1,a2,a3,a4,a5,a6,a7⟩
   ·exact .inl ⟨a1,a2,by rw [a3]⟩
   ·refine .inr ⟨j+1,e0,x0,a1,by rw [a2,Nat.add_assoc,Nat.add_comm 1 j],by simpa using a3,a4,a5,fun e' y he hy=>?_,⟨h1,h2,a7⟩⟩
    obtain ⟨l2,b1,b2⟩:=a6 e' y he hy
    exact ⟨x::l2,by rw [List.cons_append];exact b1.cons x,h1,h2,b2⟩
 | [],_::_,_,h,_=>h.elim
 | _::_,[],_,h,_=>h.elim
theorem mptIs_app {w:World} {I:zl} {t:Ty} {e:MapEntry} {k:List UInt8} {y:t.den} (he:e.key=str k) (hy:repV w I t e.val y):∀ {es:List MapEntry} {l:List (List UInt8×t.den)},mptIs w I t es l→mptIs w I t (es++[e]) (l++[(k,y)])
 | [],[],_=>⟨he,hy,trivial⟩
 | _::_,_::_,h=>⟨h.1,h.2.1,mptIs_app he hy h.2.2⟩
 | [],_::_,h=>h.elim
 | _::_,[],h=>h.elim
section ops2
variable {c:Cx} {L:List (Nat×Value)} {As R:List Asn} {Q:Exit→Act→World→Prop} {K:Act→World→Prop} {ops:Array Oper} {rest:List Oper} {T:TypeId} {pos:String} {aft:Array Edge} {gd:Option (Nat×Bool)}
theorem j_mpt_new {r clk:Nat} {t:Ty} (h:J c L (.mpt r t []::R) K):J c L (.mp r [] clk::R) K:=fun a w hf hm =>
 h a w hf (hm.turn (Bs:=[.mpt r t []]) fun I m hs=>by
  obtain ⟨rfl,h1⟩:=hs
  exact ⟨[r],List.Perm.refl _,[r],[],rfl,⟨rfl,_,_,h1,by simp,[],List.Perm.refl _,trivial⟩,rfl⟩)
theorem j_mpt_perm {r:Nat} {t:Ty} {l l':List (List UInt8×t.den)} (hp:l.Perm l') (h:J c L (.mpt r t l'::R) K):J c L (.mpt r t l::R) K:=fun a w hf hm =>
 h a w hf (hm.turn (Bs:=[.mpt r t l']) fun I m hs=>by
  obtain ⟨rfl,es,clk,h1,h2,l2,h3,h4⟩:=hs
  exact ⟨[r],List.Perm.refl _,[r],[],rfl,⟨rfl,es,clk,h1,(hp.map _).nodup_iff.1 h2,l2,h3.trans hp,h4⟩,rfl⟩)
/-- The keys of a map are different. -/
theorem j_mpt_nodup {r:Nat} {t:Ty} {l:List (List UInt8×t.den)} (hA:Asn.mpt r t l∈As) (h:(l.map (·.1)).Nodup→J c L As K):J c L As K:=fun a w hf hm=>by
 obtain ⟨I,m,he,hs⟩:=id hm
 obtain ⟨m1,h1,_⟩:=hs.mem_own hA
 obtain ⟨_,_,_,_,h2,_⟩:=h1
 exact h h2 a w hf hm
theorem run_lookT {P:Program} {w:World} {I:zl} {t kt et:TypeId} {ty:Ty} {r:Nat} {l:List (List UInt8×ty.den)} {k:List UInt8} (dd:ty.den) {agg:Bool} {n by_:Nat} {z:Value} {m:List Nat} {b:Bool} (hA:(Asn.mpt r ty l).sat w I m) (ht:P.underlying t=some (.map kt et)) (hk:P.underlying kt=some .string)
  (hz:TyF P et agg n by_ (some z)) (hzd:repV w I ty z dd):∃ v,(Instr.lookup t (.map (some r)) (str k) b).run P w=.ok (bif b then .tuple #[v,.bool (zk l k).isSome] else v) w∧repV w I ty v ((zk l k).getD dd):=by
 obtain ⟨rfl,es,clk,h1,h2,l',h3,h4⟩:=hA
 obtain ⟨i,hi1,_,_,hi4⟩:=hz.get
 have hck:∀ b,(Instr.checkKey b 10000 kt (str k)).run P w=.ok () w:=fun b=>qZ (k:=.i64) (.inr hk)
 have hl:zk l k=zk l' k:=(lookS_perm h3 ((h3.map _).nodup_iff.2 h2)).symm
 rw [hl]
 rcases wN (k:=k) 0 h4 ((h3.map _).nodup_iff.2 h2) with ⟨a1,a2,_⟩ | ⟨j,e,x,a1,a2,a3,a4,a5,_⟩
 ·have hfk:(Instr.findKey kt (str k) es.toList).run P w=.ok _ w:=ZR hk a2
  rw [a1]
  refine ⟨z,?_,hzd⟩
  cases b <;> simp [Instr.lookup,run_underlying ht,ZV h1,hck,hfk,zeroValue,typeInfo,hi1,hi4]
 ·have hfk:(Instr.findKey kt (str k) es.toList).run P w=.ok _ w:=ZR hk a2
  rw [a1]
  refine ⟨e.val,?_,a5⟩
  cases b <;> simp [Instr.lookup,run_underlying ht,ZV h1,hck,hfk]
theorem Mem.addImms {c:Cx} {As Bs:List Asn} {w:World} {I:zl} {m:List Nat} (he:Eff c.w0 c.I0 c.m0 w I m) (hs:Sats w I As m) (hB:Sats w I Bs []):Mem c (Bs++As) w:=⟨I,m,he,Sats.nil_append hB hs⟩
theorem Wq {t kt et:TypeId} {x y:Operand} {r d:Nat} {ty:Ty} {l:List (List UInt8×ty.den)} {k:List UInt8} (dd:ty.den) {agg:Bool} {n by_:Nat} {z:Value} (hx:ev L x=some (.map (some r))) (hy:ev L y=some (str k)) (hA:Asn.mpt r ty l∈As) (ht:c.P.underlying t=some (.map kt et)) (hk:c.P.underlying kt=some .string)
  (hz:TyF c.P et agg n by_ (some z)) (hzd:∀ w I,repV w I ty z dd) (hd:Nat.blt d c.n=true)
  (h:∀ lv:LV ty,J c ((d,Zl ty.isPair (encL ty ((zk l k).getD dd) lv))::L) (immsL ty ((zk l k).getD dd) lv++As) (wpList c.P ops Q rest)):J c L As (wpList c.P ops Q (⟨some d,.lookup t x y false,T,pos,aft,none⟩::rest)):=Yc rfl fun a w hf hm=>by
 obtain ⟨I,m,he,hs⟩:=hm
 obtain ⟨m1,h1,_⟩:=hs.mem_own hA
 obtain ⟨v,hr,cs,hv,hrep⟩:=run_lookT (P:=c.P) (k:=k) (b:=false) dd h1 ht hk hz (hzd w I)
 obtain ⟨lv,hcs,himm⟩:=ws hrep
 show Oper.upon _ _ _ _ _ ((execOp a.eval _).run c.P w)
 have hr':(execOp a.eval ⟨some d,.lookup t x y false,T,pos,aft,none⟩).run c.P w=.ok (.value v) w:=by
  simp only [execOp,hf.ev hx,hf.ev hy,Sem.run_bind,hr,Result.andThen_ok,Sem.run_pure,cond_false]
 rw [hr',hv,hcs,qV]
 exact h lv _ _ (hf.put (by rw [Nat.blt_eq] at hd;exact hd) _) (Mem.addImms he hs himm)
theorem jo_lookT2 {t kt et:TypeId} {x y:Operand} {r d:Nat} {ty:Ty} {l:List (List UInt8×ty.den)} {k:List UInt8} (dd:ty.den) {agg:Bool} {n by_:Nat} {z:Value} (hx:ev L x=some (.map (some r))) (hy:ev L y=some (str k)) (hA:Asn.mpt r ty l∈As) (ht:c.P.underlying t=some (.map kt et)) (hk:c.P.underlying kt=some .string)
  (hz:TyF c.P et agg n by_ (some z)) (hzd:∀ w I,repV w I ty z dd) (hd:Nat.blt d c.n=true)
  (h:∀ lv:LV ty,J c ((d,.tuple #[Zl ty.isPair (encL ty ((zk l k).getD dd) lv),.bool (zk l k).isSome])::L) (immsL ty ((zk l k).getD dd) lv++As) (wpList c.P ops Q rest)):J c L As (wpList c.P ops Q (⟨some d,.lookup t x y true,T,pos,aft,none⟩::rest)):=Yc rfl fun a w hf hm=>by
 obtain ⟨I,m,he,hs⟩:=hm
 obtain ⟨m1,h1,_⟩:=hs.mem_own hA
 obtain ⟨v,hr,cs,hv,hrep⟩:=run_lookT (P:=c.P) (k:=k) (b:=true) dd h1 ht hk hz (hzd w I)
 obtain ⟨lv,hcs,himm⟩:=ws hrep
 show Oper.upon _ _ _ _ _ ((execOp a.eval _).run c.P w)
 have hr':(execOp a.eval ⟨some d,.lookup t x y true,T,pos,aft,none⟩).run c.P w=.ok (.value (.tuple #[v,.bool (zk l k).isSome])) w:=by
  simp only [execOp,hf.ev hx,hf.ev hy,Sem.run_bind,hr,Result.andThen_ok,Sem.run_pure,cond_true]
 rw [hr',hv,hcs,qV]
 exact h lv _ _ (hf.put (by rw [Nat.blt_eq] at hd;exact hd) _) (Mem.addImms he hs himm)
theorem run_setMap {P:Program} {w:World} {r clk:Nat} {es:Array MapEntry} {o':Obj} (h:w.heap[r]?=some (.map es clk)):(setObj r o').run P w=.ok () { w with heap:=w.heap.set! r o' }:=by simp [setObj,Sem.run,h]
theorem run_stays {P:Program} {w:World} {k:List UInt8}:(Instr.keyThatStays (str k) (str k)).run P w=.ok (str k) w:=by
 unfold Instr.keyThatStays
 have:Instr.sameBits 10000 (str k) (str k)=true:=by
  unfold Instr.sameBits
  show (k.toArray==k.toArray)=true
  exact beq_self_eq_true _
 rw [this];rfl
theorem Mem.setMap {c:Cx} {R:List Asn} {w:World} {r:Nat} {ty:Ty} {l l2:List (List UInt8×ty.den)} {es2:Array MapEntry} {clk2:Nat} (hm:Mem c (.mpt r ty l::R) w)
  (hB:∀ I,(∀ A∈R,A.pers=true→A.sat w I [])→(Asn.mpt r ty l).sat w I [r]→(l2.map (·.1)).Nodup∧∃ l',l'.Perm l2∧mptIs w I ty es2.toList l'):Mem c (.mpt r ty l2::R) { w with heap:=w.heap.set! r (.map es2 clk2) }:=by
 obtain ⟨I,m,he,m1,m2,rfl,h1,h2⟩:=hm
 have h1':=h1
 obtain ⟨rfl,es,clk,hh,_⟩:=h1
 have ho:=he.okw
 have ho1:Okw w I [r]:=ho.left
 obtain ⟨b1,l',b2,b3⟩:=hB I (fun A hA hp=>h2.pers hA hp) h1'
 have hlt:r<w.heap.size:=ho1.own r (by simp)
 have eff:Eff w I [r] { w with heap:=w.heap.set! r (.map es2 clk2) } I [r]:=Eff.write ho1 rfl rfl rfl (by simp) (fun k hk=>by simp [Array.getElem?_setIfInBounds,Ne.symm hk])
 refine ⟨I,[r]++m2,he.trans (Eff.frame ho eff),[r],m2,rfl,⟨rfl,es2,clk2,by simp [hlt],b1,l',b2,?_⟩,Sats.frame ho eff h2⟩
 exact mptIs_mono (fun b hb=>eff.block b (ho.lt b hb) (fun hm=>ho1.apart b hm hb)) (fun _ h=>h) b3
/-- A key is set. -/
theorem jo_updT {t kt et:TypeId} {x y v:Operand} {r:Nat} {ty:Ty} {l:List (List UInt8×ty.den)} {k:List UInt8} {vv:Value} {cs:List Value} (u:ty.den) (hx:ev L x=some (.map (some r))) (hy:ev L y=some (str k)) (hv:ev L v=some vv) (hcs:Zl ty.isPair cs=vv) (hrep:HasRep R ty cs u) (ht:c.P.underlying t=some (.map kt et)) (hk:c.P.underlying kt=some .string)
  (h:J c L (.mpt r ty (delS l k++[(k,u)])::R) (wpList c.P ops Q rest)):J c L (.mpt r ty l::R) (wpList c.P ops Q (⟨none,.mapUpdate t x y v,T,pos,aft,none⟩::rest)):=Yc rfl fun a w hf hm=>by
 obtain ⟨I0,m0,_,hs0⟩:=id hm
 obtain ⟨m1,h1,_⟩:=hs0.mem_own (A:=.mpt r ty l) (by simp)
 have h1':=h1
 obtain ⟨rfl,es,clk,hh,hn,l',hp,hl⟩:=h1
 have hn':=(hp.map (·.1)).nodup_iff.2 hn
 have hck:(Instr.checkKey false 10000 kt (str k)).run c.P w=.ok () w:=qZ (k:=.i64) (.inr hk)
 show Oper.upon _ _ _ _ _ ((execOp a.eval _).run c.P w)
 have hrv:∀ I,(∀ A∈R,A.pers=true→A.sat w I [])→repV w I ty vv u:=fun I hR=>⟨cs,by rw [qV,hcs],hrep.rep hR⟩
 rcases wN (k:=k) 0 hl hn' with ⟨a1,a2,a3⟩ | ⟨j,e,x0,a1,a2,a3,a4,a5,a6,a7⟩
 ·have hfk:(Instr.findKey kt (str k) es.toList).run c.P w=.ok _ w:=ZR hk a2
  have hr:(execOp a.eval ⟨none,.mapUpdate t x y v,T,pos,aft,none⟩).run c.P w=.ok .skip { w with heap:=w.heap.set! r (.map (es.push { key:=str k,val:=vv,born:=clk }) (clk+1)) }:=by
   simp only [execOp,hf.ev hx,hf.ev hy,hf.ev hv,Instr.mapUpdate,Sem.run_bind,run_underlying ht,Result.andThen_ok,ZV hh,hck,hfk,run_setMap hh,Sem.run_pure]
  rw [hr]
  refine h _ _ (hf.none _) (hm.setMap fun I hR hs=>⟨putS_nodup hn,?_⟩)
  obtain ⟨_,es2,clk2,hh2,_,l2,hp2,hl2⟩:=hs
  obtain ⟨rfl,rfl⟩:es=es2∧clk=clk2:=by rw [hh] at hh2;simpa using hh2
  rcases wN (k:=k) 0 hl2 ((hp2.map (·.1)).nodup_iff.2 hn) with ⟨_,_,b3⟩ | ⟨_,_,_,_,b2,_⟩
  ·refine ⟨l2++[(k,u)],?_,by rw [Array.toList_push];exact mptIs_app rfl (hrv I hR) hl2⟩
   have:=delS_perm (k:=k) hp2
   rw [b3] at this
   exact this.append_right _
  ·rw [a2] at b2;cases b2
 ·have hfk:(Instr.findKey kt (str k) es.toList).run c.P w=.ok _ w:=ZR hk a2
  have hj:es[j]?=some e:=by rw [← Array.getElem?_toList];exact a3
  have hr:(execOp a.eval ⟨none,.mapUpdate t x y v,T,pos,aft,none⟩).run c.P w=.ok .skip { w with heap:=w.heap.set! r (.map (es.modify j fun e'=>{ e' with key:=str k,val:=vv }) clk) }:=by
   simp only [execOp,hf.ev hx,hf.ev hy,hf.ev hv,Instr.mapUpdate,Sem.run_bind,run_underlying ht,Result.andThen_ok,ZV hh,hck,hfk,run_setMap hh,Sem.run_pure,Nat.zero_add,hj,Option.map_some,Option.getD_some,a4,run_stays]
  rw [hr]
  refine h _ _ (hf.none _) (hm.setMap fun I hR hs=>⟨putS_nodup hn,?_⟩)
  obtain ⟨_,es2,clk2,hh2,_,l2,hp2,hl2⟩:=hs
  obtain ⟨rfl,rfl⟩:es=es2∧clk=clk2:=by rw [hh] at hh2;simpa using hh2
  rcases wN (k:=k) 0 hl2 ((hp2.map (·.1)).nodup_iff.2 hn) with ⟨_,b2,_⟩ | ⟨j2,e2,_,_,b2,b3,b4,b5,b6,_⟩
  ·rw [a2] at b2;cases b2
  ·have hj2:j2=j:=by rw [a2] at b2;simp at b2;omega
   subst hj2
   obtain ⟨l3,c1,c2⟩:=b6 { e with key:=str k,val:=vv } u rfl (hrv I hR)
   refine ⟨l3,c1.trans ((delS_perm hp2).append_right _),?_⟩
   have:(es.modify j2 fun e'=>{ e' with key:=str k,val:=vv }).toList=es.toList.set j2 { e with key:=str k,val:=vv }:=by
    rw [Array.toList_modify]
    apply List.ext_getElem?
    intro i
    rw [List.getElem?_modify,List.getElem?_set]
    by_cases hi:j2=i
    ·subst hi
     have hlt:j2<es.toList.length:=(List.getElem?_eq_some_iff.1 a3).1
     rw [a3,if_pos rfl,if_pos hlt];simp
    ·simp [hi]
   rw [this];exact c2
/-- A key is dropped. -/
theorem jo_delT {t t2 kt et:TypeId} {x y:Operand} {r:Nat} {ty:Ty} {l:List (List UInt8×ty.den)} {k:List UInt8} (hx:ev L x=some (.map (some r))) (hy:ev L y=some (str k)) (ht:c.P.underlying t=some (.map kt et)) (hk:c.P.underlying kt=some .string) 
  (h:J c L (.mpt r ty (delS l k)::R) (wpList c.P ops Q rest)):J c L (.mpt r ty l::R) (wpList c.P ops Q (⟨none,.call { callee:=.builtin .delete,args:=#[x,y],argTypes:=#[t,t2] },T,pos,aft,none⟩::rest)):=Yc rfl fun a w hf hm=>by
 obtain ⟨I0,m0,_,hs0⟩:=id hm
 obtain ⟨m1,h1,_⟩:=hs0.mem_own (A:=.mpt r ty l) (by simp)
 obtain ⟨rfl,es,clk,hh,hn,l',hp,hl⟩:=h1
 have hn':=(hp.map (·.1)).nodup_iff.2 hn
 have hck:∀ b,(Instr.checkKey b 10000 kt (str k)).run c.P w=.ok () w:=fun b=>qZ (k:=.i64) (.inr hk)
 show Oper.upon _ _ _ _ _ ((execOp a.eval _).run c.P w)
 rcases wN (k:=k) 0 hl hn' with ⟨a1,a2,a3⟩ | ⟨j,e,x0,a1,a2,a3,a4,a5,a6,a7⟩
 ·have hfk:(Instr.findKey kt (str k) es.toList).run c.P w=.ok _ w:=ZR hk a2
  have hr:(execOp a.eval ⟨none,.call { callee:=.builtin .delete,args:=#[x,y],argTypes:=#[t,t2] },T,pos,aft,none⟩).run c.P w=.ok (.value (.tuple #[])) { w with heap:=w.heap.set! r (.map es clk) }:=by
   simp [execOp,resolve,invoke,builtin,hf.ev hx,hf.ev hy,Builtin.delete_,run_underlying ht,ZV hh,hck,hfk,run_setMap hh]
  rw [hr]
  refine h _ _ (hf.none _) (hm.setMap fun I hR hs=>⟨delS_nodup hn,?_⟩)
  obtain ⟨_,es2,clk2,hh2,_,l2,hp2,hl2⟩:=hs
  obtain ⟨rfl,rfl⟩:es=es2∧clk=clk2:=by rw [hh] at hh2;simpa using hh2
  rcases wN (k:=k) 0 hl2 ((hp2.map (·.1)).nodup_iff.2 hn) with ⟨_,_,b3⟩ | ⟨_,_,_,_,b2,_⟩
  ·refine ⟨l2,?_,hl2⟩
   have:=delS_perm (k:=k) hp2
   rw [b3] at this
   exact this
  ·rw [a2] at b2;cases b2
 ·have hfk:(Instr.findKey kt (str k) es.toList).run c.P w=.ok _ w:=ZR hk a2
  have hr:(execOp a.eval ⟨none,.call { callee:=.builtin .delete,args:=#[x,y],argTypes:=#[t,t2] },T,pos,aft,none⟩).run c.P w=.ok (.value (.tuple #[])) { w with heap:=w.heap.set! r (.map (es.eraseIdxIfInBounds j) clk) }:=by
   simp [execOp,resolve,invoke,builtin,hf.ev hx,hf.ev hy,Builtin.delete_,run_underlying ht,ZV hh,hck,hfk,run_setMap hh]
  rw [hr]
  refine h _ _ (hf.none _) (hm.setMap fun I hR hs=>⟨delS_nodup hn,?_⟩)
  obtain ⟨_,es2,clk2,hh2,_,l2,hp2,hl2⟩:=hs
  obtain ⟨rfl,rfl⟩:es=es2∧clk=clk2:=by rw [hh] at hh2;simpa using hh2
  rcases wN (k:=k) 0 hl2 ((hp2.map (·.1)).nodup_iff.2 hn) with ⟨_,b2,_⟩ | ⟨j2,e2,_,_,b2,b3,b4,b5,b6,b7⟩
  ·rw [a2] at b2;cases b2
  ·have hj2:j2=j:=by rw [a2] at b2;simp at b2;omega
   subst hj2
   refine ⟨delS l2 k,delS_perm hp2,?_⟩
   have hlt:j2<es.size:=by have:=(List.getElem?_eq_some_iff.1 a3).1;simpa using this
   have:(es.eraseIdxIfInBounds j2).toList=es.toList.eraseIdx j2:=by
    unfold Array.eraseIdxIfInBounds
    rw [dif_pos hlt]
    simp
   rw [this];exact b7
end ops2
end Go.Sep
