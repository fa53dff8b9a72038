/-
 Tables and stores in plain Lean: sizes along Put and Replace,and that what is stored stays of bounded length. No program in sight. No conditions.
 The calls of a law on stores in plain Lean: the entry of a call,what a call does to a store,and that every store that calls make keeps the bounds. No program in sight. No conditions.
 Plain laws of stores: every table that a key leads to has its bounds;what was put is found;nothing changes where nothing fits. No program in sight. No conditions.
-/
import Derived.Test.YtlniaacdjllonaaGreatGLawI
namespace Go.Plain
open Go.Sep
set_option linter.unusedVariables false
set_option linter.unusedSimpArgs false
theorem WY {A:Sto} {k:Str} (hn:(A.map (·.1)).Nodup):za (yc A k).2≤totA A:=by
 have:=del_tot (k:=k) hn
 omega
theorem front_put_tot {A:Sto} {k:Str} {e:Ent} {axes:List Axs} {V:Nat} (hn:(A.map (·.1)).Nodup):totA (Yw A k (putT (yc A k) e axes V))≤totA A+zL e:=by
 have h1:=front_tot (k:=k) (t:=putT (yc A k) e axes V) hn
 have h2:=(putT_sub (t:=yc A k) (e:=e) (axes:=axes) (V:=V)).2
 omega
theorem front_used {A:Sto} {k:Str} {t:Tab} (hn:(A.map (·.1)).Nodup):totA A+za t.2-za (yc A k).2=totA (Yw A k t):=by
 have h1:=front_tot (k:=k) (t:=t) hn
 omega
theorem okT_ev {A:Sto} {sp:Int} {B T:Nat} (h:∀ x∈A,OkT x.2):∀ x∈evF B T A sp,OkT x.2 :=
 evF_all (p:=OkT) (fun ax l m hs h=>⟨h.axes,fun e he=>h.ents e (hs.subset he),Nat.le_trans (Wd hs) h.size⟩) _ h
theorem okT_putA {B V T:Nat} {A:Sto} {k:Str} {e:Ent} {axes:List Axs} (hi:InvA B V T A) (h:∀ x∈A,OkT x.2) (he:OkE e) (ha:OkA axes) (hB:B≤100000000):∀ x∈putA B V T A k e axes,OkT x.2:=by
 unfold putA
 split
 ·have h1:=hi.tot
  have h2:=WY (k:=k) hi.keys
  have h3:=he.size
  exact okT_ev (wu h (okT_put (Zs h k) he ha (by omega)))
 ·exact h
theorem okT_del {A:Sto} {k:Str} (h:∀ x∈A,OkT x.2):∀ x∈delS A k,OkT x.2:=fun x hx=>h x ((q9 A k).subset hx)
theorem okT_touch {A:Sto} {k:Str} (h:∀ x∈A,OkT x.2):∀ x∈YZ A k,OkT x.2:=by
 unfold YZ
 split
 ·exact wu h (Zs h k)
 ·exact h
theorem okE_mix {old e:Ent} (h1:OkE old) (h2:OkE e) (hs:zL (mixE old e)≤1000000000):OkE (mixE old e):=⟨hs,h1.keys,h1.strs⟩
theorem size_mix (old e:Ent):zL (mixE old e)≤zL old+zL e:=by
 show 100+e.2.2.2.1.length+e.2.2.2.2.2.1.length+lenS old.2.1+lenS old.2.2.1+lenF e.2.2.2.2.1+lenK old.1≤_
 unfold zL
 omega
theorem WQ:∀ (l:List Ent) (i:Nat) (h:i<l.length) (e:Ent),za (l.set i e)+zL l[i]=za l+zL e
 | x::l,0,_,e=>by simp [qh];omega
 | x::l,i+1,h,e=>by
  have:=WQ l i (by simpa using h) e
  simp only [List.set_cons_succ,qh,List.getElem_cons_succ];omega
theorem on_eq {A:Sto} {k:Str} {i:Int}:(((!inA A k)||decide (i<0))||decide (((yc A k).2.length:Int)≤i))=!onB A k i:=by
 unfold onB
 cases h:inA A k with
 | false=>simp
 | true=>by_cases h1:0≤i <;> by_cases h2:i<((yc A k).2.length:Int) <;> simp [h1,h2] <;> omega
theorem old_mem {A:Sto} {k:Str} {i:Int} (h:onB A k i=true):(yc A k).2.getD i.toNat noEnt∈(yc A k).2:=by
 obtain ⟨_,_,h3⟩:=onB_lt h
 rw [List.getD_eq_getElem?_getD,List.getElem?_eq_getElem h3]
 exact List.getElem_mem h3
theorem okE_new {A:Sto} {k:Str} {i:Int} {e:Ent} (h:∀ x∈A,OkT x.2) (ho:onB A k i=true) (he:OkE e) (hs:zL ((yc A k).2.getD i.toNat noEnt)+zL e≤1000000000):OkE (newE A k i e) :=
 okE_mix ((Zs h k).ents _ (old_mem ho)) he (Nat.le_trans (size_mix _ _) hs)
theorem okT_set {t:Tab} {i:Nat} {e:Ent} (h:OkT t) (he:OkE e) (hs:za (t.2.set i e)≤10000000000):OkT (t.1,t.2.set i e) :=
 ⟨h.axes,fun x hx=>by rcases List.mem_or_eq_of_mem_set hx with h1 | h1;exact h.ents x h1;rw [h1];exact he,hs⟩
theorem cut_keys {A:Sto} {k:Str} {t:Tab}:setO (zg A) k t=zg (cutA A k t):=by
 unfold setO cutA
 split
 ·exact keys_del.symm
 ·exact setA_keys.symm
theorem setA_perm {A:Sto} {k:Str} {t:Tab} (hn:(A.map (·.1)).Nodup) (h:inA A k=true):(delS A k++[(k,t)]).Perm (setA A k t):=by
 have hm:=inA_mem h
 generalize yc A k=u at hm
 clear h
 induction A with
 | nil=>cases hm
 | cons x r ih =>
  rw [List.map_cons,List.nodup_cons] at hn
  have e:setA (x::r) k t=(if x.1=k then (k,t) else x)::setA r k t:=rfl
  rcases List.mem_cons.1 hm with hx | hm
  ·subst hx
   have h1:delS ((k,u)::r) k=r:=by
    have h2:delS r k=r:=wx hn.1
    unfold delS at h2 ⊢
    rw [List.filter_cons,if_neg (by simp),h2]
   have h3:setA r k t=r:=by
    have h4:∀ y∈r,(if y.1=k then (k,t) else y)=y:=fun y hy=>if_neg fun e=>hn.1 (by rw [← e];exact List.mem_map_of_mem (f:=(·.1)) hy)
    unfold setA
    rw [List.map_congr_left h4,List.map_id'']
    exact fun _=>rfl
   rw [h1,e,if_pos rfl,h3]
   exact List.perm_append_singleton _ _
  ·have hne:x.1≠k:=fun e=>hn.1 (by rw [e];exact List.mem_map_of_mem (f:=(·.1)) hm)
   have h1:delS (x::r) k=x::delS r k:=by unfold delS;rw [List.filter_cons,if_pos (by simp [hne])]
   rw [h1,e,if_neg hne]
   exact (ih hn.2 hm).cons x
theorem cut_perm {A:Sto} {k:Str} {t:Tab} (hn:(A.map (·.1)).Nodup) (h:inA A k=true):(setM A k t).Perm (cutA A k t):=by
 unfold setM cutA
 split
 ·exact List.Perm.refl _
 ·exact setA_perm hn h
theorem cut_used {A:Sto} {k:Str} {t:Tab} (hn:(A.map (·.1)).Nodup) (h:inA A k=true):totA A+za t.2-za (yc A k).2=totA (cutA A k t):=by
 rw [← totA_perm (cut_perm hn h)]
 have h1:=del_tot (k:=k) hn
 unfold setM
 split
 ·rename_i h2
  rw [h2]
  show totA A+0-_=_
  omega
 ·rw [wJ,Zb]
  show _=totA (delS A k)+(za t.2+0)
  omega
theorem repl_tot {A:Sto} {k:Str} {i:Int} {e:Ent} (hn:(A.map (·.1)).Nodup) (h:onB A k i=true):totA (Yw A k ((yc A k).1,(yc A k).2.set i.toNat e))≤totA A+zL e:=by
 obtain ⟨_,_,h3⟩:=onB_lt h
 have h1:=front_tot (k:=k) (t:=((yc A k).1,(yc A k).2.set i.toNat e)) hn
 have h2:=WQ _ _ h3 e
 have h4:za ((yc A k).1,(yc A k).2.set i.toNat e).2=za ((yc A k).2.set i.toNat e):=rfl
 omega
theorem repl_off {B T:Nat} {A:Sto} {k:Str} {i:Int} {e:Ent} (h:onB A k i=false):qH B T A k i e=A:=by unfold qH;rw [if_neg (by rw [h];simp)]
theorem repl_big {B T:Nat} {A:Sto} {k:Str} {i:Int} {e:Ent} (h:onB A k i=true) (hb:B<zL (newE A k i e)):qH B T A k i e=cutA A k ((yc A k).1,remL (yc A k).2 i):=by unfold qH;rw [if_pos h,if_pos hb]
theorem repl_fit {B T:Nat} {A:Sto} {k:Str} {i:Int} {e:Ent} (h:onB A k i=true) (hb:¬ B<zL (newE A k i e)):qH B T A k i e=evF B T (Yw A k ((yc A k).1,(yc A k).2.set i.toNat (newE A k i e))) i:=by unfold qH;rw [if_pos h,if_neg hb]
theorem replB_off {B:Nat} {A:Sto} {k:Str} {i:Int} {e:Ent} (h:onB A k i=false):q4 B A k i e=false:=by unfold q4;rw [h];rfl
theorem replB_big {B:Nat} {A:Sto} {k:Str} {i:Int} {e:Ent} (h:onB A k i=true) (hb:B<zL (newE A k i e)):q4 B A k i e=false:=by unfold q4;rw [h,decide_eq_true hb];rfl
theorem replB_fit {B:Nat} {A:Sto} {k:Str} {i:Int} {e:Ent} (h:onB A k i=true) (hb:¬ B<zL (newE A k i e)):q4 B A k i e=true:=by unfold q4;rw [h,decide_eq_false hb];rfl
theorem okT_cut {A:Sto} {k:Str} {t:Tab} (h:∀ x∈A,OkT x.2) (ht:OkT t):∀ x∈cutA A k t,OkT x.2:=by
 unfold cutA
 split
 ·exact okT_del h
 ·intro x hx
  rcases setA_mem hx with hx | hx
  ·exact h x hx
  ·rw [hx];exact ht
theorem okT_replA {B V T:Nat} {A:Sto} {k:Str} {i:Int} {e:Ent} (hi:InvA B V T A) (h:∀ x∈A,OkT x.2) (he:OkE e) (hB:B≤100000000):∀ x∈qH B T A k i e,OkT x.2:=by
 cases ho:onB A k i with
 | false=>rw [repl_off ho];exact h
 | true =>
  by_cases hb:B<zL (newE A k i e)
  ·rw [repl_big ho hb]
   exact okT_cut h (okT_rem (Zs h k) i)
  ·rw [repl_fit ho hb]
   obtain ⟨_,_,h3⟩:=onB_lt ho
   have h1:=hi.tot
   have h2:=WY (k:=k) hi.keys
   have h4:=WQ _ _ h3 (newE A k i e)
   have hf:=Zs h k
   exact okT_ev (wu h (okT_set hf (okE_mix (hf.ents _ (old_mem ho)) he (by show zL (newE A k i e)≤_;omega)) (by omega)))
end Go.Plain
namespace Go.Plain
open Go.Sep
set_option linter.unusedVariables false
set_option linter.unusedSimpArgs false
abbrev OpD:=Int×Int×Int×Int×Ent×List Axs
def and3 (m:Int):Nat:=(m % 4).toNat
def YA (k:Int):Str:=[[97],[98],[99],[100]].getD (and3 k) []
def keepE (e:Ent):Bool:=((((keepK e.1&&Wo e.2.1)&&Wo e.2.2.1)&&decide (e.2.2.2.1.length≤100))&&decide (e.2.2.2.2.2.1.length≤2000))&&keepF e.2.2.2.2.1
def keepO (o:OpD):Bool:=keepE o.2.2.2.2.1&&keepA o.2.2.2.2.2
def smallL (l:List OpD):Bool:=(l.take 13).all keepO&&decide (l.length≤12)
def ofE (o:OpD):Ent:=(o.2.2.2.2.1.1,o.2.2.2.2.1.2.1,o.2.2.2.2.1.2.2.1,o.2.2.2.2.1.2.2.2.1,o.2.2.2.2.1.2.2.2.2.1,o.2.2.2.2.1.2.2.2.2.2.1++List.replicate (min o.2.2.2.1.toNat 200) 120,o.2.2.2.2.1.2.2.2.2.2.2)
def doA (B V T:Nat) (A:Sto) (o:OpD):Sto :=
 if and3 o.1=0 then putA B V T A (YA o.2.1) (ofE o) o.2.2.2.2.2 else if and3 o.1=1 then YZ A (YA o.2.1) else if and3 o.1=2 then qH B T A (YA o.2.1) o.2.2.1 (ofE o) else delS A (YA o.2.1)
def doB (B:Nat) (A:Sto) (o:OpD):Bool :=
 if and3 o.1=0 then qo B (ofE o) o.2.2.2.2.2 else if and3 o.1=1 then inA A (YA o.2.1) else if and3 o.1=2 then q4 B A (YA o.2.1) o.2.2.1 (ofE o) else inA A (YA o.2.1)
section
variable {B V T:Nat} {A:Sto} {o:OpD}
theorem doA_1 (h:and3 o.1=0):doA B V T A o=putA B V T A (YA o.2.1) (ofE o) o.2.2.2.2.2:=if_pos h
theorem doB_1 (h:and3 o.1=0):doB B A o=qo B (ofE o) o.2.2.2.2.2:=if_pos h
theorem doA_2 (h:¬ and3 o.1=0) (k:and3 o.1=1):doA B V T A o=YZ A (YA o.2.1):=(if_neg h).trans (if_pos k)
theorem doB_2 (h:¬ and3 o.1=0) (k:and3 o.1=1):doB B A o=inA A (YA o.2.1):=(if_neg h).trans (if_pos k)
theorem doA_3 (h:¬ and3 o.1=0) (k:¬ and3 o.1=1) (q:and3 o.1=2):doA B V T A o=qH B T A (YA o.2.1) o.2.2.1 (ofE o):=(if_neg h).trans ((if_neg k).trans (if_pos q))
theorem doB_3 (h:¬ and3 o.1=0) (k:¬ and3 o.1=1) (q:and3 o.1=2):doB B A o=q4 B A (YA o.2.1) o.2.2.1 (ofE o):=(if_neg h).trans ((if_neg k).trans (if_pos q))
theorem doA_4 (h:¬ and3 o.1=0) (k:¬ and3 o.1=1) (q:¬ and3 o.1=2) (_:Unit):doA B V T A o=delS A (YA o.2.1):=(if_neg h).trans ((if_neg k).trans (if_neg q))
theorem doB_4 (h:¬ and3 o.1=0) (k:¬ and3 o.1=1) (q:¬ and3 o.1=2) (_:Unit):doB B A o=inA A (YA o.2.1):=(if_neg h).trans ((if_neg k).trans (if_neg q))
end
def runA (B V T:Nat) (A:Sto) (l:List OpD):Sto:=l.foldl (doA B V T) A
def noOp:OpD:=(0,0,0,0,noEnt,[])
theorem run_next {B V T:Nat} {A:Sto} {l:List OpD} {i:Nat} {dd:OpD} (h:i<l.length):runA B V T A (l.take (i+1))=doA B V T (runA B V T A (l.take i)) (l.getD i dd):=by
 unfold runA
 rw [Z2 (dd:=dd) h,List.foldl_append];rfl
theorem lenS_small {l:List Str} (h:Wo l=true):lenS l≤2080:=by
 have h1:=keepS_len h
 have h2:=keepS_mem h
 have h3:∀ (m:List Str),(∀ x∈m,x.length≤100)→lenS m≤104*m.length:=by
  intro m
  induction m with
  | nil=>intro _;exact Nat.le_refl _
  | cons x m ih =>
   intro hm
   have:=ih fun y hy=>hm y (List.mem_cons_of_mem _ hy)
   have:=hm x List.mem_cons_self
   have e:lenS (x::m)=(4+x.length)+lenS m:=by simp [lenS]
   rw [e,List.length_cons];omega
 have:=h3 l h2
 omega
theorem lenF_small {l:List Fld} (h:keepF l=true):lenF l≤42280:=by
 have h1:=keepF_len h
 have h2:=keepF_mem h
 have h3:∀ (m:List Fld),(∀ x∈m,x.1.length≤300∧x.2.length≤300)→lenF m≤604*m.length:=by
  intro m
  induction m with
  | nil=>intro _;exact Nat.le_refl _
  | cons x m ih =>
   intro hm
   have:=ih fun y hy=>hm y (List.mem_cons_of_mem _ hy)
   have:=hm x List.mem_cons_self
   have e:lenF (x::m)=(4+x.1.length+x.2.length)+lenF m:=by simp [lenF]
   rw [e,List.length_cons];omega
 have:=h3 l h2
 omega
theorem lenK_small {l:List (List Str)} (h:keepK l=true):lenK l≤20800:=by
 have h1:=keepK_len h
 have h4:∀ k∈l,lenS k≤2080:=fun k hk=>lenS_small (by
  unfold keepK at h
  rw [Bool.and_eq_true,decide_eq_true_iff] at h
  rw [List.take_of_length_le (by omega)] at h
  exact List.all_eq_true.1 h.1 k hk)
 have h3:∀ (m:List (List Str)),(∀ x∈m,lenS x≤2080)→lenK m≤2080*m.length:=by
  intro m
  induction m with
  | nil=>intro _;exact Nat.le_refl _
  | cons x m ih =>
   intro hm
   have:=ih fun y hy=>hm y (List.mem_cons_of_mem _ hy)
   have:=hm x List.mem_cons_self
   have e:lenK (x::m)=lenS x+lenK m:=by simp [lenK]
   rw [e,List.length_cons];omega
 have:=h3 l h4
 omega
theorem nor_true {a b:Bool} (h:(!a||!b)=true):(a&&b)=false:=by cases a <;> cases b <;> first | rfl | cases h
theorem nor_false {a b:Bool} (h:(!a||!b)=false):(a&&b)=true:=by cases a <;> cases b <;> first | rfl | cases h
structure KeepE (e:Ent):Prop where
 k:keepK e.1=true
 v:Wo e.2.1=true
 n:Wo e.2.2.1=true
 r:e.2.2.2.1.length≤100
 b:e.2.2.2.2.2.1.length≤2000
 f:keepF e.2.2.2.2.1=true
theorem keepE_of {e:Ent} (h:keepE e=true):KeepE e:=by
 unfold keepE at h
 simp only [Bool.and_eq_true,decide_eq_true_iff] at h
 exact ⟨h.1.1.1.1.1,h.1.1.1.1.2,h.1.1.1.2,h.1.1.2,h.1.2,h.2⟩
theorem keepE_size {e:Ent} (h:keepE e=true):zL e≤70000:=by
 obtain ⟨h1,h2,h3,h4,h5,h6⟩:=keepE_of h
 have:=lenK_small h1
 have:=lenS_small h2
 have:=lenS_small h3
 have:=lenF_small h6
 unfold zL
 omega
theorem ofE_size (o:OpD):zL (ofE o)≤zL o.2.2.2.2.1+200:=by
 have e:zL (ofE o)=zL o.2.2.2.2.1+min o.2.2.2.1.toNat 200:=by
  unfold zL ofE
  simp only [List.length_append,List.length_replicate]
  omega
 omega
theorem okE_keep {e:Ent} (h:keepE e=true):OkE e:=by
 have h1:=keepE_size h
 have h2:=(keepE_of h).k
 exact ⟨by omega,by have:=keepK_len h2;omega,fun k hk s hs=>by have:=(keepK_mem h2 k hk).2 s hs;omega⟩
theorem ofE_keep {o:OpD} (h:keepO o=true):OkE (ofE o)∧zL (ofE o)≤70200:=by
 unfold keepO at h
 rw [Bool.and_eq_true] at h
 have h1:=keepE_size h.1
 have h2:=ofE_size o
 have h3:=okE_keep h.1
 exact ⟨⟨by omega,h3.keys,h3.strs⟩,by omega⟩
theorem okA_keep {l:List Axs} (h:keepA l=true):OkA l :=
 ⟨by have:=keepA_len h;omega,fun a ha=>by have:=keepA_mem h a ha;omega,fun a ha=>by have:=keepA_mem h a ha;omega,fun a ha x hx=>by have:=(keepA_mem h a ha).2.2 x hx;omega⟩
theorem small_len {l:List OpD} (h:smallL l=true):l.length≤12:=by
 unfold smallL at h
 rw [Bool.and_eq_true,decide_eq_true_iff] at h
 exact h.2
theorem small_mem {l:List OpD} (h:smallL l=true):∀ o∈l,keepO o=true:=fun o ho=>by
 unfold smallL at h
 rw [Bool.and_eq_true,decide_eq_true_iff] at h
 rw [List.take_of_length_le (by omega)] at h
 exact List.all_eq_true.1 h.1 o ho
/-- What holds of a store between the calls. -/
structure StoA (B V T:Nat) (A:Sto):Prop where
 inv:InvA B V T A
 ok:∀ x∈A,OkT x.2
structure LimA (B V T:Nat):Prop where
 b:1≤B∧B≤100000000
 v:1≤V∧V≤64
 t:1≤T∧T≤1000
theorem sto_do {B V T:Nat} {A:Sto} {o:OpD} (hl:LimA B V T) (h:StoA B V T A) (ho:keepO o=true):StoA B V T (doA B V T A o):=by
 have h1:=ofE_keep ho
 have h2:=okA_keep (by unfold keepO at ho;rw [Bool.and_eq_true] at ho;exact ho.2)
 unfold doA
 split
 ·exact ⟨inv_put h.inv hl.v.1 hl.t.1 _ _ _,okT_putA h.inv h.ok h1.1 h2 hl.b.2⟩
 ·split
  ·exact ⟨inv_touch h.inv _,okT_touch h.ok⟩
  ·split
   ·exact ⟨inv_repl h.inv hl.t.1 _ _ _,okT_replA h.inv h.ok h1.1 hl.b.2⟩
   ·exact ⟨inv_del h.inv _,okT_del h.ok⟩
theorem sto_nil {B V T:Nat}:StoA B V T []:=⟨inv_nil B V T,fun x hx=>(List.not_mem_nil hx).elim⟩
theorem sto_run {B V T:Nat} (hl:LimA B V T):∀ {l:List OpD} {A:Sto},StoA B V T A→(∀ o∈l,keepO o=true)→StoA B V T (runA B V T A l)
 | [],_,h,_=>h
 | o::l,A,h,ho=>sto_run hl (l:=l) (sto_do hl h (ho o List.mem_cons_self)) fun x hx=>ho x (List.mem_cons_of_mem _ hx)
theorem StoA.len {B V T:Nat} {A:Sto} (hl:LimA B V T) (h:StoA B V T A):totA A≤100000000∧A.length≤1000:=by
 have:=h.inv.tot
 have:=hl.b
 have:=hl.t
 omega
def allowB (b v t:Int):Bool:=((((decide (1≤b)&&decide (b≤100000000))&&decide (1≤v))&&decide (v≤64))&&decide (1≤t))&&decide (t≤1000)
theorem allow_iff {b v t:Int}:allowB b v t=true↔(1≤b∧b≤100000000)∧(1≤v∧v≤64)∧(1≤t∧t≤1000):=by
 unfold allowB
 simp only [Bool.and_eq_true,decide_eq_true_iff,and_assoc]
theorem lim_of {b v t:Int} (h:(1≤b∧b≤100000000)∧(1≤v∧v≤64)∧(1≤t∧t≤1000)):LimA b.toNat v.toNat t.toNat:=⟨by omega,by omega,by omega⟩
end Go.Plain
namespace Go.Plain
open Go.Sep
set_option linter.unusedVariables false
set_option linter.unusedSimpArgs false
def eqE (a b:Ent):Bool:=((((((decide (a.1=b.1)&&decide (a.2.1=b.2.1))&&decide (a.2.2.1=b.2.2.1))&&decide (a.2.2.2.1=b.2.2.2.1))&&decide (a.2.2.2.2.1=b.2.2.2.2.1))&&decide (a.2.2.2.2.2.1=b.2.2.2.2.2.1))&&decide (a.2.2.2.2.2.2.1=b.2.2.2.2.2.2.1))&&decide (a.2.2.2.2.2.2.2=b.2.2.2.2.2.2.2)
theorem eqE_self (a:Ent):eqE a a=true:=by unfold eqE;simp
def eqAll (a b:List Ent) (n:Nat):Bool:=(List.range n).all fun i=>eqE (a.getD i ([],[],[],[],[],[],0,0)) (b.getD i ([],[],[],[],[],[],0,0))
def eqT (a b:Tab):Bool:=(decide (a.1=b.1)&&decide (a.2.length=b.2.length))&&eqAll a.2 b.2 a.2.length
theorem eqAll_next {a b:List Ent} {n:Nat} (h:eqAll a b n=true) (k:eqE (a.getD n ([],[],[],[],[],[],0,0)) (b.getD n ([],[],[],[],[],[],0,0))=true):eqAll a b (n+1)=true:=by
 unfold eqAll at h ⊢
 rw [List.range_succ,List.all_append,h]
 simpa using k
theorem eqAll_no {a b:List Ent} {n m:Nat} (h:n<m) (k:eqE (a.getD n ([],[],[],[],[],[],0,0)) (b.getD n ([],[],[],[],[],[],0,0))=false):eqAll a b m=false:=by
 unfold eqAll
 rw [← Bool.not_eq_true,List.all_eq_true]
 intro e
 have:=e n (List.mem_range.2 h)
 rw [k] at this
 cases this
theorem eqAll_self (a:List Ent) (n:Nat):eqAll a a n=true:=by
 unfold eqAll
 rw [List.all_eq_true]
 exact fun i _=>eqE_self _
theorem eqT_self (a:Tab):eqT a a=true:=by unfold eqT;rw [eqAll_self];simp
theorem eqT_head {a b:Tab} (h:(!decide (a.1=b.1)||!decide (a.2.length=b.2.length))=true):eqT a b=false:=by
 unfold eqT
 rw [nor_true h];rfl
theorem eqT_no {a b:Tab} {n:Nat} (h:n<a.2.length) (k:eqE (a.2.getD n ([],[],[],[],[],[],0,0)) (b.2.getD n ([],[],[],[],[],[],0,0))=false):eqT a b=false:=by
 unfold eqT
 rw [eqAll_no h k,Bool.and_false]
theorem eqT_yes {a b:Tab} (h:(!decide (a.1=b.1)||!decide (a.2.length=b.2.length))=false) (k:eqAll a.2 b.2 a.2.length=true):eqT a b=true:=by
 unfold eqT
 rw [nor_false h,k];rfl
def noA:Sto:=[]
def noE2:Ent:=([],[],[],[],[],[],0,0)
theorem w5 {B V T:Nat} {A:Sto} {k:Str} {e:Ent} {axes:List Axs} (hl:LimA B V T) (h:StoA B V T A) (he:OkE e) (ha:OkA axes):StoA B V T (putA B V T A k e axes) :=
 ⟨inv_put h.inv hl.v.1 hl.t.1 _ _ _,okT_putA h.inv h.ok he ha hl.b.2⟩
theorem qw {B V T:Nat} {A:Sto} {k:Str} (h:StoA B V T A):StoA B V T (YZ A k):=⟨inv_touch h.inv _,okT_touch h.ok⟩
theorem wC {B V T:Nat}:StoA B V T noA:=sto_nil
theorem wU:LimA 250 5 5:=⟨by omega,by omega,by omega⟩
theorem wV:OkE ([],[],[],[],[],[],0,0):=⟨by decide,by decide,fun _ h=>(List.not_mem_nil h).elim⟩
theorem run_noA {B V T:Nat} (hl:LimA B V T) {l:List OpD} (h:smallL l=true) (i:Nat):StoA B V T (runA B V T noA (l.take i)):=sto_run hl wC fun o ho=>small_mem h o (List.mem_of_mem_take ho)
end Go.Plain
