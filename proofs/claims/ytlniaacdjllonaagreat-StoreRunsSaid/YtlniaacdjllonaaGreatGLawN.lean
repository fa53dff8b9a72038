/-
 The reference store in plain Lean: a list of names,axes and entries,each entry list behind a value;what its calls make of it is what the plain store makes. No program in sight. No conditions.
 The reference store in plain Lean: what cutting,setting and appending tables make of the list. No program in sight. No conditions.
 The reference store in plain Lean: its tables are bounded,what lies below an index too. No program in sight. No conditions.
-/
import Derived.Test.YtlniaacdjllonaaGreatGLawJ
namespace Go.Plain
open Go Go.Sep
set_option linter.unusedVariables false
set_option linter.unusedSimpArgs false
/-- A table of the reference: name,axes,the value of its entries,the entries. -/
abbrev QE:=Str×List Axs×Value×List Ent
def absQ (Q:List QE):Sto:=Q.map fun q=>(q.1,(q.2.1,q.2.2.2))
def namQ (Q:List QE):List Str:=Q.map (·.1)
def lstQ (Q:List QE):List (List Axs×Value):=Q.map fun q=>(q.2.1,q.2.2.1)
def rowQ (Q:List QE):List (Value×List Ent):=Q.map fun q=>(q.2.2.1,q.2.2.2)
def nilV:Value:=.slice none 0 0
def noQ:QE:=([],([],(nilV,[])))
theorem qP (Q:List QE):namQ Q=zg (absQ Q):=by unfold namQ zg absQ;rw [List.map_map];rfl
theorem ZL (Q:List QE):(namQ Q).length=Q.length:=List.length_map _
theorem qb (Q:List QE):(lstQ Q).length=Q.length:=List.length_map _
theorem Zu (Q:List QE):(absQ Q).length=Q.length:=List.length_map _
theorem nam_get {Q:List QE} {i:Nat} (h:i<Q.length):(namQ Q).getD i []=(Q.getD i noQ).1:=by
 unfold namQ
 rw [List.getD_eq_getElem?_getD,List.getD_eq_getElem?_getD,List.getElem?_map,List.getElem?_eq_getElem h];rfl
theorem Yf {Q:List QE} {i:Nat} (h:i<Q.length) (dd:List Axs×Value):(lstQ Q).getD i dd=((Q.getD i noQ).2.1,(Q.getD i noQ).2.2.1):=by
 unfold lstQ
 rw [List.getD_eq_getElem?_getD,List.getD_eq_getElem?_getD,List.getElem?_map,List.getElem?_eq_getElem h];rfl
theorem abs_get {Q:List QE} {i:Nat} (h:i<Q.length):(absQ Q).getD i ([],([],[]))=((Q.getD i noQ).1,((Q.getD i noQ).2.1,(Q.getD i noQ).2.2.2)):=by
 unfold absQ
 rw [List.getD_eq_getElem?_getD,List.getD_eq_getElem?_getD,List.getElem?_map,List.getElem?_eq_getElem h];rfl
def plQ (Q:List QE) (key:Str):Int:=idxP (fun x=>decide (x=key)) (namQ Q)
theorem pl_no {Q:List QE} {key:Str} (h:plQ Q key=-1):inA (absQ Q) key=false:=by
 have h1:(namQ Q).any (fun x=>decide (x=key))=false:=by
  rw [← idxP_ge];unfold plQ at h;rw [h];rfl
 rw [qP] at h1
 unfold inA
 rw [lookS_none (l:=absQ Q)]
 ·rfl
 ·intro hm
  rw [List.any_eq_false] at h1
  exact h1 key hm (by simp)
theorem pl_range (Q:List QE) (key:Str):-1≤plQ Q key∧plQ Q key<Q.length:=by
 have:=ZL Q
 unfold plQ idxP
 split <;> omega
theorem pl_at {Q:List QE} {key:Str} (hn:((absQ Q).map (·.1)).Nodup) (h:¬ plQ Q key=-1):0≤plQ Q key∧(plQ Q key).toNat<Q.length∧(Q.getD (plQ Q key).toNat noQ).1=key∧inA (absQ Q) key=true∧yc (absQ Q) key=((Q.getD (plQ Q key).toNat noQ).2.1,(Q.getD (plQ Q key).toNat noQ).2.2.2):=by
 obtain ⟨h1,h2,h3,_⟩:=idxP_at (q:=fun x=>decide (x=key)) (l:=namQ Q) h []
 have h2':(plQ Q key).toNat<Q.length:=by rw [← ZL];exact h2
 have h4:(Q.getD (plQ Q key).toNat noQ).1=key:=by
  rw [← nam_get h2'];exact of_decide_eq_true h3
 have hm:(absQ Q).getD (plQ Q key).toNat ([],([],[]))∈absQ Q:=by
  rw [List.getD_eq_getElem?_getD,List.getElem?_eq_getElem (by rw [Zu];exact h2')]
  exact List.getElem_mem _
 rw [abs_get h2',h4] at hm
 have hl:=qB hn hm
 exact ⟨h1,h2',h4,by unfold inA;rw [hl];rfl,by unfold yc;rw [hl];rfl⟩
theorem abs_append (P Q:List QE):absQ (P++Q)=absQ P++absQ Q:=List.map_append
theorem abs_take (Q:List QE) (i:Nat):absQ (Q.take i)=(absQ Q).take i:=List.map_take
theorem abs_drop (Q:List QE) (i:Nat):absQ (Q.drop i)=(absQ Q).drop i:=List.map_drop
theorem del_at:∀ {A:Sto} {k:Str} {i:Nat},(A.map (·.1)).Nodup→i<A.length→(A.getD i ([],([],[]))).1=k→delS A k=A.take i++A.drop (i+1)
 | x::r,k,0,hn,_,hk=>by
  rw [List.map_cons,List.nodup_cons] at hn
  have hk':x.1=k:=hk
  have h2:delS r k=r:=wx (by rw [← hk'];exact hn.1)
  unfold delS at h2 ⊢
  rw [List.filter_cons,if_neg (by simp [hk']),h2];rfl
 | x::r,k,i+1,hn,hi,hk=>by
  rw [List.map_cons,List.nodup_cons] at hn
  have hi':i<r.length:=by simpa using hi
  have ih:=del_at (A:=r) (k:=k) (i:=i) hn.2 hi' hk
  have hne:x.1≠k:=fun e=>hn.1 (by
   rw [e,← hk]
   rw [show (x::r).getD (i+1) ([],([],[]))=r.getD i ([],([],[])) from rfl,List.getD_eq_getElem?_getD,List.getElem?_eq_getElem hi']
   exact List.mem_map_of_mem (f:=(·.1)) (List.getElem_mem hi'))
  unfold delS at ih ⊢
  rw [List.filter_cons,if_pos (by simp [hne]),ih];rfl
def cutQ (Q:List QE) (i:Nat):List QE:=Q.take i++Q.drop (i+1)
theorem cut_abs {Q:List QE} {key:Str} (hn:((absQ Q).map (·.1)).Nodup) (h:¬ plQ Q key=-1):absQ (cutQ Q (plQ Q key).toNat)=delS (absQ Q) key:=by
 obtain ⟨h1,h2,h3,_⟩:=pl_at hn h
 unfold cutQ
 rw [abs_append,abs_take,abs_drop]
 refine (del_at hn (by rw [Zu];exact h2) ?_).symm
 rw [abs_get h2];exact h3
end Go.Plain
namespace Go.Plain
open Go Go.Sep
set_option linter.unusedVariables false
set_option linter.unusedSimpArgs false
theorem get_split {α:Type} {l:List α} {i:Nat} {dd:α} (h:i<l.length):l=l.take i++l.getD i dd::l.drop (i+1):=by
 rw [List.getD_eq_getElem?_getD,List.getElem?_eq_getElem h]
 show l=l.take i++l[i]::l.drop (i+1)
 rw [← List.drop_eq_getElem_cons h,List.take_append_drop]
theorem set_split {α:Type} {l:List α} {i:Nat} {x:α} (h:i<l.length):l.set i x=l.take i++x::l.drop (i+1):=by
 rw [List.set_eq_take_append_cons_drop,if_pos h]
theorem row_app (P Q:List QE):rowQ (P++Q)=rowQ P++rowQ Q:=List.map_append
theorem nam_app (P Q:List QE):namQ (P++Q)=namQ P++namQ Q:=List.map_append
theorem lst_app (P Q:List QE):lstQ (P++Q)=lstQ P++lstQ Q:=List.map_append
theorem nam_cut (Q:List QE) (i:Nat):namQ (cutQ Q i)=(namQ Q).take i++(namQ Q).drop (i+1):=by
 unfold cutQ;rw [nam_app];unfold namQ;rw [List.map_take,List.map_drop]
theorem lst_cut (Q:List QE) (i:Nat):lstQ (cutQ Q i)=(lstQ Q).take i++(lstQ Q).drop (i+1):=by
 unfold cutQ;rw [lst_app];unfold lstQ;rw [List.map_take,List.map_drop]
theorem qx {Q:List QE} {i:Nat} (h:i<Q.length):(rowQ Q).Perm (((Q.getD i noQ).2.2.1,(Q.getD i noQ).2.2.2)::rowQ (cutQ Q i)):=by
 have e:=get_split (dd:=noQ) h
 generalize Q.getD i noQ=x at e ⊢
 conv=>lhs;rw [e]
 unfold cutQ
 rw [row_app,row_app]
 exact List.perm_middle
theorem rows_set {Q:List QE} {i:Nat} (h:i<Q.length) (n:Str) (a:List Axs) (v:Value) (es:List Ent):((v,es)::rowQ (cutQ Q i)).Perm (rowQ (Q.set i (n,(a,(v,es))))):=by
 rw [set_split h]
 unfold cutQ
 rw [row_app,row_app]
 exact List.perm_middle.symm
theorem ZZ {Q:List QE} {i:Nat} (h:i<Q.length):(((Q.getD i noQ).2.2.1,(Q.getD i noQ).2.2.2)::rowQ (cutQ Q i)).Perm (rowQ Q):=(qx h).symm
theorem rows_end (Q:List QE) (n:Str) (a:List Axs) (v:Value) (es:List Ent):((v,es)::rowQ Q).Perm (rowQ (Q++[(n,(a,(v,es)))])):=by
 rw [row_app]
 exact (List.perm_append_singleton _ _).symm
theorem nam_end (Q:List QE) (n:Str) (a:List Axs) (v:Value) (es:List Ent):namQ (Q++[(n,(a,(v,es)))])=namQ Q++[n]:=nam_app _ _
theorem lst_end (Q:List QE) (n:Str) (a:List Axs) (v:Value) (es:List Ent):lstQ (Q++[(n,(a,(v,es)))])=lstQ Q++[(a,v)]:=lst_app _ _
theorem abs_end (Q:List QE) (n:Str) (a:List Axs) (v:Value) (es:List Ent):absQ (Q++[(n,(a,(v,es)))])=absQ Q++[(n,(a,es))]:=abs_append _ _
theorem nam_set {Q:List QE} {i:Nat} (h:i<Q.length) (a:List Axs) (v:Value) (es:List Ent):namQ (Q.set i ((Q.getD i noQ).1,(a,(v,es))))=namQ Q:=by
 have e:=get_split (dd:=noQ) h
 generalize Q.getD i noQ=x at e ⊢
 rw [set_split h]
 conv=>rhs;rw [e]
 rw [nam_app,nam_app];rfl
theorem lst_set {Q:List QE} {i:Nat} (n:Str) (a:List Axs) (v:Value) (es:List Ent):lstQ (Q.set i (n,(a,(v,es))))=(lstQ Q).set i (a,v):=by
 unfold lstQ;rw [List.map_set]
theorem lst_same {Q:List QE} {i:Nat} (h:i<Q.length) (n:Str) (es:List Ent):lstQ (Q.set i (n,((Q.getD i noQ).2.1,((Q.getD i noQ).2.2.1,es))))=lstQ Q:=by
 have e:=get_split (dd:=noQ) h
 generalize Q.getD i noQ=x at e ⊢
 rw [set_split h]
 conv=>rhs;rw [e]
 rw [lst_app,lst_app];rfl
theorem abs_set {Q:List QE} {i:Nat} (n:Str) (a:List Axs) (v:Value) (es:List Ent):absQ (Q.set i (n,(a,(v,es))))=(absQ Q).set i (n,(a,es)):=by
 unfold absQ;rw [List.map_set]
/-! What the calls make. -/
def remQ (Q:List QE) (key:Str):List QE:=if plQ Q key=-1 then Q else cutQ Q (plQ Q key).toNat
theorem remQ_no {Q:List QE} {key:Str} (h:plQ Q key=-1):remQ Q key=Q:=if_pos h
theorem remQ_yes {Q:List QE} {key:Str} (h:¬ plQ Q key=-1):remQ Q key=cutQ Q (plQ Q key).toNat:=if_neg h
theorem rem_abs {Q:List QE} {key:Str} (hn:((absQ Q).map (·.1)).Nodup):absQ (remQ Q key)=delS (absQ Q) key:=by
 by_cases h:plQ Q key=-1
 ·rw [remQ_no h,rem_no (pl_no h)]
 ·rw [remQ_yes h];exact cut_abs hn h
theorem rem_len (Q:List QE) (key:Str):(remQ Q key).length≤Q.length:=by
 by_cases h:plQ Q key=-1
 ·rw [remQ_no h];exact Nat.le_refl _
 ·rw [remQ_yes h]
  unfold cutQ
  rw [List.length_append,List.length_take,List.length_drop]
  have:=pl_range Q key
  omega
theorem touch_abs {Q:List QE} {key:Str} {a:List Axs} {v:Value} {es:List Ent} (hn:((absQ Q).map (·.1)).Nodup) (h:¬ plQ Q key=-1) (ha:a=(yc (absQ Q) key).1) (he:es=(yc (absQ Q) key).2) :
  absQ (remQ Q key++[(key,(a,(v,es)))])=YZ (absQ Q) key:=by
 rw [abs_end,rem_abs hn,touch_yes (pl_at hn h).2.2.2.1,ha,he];rfl
theorem front_abs {Q:List QE} {key:Str} {a:List Axs} {v:Value} {es:List Ent} (hn:((absQ Q).map (·.1)).Nodup):absQ (remQ Q key++[(key,(a,(v,es)))])=Yw (absQ Q) key (a,es):=by
 rw [abs_end,rem_abs hn];rfl
theorem set_at:∀ {A:Sto} {k:Str} {i:Nat} {t:Tab},(A.map (·.1)).Nodup→i<A.length→(A.getD i ([],([],[]))).1=k→A.set i (k,t)=setA A k t
 | x::r,k,0,t,hn,_,hk=>by
  rw [List.map_cons,List.nodup_cons] at hn
  have hk':x.1=k:=hk
  unfold setA
  rw [List.map_cons,if_pos hk']
  show (k,t)::r=_
  congr 1
  symm
  refine (List.map_congr_left (g:=id) fun y hy=>?_).trans (List.map_id r)
  exact if_neg fun e=>hn.1 (by rw [hk',← e];exact List.mem_map_of_mem (f:=(·.1)) hy)
 | x::r,k,i+1,t,hn,hi,hk=>by
  rw [List.map_cons,List.nodup_cons] at hn
  have hi':i<r.length:=by simpa using hi
  have ih:=set_at (A:=r) (k:=k) (i:=i) (t:=t) hn.2 hi' hk
  have hne:x.1≠k:=fun e=>hn.1 (by
   rw [e,← hk]
   rw [show (x::r).getD (i+1) ([],([],[]))=r.getD i ([],([],[])) from rfl,List.getD_eq_getElem?_getD,List.getElem?_eq_getElem hi']
   exact List.mem_map_of_mem (f:=(·.1)) (List.getElem_mem hi'))
  unfold setA at ih ⊢
  rw [List.map_cons,if_neg hne,← ih];rfl
theorem set_abs {Q:List QE} {key:Str} {a:List Axs} {v:Value} {es:List Ent} (hn:((absQ Q).map (·.1)).Nodup) (h:¬ plQ Q key=-1):absQ (Q.set (plQ Q key).toNat (key,(a,(v,es))))=setA (absQ Q) key (a,es):=by
 obtain ⟨h1,h2,h3,_⟩:=pl_at hn h
 rw [abs_set]
 refine set_at hn (by rw [Zu];exact h2) ?_
 rw [abs_get h2];exact h3
theorem del_set {A:Sto} {k:Str} {t:Tab}:delS (setA A k t) k=delS A k:=by
 unfold delS setA
 induction A with
 | nil=>rfl
 | cons x r ih =>
  rw [List.map_cons,List.filter_cons,List.filter_cons]
  by_cases e:x.1=k
  ·rw [if_pos e,if_neg (by simp),if_neg (by simp [e])];exact ih
  ·rw [if_neg e,if_pos (by simp [e]),if_pos (by simp [e]),ih]
theorem find_set {A:Sto} {k:Str} {t:Tab} (hn:(A.map (·.1)).Nodup) (h:inA A k=true):zk (setA A k t) k=some t:=by
 refine qB (by rw [setA_keys];exact hn) ?_
 unfold setA
 exact List.mem_map.2 ⟨_,inA_mem h,if_pos rfl⟩
theorem touch_set {A:Sto} {k:Str} {t:Tab} (hn:(A.map (·.1)).Nodup) (h:inA A k=true):YZ (setA A k t) k=Yw A k t:=by
 have hf:=find_set (t:=t) hn h
 rw [touch_yes (by unfold inA;rw [hf];rfl)]
 unfold Yw
 rw [del_set]
 unfold yc
 rw [hf];rfl
theorem del_cut {A:Sto} {k:Str} {a:List Axs} {es:List Ent} (he:es=[]):delS (setA A k (a,es)) k=cutA A k (a,es):=by
 rw [del_set];unfold cutA;rw [if_pos he]
theorem set_cut {A:Sto} {k:Str} {a:List Axs} {es:List Ent} (he:¬ es=[]):setA A k (a,es)=cutA A k (a,es):=by unfold cutA;rw [if_neg he]
/-! The eldest table. -/
theorem pl_first {Q:List QE} (h:0<Q.length):plQ Q ((namQ Q).getD 0 [])=0:=by
 cases Q with
 | nil=>cases h
 | cons q r =>
  show idxP _ (q.1::namQ r)=0
  unfold idxP
  rw [List.findIdx_cons]
  simp [namQ]
theorem rem_first {Q:List QE} (h:0<Q.length):remQ Q ((namQ Q).getD 0 [])=Q.drop 1:=by
 have:=pl_first h
 rw [remQ_yes (by rw [this];decide),this];rfl
theorem drop_set {Q:List QE} {x:QE}:(Q.set 0 x).drop 1=Q.drop 1:=by cases Q <;> rfl
theorem step_abs {Q:List QE} (h:0<Q.length) (sp:Int) (v:Value) (hr:¬ remL (Q.getD 0 noQ).2.2.2 (ZT (decide (Q.length=1)) sp)=[]) :
  absQ (Q.set 0 ((Q.getD 0 noQ).1,((Q.getD 0 noQ).2.1,(v,remL (Q.getD 0 noQ).2.2.2 (ZT (decide (Q.length=1)) sp)))))=ZQ (absQ Q) sp:=by
 cases Q with
 | nil=>cases h
 | cons q r =>
  have e:decide ((q::r).length=1)=decide (absQ r=[]):=by cases r <;> rfl
  show _=qX q.1 (q.2.1,remL q.2.2.2 (ZT (decide (absQ r=[])) sp)) (absQ r)
  rw [← e]
  unfold qX
  exact (if_neg hr).symm
theorem step_abs0 {Q:List QE} (h:0<Q.length) (sp:Int) (hr:remL (Q.getD 0 noQ).2.2.2 (ZT (decide (Q.length=1)) sp)=[]):absQ (Q.drop 1)=ZQ (absQ Q) sp:=by
 cases Q with
 | nil=>cases h
 | cons q r =>
  have e:decide ((q::r).length=1)=decide (absQ r=[]):=by cases r <;> rfl
  show _=qX q.1 (q.2.1,remL q.2.2.2 (ZT (decide (absQ r=[])) sp)) (absQ r)
  rw [← e]
  unfold qX
  exact (if_pos hr).symm
theorem tot_next {Q:List QE} {i:Nat} (h:i<Q.length):totA (absQ (Q.take (i+1)))=totA (absQ (Q.take i))+za (Q.getD i noQ).2.2.2:=by
 rw [List.take_succ_eq_append_getElem h,abs_append,wJ,Y6 h]
 rfl
theorem one_abs (Q:List QE):oneA (absQ Q)=decide (Q.length=1):=by unfold oneA;rw [Zu]
end Go.Plain
namespace Go.Plain
open Go Go.Sep
set_option linter.unusedVariables false
set_option linter.unusedSimpArgs false
theorem ok_at {Q:List QE} {i:Nat} (hok:∀ x∈absQ Q,OkT x.2) (h:i<Q.length):OkT ((Q.getD i noQ).2.1,(Q.getD i noQ).2.2.2):=by
 have hm:(absQ Q).getD i ([],([],[]))∈absQ Q:=by
  rw [List.getD_eq_getElem?_getD,List.getElem?_eq_getElem (by rw [Zu];exact h)]
  exact List.getElem_mem _
 rw [abs_get h] at hm
 exact hok _ hm
theorem tot_take (i:Nat) (Q:List QE):totA (absQ (Q.take i))≤totA (absQ Q):=by
 have e:=List.take_append_drop i Q
 conv=>rhs;rw [← e]
 rw [abs_append,wJ];omega
/-- What is left of a list while its head is dropped. -/
def LeftB (X acc:List Ent) (limit:Nat):Prop:=acc.length≤X.length∧acc=X.drop (X.length-acc.length)∧(limit≤acc.length∨acc.length=X.length)
theorem left_all {X acc:List Ent} {limit:Nat} (h:acc=X):LeftB X acc limit:=by
 subst h
 exact ⟨Nat.le_refl _,by rw [Nat.sub_self,List.drop_zero],.inr rfl⟩
theorem left_next {X acc:List Ent} {limit:Nat} (h:LeftB X acc limit) (hm:max limit 0<acc.length):LeftB X ((acc.take acc.length).drop 1) limit:=by
 obtain ⟨h1,h2,h3⟩:=h
 rw [List.take_length]
 have hl:(acc.drop 1).length=acc.length-1:=by simp
 refine ⟨by omega,?_,.inl (by omega)⟩
 rw [hl]
 conv=>lhs;rw [h2]
 rw [List.drop_drop]
 congr 1;omega
theorem left_done {X acc:List Ent} {limit:Nat} (h:LeftB X acc limit) (hm:¬ max limit 0<acc.length):acc=X.drop (X.length-limit):=by
 obtain ⟨h1,h2,h3⟩:=h
 rw [h2]
 rcases h3 with h3 | h3
 ·have e:X.length-(List.drop (X.length-acc.length) X).length=X.length-acc.length:=by rw [List.length_drop];omega
  congr 1;omega
 ·congr 1;omega
end Go.Plain
