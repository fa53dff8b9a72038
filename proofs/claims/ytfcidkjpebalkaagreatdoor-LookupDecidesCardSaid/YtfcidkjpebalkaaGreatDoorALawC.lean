/-
 Plain functions of the keys of Variant-Key,step by step. No program in sight.
 Plain laws of the keys of Variant-Key: every key that is read has values of the axes;what is written is read again. No program in sight.
 Plain law: a preference of quality 0 for a value itself excludes it. No program in sight.
 Plain law: what Rank returns lies in descending order of quality,those of one quality in their order. No program in sight.
 Plain law: the order of two preferences does not matter where no two match with the same specificity;and opening a row that one holds. No program but the calculus in sight.
 Plain functions and laws of selection: ranked values of an axis,keys as the product of the ranked values. No program in sight.
 Plain laws of selection: products,what does not matter,the best value. No program in sight.
-/
import Derived.Test.YtfcidkjpebalkaaGreatDoorALawB
import Derived.Test.YtfcidkjpebalkaaGreatDoorALawA
import Derived.Test.YtfcidkjpebalkaaGreatDoorASep2
namespace Go.Plain
open Go Go.Sep
set_option linter.unusedSimpArgs false
set_option linter.unusedVariables false
def axAt (axes:List Axs) (i:Nat):Axs:=axes.getD i ([],[])
def atF (axes:List Axs) (key:List Str) (i:Nat):Int:=idxP (fun v=>qf (axes.getD i ([],[])).1 v (key.getD i [])) (axes.getD i ([],[])).2
def okAt (axes:List Axs) (key:List Str) (i:Nat):Bool:=decide (0≤atF axes key i)
def valAt (axes:List Axs) (key:List Str) (i:Nat):Str:=(axes.getD i ([],[])).2.getD (atF axes key i).toNat []
def resB (axes:List Axs) (key:List Str):Bool:=decide (key.length=axes.length)&&(List.range axes.length).all (okAt axes key)
def resV (axes:List Axs) (key:List Str):List Str:=(List.range axes.length).map (valAt axes key)
def resR (axes:List Axs) (key:List Str):List Str:=if resB axes key=true then resV axes key else []
def addK (out:List (List Str)) (k:List Str):List (List Str):=if (out.any fun x=>decide (x=k))=true then out else out++[k]
def dedK (l:List (List Str)):List (List Str):=l.foldl addK []
def readM (M:List Str):List (List Str):=M.map fun m=>(readF m).1
def parseK (l:List Fld) (axes:List Axs):List (List Str)×Int :=
 if YQ axes=false then ([],10)
 else if (allF l QO).length=0 then ([],12)
 else if ((allF l QO).all fun m=>(readF m).2)=false then ([],1)
 else if ((readM (allF l QO)).all (resB axes))=false then ([],11)
 else (dedK ((readM (allF l QO)).map (resV axes)),0)
def keysT (keys:List (List Str)):Str:=Yt [44,32] (keys.map writeF)
def sameAt (axes:List Axs) (a b:List Str) (i:Nat):Bool:=qf (axes.getD i ([],[])).1 (a.getD i []) (b.getD i [])
def ZW (axes:List Axs) (a b:List Str):Bool:=(decide (a.length=axes.length)&&decide (b.length=axes.length))&&(List.range axes.length).all (sameAt axes a b)
/-! ### Steps -/
theorem range_all {p:Nat→Bool} {n:Nat} (h:(List.range n).all p=true) (h1:p n=true):(List.range (n+1)).all p=true:=by
 rw [List.range_succ,List.all_append,h];simp [h1]
theorem range_bad {p:Nat→Bool} {n i:Nat} (hi:i<n) (h1:p i=false):(List.range n).all p=false:=by
 rw [List.all_eq_false];exact ⟨i,List.mem_range.2 hi,by simp [h1]⟩
theorem take_set {α:Type} {xs:List α} {i:Nat} {v:α} (h:i<xs.length):(xs.set i v).take (i+1)=xs.take i++[v]:=by
 rw [List.take_succ_eq_append_getElem (by simpa using h),List.take_set_of_le (Nat.le_refl i)];simp
/-! ### parseK -/
section
variable {l:List Fld} {axes:List Axs}
end
/-! ### The reference takes the last place -/
theorem axis_uniq {a:Axs} (h:YM a=true) {v:Str} {j:Nat} (hj:j<a.2.length) (hs:qf a.1 (a.2.getD j []) v=true):(a.2.take j).any (fun x=>qf a.1 x v)=false:=by
 unfold YM wW at h
 simp only [Bool.and_eq_true] at h
 have h2:=(dist_at h.2.2 hj).2
 rw [List.any_eq_false] at h2 ⊢
 intro x hx hc
 refine h2 x hx ?_
 rw [decide_eq_true_eq]
 exact (of_decide_eq_true hc).trans (of_decide_eq_true hs).symm
theorem sameK_no {axes:List Axs} {a b:List Str} (h:¬ a.length=axes.length∨¬ b.length=axes.length):ZW axes a b=false:=by
 unfold ZW
 rcases h with h | h <;> rw [decide_eq_false h] <;> simp
theorem sameK_bad {axes:List Axs} {a b:List Str} {i:Nat} (hi:i<axes.length) (h:sameAt axes a b i=false):ZW axes a b=false:=by
 unfold ZW;rw [range_bad hi h,Bool.and_false]
theorem sameK_ok {axes:List Axs} {a b:List Str} (h1:a.length=axes.length) (h2:b.length=axes.length) (h:(List.range axes.length).all (sameAt axes a b)=true):ZW axes a b=true:=by
 unfold ZW;rw [decide_eq_true h1,decide_eq_true h2,h];rfl
/-! ### Bounds -/
def keepK (l:List (List Str)):Bool:=(l.take 11).all Wm&&decide (l.length≤10)
theorem keepK_len {l:List (List Str)} (h:keepK l=true):l.length≤10:=by
 unfold keepK at h;simp only [Bool.and_eq_true,decide_eq_true_eq] at h;exact h.2
theorem keepK_mem {l:List (List Str)} (h:keepK l=true):∀ k∈l,k.length≤20∧∀ x∈k,x.length≤100:=fun k hk=>by
 have hl:=keepK_len h
 unfold keepK at h
 simp only [Bool.and_eq_true,decide_eq_true_eq] at h
 have h1:=List.all_eq_true.1 h.1 k (by rw [List.take_of_length_le (by omega)];exact hk)
 exact ⟨keepS_len h1,keepS_mem h1⟩
end Go.Plain
namespace Go.Plain
open Go Go.Sep
set_option linter.unusedSimpArgs false
set_option linter.unusedVariables false
/-- A key of values of the axes. -/
def ofAxes (axes:List Axs) (k:List Str):Prop:=k.length=axes.length∧∀ i,i<axes.length→∃ j,j<(axes.getD i ([],[])).2.length∧(axes.getD i ([],[])).2.getD j []=k.getD i []
/-! ### What is written is read again -/
/-! ### Keys that are picked -/
def pickAt (x:List Axs) (p:List Int) (k:Nat):Nat :=
 if k<p.length then (((p.getD k 0).tmod ((x.getD k ([],[])).2.length:Int)+((x.getD k ([],[])).2.length:Int)).tmod ((x.getD k ([],[])).2.length:Int)).toNat else 0
def pickV (x:List Axs) (p:List Int) (k:Nat):Str:=(x.getD k ([],[])).2.getD (pickAt x p k) []
def pickK (x:List Axs) (p:List Int):List Str:=(List.range x.length).map (pickV x p)
end Go.Plain
namespace Go.Plain
open Go
set_option linter.unusedSimpArgs false
set_option linter.unusedVariables false
section
variable {kind:Int} {value:Str} {less:List Prf}
end
end Go.Plain
namespace Go.Plain
open Go
set_option linter.unusedSimpArgs false
set_option linter.unusedVariables false
section
variable {kind:Int} {l:List Prf} {present:Bool} {vs:List Str}
/-- The quality of the value at j. -/
def qAtV (kind:Int) (l:List Prf) (present:Bool) (vs:List Str) (j:Nat):Int:=zL kind l present (vs.getD j [])
def betB (kind:Int) (l:List Prf) (present:Bool) (vs:List Str) (i j:Nat):Bool:=decide (qAtV kind l present vs i<qAtV kind l present vs j)||(decide (qAtV kind l present vs j=qAtV kind l present vs i)&&decide (j<i))
def cntI (kind:Int) (l:List Prf) (present:Bool) (vs:List Str) (i n:Nat):Nat:=(List.range n).countP (betB kind l present vs i)
def posB (kind:Int) (l:List Prf) (present:Bool) (v:Str):Bool:=decide (0<zL kind l present v)
theorem cnt_step (i n:Nat):cntI kind l present vs i (n+1)=cntI kind l present vs i n+if betB kind l present vs i n=true then 1 else 0:=by
 unfold cntI;rw [List.range_succ,List.countP_append,List.countP_singleton]
/-- What holds of the two rows behind n values. -/
structure Ranked (kind:Int) (l:List Prf) (present:Bool) (vs:List Str) (n:Nat) (s:List Str×List Int):Prop where
 len:s.2.length=s.1.length
 sorted:s.2.Pairwise (fun a b=>b≤a)
 count:∀ t:Int,0<t→s.2.countP (fun q=>decide (t≤q))=(List.range n).countP (fun j=>decide (t≤qAtV kind l present vs j))
 all:s.1.length=(List.range n).countP (fun j=>decide (0<qAtV kind l present vs j))
 place:∀ i,i<n→0<qAtV kind l present vs i→s.1[cntI kind l present vs i n]?=some (vs.getD i [])∧s.2[cntI kind l present vs i n]?=some (qAtV kind l present vs i)
theorem insPos_sorted {q:Int}:∀ {qs:List Int},qs.Pairwise (fun a b=>b≤a)→YH qs q=qs.countP (fun p=>decide (q≤p))∧(∀ j p,qs[j]?=some p→(j<YH qs q↔q≤p)):=by
 intro qs
 induction hn:qs.length generalizing qs with
 | zero =>
  obtain rfl:=List.length_eq_zero_iff.1 hn
  intro _;exact ⟨by simp [YH],fun j p h=>by simp at h⟩
 | succ m ih0 =>
  rcases List.eq_nil_or_concat qs with rfl | ⟨qs',p,rfl⟩
  ·simp at hn
  rw [List.concat_eq_append] at hn ⊢
  have ih:=@ih0 qs' (by simpa using hn)
  clear ih0
  revert ih
  generalize qs'=qs
  intro ih h
  have h1:=(List.pairwise_append.1 h)
  obtain ⟨a,b⟩:=ih h1.1
  by_cases hp:p<q
  ·have e:YH (qs++[p]) q=YH qs q:=by
    unfold YH;rw [List.reverse_append,List.reverse_singleton,List.singleton_append,List.dropWhile_cons,if_pos (decide_eq_true hp)]
   refine ⟨by rw [e,a,List.countP_append,List.countP_singleton,if_neg (by simp;omega),Nat.add_zero],fun j p' hj=>?_⟩
   rw [e]
   by_cases hj2:j<qs.length
   ·rw [List.getElem?_append_left hj2] at hj;exact b j p' hj
   ·have hle:=insPos_le qs q
    rw [List.getElem?_append_right (by omega)] at hj
    have:j-qs.length=0:=by
     rcases Nat.eq_zero_or_pos (j-qs.length) with h0 | h0
     ·exact h0
     ·rw [List.getElem?_eq_none (by simp;omega)] at hj;cases hj
    rw [this] at hj
    simp at hj
    subst hj
    exact ⟨fun hlt=>by omega,fun hlt=>by omega⟩
  ·have e:YH (qs++[p]) q=qs.length+1:=by
    unfold YH;rw [List.reverse_append,List.reverse_singleton,List.singleton_append,List.dropWhile_cons,if_neg (by simp;omega)];simp
   have hall:∀ x∈qs,q≤x:=fun x hx=>by have:=h1.2.2 x hx p (by simp);omega
   refine ⟨by rw [e,List.countP_append,List.countP_singleton,if_pos (by simp;omega),List.countP_eq_length.2 (fun x hx=>decide_eq_true (hall x hx))],fun j p' hj=>?_⟩
   rw [e]
   have hjl:j<(qs++[p]).length:=by
    rcases Nat.lt_or_ge j (qs++[p]).length with h0 | h0
    ·exact h0
    ·rw [List.getElem?_eq_none h0] at hj;cases hj
   have hm:p'∈qs++[p]:=List.mem_of_getElem? hj
   refine ⟨fun _=>?_,fun _=>by simpa using hjl⟩
   rcases List.mem_append.1 hm with hm | hm
   ·exact hall p' hm
   ·obtain rfl:=List.mem_singleton.1 hm;omega
theorem ins_at {α:Type} {xs:List α} {x:α} {a:Nat} (ha:a≤xs.length) (j:Nat):(xs.take a++[x]++xs.drop a)[j]?=if j<a then xs[j]? else if j=a then some x else xs[j-1]?:=by
 have hl:(xs.take a).length=a:=by rw [List.length_take];omega
 by_cases h1:j<a
 ·rw [if_pos h1,List.append_assoc,List.getElem?_append_left (by omega),List.getElem?_take,if_pos h1]
 ·rw [if_neg h1,List.append_assoc,List.getElem?_append_right (by omega),hl]
  by_cases h2:j=a
  ·subst h2;simp
  ·rw [if_neg h2,List.getElem?_append_right (by simp;omega),List.getElem?_drop]
   congr 1
   simp only [List.length_singleton];omega
theorem ranked_zero:Ranked kind l present vs 0 ([],[]):=⟨rfl,List.Pairwise.nil,fun t h=>rfl,rfl,fun i h=>absurd h (Nat.not_lt_zero _)⟩
theorem ranked_step {n:Nat} {s:List Str×List Int} (h:Ranked kind l present vs n s):Ranked kind l present vs (n+1) (Vo kind l present s (vs.getD n [])):=by
 unfold Vo
 by_cases hq:zL kind l present (vs.getD n [])≤0
 ·rw [if_pos hq]
  have hq':qAtV kind l present vs n≤0:=hq
  refine ⟨h.len,h.sorted,fun t ht=>?_,?_,fun i hi hp=>?_⟩
  ·rw [List.range_succ,List.countP_append,List.countP_singleton,if_neg (by simp;omega)];exact h.count t ht
  ·rw [List.range_succ,List.countP_append,List.countP_singleton,if_neg (by simp;omega)];exact h.all
  ·have hi2:i<n:=by
    rcases Nat.lt_or_ge i n with h0 | h0
    ·exact h0
    ·obtain rfl:i=n:=by omega
     omega
   rw [cnt_step,if_neg (by unfold betB;simp;omega),Nat.add_zero]
   exact h.place i hi2 hp
 ·rw [if_neg hq]
  obtain ⟨q,hqe⟩:∃ q,q=zL kind l present (vs.getD n []):=⟨_,rfl⟩
  have hqn:qAtV kind l present vs n=q:=hqe.symm
  rw [← hqe] at hq ⊢
  obtain ⟨a1,a2⟩:=insPos_sorted (q:=q) h.sorted
  have hle:=insPos_le s.2 q
  have hle1:YH s.2 q≤s.1.length:=by rw [← h.len];exact hle
  generalize YH s.2 q=a at a1 a2 hle hle1 ⊢
  have hcnt:∀ p:Int→Bool,(s.2.take a++[q]++s.2.drop a).countP p=s.2.countP p+if p q=true then 1 else 0:=fun p=>by
   have:s.2.countP p=(s.2.take a).countP p+(s.2.drop a).countP p:=by rw [← List.countP_append,List.take_append_drop]
   rw [List.countP_append,List.countP_append,List.countP_singleton,this];omega
  refine ⟨?_,?_,fun t ht=>?_,?_,fun i hi hp=>?_⟩
  ·have:=h.len
   simp only [List.length_append,List.length_take,List.length_drop,List.length_singleton];omega
  ·show List.Pairwise (fun a b=>b≤a) (s.2.take a++[q]++s.2.drop a)
   rw [List.append_assoc,List.pairwise_append]
   have h1:∀ x∈s.2.take a,q≤x:=fun x hx=>by
    obtain ⟨j,hj,rfl⟩:=List.getElem_of_mem hx
    rw [List.length_take] at hj
    rw [List.getElem_take]
    exact (a2 j _ (List.getElem?_eq_getElem (by omega))).1 (by omega)
   have h2:∀ x∈s.2.drop a,x<q:=fun x hx=>by
    obtain ⟨j,hj,rfl⟩:=List.getElem_of_mem hx
    rw [List.length_drop] at hj
    rw [List.getElem_drop]
    have:=a2 (a+j) _ (List.getElem?_eq_getElem (by omega))
    rcases Int.lt_or_le (s.2[a+j]) q with h0 | h0
    ·exact h0
    ·have:=this.2 h0;omega
   refine ⟨h.sorted.sublist (List.take_sublist _ _),?_,fun x hx y hy=>?_⟩
   ·rw [List.singleton_append,List.pairwise_cons]
    exact ⟨fun y hy=>by have:=h2 y hy;omega,h.sorted.sublist (List.drop_sublist _ _)⟩
   ·have hx1:=h1 x hx
    rcases List.mem_append.1 hy with hy | hy
    ·obtain rfl:=List.mem_singleton.1 hy;exact hx1
    ·have:=h2 y hy;omega
  ·rw [hcnt,h.count t ht,List.range_succ,List.countP_append,List.countP_singleton,hqn]
  ·have:=h.all
   rw [List.range_succ,List.countP_append,List.countP_singleton,hqn,if_pos (decide_eq_true (by omega)),← h.all]
   simp only [List.length_append,List.length_take,List.length_drop,List.length_singleton];omega
  ·rw [cnt_step]
   rcases Nat.lt_or_ge i n with hi2 | hi2
   ·obtain ⟨p1,p2⟩:=h.place i hi2 hp
    have p3:=a2 _ _ p2
    by_cases hb:qAtV kind l present vs i<q
    ·rw [if_pos (by unfold betB;rw [hqn,decide_eq_true hb];rfl),ins_at hle1,ins_at hle]
     have h3:¬ cntI kind l present vs i n<a:=fun h0=>by have:=p3.1 h0;omega
     rw [if_neg (by omega),if_neg (by omega),if_neg (by omega),if_neg (by omega),Nat.add_sub_cancel]
     exact ⟨p1,p2⟩
    ·rw [if_neg (by unfold betB;rw [hqn];simp;omega),Nat.add_zero,ins_at hle1,ins_at hle]
     have h3:cntI kind l present vs i n<a:=p3.2 (by omega)
     rw [if_pos h3,if_pos h3]
     exact ⟨p1,p2⟩
   ·obtain rfl:i=n:=by omega
    have e:cntI kind l present vs i i=a:=by
     rw [a1,h.count q (by omega)]
     unfold cntI
     apply List.countP_congr
     intro j hj
     have hj:=List.mem_range.1 hj
     unfold betB
     rw [hqn]
     simp only [Bool.or_eq_true,Bool.and_eq_true,decide_eq_true_eq]
     omega
    rw [if_neg (by unfold betB;simp),Nat.add_zero,e,ins_at hle1,ins_at hle,if_neg (by omega),if_pos rfl,if_neg (by omega),if_pos rfl,hqn]
    exact ⟨rfl,rfl⟩
theorem ranked_all:∀ n,n≤vs.length→Ranked kind l present vs n (ZY kind l present (vs.take n))
 | 0,_=>by rw [List.take_zero];exact ranked_zero
 | n+1,h=>by rw [rank_step (by omega)];exact ranked_step (ranked_all n (by omega))
end
end Go.Plain
namespace Go.Sep
open Go
end Go.Sep
namespace Go.Plain
open Go
set_option linter.unusedSimpArgs false
set_option linter.unusedVariables false
section
variable {kind:Int} {v:Str}
end
end Go.Plain
namespace Go.Plain
open Go Go.Sep
set_option linter.unusedSimpArgs false
set_option linter.unusedVariables false
def haveF (a:Axs) (l:List Fld):Str:=Yt [44,32] (allF l a.1)
def Qs (a:Axs) (l:List Fld):List Str :=
 if ¬ ze a.1=0 then (ZY (ze a.1) (Zk (ze a.1) l).1 (Zk (ze a.1) l).2 a.2).1
 else if (a.2.any fun x=>decide (x=haveF a l))=true then [haveF a l] else []
def Y8 (a:Axs) (l:List Fld) (strict:Bool):List Str :=
 if YM a=false then [] else if (Qs a l).length=0∧strict=false then [a.2.getD 0 []] else Qs a l
def Zr:List (List Str)→List (List Str)
 | []=>[[]]
 | r::R=>r.flatMap fun x=>(Zr R).map (x::·)
def qZ (axes:List Axs) (l:List Fld) (strict:Bool):List (List Str):=axes.map fun a=>Y8 a l strict
def Zz (axes:List Axs) (l:List Fld) (strict:Bool) (most:Nat):List (List Str):=if YQ axes=false then [] else (Zr (qZ axes l strict)).take most
/-! ### Counting through a product -/
def wR:List (List Str)→List Int→List (List Str)
 | r::R,d::ds=>(wR R ds).map (r.getD d.toNat []::·)++(r.drop (d.toNat+1)).flatMap (fun y=>(Zr R).map (y::·))
 | _,_=>[[]]
def keyD:List (List Str)→List Int→List Str
 | r::R,d::ds=>r.getD d.toNat []::keyD R ds
 | _,_=>[]
theorem rest_zero:∀ (R:List (List Str)),(∀ r∈R,r≠[])→wR R (List.replicate R.length 0)=Zr R
 | [],_=>rfl
 | r::R,h=>by
  obtain ⟨x,r',rfl⟩:∃ x r',r=x::r':=by
   cases r with
   | nil=>exact absurd rfl (h [] (by simp))
   | cons x r'=>exact ⟨x,r',rfl⟩
  rw [List.length_cons,List.replicate_succ,wR,rest_zero R (fun r hr=>h r (by simp [hr])),Zr,List.flatMap_cons]
  rfl
def MaxD (R:List (List Str)) (ds:List Int):Prop:=R.length=ds.length∧∀ i,i<R.length→ds.getD i 0+1=((R.getD i []).length:Int)
theorem MaxD.tail {r:List Str} {R:List (List Str)} {d:Int} {ds:List Int} (h:MaxD (r::R) (d::ds)):d+1=(r.length:Int)∧MaxD R ds :=
 ⟨h.2 0 (by simp),by simpa using h.1,fun i hi=>by have:=h.2 (i+1) (by simpa using hi);simpa using this⟩
theorem rest_max:∀ (R:List (List Str)) (ds:List Int),MaxD R ds→wR R ds=[keyD R ds]
 | [],ds,h=>by
  obtain rfl:ds=[]:=List.length_eq_zero_iff.1 (by simpa using h.1.symm)
  rfl
 | r::R,[],h=>by simp [MaxD] at h
 | r::R,d::ds,h=>by
  obtain ⟨h1,h2⟩:=h.tail
  rw [wR,rest_max R ds h2,keyD,List.drop_eq_nil_of_le (by omega)];rfl
theorem rest_next:∀ (R1:List (List Str)) (d1:List Int) (r:List Str) (R2:List (List Str)) (x:Int) (m:List Int),R1.length=d1.length→(∀ q∈R2,q≠[])→MaxD R2 m→0≤x→x+1<(r.length:Int) →
  wR (R1++r::R2) (d1++x::m)=keyD (R1++r::R2) (d1++x::m)::wR (R1++r::R2) (d1++(x+1)::List.replicate m.length 0)
 | [],[],r,R2,x,m,_,hne,hm,h0,hx=>by
  have e1:(x+1).toNat=x.toNat+1:=by omega
  have hl:x.toNat+1<r.length:=by omega
  rw [List.nil_append,List.nil_append,List.nil_append,wR,wR,keyD,rest_max R2 m hm,← hm.1,rest_zero R2 hne,e1,Yw (dd:=[]) hl,List.flatMap_cons]
  rfl
 | r0::R1,d::d1,r,R2,x,m,hl,hne,hm,h0,hx=>by
  have ih:=rest_next R1 d1 r R2 x m (by simpa using hl) hne hm h0 hx
  rw [List.cons_append,List.cons_append,List.cons_append,wR,wR,keyD,ih]
  rfl
 | [],_::_,_,_,_,_,h,_,_,_,_=>by simp at h
 | _::_,[],_,_,_,_,h,_,_,_,_=>by simp at h
/-- Digits that lie within. -/
def Dig (R:List (List Str)) (ds:List Int):Prop:=ds.length=R.length∧∀ i,i<R.length→0≤ds.getD i 0∧ds.getD i 0<((R.getD i []).length:Int)
theorem dig_zero {R:List (List Str)} (h:∀ r∈R,r≠[]):Dig R (List.replicate R.length 0):=by
 refine ⟨by simp,fun i hi=>?_⟩
 have h1:(List.replicate R.length (0:Int)).getD i 0=0:=by rw [zw (by simpa using hi),List.getElem_replicate]
 have h2:0<(R.getD i []).length:=List.length_pos_iff.2 (h _ (yD hi))
 rw [h1];omega
theorem keyD_length:∀ (R:List (List Str)) (ds:List Int),ds.length=R.length→(keyD R ds).length=R.length
 | [],[],_=>rfl
 | r::R,d::ds,h=>by rw [keyD,List.length_cons,List.length_cons,keyD_length R ds (by simpa using h)]
 | [],_::_,h=>by simp at h
 | _::_,[],h=>by simp at h
theorem keyD_take:∀ (R:List (List Str)) (ds:List Int) (i:Nat),ds.length=R.length→i<R.length→(keyD R ds).take (i+1)=(keyD R ds).take i++[(R.getD i []).getD (ds.getD i 0).toNat []]
 | r::R,d::ds,0,_,_=>rfl
 | r::R,d::ds,i+1,h,hi=>by
  rw [keyD,List.take_succ_cons,keyD_take R ds i (by simpa using h) (by simpa using hi)];rfl
 | [],_,_,_,hi=>by simp at hi
 | _::_,[],_,h,_=>by simp at h
/-- The counter goes back over the digits that stand at their end. -/
def Carry (R:List (List Str)) (ds:List Int) (j:Nat) (xs:List Int):Prop:=j≤R.length∧xs=ds.take j++List.replicate (R.length-j) 0∧∀ i,j≤i→i<R.length→ds.getD i 0+1=((R.getD i []).length:Int)
theorem carry_start {R:List (List Str)} {ds:List Int} (h:Dig R ds):Carry R ds R.length ds :=
 ⟨Nat.le_refl _,by rw [Nat.sub_self,← h.1,List.take_length];simp,fun i h1 h2=>by omega⟩
theorem Carry.length {R:List (List Str)} {ds xs:List Int} {j:Nat} (hd:Dig R ds) (h:Carry R ds j xs):xs.length=R.length:=by
 have:=h.1;have:=hd.1
 rw [h.2.1,List.length_append,List.length_take,List.length_replicate];omega
theorem Carry.at {R:List (List Str)} {ds xs:List Int} {j i:Nat} (hd:Dig R ds) (h:Carry R ds j xs) (hi:i<j):xs.getD i 0=ds.getD i 0:=by
 have:=h.1;have:=hd.1
 rw [h.2.1,List.getD_eq_getElem?_getD,List.getD_eq_getElem?_getD,List.getElem?_append_left (by rw [List.length_take];omega),List.getElem?_take_of_lt hi]
theorem carry_step {R:List (List Str)} {ds xs:List Int} {j:Nat} (hd:Dig R ds) (h:Carry R ds (j+1) xs) (hx:xs.getD j 0+1=((R.getD j []).length:Int)):Carry R ds j (xs.set j 0):=by
 have h1:=h.1;have h2:=hd.1
 rw [h.at hd (Nat.lt_succ_self j)] at hx
 refine ⟨by omega,?_,fun i a b=>?_⟩
 ·rw [h.2.1]
  apply List.ext_getElem?
  intro i
  rw [List.getElem?_set]
  by_cases e:j=i
  ·subst e
   rw [if_pos rfl,if_pos (by rw [List.length_append,List.length_take,List.length_replicate];omega),List.getElem?_append_right (by rw [List.length_take];omega),List.getElem?_replicate,if_pos (by rw [List.length_take];omega)]
  ·rw [if_neg e]
   rcases Nat.lt_or_ge i j with q | q
   ·rw [List.getElem?_append_left (by rw [List.length_take];omega),List.getElem?_append_left (by rw [List.length_take];omega),List.getElem?_take_of_lt (by omega),List.getElem?_take_of_lt q]
   ·rw [List.getElem?_append_right (by rw [List.length_take];omega),List.getElem?_append_right (by rw [List.length_take];omega),List.getElem?_replicate,List.getElem?_replicate,List.length_take,List.length_take]
    by_cases q2:i<R.length
    ·rw [if_pos (by omega),if_pos (by omega)]
    ·rw [if_neg (by omega),if_neg (by omega)]
 ·rcases Nat.lt_or_ge j i with q | q
  ·exact h.2.2 i q b
  ·obtain rfl:j=i:=by omega
   exact hx
theorem carry_end {R:List (List Str)} {ds xs:List Int} (hd:Dig R ds) (h:Carry R ds 0 xs):wR R ds=[keyD R ds] :=
 rest_max R ds ⟨hd.1.symm,fun i hi=>h.2.2 i (Nat.zero_le _) hi⟩
theorem split_at {α:Type} {l:List α} {j:Nat} {dd:α} (h:j<l.length):l=l.take j++l.getD j dd::l.drop (j+1):=by
 rw [← Yw (dd:=dd) h,List.take_append_drop]
theorem carry_next {R:List (List Str)} {ds xs:List Int} {j:Nat} (hd:Dig R ds) (hne:∀ r∈R,r≠[]) (h:Carry R ds (j+1) xs) (hx:¬ xs.getD j 0+1=((R.getD j []).length:Int)) :
  wR R ds=keyD R ds::wR R (xs.set j (xs.getD j 0+1))∧Dig R (xs.set j (xs.getD j 0+1)):=by
 have h1:=h.1;have h2:=hd.1
 have hat:=h.at hd (Nat.lt_succ_self j)
 rw [hat] at hx ⊢
 have hj:=hd.2 j (by omega)
 have hset:xs.set j (ds.getD j 0+1)=ds.take j++(ds.getD j 0+1)::List.replicate (ds.drop (j+1)).length 0:=by
  rw [h.2.1]
  have e1:ds.take (j+1)=ds.take j++[ds.getD j 0]:=by rw [List.take_succ_eq_append_getElem (by omega),zw (by omega)]
  rw [e1,List.append_assoc,List.set_append,if_neg (by rw [List.length_take];omega)]
  congr 1
  rw [show j-(ds.take j).length=0 by rw [List.length_take];omega,List.singleton_append,List.set_cons_zero,List.length_drop,h2]
 constructor
 ·rw [hset]
  have hn:=rest_next (R.take j) (ds.take j) (R.getD j []) (R.drop (j+1)) (ds.getD j 0) (ds.drop (j+1)) (by rw [List.length_take,List.length_take,h2]) (fun q hq=>hne q (List.mem_of_mem_drop hq))
   ⟨by rw [List.length_drop,List.length_drop,h2],fun i hi=>by
    rw [List.length_drop] at hi
    have:=h.2.2 (j+1+i) (by omega) (by omega)
    rw [List.getD_eq_getElem?_getD,List.getD_eq_getElem?_getD,List.getElem?_drop,List.getElem?_drop,← List.getD_eq_getElem?_getD,← List.getD_eq_getElem?_getD];exact this⟩ hj.1 (by omega)
  rw [← split_at (dd:=[]) (by omega),← split_at (dd:=0) (by omega)] at hn
  exact hn
 ·refine ⟨by rw [List.length_set,h.length hd],fun i hi=>?_⟩
  rw [List.getD_eq_getElem?_getD,List.getElem?_set]
  by_cases e:j=i
  ·subst e;rw [if_pos rfl,if_pos (by rw [h.length hd];omega)];simp only [Option.getD_some];omega
  ·rw [if_neg e,← List.getD_eq_getElem?_getD]
   rcases Nat.lt_or_ge i j with q | q
   ·rw [h.at hd (by omega)];exact hd.2 i hi
   ·have:xs.getD i 0=0:=by
     rw [h.2.1,List.getD_eq_getElem?_getD,List.getElem?_append_right (by rw [List.length_take];omega),List.getElem?_replicate,if_pos (by rw [List.length_take];omega)];rfl
    rw [this]
    have:=List.length_pos_iff.2 (hne _ (yD (dd:=[]) hi));omega
theorem prod_nil:∀ {R:List (List Str)},[]∈R→Zr R=[]
 | r::R,h=>by
  rw [Zr]
  rcases List.mem_cons.1 h with h | h
  ·rw [← h];rfl
  ·rw [prod_nil h];simp
 | [],h=>by cases h
theorem prod_snoc (r:List Str):∀ (R:List (List Str)),Zr (R++[r])=(Zr R).flatMap fun o=>r.map fun x=>o++[x]
 | []=>by
  have:∀ r:List Str,r.flatMap (fun x=>[[x]])=r.map (fun x=>[x]):=fun r=>by
   induction r with
   | nil=>rfl
   | cons x r ih=>rw [List.flatMap_cons,ih];rfl
  simpa [Zr] using this r
 | q::R=>by
  rw [List.cons_append,Zr,prod_snoc r R,Zr,List.flatMap_assoc]
  congr 1;funext x
  rw [List.flatMap_map,List.map_flatMap]
  congr 1;funext o
  rw [List.map_map];rfl
theorem prod_mem_len:∀ (R:List (List Str)),∀ k∈Zr R,k.length=R.length
 | [],k,h=>by simp [Zr] at h;subst h;rfl
 | r::R,k,h=>by
  rw [Zr,List.mem_flatMap] at h
  obtain ⟨x,hx,h⟩:=h
  obtain ⟨o,ho,rfl⟩:=List.mem_map.1 h
  simp [prod_mem_len R o ho]
theorem prod_length:∀ (R:List (List Str)),(Zr R).length=R.foldr (fun r n=>r.length*n) 1
 | []=>rfl
 | r::R=>by
  rw [Zr,List.length_flatMap,List.foldr_cons,← prod_length R]
  simp [List.map_const']
theorem prod_le {n:Nat}:∀ (R:List (List Str)),(∀ r∈R,r.length≤n)→(Zr R).length≤n ^ R.length
 | [],_=>by simp [Zr]
 | r::R,h=>by
  rw [prod_length,List.foldr_cons,← prod_length,List.length_cons,Nat.pow_succ,Nat.mul_comm]
  exact Nat.mul_le_mul (prod_le R (fun r hr=>h r (by simp [hr]))) (h r (by simp))
/-! ### Keys -/
section
variable {axes:List Axs} {l:List Fld} {strict:Bool} {most:Nat}
theorem keys_range (h:YQ axes=false):Zz axes l strict most=[]:=if_pos h
theorem keys_none {i:Nat} (h:YQ axes=true) (hi:i<axes.length) (h1:(Y8 (axes.getD i ([],[])) l strict).length=0):Zz axes l strict most=[]:=by
 unfold Zz
 rw [if_neg (by rw [h];simp),prod_nil]
 ·simp
 ·rw [← List.length_eq_zero_iff.1 h1]
  exact List.mem_map.2 ⟨_,yD hi,rfl⟩
theorem keys_full {out:List (List Str)} (h:YQ axes=true) (h1:out.length=most) {X:List (List Str)} (e:out++X=Zr (qZ axes l strict)):Zz axes l strict most=out:=by
 unfold Zz
 rw [if_neg (by rw [h];simp),← e,← h1,List.take_left]
theorem keys_all {out:List (List Str)} {k:List Str} (h:YQ axes=true) (h1:out.length<most) (e:out++[k]=Zr (qZ axes l strict)):Zz axes l strict most=out++[k]:=by
 unfold Zz
 rw [if_neg (by rw [h];simp),← e,List.take_of_length_le (by simp;omega)]
end
/-! ### Ranked -/
theorem valid_one {a:Axs}:YQ [a]=YM a:=by
 rw [wK (by simp)]
 show ws YM (fun x b=>decide (x.1=b.1)) ([],[]) [a] 1=_
 rw [dist_step,dist_zero];simp
section
variable {a:Axs} {l:List Fld} {strict:Bool}
theorem ranked_no (h:YM a=false):Y8 a l strict=[]:=if_pos h
theorem W6 (h:YM a=true) (h1:(Qs a l).length=0) (h2:strict=false):Y8 a l strict=[a.2.getD 0 []]:=by
 unfold Y8;rw [if_neg (by rw [h];simp),if_pos ⟨h1,h2⟩]
theorem Qr (h:YM a=true) (h1:¬ (Qs a l).length=0∨strict=true):Y8 a l strict=Qs a l:=by
 unfold Y8;rw [if_neg (by rw [h];simp),if_neg]
 rintro ⟨e1,e2⟩
 rcases h1 with h1 | h1
 ·exact h1 e1
 ·rw [e2] at h1;cases h1
theorem Wq (h:¬ ze a.1=0):Qs a l=(ZY (ze a.1) (Zk (ze a.1) l).1 (Zk (ze a.1) l).2 a.2).1:=if_pos h
theorem rankO_have (h:ze a.1=0) (h1:(a.2.any fun x=>decide (x=haveF a l))=true):Qs a l=[haveF a l]:=by unfold Qs;rw [if_neg (by simp [h]),if_pos h1]
theorem rankO_none (h:ze a.1=0) (h1:(a.2.any fun x=>decide (x=haveF a l))=false):Qs a l=[]:=by unfold Qs;rw [if_neg (by simp [h]),if_neg (by rw [h1];simp)]
end
/-! ### Steps -/
theorem set_getD {α:Type} {xs:List α} {i:Nat} {v dd:α} (h:i<xs.length):(xs.set i v).getD i dd=v:=by
 rw [List.getD_eq_getElem?_getD,List.getElem?_set,if_pos rfl,if_pos h];rfl
theorem values_once {a:Axs} (h:YM a=true) {i:Nat} (hi:i<a.2.length):(a.2.take i).any (fun x=>decide (x=a.2.getD i []))=false:=by
 have h1:=axis_uniq h hi (same_self a.1 _)
 rw [List.any_eq_false] at h1 ⊢
 intro x hx e
 have:=of_decide_eq_true e
 exact h1 x hx (by rw [this];exact same_self _ _)
def haveU (a:Axs) (l:List Fld) (i:Nat):List Str:=if ((a.2.take i).any fun x=>decide (x=haveF a l))=true then [haveF a l] else []
section
variable {a:Axs} {l:List Fld} {i:Nat}
theorem haveU_hit (h:YM a=true) (hi:i<a.2.length) (h1:a.2.getD i []=haveF a l):haveU a l i++[haveF a l]=haveU a l (i+1):=by
 have h2:=values_once h hi
 rw [h1] at h2
 unfold haveU
 rw [any_next (dd:=[]) hi,h2,if_neg (by simp),if_pos (by rw [h1];simp)];rfl
theorem haveU_miss (hi:i<a.2.length) (h1:¬ a.2.getD i []=haveF a l):haveU a l i=haveU a l (i+1):=by
 unfold haveU
 rw [any_next (dd:=[]) hi,decide_eq_false h1,Bool.or_false]
theorem haveU_end (hk:ze a.1=0) (hi:a.2.length≤i):haveU a l i=Qs a l:=by
 unfold haveU Qs
 rw [if_neg (show ¬ ¬ ze a.1=0 from fun e=>e hk),List.take_of_length_le hi]
theorem haveU_len:(haveU a l i).length≤1:=by unfold haveU;split <;> simp
end
theorem rest_start {xs:List (List Str)} {n:Nat} (h:xs.length=n) (hne:∀ r∈xs,r≠[]):[]++wR xs (List.replicate n 0)=Zr xs∧Dig xs (List.replicate n 0):=by
 subst h
 exact ⟨rest_zero xs hne,dig_zero hne⟩
theorem key_all {R:List (List Str)} {ds:List Int} {ks:List Str} {i:Nat} (hd:Dig R ds) (h1:ks.length=R.length) (h2:R.length≤i) (h:ks.take i=(keyD R ds).take i):ks=keyD R ds:=by
 rw [List.take_of_length_le (by omega),List.take_of_length_le (by rw [keyD_length R ds hd.1];omega)] at h
 exact h
theorem rest_go {R:List (List Str)} {out:List (List Str)} {ds ds':List Int} (e:out++wR R ds=Zr R) (h:wR R ds=keyD R ds::wR R ds'):(out++[keyD R ds])++wR R ds'=Zr R:=by
 rw [← e,h];simp
theorem prodL_one {out:List (List Str)} {r:List Str} {k:Nat} (h:k<out.length):(out.take (k+1)).flatMap (fun o=>r.map fun x=>o++[x])=(out.take k).flatMap (fun o=>r.map fun x=>o++[x])++r.map fun x=>out.getD k []++[x]:=by
 rw [List.take_succ_eq_append_getElem h,List.flatMap_append,zw h];simp
theorem mapR_step {r o:List Str} {j:Nat} (h:j<r.length):(r.take (j+1)).map (fun x=>o++[x])=(r.take j).map (fun x=>o++[x])++[o++[r.getD j []]]:=by
 rw [List.take_succ_eq_append_getElem h,List.map_append,zw h];rfl
theorem flat_all (r:List Str):∀ L:List (List Str),(L.flatMap fun o=>r.map fun x=>o++[x]).length=L.length*r.length
 | []=>by simp
 | o::L=>by rw [List.flatMap_cons,List.length_append,flat_all r L,List.length_map,List.length_cons,Nat.succ_mul,Nat.add_comm]
theorem flat_len {out:List (List Str)} {r:List Str} (k:Nat):((out.take k).flatMap (fun o=>r.map fun x=>o++[x])).length≤out.length*r.length:=by
 rw [flat_all,List.length_take]
 exact Nat.mul_le_mul (Nat.min_le_right _ _) (Nat.le_refl _)
end Go.Plain
namespace Go.Plain
open Go Go.Sep
set_option linter.unusedSimpArgs false
set_option linter.unusedVariables false
/-! ### Rank,as a rearrangement -/
section
variable {kind:Int} {l:List Prf} {present:Bool}
theorem rankS_perm (s:List Str×List Int) (v:Str):(Vo kind l present s v).1.Perm (s.1++if posB kind l present v=true then [v] else []):=by
 unfold Vo posB
 by_cases h:zL kind l present v≤0
 ·rw [if_pos h,if_neg (by rw [decide_eq_true_eq];omega),List.append_nil]
 ·rw [if_neg h,if_pos (by rw [decide_eq_true_eq];omega)]
  simp only
  have:(s.1.take (YH s.2 (zL kind l present v))++[v]++s.1.drop (YH s.2 (zL kind l present v))).Perm (s.1.take (YH s.2 (zL kind l present v))++(s.1.drop (YH s.2 (zL kind l present v))++[v])):=by
   rw [List.append_assoc];exact List.Perm.append_left _ List.perm_append_comm
  rwa [← List.append_assoc,List.take_append_drop] at this
theorem Qt (vs:List Str):(ZY kind l present vs).1.Perm (vs.filter (posB kind l present)):=by
 have key:∀ (vs:List Str) (s:List Str×List Int),(vs.foldl (Vo kind l present) s).1.Perm (s.1++vs.filter (posB kind l present)):=by
  intro vs
  induction vs with
  | nil=>intro s;simp
  | cons v vs ih =>
   intro s
   rw [List.foldl_cons]
   refine (ih _).trans ?_
   refine ((rankS_perm s v).append_right _).trans ?_
   rw [List.append_assoc,List.filter_cons]
   split
   ·exact List.Perm.refl _
   ·exact List.Perm.refl _
 exact key vs ([],[])
theorem rankG_map (vs:List Str):(ZY kind l present vs).2=(ZY kind l present vs).1.map (zL kind l present):=by
 have key:∀ (vs:List Str) (s:List Str×List Int),s.2=s.1.map (zL kind l present)→(vs.foldl (Vo kind l present) s).2=(vs.foldl (Vo kind l present) s).1.map (zL kind l present):=by
  intro vs
  induction vs with
  | nil=>intro s h;exact h
  | cons v vs ih =>
   intro s h
   rw [List.foldl_cons]
   refine ih _ ?_
   unfold Vo
   split
   ·exact h
   ·simp only [List.map_append,List.map_cons,List.map_nil,List.map_take,List.map_drop,← h]
 exact key vs ([],[]) rfl
end
/-! ### Values of a valid axis -/
section
variable {a:Axs} {l m:List Fld} {strict:Bool}
theorem values_len (h:YM a=true):0<a.2.length∧a.2.length≤16:=by
 unfold YM wW at h
 simp only [Bool.and_eq_true,decide_eq_true_eq] at h
 exact h.2.1
theorem values_dist (h:YM a=true) {i j:Nat} (hj:j<a.2.length) (hi:i<j):qf a.1 (a.2.getD i []) (a.2.getD j [])=false:=by
 cases hs:qf a.1 (a.2.getD i []) (a.2.getD j []) with
 | false=>rfl
 | true =>
  have h1:=axis_uniq h hj (same_self a.1 _)
  rw [any_of (p:=fun x=>qf a.1 x (a.2.getD j [])) (dd:=[]) (by omega) hi hs] at h1
  cases h1
theorem values_nodup (h:YM a=true):a.2.Nodup:=by
 rw [List.Nodup,List.pairwise_iff_getElem]
 intro i j hi hj hij e
 have:=values_dist h hj hij
 rw [zw hi,zw hj,e,same_self] at this
 cases this
theorem rankO_sub:∀ x∈Qs a l,x∈a.2:=fun x hx=>by
 unfold Qs at hx
 split at hx
 ·have:=(Qt a.2).mem_iff.1 hx
  exact (List.mem_filter.1 this).1
 ·split at hx
  ·rename_i h
   obtain rfl:=List.mem_singleton.1 hx
   obtain ⟨y,hy,e⟩:=List.any_eq_true.1 h
   rw [← of_decide_eq_true e];exact hy
  ·cases hx
theorem rankA_sub:∀ x∈Y8 a l strict,x∈a.2:=fun x hx=>by
 unfold Y8 at hx
 split at hx
 ·cases hx
 ·rename_i h
  split at hx
  ·obtain rfl:=List.mem_singleton.1 hx
   exact yD (values_len (by simpa using h)).1
  ·exact rankO_sub x hx
theorem rankA_nodup:(Y8 a l strict).Nodup:=by
 unfold Y8
 split
 ·simp
 ·rename_i h
  split
  ·simp
  ·unfold Qs
   split
   ·exact (Qt a.2).nodup_iff.2 ((values_nodup (by simpa using h)).filter _)
   ·split <;> simp
theorem rankA_length:(Y8 a l strict).length≤16:=by
 by_cases h:YM a=true
 ·have h1:=values_len h
  have:(Y8 a l strict).length≤a.2.length:=rankA_nodup.length_le_of_subset (fun x hx=>rankA_sub x hx)
  omega
 ·rw [ranked_no (by simpa using h)];simp
/-! ### What the ranked values depend on -/
def targetF (a:Axs):Str:=if ze a.1=0 then a.1 else zf (ze a.1)
end
/-! ### The product -/
theorem rankL_step {axes:List Axs} {l:List Fld} {strict:Bool} {i:Nat} (h:i<axes.length):qZ (axes.take (i+1)) l strict=qZ (axes.take i) l strict++[Y8 (axes.getD i ([],[])) l strict]:=by
 unfold qZ
 rw [List.take_succ_eq_append_getElem h,List.map_append,zw h];rfl
theorem product_le {axes:List Axs} {l:List Fld} {strict:Bool} (h:axes.length≤4):(Zr (qZ axes l strict)).length≤65536:=by
 have h1:=prod_le (n:=16) (qZ axes l strict) (fun r hr=>by obtain ⟨a,_,rfl⟩:=List.mem_map.1 hr;exact rankA_length)
 have h2:(qZ axes l strict).length≤4:=by simpa [qZ] using h
 exact Nat.le_trans h1 (Nat.le_trans (Nat.pow_le_pow_right (by omega) h2) (by decide))
theorem keys_length {axes:List Axs} {l:List Fld} {strict:Bool} {most:Nat} (hv:YQ axes=true):(Zz axes l strict most).length=min (Zr (qZ axes l strict)).length most:=by
 unfold Zz
 rw [if_neg (by rw [hv];simp),List.length_take,Nat.min_comm]
/-! ### The best key -/
theorem prod_head:∀ (R:List (List Str)),(∀ r∈R,r≠[])→∃ X,Zr R=(R.map fun r=>r.getD 0 [])::X
 | [],_=>⟨[],rfl⟩
 | r::R,h=>by
  obtain ⟨X,e⟩:=prod_head R (fun q hq=>h q (by simp [hq]))
  cases r with
  | nil=>exact absurd rfl (h [] (by simp))
  | cons x r =>
   refine ⟨X.map (x::·)++r.flatMap (fun y=>(Zr R).map (y::·)),?_⟩
   rw [Zr,List.flatMap_cons,e];rfl
theorem prod_some {R:List (List Str)}:0<(Zr R).length↔∀ r∈R,r≠[]:=by
 constructor
 ·intro h r hr e
  rw [prod_nil (by rw [← e];exact hr)] at h;simp at h
 ·intro h
  obtain ⟨X,e⟩:=prod_head R h
  rw [e];simp
def Wd (axes:List Axs) (l:List Fld) (strict:Bool):List Str:=(Zz axes l strict 1).getD 0 []
def We (axes:List Axs) (l:List Fld) (strict:Bool):Bool:=decide (0<(Zz axes l strict 1).length)
theorem bestK_no {axes:List Axs} {l:List Fld} {strict:Bool} (h:We axes l strict=false):Wd axes l strict=[]:=by
 unfold We at h
 have:=of_decide_eq_false h
 unfold Wd
 rw [List.length_eq_zero_iff.1 (show (Zz axes l strict 1).length=0 by omega)];rfl
theorem bestK_yes {axes:List Axs} {l:List Fld} {strict:Bool} (hv:YQ axes=true) (h:We axes l strict=true):Wd axes l strict=(qZ axes l strict).map (fun r=>r.getD 0 [])∧∀ r∈qZ axes l strict,r≠[]:=by
 unfold We at h
 have h1:=of_decide_eq_true h
 rw [keys_length hv] at h1
 have h2:=prod_some.1 (show 0<(Zr (qZ axes l strict)).length by omega)
 refine ⟨?_,h2⟩
 obtain ⟨X,e⟩:=prod_head _ h2
 unfold Wd Zz
 rw [if_neg (by rw [hv];simp),e];rfl
theorem best_no {axes:List Axs} {l:List Fld} {strict:Bool} (h:(Zz axes l strict 1).length=0):We axes l strict=false:=by unfold We;rw [h];rfl
theorem best_yes {axes:List Axs} {l:List Fld} {strict:Bool} (h:¬ (Zz axes l strict 1).length=0):We axes l strict=true:=by unfold We;exact decide_eq_true (by omega)
theorem best_most {axes:List Axs} {l:List Fld} {strict:Bool} {n:Nat}:(Zz axes l strict 1).getD 0 []=(Zz axes l strict (n+1)).getD 0 []∧((Zz axes l strict 1).length=0↔(Zz axes l strict (n+1)).length=0):=by
 unfold Zz
 split
 ·exact ⟨rfl,Iff.rfl⟩
 ·cases Zr (qZ axes l strict) with
  | nil=>exact ⟨rfl,Iff.rfl⟩
  | cons x X=>exact ⟨rfl,by simp⟩
end Go.Plain
