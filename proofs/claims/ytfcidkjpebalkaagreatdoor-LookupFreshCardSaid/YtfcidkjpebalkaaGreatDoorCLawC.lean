/-
 Plain functions of the keys of Variant-Key,step by step. No program in sight.
 Plain laws of the keys of Variant-Key: every key that is read has values of the axes;what is written is read again. No program in sight.
 Plain law: a preference of quality 0 for a value itself excludes it. No program in sight.
 Plain law: what Rank returns lies in descending order of quality,those of one quality in their order. No program in sight.
 Plain law: the order of two preferences does not matter where no two match with the same specificity;and opening a row that one holds. No program but the calculus in sight.
 Plain functions and laws of selection: ranked values of an axis,keys as the product of the ranked values. No program in sight.
 Plain laws of selection: products,what does not matter,the best value. No program in sight.
-/
import Derived.Test.YtfcidkjpebalkaaGreatDoorCLawB
import Derived.Test.YtfcidkjpebalkaaGreatDoorCLawA
import Derived.Test.YtfcidkjpebalkaaGreatDoorCSep2
namespace Go.Plain
open Go Go.Sep
set_option linter.unusedSimpArgs false
set_option linter.unusedVariables false
def axAt (axes:List Axs) (i:Nat):Axs:=axes.getD i ([],[])
def atF (axes:List Axs) (key:List Str) (i:Nat):Int:=idxP (fun v=>Qc (axes.getD i ([],[])).1 v (key.getD i [])) (axes.getD i ([],[])).2
def okAt (axes:List Axs) (key:List Str) (i:Nat):Bool:=decide (0≤atF axes key i)
def valAt (axes:List Axs) (key:List Str) (i:Nat):Str:=(axes.getD i ([],[])).2.getD (atF axes key i).toNat []
def resB (axes:List Axs) (key:List Str):Bool:=decide (key.length=axes.length)&&(List.range axes.length).all (okAt axes key)
def resV (axes:List Axs) (key:List Str):List Str:=(List.range axes.length).map (valAt axes key)
def resR (axes:List Axs) (key:List Str):List Str:=if resB axes key=true then resV axes key else []
def addK (out:List (List Str)) (k:List Str):List (List Str):=if (out.any fun x=>decide (x=k))=true then out else out++[k]
def dedK (l:List (List Str)):List (List Str):=l.foldl addK []
def readM (M:List Str):List (List Str):=M.map fun m=>(readF m).1
def parseK (l:List Fld) (axes:List Axs):List (List Str)×Int :=
 if YN axes=false then ([],10)
 else if (allF l WG).length=0 then ([],12)
 else if ((allF l WG).all fun m=>(readF m).2)=false then ([],1)
 else if ((readM (allF l WG)).all (resB axes))=false then ([],11)
 else (dedK ((readM (allF l WG)).map (resV axes)),0)
def keysT (keys:List (List Str)):Str:=Yl [44,32] (keys.map writeF)
def sameAt (axes:List Axs) (a b:List Str) (i:Nat):Bool:=Qc (axes.getD i ([],[])).1 (a.getD i []) (b.getD i [])
def ZQ (axes:List Axs) (a b:List Str):Bool:=(decide (a.length=axes.length)&&decide (b.length=axes.length))&&(List.range axes.length).all (sameAt axes a b)
/-! ### Steps -/
theorem range_all {p:Nat→Bool} {n:Nat} (h:(List.range n).all p=true) (h1:p n=true):(List.range (n+1)).all p=true:=by
 rw [List.range_succ,List.all_append,h];simp [h1]
theorem range_bad {p:Nat→Bool} {n i:Nat} (hi:i<n) (h1:p i=false):(List.range n).all p=false:=by
 rw [List.all_eq_false];exact ⟨i,List.mem_range.2 hi,by simp [h1]⟩
theorem take_set {α:Type} {xs:List α} {i:Nat} {v:α} (h:i<xs.length):(xs.set i v).take (i+1)=xs.take i++[v]:=by
 rw [List.take_succ_eq_append_getElem (by simpa using h),List.take_set_of_le (Nat.le_refl i)];simp
/-! ### parseK -/
section
variable {l:List Fld} {axes:List Axs}
end
/-! ### The reference takes the last place -/
theorem axis_uniq {a:Axs} (h:ZD a=true) {v:Str} {j:Nat} (hj:j<a.2.length) (hs:Qc a.1 (a.2.getD j []) v=true):(a.2.take j).any (fun x=>Qc a.1 x v)=false:=by
 unfold ZD ww at h
 simp only [Bool.and_eq_true] at h
 have h2:=(dist_at h.2.2 hj).2
 rw [List.any_eq_false] at h2 ⊢
 intro x hx hc
 refine h2 x hx ?_
 rw [decide_eq_true_eq]
 exact (of_decide_eq_true hc).trans (of_decide_eq_true hs).symm
theorem sameK_no {axes:List Axs} {a b:List Str} (h:¬ a.length=axes.length∨¬ b.length=axes.length):ZQ axes a b=false:=by
 unfold ZQ
 rcases h with h | h <;> rw [decide_eq_false h] <;> simp
theorem sameK_bad {axes:List Axs} {a b:List Str} {i:Nat} (hi:i<axes.length) (h:sameAt axes a b i=false):ZQ axes a b=false:=by
 unfold ZQ;rw [range_bad hi h,Bool.and_false]
theorem sameK_ok {axes:List Axs} {a b:List Str} (h1:a.length=axes.length) (h2:b.length=axes.length) (h:(List.range axes.length).all (sameAt axes a b)=true):ZQ axes a b=true:=by
 unfold ZQ;rw [decide_eq_true h1,decide_eq_true h2,h];rfl
/-! ### Bounds -/
def keepK (l:List (List Str)):Bool:=(l.take 11).all wt&&decide (l.length≤10)
theorem keepK_len {l:List (List Str)} (h:keepK l=true):l.length≤10:=by
 unfold keepK at h;simp only [Bool.and_eq_true,decide_eq_true_eq] at h;exact h.2
theorem keepK_mem {l:List (List Str)} (h:keepK l=true):∀ k∈l,k.length≤20∧∀ x∈k,x.length≤100:=fun k hk=>by
 have hl:=keepK_len h
 unfold keepK at h
 simp only [Bool.and_eq_true,decide_eq_true_eq] at h
 have h1:=List.all_eq_true.1 h.1 k (by rw [List.take_of_length_le (by omega)];exact hk)
 exact ⟨keepS_len h1,keepS_mem h1⟩
end Go.Plain
namespace Go.Plain
open Go Go.Sep
set_option linter.unusedSimpArgs false
set_option linter.unusedVariables false
/-- A key of values of the axes. -/
def ofAxes (axes:List Axs) (k:List Str):Prop:=k.length=axes.length∧∀ i,i<axes.length→∃ j,j<(axes.getD i ([],[])).2.length∧(axes.getD i ([],[])).2.getD j []=k.getD i []
/-! ### What is written is read again -/
/-! ### Keys that are picked -/
def pickAt (x:List Axs) (p:List Int) (k:Nat):Nat :=
 if k<p.length then (((p.getD k 0).tmod ((x.getD k ([],[])).2.length:Int)+((x.getD k ([],[])).2.length:Int)).tmod ((x.getD k ([],[])).2.length:Int)).toNat else 0
def pickV (x:List Axs) (p:List Int) (k:Nat):Str:=(x.getD k ([],[])).2.getD (pickAt x p k) []
def pickK (x:List Axs) (p:List Int):List Str:=(List.range x.length).map (pickV x p)
end Go.Plain
namespace Go.Plain
open Go
set_option linter.unusedSimpArgs false
set_option linter.unusedVariables false
section
variable {kind:Int} {value:Str} {less:List Prf}
end
end Go.Plain
namespace Go.Plain
open Go
set_option linter.unusedSimpArgs false
set_option linter.unusedVariables false
section
variable {kind:Int} {l:List Prf} {present:Bool} {vs:List Str}
/-- The quality of the value at j. -/
def qAtV (kind:Int) (l:List Prf) (present:Bool) (vs:List Str) (j:Nat):Int:=Ys kind l present (vs.getD j [])
def betB (kind:Int) (l:List Prf) (present:Bool) (vs:List Str) (i j:Nat):Bool:=decide (qAtV kind l present vs i<qAtV kind l present vs j)||(decide (qAtV kind l present vs j=qAtV kind l present vs i)&&decide (j<i))
def cntI (kind:Int) (l:List Prf) (present:Bool) (vs:List Str) (i n:Nat):Nat:=(List.range n).countP (betB kind l present vs i)
def posB (kind:Int) (l:List Prf) (present:Bool) (v:Str):Bool:=decide (0<Ys kind l present v)
/-- What holds of the two rows behind n values. -/
structure Ranked (kind:Int) (l:List Prf) (present:Bool) (vs:List Str) (n:Nat) (s:List Str×List Int):Prop where
 len:s.2.length=s.1.length
 sorted:s.2.Pairwise (fun a b=>b≤a)
 count:∀ t:Int,0<t→s.2.countP (fun q=>decide (t≤q))=(List.range n).countP (fun j=>decide (t≤qAtV kind l present vs j))
 all:s.1.length=(List.range n).countP (fun j=>decide (0<qAtV kind l present vs j))
 place:∀ i,i<n→0<qAtV kind l present vs i→s.1[cntI kind l present vs i n]?=some (vs.getD i [])∧s.2[cntI kind l present vs i n]?=some (qAtV kind l present vs i)
end
end Go.Plain
namespace Go.Sep
open Go
end Go.Sep
namespace Go.Plain
open Go
set_option linter.unusedSimpArgs false
set_option linter.unusedVariables false
section
variable {kind:Int} {v:Str}
end
end Go.Plain
namespace Go.Plain
open Go Go.Sep
set_option linter.unusedSimpArgs false
set_option linter.unusedVariables false
def haveF (a:Axs) (l:List Fld):Str:=Yl [44,32] (allF l a.1)
def Qf (a:Axs) (l:List Fld):List Str :=
 if ¬ zF a.1=0 then (wX (zF a.1) (ZU (zF a.1) l).1 (ZU (zF a.1) l).2 a.2).1
 else if (a.2.any fun x=>decide (x=haveF a l))=true then [haveF a l] else []
def q6 (a:Axs) (l:List Fld) (strict:Bool):List Str :=
 if ZD a=false then [] else if (Qf a l).length=0∧strict=false then [a.2.getD 0 []] else Qf a l
def q8:List (List Str)→List (List Str)
 | []=>[[]]
 | r::R=>r.flatMap fun x=>(q8 R).map (x::·)
def Qg (axes:List Axs) (l:List Fld) (strict:Bool):List (List Str):=axes.map fun a=>q6 a l strict
def qB (axes:List Axs) (l:List Fld) (strict:Bool) (most:Nat):List (List Str):=if YN axes=false then [] else (q8 (Qg axes l strict)).take most
/-! ### Counting through a product -/
def qV:List (List Str)→List Int→List (List Str)
 | r::R,d::ds=>(qV R ds).map (r.getD d.toNat []::·)++(r.drop (d.toNat+1)).flatMap (fun y=>(q8 R).map (y::·))
 | _,_=>[[]]
def keyD:List (List Str)→List Int→List Str
 | r::R,d::ds=>r.getD d.toNat []::keyD R ds
 | _,_=>[]
theorem rest_zero:∀ (R:List (List Str)),(∀ r∈R,r≠[])→qV R (List.replicate R.length 0)=q8 R
 | [],_=>rfl
 | r::R,h=>by
  obtain ⟨x,r',rfl⟩:∃ x r',r=x::r':=by
   cases r with
   | nil=>exact absurd rfl (h [] (by simp))
   | cons x r'=>exact ⟨x,r',rfl⟩
  rw [List.length_cons,List.replicate_succ,qV,rest_zero R (fun r hr=>h r (by simp [hr])),q8,List.flatMap_cons]
  rfl
def MaxD (R:List (List Str)) (ds:List Int):Prop:=R.length=ds.length∧∀ i,i<R.length→ds.getD i 0+1=((R.getD i []).length:Int)
theorem MaxD.tail {r:List Str} {R:List (List Str)} {d:Int} {ds:List Int} (h:MaxD (r::R) (d::ds)):d+1=(r.length:Int)∧MaxD R ds :=
 ⟨h.2 0 (by simp),by simpa using h.1,fun i hi=>by have:=h.2 (i+1) (by simpa using hi);simpa using this⟩
theorem rest_max:∀ (R:List (List Str)) (ds:List Int),MaxD R ds→qV R ds=[keyD R ds]
 | [],ds,h=>by
  obtain rfl:ds=[]:=List.length_eq_zero_iff.1 (by simpa using h.1.symm)
  rfl
 | r::R,[],h=>by simp [MaxD] at h
 | r::R,d::ds,h=>by
  obtain ⟨h1,h2⟩:=h.tail
  rw [qV,rest_max R ds h2,keyD,List.drop_eq_nil_of_le (by omega)];rfl
theorem rest_next:∀ (R1:List (List Str)) (d1:List Int) (r:List Str) (R2:List (List Str)) (x:Int) (m:List Int),R1.length=d1.length→(∀ q∈R2,q≠[])→MaxD R2 m→0≤x→x+1<(r.length:Int) →
  qV (R1++r::R2) (d1++x::m)=keyD (R1++r::R2) (d1++x::m)::qV (R1++r::R2) (d1++(x+1)::List.replicate m.length 0)
 | [],[],r,R2,x,m,_,hne,hm,h0,hx=>by
  have e1:(x+1).toNat=x.toNat+1:=by omega
  have hl:x.toNat+1<r.length:=by omega
  rw [List.nil_append,List.nil_append,List.nil_append,qV,qV,keyD,rest_max R2 m hm,← hm.1,rest_zero R2 hne,e1,zS (dd:=[]) hl,List.flatMap_cons]
  rfl
 | r0::R1,d::d1,r,R2,x,m,hl,hne,hm,h0,hx=>by
  have ih:=rest_next R1 d1 r R2 x m (by simpa using hl) hne hm h0 hx
  rw [List.cons_append,List.cons_append,List.cons_append,qV,qV,keyD,ih]
  rfl
 | [],_::_,_,_,_,_,h,_,_,_,_=>by simp at h
 | _::_,[],_,_,_,_,h,_,_,_,_=>by simp at h
/-- Digits that lie within. -/
def Dig (R:List (List Str)) (ds:List Int):Prop:=ds.length=R.length∧∀ i,i<R.length→0≤ds.getD i 0∧ds.getD i 0<((R.getD i []).length:Int)
theorem dig_zero {R:List (List Str)} (h:∀ r∈R,r≠[]):Dig R (List.replicate R.length 0):=by
 refine ⟨by simp,fun i hi=>?_⟩
 have h1:(List.replicate R.length (0:Int)).getD i 0=0:=by rw [zr (by simpa using hi),List.getElem_replicate]
 have h2:0<(R.getD i []).length:=List.length_pos_iff.2 (h _ (yZ hi))
 rw [h1];omega
theorem keyD_length:∀ (R:List (List Str)) (ds:List Int),ds.length=R.length→(keyD R ds).length=R.length
 | [],[],_=>rfl
 | r::R,d::ds,h=>by rw [keyD,List.length_cons,List.length_cons,keyD_length R ds (by simpa using h)]
 | [],_::_,h=>by simp at h
 | _::_,[],h=>by simp at h
theorem keyD_take:∀ (R:List (List Str)) (ds:List Int) (i:Nat),ds.length=R.length→i<R.length→(keyD R ds).take (i+1)=(keyD R ds).take i++[(R.getD i []).getD (ds.getD i 0).toNat []]
 | r::R,d::ds,0,_,_=>rfl
 | r::R,d::ds,i+1,h,hi=>by
  rw [keyD,List.take_succ_cons,keyD_take R ds i (by simpa using h) (by simpa using hi)];rfl
 | [],_,_,_,hi=>by simp at hi
 | _::_,[],_,h,_=>by simp at h
/-- The counter goes back over the digits that stand at their end. -/
def Carry (R:List (List Str)) (ds:List Int) (j:Nat) (xs:List Int):Prop:=j≤R.length∧xs=ds.take j++List.replicate (R.length-j) 0∧∀ i,j≤i→i<R.length→ds.getD i 0+1=((R.getD i []).length:Int)
theorem carry_start {R:List (List Str)} {ds:List Int} (h:Dig R ds):Carry R ds R.length ds :=
 ⟨Nat.le_refl _,by rw [Nat.sub_self,← h.1,List.take_length];simp,fun i h1 h2=>by omega⟩
theorem Carry.length {R:List (List Str)} {ds xs:List Int} {j:Nat} (hd:Dig R ds) (h:Carry R ds j xs):xs.length=R.length:=by
 have:=h.1;have:=hd.1
 rw [h.2.1,List.length_append,List.length_take,List.length_replicate];omega
theorem Carry.at {R:List (List Str)} {ds xs:List Int} {j i:Nat} (hd:Dig R ds) (h:Carry R ds j xs) (hi:i<j):xs.getD i 0=ds.getD i 0:=by
 have:=h.1;have:=hd.1
 rw [h.2.1,List.getD_eq_getElem?_getD,List.getD_eq_getElem?_getD,List.getElem?_append_left (by rw [List.length_take];omega),List.getElem?_take_of_lt hi]
theorem carry_step {R:List (List Str)} {ds xs:List Int} {j:Nat} (hd:Dig R ds) (h:Carry R ds (j+1) xs) (hx:xs.getD j 0+1=((R.getD j []).length:Int)):Carry R ds j (xs.set j 0):=by
 have h1:=h.1;have h2:=hd.1
 rw [h.at hd (Nat.lt_succ_self j)] at hx
 refine ⟨by omega,?_,fun i a b=>?_⟩
 ·rw [h.2.1]
  apply List.ext_getElem?
  intro i
  rw [List.getElem?_set]
  by_cases e:j=i
  ·subst e
   rw [if_pos rfl,if_pos (by rw [List.length_append,List.length_take,List.length_replicate];omega),List.getElem?_append_right (by rw [List.length_take];omega),List.getElem?_replicate,if_pos (by rw [List.length_take];omega)]
  ·rw [if_neg e]
   rcases Nat.lt_or_ge i j with q | q
   ·rw [List.getElem?_append_left (by rw [List.length_take];omega),List.getElem?_append_left (by rw [List.length_take];omega),List.getElem?_take_of_lt (by omega),List.getElem?_take_of_lt q]
   ·rw [List.getElem?_append_right (by rw [List.length_take];omega),List.getElem?_append_right (by rw [List.length_take];omega),List.getElem?_replicate,List.getElem?_replicate,List.length_take,List.length_take]
    by_cases q2:i<R.length
    ·rw [if_pos (by omega),if_pos (by omega)]
    ·rw [if_neg (by omega),if_neg (by omega)]
 ·rcases Nat.lt_or_ge j i with q | q
  ·exact h.2.2 i q b
  ·obtain rfl:j=i:=by omega
   exact hx
theorem carry_end {R:List (List Str)} {ds xs:List Int} (hd:Dig R ds) (h:Carry R ds 0 xs):qV R ds=[keyD R ds] :=
 rest_max R ds ⟨hd.1.symm,fun i hi=>h.2.2 i (Nat.zero_le _) hi⟩
theorem split_at {α:Type} {l:List α} {j:Nat} {dd:α} (h:j<l.length):l=l.take j++l.getD j dd::l.drop (j+1):=by
 rw [← zS (dd:=dd) h,List.take_append_drop]
theorem carry_next {R:List (List Str)} {ds xs:List Int} {j:Nat} (hd:Dig R ds) (hne:∀ r∈R,r≠[]) (h:Carry R ds (j+1) xs) (hx:¬ xs.getD j 0+1=((R.getD j []).length:Int)) :
  qV R ds=keyD R ds::qV R (xs.set j (xs.getD j 0+1))∧Dig R (xs.set j (xs.getD j 0+1)):=by
 have h1:=h.1;have h2:=hd.1
 have hat:=h.at hd (Nat.lt_succ_self j)
 rw [hat] at hx ⊢
 have hj:=hd.2 j (by omega)
 have hset:xs.set j (ds.getD j 0+1)=ds.take j++(ds.getD j 0+1)::List.replicate (ds.drop (j+1)).length 0:=by
  rw [h.2.1]
  have e1:ds.take (j+1)=ds.take j++[ds.getD j 0]:=by rw [List.take_succ_eq_append_getElem (by omega),zr (by omega)]
  rw [e1,List.append_assoc,List.set_append,if_neg (by rw [List.length_take];omega)]
  congr 1
  rw [show j-(ds.take j).length=0 by rw [List.length_take];omega,List.singleton_append,List.set_cons_zero,List.length_drop,h2]
 constructor
 ·rw [hset]
  have hn:=rest_next (R.take j) (ds.take j) (R.getD j []) (R.drop (j+1)) (ds.getD j 0) (ds.drop (j+1)) (by rw [List.length_take,List.length_take,h2]) (fun q hq=>hne q (List.mem_of_mem_drop hq))
   ⟨by rw [List.length_drop,List.length_drop,h2],fun i hi=>by
    rw [List.length_drop] at hi
    have:=h.2.2 (j+1+i) (by omega) (by omega)
    rw [List.getD_eq_getElem?_getD,List.getD_eq_getElem?_getD,List.getElem?_drop,List.getElem?_drop,← List.getD_eq_getElem?_getD,← List.getD_eq_getElem?_getD];exact this⟩ hj.1 (by omega)
  rw [← split_at (dd:=[]) (by omega),← split_at (dd:=0) (by omega)] at hn
  exact hn
 ·refine ⟨by rw [List.length_set,h.length hd],fun i hi=>?_⟩
  rw [List.getD_eq_getElem?_getD,List.getElem?_set]
  by_cases e:j=i
  ·subst e;rw [if_pos rfl,if_pos (by rw [h.length hd];omega)];simp only [Option.getD_some];omega
  ·rw [if_neg e,← List.getD_eq_getElem?_getD]
   rcases Nat.lt_or_ge i j with q | q
   ·rw [h.at hd (by omega)];exact hd.2 i hi
   ·have:xs.getD i 0=0:=by
     rw [h.2.1,List.getD_eq_getElem?_getD,List.getElem?_append_right (by rw [List.length_take];omega),List.getElem?_replicate,if_pos (by rw [List.length_take];omega)];rfl
    rw [this]
    have:=List.length_pos_iff.2 (hne _ (yZ (dd:=[]) hi));omega
theorem prod_nil:∀ {R:List (List Str)},[]∈R→q8 R=[]
 | r::R,h=>by
  rw [q8]
  rcases List.mem_cons.1 h with h | h
  ·rw [← h];rfl
  ·rw [prod_nil h];simp
 | [],h=>by cases h
/-! ### Keys -/
section
variable {axes:List Axs} {l:List Fld} {strict:Bool} {most:Nat}
theorem keys_range (h:YN axes=false):qB axes l strict most=[]:=if_pos h
theorem keys_none {i:Nat} (h:YN axes=true) (hi:i<axes.length) (h1:(q6 (axes.getD i ([],[])) l strict).length=0):qB axes l strict most=[]:=by
 unfold qB
 rw [if_neg (by rw [h];simp),prod_nil]
 ·simp
 ·rw [← List.length_eq_zero_iff.1 h1]
  exact List.mem_map.2 ⟨_,yZ hi,rfl⟩
theorem keys_full {out:List (List Str)} (h:YN axes=true) (h1:out.length=most) {X:List (List Str)} (e:out++X=q8 (Qg axes l strict)):qB axes l strict most=out:=by
 unfold qB
 rw [if_neg (by rw [h];simp),← e,← h1,List.take_left]
theorem keys_all {out:List (List Str)} {k:List Str} (h:YN axes=true) (h1:out.length<most) (e:out++[k]=q8 (Qg axes l strict)):qB axes l strict most=out++[k]:=by
 unfold qB
 rw [if_neg (by rw [h];simp),← e,List.take_of_length_le (by simp;omega)]
end
/-! ### Ranked -/
theorem valid_one {a:Axs}:YN [a]=ZD a:=by
 rw [validL_yes (by simp)]
 show qZ ZD (fun x b=>decide (x.1=b.1)) ([],[]) [a] 1=_
 rw [dist_step,dist_zero];simp
section
variable {a:Axs} {l:List Fld} {strict:Bool}
theorem ranked_no (h:ZD a=false):q6 a l strict=[]:=if_pos h
theorem ranked_first (h:ZD a=true) (h1:(Qf a l).length=0) (h2:strict=false):q6 a l strict=[a.2.getD 0 []]:=by
 unfold q6;rw [if_neg (by rw [h];simp),if_pos ⟨h1,h2⟩]
theorem ranked_out (h:ZD a=true) (h1:¬ (Qf a l).length=0∨strict=true):q6 a l strict=Qf a l:=by
 unfold q6;rw [if_neg (by rw [h];simp),if_neg]
 rintro ⟨e1,e2⟩
 rcases h1 with h1 | h1
 ·exact h1 e1
 ·rw [e2] at h1;cases h1
theorem rankO_kind (h:¬ zF a.1=0):Qf a l=(wX (zF a.1) (ZU (zF a.1) l).1 (ZU (zF a.1) l).2 a.2).1:=if_pos h
theorem rankO_have (h:zF a.1=0) (h1:(a.2.any fun x=>decide (x=haveF a l))=true):Qf a l=[haveF a l]:=by unfold Qf;rw [if_neg (by simp [h]),if_pos h1]
theorem rankO_none (h:zF a.1=0) (h1:(a.2.any fun x=>decide (x=haveF a l))=false):Qf a l=[]:=by unfold Qf;rw [if_neg (by simp [h]),if_neg (by rw [h1];simp)]
end
/-! ### Steps -/
theorem set_getD {α:Type} {xs:List α} {i:Nat} {v dd:α} (h:i<xs.length):(xs.set i v).getD i dd=v:=by
 rw [List.getD_eq_getElem?_getD,List.getElem?_set,if_pos rfl,if_pos h];rfl
def haveU (a:Axs) (l:List Fld) (i:Nat):List Str:=if ((a.2.take i).any fun x=>decide (x=haveF a l))=true then [haveF a l] else []
section
variable {a:Axs} {l:List Fld} {i:Nat}
end
theorem rest_start {xs:List (List Str)} {n:Nat} (h:xs.length=n) (hne:∀ r∈xs,r≠[]):[]++qV xs (List.replicate n 0)=q8 xs∧Dig xs (List.replicate n 0):=by
 subst h
 exact ⟨rest_zero xs hne,dig_zero hne⟩
theorem key_all {R:List (List Str)} {ds:List Int} {ks:List Str} {i:Nat} (hd:Dig R ds) (h1:ks.length=R.length) (h2:R.length≤i) (h:ks.take i=(keyD R ds).take i):ks=keyD R ds:=by
 rw [List.take_of_length_le (by omega),List.take_of_length_le (by rw [keyD_length R ds hd.1];omega)] at h
 exact h
theorem rest_go {R:List (List Str)} {out:List (List Str)} {ds ds':List Int} (e:out++qV R ds=q8 R) (h:qV R ds=keyD R ds::qV R ds'):(out++[keyD R ds])++qV R ds'=q8 R:=by
 rw [← e,h];simp
end Go.Plain
namespace Go.Plain
open Go Go.Sep
set_option linter.unusedSimpArgs false
set_option linter.unusedVariables false
/-! ### Rank,as a rearrangement -/
section
variable {kind:Int} {l:List Prf} {present:Bool}
theorem rankS_perm (s:List Str×List Int) (v:Str):(rankS kind l present s v).1.Perm (s.1++if posB kind l present v=true then [v] else []):=by
 unfold rankS posB
 by_cases h:Ys kind l present v≤0
 ·rw [if_pos h,if_neg (by rw [decide_eq_true_eq];omega),List.append_nil]
 ·rw [if_neg h,if_pos (by rw [decide_eq_true_eq];omega)]
  simp only
  have:(s.1.take (qo s.2 (Ys kind l present v))++[v]++s.1.drop (qo s.2 (Ys kind l present v))).Perm (s.1.take (qo s.2 (Ys kind l present v))++(s.1.drop (qo s.2 (Ys kind l present v))++[v])):=by
   rw [List.append_assoc];exact List.Perm.append_left _ List.perm_append_comm
  rwa [← List.append_assoc,List.take_append_drop] at this
theorem rankG_perm (vs:List Str):(wX kind l present vs).1.Perm (vs.filter (posB kind l present)):=by
 have key:∀ (vs:List Str) (s:List Str×List Int),(vs.foldl (rankS kind l present) s).1.Perm (s.1++vs.filter (posB kind l present)):=by
  intro vs
  induction vs with
  | nil=>intro s;simp
  | cons v vs ih =>
   intro s
   rw [List.foldl_cons]
   refine (ih _).trans ?_
   refine ((rankS_perm s v).append_right _).trans ?_
   rw [List.append_assoc,List.filter_cons]
   split
   ·exact List.Perm.refl _
   ·exact List.Perm.refl _
 exact key vs ([],[])
end
/-! ### Values of a valid axis -/
section
variable {a:Axs} {l m:List Fld} {strict:Bool}
theorem values_len (h:ZD a=true):0<a.2.length∧a.2.length≤16:=by
 unfold ZD ww at h
 simp only [Bool.and_eq_true,decide_eq_true_eq] at h
 exact h.2.1
theorem values_dist (h:ZD a=true) {i j:Nat} (hj:j<a.2.length) (hi:i<j):Qc a.1 (a.2.getD i []) (a.2.getD j [])=false:=by
 cases hs:Qc a.1 (a.2.getD i []) (a.2.getD j []) with
 | false=>rfl
 | true =>
  have h1:=axis_uniq h hj (same_self a.1 _)
  rw [any_of (p:=fun x=>Qc a.1 x (a.2.getD j [])) (dd:=[]) (by omega) hi hs] at h1
  cases h1
theorem values_nodup (h:ZD a=true):a.2.Nodup:=by
 rw [List.Nodup,List.pairwise_iff_getElem]
 intro i j hi hj hij e
 have:=values_dist h hj hij
 rw [zr hi,zr hj,e,same_self] at this
 cases this
theorem rankO_sub:∀ x∈Qf a l,x∈a.2:=fun x hx=>by
 unfold Qf at hx
 split at hx
 ·have:=(rankG_perm a.2).mem_iff.1 hx
  exact (List.mem_filter.1 this).1
 ·split at hx
  ·rename_i h
   obtain rfl:=List.mem_singleton.1 hx
   obtain ⟨y,hy,e⟩:=List.any_eq_true.1 h
   rw [← of_decide_eq_true e];exact hy
  ·cases hx
theorem rankA_sub:∀ x∈q6 a l strict,x∈a.2:=fun x hx=>by
 unfold q6 at hx
 split at hx
 ·cases hx
 ·rename_i h
  split at hx
  ·obtain rfl:=List.mem_singleton.1 hx
   exact yZ (values_len (by simpa using h)).1
  ·exact rankO_sub x hx
theorem rankA_nodup:(q6 a l strict).Nodup:=by
 unfold q6
 split
 ·simp
 ·rename_i h
  split
  ·simp
  ·unfold Qf
   split
   ·exact (rankG_perm a.2).nodup_iff.2 ((values_nodup (by simpa using h)).filter _)
   ·split <;> simp
theorem rankA_length:(q6 a l strict).length≤16:=by
 by_cases h:ZD a=true
 ·have h1:=values_len h
  have:(q6 a l strict).length≤a.2.length:=rankA_nodup.length_le_of_subset (fun x hx=>rankA_sub x hx)
  omega
 ·rw [ranked_no (by simpa using h)];simp
/-! ### What the ranked values depend on -/
def targetF (a:Axs):Str:=if zF a.1=0 then a.1 else zl (zF a.1)
end
/-! ### The product -/
theorem rankL_step {axes:List Axs} {l:List Fld} {strict:Bool} {i:Nat} (h:i<axes.length):Qg (axes.take (i+1)) l strict=Qg (axes.take i) l strict++[q6 (axes.getD i ([],[])) l strict]:=by
 unfold Qg
 rw [List.take_succ_eq_append_getElem h,List.map_append,zr h];rfl
theorem keys_length {axes:List Axs} {l:List Fld} {strict:Bool} {most:Nat} (hv:YN axes=true):(qB axes l strict most).length=min (q8 (Qg axes l strict)).length most:=by
 unfold qB
 rw [if_neg (by rw [hv];simp),List.length_take,Nat.min_comm]
/-! ### The best key -/
theorem prod_head:∀ (R:List (List Str)),(∀ r∈R,r≠[])→∃ X,q8 R=(R.map fun r=>r.getD 0 [])::X
 | [],_=>⟨[],rfl⟩
 | r::R,h=>by
  obtain ⟨X,e⟩:=prod_head R (fun q hq=>h q (by simp [hq]))
  cases r with
  | nil=>exact absurd rfl (h [] (by simp))
  | cons x r =>
   refine ⟨X.map (x::·)++r.flatMap (fun y=>(q8 R).map (y::·)),?_⟩
   rw [q8,List.flatMap_cons,e];rfl
theorem prod_some {R:List (List Str)}:0<(q8 R).length↔∀ r∈R,r≠[]:=by
 constructor
 ·intro h r hr e
  rw [prod_nil (by rw [← e];exact hr)] at h;simp at h
 ·intro h
  obtain ⟨X,e⟩:=prod_head R h
  rw [e];simp
def bestK (axes:List Axs) (l:List Fld) (strict:Bool):List Str:=(qB axes l strict 1).getD 0 []
def w1 (axes:List Axs) (l:List Fld) (strict:Bool):Bool:=decide (0<(qB axes l strict 1).length)
theorem bestK_no {axes:List Axs} {l:List Fld} {strict:Bool} (h:w1 axes l strict=false):bestK axes l strict=[]:=by
 unfold w1 at h
 have:=of_decide_eq_false h
 unfold bestK
 rw [List.length_eq_zero_iff.1 (show (qB axes l strict 1).length=0 by omega)];rfl
theorem bestK_yes {axes:List Axs} {l:List Fld} {strict:Bool} (hv:YN axes=true) (h:w1 axes l strict=true):bestK axes l strict=(Qg axes l strict).map (fun r=>r.getD 0 [])∧∀ r∈Qg axes l strict,r≠[]:=by
 unfold w1 at h
 have h1:=of_decide_eq_true h
 rw [keys_length hv] at h1
 have h2:=prod_some.1 (show 0<(q8 (Qg axes l strict)).length by omega)
 refine ⟨?_,h2⟩
 obtain ⟨X,e⟩:=prod_head _ h2
 unfold bestK qB
 rw [if_neg (by rw [hv];simp),e];rfl
theorem best_no {axes:List Axs} {l:List Fld} {strict:Bool} (h:(qB axes l strict 1).length=0):w1 axes l strict=false:=by unfold w1;rw [h];rfl
theorem best_yes {axes:List Axs} {l:List Fld} {strict:Bool} (h:¬ (qB axes l strict 1).length=0):w1 axes l strict=true:=by unfold w1;exact decide_eq_true (by omega)
end Go.Plain
