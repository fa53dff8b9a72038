/-
 Tables and stores in plain Lean: sizes,what Put and Remove make of a table,and a store as a list of tables from the least to the most recently used one;after each change the bounds hold. No program in sight. No conditions.
-/
import Derived.Test.YtlniaacdjllonaaGreatGLawC
import Derived.Test.YtlniaacdjllonaaGreatGSep6
namespace Go.Plain
open Go.Sep
set_option linter.unusedVariables false
set_option linter.unusedSimpArgs false
abbrev Ent:=List (List Str)×List Str×List Str×Str×List Fld×Str×Int×Int
abbrev Tab:=List Axs×List Ent
abbrev Sto:=List (Str×Tab)
abbrev tyE:Ty:=.pair (.list (.list .str)) (.pair (.list .str) (.pair (.list .str) (.pair .str (.pair (.list (.pair .str .str)) (.pair .str (.pair (.int .i64) (.int .i64)))))))
abbrev tyT:Ty:=.pair (.list (.pair .str (.list .str))) (.list tyE)
abbrev dE:Ent:=([],[],[],[],[],[],0,0)
def lenS (l:List Str):Nat:=(l.map fun s=>4+s.length).sum
def lenF (l:List Fld):Nat:=(l.map fun f=>4+f.1.length+f.2.length).sum
def lenK (l:List (List Str)):Nat:=(l.map lenS).sum
def zL (e:Ent):Nat:=100+e.2.2.2.1.length+e.2.2.2.2.2.1.length+lenS e.2.1+lenS e.2.2.1+lenF e.2.2.2.2.1+lenK e.1
def za (l:List Ent):Nat:=(l.map zL).sum
def totA (A:Sto):Nat:=(A.map fun x=>za x.2.2).sum
def cntA (A:Sto):Nat:=(A.map fun x=>x.2.2.length).sum
def hasK (axes:List Axs) (e:Ent) (key:List Str):Bool:=e.1.any fun k=>wW axes k key
def zN (axes:List Axs) (e old:Ent):Bool:=if axes=[] then decide (e.2.1=old.2.1)&&decide (e.2.2.1=old.2.2.1) else e.1.any fun k=>hasK axes old k
def wY (t:Tab) (e:Ent) (axes:List Axs):List Ent:=(if t.1=axes then t.2.filter (fun o=>!zN axes e o) else [])++[e]
def putT (t:Tab) (e:Ent) (axes:List Axs) (limit:Nat):Tab:=(axes,(wY t e axes).drop ((wY t e axes).length-limit))
def remL (l:List Ent) (i:Int):List Ent:=if 0≤i∧i<l.length then l.eraseIdx i.toNat else l
theorem sum_step {α:Type} (f:α→Nat) {l:List α} {i:Nat} (dd:α) (h:i<l.length):((l.take (i+1)).map f).sum=((l.take i).map f).sum+f (l.getD i dd):=by
 rw [List.take_add_one,List.getElem?_eq_getElem h,Option.toList_some,List.map_append,List.sum_append,List.getD_eq_getElem?_getD,List.getElem?_eq_getElem h]
 simp
theorem sum_le {α:Type} (f:α→Nat) (l:List α) (i:Nat):((l.take i).map f).sum≤(l.map f).sum:=by
 conv=>rhs;rw [← List.take_append_drop i l,List.map_append,List.sum_append]
 omega
theorem sum_mem {α:Type} (f:α→Nat) {l:List α} {x:α} (h:x∈l):f x≤(l.map f).sum:=by
 induction l with
 | nil=>cases h
 | cons y r ih =>
  rw [List.map_cons,List.sum_cons]
  rcases List.mem_cons.1 h with rfl | h
  ·omega
  ·have:=ih h;omega
theorem Z2 {α:Type} {l:List α} {i:Nat} {dd:α} (h:i<l.length):l.take (i+1)=l.take i++[l.getD i dd]:=by
 rw [List.take_add_one,List.getElem?_eq_getElem h,Option.toList_some,List.getD_eq_getElem?_getD,List.getElem?_eq_getElem h]
 simp
theorem lenS_step {l:List Str} {i:Nat} (h:i<l.length):lenS (l.take (i+1))=lenS (l.take i)+(4+(l.getD i []).length):=sum_step _ [] h
theorem lenS_le (l:List Str) (i:Nat):lenS (l.take i)≤lenS l:=sum_le _ l i
theorem lenF_step {l:List Fld} {i:Nat} (h:i<l.length):lenF (l.take (i+1))=lenF (l.take i)+(4+(l.getD i ([],[])).1.length+(l.getD i ([],[])).2.length):=sum_step _ ([],[]) h
theorem lenF_le (l:List Fld) (i:Nat):lenF (l.take i)≤lenF l:=sum_le _ l i
theorem lenK_step {l:List (List Str)} {i:Nat} (h:i<l.length):lenK (l.take (i+1))=lenK (l.take i)+lenS (l.getD i []):=sum_step _ [] h
theorem lenK_le (l:List (List Str)) (i:Nat):lenK (l.take i)≤lenK l:=sum_le _ l i
def noE:Ent:=([],[],[],[],[],[],0,0)
theorem sizeL_step {l:List Ent} {i:Nat} (h:i<l.length):za (l.take (i+1))=za (l.take i)+zL (l.getD i ([],[],[],[],[],[],0,0)):=sum_step _ _ h
theorem sizeL_le (l:List Ent) (i:Nat):za (l.take i)≤za l:=sum_le _ l i
/-- An entry that is not too long. -/
structure OkE (e:Ent):Prop where
 size:zL e≤1000000000
 keys:e.1.length≤1000000
 strs:∀ k∈e.1,∀ s∈k,s.length≤300000
theorem WW:∀ (l:List Str),4*l.length≤lenS l
 | []=>Nat.le_refl _
 | s::l=>by
  have:=WW l
  have e:lenS (s::l)=(4+s.length)+lenS l:=by simp [lenS]
  rw [e,List.length_cons];omega
theorem lenF_len:∀ (l:List Fld),4*l.length≤lenF l
 | []=>Nat.le_refl _
 | s::l=>by
  have:=lenF_len l
  have e:lenF (s::l)=(4+s.1.length+s.2.length)+lenF l:=by simp [lenF]
  rw [e,List.length_cons];omega
theorem OkE.lens {e:Ent} (h:OkE e):e.1.length≤1000000000∧(∀ k∈e.1,k.length≤1000000000)∧e.2.1.length≤1000000000∧e.2.2.1.length≤1000000000∧e.2.2.2.2.1.length≤1000000000:=by
 have h1:=h.size
 unfold zL at h1
 have h2:=WW e.2.1
 have h3:=WW e.2.2.1
 have h4:=lenF_len e.2.2.2.2.1
 refine ⟨by have:=h.keys;omega,fun k hk=>?_,by omega,by omega,by omega⟩
 have h5:=WW k
 have h6:lenS k≤lenK e.1:=sum_mem lenS hk
 omega
/-- Axes that are not too long. -/
structure OkA (l:List Axs):Prop where
 len:l.length≤1000
 names:∀ a∈l,a.1.length≤1000000
 vals:∀ a∈l,a.2.length≤1000000000
 strs:∀ a∈l,∀ x∈a.2,x.length≤300000
/-- What 'slices.DeleteFunc' has done when it has come to j. -/
def wi {α:Type} (q:α→Bool) (l xs:List α) (k j:Nat):Prop:=k≤j∧j≤l.length∧xs.length=l.length∧xs.take k=(l.take j).filter (fun o=>!q o)∧xs.drop j=l.drop j
theorem wi.get {α:Type} {q:α→Bool} {l xs:List α} {k j:Nat} (h:wi q l xs k j) (hj:j<l.length) (dd:α):xs.getD j dd=l.getD j dd:=by
 obtain ⟨_,_,h3,_,h5⟩:=h
 have e:(xs.drop j)[0]?=(l.drop j)[0]?:=by rw [h5]
 rw [List.getElem?_drop,List.getElem?_drop] at e
 rw [List.getD_eq_getElem?_getD,List.getD_eq_getElem?_getD]
 simpa using congrArg (fun o=>o.getD dd) e
theorem wQ {α:Type} {p:α→Bool} {l:List α} {j:Nat} {dd:α} (h:j<l.length):(l.take (j+1)).filter p=(l.take j).filter p++(if p (l.getD j dd)=true then [l.getD j dd] else []):=by
 rw [Z2 (dd:=dd) h,List.filter_append,List.filter_cons,List.filter_nil]
theorem wi.keep {α:Type} {q:α→Bool} {l xs:List α} {k j:Nat} {dd:α} (h:wi q l xs k j) (hj:j<l.length) (hq:q (l.getD j dd)=false):wi q l (xs.set k (l.getD j dd)) (k+1) (j+1):=by
 obtain ⟨h1,h2,h3,h4,h5⟩:=h
 refine ⟨by omega,by omega,by rw [List.length_set];exact h3,?_,?_⟩
 ·rw [wQ (dd:=dd) hj,if_pos (by rw [hq];rfl),← h4]
  apply List.ext_getElem?
  intro i
  rw [List.getElem?_take]
  have hl:(xs.take k).length=k:=by rw [List.length_take];omega
  rcases Nat.lt_trichotomy i k with hi | hi | hi
  ·rw [if_pos (by omega),List.getElem?_append_left (by omega),List.getElem?_set,if_neg (by omega),List.getElem?_take_of_lt hi]
  ·subst hi
   rw [if_pos (by omega),List.getElem?_append_right (by omega),hl,List.getElem?_set,if_pos rfl,if_pos (by omega)];simp
  ·rw [if_neg (by omega),List.getElem?_eq_none (by rw [List.length_append,hl];simp;omega)]
 ·rw [List.drop_set_of_lt (by omega),← List.drop_drop,← List.drop_drop,h5]
theorem wi.skip {α:Type} {q:α→Bool} {l xs:List α} {k j:Nat} {dd:α} (h:wi q l xs k j) (hj:j<l.length) (hq:q (l.getD j dd)=true):wi q l xs k (j+1):=by
 obtain ⟨h1,h2,h3,h4,h5⟩:=h
 refine ⟨by omega,by omega,h3,?_,by rw [← List.drop_drop,← List.drop_drop,h5]⟩
 rw [wQ (dd:=dd) hj,if_neg (by rw [hq];simp),List.append_nil,h4]
theorem idxP_at {α:Type} {q:α→Bool} {l:List α} (h:¬ idxP q l=-1) (dd:α):0≤idxP q l∧(idxP q l).toNat<l.length∧q (l.getD (idxP q l).toNat dd)=true∧(l.take (idxP q l).toNat).any q=false:=by
 unfold idxP at h ⊢
 by_cases hl:l.findIdx q<l.length
 ·rw [if_pos hl] at h ⊢
  refine ⟨by omega,by simpa using hl,?_,?_⟩
  ·rw [Int.toNat_natCast,List.getD_eq_getElem?_getD,List.getElem?_eq_getElem hl]
   exact List.findIdx_getElem
  ·rw [Int.toNat_natCast,List.any_eq_false]
   intro x hx
   obtain ⟨i,hi,rfl⟩:=List.mem_iff_getElem.1 hx
   rw [List.length_take] at hi
   rw [List.getElem_take]
   simpa using List.not_of_lt_findIdx (p:=q) (xs:=l) (by omega)
 ·rw [if_neg hl] at h;exact absurd rfl h
theorem idxP_no {α:Type} {q:α→Bool} {l:List α} (h:idxP q l=-1):l.filter (fun o=>!q o)=l:=by
 refine List.filter_eq_self.2 fun x hx=>?_
 have:l.any q=false:=by
  rw [← idxP_ge,h];rfl
 rw [List.any_eq_false] at this
 have:=this x hx
 simpa using this
theorem wi.start {α:Type} {q:α→Bool} {l:List α} {k:Nat} (dd:α) (hk:k<l.length) (h1:q (l.getD k dd)=true) (h2:(l.take k).any q=false):wi q l l k (k+1):=by
 refine ⟨by omega,by omega,rfl,?_,rfl⟩
 rw [wQ (dd:=dd) hk,if_neg (by rw [h1];simp),List.append_nil]
 refine (List.filter_eq_self.2 fun x hx=>?_).symm
 rw [List.any_eq_false] at h2
 simpa using h2 x hx
theorem wi.done {α:Type} {q:α→Bool} {l xs:List α} {k j:Nat} (h:wi q l xs k j) (hj:¬ j<l.length):xs.take k=l.filter (fun o=>!q o):=by
 rw [h.2.2.2.1,List.take_of_length_le (by omega)]
theorem sizeE_ge (e:Ent):100≤zL e:=by unfold zL;omega
theorem qh (e:Ent) (l:List Ent):za (e::l)=zL e+za l:=by simp [za]
theorem sizeL_append (l m:List Ent):za (l++m)=za l+za m:=by simp [za]
theorem sizeL_len:∀ (l:List Ent),100*l.length≤za l
 | []=>Nat.le_refl _
 | e::l=>by have:=sizeL_len l;have:=sizeE_ge e;rw [qh,List.length_cons];omega
theorem sizeL_mem:∀ {l:List Ent} {e:Ent},e∈l→zL e≤za l
 | x::l,e,h=>by
  rw [qh]
  rcases List.mem_cons.1 h with rfl | h
  ·omega
  ·have:=sizeL_mem h;omega
theorem Wd {l m:List Ent} (h:l.Sublist m):za l≤za m:=by
 induction h with
 | slnil=>exact Nat.le_refl _
 | cons a _ ih=>rw [qh];omega
 | cons_cons a _ ih=>rw [qh,qh];omega
theorem put_eq {t:Tab} {e:Ent} {axes:List Axs} {limit n:Nat} (h:t.1=axes) (hn:n=((t.2.filter (fun o=>!zN axes e o))++[e]).length):(putT t e axes limit).2=(((t.2.filter (fun o=>!zN axes e o))++[e]).take n).drop (n-max limit 0):=by
 have hk:wY t e axes=(t.2.filter (fun o=>!zN axes e o))++[e]:=by unfold wY;rw [if_pos h]
 unfold putT
 rw [hk,hn,List.take_length,Nat.max_eq_left (Nat.zero_le limit)]
theorem put_ne {t:Tab} {e:Ent} {axes:List Axs} {limit n:Nat} (h:¬ t.1=axes) (hn:n=((([]:List Ent).filter (fun o=>!zN axes e o))++[e]).length):(putT t e axes limit).2=(((([]:List Ent).filter (fun o=>!zN axes e o))++[e]).take n).drop (n-max limit 0):=by
 have hk:wY t e axes=(([]:List Ent).filter (fun o=>!zN axes e o))++[e]:=by unfold wY;rw [if_neg h];rfl
 unfold putT
 rw [hk,hn,List.take_length,Nat.max_eq_left (Nat.zero_le limit)]
theorem remL_in {l:List Ent} {i:Int} (h:0≤i∧i<l.length):remL l i=l.take i.toNat++l.drop (i.toNat+1):=by
 unfold remL
 rw [if_pos h,List.eraseIdx_eq_take_drop_succ]
theorem remL_nat {l:List Ent} {n:Nat} (h:n<l.length):remL l (n:Int)=l.take n++l.drop (n+1):=by
 rw [remL_in ⟨by omega,by omega⟩];rfl
theorem remL_out {l:List Ent} {i:Int} (h:¬ (0≤i∧i<l.length)):remL l i=l:=if_neg h
theorem remL_sub (l:List Ent) (i:Int):(remL l i).Sublist l:=by
 unfold remL
 split
 ·exact List.eraseIdx_sublist _ _
 ·exact List.Sublist.refl _
theorem Zb (x:Str×Tab) (A:Sto):totA (x::A)=za x.2.2+totA A:=by simp [totA]
theorem wJ (A B:Sto):totA (A++B)=totA A+totA B:=by simp [totA]
theorem wy (x:Str×Tab) (A:Sto):cntA (x::A)=x.2.2.length+cntA A:=by simp [cntA]
theorem totA_perm {A B:Sto} (h:A.Perm B):totA A=totA B:=(h.map _).sum_nat
/-! ### Eviction -/
def wX (B T:Nat) (A:Sto):Bool:=decide (B<totA A)||decide (T<A.length)
def ZT (one:Bool) (sp:Int):Int:=if one=true∧sp=0 then 1 else 0
def wh (one:Bool) (sp:Int):Int:=if one=true∧sp≠0 then sp-1 else sp
def qX (k:Str) (t:Tab) (r:Sto):Sto:=if t.2=[] then r else (k,t)::r
def ZQ:Sto→Int→Sto
 | [],_=>[]
 | x::r,sp=>qX x.1 (x.2.1,remL x.2.2 (ZT (decide (r=[])) sp)) r
def oneA (A:Sto):Bool:=decide (A.length=1)
def evGo (B T:Nat):Nat→Sto→Int→Sto
 | 0,A,_=>A
 | n+1,A,sp=>if wX B T A=true then evGo B T n (ZQ A sp) (wh (oneA A) sp) else A
def evF (B T:Nat) (A:Sto) (sp:Int):Sto:=evGo B T (cntA A) A sp
/-- The entry e is the one that is spared,in the last table. -/
def w4 (lst:Bool) (k:Str) (axes:List Axs) (e:Ent) (A:Sto) (sp:Int):Prop :=
 (A.map (·.1)).Nodup∧(∀ x∈A,x.2.2≠[])∧∃ r l,A=r++[(k,(axes,l))]∧0≤sp∧l[sp.toNat]?=some e∧(lst=true→sp.toNat+1=l.length)
theorem good_step {B T:Nat} {lst:Bool} {k:Str} {axes:List Axs} {e:Ent} {A:Sto} {sp:Int} (hB:zL e≤B) (hT:1≤T) (hg:w4 lst k axes e A sp) (ho:wX B T A=true) :
  w4 lst k axes e (ZQ A sp) (wh (oneA A) sp)∧cntA (ZQ A sp)+1=cntA A:=by
 obtain ⟨h1,h2,r,l,rfl,h3,h4,h5⟩:=hg
 obtain ⟨hlt,he⟩:=List.getElem?_eq_some_iff.1 h4
 cases r with
 | nil =>
  rw [List.nil_append] at h1 h2 ho ⊢
  have hone:oneA [(k,(axes,l))]=true:=rfl
  have hov:B<za l:=by
   unfold wX at ho
   rw [Bool.or_eq_true,decide_eq_true_iff,decide_eq_true_iff,Zb] at ho
   rcases ho with ho | ho
   ·simpa [totA] using ho
   ·simp at ho;omega
  have hl2:2≤l.length:=by
   rcases Nat.lt_or_ge l.length 2 with h | h
   ·exfalso
    match l,h,hlt,he with
    | [x],_,hlt,he =>
     have h0:sp.toNat=0:=by simpa using hlt
     have:x=e:=by simp only [h0,List.getElem_cons_zero] at he;exact he
     rw [qh,this] at hov
     simp [za] at hov;omega
    | [],_,hlt,_=>simp at hlt
   ·exact h
  rw [hone]
  have hrem:∀ i:Int,0≤i→i<l.length→remL l i=l.eraseIdx i.toNat:=fun i a b=>by unfold remL;rw [if_pos ⟨a,b⟩]
  by_cases h0:sp=0
  ·subst h0
   have hd:ZT (decide (([]:Sto)=[])) 0=1:=rfl
   have hn:wh true 0=0:=rfl
   have hlen:(l.eraseIdx 1).length=l.length-1:=List.length_eraseIdx_of_lt (by omega)
   have hne:l.eraseIdx 1≠[]:=fun h=>by rw [h] at hlen;simp at hlen;omega
   have hs:ZQ [(k,(axes,l))] 0=[(k,(axes,l.eraseIdx 1))]:=by
    show qX k (axes,remL l _) []=_
    rw [hd,hrem 1 (by omega) (by omega)]
    unfold qX
    rw [if_neg (by exact hne)];rfl
   rw [hs,hn]
   refine ⟨⟨by simp,fun x hx=>by rw [List.mem_singleton.1 hx];exact hne,[],_,rfl,Int.le_refl _,?_,fun h=>by have:=h5 h;rw [hlen];simp at this;omega⟩,by rw [wy,wy];show (l.eraseIdx 1).length+_+1=l.length+_;simp only [cntA,List.map_nil,List.sum_nil];omega⟩
   have:(l.eraseIdx 1)[0]?=l[0]?:=by rw [List.getElem?_eraseIdx];simp
   exact this.trans h4
  ·have hd:ZT (decide (([]:Sto)=[])) sp=0:=by unfold ZT;rw [if_neg (fun h=>h0 h.2)]
   have hn:wh true sp=sp-1:=by unfold wh;rw [if_pos ⟨rfl,h0⟩]
   have hlen:(l.eraseIdx 0).length=l.length-1:=List.length_eraseIdx_of_lt (by omega)
   have hne:l.eraseIdx 0≠[]:=fun h=>by rw [h] at hlen;simp at hlen;omega
   have hs:ZQ [(k,(axes,l))] sp=[(k,(axes,l.eraseIdx 0))]:=by
    show qX k (axes,remL l _) []=_
    rw [hd,hrem 0 (by omega) (by omega)]
    unfold qX
    rw [if_neg (by exact hne)];rfl
   rw [hs,hn]
   refine ⟨⟨by simp,fun x hx=>by rw [List.mem_singleton.1 hx];exact hne,[],_,rfl,by omega,?_,fun h=>by have:=h5 h;rw [hlen];omega⟩,by rw [wy,wy];show (l.eraseIdx 0).length+_+1=l.length+_;simp only [cntA,List.map_nil,List.sum_nil];omega⟩
   have:(l.eraseIdx 0)[(sp-1).toNat]?=l[sp.toNat]?:=by
    rw [List.getElem?_eraseIdx,if_neg (by omega)]
    congr 1;omega
   exact this.trans h4
 | cons x r =>
  have hnone:oneA (x::r++[(k,(axes,l))])=false:=by unfold oneA;simp
  have hnil:decide (r++[(k,(axes,l))]=[])=false:=by simp
  have hd:ZT (decide (r++[(k,(axes,l))]=[])) sp=0:=by unfold ZT;rw [hnil];simp
  have hn:wh false sp=sp:=by unfold wh;simp
  rw [hnone,hn]
  have hx:x.2.2≠[]:=h2 x (by simp)
  have hxl:0<x.2.2.length:=List.length_pos_iff.2 hx
  have hrem:remL x.2.2 0=x.2.2.eraseIdx 0:=by unfold remL;rw [if_pos ⟨Int.le_refl _,by omega⟩];rfl
  have hs:ZQ (x::r++[(k,(axes,l))]) sp=qX x.1 (x.2.1,x.2.2.eraseIdx 0) (r++[(k,(axes,l))]):=by
   show qX x.1 (x.2.1,remL x.2.2 (ZT (decide (r++[(k,(axes,l))]=[])) sp)) _=_
   rw [hd,hrem];rfl
  rw [hs]
  have hlen:(x.2.2.eraseIdx 0).length=x.2.2.length-1:=List.length_eraseIdx_of_lt hxl
  rw [List.cons_append,List.map_cons,List.nodup_cons] at h1
  unfold qX
  by_cases he0:x.2.2.eraseIdx 0=[]
  ·rw [if_pos he0]
   refine ⟨⟨h1.2,fun y hy=>h2 y (by rw [List.cons_append];exact List.mem_cons_of_mem _ hy),r,l,rfl,h3,h4,h5⟩,?_⟩
   rw [List.cons_append,wy]
   rw [he0] at hlen;simp at hlen;omega
  ·rw [if_neg he0]
   refine ⟨⟨by rw [List.map_cons,List.nodup_cons];exact h1,fun y hy=>?_,(x.1,(x.2.1,x.2.2.eraseIdx 0))::r,l,rfl,h3,h4,h5⟩,?_⟩
   ·rcases List.mem_cons.1 hy with rfl | hy
    ·exact he0
    ·exact h2 y (by rw [List.cons_append];exact List.mem_cons_of_mem _ hy)
   ·rw [List.cons_append,wy,wy]
    show (x.2.2.eraseIdx 0).length+_+1=_
    omega
theorem qK {B T:Nat} {lst:Bool} {k:Str} {axes:List Axs} {e:Ent} {A:Sto} {sp:Int} (hB:zL e≤B) (hT:1≤T) (hg:w4 lst k axes e A sp) (ho:wX B T A=true):evF B T A sp=evF B T (ZQ A sp) (wh (oneA A) sp):=by
 obtain ⟨_,h⟩:=good_step hB hT hg ho
 unfold evF
 rw [← h]
 show (if wX B T A=true then _ else _)=_
 rw [if_pos ho]
theorem evF_done {B T:Nat} {A:Sto} {sp:Int} (ho:wX B T A=false):evF B T A sp=A:=by
 unfold evF
 cases h:cntA A with
 | zero=>rfl
 | succ n=>show (if wX B T A=true then _ else _)=_;rw [if_neg (by rw [ho];simp)]
/-- What is kept of an order of use,whatever is dropped. -/
theorem evF_good {B T:Nat} {lst:Bool} {k:Str} {axes:List Axs} {e:Ent} (hB:zL e≤B) (hT:1≤T):∀ (n:Nat) {A:Sto} {sp:Int},cntA A=n→w4 lst k axes e A sp →
  wX B T (evF B T A sp)=false∧∃ sp',w4 lst k axes e (evF B T A sp) sp'
 | n,A,sp,hn,hg=>by
  cases ho:wX B T A with
  | false=>rw [evF_done ho];exact ⟨ho,sp,hg⟩
  | true =>
   obtain ⟨h1,h2⟩:=good_step hB hT hg ho
   rw [qK hB hT hg ho]
   match n,hn with
   | 0,hn=>omega
   | n+1,hn=>exact evF_good hB hT n (by omega) h1
theorem stepA_all {p:Tab→Prop} (hp:∀ ax l m,m.Sublist l→p (ax,l)→p (ax,m)):∀ {A:Sto} {sp:Int},(∀ x∈A,p x.2)→∀ x∈ZQ A sp,p x.2
 | [],_,_=>fun x hx=>by cases hx
 | y::r,sp,h=>fun x hx=>by
  have hx':x∈qX y.1 (y.2.1,remL y.2.2 (ZT (decide (r=[])) sp)) r:=hx
  unfold qX at hx'
  by_cases h0:(y.2.1,remL y.2.2 (ZT (decide (r=[])) sp)).2=[]
  ·rw [if_pos h0] at hx'
   exact h x (List.mem_cons_of_mem _ hx')
  ·rw [if_neg h0] at hx'
   rcases List.mem_cons.1 hx' with rfl | hx'
   ·exact hp _ _ _ (remL_sub _ _) (h y List.mem_cons_self)
   ·exact h x (List.mem_cons_of_mem _ hx')
theorem evF_all {p:Tab→Prop} (hp:∀ ax l m,m.Sublist l→p (ax,l)→p (ax,m)) {B T:Nat}:∀ (n:Nat) {A:Sto} {sp:Int},(∀ x∈A,p x.2)→∀ x∈evGo B T n A sp,p x.2
 | 0,_,_,h=>h
 | n+1,A,sp,h=>by
  unfold evGo
  split
  ·exact evF_all hp n (stepA_all hp h)
  ·exact h
/-! ### What each call does -/
def Yw (A:Sto) (k:Str) (t:Tab):Sto:=delS A k++[(k,t)]
def setA (A:Sto) (k:Str) (t:Tab):Sto:=A.map fun x=>if x.1=k then (k,t) else x
def cutA (A:Sto) (k:Str) (t:Tab):Sto:=if t.2=[] then delS A k else setA A k t
def yc (A:Sto) (k:Str):Tab:=(zk A k).getD ([],[])
def inA (A:Sto) (k:Str):Bool:=(zk A k).isSome
def noEnt:Ent:=([],[],[],[],[],[],0,0)
def mixE (old e:Ent):Ent:=(old.1,old.2.1,old.2.2.1,e.2.2.2)
def qo (B:Nat) (e:Ent) (axes:List Axs):Bool:=!(decide (B<zL e)||(!decide (axes=[])&&!wm axes))
def putA (B V T:Nat) (A:Sto) (k:Str) (e:Ent) (axes:List Axs):Sto :=
 if qo B e axes=true then evF B T (Yw A k (putT (yc A k) e axes V)) ((putT (yc A k) e axes V).2.length-1) else A
def YZ (A:Sto) (k:Str):Sto:=if inA A k=true then Yw A k (yc A k) else A
def onB (A:Sto) (k:Str) (i:Int):Bool:=inA A k&&(decide (0≤i)&&decide (i<(yc A k).2.length))
def newE (A:Sto) (k:Str) (i:Int) (e:Ent):Ent:=mixE ((yc A k).2.getD i.toNat noEnt) e
def qH (B T:Nat) (A:Sto) (k:Str) (i:Int) (e:Ent):Sto :=
 if onB A k i=true then
  if B<zL (newE A k i e) then cutA A k ((yc A k).1,remL (yc A k).2 i)
  else evF B T (Yw A k ((yc A k).1,(yc A k).2.set i.toNat (newE A k i e))) i
 else A
def q4 (B:Nat) (A:Sto) (k:Str) (i:Int) (e:Ent):Bool:=onB A k i&&!decide (B<zL (newE A k i e))
/-- The bounds of a store. -/
structure InvA (B V T:Nat) (A:Sto):Prop where
 keys:(A.map (·.1)).Nodup
 some_:∀ x∈A,x.2.2≠[]
 most:∀ x∈A,x.2.2.length≤V
 under:wX B T A=false
theorem q9 {α:Type} (l:List (Str×α)) (k:Str):(delS l k).Sublist l:=List.filter_sublist
theorem InvA.tot {B V T:Nat} {A:Sto} (h:InvA B V T A):totA A≤B∧A.length≤T:=by
 have:=h.under
 unfold wX at this
 rw [Bool.or_eq_false_iff,decide_eq_false_iff_not,decide_eq_false_iff_not] at this
 omega
theorem totA_sub {A B:Sto} (h:A.Sublist B):totA A≤totA B:=by
 induction h with
 | slnil=>exact Nat.le_refl _
 | cons a _ ih=>rw [Zb];omega
 | cons_cons a _ ih=>rw [Zb,Zb];omega
theorem overA_le {B T:Nat} {A:Sto} (h1:totA A≤B) (h2:A.length≤T):wX B T A=false:=by
 unfold wX
 rw [Bool.or_eq_false_iff,decide_eq_false_iff_not,decide_eq_false_iff_not]
 omega
theorem inv_del {B V T:Nat} {A:Sto} (h:InvA B V T A) (k:Str):InvA B V T (delS A k) :=
 ⟨delS_nodup h.keys,fun x hx=>h.some_ x ((q9 A k).subset hx),fun x hx=>h.most x ((q9 A k).subset hx),
  overA_le (Nat.le_trans (totA_sub (q9 A k)) h.tot.1) (Nat.le_trans (q9 A k).length_le h.tot.2)⟩
theorem inA_mem {A:Sto} {k:Str} (h:inA A k=true):(k,yc A k)∈A:=by
 unfold inA at h
 unfold yc
 cases hl:zk A k with
 | none=>rw [hl] at h;cases h
 | some t=>exact WV hl
theorem front_perm {A:Sto} {k:Str} (hn:(A.map (·.1)).Nodup) (h:inA A k=true):(Yw A k (yc A k)).Perm A:=by
 have hm:=inA_mem h
 generalize yc A k=t at hm ⊢
 unfold Yw
 refine (List.perm_append_singleton _ _).trans ?_
 induction A with
 | nil=>cases hm
 | cons x r ih =>
  rw [List.map_cons,List.nodup_cons] at hn
  rcases List.mem_cons.1 hm with hx | hm
  ·subst hx
   have:delS ((k,t)::r) k=r:=by
    have h2:delS r k=r:=wx hn.1
    unfold delS at h2 ⊢
    rw [List.filter_cons,if_neg (by simp),h2]
   rw [this]
  ·have hne:x.1≠k:=fun e=>hn.1 (by rw [e];exact List.mem_map_of_mem (f:=(·.1)) hm)
   have:delS (x::r) k=x::delS r k:=by unfold delS;rw [List.filter_cons,if_pos (by simp [hne])]
   rw [this]
   exact (List.Perm.swap x (k,t) _).trans ((ih hn.2 (by unfold inA;rw [qB hn.2 hm];rfl) hm).cons x)
theorem inv_touch {B V T:Nat} {A:Sto} (h:InvA B V T A) (k:Str):InvA B V T (YZ A k):=by
 unfold YZ
 split
 ·rename_i hk
  have hp:=front_perm h.keys hk
  exact ⟨(hp.map _).nodup_iff.2 h.keys,fun x hx=>h.some_ x (hp.mem_iff.1 hx),fun x hx=>h.most x (hp.mem_iff.1 hx),overA_le (by rw [totA_perm hp];exact h.tot.1) (by rw [hp.length_eq];exact h.tot.2)⟩
 ·exact h
theorem front_good {A:Sto} {k:Str} {axes:List Axs} {l:List Ent} {i:Nat} {e:Ent} (lst:Bool) (hk:(A.map (·.1)).Nodup) (hs:∀ x∈A,x.2.2≠[]) (hl:l[i]?=some e) (hlst:lst=true→i+1=l.length):w4 lst k axes e (Yw A k (axes,l)) (i:Int):=by
 refine ⟨putS_nodup hk,fun x hx=>?_,delS A k,l,rfl,by omega,by simpa using hl,by simpa using hlst⟩
 rcases List.mem_append.1 hx with hx | hx
 ·exact hs x ((q9 A k).subset hx)
 ·rw [List.mem_singleton.1 hx]
  intro h0
  have h0':l=[]:=h0
  rw [h0'] at hl;cases hl
theorem front_most {A:Sto} {k:Str} {axes:List Axs} {l:List Ent} {V:Nat} (hs:∀ x∈A,x.2.2.length≤V) (hl:l.length≤V):∀ x∈Yw A k (axes,l),x.2.2.length≤V:=fun x hx=>by
 rcases List.mem_append.1 hx with hx | hx
 ·exact hs x ((q9 A k).subset hx)
 ·rw [List.mem_singleton.1 hx];exact hl
theorem inv_ev {B V T:Nat} {lst:Bool} {k:Str} {axes:List Axs} {e:Ent} {A:Sto} {sp:Int} (hB:zL e≤B) (hT:1≤T) (hg:w4 lst k axes e A sp) (hm:∀ x∈A,x.2.2.length≤V):InvA B V T (evF B T A sp):=by
 obtain ⟨h1,sp',h2,h3,_⟩:=evF_good hB hT _ rfl hg
 exact ⟨h2,h3,fun x hx=>evF_all (p:=fun t=>t.2.length≤V) (fun ax l m hs h=>Nat.le_trans hs.length_le h) _ hm x hx,h1⟩
theorem keepT_last (t:Tab) (e:Ent) (axes:List Axs):∃ l,wY t e axes=l++[e]:=⟨_,rfl⟩
theorem putT_get {t:Tab} {e:Ent} {axes:List Axs} {V:Nat} (hV:1≤V):1≤(putT t e axes V).2.length∧(putT t e axes V).2.length≤V∧(putT t e axes V).2[(putT t e axes V).2.length-1]?=some e:=by
 obtain ⟨l,hl⟩:=keepT_last t e axes
 have h1:(putT t e axes V).2=(l++[e]).drop ((l++[e]).length-V):=by unfold putT;rw [hl]
 rw [h1]
 have h2:(l++[e]).length=l.length+1:=by simp
 rw [List.length_drop,h2]
 refine ⟨by omega,by omega,?_⟩
 rw [List.getElem?_drop,List.getElem?_append_right (by omega)]
 have:l.length+1-V+(l.length+1-(l.length+1-V)-1)-l.length=0:=by omega
 rw [this];rfl
theorem put_good {A:Sto} {k:Str} {e:Ent} {axes:List Axs} {V:Nat} (hV:1≤V) (hk:(A.map (·.1)).Nodup) (hs:∀ x∈A,x.2.2≠[]):w4 true k axes e (Yw A k (putT (yc A k) e axes V)) (((putT (yc A k) e axes V).2.length:Int)-1):=by
 obtain ⟨h1,h2,h3⟩:=putT_get (t:=yc A k) (e:=e) (axes:=axes) hV
 have:=front_good (k:=k) (axes:=axes) (l:=(putT (yc A k) e axes V).2) true hk hs h3 (fun _=>by omega)
 have e1:(((putT (yc A k) e axes V).2.length-1:Nat):Int)=((putT (yc A k) e axes V).2.length:Int)-1:=by omega
 rw [e1] at this
 exact this
theorem fits_size {B:Nat} {e:Ent} {axes:List Axs} (h:qo B e axes=true):zL e≤B:=by
 unfold qo at h
 rw [Bool.not_eq_true',Bool.or_eq_false_iff,decide_eq_false_iff_not] at h
 omega
theorem inv_put {B V T:Nat} {A:Sto} (h:InvA B V T A) (hV:1≤V) (hT:1≤T) (k:Str) (e:Ent) (axes:List Axs):InvA B V T (putA B V T A k e axes):=by
 unfold putA
 split
 ·rename_i hf
  exact inv_ev (fits_size hf) hT (put_good hV h.keys h.some_) (front_most h.most (putT_get hV).2.1)
 ·exact h
theorem setA_keys {A:Sto} {k:Str} {t:Tab}:(setA A k t).map (·.1)=A.map (·.1):=by
 unfold setA
 rw [List.map_map]
 refine List.map_congr_left fun x _=>?_
 show (if x.1=k then (k,t) else x).1=x.1
 split
 ·rename_i h;exact h.symm
 ·rfl
theorem setA_mem {A:Sto} {k:Str} {t:Tab} {x:Str×Tab} (hx:x∈setA A k t):x∈A∨x.2=t:=by
 unfold setA at hx
 obtain ⟨y,hy,rfl⟩:=List.mem_map.1 hx
 split
 ·exact .inr rfl
 ·exact .inl hy
theorem setA_tot:∀ {A:Sto} {k:Str} {t u:Tab},(A.map (·.1)).Nodup→(k,u)∈A→za t.2≤za u.2→totA (setA A k t)≤totA A
 | [],_,_,_,_,h,_=>by cases h
 | x::r,k,t,u,hn,h,hs=>by
  rw [List.map_cons,List.nodup_cons] at hn
  have e:setA (x::r) k t=(if x.1=k then (k,t) else x)::setA r k t:=rfl
  rw [e,Zb,Zb]
  rcases List.mem_cons.1 h with hx | hm
  ·subst hx
   rw [if_pos rfl]
   have:setA r k t=r:=by
    have:∀ y∈r,(if y.1=k then (k,t) else y)=y:=fun y hy=>if_neg fun e=>hn.1 (by rw [← e];exact List.mem_map_of_mem (f:=(·.1)) hy)
    unfold setA
    rw [List.map_congr_left this,List.map_id'']
    exact fun _=>rfl
   rw [this]
   have:za t.2≤za u.2:=hs
   show za t.2+_≤za u.2+_
   omega
  ·rw [if_neg fun e=>hn.1 (by rw [e];exact List.mem_map_of_mem (f:=(·.1)) hm)]
   have:=setA_tot hn.2 hm hs
   omega
theorem inv_cut {B V T:Nat} {A:Sto} (h:InvA B V T A) {k:Str} {t:Tab} (hk:inA A k=true) (hs:t.2.Sublist (yc A k).2):InvA B V T (cutA A k t):=by
 have hm:=inA_mem hk
 unfold cutA
 split
 ·exact inv_del h k
 ·rename_i hne
  refine ⟨by rw [setA_keys];exact h.keys,fun x hx=>?_,fun x hx=>?_,overA_le (Nat.le_trans (setA_tot h.keys hm (Wd hs)) h.tot.1) (by unfold setA;rw [List.length_map];exact h.tot.2)⟩
  ·rcases setA_mem hx with hx | hx
   ·exact h.some_ x hx
   ·rw [hx];exact hne
  ·rcases setA_mem hx with hx | hx
   ·exact h.most x hx
   ·rw [hx];exact Nat.le_trans hs.length_le (h.most _ hm)
theorem onB_lt {A:Sto} {k:Str} {i:Int} (h:onB A k i=true):inA A k=true∧0≤i∧i.toNat<(yc A k).2.length:=by
 unfold onB at h
 rw [Bool.and_eq_true,Bool.and_eq_true,decide_eq_true_iff,decide_eq_true_iff] at h
 exact ⟨h.1,h.2.1,by omega⟩
theorem repl_good {A:Sto} {k:Str} {i:Int} {e:Ent} (hk:(A.map (·.1)).Nodup) (hs:∀ x∈A,x.2.2≠[]) (h:onB A k i=true):w4 false k (yc A k).1 (newE A k i e) (Yw A k ((yc A k).1,(yc A k).2.set i.toNat (newE A k i e))) i:=by
 obtain ⟨h1,h2,h3⟩:=onB_lt h
 have:=front_good (k:=k) (axes:=(yc A k).1) (l:=(yc A k).2.set i.toNat (newE A k i e)) (i:=i.toNat) (e:=newE A k i e) false hk hs (by rw [List.getElem?_set,if_pos rfl,if_pos h3]) (fun h=>by cases h)
 rw [Int.toNat_of_nonneg h2] at this
 exact this
theorem inv_repl {B V T:Nat} {A:Sto} (h:InvA B V T A) (hT:1≤T) (k:Str) (i:Int) (e:Ent):InvA B V T (qH B T A k i e):=by
 unfold qH
 split
 ·rename_i ho
  obtain ⟨h1,h2,h3⟩:=onB_lt ho
  split
  ·exact inv_cut h h1 (remL_sub _ _)
  ·rename_i hb
   exact inv_ev (by omega) hT (repl_good h.keys h.some_ ho) (front_most h.most (by rw [List.length_set];exact h.most _ (inA_mem h1)))
 ·exact h
theorem inv_nil (B V T:Nat):InvA B V T []:=⟨List.nodup_nil,fun x hx=>(List.not_mem_nil hx).elim,fun x hx=>(List.not_mem_nil hx).elim,by unfold wX;simp [totA]⟩
/-! ### The parts of a call -/
/-- A table that is not too long. -/
structure OkT (t:Tab):Prop where
 axes:OkA t.1
 ents:∀ e∈t.2,OkE e
 size:za t.2≤10000000000
theorem qA:OkA []:=⟨Nat.zero_le _,fun _ h=>(List.not_mem_nil h).elim,fun _ h=>(List.not_mem_nil h).elim,fun _ h=>(List.not_mem_nil h).elim⟩
theorem okT_nil:OkT ([],[]):=⟨qA,fun _ h=>(List.not_mem_nil h).elim,Nat.zero_le _⟩
theorem Zs {A:Sto} (h:∀ x∈A,OkT x.2) (k:Str):OkT (yc A k):=by
 unfold yc
 cases hl:zk A k with
 | none=>exact okT_nil
 | some t=>exact h _ (WV hl)
theorem OkT.len {t:Tab} (h:OkT t):t.2.length≤100000000:=by have:=sizeL_len t.2;have:=h.size;omega
def cutS (os:List Str) (k:Str):List Str:=os.filter fun o=>!decide (o=k)
def frontS (os:List Str) (k:Str):List Str:=cutS os k++[k]
def setM (A:Sto) (k:Str) (t:Tab):Sto:=if t.2=[] then delS A k else delS A k++[(k,t)]
def setO (os:List Str) (k:Str) (t:Tab):List Str:=if t.2=[] then cutS os k else os
theorem setM_yes {A:Sto} {k:Str} {t:Tab} (h:0<t.2.length):setM A k t=delS A k++[(k,t)]:=if_neg fun e=>by rw [e] at h;simp at h
theorem setM_no {A:Sto} {k:Str} {t:Tab} (h:¬ 0<t.2.length):setM A k t=delS A k:=if_pos (List.length_eq_zero_iff.1 (by omega))
theorem setO_yes {os:List Str} {k:Str} {t:Tab} (h:0<t.2.length):setO os k t=os:=if_neg fun e=>by rw [e] at h;simp at h
theorem setO_no {os:List Str} {k:Str} {t:Tab} (h:¬ 0<t.2.length):setO os k t=cutS os k:=if_pos (List.length_eq_zero_iff.1 (by omega))
theorem del_map {A:Sto} {k:Str}:(delS A k).map (·.1)=cutS (A.map (·.1)) k:=delS_keys
theorem front_map {A:Sto} {k:Str} {t:Tab}:(Yw A k t).map (·.1)=frontS (A.map (·.1)) k:=by
 unfold Yw frontS
 rw [List.map_append,del_map];rfl
theorem touch_no {A:Sto} {k:Str} (h:inA A k=false):YZ A k=A:=by unfold YZ;rw [if_neg (by rw [h];simp)]
theorem touch_yes {A:Sto} {k:Str} (h:inA A k=true):YZ A k=Yw A k (yc A k):=by unfold YZ;rw [if_pos h]
theorem touch_perm {A:Sto} {k:Str} (hn:(A.map (·.1)).Nodup):A.Perm (YZ A k):=by
 cases h:inA A k with
 | false=>rw [touch_no h]
 | true=>rw [touch_yes h];exact (front_perm hn h).symm
def remA (A:Sto) (k:Str):Sto:=delS A k
theorem rem_no {A:Sto} {k:Str} (h:inA A k=false):delS A k=A:=by
 unfold inA at h
 cases hl:zk A k with
 | some t=>rw [hl] at h;cases h
 | none =>
  refine wx fun hm=>?_
  obtain ⟨x,hx,e⟩:=List.mem_map.1 hm
  have:∀ {l:Sto},x∈l→zk l k≠none:=fun {l}=>by
   induction l with
   | nil=>intro h;cases h
   | cons y r ih =>
    intro h
    unfold zk
    split
    ·simp
    ·rename_i hne
     rcases List.mem_cons.1 h with h | h
     ·exact absurd (by rw [← h];exact e.symm) hne
     ·exact ih h
  exact this hx hl
theorem find_no {A:Sto} {k:Str} (h:inA A k=false):yc A k=([],[]):=by
 unfold inA at h;unfold yc
 cases hl:zk A k with
 | some t=>rw [hl] at h;cases h
 | none=>rfl
theorem del_tot {A:Sto} {k:Str} (hn:(A.map (·.1)).Nodup):totA (delS A k)+za (yc A k).2=totA A:=by
 cases h:inA A k with
 | false=>rw [rem_no h,find_no h];rfl
 | true =>
  have:=totA_perm (front_perm hn h)
  unfold Yw at this
  rw [wJ,Zb] at this
  simpa [totA] using this
def zg (A:Sto):List Str:=A.map (·.1)
theorem Y3 (A:Sto):(zg A).length=A.length:=List.length_map _
theorem keys_front {A:Sto} {k:Str} {t:Tab}:zg (Yw A k t)=frontS (zg A) k:=front_map
theorem keys_del {A:Sto} {k:Str}:zg (delS A k)=cutS (zg A) k:=del_map
def q6 (A:Sto):Str:=(zg A).getD 0 []
theorem good_ne {lst:Bool} {k:Str} {axes:List Axs} {e:Ent} {A:Sto} {sp:Int} (hg:w4 lst k axes e A sp):0<A.length:=by
 obtain ⟨_,_,r,l,rfl,_⟩:=hg
 simp
theorem good_one {lst:Bool} {k:Str} {axes:List Axs} {e:Ent} {A:Sto} {sp:Int} (hg:w4 lst k axes e A sp):decide (q6 A=k)=oneA A:=by
 obtain ⟨hn,_,r,l,rfl,_⟩:=hg
 cases r with
 | nil=>show decide (k=k)=true;simp
 | cons x r =>
  rw [List.cons_append,List.map_cons,List.nodup_cons] at hn
  have:q6 (x::r++[(k,(axes,l))])=x.1:=rfl
  rw [this,decide_eq_false (fun e=>hn.1 (by rw [e];simp))]
  unfold oneA;simp
theorem step_eq {A:Sto} {sp:Int} {t:Tab} (hne:0<A.length) (hn:(A.map (·.1)).Nodup) (ht:t=((yc A (q6 A)).1,remL (yc A (q6 A)).2 (ZT (oneA A) sp))) :
  (setM A (q6 A) t).Perm (ZQ A sp)∧setO (zg A) (q6 A) t=zg (ZQ A sp)∧totA (ZQ A sp)=totA A+za t.2-za (yc A (q6 A)).2:=by
 match A,hne,hn with
 | x::r,_,hn =>
  have hk:q6 (x::r)=x.1:=rfl
  have hf:yc (x::r) x.1=x.2:=by unfold yc zk;rw [if_pos rfl];rfl
  rw [List.map_cons,List.nodup_cons] at hn
  have hd:delS (x::r) x.1=r:=by
   have h2:delS r x.1=r:=wx hn.1
   unfold delS at h2 ⊢
   rw [List.filter_cons,if_neg (by simp),h2]
  have hone:decide (r=[])=oneA (x::r):=by unfold oneA;cases r <;> simp
  rw [hk,hf] at ht
  rw [hk,hf]
  have hs:ZQ (x::r) sp=qX x.1 t r:=by rw [ht,← hone];rfl
  have hc:cutS (zg (x::r)) x.1=zg r:=by rw [← keys_del,hd]
  rw [hs]
  unfold setM setO qX
  rw [hd,hc]
  by_cases h0:t.2=[]
  ·rw [if_pos h0,if_pos h0,if_pos h0,Zb,h0]
   refine ⟨List.Perm.refl _,rfl,?_⟩
   show totA r=za x.2.2+totA r+0-_;omega
  ·rw [if_neg h0,if_neg h0,if_neg h0,Zb,Zb]
   refine ⟨List.perm_append_singleton _ _,rfl,?_⟩
   show za t.2+totA r=za x.2.2+totA r+za t.2-_;omega
theorem okT_rem {t:Tab} (h:OkT t) (d:Int):OkT (t.1,remL t.2 d):=⟨h.axes,fun e he=>h.ents e ((remL_sub _ _).subset he),Nat.le_trans (Wd (remL_sub _ _)) h.size⟩
theorem q5 {A:Sto} {sp:Int} (h:∀ x∈A,OkT x.2):∀ x∈ZQ A sp,OkT x.2 :=
 stepA_all (p:=OkT) (fun ax l m hs h=>⟨h.axes,fun e he=>h.ents e (hs.subset he),Nat.le_trans (Wd hs) h.size⟩) h
theorem step_len (A:Sto) (sp:Int):(ZQ A sp).length≤A.length:=by
 match A with
 | []=>exact Nat.le_refl _
 | x::r=>show (qX _ _ r).length≤_;unfold qX;split <;> simp
theorem step_tot (A:Sto) (sp:Int):totA (ZQ A sp)≤totA A:=by
 match A with
 | []=>exact Nat.le_refl _
 | x::r =>
  show totA (qX x.1 (x.2.1,remL x.2.2 (ZT (decide (r=[])) sp)) r)≤_
  have:=Wd (remL_sub x.2.2 (ZT (decide (r=[])) sp))
  unfold qX
  split
  ·rw [Zb];omega
  ·rw [Zb,Zb];show za (remL _ _)+_≤_;omega
theorem good_sp {lst:Bool} {k:Str} {axes:List Axs} {e:Ent} {A:Sto} {sp:Int} (hg:w4 lst k axes e A sp) (hok:∀ x∈A,OkT x.2):0≤sp∧sp≤100000000:=by
 obtain ⟨_,_,r,l,rfl,h1,h2,_⟩:=hg
 obtain ⟨h3,_⟩:=List.getElem?_eq_some_iff.1 h2
 have h4:=(hok (k,(axes,l)) (by simp)).len
 have h5:l.length≤100000000:=h4
 omega
theorem fits_eq {B:Nat} {e:Ent} {axes:List Axs}:(decide (B<zL e)||(decide (0<axes.length)&&!wm axes))=!qo B e axes:=by
 unfold qo
 have:decide (0<axes.length)=!decide (axes=[]):=by cases axes <;> simp
 rw [this];simp
theorem fits_no {B:Nat} {e:Ent} {axes:List Axs} (h:(decide (B<zL e)||(decide (0<axes.length)&&!wm axes))=true):qo B e axes=false:=by rw [fits_eq] at h;simpa using h
theorem fits_yes {B:Nat} {e:Ent} {axes:List Axs} (h:(decide (B<zL e)||(decide (0<axes.length)&&!wm axes))=false):qo B e axes=true:=by rw [fits_eq] at h;simpa using h
theorem put_no {B V T:Nat} {A:Sto} {k:Str} {e:Ent} {axes:List Axs} (h:qo B e axes=false):putA B V T A k e axes=A:=by unfold putA;rw [if_neg (by rw [h];simp)]
theorem put_yes {B V T:Nat} {A:Sto} {k:Str} {e:Ent} {axes:List Axs} (h:qo B e axes=true):putA B V T A k e axes=evF B T (Yw A k (putT (yc A k) e axes V)) ((putT (yc A k) e axes V).2.length-1):=by unfold putA;rw [if_pos h]
theorem putT_sub {t:Tab} {e:Ent} {axes:List Axs} {V:Nat}:(∀ x∈(putT t e axes V).2,x∈t.2∨x=e)∧za (putT t e axes V).2≤za t.2+zL e:=by
 have h1:((putT t e axes V).2).Sublist (wY t e axes):=List.drop_sublist _ _
 have h2:(wY t e axes).Sublist (t.2++[e]):=by
  unfold wY
  refine List.Sublist.append ?_ (List.Sublist.refl _)
  split
  ·exact List.filter_sublist
  ·exact List.nil_sublist _
 have h3:=h1.trans h2
 refine ⟨fun x hx=>by simpa using h3.subset hx,?_⟩
 have:=Wd h3
 rw [sizeL_append] at this
 simpa [za] using this
theorem okT_put {t:Tab} {e:Ent} {axes:List Axs} {V:Nat} (ht:OkT t) (he:OkE e) (ha:OkA axes) (hs:za t.2+zL e≤10000000000):OkT (putT t e axes V) :=
 ⟨ha,fun x hx=>by rcases putT_sub.1 x hx with h | h;exact ht.ents x h;rw [h];exact he,Nat.le_trans putT_sub.2 hs⟩
theorem front_tot {A:Sto} {k:Str} {t:Tab} (hn:(A.map (·.1)).Nodup):totA (Yw A k t)+za (yc A k).2=totA A+za t.2:=by
 have:=del_tot (k:=k) hn
 unfold Yw
 rw [wJ,Zb]
 show totA (delS A k)+(za t.2+0)+_=_
 omega
theorem front_len (A:Sto) (k:Str) (t:Tab):(Yw A k t).length≤A.length+1:=by
 unfold Yw
 rw [List.length_append,List.length_singleton]
 have:=(q9 A k).length_le
 omega
theorem wu {A:Sto} {k:Str} {t:Tab} (h:∀ x∈A,OkT x.2) (ht:OkT t):∀ x∈Yw A k t,OkT x.2:=fun x hx=>by
 rcases List.mem_append.1 hx with hx | hx
 ·exact h x ((q9 A k).subset hx)
 ·rw [List.mem_singleton.1 hx];exact ht
end Go.Plain
