/-
 Tables and stores in plain Lean: sizes,what Put and Remove make of a table,and a store as a list of tables from the least to the most recently used one;after each change the bounds hold. No program in sight. No conditions.
-/
import Derived.Test.YtfcidkjpebalkaaGreatDoorALawC
import Derived.Test.YtfcidkjpebalkaaGreatDoorASep6
namespace Go.Plain
open Go.Sep
set_option linter.unusedVariables false
set_option linter.unusedSimpArgs false
abbrev Ent:=List (List Str)×List Str×List Str×Str×List Fld×Str×Int×Int
abbrev Tab:=List Axs×List Ent
abbrev Sto:=List (Str×Tab)
abbrev tyE:Ty:=.pair (.list (.list .str)) (.pair (.list .str) (.pair (.list .str) (.pair .str (.pair (.list (.pair .str .str)) (.pair .str (.pair (.int .i64) (.int .i64)))))))
abbrev tyT:Ty:=.pair (.list (.pair .str (.list .str))) (.list tyE)
abbrev dE:Ent:=([],[],[],[],[],[],0,0)
def lenS (l:List Str):Nat:=(l.map fun s=>4+s.length).sum
def lenF (l:List Fld):Nat:=(l.map fun f=>4+f.1.length+f.2.length).sum
def lenK (l:List (List Str)):Nat:=(l.map lenS).sum
def sizeE (e:Ent):Nat:=100+e.2.2.2.1.length+e.2.2.2.2.2.1.length+lenS e.2.1+lenS e.2.2.1+lenF e.2.2.2.2.1+lenK e.1
def sizeL (l:List Ent):Nat:=(l.map sizeE).sum
def totA (A:Sto):Nat:=(A.map fun x=>sizeL x.2.2).sum
def cntA (A:Sto):Nat:=(A.map fun x=>x.2.2.length).sum
def hasK (axes:List Axs) (e:Ent) (key:List Str):Bool:=e.1.any fun k=>ZW axes k key
def replB (axes:List Axs) (e old:Ent):Bool:=if axes=[] then decide (e.2.1=old.2.1)&&decide (e.2.2.1=old.2.2.1) else e.1.any fun k=>hasK axes old k
def keepT (t:Tab) (e:Ent) (axes:List Axs):List Ent:=(if t.1=axes then t.2.filter (fun o=>!replB axes e o) else [])++[e]
def putT (t:Tab) (e:Ent) (axes:List Axs) (limit:Nat):Tab:=(axes,(keepT t e axes).drop ((keepT t e axes).length-limit))
def remL (l:List Ent) (i:Int):List Ent:=if 0≤i∧i<l.length then l.eraseIdx i.toNat else l
theorem take_next {α:Type} {l:List α} {i:Nat} {dd:α} (h:i<l.length):l.take (i+1)=l.take i++[l.getD i dd]:=by
 rw [List.take_add_one,List.getElem?_eq_getElem h,Option.toList_some,List.getD_eq_getElem?_getD,List.getElem?_eq_getElem h]
 simp
def noE:Ent:=([],[],[],[],[],[],0,0)
/-- An entry that is not too long. -/
structure OkE (e:Ent):Prop where
 size:sizeE e≤1000000000
 keys:e.1.length≤1000000
 strs:∀ k∈e.1,∀ s∈k,s.length≤300000
/-- Axes that are not too long. -/
structure OkA (l:List Axs):Prop where
 len:l.length≤1000
 names:∀ a∈l,a.1.length≤1000000
 vals:∀ a∈l,a.2.length≤1000000000
 strs:∀ a∈l,∀ x∈a.2,x.length≤300000
/-- What 'slices.DeleteFunc' has done when it has come to j. -/
def DelTo {α:Type} (q:α→Bool) (l xs:List α) (k j:Nat):Prop:=k≤j∧j≤l.length∧xs.length=l.length∧xs.take k=(l.take j).filter (fun o=>!q o)∧xs.drop j=l.drop j
theorem DelTo.get {α:Type} {q:α→Bool} {l xs:List α} {k j:Nat} (h:DelTo q l xs k j) (hj:j<l.length) (dd:α):xs.getD j dd=l.getD j dd:=by
 obtain ⟨_,_,h3,_,h5⟩:=h
 have e:(xs.drop j)[0]?=(l.drop j)[0]?:=by rw [h5]
 rw [List.getElem?_drop,List.getElem?_drop] at e
 rw [List.getD_eq_getElem?_getD,List.getD_eq_getElem?_getD]
 simpa using congrArg (fun o=>o.getD dd) e
theorem filter_next {α:Type} {p:α→Bool} {l:List α} {j:Nat} {dd:α} (h:j<l.length):(l.take (j+1)).filter p=(l.take j).filter p++(if p (l.getD j dd)=true then [l.getD j dd] else []):=by
 rw [take_next (dd:=dd) h,List.filter_append,List.filter_cons,List.filter_nil]
theorem DelTo.skip {α:Type} {q:α→Bool} {l xs:List α} {k j:Nat} {dd:α} (h:DelTo q l xs k j) (hj:j<l.length) (hq:q (l.getD j dd)=true):DelTo q l xs k (j+1):=by
 obtain ⟨h1,h2,h3,h4,h5⟩:=h
 refine ⟨by omega,by omega,h3,?_,by rw [← List.drop_drop,← List.drop_drop,h5]⟩
 rw [filter_next (dd:=dd) hj,if_neg (by rw [hq];simp),List.append_nil,h4]
theorem DelTo.done {α:Type} {q:α→Bool} {l xs:List α} {k j:Nat} (h:DelTo q l xs k j) (hj:¬ j<l.length):xs.take k=l.filter (fun o=>!q o):=by
 rw [h.2.2.2.1,List.take_of_length_le (by omega)]
theorem sizeE_ge (e:Ent):100≤sizeE e:=by unfold sizeE;omega
theorem sizeL_cons (e:Ent) (l:List Ent):sizeL (e::l)=sizeE e+sizeL l:=by simp [sizeL]
theorem sizeL_len:∀ (l:List Ent),100*l.length≤sizeL l
 | []=>Nat.le_refl _
 | e::l=>by have:=sizeL_len l;have:=sizeE_ge e;rw [sizeL_cons,List.length_cons];omega
/-! ### Eviction -/
def overA (B T:Nat) (A:Sto):Bool:=decide (B<totA A)||decide (T<A.length)
def dropI (one:Bool) (sp:Int):Int:=if one=true∧sp=0 then 1 else 0
def nextI (one:Bool) (sp:Int):Int:=if one=true∧sp≠0 then sp-1 else sp
def consT (k:Str) (t:Tab) (r:Sto):Sto:=if t.2=[] then r else (k,t)::r
def stepA:Sto→Int→Sto
 | [],_=>[]
 | x::r,sp=>consT x.1 (x.2.1,remL x.2.2 (dropI (decide (r=[])) sp)) r
def oneA (A:Sto):Bool:=decide (A.length=1)
def evGo (B T:Nat):Nat→Sto→Int→Sto
 | 0,A,_=>A
 | n+1,A,sp=>if overA B T A=true then evGo B T n (stepA A sp) (nextI (oneA A) sp) else A
def evF (B T:Nat) (A:Sto) (sp:Int):Sto:=evGo B T (cntA A) A sp
/-- The entry e is the one that is spared,in the last table. -/
def GoodE (lst:Bool) (k:Str) (axes:List Axs) (e:Ent) (A:Sto) (sp:Int):Prop :=
 (A.map (·.1)).Nodup∧(∀ x∈A,x.2.2≠[])∧∃ r l,A=r++[(k,(axes,l))]∧0≤sp∧l[sp.toNat]?=some e∧(lst=true→sp.toNat+1=l.length)
/-! ### What each call does -/
def frontA (A:Sto) (k:Str) (t:Tab):Sto:=delS A k++[(k,t)]
def setA (A:Sto) (k:Str) (t:Tab):Sto:=A.map fun x=>if x.1=k then (k,t) else x
def cutA (A:Sto) (k:Str) (t:Tab):Sto:=if t.2=[] then delS A k else setA A k t
def findA (A:Sto) (k:Str):Tab:=(yz A k).getD ([],[])
def inA (A:Sto) (k:Str):Bool:=(yz A k).isSome
def noEnt:Ent:=([],[],[],[],[],[],0,0)
def mixE (old e:Ent):Ent:=(old.1,old.2.1,old.2.2.1,e.2.2.2)
def fitsB (B:Nat) (e:Ent) (axes:List Axs):Bool:=!(decide (B<sizeE e)||(!decide (axes=[])&&!YQ axes))
def putA (B V T:Nat) (A:Sto) (k:Str) (e:Ent) (axes:List Axs):Sto :=
 if fitsB B e axes=true then evF B T (frontA A k (putT (findA A k) e axes V)) ((putT (findA A k) e axes V).2.length-1) else A
def touchA (A:Sto) (k:Str):Sto:=if inA A k=true then frontA A k (findA A k) else A
def onB (A:Sto) (k:Str) (i:Int):Bool:=inA A k&&(decide (0≤i)&&decide (i<(findA A k).2.length))
def newE (A:Sto) (k:Str) (i:Int) (e:Ent):Ent:=mixE ((findA A k).2.getD i.toNat noEnt) e
def replA (B T:Nat) (A:Sto) (k:Str) (i:Int) (e:Ent):Sto :=
 if onB A k i=true then
  if B<sizeE (newE A k i e) then cutA A k ((findA A k).1,remL (findA A k).2 i)
  else evF B T (frontA A k ((findA A k).1,(findA A k).2.set i.toNat (newE A k i e))) i
 else A
def replB2 (B:Nat) (A:Sto) (k:Str) (i:Int) (e:Ent):Bool:=onB A k i&&!decide (B<sizeE (newE A k i e))
/-- The bounds of a store. -/
structure InvA (B V T:Nat) (A:Sto):Prop where
 keys:(A.map (·.1)).Nodup
 some_:∀ x∈A,x.2.2≠[]
 most:∀ x∈A,x.2.2.length≤V
 under:overA B T A=false
theorem InvA.tot {B V T:Nat} {A:Sto} (h:InvA B V T A):totA A≤B∧A.length≤T:=by
 have:=h.under
 unfold overA at this
 rw [Bool.or_eq_false_iff,decide_eq_false_iff_not,decide_eq_false_iff_not] at this
 omega
/-! ### The parts of a call -/
/-- A table that is not too long. -/
structure OkT (t:Tab):Prop where
 axes:OkA t.1
 ents:∀ e∈t.2,OkE e
 size:sizeL t.2≤10000000000
theorem qx:OkA []:=⟨Nat.zero_le _,fun _ h=>(List.not_mem_nil h).elim,fun _ h=>(List.not_mem_nil h).elim,fun _ h=>(List.not_mem_nil h).elim⟩
theorem OkT.len {t:Tab} (h:OkT t):t.2.length≤100000000:=by have:=sizeL_len t.2;have:=h.size;omega
def cutS (os:List Str) (k:Str):List Str:=os.filter fun o=>!decide (o=k)
def frontS (os:List Str) (k:Str):List Str:=cutS os k++[k]
def setM (A:Sto) (k:Str) (t:Tab):Sto:=if t.2=[] then delS A k else delS A k++[(k,t)]
def setO (os:List Str) (k:Str) (t:Tab):List Str:=if t.2=[] then cutS os k else os
def remA (A:Sto) (k:Str):Sto:=delS A k
def keysA (A:Sto):List Str:=A.map (·.1)
def headK (A:Sto):Str:=(keysA A).getD 0 []
end Go.Plain
