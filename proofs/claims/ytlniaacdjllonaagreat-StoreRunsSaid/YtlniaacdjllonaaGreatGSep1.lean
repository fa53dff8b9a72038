/-
 A calculus of assertions for walks: what a function's memory holds is told by a list of assertions (own variables,own slices,and memory that nobody writes any more);each operation has one rule. No program in sight. No conditions.
 The rules of the calculus for code: sequences,branches,blocks,loops,the end of a function;contracts and calls. No program in sight. No conditions.
 The rules of the calculus for operations on numbers,bytes,strings and booleans. No program in sight. No conditions.
 The rules of the calculus for memory: calls by contract,own variables,reading what nobody writes any more. No program in sight. No conditions.
 The rules of the calculus for guarded operations and for slices: conversion,length,indexing,stores,append,make,slicing. No program in sight. No conditions.
 The rules of the calculus for regions that draw their order,for arrays,and for entries without a Go body. No program in sight. No conditions.
 The rules of the calculus for slices that nobody writes any more,and for appending to one's own: indexing,slicing,literals,append,fields,struct values. No program in sight. No conditions.
 The rules of the calculus for struct values,and for regions that draw their order and change memory: every order that may come up,one by one. No program in sight. No conditions.
 The rules of the calculus for guards within guards. No program in sight. No conditions.
 The rules of the calculus for slice literals and for appending to one's own slice. No program in sight. No conditions.
-/
import Derived.WalkKit
import Derived.OrdersHeld
import Derived.Laws.AppendOwn
import Derived.Laws.IdiomCopy
import Derived.WalkSpells
import Derived.Deep.LoopGhost
import Derived.Lib.Strings
import Derived.Laws.IdiomStrings
import Derived.Laws.BytesString
import Derived.Laws.AppendOwnNone
import Derived.Laws.OwnMore
import Derived.Deep.Quiet
import Derived.Laws.Externs
import Derived.Lib.Bytealg
import Derived.Laws.StructEq
import Derived.Laws.Tables
import Derived.Maps.AppendAt
import Derived.Great.BuildSlice
namespace Go.Sep
open Go
/-! ### Data -/
inductive Ty where
 | bool | int (k:IntKind) | u8 | str | list (t:Ty) | pair (a b:Ty)
 /-- one cell,whatever it holds -/
 | raw
@[reducible] def Ty.den:Ty→Type
 | .bool=>Bool
 | .int _=>Int
 | .u8=>UInt8
 | .str=>List UInt8
 | .list t=>List t.den
 | .pair a b=>a.den×b.den
 | .raw=>Value
/-- The number of cells. -/
def Ty.n:Ty→Nat
 | .pair a b=>a.n+b.n
 | _=>1
def Ty.isPair:Ty→Bool
 | .pair _ _=>true
 | _=>false
theorem Ty.n_pos:∀ t:Ty,0<t.n
 | .pair a _=>Nat.lt_of_lt_of_le a.n_pos (Nat.le_add_right _ _)
 | .bool | .int _ | .u8 | .str | .list _ | .raw=>Nat.one_pos
def str (l:List UInt8):Value:=.string ⟨l.toArray⟩
def byte (c:UInt8):Value:=.int .u8 c.toNat
abbrev zl:=Nat→Prop
/-- The cells 'cs' hold the datum x;memory behind them lies in blocks of I. -/
def repC (w:World) (I:zl):(t:Ty)→List Value→t.den→Prop
 | .bool,cs,x=>cs=[.bool x]
 | .int k,cs,x=>cs=[.int k x]
 | .u8,cs,x=>cs=[byte x]
 | .raw,cs,x=>cs=[x]∧x.oneCell'=true
 | .str,cs,x=>cs=[str x]
 | .list t,cs,x=>∃ a len cap,cs=[.slice a len cap]∧len=x.length∧len≤cap ∧
   (x=[]∨∃ b off C E fz,a=some ⟨b,off,none⟩∧I b∧w.heap[b]?=some (.cells C E fz)∧off+len*t.n≤C.size ∧
    ∀ i (h:i<x.length),repC w I t ((C.toList.drop (off+i*t.n)).take t.n) x[i])
 | .pair s t,cs,x=>∃ c1 c2,cs=c1++c2∧repC w I s c1 x.1∧repC w I t c2 x.2
/-- Cells as a value. -/
def toV (t:Ty) (cs:List Value):Value:=if t.isPair then .agg cs.toArray else cs.headD (.tuple #[])
def repV (w:World) (I:zl) (t:Ty) (v:Value) (x:t.den):Prop:=∃ cs,v=toV t cs∧repC w I t cs x
theorem Wm {w:World} {I:zl}:∀ {t:Ty} {cs:List Value} {x:t.den},repC w I t cs x→cs.length=t.n
 | .bool,_,_,h=>by simp only [repC] at h;subst h;rfl
 | .int _,_,_,h=>by simp only [repC] at h;subst h;rfl
 | .u8,_,_,h=>by simp only [repC] at h;subst h;rfl
 | .raw,_,_,h=>by simp only [repC] at h;obtain ⟨h,_⟩:=h;subst h;rfl
 | .str,_,_,h=>by simp only [repC] at h;subst h;rfl
 | .list _,_,_,h=>by simp only [repC] at h;obtain ⟨a,l,c,h,_⟩:=h;subst h;rfl
 | .pair _ _,_,_,h=>by
  simp only [repC] at h
  obtain ⟨c1,c2,h,h1,h2⟩:=h
  subst h
  rw [List.length_append,Wm h1,Wm h2];rfl
/-- No cell of a datum is an aggregate. -/
theorem wL {w:World} {I:zl}:∀ {t:Ty} {cs:List Value} {x:t.den},repC w I t cs x→∀ v∈cs,v.oneCell'=true
 | .bool,_,_,h=>by simp only [repC] at h;subst h;simp [Value.oneCell']
 | .int _,_,_,h=>by simp only [repC] at h;subst h;simp [Value.oneCell']
 | .u8,_,_,h=>by simp only [repC] at h;subst h;simp [Value.oneCell',byte]
 | .raw,_,_,h=>by simp only [repC] at h;obtain ⟨h,h1⟩:=h;subst h;intro v hv;rw [List.mem_singleton.1 hv];exact h1
 | .str,_,_,h=>by simp only [repC] at h;subst h;simp [Value.oneCell',str]
 | .list _,_,_,h=>by simp only [repC] at h;obtain ⟨a,l,c,h,_⟩:=h;subst h;simp [Value.oneCell']
 | .pair _ _,_,_,h=>by
  simp only [repC] at h
  obtain ⟨c1,c2,h,h1,h2⟩:=h
  subst h
  intro v hv
  rcases List.mem_append.1 hv with hv | hv
  ·exact wL h1 v hv
  ·exact wL h2 v hv
theorem Zc {w w':World} {I I':zl} (hb:∀ b,I b→w'.heap[b]?=w.heap[b]?) (hI:∀ b,I b→I' b) :
  ∀ {t:Ty} {cs:List Value} {x:t.den},repC w I t cs x→repC w' I' t cs x
 | .bool,_,_,h=>by simpa only [repC] using h
 | .int _,_,_,h=>by simpa only [repC] using h
 | .u8,_,_,h=>by simpa only [repC] using h
 | .raw,_,_,h=>by simpa only [repC] using h
 | .str,_,_,h=>by simpa only [repC] using h
 | .list t,_,_,h=>by
  simp only [repC] at h ⊢
  obtain ⟨a,l,c,h1,h2,h3,h4⟩:=h
  refine ⟨a,l,c,h1,h2,h3,?_⟩
  rcases h4 with h4 | ⟨b,off,C,E,fz,h5,h6,h7,h8,h9⟩
  ·exact .inl h4
  ·exact .inr ⟨b,off,C,E,fz,h5,hI _ h6,(hb _ h6).trans h7,h8,fun i hi=>Zc hb hI (h9 i hi)⟩
 | .pair _ _,_,_,h=>by
  simp only [repC] at h ⊢
  obtain ⟨c1,c2,h,h1,h2⟩:=h
  exact ⟨c1,c2,h,Zc hb hI h1,Zc hb hI h2⟩
/-! ### Assertions -/
inductive Asn where
 /-- an own variable: block b holds just these cells -/
 | box (b:Nat) (T:TypeId) (cs:List Value)
 /-- an own slice,from the head of block g on -/
 | rowg (g cap:Nat) (E:TypeId) (t:Ty) (xs:List t.den)
 /-- an own slice of the bytes of a string,marked at its end -/
 | rowm (g cap:Nat) (E:TypeId) (t:Ty) (xs:List t.den)
 /-- an own slice,nil or not -/
 | row (v:Value) (E:TypeId) (t:Ty) (xs:List t.den)
 /-- a value that nobody writes any more -/
 | imm (t:Ty) (v:Value) (x:t.den)
 /-- a pointer to a datum that nobody writes any more -/
 | ptr (t:Ty) (p:Value) (x:t.den)
 /-- a variable that nobody writes any more -/
 | ibox (b:Nat) (T:TypeId) (cs:List Value)
 /-- a fact that lasts -/
 | fact (p:World→zl→Prop)
 /-- an own map -/
 | mp (r:Nat) (es:List MapEntry) (clk:Nat)
 /-- an own object of another kind -/
 | obj (r:Nat) (o:Obj)
 /-- own slices,in any number and order -/
 | rows (E:TypeId) (t:Ty) (l:List (Value×List t.den))
 /-- an own map from strings to data;memory behind these nobody writes any more -/
 | mpt (r:Nat) (t:Ty) (l:List (List UInt8×t.den))
/-- A slice in the row of cells C of block g: element i in the cells from i*t.n on. -/
def Z9 (w:World) (I:zl) (mk:Bool) (g cap:Nat) (E:TypeId) (t:Ty) (xs:List t.den):Prop :=
 ∃ C:Array Value,w.heap[g]?=some (.cells C E (bif mk then (C.size,C.size+1) else (0,0)))∧xs.length≤cap∧cap≤maxLen∧C.size=cap*t.n ∧
  ∀ i (h:i<xs.length),repC w I t ((C.toList.drop (i*t.n)).take t.n) xs[i]
def rowsIs (w:World) (I:zl) (E:TypeId) (t:Ty):List (Value×List t.den)→List Nat→Prop
 | [],m=>m=[]
 | x::l,m=>∃ m1 m2,m=m1++m2∧((x.1=.slice none 0 0∧x.2=[]∧m1=[])∨∃ g cap,x.1=.slice (some ⟨g,0,none⟩) x.2.length cap∧m1=[g]∧Z9 w I false g cap E t x.2)∧rowsIs w I E t l m2
/-- Entries of a map hold these data,one by one. -/
def mptIs (w:World) (I:zl) (t:Ty):List MapEntry→List (List UInt8×t.den)→Prop
 | [],[]=>True
 | e::es,x::l=>e.key=str x.1∧repV w I t e.val x.2∧mptIs w I t es l
 | _,_=>False
def Asn.sat (w:World) (I:zl):Asn→List Nat→Prop
 | .box b T cs,m=>m=[b]∧w.heap[b]?=some (.cells cs.toArray T (0,0))
 | .rowg g cap E t xs,m=>m=[g]∧Z9 w I false g cap E t xs
 | .rowm g cap E t xs,m=>m=[g]∧Z9 w I true g cap E t xs
 | .row v E t xs,m=>(v=.slice none 0 0∧xs=[]∧m=[])∨∃ g cap,v=.slice (some ⟨g,0,none⟩) xs.length cap∧m=[g]∧Z9 w I false g cap E t xs
 | .imm t v x,m=>m=[]∧repV w I t v x
 | .ptr t p x,m=>m=[]∧∃ b off C E fz,p=.pointer (some ⟨b,off,none⟩)∧I b∧w.heap[b]?=some (.cells C E fz)∧off+t.n≤C.size∧repC w I t ((C.toList.drop off).take t.n) x
 | .ibox b T cs,m=>m=[]∧I b∧w.heap[b]?=some (.cells cs.toArray T (0,0))
 | .mp r es clk,m=>m=[r]∧w.heap[r]?=some (.map es.toArray clk)
 | .obj r o,m=>m=[r]∧w.heap[r]?=some o
 | .rows E t l,m=>rowsIs w I E t l m
 | .mpt r t l,m=>m=[r]∧∃ es clk,w.heap[r]?=some (.map es clk)∧(l.map (·.1)).Nodup∧∃ l',l'.Perm l∧mptIs w I t es.toList l'
 | .fact p,m=>m=[]∧∀ w' I',w.heap.size≤w'.heap.size→(∀ b,I b→w'.heap[b]?=w.heap[b]?)→(∀ b,I b→I' b)→p w' I'
def Asn.pers:Asn→Bool
 | .imm .. | .ptr .. | .ibox .. | .fact ..=>true
 | _=>false
theorem wo {w w':World} {I I':zl} {mk:Bool} {g cap:Nat} {E:TypeId} {t:Ty} {xs:List t.den} (hg:w'.heap[g]?=w.heap[g]?)
  (hb:∀ b,I b→w'.heap[b]?=w.heap[b]?) (hI:∀ b,I b→I' b) (h:Z9 w I mk g cap E t xs):Z9 w' I' mk g cap E t xs :=
 let ⟨C,h1,h2,h3,h4,h5⟩:=h
 ⟨C,hg.trans h1,h2,h3,h4,fun i hi=>Zc hb hI (h5 i hi)⟩
theorem rowsIs_mono {w w':World} {I I':zl} {E:TypeId} {t:Ty} (hI:∀ b,I b→I' b):∀ {l:List (Value×List t.den)} {m:List Nat},(∀ b,I b∨b∈m→w'.heap[b]?=w.heap[b]?)→rowsIs w I E t l m→rowsIs w' I' E t l m
 | [],_,_,h=>h
 | x::l,_,hb,h=>by
  obtain ⟨m1,m2,rfl,h1,h2⟩:=h
  refine ⟨m1,m2,rfl,?_,rowsIs_mono hI (fun b h=>hb b (by rcases h with h | h <;> simp [h])) h2⟩
  rcases h1 with h1 | ⟨g,cap,h1,rfl,h3⟩
  ·exact .inl h1
  ·exact .inr ⟨g,cap,h1,rfl,wo (hb g (.inr (by simp))) (fun b h=>hb b (.inl h)) hI h3⟩
theorem mptIs_mono {w w':World} {I I':zl} {t:Ty} (hb:∀ b,I b→w'.heap[b]?=w.heap[b]?) (hI:∀ b,I b→I' b):∀ {es:List MapEntry} {l:List (List UInt8×t.den)},mptIs w I t es l→mptIs w' I' t es l
 | [],[],h=>h
 | _::_,_::_,h=>⟨h.1,(let ⟨cs,h1,h2⟩:=h.2.1;⟨cs,h1,Zc hb hI h2⟩),mptIs_mono hb hI h.2.2⟩
 | [],_::_,h=>h.elim
 | _::_,[],h=>h.elim
theorem Asn.sat_mono {w w':World} {I I':zl} {A:Asn} {m:List Nat} (hs:w.heap.size≤w'.heap.size) (hb:∀ b,I b∨b∈m→w'.heap[b]?=w.heap[b]?)
  (hI:∀ b,I b→I' b) (h:A.sat w I m):A.sat w' I' m:=by
 have hb1:∀ b,I b→w'.heap[b]?=w.heap[b]?:=fun b h=>hb b (.inl h)
 cases A with
 | box b T cs=>obtain ⟨rfl,h⟩:=h;exact ⟨rfl,(hb b (.inr (by simp))).trans h⟩
 | rowg g cap E t xs=>obtain ⟨rfl,h⟩:=h;exact ⟨rfl,wo (hb g (.inr (by simp))) hb1 hI h⟩
 | rowm g cap E t xs=>obtain ⟨rfl,h⟩:=h;exact ⟨rfl,wo (hb g (.inr (by simp))) hb1 hI h⟩
 | row v E t xs =>
  rcases h with h | ⟨g,cap,h1,rfl,h2⟩
  ·exact .inl h
  ·exact .inr ⟨g,cap,h1,rfl,wo (hb g (.inr (by simp))) hb1 hI h2⟩
 | imm t v x=>obtain ⟨rfl,cs,h1,h2⟩:=h;exact ⟨rfl,cs,h1,Zc hb1 hI h2⟩
 | ptr t p x =>
  obtain ⟨rfl,b,off,C,E,fz,h1,h2,h3,h4,h5⟩:=h
  exact ⟨rfl,b,off,C,E,fz,h1,hI _ h2,(hb1 _ h2).trans h3,h4,Zc hb1 hI h5⟩
 | ibox b T cs=>obtain ⟨rfl,h1,h2⟩:=h;exact ⟨rfl,hI _ h1,(hb1 _ h1).trans h2⟩
 | mp r es clk=>obtain ⟨rfl,h⟩:=h;exact ⟨rfl,(hb r (.inr (by simp))).trans h⟩
 | obj r o=>obtain ⟨rfl,h⟩:=h;exact ⟨rfl,(hb r (.inr (by simp))).trans h⟩
 | rows E t l=>exact rowsIs_mono hI hb h
 | mpt r t l =>
  obtain ⟨rfl,es,clk,h1,h2,l',h3,h4⟩:=h
  exact ⟨rfl,es,clk,(hb r (.inr (by simp))).trans h1,h2,l',h3,mptIs_mono hb1 hI h4⟩
 | fact p =>
  obtain ⟨rfl,h⟩:=h
  exact ⟨rfl,fun w'' I'' h1 h2 h3=>h w'' I'' (Nat.le_trans hs h1) (fun b hb'=>(h2 b (hI b hb')).trans (hb1 b hb')) (fun b hb'=>h3 b (hI b hb'))⟩
theorem Asn.sat_pers {w:World} {I:zl} {A:Asn} {m:List Nat} (hp:A.pers=true) (h:A.sat w I m):m=[]:=by
 cases A <;> first | (simp [Asn.pers] at hp;done) | exact h.1
def Sats (w:World) (I:zl):List Asn→List Nat→Prop
 | [],m=>m=[]
 | A::As,m=>∃ m1 m2,m=m1++m2∧A.sat w I m1∧Sats w I As m2
theorem W1 {w w':World} {I I':zl} (hs:w.heap.size≤w'.heap.size) (hI:∀ b,I b→I' b):∀ {As:List Asn} {m:List Nat},(∀ b,I b∨b∈m→w'.heap[b]?=w.heap[b]?)→Sats w I As m→Sats w' I' As m
 | [],_,_,h=>h
 | A::As,m,hb,h=>by
  obtain ⟨m1,m2,rfl,h1,h2⟩:=h
  exact ⟨m1,m2,rfl,Asn.sat_mono hs (fun b h=>hb b (by rcases h with h | h <;> simp [h])) hI h1,W1 hs hI (fun b h=>hb b (by rcases h with h | h <;> simp [h])) h2⟩
theorem Yl {w:World} {I:zl}:∀ {As Bs:List Asn} {m:List Nat},Sats w I (As++Bs) m↔∃ m1 m2,m=m1++m2∧Sats w I As m1∧Sats w I Bs m2
 | [],Bs,m=>⟨fun h=>⟨[],m,rfl,rfl,h⟩,fun ⟨m1,m2,h,h1,h2⟩=>by simp only [Sats] at h1;subst h1;subst h;exact h2⟩
 | A::As,Bs,m=>by
  simp only [List.cons_append,Sats]
  constructor
  ·rintro ⟨m1,m2,rfl,h1,h2⟩
   obtain ⟨m3,m4,rfl,h3,h4⟩:=Yl.1 h2
   exact ⟨m1++m3,m4,by simp,⟨m1,m3,rfl,h1,h3⟩,h4⟩
  ·rintro ⟨m1,m2,rfl,⟨m3,m4,rfl,h3,h4⟩,h2⟩
   exact ⟨m3,m4++m2,by simp,h3,Yl.2 ⟨m4,m2,rfl,h4,h2⟩⟩
/-- From (w,I,own blocks m) to (w',I',m'). -/
structure Eff (w:World) (I:zl) (m:List Nat) (w':World) (I':zl) (m':List Nat):Prop where
 os:w'.os=w.os
 tape:w'.tape=w.tape
 output:w'.output=w.output
 size:w.heap.size≤w'.heap.size
 block:∀ k,k<w.heap.size→k ∉ m→w'.heap[k]?=w.heap[k]?
 sub:∀ b,I b→I' b
 new:∀ b,I' b→I b∨b∈m∨w.heap.size≤b
 lt:∀ b,I' b→b<w'.heap.size
 nodup:m'.Nodup
 apart:∀ b∈m',¬ I' b
 own:∀ b∈m',(b∈m∨w.heap.size≤b)∧b<w'.heap.size
/-- A sound start. -/
structure Okw (w:World) (I:zl) (m:List Nat):Prop where
 lt:∀ b,I b→b<w.heap.size
 nodup:m.Nodup
 apart:∀ b∈m,¬ I b
 own:∀ b∈m,b<w.heap.size
theorem Okw.eff {w:World} {I:zl} {m:List Nat} (h:Okw w I m):Eff w I m w I m :=
 ⟨rfl,rfl,rfl,Nat.le_refl _,fun _ _ _=>rfl,fun _ h=>h,fun _ h=>.inl h,h.lt,h.nodup,h.apart,fun b hb=>⟨.inl hb,h.own b hb⟩⟩
theorem Eff.okw {w:World} {I:zl} {m:List Nat} {w':World} {I':zl} {m':List Nat} (h:Eff w I m w' I' m'):Okw w' I' m' :=
 ⟨h.lt,h.nodup,h.apart,fun b hb=>(h.own b hb).2⟩
theorem Eff.trans {w w' w'':World} {I I' I'':zl} {m m' m'':List Nat} (h:Eff w I m w' I' m') (k:Eff w' I' m' w'' I'' m''):Eff w I m w'' I'' m'' where
 os:=k.os.trans h.os
 tape:=k.tape.trans h.tape
 output:=k.output.trans h.output
 size:=Nat.le_trans h.size k.size
 block:=fun b hb hm=>by
  rw [k.block b (Nat.lt_of_lt_of_le hb h.size) (fun hm'=>?_),h.block b hb hm]
  rcases (h.own b hm').1 with h1 | h1
  ·exact hm h1
  ·omega
 sub:=fun b hb=>k.sub b (h.sub b hb)
 new:=fun b hb=>by
  rcases k.new b hb with h1 | h1 | h1
  ·exact h.new b h1
  ·exact .inr (h.own b h1).1
  ·exact .inr (.inr (Nat.le_trans h.size h1))
 lt:=k.lt
 nodup:=k.nodup
 apart:=k.apart
 own:=fun b hb=>by
  obtain ⟨h1,h2⟩:=k.own b hb
  refine ⟨?_,h2⟩
  rcases h1 with h1 | h1
  ·exact (h.own b h1).1
  ·exact .inr (Nat.le_trans h.size h1)
theorem Eff.perm {w w':World} {I I':zl} {m m' m'':List Nat} (h:Eff w I m w' I' m') (hp:m'.Perm m''):Eff w I m w' I' m'' :=
 { h with nodup:=hp.nodup_iff.1 h.nodup,apart:=fun b hb=>h.apart b (hp.mem_iff.2 hb),own:=fun b hb=>h.own b (hp.mem_iff.2 hb) }
theorem Eff.drop {w w':World} {I I':zl} {m m' m'':List Nat} (h:Eff w I m w' I' m') (hs:m''.Sublist m'):Eff w I m w' I' m'' :=
 { h with nodup:=hs.nodup h.nodup,apart:=fun b hb=>h.apart b (hs.mem hb),own:=fun b hb=>h.own b (hs.mem hb) }
/-- Of the own blocks m1 some step makes m1';m2 is untouched. -/
theorem Eff.frame {w w':World} {I I':zl} {m1 m2 m1':List Nat} (ho:Okw w I (m1++m2)) (h:Eff w I m1 w' I' m1'):Eff w I (m1++m2) w' I' (m1'++m2) where
 os:=h.os
 tape:=h.tape
 output:=h.output
 size:=h.size
 block:=fun b hb hm=>h.block b hb (fun hm'=>hm (by simp [hm']))
 sub:=h.sub
 new:=fun b hb=>by rcases h.new b hb with h1 | h1 | h1 <;> simp [h1]
 lt:=h.lt
 nodup:=by
  have hn:=List.nodup_append.1 ho.nodup
  refine List.nodup_append.2 ⟨h.nodup,hn.2.1,fun a ha b hb hab=>?_⟩
  subst hab
  rcases (h.own a ha).1 with h1 | h1
  ·exact hn.2.2 a h1 a hb rfl
  ·have:=ho.own a (by simp [hb]);omega
 apart:=fun b hb hI=>by
  rcases List.mem_append.1 hb with hb | hb
  ·exact h.apart b hb hI
  ·rcases h.new b hI with h1 | h1 | h1
   ·exact ho.apart b (by simp [hb]) h1
   ·exact (List.nodup_append.1 ho.nodup).2.2 b h1 b hb rfl
   ·have:=ho.own b (by simp [hb]);omega
 own:=fun b hb=>by
  rcases List.mem_append.1 hb with hb | hb
  ·obtain ⟨h1,h2⟩:=h.own b hb
   exact ⟨by rcases h1 with h1 | h1 <;> simp [h1],h2⟩
  ·exact ⟨.inl (by simp [hb]),Nat.lt_of_lt_of_le (ho.own b (by simp [hb])) h.size⟩
/-- What is not touched holds on. -/
theorem Sats.frame {w w':World} {I I':zl} {m1 m2 m1':List Nat} {As:List Asn} (ho:Okw w I (m1++m2)) (h:Eff w I m1 w' I' m1') (hs:Sats w I As m2):Sats w' I' As m2 :=
 W1 h.size h.sub (fun b hb=>by
  rcases hb with hb | hb
  ·exact h.block b (ho.lt b hb) (fun hm=>ho.apart b (by simp [hm]) hb)
  ·exact h.block b (ho.own b (by simp [hb])) (fun hm=>(List.nodup_append.1 ho.nodup).2.2 b hm b hb rfl)) hs
/-! ### Where a walk stands -/
structure Cx where
 P:Program
 n:Nat
 w0:World
 I0:zl
 m0:List Nat
def lk:List (Nat×Value)→Nat→Option Value
 | [],_=>none
 | (k,v)::r,t=>bif Nat.beq k t then some v else lk r t
def Fits (n:Nat) (L:List (Nat×Value)) (a:Act):Prop:=a.tmps.size=n∧a.defers=[]∧∀ t v,lk L t=some v→a.tmps[t]?=some v
def Mem (c:Cx) (As:List Asn) (w:World):Prop:=∃ I m,Eff c.w0 c.I0 c.m0 w I m∧Sats w I As m
/-- In every state that fits,K. -/
def J (c:Cx) (L:List (Nat×Value)) (As:List Asn) (K:Act→World→Prop):Prop:=∀ a w,Fits c.n L a→Mem c As w→K a w
theorem J.mono {c:Cx} {L:List (Nat×Value)} {As:List Asn} {K K':Act→World→Prop} (h:J c L As K) (hk:∀ a w,K a w→K' a w):J c L As K':=fun a w hf hm=>hk a w (h a w hf hm)
/-! #### Rearranging the assertions -/
theorem Mem.pull {c:Cx} {As Bs:List Asn} {A:Asn} {w:World} (h:Mem c (As++A::Bs) w):Mem c (A::(As++Bs)) w:=by
 obtain ⟨I,m,he,hs⟩:=h
 obtain ⟨m1,m2,rfl,h1,h2⟩:=Yl.1 hs
 obtain ⟨m3,m4,rfl,h3,h4⟩:=h2
 refine ⟨I,m3++(m1++m4),he.perm ?_,m3,m1++m4,rfl,h3,Yl.2 ⟨m1,m4,rfl,h1,h4⟩⟩
 rw [← List.append_assoc,← List.append_assoc]
 exact List.Perm.append_right m4 List.perm_append_comm
theorem Mem.drop1 {c:Cx} {As:List Asn} {A:Asn} {w:World} (h:Mem c (A::As) w):Mem c As w:=by
 obtain ⟨I,m,he,m1,m2,rfl,h1,h2⟩:=h
 exact ⟨I,m2,he.drop (List.sublist_append_right _ _),h2⟩
theorem Mem.front {c:Cx} {As Bs:List Asn} {w:World} (h:Mem c (As++Bs) w):Mem c As w:=by
 obtain ⟨I,m,he,hs⟩:=h
 obtain ⟨m1,m2,rfl,h1,h2⟩:=Yl.1 hs
 exact ⟨I,m1,he.drop (List.sublist_append_left _ _),h1⟩
theorem Mem.dup1 {c:Cx} {As:List Asn} {A:Asn} {w:World} (hp:A.pers=true) (h:Mem c (A::As) w):Mem c (A::A::As) w:=by
 obtain ⟨I,m,he,m1,m2,rfl,h1,h2⟩:=h
 have:=Asn.sat_pers hp h1
 subst this
 exact ⟨I,_,he,[],m2,rfl,h1,[],m2,rfl,h1,h2⟩
theorem Mem.cons {c:Cx} {As Bs:List Asn} {A:Asn} {w:World} (h:Mem c (A::As) w) (hk:∀ w' m I,Eff c.w0 c.I0 c.m0 w' I m→Sats w' I As m→Sats w' I Bs m):Mem c (A::Bs) w:=by
 obtain ⟨I,m,he,m1,m2,rfl,h1,h2⟩:=h
 exact ⟨I,m1++m2,he,m1,m2,rfl,h1,hk w m2 I (he.drop (List.sublist_append_right _ _)) h2⟩
section rearrange
variable {c:Cx} {L:List (Nat×Value)} {K:Act→World→Prop} {A B C D E F G H R S T U:Asn} {As:List Asn}
theorem Za {As Bs:List Asn} (hm:∀ w,Mem c As w→Mem c Bs w) (h:J c L Bs K):J c L As K:=fun a w hf hw=>h a w hf (hm w hw)
theorem yb (h:J c L As K):J c L (A::As) K:=Za (fun _=>Mem.drop1) h
theorem zw (hp:A.pers=true) (h:J c L (A::A::As) K):J c L (A::As) K:=Za (fun _=>Mem.dup1 hp) h
theorem yn (h:J c L (B::A::As) K):J c L (A::B::As) K:=Za (fun _ h=>Mem.pull (As:=[A]) h) h
theorem yi (h:J c L (C::A::B::As) K):J c L (A::B::C::As) K:=Za (fun _ h=>Mem.pull (As:=[A,B]) h) h
theorem ye (h:J c L (D::A::B::C::As) K):J c L (A::B::C::D::As) K:=Za (fun _ h=>Mem.pull (As:=[A,B,C]) h) h
theorem yl (h:J c L (E::A::B::C::D::As) K):J c L (A::B::C::D::E::As) K:=Za (fun _ h=>Mem.pull (As:=[A,B,C,D]) h) h
theorem y8 (h:J c L (F::A::B::C::D::E::As) K):J c L (A::B::C::D::E::F::As) K:=Za (fun _ h=>Mem.pull (As:=[A,B,C,D,E]) h) h
theorem yu (h:J c L (G::A::B::C::D::E::F::As) K):J c L (A::B::C::D::E::F::G::As) K:=Za (fun _ h=>Mem.pull (As:=[A,B,C,D,E,F]) h) h
theorem yM (h:J c L (H::A::B::C::D::E::F::G::As) K):J c L (A::B::C::D::E::F::G::H::As) K:=Za (fun _ h=>Mem.pull (As:=[A,B,C,D,E,F,G]) h) h
theorem Yx (h:J c L (R::A::B::C::D::E::F::G::H::As) K):J c L (A::B::C::D::E::F::G::H::R::As) K:=Za (fun _ h=>Mem.pull (As:=[A,B,C,D,E,F,G,H]) h) h
theorem zv (h:J c L (S::A::B::C::D::E::F::G::H::R::As) K):J c L (A::B::C::D::E::F::G::H::R::S::As) K:=Za (fun _ h=>Mem.pull (As:=[A,B,C,D,E,F,G,H,R]) h) h
theorem zP (h:J c L (T::A::B::C::D::E::F::G::H::R::S::As) K):J c L (A::B::C::D::E::F::G::H::R::S::T::As) K:=Za (fun _ h=>Mem.pull (As:=[A,B,C,D,E,F,G,H,R,S]) h) h
theorem yE (h:J c L (U::A::B::C::D::E::F::G::H::R::S::T::As) K):J c L (A::B::C::D::E::F::G::H::R::S::T::U::As) K:=Za (fun _ h=>Mem.pull (As:=[A,B,C,D,E,F,G,H,R,S,T]) h) h
end rearrange
/-! #### The frame -/
theorem Fits.put {n:Nat} {L:List (Nat×Value)} {a:Act} (h:Fits n L a) {d:Nat} (hd:d<n) (v:Value):Fits n ((d,v)::L) (a.put (some d) v):=by
 obtain ⟨h1,h2,h3⟩:=h
 refine ⟨by simp [Act.put,h1],h2,fun t u hu=>?_⟩
 simp only [Act.put,lk] at hu ⊢
 by_cases hdt:d=t
 ·subst hdt
  have hbt:Nat.beq d d=true:=by simp
  rw [hbt] at hu
  simp only [cond_true,Option.some.injEq] at hu
  subst hu
  rw [Array.getElem?_setIfInBounds_self_of_lt (by omega)]
 ·have hbt:Nat.beq d t=false:=by rw [Bool.eq_false_iff];intro h;exact hdt (Nat.eq_of_beq_eq_true h)
  rw [hbt] at hu
  rw [Array.getElem?_setIfInBounds_ne hdt]
  exact h3 t u hu
theorem Fits.none {n:Nat} {L:List (Nat×Value)} {a:Act} (h:Fits n L a) (v:Value):Fits n L (a.put none v):=h
/-- What the list says of an operand. -/
def ev (L:List (Nat×Value)):Operand→Option Value
 | .tmp t=>lk L t
 | .const v=>some v
 | .global g=>some (.pointer (some ⟨g,0,none⟩))
 | .func f=>some (.func (.func f) #[] #[])
theorem Fits.ev {n:Nat} {L:List (Nat×Value)} {a:Act} (h:Fits n L a) {x:Operand} {v:Value} (hx:ev L x=some v):a.eval x=v:=by
 cases x with
 | tmp t =>
  have:=h.2.2 t v hx
  simp [Act.eval,this]
 | const u=>exact Option.some.inj hx
 | global g=>exact Option.some.inj hx
 | func f=>exact Option.some.inj hx
def SubL:List (Nat×Value)→List (Nat×Value)→Prop
 | [],_=>True
 | (t,v)::r,L=>lk L t=some v∧SubL r L
theorem SubL.lk {L:List (Nat×Value)}:∀ {L':List (Nat×Value)},SubL L' L→∀ t v,lk L' t=some v→lk L t=some v
 | [],_,t,v,h=>by simp [Sep.lk] at h
 | (k,u)::r,hs,t,v,h=>by
  obtain ⟨h1,h2⟩:=hs
  simp only [Sep.lk] at h
  cases hb:Nat.beq k t with
  | true =>
   rw [hb] at h
   simp only [cond_true,Option.some.injEq] at h
   subst h
   rw [← Nat.eq_of_beq_eq_true hb];exact h1
  | false=>rw [hb] at h;exact SubL.lk h2 t v h
theorem Fits.sub {n:Nat} {L L':List (Nat×Value)} {a:Act} (h:Fits n L a) (hs:SubL L' L):Fits n L' a:=⟨h.1,h.2.1,fun t v hv=>h.2.2 t v (hs.lk t v hv)⟩
end Go.Sep
namespace Go.Sep
open Go
theorem bt_and {a b:Bool} (h:(a&&b)=true):a=true∧b=true:=by simpa using h
theorem bf_and {a b:Bool} (h:(a&&b)=false):a=false∨b=false:=by cases a <;> simp_all
theorem bt_or {a b:Bool} (h:(a||b)=true):a=true∨b=true:=by simpa using h
theorem bf_or {a b:Bool} (h:(a||b)=false):a=false∧b=false:=by simpa using h
theorem wA {a:Bool} (h:(!a)=true):a=false:=by simpa using h
theorem wd {a:Bool} (h:(!a)=false):a=true:=by simpa using h
/-! ### Code -/
section code
variable {c:Cx} {L:List (Nat×Value)} {As:List Asn} {Q:Exit→Act→World→Prop} {K:Act→World→Prop}
theorem yg {x y:Code} (h:J c L As (x.wp c.P (Exit.then (y.wp c.P Q) Q))):J c L As ((Code.seq x y).wp c.P Q):=h.mono fun _ _ h=>wp_seq h
theorem zm (h:J c L As (Q .normal)):J c L As (Code.skip.wp c.P Q):=h.mono fun _ _ h=>wp_skip h
theorem yV {id:Nat} (h:J c L As (Q (.exit id))):J c L As ((Code.exit id).wp c.P Q):=h.mono fun _ _ h=>wp_exit h
theorem yw (h:J c L As (Q .ret)):J c L As (Code.ret.wp c.P Q):=h.mono fun _ _ h=>wp_ret h
theorem yp {id:Nat} {x:Code} (h:J c L As (x.wp c.P (Exit.inBlock id Q))):J c L As ((Code.block id x).wp c.P Q):=h.mono fun _ _ h=>wp_block h
theorem ZM {x:Operand} {th el:Code} {b:Bool} (hv:ev L x=some (.bool b)) (ht:b=true→J c L As (th.wp c.P Q)) (hf:b=false→J c L As (el.wp c.P Q)) :
  J c L As ((Code.cond x th el).wp c.P Q):=fun a w hfit hm=>by
 cases b with
 | true=>exact wp_cond_true (hfit.ev hv) (ht rfl a w hfit hm)
 | false=>exact wp_cond_false (hfit.ev hv) (hf rfl a w hfit hm)
theorem z8 {x:Operand} {th el:Code} {b:Bool} (hv:ev L x=some (.bool b)) (hb:b=true) (ht:J c L As (th.wp c.P Q)):J c L As ((Code.cond x th el).wp c.P Q) :=
 ZM hv (fun _=>ht) (fun h=>by rw [hb] at h;cases h)
theorem z6 {x:Operand} {th el:Code} {b:Bool} (hv:ev L x=some (.bool b)) (hb:b=false) (ht:J c L As (el.wp c.P Q)):J c L As ((Code.cond x th el).wp c.P Q) :=
 ZM hv (fun h=>by rw [hb] at h;cases h) (fun _=>ht)
/-! The exits pass what lies around them. -/
theorem yo {K:Act→World→Prop} (h:J c L As K):J c L As (Exit.then K Q .normal):=h
theorem yf {id:Nat} (h:J c L As (Q (.exit id))):J c L As (Exit.then K Q (.exit id)):=h
theorem yd (h:J c L As (Q .ret)):J c L As (Exit.then K Q .ret):=h
theorem ym {id:Nat} (h:J c L As (Q .normal)):J c L As (Exit.inBlock id Q .normal):=h
theorem jq_in_ret {id:Nat} (h:J c L As (Q .ret)):J c L As (Exit.inBlock id Q .ret):=h
theorem yH {id:Nat} (h:J c L As (Q .normal)):J c L As (Exit.inBlock id Q (.exit id)):=h.mono fun a w h=>by simp only [Exit.inBlock,if_true];exact h
theorem jq_in_miss {id id':Nat} (hne:Nat.beq id' id=false) (h:J c L As (Q (.exit id'))):J c L As (Exit.inBlock id Q (.exit id')):=h.mono fun a w h=>by
 have:id'≠id:=fun e=>by subst e;simp at hne
 simp only [Exit.inBlock,this,if_false];exact h
theorem yj {id:Nat} {l:List Oper} (h:J c L As (wpList c.P l.toArray Q l)):J c L As ((Code.region id l.toArray false).wp c.P Q):=h.mono fun _ _ h=>wp_region_lit h
/-- A loop: 'St s' tells slots and memory at a round's head. -/
theorem zu {x:Code} {S:Type} (StL:S→List (Nat×Value)) (StA:S→List Asn) (inv:S→Prop) (meas:S→Nat) (s0:S) (h0:inv s0)
  (hL:SubL (StL s0) L) (hA:∀ w,Mem c As w→Mem c (StA s0) w)
  (round:∀ s,inv s→J c (StL s) (StA s) (x.wp c.P (Exit.then (fun a w=>∃ s',inv s'∧meas s'<meas s∧Fits c.n (StL s') a∧Mem c (StA s') w) Q))) :
  J c L As ((Code.loop x).wp c.P Q):=fun a w hf hm=>by
 refine wp_loop_ghost (fun n a w=>∃ s,inv s∧meas s=n∧Fits c.n (StL s) a∧Mem c (StA s) w) (meas s0) ⟨s0,h0,rfl,hf.sub hL,hA w hm⟩ ?_
 rintro n a w ⟨s,hs,rfl,hf,hm⟩
 refine wp_mono (round s hs a w hf hm) ?_
 intro e a' w' hq
 cases e with
 | normal=>obtain ⟨s',h1,h2,h3,h4⟩:=hq;exact ⟨meas s',h2,s',h1,rfl,h3,h4⟩
 | _=>exact hq
section curried
variable {x:Code} {S1 S2 S3 S4:Type}
theorem Y5 (StL:S1→S2→List (Nat×Value)) (StA:S1→S2→List Asn) (inv:S1→S2→Prop) (meas:S1→S2→Nat) (a0:S1) (b0:S2) (h0:inv a0 b0)
  (hL:SubL (StL a0 b0) L) (hA:∀ w,Mem c As w→Mem c (StA a0 b0) w)
  (round:∀ s t,inv s t→J c (StL s t) (StA s t) (x.wp c.P (Exit.then (fun a w=>∃ s':S1×S2,inv s'.1 s'.2∧meas s'.1 s'.2<meas s t∧Fits c.n (StL s'.1 s'.2) a∧Mem c (StA s'.1 s'.2) w) Q))) :
  J c L As ((Code.loop x).wp c.P Q) :=
 zu (S:=S1×S2) (fun s=>StL s.1 s.2) (fun s=>StA s.1 s.2) (fun s=>inv s.1 s.2) (fun s=>meas s.1 s.2) (a0,b0) h0 hL hA fun s h=>round s.1 s.2 h
theorem Y4 (StL:S1→S2→S3→List (Nat×Value)) (StA:S1→S2→S3→List Asn) (inv:S1→S2→S3→Prop) (meas:S1→S2→S3→Nat) (a0:S1) (b0:S2) (c0:S3) (h0:inv a0 b0 c0)
  (hL:SubL (StL a0 b0 c0) L) (hA:∀ w,Mem c As w→Mem c (StA a0 b0 c0) w)
  (round:∀ s t u,inv s t u→J c (StL s t u) (StA s t u) (x.wp c.P (Exit.then (fun a w=>∃ s':S1×S2×S3,inv s'.1 s'.2.1 s'.2.2∧meas s'.1 s'.2.1 s'.2.2<meas s t u∧Fits c.n (StL s'.1 s'.2.1 s'.2.2) a∧Mem c (StA s'.1 s'.2.1 s'.2.2) w) Q))) :
  J c L As ((Code.loop x).wp c.P Q) :=
 zu (S:=S1×S2×S3) (fun s=>StL s.1 s.2.1 s.2.2) (fun s=>StA s.1 s.2.1 s.2.2) (fun s=>inv s.1 s.2.1 s.2.2) (fun s=>meas s.1 s.2.1 s.2.2) (a0,b0,c0) h0 hL hA fun s h=>round s.1 s.2.1 s.2.2 h
theorem jc_loop4 (StL:S1→S2→S3→S4→List (Nat×Value)) (StA:S1→S2→S3→S4→List Asn) (inv:S1→S2→S3→S4→Prop) (meas:S1→S2→S3→S4→Nat) (a0:S1) (b0:S2) (c0:S3) (d0:S4) (h0:inv a0 b0 c0 d0)
  (hL:SubL (StL a0 b0 c0 d0) L) (hA:∀ w,Mem c As w→Mem c (StA a0 b0 c0 d0) w)
  (round:∀ s t u v,inv s t u v→J c (StL s t u v) (StA s t u v) (x.wp c.P (Exit.then (fun a w=>∃ s':S1×S2×S3×S4,inv s'.1 s'.2.1 s'.2.2.1 s'.2.2.2∧meas s'.1 s'.2.1 s'.2.2.1 s'.2.2.2<meas s t u v∧Fits c.n (StL s'.1 s'.2.1 s'.2.2.1 s'.2.2.2) a∧Mem c (StA s'.1 s'.2.1 s'.2.2.1 s'.2.2.2) w) Q))) :
  J c L As ((Code.loop x).wp c.P Q) :=
 zu (S:=S1×S2×S3×S4) (fun s=>StL s.1 s.2.1 s.2.2.1 s.2.2.2) (fun s=>StA s.1 s.2.1 s.2.2.1 s.2.2.2) (fun s=>inv s.1 s.2.1 s.2.2.1 s.2.2.2) (fun s=>meas s.1 s.2.1 s.2.2.1 s.2.2.2) (a0,b0,c0,d0) h0 hL hA fun s h=>round s.1 s.2.1 s.2.2.1 s.2.2.2 h
/-- The end of a round,whatever the number of variables. -/
theorem YN {S:Type} {P1:S→Prop} {P2:S→Prop} {StL:S→List (Nat×Value)} {StA:S→List Asn} (s':S) (h1:P1 s') (h2:P2 s')
  (hL:SubL (StL s') L) (hA:∀ w,Mem c As w→Mem c (StA s') w) :
  J c L As (Exit.then (fun a w=>∃ s',P1 s'∧P2 s'∧Fits c.n (StL s') a∧Mem c (StA s') w) Q .normal):=fun _ w hf hm=>⟨s',h1,h2,hf.sub hL,hA w hm⟩
end curried
end code
/-! ### The end of a function -/
/-- What a call comes to. -/
def Ends (w0:World) (I0:zl) (m0:List Nat) {ι:Type} (val:ι→Value) (asn:ι→List Asn) (e:Ending) (w':World):Prop :=
 ∃ i I' m',e=.returned (val i)∧Eff w0 I0 m0 w' I' m'∧Sats w' I' (asn i) m'
/-- **A contract**: called with 'args',where 'As' hold,it returns 'val i' for some i,and 'asn i' hold. -/
def Con (P:Program) (f:FuncId) (args:Array Value) (As:List Asn) {ι:Type} (val:ι→Value) (asn:ι→List Asn):Prop :=
 ∀ w I m,Okw w I m→Sats w I As m→Calls P f args w (Ends w I m val asn)
theorem con_of_J {P:Program} {f:FuncId} {fn:Func} {code:Code} {args:List Value} {As:List Asn} {ι:Type} {val:ι→Value} {asn:ι→List Asn} (hf:P.funcs[f]?=some fn) (hb:fn.body=some code)
  (hn:args.length≤fn.ntmps) {n:Nat} (hn':fn.ntmps=n)
  (h:∀ w0 I0 m0,J ⟨P,n,w0,I0,m0⟩ (args.zipIdx.map fun x=>(x.2,x.1)) As (code.wp P (bodyPost P fn (Ends w0 I0 m0 val asn)))):Con P f args.toArray As val asn:=fun w I m ho hs=>by
 subst hn'
 refine calls_of_wp hf hb (h w I m _ w ⟨by simp;omega,rfl,?_⟩ ⟨I,m,ho.eff,hs⟩)
 have key:∀ (l:List Value) (k t:Nat) (v:Value),lk ((l.zipIdx k).map fun x=>(x.2,x.1)) t=some v→k≤t∧l[t-k]?=some v:=by
  intro l
  induction l with
  | nil=>intro k t v h;simp [lk] at h
  | cons u l ih =>
   intro k t v h
   simp only [List.zipIdx_cons,List.map_cons,lk] at h
   cases hb:Nat.beq k t with
   | true =>
    rw [hb] at h
    simp only [cond_true,Option.some.injEq] at h
    have:=Nat.eq_of_beq_eq_true hb
    subst this
    exact ⟨Nat.le_refl _,by simp [h]⟩
   | false =>
    rw [hb] at h
    obtain ⟨h1,h2⟩:=ih (k+1) t v h
    refine ⟨by omega,?_⟩
    rw [show t-k=(t-(k+1))+1 from by omega]
    simpa using h2
 intro t v hv
 have:=(key args 0 t v hv).2
 have hlt:t<args.length:=by rcases Nat.lt_or_ge t args.length with h | h;exact h;simp [List.getElem?_eq_none h] at this
 simp only [Nat.sub_zero] at this
 rw [Array.getElem?_append_left (by simpa using hlt)]
 simpa using this
section ends
variable {c:Cx} {L:List (Nat×Value)} {As:List Asn} {fn:Func} {ι:Type} {val:ι→Value} {asn:ι→List Asn}
/-- What the results read as,and that what the contract promises is there. -/
theorem jq_end (i:ι) (hr:∀ a w,Fits c.n L a→Mem c As w→(results fn a.tmps).run c.P w=.ok (val i) w) (hA:∀ w,Mem c As w→Mem c (asn i) w) :
  J c L As (bodyPost c.P fn (Ends c.w0 c.I0 c.m0 val asn) .ret):=fun a w hf hm=>by
 obtain ⟨I,m,he,hs⟩:=hA w hm
 exact ⟨hf.2.1,val i,hr a w hf hm,i,I,m,rfl,he,hs⟩
theorem jq_fall (h:J c L As (bodyPost c.P fn (Ends c.w0 c.I0 c.m0 val asn) .ret)):J c L As (bodyPost c.P fn (Ends c.w0 c.I0 c.m0 val asn) .normal):=h
theorem Fits.getD {n:Nat} {L:List (Nat×Value)} {a:Act} (h:Fits n L a) {t:Nat} {v:Value} (hv:lk L t=some v):a.tmps.getD t undef=v:=by
 have:=h.2.2 t v hv
 simp [this]
/-- One result. -/
theorem zt {t:Tmp} {x:Value} (hres:fn.results=#[.tmp t]) (i:ι) (hx:lk L t=some x) (hv:val i=x) (hA:∀ w,Mem c As w→Mem c (asn i) w) :
  J c L As (bodyPost c.P fn (Ends c.w0 c.I0 c.m0 val asn) .ret) :=
 jq_end i (fun a w hf _=>by rw [results_tmp hres,hf.getD hx,hv]) hA
theorem jq_ret0 (hres:fn.results=#[]) (i:ι) (hv:val i=.tuple #[]) (hA:∀ w,Mem c As w→Mem c (asn i) w) :
  J c L As (bodyPost c.P fn (Ends c.w0 c.I0 c.m0 val asn) .ret) :=
 jq_end i (fun a w _ _=>by rw [results_none hres,hv]) hA
/-- Results one by one: a slot,or a variable. -/
def resOf (tmps:Array Value):ResultVar→Sem Value
 | .tmp t=>pure (tmps.getD t undef)
 | .cell ad T=>do loadVar T (← asAddr (tmps.getD ad undef))
theorem results_eq (fn:Func) (tmps:Array Value):results fn tmps=(do let vs ← fn.results.mapM (resOf tmps);pure (if h:vs.size=1 then vs[0] else .tuple vs)):=by
 unfold results
 congr 2
def ResV (c:Cx) (L:List (Nat×Value)) (As:List Asn) (r:ResultVar) (v:Value):Prop :=
 ∀ a w,Fits c.n L a→Mem c As w→(resOf a.tmps r).run c.P w=.ok v w
theorem zC {t:Tmp} {v:Value} (h:lk L t=some v):ResV c L As (.tmp t) v:=fun a w hf _=>by simp only [resOf,hf.getD h,Sem.run_pure]
def W2 (c:Cx) (L:List (Nat×Value)) (As:List Asn):List ResultVar→List Value→Prop
 | [],[]=>True
 | r::rs,v::vs=>ResV c L As r v∧W2 c L As rs vs
 | _,_=>False
theorem W2.run {a:Act} {w:World} (hf:Fits c.n L a) (hm:Mem c As w):∀ {rs:List ResultVar} {vs:List Value},W2 c L As rs vs →
  (rs.mapM (resOf a.tmps)).run c.P w=.ok vs w
 | [],[],_=>by simp
 | r::rs,v::vs,h=>by
  rw [List.mapM_cons]
  simp only [Sem.run_bind,h.1 a w hf hm,Result.andThen_ok,W2.run hf hm h.2,Sem.run_pure]
 | [],_::_,h=>h.elim
 | _::_,[],h=>h.elim
theorem run_results {a:Act} {w:World} (hf:Fits c.n L a) (hm:Mem c As w) {rs:List ResultVar} {vs:List Value} (hres:fn.results=rs.toArray) (hx:W2 c L As rs vs) :
  (results fn a.tmps).run c.P w=.ok (if h:vs.length=1 then vs[0] else .tuple vs.toArray) w:=by
 have h:=W2.run hf hm hx
 rw [results_eq,hres]
 simp [List.mapM_toArray,h]
theorem YQ {rs:List ResultVar} {vs:List Value} (hres:fn.results=rs.toArray) (i:ι) (hx:W2 c L As rs vs) (hn:Nat.beq vs.length 1=false) (hv:val i=.tuple vs.toArray) (hA:∀ w,Mem c As w→Mem c (asn i) w) :
  J c L As (bodyPost c.P fn (Ends c.w0 c.I0 c.m0 val asn) .ret) :=
 jq_end i (fun a w hf hm=>by
  have hn':vs.length≠1:=fun e=>by rw [e] at hn;cases hn
  rw [run_results hf hm hres hx,hv,dif_neg hn']) hA
theorem qd {r:ResultVar} {v:Value} (hres:fn.results=#[r]) (i:ι) (hx:ResV c L As r v) (hv:val i=v) (hA:∀ w,Mem c As w→Mem c (asn i) w) :
  J c L As (bodyPost c.P fn (Ends c.w0 c.I0 c.m0 val asn) .ret) :=
 jq_end i (fun a w hf hm=>by
  rw [run_results (rs:=[r]) (vs:=[v]) hf hm hres ⟨hx,trivial⟩,hv];rfl) hA
end ends
/-! ### Operations: those that leave the world alone -/
/-- The operation yields v and leaves the world as it is. -/
def PR (c:Cx) (op:Op) (T:TypeId) (L:List (Nat×Value)) (As:List Asn) (v:Value):Prop :=
 ∀ a w,Fits c.n L a→Mem c As w→∀ d pos aft gd,(execOp a.eval ⟨d,op,T,pos,aft,gd⟩).run c.P w=.ok (.value v) w
section ops
variable {c:Cx} {L:List (Nat×Value)} {As:List Asn} {Q:Exit→Act→World→Prop} {K:Act→World→Prop} {ops:Array Oper} {rest:List Oper} {T:TypeId} {pos:String} {aft:Array Edge}
/-- One operation of a region,no guard. -/
theorem Yc {o:Oper} (hg:o.guard=none) (h:J c L As (fun a w=>o.wp c.P a w (wpList c.P ops Q rest) Q)):J c L As (wpList c.P ops Q (o::rest)):=fun a w hf hm =>
 wpList_plain hg fun _ hK=>by
  have:=h a w hf hm
  unfold Oper.wp at this ⊢
  revert this
  generalize (execOp a.eval o).run c.P w=r
  intro this
  cases r with
  | ok n w'=>cases n with
   | value v=>exact hK _ _ this
   | skip=>exact hK _ _ this
   | defer d=>exact hK _ _ this
   | enter f args=>exact Calls.mono this fun e w'' he=>by cases e with
    | returned v=>exact hK _ _ he
    | panicked ch=>exact he
    | outgrown=>exact he
   | row r args=>exact Rows.mono this fun v w'' he=>hK _ _ he
   | _=>exact this
  | halt h w'=>cases h <;> exact this
theorem yL (h:J c L As (Q .normal)):J c L As (wpList c.P ops Q []):=h
theorem jo_pure {op:Op} {d:Nat} {v:Value} (hd:Nat.blt d c.n=true) (hp:PR c op T L As v) (h:J c ((d,v)::L) As (wpList c.P ops Q rest)) :
  J c L As (wpList c.P ops Q (⟨some d,op,T,pos,aft,none⟩::rest)):=Yc rfl fun a w hf hm=>by
 show Oper.upon _ _ _ _ _ ((execOp a.eval _).run c.P w)
 rw [hp a w hf hm]
 exact h _ w (hf.put (by rw [Nat.blt_eq] at hd;exact hd) v) hm
/-- A guard that is met. -/
theorem zi {d:Option Tmp} {op:Op} {j:Nat} {want b:Bool} {t:Nat} (hj:(ops[j]?).bind (·.dst)=some t) (hl:lk L t=some (.bool b)) (hb:b=want)
  (h:J c L As (wpList c.P ops Q (⟨d,op,T,pos,aft,none⟩::rest))):J c L As (wpList c.P ops Q (⟨d,op,T,pos,aft,some (j,want)⟩::rest)):=fun a w hf hm=>by
 have hy:yielded ops a.tmps j=some want:=by
  have:=hf.2.2 t _ hl
  simp [yielded,hj,this,hb]
 have:=h a w hf hm
 unfold wpList at this ⊢
 rw [if_pos (by simp [Region.wanted])] at this
 rw [if_pos (by simp [Region.wanted,hy])]
 exact this
/-! The plain ones. -/
theorem yh {x:Operand} {v:Value} (hv:ev L x=some v):PR c (.move x) T L As v:=fun a w hf _ d pos aft gd=>by simp [execOp,hf.ev hv]
theorem Ys {x:Operand} {v:Value} (hv:ev L x=some v):PR c (.assign x) T L As v:=fun a w hf _ d pos aft gd=>by simp [execOp,hf.ev hv]
theorem Y7 {x y z:Operand} {v:Value} {b:Bool} (hx:ev L x=some (.bool b)) (hb:b=true) (hv:ev L y=some v):PR c (.pick x y z) T L As v:=fun a w hf _ d pos aft gd=>by
 simp [execOp,hf.ev hx,hf.ev hv,asBool,hb]
theorem Ze {x y z:Operand} {v:Value} {b:Bool} (hx:ev L x=some (.bool b)) (hb:b=false) (hv:ev L z=some v):PR c (.pick x y z) T L As v:=fun a w hf _ d pos aft gd=>by
 simp [execOp,hf.ev hx,hf.ev hv,asBool,hb]
theorem yS {x:Operand} {vs:Array Value} {k:Nat} {v:Value} (hx:ev L x=some (.tuple vs)) (hk:vs[k]?=some v):PR c (.extract x k) T L As v:=fun a w hf _ d pos aft gd=>by
 simp [execOp,hf.ev hx,Instr.extract,hk]
theorem zq {x:Operand} {b:Bool} {t:TypeId} (hx:ev L x=some (.bool b)):PR c (.unOp .not t x) T L As (.bool (!b)):=fun a w hf _ d pos aft gd=>by
 simp [execOp,hf.ev hx,Op.unary]
theorem ZS {f:Fn} {first capt:Array Operand} {fs cs:Array Value} (hf1:∀ a,Fits c.n L a→first.map a.eval=fs) (hf2:∀ a,Fits c.n L a→capt.map a.eval=cs):PR c (.makeFunc f first capt) T L As (.func f fs cs):=fun a w hf _ d pos aft gd=>by
 simp [execOp,Instr.makeFunc,hf1 a hf,hf2 a hf]
end ops
end Go.Sep
namespace Go.Sep
open Go
theorem beq_dec {α:Type} [DecidableEq α] (a b:α):(a==b)=decide (a=b):=rfl
theorem w8 (l:List UInt8):(⟨l.toArray⟩:ByteArray).size=l.length:=rfl
section ops
variable {c:Cx} {L:List (Nat×Value)} {As:List Asn} {T t t':TypeId}
/-! ### Numbers -/
theorem qT {x y:Operand} {k:IntKind} {m n:Int} (hx:ev L x=some (.int k m)) (hy:ev L y=some (.int k n)):PR c (.binOp .lss t x y t') T L As (.bool (decide (m<n))):=fun a w hf _ d pos aft gd=>by
 simp [execOp,hf.ev hx,hf.ev hy,eqGuard,binOp,Op.intCmp]
theorem pr_leq {x y:Operand} {k:IntKind} {m n:Int} (hx:ev L x=some (.int k m)) (hy:ev L y=some (.int k n)):PR c (.binOp .leq t x y t') T L As (.bool (decide (m≤n))):=fun a w hf _ d pos aft gd=>by
 simp [execOp,hf.ev hx,hf.ev hy,eqGuard,binOp,Op.intCmp]
theorem pr_gtr {x y:Operand} {k:IntKind} {m n:Int} (hx:ev L x=some (.int k m)) (hy:ev L y=some (.int k n)):PR c (.binOp .gtr t x y t') T L As (.bool (decide (n<m))):=fun a w hf _ d pos aft gd=>by
 simp [execOp,hf.ev hx,hf.ev hy,eqGuard,binOp,Op.intCmp]
theorem wS {x y:Operand} {k:IntKind} {m n:Int} (hx:ev L x=some (.int k m)) (hy:ev L y=some (.int k n)):PR c (.binOp .geq t x y t') T L As (.bool (decide (n≤m))):=fun a w hf _ d pos aft gd=>by
 simp [execOp,hf.ev hx,hf.ev hy,eqGuard,binOp,Op.intCmp]
theorem zQ {x y:Operand} {k:IntKind} {m n:Int} (hx:ev L x=some (.int k m)) (hy:ev L y=some (.int k n)):PR c (.binOp .eql t x y t') T L As (.bool (decide (m=n))):=fun a w hf _ d pos aft gd=>by
 simp [execOp,hf.ev hx,hf.ev hy,eqGuard,binOp,Op.intCmp];exact beq_dec _ _
theorem pr_neq {x y:Operand} {k:IntKind} {m n:Int} (hx:ev L x=some (.int k m)) (hy:ev L y=some (.int k n)):PR c (.binOp .neq t x y t') T L As (.bool (!decide (m=n))):=fun a w hf _ d pos aft gd=>by
 simp [execOp,hf.ev hx,hf.ev hy,eqGuard,binOp,Op.intCmp,bne];exact beq_dec _ _
theorem wrap_i64 {n:Int} (h:-9223372036854775808≤n∧n≤9223372036854775807):IntKind.i64.wrap n=n:=IntWalk.i64_in _ h
theorem pr_add {x y:Operand} {m n:Int} (hx:ev L x=some (.int .i64 m)) (hy:ev L y=some (.int .i64 n)) (h:-9223372036854775808≤m+n∧m+n≤9223372036854775807):PR c (.binOp .add t x y t') T L As (.int .i64 (m+n)):=fun a w hf _ d pos aft gd=>by
 simp only [execOp,hf.ev hx,hf.ev hy,eqGuard,binOp,Op.intArith]
 rw [wrap_i64 h];simp
theorem pr_sub {x y:Operand} {m n:Int} (hx:ev L x=some (.int .i64 m)) (hy:ev L y=some (.int .i64 n)) (h:-9223372036854775808≤m-n∧m-n≤9223372036854775807):PR c (.binOp .sub t x y t') T L As (.int .i64 (m-n)):=fun a w hf _ d pos aft gd=>by
 simp only [execOp,hf.ev hx,hf.ev hy,eqGuard,binOp,Op.intArith]
 rw [wrap_i64 h];simp
/-! #### Natural numbers -/
theorem yP {x y:Operand} {k:IntKind} {m n:Nat} (hx:ev L x=some (.int k m)) (hy:ev L y=some (.int k n)):PR c (.binOp .lss t x y t') T L As (.bool (decide (m<n))):=by
 have:=qT (c:=c) (As:=As) (T:=T) (t:=t) (t':=t') hx hy
 simpa using this
theorem qN {x y:Operand} {k:IntKind} {m n:Nat} (hx:ev L x=some (.int k m)) (hy:ev L y=some (.int k n)):PR c (.binOp .leq t x y t') T L As (.bool (decide (m≤n))):=by
 have:=pr_leq (c:=c) (As:=As) (T:=T) (t:=t) (t':=t') hx hy
 simpa using this
theorem Yn {x y:Operand} {k:IntKind} {m n:Nat} (hx:ev L x=some (.int k m)) (hy:ev L y=some (.int k n)):PR c (.binOp .gtr t x y t') T L As (.bool (decide (n<m))):=by
 have:=pr_gtr (c:=c) (As:=As) (T:=T) (t:=t) (t':=t') hx hy
 simpa using this
theorem pr_geqN {x y:Operand} {k:IntKind} {m n:Nat} (hx:ev L x=some (.int k m)) (hy:ev L y=some (.int k n)):PR c (.binOp .geq t x y t') T L As (.bool (decide (n≤m))):=by
 have:=wS (c:=c) (As:=As) (T:=T) (t:=t) (t':=t') hx hy
 simpa using this
theorem YG {x y:Operand} {k:IntKind} {m n:Nat} (hx:ev L x=some (.int k m)) (hy:ev L y=some (.int k n)):PR c (.binOp .eql t x y t') T L As (.bool (decide (m=n))):=by
 have:=zQ (c:=c) (As:=As) (T:=T) (t:=t) (t':=t') hx hy
 rwa [decide_eq_decide.2 (Int.natCast_inj (m:=m) (n:=n))] at this
theorem ZK {x y:Operand} {k:IntKind} {m n:Nat} (hx:ev L x=some (.int k m)) (hy:ev L y=some (.int k n)):PR c (.binOp .neq t x y t') T L As (.bool (!decide (m=n))):=by
 have:=pr_neq (c:=c) (As:=As) (T:=T) (t:=t) (t':=t') hx hy
 rwa [decide_eq_decide.2 (Int.natCast_inj (m:=m) (n:=n))] at this
theorem yC {x y:Operand} {m n:Nat} (hx:ev L x=some (.int .i64 m)) (hy:ev L y=some (.int .i64 n)) (h:m+n≤9223372036854775807):PR c (.binOp .add t x y t') T L As (.int .i64 ((m+n:Nat):Int)):=by
 have:=pr_add (c:=c) (As:=As) (T:=T) (t:=t) (t':=t') hx hy (by omega)
 rwa [← Int.natCast_add] at this
theorem qM {x y:Operand} {m n:Nat} (hx:ev L x=some (.int .i64 m)) (hy:ev L y=some (.int .i64 n)) (h:n≤m) (h':m≤9223372036854775807):PR c (.binOp .sub t x y t') T L As (.int .i64 ((m-n:Nat):Int)):=by
 have:=pr_sub (c:=c) (As:=As) (T:=T) (t:=t) (t':=t') hx hy (by omega)
 rwa [← Int.ofNat_sub h] at this
/-! ### Bytes -/
theorem byte_inj {a b:UInt8}:((a.toNat:Int)=b.toNat)↔a=b:=by
 rw [Int.natCast_inj,UInt8.toNat_inj]
theorem wrap_u8 (n:Nat):IntKind.u8.wrap (n:Int)=((n % 256:Nat):Int):=by
 simp [IntKind.wrap,IntKind.signed,IntKind.bits]
theorem pr_blss {x y:Operand} {m n:UInt8} (hx:ev L x=some (byte m)) (hy:ev L y=some (byte n)):PR c (.binOp .lss t x y t') T L As (.bool (decide (m<n))):=fun a w hf _ d pos aft gd=>by
 simp [execOp,hf.ev hx,hf.ev hy,byte,eqGuard,binOp,Op.intCmp,UInt8.lt_iff_toNat_lt]
theorem qO {x y:Operand} {m n:UInt8} (hx:ev L x=some (byte m)) (hy:ev L y=some (byte n)):PR c (.binOp .leq t x y t') T L As (.bool (decide (m≤n))):=fun a w hf _ d pos aft gd=>by
 simp [execOp,hf.ev hx,hf.ev hy,byte,eqGuard,binOp,Op.intCmp,UInt8.le_iff_toNat_le]
theorem pr_bgtr {x y:Operand} {m n:UInt8} (hx:ev L x=some (byte m)) (hy:ev L y=some (byte n)):PR c (.binOp .gtr t x y t') T L As (.bool (decide (n<m))):=fun a w hf _ d pos aft gd=>by
 simp [execOp,hf.ev hx,hf.ev hy,byte,eqGuard,binOp,Op.intCmp,UInt8.lt_iff_toNat_lt]
theorem qa {x y:Operand} {m n:UInt8} (hx:ev L x=some (byte m)) (hy:ev L y=some (byte n)):PR c (.binOp .geq t x y t') T L As (.bool (decide (n≤m))):=fun a w hf _ d pos aft gd=>by
 simp [execOp,hf.ev hx,hf.ev hy,byte,eqGuard,binOp,Op.intCmp,UInt8.le_iff_toNat_le]
theorem Yo {x y:Operand} {m n:UInt8} (hx:ev L x=some (byte m)) (hy:ev L y=some (byte n)):PR c (.binOp .eql t x y t') T L As (.bool (decide (m=n))):=fun a w hf _ d pos aft gd=>by
 have:((m.toNat:Int)==n.toNat)=decide (m=n):=by rw [beq_dec];simp only [byte_inj]
 simp [execOp,hf.ev hx,hf.ev hy,byte,eqGuard,binOp,Op.intCmp,this]
theorem pr_bneq {x y:Operand} {m n:UInt8} (hx:ev L x=some (byte m)) (hy:ev L y=some (byte n)):PR c (.binOp .neq t x y t') T L As (.bool (!decide (m=n))):=fun a w hf _ d pos aft gd=>by
 have:((m.toNat:Int)==n.toNat)=decide (m=n):=by rw [beq_dec];simp only [byte_inj]
 simp [execOp,hf.ev hx,hf.ev hy,byte,eqGuard,binOp,Op.intCmp,bne,this]
theorem pr_badd {x y:Operand} {m n:UInt8} (hx:ev L x=some (byte m)) (hy:ev L y=some (byte n)):PR c (.binOp .add t x y t') T L As (byte (m+n)):=fun a w hf _ d pos aft gd=>by
 have:IntKind.u8.wrap ((m.toNat:Int)+n.toNat)=(m+n).toNat:=by
  rw [← Int.natCast_add,wrap_u8,UInt8.toNat_add]
 simp [execOp,hf.ev hx,hf.ev hy,byte,eqGuard,binOp,Op.intArith,this]
theorem pr_bsub {x y:Operand} {m n:UInt8} (hx:ev L x=some (byte m)) (hy:ev L y=some (byte n)):PR c (.binOp .sub t x y t') T L As (byte (m-n)):=fun a w hf _ d pos aft gd=>by
 have:IntKind.u8.wrap ((m.toNat:Int)-n.toNat)=(m-n).toNat:=by
  have h1:=m.toNat_lt
  have h2:=n.toNat_lt
  simp only [IntKind.wrap,IntKind.signed,IntKind.bits,UInt8.toNat_sub]
  simp
  omega
 simp [execOp,hf.ev hx,hf.ev hy,byte,eqGuard,binOp,Op.intArith,this]
/-! ### Strings -/
theorem str_data (s:ByteArray):str s.data.toList=.string s:=by unfold str;rw [Lib.mk_data]
theorem zT {x y:Operand} {m n:List UInt8} (hx:ev L x=some (str m)) (hy:ev L y=some (str n)):PR c (.binOp .eql t x y t') T L As (.bool (decide (m=n))):=fun a w hf _ d pos aft gd=>by
 simp [execOp,hf.ev hx,hf.ev hy,str,eqGuard,binOp,Op.stringOp];by_cases h:m=n <;> simp [h]
theorem ZD {x y:Operand} {m n:List UInt8} (hx:ev L x=some (str m)) (hy:ev L y=some (str n)):PR c (.binOp .neq t x y t') T L As (.bool (!decide (m=n))):=fun a w hf _ d pos aft gd=>by
 simp [execOp,hf.ev hx,hf.ev hy,str,eqGuard,binOp,Op.stringOp];by_cases h:m=n <;> simp [h]
theorem pr_sadd {x y:Operand} {m n:List UInt8} (hx:ev L x=some (str m)) (hy:ev L y=some (str n)) (h:m.length+n.length≤9223372036854775807):PR c (.binOp .add t x y t') T L As (str (m++n)):=fun a w hf _ d pos aft gd=>by
 have e:(⟨m.toArray⟩++⟨n.toArray⟩:ByteArray)=⟨(m++n).toArray⟩:=by
  apply ByteArray.ext
  show (ByteArray.append _ _).data=_
  simp [ByteArray.append]
 have h2:¬ (((⟨m.toArray⟩:ByteArray).size+(⟨n.toArray⟩:ByteArray).size:Nat):Int)>IntKind.i64.max:=by
  simp [w8,IntKind.max,IntKind.signed,IntKind.bits];omega
 simp only [execOp,hf.ev hx,hf.ev hy,str,eqGuard,binOp,Op.stringOp,if_neg h2,e]
 simp
theorem zh {x:Operand} {m:List UInt8} {ty:TypeId} (hx:ev L x=some (str m)) (ht:c.P.underlying ty=some .string):PR c (.call { callee:=.builtin .len,args:=#[x],argTypes:=#[ty] }) T L As (.int .i64 m.length):=fun a w hf _ d pos aft gd=>by
 simp [execOp,resolve,invoke,builtin,Builtin.len_,hf.ev hx,str,run_underlying ht,goInt,w8]
theorem zA {x y:Operand} {m:List UInt8} {i:Nat} {k:IntKind} {ty:TypeId} (hx:ev L x=some (str m)) (hy:ev L y=some (.int k i)) (ht:c.P.underlying ty=some .string) (hi:i<m.length) :
  PR c (.index ty x y) T L As (byte (m.getD i 0)):=fun a w hf _ d pos aft gd=>by
 have:(⟨m.toArray⟩:ByteArray)[i]?=some (m.getD i 0):=by
  have hs:i<(⟨m.toArray⟩:ByteArray).size:=by simpa [w8] using hi
  rw [getElem?_pos _ i hs]
  simp only [Option.some.injEq]
  show m.toArray[i]=_
  simp [List.getD,List.getElem?_eq_getElem hi]
 simp [execOp,Instr.index,hf.ev hx,hf.ev hy,asIntOf,run_underlying ht,str,this,byte]
theorem extract_mk (m:List UInt8) (i j:Nat):(⟨m.toArray⟩:ByteArray).extract i j=⟨((m.take j).drop i).toArray⟩:=by
 rw [Lib.extract_eq];simp [List.drop_take]
theorem zZ {P:Program} {w:World} {k:IntKind} {i y:Nat} (h:i≤y) (code:BoundsCode):(Instr.sliceBound (.int k i) y code).run P w=.ok i w:=by
 simp [Instr.sliceBound,asIntOf,h]
theorem WT {x lo hi:Operand} {m:List UInt8} {i j:Nat} {k k':IntKind} {ty:TypeId} (hx:ev L x=some (str m)) (hlo:ev L lo=some (.int k i)) (hhi:ev L hi=some (.int k' j)) (ht:c.P.underlying ty=some .string)
  (hij:i≤j) (hj:j≤m.length):PR c (.slice ty x (some lo) (some hi) none) T L As (str ((m.take j).drop i)):=fun a w hf _ d pos aft gd=>by
 simp [execOp,Instr.sliceAt,Instr.slice,Instr.sliceBounds,hf.ev hx,hf.ev hlo,hf.ev hhi,run_underlying ht,str,zZ hij,zZ (show j≤(⟨m.toArray⟩:ByteArray).size by simpa [w8] using hj),extract_mk]
theorem Y0 {x lo:Operand} {m:List UInt8} {i:Nat} {k:IntKind} {ty:TypeId} (hx:ev L x=some (str m)) (hlo:ev L lo=some (.int k i)) (ht:c.P.underlying ty=some .string)
  (hi:i≤m.length):PR c (.slice ty x (some lo) none none) T L As (str (m.drop i)):=fun a w hf _ d pos aft gd=>by
 have e:(m.take (⟨m.toArray⟩:ByteArray).size).drop i=m.drop i:=by simp [w8]
 simp [execOp,Instr.sliceAt,Instr.slice,Instr.sliceBounds,hf.ev hx,hf.ev hlo,run_underlying ht,str,zZ (show i≤(⟨m.toArray⟩:ByteArray).size by simpa [w8] using hi),extract_mk,e]
theorem Y1 {x hi:Operand} {m:List UInt8} {j:Nat} {k:IntKind} {ty:TypeId} (hx:ev L x=some (str m)) (hhi:ev L hi=some (.int k j)) (ht:c.P.underlying ty=some .string)
  (hj:j≤m.length):PR c (.slice ty x none (some hi) none) T L As (str (m.take j)):=fun a w hf _ d pos aft gd=>by
 simp [execOp,Instr.sliceAt,Instr.slice,Instr.sliceBounds,hf.ev hx,hf.ev hhi,run_underlying ht,str,zZ (show j≤(⟨m.toArray⟩:ByteArray).size by simpa [w8] using hj),extract_mk]
end ops
end Go.Sep
namespace Go.Sep
open Go
/-! ### A step that touches the first assertions alone -/
theorem Okw.left {w:World} {I:zl} {m1 m2:List Nat} (h:Okw w I (m1++m2)):Okw w I m1 :=
 ⟨h.lt,(List.nodup_append.1 h.nodup).1,fun b hb=>h.apart b (by simp [hb]),fun b hb=>h.own b (by simp [hb])⟩
theorem Mem.step {c:Cx} {Ps R Bs:List Asn} {w w':World} (h:Mem c (Ps++R) w)
  (hk:∀ I m1,Okw w I m1→Sats w I Ps m1→∃ I' m1',Eff w I m1 w' I' m1'∧Sats w' I' Bs m1'):Mem c (Bs++R) w':=by
 obtain ⟨I,m,he,hs⟩:=h
 obtain ⟨m1,m2,rfl,h1,h2⟩:=Yl.1 hs
 have ho:=he.okw
 obtain ⟨I',m1',h3,h4⟩:=hk I m1 ho.left h1
 exact ⟨I',m1'++m2,he.trans (h3.frame ho),Yl.2 ⟨m1',m2,rfl,h4,h2.frame ho h3⟩⟩
theorem Mem.get {c:Cx} {As:List Asn} {A:Asn} {w:World} (h:Mem c As w) (hA:A∈As):∃ I m,Okw w I m∧A.sat w I m:=by
 obtain ⟨I,m,he,hs⟩:=h
 have ho:=he.okw
 clear he
 induction As generalizing m with
 | nil=>cases hA
 | cons B As ih =>
  obtain ⟨m1,m2,rfl,h1,h2⟩:=hs
  rcases List.mem_cons.1 hA with rfl | hA
  ·exact ⟨I,m1,ho.left,h1⟩
  ·exact ih hA m2 h2 ⟨ho.lt,(List.nodup_append.1 ho.nodup).2.1,fun b hb=>ho.apart b (by simp [hb]),fun b hb=>ho.own b (by simp [hb])⟩
theorem Mem.drawn {c:Cx} {As:List Asn} {w:World} (h:Mem c As w) (n:Nat):Mem c As { w with drawn:=n }:=by
 obtain ⟨I,m,he,hs⟩:=h
 refine ⟨I,m,⟨he.os,he.tape,he.output,he.size,he.block,he.sub,he.new,he.lt,he.nodup,he.apart,he.own⟩,?_⟩
 exact W1 (w:=w) (w':={ w with drawn:=n }) (Nat.le_refl _) (fun _ h=>h) (fun _ _=>rfl) hs
theorem Mem.drew {c:Cx} {As:List Asn} {w:World} (h:Mem c As w):Mem c As w.drew:=h.drawn _
theorem wn (w:World) (o:Obj):(w.alloc o).heap.size=w.heap.size+1:=by
 show (w.heap.push o).size=_
 simp
/-- A new block. -/
theorem Mem.new {c:Cx} {As Bs:List Asn} {w:World} {o:Obj} (h:Mem c As w)
  (hB:∀ I,Okw w I []→Sats (w.alloc o) I Bs [w.heap.size]):Mem c (Bs++As) (w.alloc o) :=
 Mem.step (Ps:=[]) h fun I m ho hs=>by
  simp only [Sats] at hs
  subst hs
  refine ⟨I,[w.heap.size],⟨rfl,rfl,rfl,by rw [wn];omega,fun k hk _=>heap_alloc_old w o hk,fun _ h=>h,fun _ h=>.inl h,fun b hb=>?_,by simp,fun b hb hI=>?_,fun b hb=>?_⟩,hB I ho⟩
  ·have:=ho.lt b hb;rw [wn];omega
  ·simp at hb;subst hb;exact Nat.lt_irrefl _ (ho.lt _ hI)
  ·simp at hb;subst hb;exact ⟨.inr (Nat.le_refl _),by rw [wn];omega⟩
/-- A block of one's own is written. -/
theorem Eff.write {w w':World} {I:zl} {b:Nat} (ho:Okw w I [b]) (h1:w'.os=w.os) (h2:w'.tape=w.tape) (h3:w'.output=w.output) (h4:w'.heap.size=w.heap.size)
  (h5:∀ k,k≠b→w'.heap[k]?=w.heap[k]?):Eff w I [b] w' I [b] :=
 ⟨h1,h2,h3,Nat.le_of_eq h4.symm,fun k _ hk=>h5 k (by simpa using hk),fun _ h=>h,fun _ h=>.inl h,fun k hk=>by have:=ho.lt k hk;omega,ho.nodup,ho.apart,fun k hk=>⟨.inl hk,by have:=ho.own k hk;omega⟩⟩
/-! ### Own blocks,told by their cells -/
def setL:List Value→Nat→List Value→List Value
 | cs,_,[]=>cs
 | cs,o,v::r=>setL (cs.set o v) (o+1) r
theorem WD:∀ (vs cs:List Value) (o:Nat),(setL cs o vs).length=cs.length
 | [],_,_=>rfl
 | v::r,cs,o=>by rw [setL,WD r];simp
theorem setL_out:∀ (vs cs:List Value) (o j:Nat),j<o∨o+vs.length≤j→(setL cs o vs)[j]?=cs[j]?
 | [],_,_,_,_=>rfl
 | v::r,cs,o,j,h=>by
  rw [setL,setL_out r _ _ _ (by simp at h;omega),List.getElem?_set_ne (by simp at h;omega)]
theorem setL_in:∀ (vs cs:List Value) (o j:Nat),o+vs.length≤cs.length→o≤j→j<o+vs.length→(setL cs o vs)[j]?=vs[j-o]?
 | [],_,_,_,_,h1,h2=>by simp at h2;omega
 | v::r,cs,o,j,h0,h1,h2=>by
  rw [setL]
  simp only [List.length_cons] at h0 h2
  by_cases hj:j=o
  ·subst hj
   rw [setL_out r _ _ _ (by omega),List.getElem?_set_self (by omega)]
   simp
  ·rw [setL_in r _ _ _ (by simp;omega) (by omega) (by omega)]
   rw [show j-o=(j-(o+1))+1 from by omega]
   simp
theorem wD (b:Nat) (T:TypeId) (fz:Nat×Nat):∀ (vs:List Value) (o:Nat) (w:World) (cs:List Value),w.heap[b]?=some (.cells cs.toArray T fz) →
  (w.setCells b o vs).heap[b]?=some (.cells (setL cs o vs).toArray T fz)∧(∀ k,k≠b→(w.setCells b o vs).heap[k]?=w.heap[k]?)∧(w.setCells b o vs).heap.size=w.heap.size∧(w.setCells b o vs).os=w.os∧(w.setCells b o vs).tape=w.tape∧(w.setCells b o vs).output=w.output
 | [],_,_,_,h=>⟨h,fun _ _=>rfl,rfl,rfl,rfl,rfl⟩
 | v::r,o,w,cs,h=>by
  have h1:(w.setCell ⟨b,o,none⟩ v).heap[b]?=some (.cells (cs.set o v).toArray T fz):=by
   have hlt:=(Array.getElem?_eq_some_iff.1 h).1
   have hb:w.heap[b]=.cells cs.toArray T fz:=(Array.getElem?_eq_some_iff.1 h).2
   simp [World.setCell,Array.getElem?_modify,h]
  obtain ⟨i1,i2,i3,i4,i5,i6⟩:=wD b T fz r (o+1) _ _ h1
  refine ⟨i1,fun k hk=>(i2 k hk).trans (heap_setCell_other w ⟨b,o,none⟩ k v hk),i3.trans (by simp [World.setCell]),i4,i5,i6⟩
theorem z4 {w:World} {b o:Nat} {C:Array Value} {T:TypeId} {fz:Nat×Nat} (h:w.heap[b]?=some (.cells C T fz)):w.cell? ⟨b,o,none⟩=C[o]?:=by
 simp [World.cell?,h]
theorem Addr.add_mk (b o k:Nat):(⟨b,o,none⟩:Addr).add k=⟨b,o+k,none⟩:=by unfold Addr.add;split <;> simp_all
/-- Facts of the table of types,closed for each program. -/
def kindB (P:Program) (T:TypeId):Option Bool:=(P.underlying T).map fun d=>match d with | .struct _ | .array _ _=>true | _=>false
structure TyF (P:Program) (T:TypeId) (agg:Bool) (n by_:Nat) (z:Option Value):Prop where
 kind:kindB P T=some agg
 info:(P.info? T).map (fun i=>(i.size,i.bytes,i.zero))=some (n,by_,z)
theorem TyF.get {P:Program} {T:TypeId} {agg:Bool} {n by_:Nat} {z:Option Value} (h:TyF P T agg n by_ z):∃ i,P.info? T=some i∧i.size=n∧i.bytes=by_∧i.zero=z:=by
 have:=h.info
 cases hi:P.info? T with
 | none=>simp [hi] at this
 | some i=>simp [hi] at this;exact ⟨i,rfl,this.1,this.2.1,this.2.2⟩
theorem TyF.isAgg {P:Program} {T:TypeId} {agg:Bool} {n by_:Nat} {z:Option Value} (h:TyF P T agg n by_ z) (w:World):(isAgg T).run P w=.ok agg w:=by
 have:=h.kind
 unfold kindB at this
 cases hu:P.underlying T with
 | none=>simp [hu] at this
 | some d =>
  simp only [hu,Option.map_some,Option.some.injEq] at this
  simp only [Go.isAgg,Sem.run_bind,run_underlying hu,Result.andThen_ok]
  subst this
  cases d <;> rfl
theorem TyF.sizeOf {P:Program} {T:TypeId} {agg:Bool} {n by_:Nat} {z:Option Value} (h:TyF P T agg n by_ z) (w:World):(sizeOf T).run P w=.ok n w:=by
 obtain ⟨i,h1,h2,_⟩:=h.get
 simp [Go.sizeOf,typeInfo,h1,h2]
/-- What a variable of a type holds,out of cells. -/
def Zl (agg:Bool) (cs:List Value):Value:=bif agg then .agg cs.toArray else cs.headD (.tuple #[])
theorem Yj {P:Program} {T:TypeId} {agg:Bool} {n by_:Nat} {z:Option Value} (ht:TyF P T agg n by_ z) (w:World) (a:Addr) (cs:List Value) (hl:cs.length=n) (h1:agg=false→n=1)
  (hc:∀ j v,cs[j]?=some v→w.cell? (a.add j)=some v):(loadVar T a).run P w=.ok (Zl agg cs) w:=by
 subst hl
 cases agg with
 | true =>
  simp [loadVar,ht.isAgg,ht.sizeOf,run_loadCells_list w a cs hc,Zl]
 | false =>
  have h1:=h1 rfl
  match cs,h1 with
  | [v],_ =>
   have:=hc 0 v rfl
   have e:a.add 0=a:=rfl
   rw [e] at this
   simp [loadVar,ht.isAgg,Zl,load,Sem.run,this]
theorem ZU {P:Program} {T:TypeId} {agg:Bool} {n by_:Nat} {z:Option Value} (ht:TyF P T agg n by_ z) (w:World) (b o:Nat) (v:Value) (vs:List Value) (hv:v.cells=vs.toArray) (hl:vs.length=n)
  (h1:∀ u∈vs,u.oneCell'=true) (hc:∀ j,j<vs.length→(w.cell? ⟨b,o+j,none⟩).isSome=true) (hf:∀ j,j<vs.length→w.frozen? ⟨b,o+j,none⟩=false) :
  (storeVar T ⟨b,o,none⟩ v).run P w=.ok () (w.setCells b o vs):=by
 have:=run_storeCells_cells (P:=P) b o vs 0 w (by simpa using hc) (by simpa using hf) h1
 simp [storeVar,hv,ht.sizeOf,hl,this]
section ops
variable {c:Cx} {L:List (Nat×Value)} {As R:List Asn} {Q:Exit→Act→World→Prop} {K:Act→World→Prop} {ops:Array Oper} {rest:List Oper} {T:TypeId} {pos:String} {aft:Array Edge} {gd:Option (Nat×Bool)}
/-! ### Own variables -/
/-- 'var x T': a new variable of zeroes. -/
theorem zb {E:TypeId} {agg:Bool} {n by_:Nat} {z:Value} {d:Nat} (ht:TyF c.P E agg n by_ (some z)) (cs:List Value) (hz:z.cells=cs.toArray) (hd:Nat.blt d c.n=true)
  (h:∀ b,J c ((d,.pointer (some ⟨b,0,none⟩))::L) (.box b E cs::As) (wpList c.P ops Q rest)):J c L As (wpList c.P ops Q (⟨some d,.alloc E,T,pos,aft,none⟩::rest)):=Yc rfl fun a w hf hm=>by
 obtain ⟨i,h1,_,_,h2⟩:=ht.get
 show Oper.upon _ _ _ _ _ ((execOp a.eval _).run c.P w)
 have hr:(execOp a.eval ⟨some d,.alloc E,T,pos,aft,none⟩).run c.P w=.ok (.value (.pointer (some ⟨w.heap.size,0,none⟩))) (w.alloc (.cells cs.toArray E)):=by
  simp [execOp,Instr.alloc,zeroValue,typeInfo,h1,h2,newVar,newRow,hz,newObj,Sem.run]
 rw [hr]
 exact h _ _ _ (hf.put (by rw [Nat.blt_eq] at hd;exact hd) _) (Mem.new (Bs:=[.box w.heap.size E cs]) hm fun I _=>⟨[w.heap.size],[],rfl,⟨rfl,heap_alloc_new w _⟩,rfl⟩)
/-- A parameter gets a variable. -/
theorem zY {E:TypeId} {x:Operand} {v:Value} {d:Nat} (hx:ev L x=some v) (cs:List Value) (hz:v.cells=cs.toArray) (hd:Nat.blt d c.n=true)
  (h:∀ b,J c ((d,.pointer (some ⟨b,0,none⟩))::L) (.box b E cs::As) (wpList c.P ops Q rest)):J c L As (wpList c.P ops Q (⟨some d,.box E x,T,pos,aft,none⟩::rest)):=Yc rfl fun a w hf hm=>by
 show Oper.upon _ _ _ _ _ ((execOp a.eval _).run c.P w)
 have hr:(execOp a.eval ⟨some d,.box E x,T,pos,aft,none⟩).run c.P w=.ok (.value (.pointer (some ⟨w.heap.size,0,none⟩))) (w.alloc (.cells cs.toArray E)):=by
  simp [execOp,Instr.box,hf.ev hx,newVar,newRow,hz,newObj,Sem.run]
 rw [hr]
 exact h _ _ _ (hf.put (by rw [Nat.blt_eq] at hd;exact hd) _) (Mem.new (Bs:=[.box w.heap.size E cs]) hm fun I _=>⟨[w.heap.size],[],rfl,⟨rfl,heap_alloc_new w _⟩,rfl⟩)
/-- A load out of an own variable. -/
theorem pr_load_box {ty E:TypeId} {agg:Bool} {n by_:Nat} {z:Option Value} {x:Operand} {b o:Nat} {cs:List Value} (v:Value) (hx:ev L x=some (.pointer (some ⟨b,o,none⟩))) (ht:TyF c.P ty agg n by_ z)
  (hA:Asn.box b E cs∈As) (hl:((cs.drop o).take n).length=n) (h1:agg=false→n=1) (hv:Zl agg ((cs.drop o).take n)=v):PR c (.load ty x) T L As v:=fun a w hf hm d pos aft gd=>by
 obtain ⟨I,m,ho,rfl,hh⟩:=hm.get hA
 have:=Yj ht w ⟨b,o,none⟩ _ hl h1 (fun j u hu=>by
  rw [Addr.add_mk,z4 hh]
  rw [List.getElem?_take] at hu
  split at hu
  ·simpa using hu
  ·cases hu)
 simp only [execOp,hf.ev hx,Instr.loadAt,Instr.sureAddr,Sem.run_bind,Sem.run_pure,Result.andThen_ok,this,hv]
/-- A load out of a variable that nobody writes any more. -/
theorem pr_load_ibox {ty E:TypeId} {agg:Bool} {n by_:Nat} {z:Option Value} {x:Operand} {b o:Nat} {cs:List Value} (v:Value) (hx:ev L x=some (.pointer (some ⟨b,o,none⟩))) (ht:TyF c.P ty agg n by_ z)
  (hA:Asn.ibox b E cs∈As) (hl:((cs.drop o).take n).length=n) (h1:agg=false→n=1) (hv:Zl agg ((cs.drop o).take n)=v):PR c (.load ty x) T L As v:=fun a w hf hm d pos aft gd=>by
 obtain ⟨I,m,ho,rfl,_,hh⟩:=hm.get hA
 have:=Yj ht w ⟨b,o,none⟩ _ hl h1 (fun j u hu=>by
  rw [Addr.add_mk,z4 hh]
  rw [List.getElem?_take] at hu
  split at hu
  ·simpa using hu
  ·cases hu)
 simp only [execOp,hf.ev hx,Instr.loadAt,Instr.sureAddr,Sem.run_bind,Sem.run_pure,Result.andThen_ok,this,hv]
/-- A store into an own variable. -/
theorem jo_store {ty E:TypeId} {agg:Bool} {n by_:Nat} {z:Option Value} {x y:Operand} {b o:Nat} {cs:List Value} {v:Value} (hx:ev L x=some (.pointer (some ⟨b,o,none⟩))) (hy:ev L y=some v) (ht:TyF c.P ty agg n by_ z)
  (vs:List Value) (hv:v.cells=vs.toArray) (hl:vs.length=n) (h1:vs.all (·.oneCell')=true) (cs':List Value) (hfit:Nat.ble (o+vs.length) cs.length=true) (hcs:setL cs o vs=cs')
  (h:J c L (.box b E cs'::R) (wpList c.P ops Q rest)):J c L (.box b E cs::R) (wpList c.P ops Q (⟨none,.store ty x y,T,pos,aft,none⟩::rest)):=Yc rfl fun a w hf hm=>by
 obtain ⟨I,m,ho,rfl,hh⟩:=hm.get (A:=.box b E cs) (by simp)
 have hfit':o+vs.length≤cs.length:=Nat.le_of_ble_eq_true hfit
 have hst:=ZU ht w b o v vs hv hl (by simpa using h1) (fun j hj=>by rw [z4 hh];simp;omega) (fun j hj=>by simp [World.frozen?,hh])
 show Oper.upon _ _ _ _ _ ((execOp a.eval _).run c.P w)
 have hr:(execOp a.eval ⟨none,.store ty x y,T,pos,aft,none⟩).run c.P w=.ok .skip (w.setCells b o vs):=by
  simp only [execOp,hf.ev hx,hf.ev hy,Instr.storeAt,Instr.sureAddr,Sem.run_bind,Sem.run_pure,Result.andThen_ok,hst]
 rw [hr]
 obtain ⟨i1,i2,i3,i4,i5,i6⟩:=wD b E (0,0) vs o w cs hh
 exact h _ _ (hf.none _) (Mem.step (Ps:=[.box b E cs]) (Bs:=[.box b E cs']) hm fun I m1 ho hs=>by
  obtain ⟨m1,m2,rfl,⟨rfl,_⟩,rfl⟩:=hs
  exact ⟨I,[b],Eff.write ho i4 i5 i6 i3 i2,[b],[],rfl,⟨rfl,by rw [← hcs];exact i1⟩,rfl⟩)
/-! ### Calls -/
def Cal (P:Program) (f:FuncId):Prop:=∀ args w,(callFunc f args).run P w=.ok (.enter f args) w
theorem yN {P:Program} {f:FuncId} {fn:Func} (hf:P.funcs[f]?=some fn) (h1:(fn.name=="runtime.NumGoroutine")=false) (h2:fn.body.isNone=false):Cal P f:=fun args w=>by
 have h1':fn.name≠"runtime.NumGoroutine":=by simpa using h1
 have h2':fn.body≠none:=by intro e;rw [e] at h2;cases h2
 simp [callFunc,hf,h1',h2']
def EvL (L:List (Nat×Value)):List Operand→List Value→Prop
 | [],[]=>True
 | o::os,v::vs=>ev L o=some v∧EvL L os vs
 | _,_=>False
theorem EvL.map {n:Nat} {a:Act} (hf:Fits n L a):∀ {os:List Operand} {vs:List Value},EvL L os vs→os.map a.eval=vs
 | [],[],_=>rfl
 | o::os,v::vs,h=>by rw [List.map_cons,hf.ev h.1,EvL.map hf h.2]
 | [],_::_,h=>h.elim
 | _::_,[],h=>h.elim
theorem WR {os:List Operand} {vs:List Value} {f:FuncId} {tys:Array TypeId} {P:Program} {a:Act} {n:Nat} (hf:Fits n L a) (hc:Cal P f) (hv:EvL L os vs) {d:Option Tmp} (w:World) :
  (execOp a.eval ⟨d,.call { callee:=.value (.func f),args:=os.toArray,argTypes:=tys },T,pos,aft,gd⟩).run P w=.ok (.enter f vs.toArray) w:=by
 have hm:=hv.map hf
 have h:=hc vs.toArray w
 simp only [execOp,resolve,invoke,Deferred.ofValue,Act.eval,Sem.run_bind,Sem.run_pure,Result.andThen_ok,List.map_toArray,hm]
 simpa using h
/-- A call by contract: what the contract asks stands first. -/
theorem jo_call {os:List Operand} {vs:List Value} {f:FuncId} {tys:Array TypeId} {Bs:List Asn} {ι:Type} {val:ι→Value} {asn:ι→List Asn} {d:Nat} (hc:Cal c.P f) (con:Con c.P f vs.toArray Bs val asn) (hv:EvL L os vs) (hd:Nat.blt d c.n=true)
  (h:∀ i,J c ((d,val i)::L) (asn i++R) (wpList c.P ops Q rest)):J c L (Bs++R) (wpList c.P ops Q (⟨some d,.call { callee:=.value (.func f),args:=os.toArray,argTypes:=tys },T,pos,aft,none⟩::rest)):=Yc rfl fun a w hf hm=>by
 show Oper.upon _ _ _ _ _ ((execOp a.eval _).run c.P w)
 rw [WR hf hc hv w]
 obtain ⟨I,m,he,hs⟩:=hm
 obtain ⟨m1,m2,rfl,h1,h2⟩:=Yl.1 hs
 refine (con w I m1 he.okw.left h1).mono fun e w' hE=>?_
 obtain ⟨i,I',m1',rfl,h3,h4⟩:=hE
 exact h i _ _ (hf.put (by rw [Nat.blt_eq] at hd;exact hd) _) ⟨I',m1'++m2,he.trans (h3.frame he.okw),Yl.2 ⟨m1',m2,rfl,h4,h2.frame he.okw h3⟩⟩
/-- What lasts is there. -/
def HasP (As:List Asn):List Asn→Prop
 | []=>True
 | B::Bs=>(B.pers=true∧B∈As)∧HasP As Bs
theorem Sats.pers {w:World} {I:zl}:∀ {As:List Asn} {m:List Nat} {A:Asn},Sats w I As m→A∈As→A.pers=true→A.sat w I []
 | [],_,_,_,h,_=>by cases h
 | B::As,m,A,hs,hA,hp=>by
  obtain ⟨m1,m2,rfl,h1,h2⟩:=hs
  rcases List.mem_cons.1 hA with rfl | hA
  ·have:=Asn.sat_pers hp h1;subst this;exact h1
  ·exact Sats.pers h2 hA hp
theorem HasP.sats {w:World} {I:zl} {m:List Nat} (hs:Sats w I As m):∀ {Bs:List Asn},HasP As Bs→Sats w I Bs []
 | [],_=>rfl
 | _::_,h=>⟨[],[],rfl,hs.pers h.1.2 h.1.1,HasP.sats hs h.2⟩
theorem Okw.nil {w:World} {I:zl} {m:List Nat} (h:Okw w I m):Okw w I []:=⟨h.lt,by simp,fun _ hb=>by simp at hb,fun _ hb=>by simp at hb⟩
/-- A call by contract that asks only what lasts. -/
theorem yt {os:List Operand} {vs:List Value} {f:FuncId} {tys:Array TypeId} {Bs:List Asn} {ι:Type} {val:ι→Value} {asn:ι→List Asn} {d:Nat} (hc:Cal c.P f) (con:Con c.P f vs.toArray Bs val asn) (hv:EvL L os vs) (hd:Nat.blt d c.n=true) (hB:HasP As Bs)
  (h:∀ i,J c ((d,val i)::L) (asn i++As) (wpList c.P ops Q rest)):J c L As (wpList c.P ops Q (⟨some d,.call { callee:=.value (.func f),args:=os.toArray,argTypes:=tys },T,pos,aft,none⟩::rest)):=Yc rfl fun a w hf hm=>by
 show Oper.upon _ _ _ _ _ ((execOp a.eval _).run c.P w)
 rw [WR hf hc hv w]
 obtain ⟨I,m,he,hs⟩:=hm
 have ho:=he.okw
 refine (con w I [] ho.nil (hB.sats hs)).mono fun e w' hE=>?_
 obtain ⟨i,I',m1',rfl,h3,h4⟩:=hE
 exact h i _ _ (hf.put (by rw [Nat.blt_eq] at hd;exact hd) _) ⟨I',m1'++m,he.trans (Eff.frame (m1:=[]) ho h3),Yl.2 ⟨m1',m,rfl,h4,Sats.frame (m1:=[]) ho h3 hs⟩⟩
end ops
end Go.Sep
namespace Go.Sep
open Go
/-! ### Guarded operations that leave the world alone: no parting -/
/-- A value that is there under b alone. -/
def gv (b:Bool) (v:Value):Value:=bif b then v else undef
theorem y9 {L:List (Nat×Value)} {x:Operand} {b:Bool} {v:Value} (h:ev L x=some (gv b v)) (hb:b=true):ev L x=some v:=by subst hb;exact h
section guarded
variable {c:Cx} {L:List (Nat×Value)} {As R:List Asn} {Q:Exit→Act→World→Prop} {K:Act→World→Prop} {ops:Array Oper} {rest:List Oper} {T:TypeId} {pos:String} {aft:Array Edge}
theorem jo_gpure {op:Op} {d j t:Nat} {b b' want:Bool} {v:Value} (hj:(ops[j]?).bind (·.dst)=some t) (hl:lk L t=some (.bool b)) (hd:Nat.blt d c.n=true) (hw:(b==want)=b')
  (hp:b'=true→PR c op T L As v) (h:J c ((d,gv b' v)::L) As (wpList c.P ops Q rest)):J c L As (wpList c.P ops Q (⟨some d,op,T,pos,aft,some (j,want)⟩::rest)):=fun a w hf hm=>by
 have hd':d<c.n:=by rw [Nat.blt_eq] at hd;exact hd
 have hy:yielded ops a.tmps j=some b:=by
  have:=hf.2.2 t _ hl
  simp [yielded,hj,this]
 unfold wpList
 cases hb:b' with
 | true =>
  have e:b=want:=by rw [hb] at hw;simpa using hw
  rw [if_pos (by simp [Region.wanted,hy,e])]
  refine .inl ?_
  show Oper.upon _ _ _ _ _ ((execOp a.eval _).run c.P w)
  rw [hp hb a w hf hm]
  have:=hf.put hd' (gv b' v)
  rw [hb] at this h
  exact h _ w this hm
 | false =>
  have e:¬ b=want:=by rw [hb] at hw;simpa using hw
  rw [if_neg (by simp [Region.wanted,hy,e])]
  have:=hf.put hd' (gv b' v)
  rw [hb] at this h
  exact h _ w this hm
theorem yG {x y z:Operand} {b b2:Bool} (hx:ev L x=some (.bool b)) (hy:ev L y=some (gv (b==true) (.bool b2))) (hz:ev L z=some (.bool false)):PR c (.pick x y z) T L As (.bool (b&&b2)):=fun a w hf _ d pos aft gd=>by
 cases b <;> simp [execOp,hf.ev hx,hf.ev hy,hf.ev hz,asBool,gv]
theorem yR {x y z:Operand} {b b2:Bool} (hx:ev L x=some (.bool b)) (hy:ev L y=some (.bool true)) (hz:ev L z=some (gv (b==false) (.bool b2))):PR c (.pick x y z) T L As (.bool (b||b2)):=fun a w hf _ d pos aft gd=>by
 cases b <;> simp [execOp,hf.ev hx,hf.ev hy,hf.ev hz,asBool,gv]
/-- A guarded call that hands back no memory. -/
theorem Yh {os:List Operand} {vs:List Value} {f:FuncId} {tys:Array TypeId} {Bs:List Asn} {val:Unit→Value} {d j t:Nat} {b b' want:Bool} (hj:(ops[j]?).bind (·.dst)=some t) (hl:lk L t=some (.bool b)) (hw:(b==want)=b')
  (hc:Cal c.P f) (con:b'=true→Con c.P f vs.toArray Bs val (fun _=>[])) (hv:b'=true→EvL L os vs) (hd:Nat.blt d c.n=true) (hB:b'=true→HasP As Bs)
  (h:J c ((d,gv b' (val ()))::L) As (wpList c.P ops Q rest)):J c L As (wpList c.P ops Q (⟨some d,.call { callee:=.value (.func f),args:=os.toArray,argTypes:=tys },T,pos,aft,some (j,want)⟩::rest)):=by
 cases hb:b' with
 | true =>
  have e:b=want:=by rw [hb] at hw;simpa using hw
  refine zi hj hl e (yt hc (con hb) (hv hb) hd (hB hb) fun i=>?_)
  rw [hb] at h
  exact h
 | false =>
  intro a w hf hm
  have hy:yielded ops a.tmps j=some b:=by
   have:=hf.2.2 t _ hl
   simp [yielded,hj,this]
  have e:¬ b=want:=by rw [hb] at hw;simpa using hw
  unfold wpList
  rw [if_neg (by simp [Region.wanted,hy,e])]
  rw [hb] at h
  exact h _ w (hf.put (by rw [Nat.blt_eq] at hd;exact hd) _) hm
end guarded
/-! ### Data without slices: the cells are known -/
def Ty.flat:Ty→Bool
 | .list _=>false
 | .raw=>false
 | .pair a b=>a.flat&&b.flat
 | _=>true
def enc:(t:Ty)→t.den→List Value
 | .bool,x=>[.bool x]
 | .int k,x=>[.int k x]
 | .u8,x=>[byte x]
 | .str,x=>[str x]
 | .list _,_=>[.tuple #[]]
 | .raw,_=>[.tuple #[]]
 | .pair a b,x=>enc a x.1++enc b x.2
theorem q7:∀ {t:Ty} (x:t.den),(enc t x).length=t.n
 | .bool,_ | .int _,_ | .u8,_ | .str,_ | .list _,_ | .raw,_=>rfl
 | .pair a b,x=>by simp only [enc,List.length_append,q7,Ty.n]
theorem Zd {w:World} {I:zl}:∀ {t:Ty} {cs:List Value} {x:t.den},t.flat=true→(repC w I t cs x↔cs=enc t x)
 | .bool,_,_,_ | .int _,_,_,_ | .u8,_,_,_ | .str,_,_,_=>by simp only [repC,enc]
 | .list _,_,_,h=>by cases h
 | .raw,_,_,h=>by cases h
 | .pair a b,cs,x,h=>by
  have h':a.flat=true∧b.flat=true:=by simpa [Ty.flat] using h
  simp only [repC,enc]
  constructor
  ·rintro ⟨c1,c2,rfl,h1,h2⟩
   rw [(Zd h'.1).1 h1,(Zd h'.2).1 h2]
  ·rintro rfl
   exact ⟨_,_,rfl,(Zd h'.1).2 rfl,(Zd h'.2).2 rfl⟩
theorem qV (t:Ty) (cs:List Value):toV t cs=Zl t.isPair cs:=by unfold toV Zl;cases t.isPair <;> rfl
/-! ### Rows -/
theorem Z9.cell {w:World} {I:zl} {mk:Bool} {g cap:Nat} {E:TypeId} {t:Ty} {xs:List t.den} (h:Z9 w I mk g cap E t xs) {i:Nat} (hi:i<xs.length) :
  ∃ cs,repC w I t cs xs[i]∧cs.length=t.n∧∀ j v,cs[j]?=some v→w.cell? ⟨g,i*t.n+j,none⟩=some v:=by
 obtain ⟨C,h1,h2,h3,h4,h5⟩:=h
 refine ⟨_,h5 i hi,Wm (h5 i hi),fun j v hj=>?_⟩
 rw [z4 h1]
 rw [List.getElem?_take] at hj
 split at hj
 ·simpa using hj
 ·cases hj
theorem Zm {i n k cap:Nat} (hi:i<n) (hn:n≤cap):i*k+k≤cap*k:=by
 have:(i+1)*k≤cap*k:=Nat.mul_le_mul_right k (by omega)
 rw [Nat.add_mul,Nat.one_mul] at this
 exact this
/-- Element i is written. -/
theorem Z9.write {w:World} {I:zl} {mk:Bool} {g cap:Nat} {E:TypeId} {t:Ty} {xs:List t.den} (ho:Okw w I [g]) (h:Z9 w I mk g cap E t xs) {i:Nat} (hi:i<xs.length) {vs:List Value} {y:t.den} (hy:repC w I t vs y) :
  Eff w I [g] (w.setCells g (i*t.n) vs) I [g]∧Z9 (w.setCells g (i*t.n) vs) I mk g cap E t (xs.set i y):=by
 obtain ⟨C,h1,h2,h3,h4,h5⟩:=h
 have h1':w.heap[g]?=some (.cells C.toList.toArray E (bif mk then (C.size,C.size+1) else (0,0))):=by simpa using h1
 obtain ⟨i1,i2,i3,i4,i5,i6⟩:=wD g E _ vs (i*t.n) w C.toList h1'
 have hb:∀ b,I b→(w.setCells g (i*t.n) vs).heap[b]?=w.heap[b]?:=fun b hb=>i2 b (fun e=>ho.apart g (by simp) (e ▸ hb))
 have hl:=Wm hy
 have hs:(setL C.toList (i*t.n) vs).toArray.size=C.size:=by simp [WD]
 refine ⟨Eff.write ho i4 i5 i6 i3 i2,(setL C.toList (i*t.n) vs).toArray,by rw [i1,hs],by simpa using h2,h3,by rw [hs,h4],fun j hj=>?_⟩
 have hj':j<xs.length:=by simpa using hj
 have hc:∀ k,k<xs.length→k*t.n+t.n≤C.size:=fun k hk=>by rw [h4];exact Zm hk h2
 have hci:=hc i hi
 by_cases hij:i=j
 ·subst hij
  have e:((setL C.toList (i*t.n) vs).toArray.toList.drop (i*t.n)).take t.n=vs:=by
   apply List.ext_getElem?
   intro k
   rw [List.getElem?_take]
   split
   ·rw [List.getElem?_drop,setL_in _ _ _ _ (by simp;omega) (by omega) (by omega),Nat.add_sub_cancel_left]
   ·rw [List.getElem?_eq_none (by omega)]
  rw [e]
  simp only [List.getElem_set_self]
  exact Zc hb (fun _ h=>h) hy
 ·have e:((setL C.toList (i*t.n) vs).toArray.toList.drop (j*t.n)).take t.n=(C.toList.drop (j*t.n)).take t.n:=by
   apply List.ext_getElem?
   intro k
   rw [List.getElem?_take,List.getElem?_take]
   split
   ·rename_i hk
    rw [List.getElem?_drop,List.getElem?_drop,setL_out]
    rcases Nat.lt_or_gt_of_ne hij with h | h
    ·right
     have:=Zm (k:=t.n) (Nat.lt_of_lt_of_le (Nat.lt_succ_self i) h) (Nat.le_refl _)
     rw [hl];omega
    ·left
     have:=Zm (k:=t.n) (Nat.lt_of_lt_of_le (Nat.lt_succ_self j) h) (Nat.le_refl _)
     omega
   ·rfl
  rw [e]
  simp only [List.getElem_set_ne hij]
  exact Zc hb (fun _ h=>h) (h5 j hj')
section ops
variable {c:Cx} {L:List (Nat×Value)} {As R:List Asn} {Q:Exit→Act→World→Prop} {K:Act→World→Prop} {ops:Array Oper} {rest:List Oper} {T:TypeId} {pos:String} {aft:Array Edge} {gd:Option (Nat×Bool)}
/-! ### Bytes of a string and back -/
theorem bytesRow_get (m:List UInt8) (cap i:Nat) (hi:i<m.length):(bytesRow ⟨m.toArray⟩ cap)[i]?=some (byte m[i]):=by
 unfold bytesRow
 rw [Array.getElem?_append_left (by simpa using hi)]
 simp [byte,List.getElem?_eq_getElem hi]
theorem jo_s2b {src dst E:TypeId} {x:Operand} {m:List UInt8} {d:Nat} (hx:ev L x=some (str m)) (hs:c.P.underlying src=some .string) (hds:c.P.underlying dst=some (.slice E)) (he:c.P.underlying E=some (.int .u8)) (hd:Nat.blt d c.n=true) (hml:m.length≤9223372036854775807)
  (h:∀ g cap,J c ((d,.slice (some ⟨g,0,none⟩) m.length cap)::L) (.rowm g cap E .u8 m::As) (wpList c.P ops Q rest)) :
  J c L As (wpList c.P ops Q (⟨some d,.convert src dst x,T,pos,aft,none⟩::rest)):=Yc rfl fun a w hf hm=>by
 show Oper.upon _ _ _ _ _ ((execOp a.eval _).run c.P w)
 have hr:=run_bytes_of_string (P:=c.P) w src dst E ⟨m.toArray⟩ hs hds he
 have hr':(execOp a.eval ⟨some d,.convert src dst x,T,pos,aft,none⟩).run c.P w=.ok (.value (.slice (some ⟨w.heap.size,0,none⟩) m.length (grownCap w m.length 0 E)))
   (w.drew.alloc (.cells (bytesRow ⟨m.toArray⟩ (grownCap w m.length 0 E)) E ((bytesRow ⟨m.toArray⟩ (grownCap w m.length 0 E)).size,(bytesRow ⟨m.toArray⟩ (grownCap w m.length 0 E)).size+1))):=by
  simp only [execOp,hf.ev hx,str,Sem.run_bind,hr,Result.andThen_ok,w8,Sem.run_pure]
 rw [hr']
 refine h w.heap.size (grownCap w m.length 0 E) _ _ (hf.put (by rw [Nat.blt_eq] at hd;exact hd) _) (Mem.new (Bs:=[.rowm w.heap.size _ E .u8 m]) (w:=w.drew) hm.drew fun I _=>⟨[w.heap.size],[],rfl,⟨rfl,?_⟩,rfl⟩)
 have hge:=grownCap_ge w m.length 0 E
 refine ⟨_,heap_alloc_new w.drew _,hge,grownCap_le_maxLen w m.length 0 E (by unfold maxLen;omega),?_,fun i hi=>?_⟩
 ·simp [bytesRow,w8,Ty.n];omega
 ·have e:((bytesRow ⟨m.toArray⟩ (grownCap w m.length 0 E)).toList.drop (i*Ty.u8.n)).take Ty.u8.n=[byte m[i]]:=by
   have:=bytesRow_get m (grownCap w m.length 0 E) i hi
   simp only [Ty.n,Nat.mul_one]
   rw [← Array.getElem?_toList] at this
   rw [List.take_one,List.head?_drop,this];rfl
  rw [e];rfl
theorem Z9.bytes {w:World} {I:zl} {mk:Bool} {g cap:Nat} {E:TypeId} {xs:List UInt8} (h:Z9 w I mk g cap E .u8 xs):∀ j (hj:j<xs.length),w.cell? ((⟨g,0,none⟩:Addr).add j)=some (.int .u8 (xs[j].toNat:Int)):=fun j hj=>by
 obtain ⟨cs,h1,_,h3⟩:=h.cell hj
 simp only [repC] at h1
 subst h1
 have:=h3 0 _ rfl
 rw [Addr.add_mk]
 simpa [Ty.n,byte] using this
theorem run_b2s {src dst:TypeId} {x:Operand} {v:Value} {a:Act} {w:World} {n:Nat} {m:List UInt8} (hf:Fits n L a) (hx:ev L x=some v)
  (hr:(convert src dst v).run c.P w=.ok (.string ⟨m.toArray⟩) w) {d:Option Tmp}:(execOp a.eval ⟨d,.convert src dst x,T,pos,aft,gd⟩).run c.P w=.ok (.value (str m)) w:=by
 simp only [execOp,hf.ev hx,Sem.run_bind,hr,Result.andThen_ok,Sem.run_pure,str]
theorem pr_b2s_m {src dst E E':TypeId} {x:Operand} {g cap:Nat} {n:Nat} {xs:List UInt8} (hx:ev L x=some (.slice (some ⟨g,0,none⟩) n cap)) (hn:xs.length=n) (hA:Asn.rowm g cap E' .u8 xs∈As) (hs:c.P.underlying src=some (.slice E)) (he:c.P.underlying E=some (.int .u8)) (hds:c.P.underlying dst=some .string) :
  PR c (.convert src dst x) T L As (str xs):=fun a w hf hm d pos aft gd=>by
 obtain ⟨I,m,ho,rfl,hr⟩:=hm.get hA
 subst hn
 exact run_b2s (c:=c) hf hx (run_convert_bytes_back w src dst E ⟨g,0,none⟩ cap xs hs he hds hr.bytes)
theorem pr_b2s_row {src dst E E':TypeId} {x:Operand} {v:Value} {xs:List UInt8} (hx:ev L x=some v) (hA:Asn.row v E' .u8 xs∈As) (hs:c.P.underlying src=some (.slice E)) (he:c.P.underlying E=some (.int .u8)) (hds:c.P.underlying dst=some .string) :
  PR c (.convert src dst x) T L As (str xs):=fun a w hf hm d pos aft gd=>by
 obtain ⟨I,m,ho,hr⟩:=hm.get hA
 rcases hr with ⟨rfl,rfl,_⟩ | ⟨g,cap,rfl,_,hr⟩
 ·refine run_b2s (c:=c) hf hx ?_
  simp [convert,run_underlying hs,run_underlying hds,run_underlying he,Conv.bytesToString];rfl
 ·exact run_b2s (c:=c) hf hx (run_convert_bytes_back w src dst E ⟨g,0,none⟩ cap xs hs he hds hr.bytes)
/-! ### Lengths -/
theorem run_len {x:Operand} {ty E:TypeId} {v:Value} {b:Option Addr} {n cap:Nat} {a:Act} {w:World} {k:Nat} (hf:Fits k L a) (hx:ev L x=some v) (hv:v=.slice b n cap) (ht:c.P.underlying ty=some (.slice E)) {d:Option Tmp} :
  (execOp a.eval ⟨d,.call { callee:=.builtin .len,args:=#[x],argTypes:=#[ty] },T,pos,aft,gd⟩).run c.P w=.ok (.value (.int .i64 n)) w:=by
 subst hv
 simp [execOp,resolve,invoke,builtin,Builtin.len_,hf.ev hx,run_underlying ht,goInt]
theorem pr_len {x:Operand} {ty E:TypeId} {b:Option Addr} {n cap:Nat} (hx:ev L x=some (.slice b n cap)) (ht:c.P.underlying ty=some (.slice E)):PR c (.call { callee:=.builtin .len,args:=#[x],argTypes:=#[ty] }) T L As (.int .i64 n) :=
 fun _ _ hf _ _ _ _ _=>run_len (c:=c) hf hx rfl ht
theorem Ym {x:Operand} {ty E E':TypeId} {v:Value} {t:Ty} {xs:List t.den} (hx:ev L x=some v) (hA:Asn.row v E' t xs∈As) (ht:c.P.underlying ty=some (.slice E)):PR c (.call { callee:=.builtin .len,args:=#[x],argTypes:=#[ty] }) T L As (.int .i64 xs.length) :=
 fun _ _ hf hm _ _ _ _=>by
  obtain ⟨I,m,ho,hr⟩:=hm.get hA
  rcases hr with ⟨rfl,rfl,_⟩ | ⟨g,cap,rfl,_,hr⟩
  ·exact run_len (c:=c) hf hx rfl ht
  ·exact run_len (c:=c) hf hx rfl ht
theorem yB {x:Operand} {ty E:TypeId} {v:Value} {t:Ty} {xs:List t.den} (hx:ev L x=some v) (hA:Asn.imm (.list t) v xs∈As) (ht:c.P.underlying ty=some (.slice E)):PR c (.call { callee:=.builtin .len,args:=#[x],argTypes:=#[ty] }) T L As (.int .i64 xs.length) :=
 fun _ _ hf hm _ _ _ _=>by
  obtain ⟨I,m,ho,rfl,cs,hv,hr⟩:=hm.get hA
  obtain ⟨a,len,cap,rfl,rfl,_⟩:=hr
  exact run_len (c:=c) hf hx hv ht
/-! ### Indexing: own rows -/
theorem qj {x y:Operand} {ty E:TypeId} {g off n cap i k:Nat} {K:IntKind} {agg:Bool} {by_:Nat} {z:Option Value} (o:Nat) (hx:ev L x=some (.slice (some ⟨g,off,none⟩) n cap)) (hy:ev L y=some (.int K i)) (ht:c.P.underlying ty=some (.slice E)) (he:TyF c.P E agg k by_ z) (hi:i<n) (ho:off+i*k=o) :
  PR c (.indexAddr ty x y) T L As (.pointer (some ⟨g,o,none⟩)):=fun a w hf _ d pos aft gd=>by
 subst ho
 have hi':(0:Int)≤(i:Int)∧(i:Int)<(n:Int):=⟨by omega,by omega⟩
 simp [execOp,Instr.indexAt,hf.ev hx,hf.ev hy,asIntOf,run_underlying ht,he.sizeOf,hi,Addr.add_mk]
theorem pr_load_row {ty E:TypeId} {agg:Bool} {by_:Nat} {z:Option Value} {x:Operand} {g o i cap:Nat} {t:Ty} {xs:List t.den} (v:Value) (mk:Bool) (hx:ev L x=some (.pointer (some ⟨g,o,none⟩))) (ht:TyF c.P ty agg t.n by_ z) (hfl:t.flat=true) (hag:t.isPair=agg)
  (hA:(bif mk then Asn.rowm g cap E t xs else Asn.rowg g cap E t xs)∈As) (hi:i<xs.length) (ho:i*t.n=o) (hv:toV t (enc t xs[i])=v):PR c (.load ty x) T L As v:=fun a w hf hm d pos aft gd=>by
 have:∃ I m,Okw w I m∧Z9 w I mk g cap E t xs:=by
  obtain ⟨I,m,h1,h2⟩:=hm.get hA
  cases mk
  ·exact ⟨I,m,h1,h2.2⟩
  ·exact ⟨I,m,h1,h2.2⟩
 obtain ⟨I,m,_,hr⟩:=this
 obtain ⟨cs,h1,h2,h3⟩:=hr.cell hi
 have:=Yj ht w ⟨g,o,none⟩ cs h2 (fun h=>by subst hag;cases t <;> simp_all [Ty.isPair,Ty.n]) (fun j u hu=>by rw [Addr.add_mk,← ho];exact h3 j u hu)
 rw [Zd hfl] at h1
 subst h1
 rw [qV,hag] at hv
 simp only [execOp,hf.ev hx,Instr.loadAt,Instr.sureAddr,Sem.run_bind,Sem.run_pure,Result.andThen_ok,this,hv]
theorem ZF {ty E:TypeId} {agg:Bool} {by_:Nat} {z:Option Value} {x:Operand} {g o i cap:Nat} {t:Ty} {xs:List t.den} {dd:t.den} (v:Value) (mk:Bool) (hx:ev L x=some (.pointer (some ⟨g,o,none⟩))) (ht:TyF c.P ty agg t.n by_ z) (hfl:t.flat=true) (hag:t.isPair=agg)
  (hA:(bif mk then Asn.rowm g cap E t xs else Asn.rowg g cap E t xs)∈As) (hi:i<xs.length) (ho:i*t.n=o) (hv:toV t (enc t (xs.getD i dd))=v):PR c (.load ty x) T L As v :=
 pr_load_row v mk hx ht hfl hag hA hi ho (by rw [← hv,List.getD_eq_getElem?_getD,List.getElem?_eq_getElem hi];rfl)
/-- A store into an own row;the datum is without slices. -/
theorem jo_store_row {ty E:TypeId} {agg:Bool} {by_:Nat} {z:Option Value} {x y:Operand} {g o i cap:Nat} {t:Ty} {xs:List t.den} {v:Value} (mk:Bool) (u:t.den) (hx:ev L x=some (.pointer (some ⟨g,o,none⟩))) (hy:ev L y=some v) (ht:TyF c.P ty agg t.n by_ z) (hfl:t.flat=true)
  (hi:i<xs.length) (ho:i*t.n=o) (hv:v.cells=(enc t u).toArray)
  (h:J c L ((bif mk then Asn.rowm g cap E t (xs.set i u) else Asn.rowg g cap E t (xs.set i u))::R) (wpList c.P ops Q rest)):J c L ((bif mk then Asn.rowm g cap E t xs else Asn.rowg g cap E t xs)::R) (wpList c.P ops Q (⟨none,.store ty x y,T,pos,aft,none⟩::rest)):=Yc rfl fun a w hf hm=>by
 have key:∀ I m,(bif mk then Asn.rowm g cap E t xs else Asn.rowg g cap E t xs).sat w I m→m=[g]∧Z9 w I mk g cap E t xs:=fun I m h=>by cases mk <;> exact h
 obtain ⟨I,m,_,hr0⟩:=hm.get (A:=bif mk then Asn.rowm g cap E t xs else Asn.rowg g cap E t xs) (by simp)
 have hr:=(key _ _ hr0).2
 have hh:=hr
 obtain ⟨C,h1,h2,h3,h4,_⟩:=hh
 have hc:i*t.n+t.n≤C.size:=by rw [h4];exact Zm hi h2
 subst ho
 have hst:=ZU ht w g (i*t.n) v (enc t u) hv (q7 u) (fun x hx=>wL ((Zd (w:=w) (I:=I) hfl).2 rfl) x hx) (fun j hj=>by rw [q7] at hj;rw [z4 h1];simp;omega) (fun j hj=>by
  rw [q7] at hj
  cases mk
  ·simp [World.frozen?,h1]
  ·simp [World.frozen?,h1];omega)
 show Oper.upon _ _ _ _ _ ((execOp a.eval _).run c.P w)
 have hrun:(execOp a.eval ⟨none,.store ty x y,T,pos,aft,none⟩).run c.P w=.ok .skip (w.setCells g (i*t.n) (enc t u)):=by
  simp only [execOp,hf.ev hx,hf.ev hy,Instr.storeAt,Instr.sureAddr,Sem.run_bind,Sem.run_pure,Result.andThen_ok,hst]
 rw [hrun]
 refine h _ _ (hf.none _) (Mem.step (Ps:=[_]) (Bs:=[_]) hm fun I m1 ho hs=>?_)
 obtain ⟨m1,m2,rfl,hs,rfl⟩:=hs
 obtain ⟨rfl,hr⟩:=key _ _ hs
 obtain ⟨e1,e2⟩:=hr.write ho hi ((Zd hfl).2 rfl:repC w I t (enc t u) u)
 exact ⟨I,[g],e1,[g],[],rfl,by cases mk <;> exact ⟨rfl,e2⟩,rfl⟩
/-- The same,the kind of row said. -/
theorem jo_store_m {ty E:TypeId} {agg:Bool} {by_:Nat} {z:Option Value} {x y:Operand} {g o i cap:Nat} {t:Ty} {xs:List t.den} {v:Value} (u:t.den) (hx:ev L x=some (.pointer (some ⟨g,o,none⟩))) (hy:ev L y=some v) (ht:TyF c.P ty agg t.n by_ z) (hfl:t.flat=true)
  (hi:i<xs.length) (ho:i*t.n=o) (hv:v.cells=(enc t u).toArray)
  (h:J c L (.rowm g cap E t (xs.set i u)::R) (wpList c.P ops Q rest)):J c L (.rowm g cap E t xs::R) (wpList c.P ops Q (⟨none,.store ty x y,T,pos,aft,none⟩::rest)) :=
 jo_store_row true u hx hy ht hfl hi ho hv h
theorem wv {ty E:TypeId} {agg:Bool} {by_:Nat} {z:Option Value} {x y:Operand} {g o i cap:Nat} {t:Ty} {xs:List t.den} {v:Value} (u:t.den) (hx:ev L x=some (.pointer (some ⟨g,o,none⟩))) (hy:ev L y=some v) (ht:TyF c.P ty agg t.n by_ z) (hfl:t.flat=true)
  (hi:i<xs.length) (ho:i*t.n=o) (hv:v.cells=(enc t u).toArray)
  (h:J c L (.rowg g cap E t (xs.set i u)::R) (wpList c.P ops Q rest)):J c L (.rowg g cap E t xs::R) (wpList c.P ops Q (⟨none,.store ty x y,T,pos,aft,none⟩::rest)) :=
 jo_store_row false u hx hy ht hfl hi ho hv h
end ops
end Go.Sep
namespace Go.Sep
open Go
/-! ### Regions that draw their order: operations that leave the world alone,and calls that hand back no memory -/
def JD (c:Cx) (L:List (Nat×Value)) (As:List Asn) (ops:Array Oper) (Q:Exit→Act→World→Prop) (rest:List Oper):Prop :=
 ∀ a,Fits c.n L a→wpQuiet c.P ops (Mem c As) (fun a'=>∀ w',Mem c As w'→Q .normal a' w') rest a
section draws
variable {c:Cx} {L:List (Nat×Value)} {As:List Asn} {Q:Exit→Act→World→Prop} {ops:Array Oper} {rest:List Oper} {T:TypeId} {pos:String} {aft:Array Edge}
theorem YC {id:Nat} {l:List Oper} (hm:c.P.follows .mixedOrders=true) (hB:Region.lexB .any l.toArray=true) (h:JD c L As l.toArray Q l):J c L As ((Code.region id l.toArray true).wp c.P Q):=fun a w hf hw =>
 wp_region_quiet (C:=Mem c As) hm hB (hw.drawn _) (by simpa using h a hf)
theorem Zy (h:J c L As (Q .normal)):JD c L As ops Q []:=fun a hf=>wpQuiet_nil fun w hw=>h a w hf hw
theorem jd_pure {op:Op} {d:Nat} {v:Value} (hd:Nat.blt d c.n=true) (hp:PR c op T L As v) (h:JD c ((d,v)::L) As ops Q rest):JD c L As ops Q (⟨some d,op,T,pos,aft,none⟩::rest):=fun a hf=>by
 show (if Region.wanted _ _ then _ else _)
 rw [if_pos (by simp [Region.wanted])]
 refine ⟨v,fun w hw=>?_,h _ (hf.put (by rw [Nat.blt_eq] at hd;exact hd) v)⟩
 unfold Oper.quietAt
 rw [hp a w hf hw]
 exact ⟨rfl,rfl⟩
theorem Zt {os:List Operand} {vs:List Value} {f:FuncId} {tys:Array TypeId} {Bs:List Asn} {val:Unit→Value} {d:Nat} (hc:Cal c.P f) (con:Con c.P f vs.toArray Bs val (fun _=>[])) (hv:EvL L os vs) (hd:Nat.blt d c.n=true) (hB:HasP As Bs)
  (h:JD c ((d,val ())::L) As ops Q rest):JD c L As ops Q (⟨some d,.call { callee:=.value (.func f),args:=os.toArray,argTypes:=tys },T,pos,aft,none⟩::rest):=fun a hf=>by
 show (if Region.wanted _ _ then _ else _)
 rw [if_pos (by simp [Region.wanted])]
 refine ⟨val (),fun w hw=>?_,h _ (hf.put (by rw [Nat.blt_eq] at hd;exact hd) _)⟩
 unfold Oper.quietAt
 rw [WR hf hc hv w]
 refine ⟨rfl,?_⟩
 obtain ⟨I,m,he,hs⟩:=hw
 have ho:=he.okw
 refine (con w I [] ho.nil (hB.sats hs)).mono fun e w' hE=>?_
 obtain ⟨i,I',m1',rfl,h3,h4⟩:=hE
 have h4':m1'=[]:=h4
 subst h4'
 exact ⟨rfl,I',m,he.trans (Eff.frame (m1:=[]) ho h3),Sats.frame (m1:=[]) ho h3 hs⟩
theorem jd_gpure {op:Op} {d j t:Nat} {b b' want:Bool} {v:Value} (hj:(ops[j]?).bind (·.dst)=some t) (hl:lk L t=some (.bool b)) (hd:Nat.blt d c.n=true) (hw:(b==want)=b')
  (hp:b'=true→PR c op T L As v) (h:JD c ((d,gv b' v)::L) As ops Q rest):JD c L As ops Q (⟨some d,op,T,pos,aft,some (j,want)⟩::rest):=fun a hf=>by
 have hd':d<c.n:=by rw [Nat.blt_eq] at hd;exact hd
 have hy:yielded ops a.tmps j=some b:=by
  have:=hf.2.2 t _ hl
  simp [yielded,hj,this]
 show (if Region.wanted _ _ then _ else _)
 cases hb:b' with
 | true =>
  have e:b=want:=by rw [hb] at hw;simpa using hw
  rw [if_pos (by simp [Region.wanted,hy,e])]
  refine ⟨v,fun w hw=>?_,?_⟩
  ·unfold Oper.quietAt
   rw [hp hb a w hf hw]
   exact ⟨rfl,rfl⟩
  ·have:=hf.put hd' (gv b' v)
   rw [hb] at this h
   exact h _ this
 | false =>
  have e:¬ b=want:=by rw [hb] at hw;simpa using hw
  rw [if_neg (by simp [Region.wanted,hy,e])]
  have:=hf.put hd' (gv b' v)
  rw [hb] at this h
  exact h _ this
theorem jd_run {d:Option Tmp} {op:Op} {j:Nat} {want b:Bool} {t:Nat} (hj:(ops[j]?).bind (·.dst)=some t) (hl:lk L t=some (.bool b)) (hb:b=want)
  (h:JD c L As ops Q (⟨d,op,T,pos,aft,none⟩::rest)):JD c L As ops Q (⟨d,op,T,pos,aft,some (j,want)⟩::rest):=fun a hf=>by
 have hy:yielded ops a.tmps j=some want:=by
  have:=hf.2.2 t _ hl
  simp [yielded,hj,this,hb]
 have:=h a hf
 unfold wpQuiet at this ⊢
 rw [if_pos (by simp [Region.wanted])] at this
 rw [if_pos (by simp [Region.wanted,hy])]
 exact this
theorem jd_gcall {os:List Operand} {vs:List Value} {f:FuncId} {tys:Array TypeId} {Bs:List Asn} {val:Unit→Value} {d j t:Nat} {b b' want:Bool} (hj:(ops[j]?).bind (·.dst)=some t) (hl:lk L t=some (.bool b)) (hw:(b==want)=b')
  (hc:Cal c.P f) (con:b'=true→Con c.P f vs.toArray Bs val (fun _=>[])) (hv:b'=true→EvL L os vs) (hd:Nat.blt d c.n=true) (hB:b'=true→HasP As Bs)
  (h:JD c ((d,gv b' (val ()))::L) As ops Q rest):JD c L As ops Q (⟨some d,.call { callee:=.value (.func f),args:=os.toArray,argTypes:=tys },T,pos,aft,some (j,want)⟩::rest):=by
 cases hb:b' with
 | true =>
  have e:b=want:=by rw [hb] at hw;simpa using hw
  rw [hb] at h
  exact jd_run hj hl e (Zt hc (con hb) (hv hb) hd (hB hb) h)
 | false =>
  intro a hf
  have hy:yielded ops a.tmps j=some b:=by
   have:=hf.2.2 t _ hl
   simp [yielded,hj,this]
  have e:¬ b=want:=by rw [hb] at hw;simpa using hw
  unfold wpQuiet
  rw [if_neg (by simp [Region.wanted,hy,e])]
  rw [hb] at h
  exact h _ (hf.put (by rw [Nat.blt_eq] at hd;exact hd) _)
end draws
/-! ### Cells of a list of data without slices -/
theorem flat_part {t:Ty}:∀ (xs:List t.den) (i:Nat) (hi:i<xs.length),((xs.flatMap (enc t)).drop (i*t.n)).take t.n=enc t xs[i]
 | x::xs,0,_=>by
  simp only [List.flatMap_cons,Nat.zero_mul,List.drop_zero,List.getElem_cons_zero]
  rw [← q7 x,List.take_left]
 | x::xs,i+1,hi=>by
  simp only [List.flatMap_cons,List.getElem_cons_succ]
  rw [Nat.add_mul,Nat.one_mul,Nat.add_comm,← List.drop_drop]
  have:(enc t x++xs.flatMap (enc t)).drop t.n=xs.flatMap (enc t):=by rw [← q7 x,List.drop_left]
  rw [this]
  exact flat_part xs i (by simpa using hi)
theorem wP {t:Ty}:∀ (xs:List t.den),(xs.flatMap (enc t)).length=xs.length*t.n
 | []=>by simp
 | x::xs=>by rw [List.flatMap_cons,List.length_append,q7,wP xs,List.length_cons,Nat.add_mul];omega
theorem rowIs_flat {w:World} {I:zl} {g:Nat} {E:TypeId} {t:Ty} {xs:List t.den} (hfl:t.flat=true) (hm:xs.length≤maxLen) (h:w.heap[g]?=some (.cells (xs.flatMap (enc t)).toArray E (0,0))):Z9 w I false g xs.length E t xs :=
 ⟨_,h,Nat.le_refl _,hm,by simp only [List.size_toArray,wP],fun i hi=>by rw [List.toList_toArray,flat_part xs i hi];exact (Zd hfl).2 rfl⟩
theorem list_of_parts {t:Ty}:∀ (xs:List t.den) (l:List Value),l.length=xs.length*t.n→(∀ i (h:i<xs.length),(l.drop (i*t.n)).take t.n=enc t xs[i])→l=xs.flatMap (enc t)
 | [],l,hl,_=>by simpa using hl
 | x::xs,l,hl,h=>by
  have h0:=h 0 (by simp)
  simp only [Nat.zero_mul,List.drop_zero,List.getElem_cons_zero] at h0
  have ih:=list_of_parts xs (l.drop t.n) (by rw [List.length_drop,hl,List.length_cons,Nat.add_mul];omega) (fun i hi=>by
   have:=h (i+1) (by simpa using hi)
   rw [Nat.add_mul,Nat.one_mul,Nat.add_comm,← List.drop_drop] at this
   simpa using this)
  rw [List.flatMap_cons,← ih,← h0,List.take_append_drop]
theorem Z9.whole {w:World} {I:zl} {mk:Bool} {g cap:Nat} {E:TypeId} {t:Ty} {xs:List t.den} (hfl:t.flat=true) (hc:xs.length=cap) (h:Z9 w I mk g cap E t xs) :
  w.heap[g]?=some (.cells (xs.flatMap (enc t)).toArray E (bif mk then (cap*t.n,cap*t.n+1) else (0,0))):=by
 obtain ⟨C,h1,h2,h3,h4,h5⟩:=h
 have e:C.toList=xs.flatMap (enc t):=list_of_parts xs C.toList (by rw [Array.length_toList,h4,hc]) fun i hi=>(Zd hfl).1 (h5 i hi)
 rw [h1,← e,Array.toArray_toList,h4]
section ops
variable {c:Cx} {L:List (Nat×Value)} {As R:List Asn} {Q:Exit→Act→World→Prop} {K:Act→World→Prop} {ops:Array Oper} {rest:List Oper} {T:TypeId} {pos:String} {aft:Array Edge} {gd:Option (Nat×Bool)}
/-! ### Arrays in variables of one's own -/
theorem jo_alloc_arr {E:TypeId} {agg:Bool} {n by_:Nat} {z:Value} {d:Nat} (ht:TyF c.P E agg n by_ (some z)) {t:Ty} (xs:List t.den) (hz:z.cells=(xs.flatMap (enc t)).toArray) (hfl:t.flat=true) (hm:xs.length≤maxLen) (hd:Nat.blt d c.n=true)
  (h:∀ b,J c ((d,.pointer (some ⟨b,0,none⟩))::L) (.rowg b xs.length E t xs::As) (wpList c.P ops Q rest)):J c L As (wpList c.P ops Q (⟨some d,.alloc E,T,pos,aft,none⟩::rest)) :=
 zb ht _ hz hd fun b=>Za (fun w hw=>Mem.step (Ps:=[_]) (Bs:=[_]) hw fun I m1 ho hs=>by
  obtain ⟨m1,m2,rfl,⟨rfl,h1⟩,rfl⟩:=hs
  exact ⟨I,[b],ho.eff,[b],[],rfl,⟨rfl,rowIs_flat hfl hm h1⟩,rfl⟩) (h b)
/-- The index of an element of an array in a variable. -/
theorem pr_idx_arr {x y:Operand} {ty E:TypeId} {g off n i k:Nat} {K:IntKind} {agg:Bool} {by_:Nat} {z:Option Value} (o:Nat) (hx:ev L x=some (.pointer (some ⟨g,off,none⟩))) (hy:ev L y=some (.int K i)) (ht:c.P.underlying ty=some (.array n E)) (he:TyF c.P E agg k by_ z) (hi:i<n) (ho:off+i*k=o) :
  PR c (.indexAddr ty x y) T L As (.pointer (some ⟨g,o,none⟩)):=fun a w hf _ d pos aft gd=>by
 subst ho
 simp [execOp,Instr.indexAt,Instr.sureAddr,hf.ev hx,hf.ev hy,asIntOf,run_underlying ht,he.sizeOf,hi,Addr.add_mk]
theorem yD {x:Operand} {ad:Addr} (hx:ev L x=some (.pointer (some ad))):PR c (.nilCheck x) T L As (.pointer (some ad)):=fun a w hf _ d pos aft gd=>by
 simp [execOp,hf.ev hx]
/-- The whole array,by value. -/
theorem run_load_arr {w:World} {ty E:TypeId} {n by_:Nat} {z:Option Value} {g cap:Nat} {t:Ty} {xs:List t.den} {I:zl} (ht:TyF c.P ty true n by_ z) (hfl:t.flat=true) (hc:xs.length=cap) (hn:xs.length*t.n=n) (h:Z9 w I false g cap E t xs) :
  (loadVar ty ⟨g,0,none⟩).run c.P w=.ok (.agg (xs.flatMap (enc t)).toArray) w:=by
 have hh:=h.whole hfl hc
 exact Yj ht w ⟨g,0,none⟩ _ (by rw [wP,hn]) (by simp) (fun j u hu=>by rw [Addr.add_mk,z4 hh];simpa using hu)
theorem pr_load_arr {ty E:TypeId} {n by_:Nat} {z:Option Value} {x:Operand} {g cap:Nat} {t:Ty} {xs:List t.den} (hx:ev L x=some (.pointer (some ⟨g,0,none⟩))) (ht:TyF c.P ty true n by_ z) (hfl:t.flat=true)
  (hA:Asn.rowg g cap E t xs∈As) (hc:xs.length=cap) (hn:xs.length*t.n=n):PR c (.load ty x) T L As (.agg (xs.flatMap (enc t)).toArray):=fun a w hf hm d pos aft gd=>by
 obtain ⟨I,m,ho,rfl,hr⟩:=hm.get hA
 have:=run_load_arr (c:=c) ht hfl hc hn hr
 simp only [execOp,hf.ev hx,Instr.loadAt,Instr.sureAddr,Sem.run_bind,Sem.run_pure,Result.andThen_ok,this]
theorem setL_whole:∀ (vs cs:List Value) (k:Nat),(cs.drop k).length=vs.length→setL cs k vs=cs.take k++vs
 | [],cs,k,h=>by
  have:cs.drop k=[]:=List.eq_nil_of_length_eq_zero (by simpa using h)
  have:=List.take_append_drop k cs
  rw [‹cs.drop k=[]›] at this
  simp only [setL]
  exact this.symm
 | v::r,cs,k,h=>by
  have hk:k<cs.length:=by simp at h;omega
  rw [setL,setL_whole r (cs.set k v) (k+1) (by simp at h ⊢;omega),List.take_succ_eq_append_getElem (by simpa using hk)]
  simp [List.take_set_of_le]
theorem jo_store_arr {ty E:TypeId} {n by_:Nat} {z:Option Value} {x y:Operand} {g cap:Nat} {t:Ty} {xs ys:List t.den} (hx:ev L x=some (.pointer (some ⟨g,0,none⟩))) (hy:ev L y=some (.agg (ys.flatMap (enc t)).toArray)) (ht:TyF c.P ty true n by_ z) (hfl:t.flat=true)
  (hc:xs.length=cap) (hc':ys.length=cap) (hn:cap*t.n=n)
  (h:J c L (.rowg g cap E t ys::R) (wpList c.P ops Q rest)):J c L (.rowg g cap E t xs::R) (wpList c.P ops Q (⟨none,.store ty x y,T,pos,aft,none⟩::rest)):=Yc rfl fun a w hf hm=>by
 obtain ⟨I,m,ho,rfl,hr⟩:=hm.get (A:=.rowg g cap E t xs) (by simp)
 have hh:=hr.whole hfl hc
 simp only [cond_false] at hh
 have hl:(ys.flatMap (enc t)).length=n:=by rw [wP,hc',hn]
 have hl':(xs.flatMap (enc t)).length=n:=by rw [wP,hc,hn]
 have hst:=ZU ht w g 0 (.agg (ys.flatMap (enc t)).toArray) (ys.flatMap (enc t)) rfl hl (fun u hu=>by
  obtain ⟨y,_,hy⟩:=List.mem_flatMap.1 hu
  exact wL ((Zd (w:=w) (I:=I) hfl).2 rfl) u hy) (fun j hj=>by rw [z4 hh,List.getElem?_toArray,Nat.zero_add,List.getElem?_eq_getElem (by omega)];rfl) (fun j hj=>by simp [World.frozen?,hh])
 show Oper.upon _ _ _ _ _ ((execOp a.eval _).run c.P w)
 have hrun:(execOp a.eval ⟨none,.store ty x y,T,pos,aft,none⟩).run c.P w=.ok .skip (w.setCells g 0 (ys.flatMap (enc t))):=by
  simp only [execOp,hf.ev hx,hf.ev hy,Instr.storeAt,Instr.sureAddr,Sem.run_bind,Sem.run_pure,Result.andThen_ok,hst]
 rw [hrun]
 obtain ⟨i1,i2,i3,i4,i5,i6⟩:=wD g E (0,0) (ys.flatMap (enc t)) 0 w _ hh
 have e:setL (xs.flatMap (enc t)) 0 (ys.flatMap (enc t))=ys.flatMap (enc t):=by rw [setL_whole _ _ _ (by simp only [List.drop_zero];omega)];simp
 rw [e] at i1
 have hcm:cap≤maxLen:=by obtain ⟨C,_,_,h3,_⟩:=hr;exact h3
 exact h _ _ (hf.none _) (Mem.step (Ps:=[_]) (Bs:=[_]) hm fun I m1 ho hs=>by
  obtain ⟨m1,m2,rfl,⟨rfl,_⟩,rfl⟩:=hs
  exact ⟨I,[g],Eff.write ho i4 i5 i6 i3 i2,[g],[],rfl,⟨rfl,by subst hc';exact rowIs_flat hfl hcm i1⟩,rfl⟩)
/-- An array that nobody writes any more. -/
theorem j_pub_arr {g cap:Nat} {E:TypeId} {t:Ty} {xs:List t.den} (hfl:t.flat=true) (hc:xs.length=cap) (h:J c L (.ibox g E (xs.flatMap (enc t))::R) K):J c L (.rowg g cap E t xs::R) K :=
 Za (fun w hw=>Mem.step (Ps:=[_]) (Bs:=[_]) hw fun I m1 ho hs=>by
  obtain ⟨m1,m2,rfl,⟨rfl,h1⟩,rfl⟩:=hs
  have hh:=h1.whole hfl hc
  refine ⟨fun b=>I b∨b=g,[],⟨rfl,rfl,rfl,Nat.le_refl _,fun _ _ _=>rfl,fun b hb=>.inl hb,fun b hb=>?_,fun b hb=>?_,List.nodup_nil,fun b hb=>(List.not_mem_nil hb).elim,fun b hb=>(List.not_mem_nil hb).elim⟩,[],[],rfl,⟨rfl,.inr rfl,hh⟩,rfl⟩
  ·rcases hb with hb | rfl
   ·exact .inl hb
   ·exact .inr (.inl (by simp))
  ·rcases hb with hb | rfl
   ·exact ho.lt b hb
   ·exact ho.own b (by simp)) h
/-- An element of such an array. -/
theorem pr_load_iarr {ty E:TypeId} {agg:Bool} {by_:Nat} {z:Option Value} {x:Operand} {g o i:Nat} {t:Ty} {xs:List t.den} {dd:t.den} (v:Value) (hx:ev L x=some (.pointer (some ⟨g,o,none⟩))) (ht:TyF c.P ty agg t.n by_ z) (hag:t.isPair=agg)
  (hA:Asn.ibox g E (xs.flatMap (enc t))∈As) (hi:i<xs.length) (ho:i*t.n=o) (hv:toV t (enc t (xs.getD i dd))=v):PR c (.load ty x) T L As v:=by
 have hp:=flat_part xs i hi
 have e:xs.getD i dd=xs[i]:=by rw [List.getD_eq_getElem?_getD,List.getElem?_eq_getElem hi];rfl
 refine pr_load_ibox v hx ht hA ?_ ?_ ?_
 ·rw [← ho,hp,q7]
 ·intro h;subst hag;cases t <;> simp_all [Ty.isPair,Ty.n]
 ·rw [← ho,hp,← hv,e,qV,hag]
/-- The results' array. -/
theorem resV_arr {ad:Tmp} {ty E:TypeId} {n by_:Nat} {z:Option Value} {g cap:Nat} {t:Ty} {xs:List t.den} (hx:lk L ad=some (.pointer (some ⟨g,0,none⟩))) (ht:TyF c.P ty true n by_ z) (hfl:t.flat=true)
  (hA:Asn.rowg g cap E t xs∈As) (hc:xs.length=cap) (hn:xs.length*t.n=n):ResV c L As (.cell ad ty) (.agg (xs.flatMap (enc t)).toArray):=fun a w hf hm=>by
 obtain ⟨I,m,ho,rfl,hr⟩:=hm.get hA
 have:=run_load_arr (c:=c) ht hfl hc hn hr
 simp only [resOf,hf.getD hx,asAddr,Sem.run_bind,Sem.run_pure,Result.andThen_ok,this]
/-- A result in a variable. -/
theorem Ya {ad:Tmp} {ty E:TypeId} {agg:Bool} {n by_:Nat} {z:Option Value} {b:Nat} {cs:List Value} (v:Value) (hx:lk L ad=some (.pointer (some ⟨b,0,none⟩))) (ht:TyF c.P ty agg n by_ z)
  (hA:Asn.box b E cs∈As) (hl:cs.length=n) (h1:agg=false→n=1) (hv:Zl agg cs=v):ResV c L As (.cell ad ty) v:=fun a w hf hm=>by
 obtain ⟨I,m,ho,rfl,hh⟩:=hm.get hA
 have:=Yj ht w ⟨b,0,none⟩ cs hl h1 (fun j u hu=>by rw [Addr.add_mk,z4 hh];simpa using hu)
 simp only [resOf,hf.getD hx,asAddr,Sem.run_bind,Sem.run_pure,Result.andThen_ok,this,hv]
/-! ### Entries without a Go body -/
theorem pr_ext {os:List Operand} {vs:List Value} {f:FuncId} {fn:Func} {tys:Array TypeId} {e:Array Value→Sem Value} {v:Value} (hfn:c.P.funcs[f]?=some fn) (hname:(fn.name=="runtime.NumGoroutine")=false) (hb:fn.body.isNone=true) (hn:Extern.findNext fn=none) (he:Extern.find fn=some e)
  (hv:EvL L os vs) (hr:∀ w,(e vs.toArray).run c.P w=.ok v w):PR c (.call { callee:=.value (.func f),args:=os.toArray,argTypes:=tys }) T L As v:=fun a w hf _ d pos aft gd=>by
 have hm:=hv.map hf
 have h:=run_callFunc_extern hfn hname hb hn he vs.toArray w
 rw [hr w,Result.andThen_ok] at h
 simp only [execOp,resolve,invoke,Deferred.ofValue,Act.eval,Sem.run_bind,Sem.run_pure,Result.andThen_ok,List.map_toArray,hm]
 simpa using h
end ops
end Go.Sep
namespace Go.Sep
open Go
/-! ### Publishing -/
theorem Z9.rep {w:World} {I:zl} {g cap:Nat} {E:TypeId} {t:Ty} {xs:List t.den} (hg:I g) (h:Z9 w I false g cap E t xs):repC w I (.list t) [.slice (some ⟨g,0,none⟩) xs.length cap] xs:=by
 obtain ⟨C,h1,h2,h3,h4,h5⟩:=h
 refine ⟨_,_,_,rfl,rfl,h2,.inr ⟨g,0,C,E,_,rfl,hg,h1,?_,fun i hi=>?_⟩⟩
 ·rw [Nat.zero_add,h4];exact Nat.mul_le_mul_right _ h2
 ·rw [Nat.zero_add];exact h5 i hi
section ops
variable {c:Cx} {L:List (Nat×Value)} {As R:List Asn} {Q:Exit→Act→World→Prop} {K:Act→World→Prop} {ops:Array Oper} {rest:List Oper} {T:TypeId} {pos:String} {aft:Array Edge} {gd:Option (Nat×Bool)}
theorem Eff.publish {w:World} {I:zl} {m:List Nat} (ho:Okw w I m):Eff w I m w (fun b=>I b∨b∈m) [] :=
 ⟨rfl,rfl,rfl,Nat.le_refl _,fun _ _ _=>rfl,fun _ hb=>.inl hb,fun _ hb=>hb.elim .inl (fun h=>.inr (.inl h)),fun b hb=>hb.elim (ho.lt b) (ho.own b),List.nodup_nil,fun _ hb=>(List.not_mem_nil hb).elim,fun _ hb=>(List.not_mem_nil hb).elim⟩
theorem zV {v:Value} {E:TypeId} {t:Ty} {xs:List t.den} (h:J c L (.imm (.list t) v xs::R) K):J c L (.row v E t xs::R) K :=
 Za (fun w hw=>Mem.step (Ps:=[_]) (Bs:=[_]) hw fun I m1 ho hs=>by
  obtain ⟨m1,m2,rfl,hr,rfl⟩:=hs
  refine ⟨_,[],Eff.publish ho,[],[],rfl,⟨rfl,?_⟩,rfl⟩
  rcases hr with ⟨rfl,rfl,_⟩ | ⟨g,cap,rfl,rfl,hr⟩
  ·exact ⟨[_],rfl,none,0,0,rfl,rfl,Nat.le_refl _,.inl rfl⟩
  ·exact ⟨[_],rfl,(wo (w:=w) (I:=I) rfl (fun _ _=>rfl) (fun _ h=>.inl h) hr).rep (.inr (by simp))⟩) h
theorem j_pub_rowg {g cap:Nat} {E:TypeId} {t:Ty} {xs:List t.den} (h:J c L (.imm (.list t) (.slice (some ⟨g,0,none⟩) xs.length cap) xs::R) K):J c L (.rowg g cap E t xs::R) K :=
 Za (fun w hw=>Mem.step (Ps:=[_]) (Bs:=[_]) hw fun I m1 ho hs=>by
  obtain ⟨m1,m2,rfl,⟨rfl,hr⟩,rfl⟩:=hs
  exact ⟨_,[],Eff.publish ho,[],[],rfl,⟨rfl,[_],rfl,(wo (w:=w) (I:=I) rfl (fun _ _=>rfl) (fun _ h=>.inl h) hr).rep (.inr (by simp))⟩,rfl⟩) h
theorem ZB {b:Nat} {E:TypeId} {cs:List Value} (h:J c L (.ibox b E cs::R) K):J c L (.box b E cs::R) K :=
 Za (fun w hw=>Mem.step (Ps:=[_]) (Bs:=[_]) hw fun I m1 ho hs=>by
  obtain ⟨m1,m2,rfl,⟨rfl,hr⟩,rfl⟩:=hs
  exact ⟨_,[],Eff.publish ho,[],[],rfl,⟨rfl,.inr (by simp),hr⟩,rfl⟩) h
/-- nil,as an own slice;as a slice that nobody writes. -/
theorem zj (E:TypeId) (t:Ty) (h:J c L (.row (.slice none 0 0) E t []::R) K):J c L R K :=
 Za (fun w hw=>by
  obtain ⟨I,m,he,hs⟩:=hw
  exact ⟨I,m,he,[],m,rfl,.inl ⟨rfl,rfl,rfl⟩,hs⟩) h
theorem Zw (t:Ty) (h:J c L (.imm (.list t) (.slice none 0 0) []::R) K):J c L R K :=
 Za (fun w hw=>by
  obtain ⟨I,m,he,hs⟩:=hw
  exact ⟨I,m,he,[],m,rfl,⟨rfl,[_],rfl,none,0,0,rfl,rfl,Nat.le_refl _,.inl rfl⟩,hs⟩) h
/-- An own row with its address hidden. -/
theorem Z6 {g cap:Nat} {E:TypeId} {t:Ty} {xs:List t.den} (h:J c L (.row (.slice (some ⟨g,0,none⟩) xs.length cap) E t xs::R) K):J c L (.rowg g cap E t xs::R) K :=
 Za (fun w hw=>Mem.step (Ps:=[_]) (Bs:=[_]) hw fun I m1 ho hs=>by
  obtain ⟨m1,m2,rfl,⟨rfl,hr⟩,rfl⟩:=hs
  exact ⟨I,[g],ho.eff,[g],[],rfl,.inr ⟨g,cap,rfl,rfl,hr⟩,rfl⟩) h
/-! ### Elements -/
/-- Where element i of a slice lies. -/
def Zn (v:Value) (i n:Nat):Value :=
 match v with
 | .slice (some a) _ _=>.pointer (some (a.add (i*n)))
 | _=>.pointer none
theorem run_idx_slice {x y:Operand} {ty E:TypeId} {a:Act} {w:World} {b off n cap i k:Nat} {K:IntKind} {agg:Bool} {by_:Nat} {z:Option Value} {nn:Nat} (hf:Fits nn L a) {v:Value} (hx:ev L x=some v) (hv:v=.slice (some ⟨b,off,none⟩) n cap) (hy:ev L y=some (.int K i)) (ht:c.P.underlying ty=some (.slice E)) (he:TyF c.P E agg k by_ z) (hi:i<n) {d:Option Tmp} :
  (execOp a.eval ⟨d,.indexAddr ty x y,T,pos,aft,gd⟩).run c.P w=.ok (.value (Zn v i k)) w:=by
 subst hv
 simp [execOp,Instr.indexAt,hf.ev hx,hf.ev hy,asIntOf,run_underlying ht,he.sizeOf,hi,Zn]
theorem yF {x y:Operand} {ty E:TypeId} {v:Value} {t:Ty} {xs:List t.den} {i k:Nat} {K:IntKind} {agg:Bool} {by_:Nat} {z:Option Value} (hx:ev L x=some v) (hA:Asn.imm (.list t) v xs∈As) (hy:ev L y=some (.int K i)) (ht:c.P.underlying ty=some (.slice E)) (he:TyF c.P E agg k by_ z) (hi:i<xs.length) :
  PR c (.indexAddr ty x y) T L As (Zn v i k):=fun a w hf hm d pos aft gd=>by
 obtain ⟨I,m,ho,rfl,cs,hv,hr⟩:=hm.get hA
 obtain ⟨ad,len,cap,rfl,hl,_,hr⟩:=hr
 rcases hr with h | ⟨b,off,C,E',fz,rfl,_⟩
 ·subst h;simp at hi
 ·exact run_idx_slice (c:=c) hf hx (by rw [hv,hl];rfl) hy ht he hi
theorem zG {x y:Operand} {ty E E':TypeId} {v:Value} {t:Ty} {xs:List t.den} {i k:Nat} {K:IntKind} {agg:Bool} {by_:Nat} {z:Option Value} (hx:ev L x=some v) (hA:Asn.row v E' t xs∈As) (hy:ev L y=some (.int K i)) (ht:c.P.underlying ty=some (.slice E)) (he:TyF c.P E agg k by_ z) (hi:i<xs.length) :
  PR c (.indexAddr ty x y) T L As (Zn v i k):=fun a w hf hm d pos aft gd=>by
 obtain ⟨I,m,ho,hr⟩:=hm.get hA
 rcases hr with ⟨_,h,_⟩ | ⟨g,cap,rfl,_,hr⟩
 ·subst h;simp at hi
 ·exact run_idx_slice (c:=c) hf hx rfl hy ht he hi
/-- What lies at an element's place. -/
theorem imm_cell {w:World} {I:zl} {v:Value} {t:Ty} {xs:List t.den} {i:Nat} (h:repV w I (.list t) v xs) (hi:i<xs.length) :
  ∃ b off C E fz,Zn v i t.n=.pointer (some ⟨b,off,none⟩)∧I b∧w.heap[b]?=some (.cells C E fz)∧off+t.n≤C.size∧repC w I t ((C.toList.drop off).take t.n) xs[i]:=by
 obtain ⟨cs,hv,hr⟩:=h
 obtain ⟨ad,len,cap,rfl,hl,_,hr⟩:=hr
 rcases hr with h | ⟨b,off,C,E',fz,rfl,h1,h2,h3,h4⟩
 ·subst h;simp at hi
 ·subst hv
  refine ⟨b,off+i*t.n,C,E',fz,by simp [toV,Ty.isPair,Zn,Addr.add_mk],h1,h2,?_,h4 i hi⟩
  have:=Zm (k:=t.n) hi (Nat.le_refl _)
  rw [hl] at h3;omega
theorem row_cell {w:World} {I:zl} {v:Value} {E:TypeId} {t:Ty} {xs:List t.den} {m:List Nat} {i:Nat} (h:(Asn.row v E t xs).sat w I m) (hi:i<xs.length) :
  ∃ b off C fz,Zn v i t.n=.pointer (some ⟨b,off,none⟩)∧w.heap[b]?=some (.cells C E fz)∧off+t.n≤C.size∧repC w I t ((C.toList.drop off).take t.n) xs[i]:=by
 rcases h with ⟨_,h,_⟩ | ⟨g,cap,rfl,_,C,h1,h2,h3,h4,h5⟩
 ·subst h;simp at hi
 ·refine ⟨g,i*t.n,C,_,by simp [Zn,Addr.add_mk],h1,?_,h5 i hi⟩
  rw [h4];exact Zm hi h2
theorem load_at {w:World} {ty:TypeId} {agg:Bool} {by_:Nat} {z:Option Value} {b off:Nat} {C:Array Value} {E:TypeId} {fz:Nat×Nat} {t:Ty} {I:zl} {x:t.den} (ht:TyF c.P ty agg t.n by_ z) (hag:t.isPair=agg) (hh:w.heap[b]?=some (.cells C E fz)) (hr:repC w I t ((C.toList.drop off).take t.n) x) :
  (loadVar ty ⟨b,off,none⟩).run c.P w=.ok (toV t ((C.toList.drop off).take t.n)) w:=by
 rw [qV,hag]
 refine Yj ht w ⟨b,off,none⟩ _ (Wm hr) (fun h=>by subst hag;cases t <;> simp_all [Ty.isPair,Ty.n]) (fun j u hu=>?_)
 rw [Addr.add_mk,z4 hh]
 rw [List.getElem?_take] at hu
 split at hu
 ·simpa using hu
 ·cases hu
theorem getD_eq {α:Type} {xs:List α} {i:Nat} {dd:α} (hi:i<xs.length):xs.getD i dd=xs[i]:=by rw [List.getD_eq_getElem?_getD,List.getElem?_eq_getElem hi];rfl
/-- A load of an element without slices. -/
theorem yY {ty:TypeId} {agg:Bool} {by_:Nat} {z:Option Value} {x:Operand} {v:Value} {t:Ty} {xs:List t.den} {i:Nat} {dd:t.den} (u:Value) (hx:ev L x=some (Zn v i t.n)) (hA:Asn.imm (.list t) v xs∈As) (ht:TyF c.P ty agg t.n by_ z) (hfl:t.flat=true) (hag:t.isPair=agg) (hi:i<xs.length)
  (hu:toV t (enc t (xs.getD i dd))=u):PR c (.load ty x) T L As u:=fun a w hf hm d pos aft gd=>by
 obtain ⟨I,m,ho,rfl,hr⟩:=hm.get hA
 obtain ⟨b,off,C,E,fz,e,_,h2,_,h4⟩:=imm_cell hr hi
 have:=load_at (c:=c) ht hag h2 h4
 have h4':=(Zd hfl).1 h4
 rw [h4',← getD_eq (dd:=dd) hi,hu] at this
 rw [e] at hx
 simp only [execOp,hf.ev hx,Instr.loadAt,Instr.sureAddr,Sem.run_bind,Sem.run_pure,Result.andThen_ok,this]
theorem YU {ty E:TypeId} {agg:Bool} {by_:Nat} {z:Option Value} {x:Operand} {v:Value} {t:Ty} {xs:List t.den} {i:Nat} {dd:t.den} (u:Value) (hx:ev L x=some (Zn v i t.n)) (hA:Asn.row v E t xs∈As) (ht:TyF c.P ty agg t.n by_ z) (hfl:t.flat=true) (hag:t.isPair=agg) (hi:i<xs.length)
  (hu:toV t (enc t (xs.getD i dd))=u):PR c (.load ty x) T L As u:=fun a w hf hm d pos aft gd=>by
 obtain ⟨I,m,ho,hr⟩:=hm.get hA
 obtain ⟨b,off,C,fz,e,h2,_,h4⟩:=row_cell hr hi
 have:=load_at (c:=c) ht hag h2 h4
 have h4':=(Zd hfl).1 h4
 rw [h4',← getD_eq (dd:=dd) hi,hu] at this
 rw [e] at hx
 simp only [execOp,hf.ev hx,Instr.loadAt,Instr.sureAddr,Sem.run_bind,Sem.run_pure,Result.andThen_ok,this]
/-! ### Slicing what nobody writes -/
def resl (v:Value) (lo hi n:Nat):Value :=
 match v with
 | .slice a _ cap=>.slice (if cap=lo then a else a.map (·.add (lo*n))) (hi-lo) (cap-lo)
 | _=>v
theorem repC_resl {w:World} {I:zl} {t:Ty} {a:Option Addr} {len cap:Nat} {xs:List t.den} (h:repC w I (.list t) [.slice a len cap] xs) {lo hi:Nat} (h1:lo≤hi) (h2:hi≤xs.length) :
  repC w I (.list t) [.slice (if cap=lo then a else a.map (·.add (lo*t.n))) (hi-lo) (cap-lo)] ((xs.take hi).drop lo):=by
 obtain ⟨a',len',cap',e,hl,hc,hr⟩:=h
 simp only [List.cons.injEq,Value.slice.injEq,and_true] at e
 obtain ⟨rfl,rfl,rfl⟩:=e
 have hlen:((xs.take hi).drop lo).length=hi-lo:=by simp;omega
 refine ⟨_,_,_,rfl,hlen.symm,by omega,?_⟩
 rcases hr with rfl | ⟨b,off,C,E,fz,rfl,i1,i2,i3,i4⟩
 ·left
  simp
 ·right
  by_cases hcl:cap=lo
  ·have:hi=lo:=by omega
   subst this
   rw [if_pos hcl]
   refine ⟨b,off,C,E,fz,rfl,i1,i2,by rw [Nat.sub_self,Nat.zero_mul,Nat.add_zero];omega,fun i hi=>?_⟩
   rw [hlen] at hi;omega
  ·rw [if_neg hcl]
   refine ⟨b,off+lo*t.n,C,E,fz,by simp [Addr.add_mk],i1,i2,?_,fun i hi'=>?_⟩
   ·have:(hi-lo)*t.n+lo*t.n≤len*t.n:=by rw [← Nat.add_mul];exact Nat.mul_le_mul_right _ (by omega)
    omega
   ·rw [hlen] at hi'
    have:=i4 (lo+i) (by omega)
    rw [Nat.add_mul,← Nat.add_assoc] at this
    simpa using this
theorem Y2 {x:Operand} {lo hi:Option Operand} {ty E:TypeId} {v:Value} {t:Ty} {xs:List t.den} {l h:Nat} {agg:Bool} {by_:Nat} {z:Option Value} (hx:ev L x=some v) (hA:Asn.imm (.list t) v xs∈As) (ht:c.P.underlying ty=some (.slice E)) (he:TyF c.P E agg t.n by_ z)
  (hlo:match lo with | some o=>∃ k,ev L o=some (.int k (l:Nat)) | none=>l=0) (hhi:match hi with | some o=>∃ k,ev L o=some (.int k (h:Nat)) | none=>h=xs.length) (h1:l≤h) (h2:h≤xs.length) :
  PR c (.slice ty x lo hi none) T L As (resl v l h t.n):=fun a w hf hm d pos aft gd=>by
 obtain ⟨I,m,ho,rfl,cs,hv,hr⟩:=hm.get hA
 obtain ⟨ad,len,cap,rfl,hl,hc,hr⟩:=hr
 have hv':v=.slice ad len cap:=hv
 subst hv'
 subst hl
 have hb:(Instr.sliceBounds true xs.length cap (lo.map a.eval) (hi.map a.eval) none).run c.P w=.ok (l,h,cap) w:=by
  cases lo with
  | none =>
   simp only at hlo
   cases hi with
   | none=>simp only at hhi;subst hhi;subst hlo;simp [Instr.sliceBounds]
   | some o=>obtain ⟨k,hk⟩:=hhi;subst hlo;simp [Instr.sliceBounds,hf.ev hk,zZ (show h≤cap by omega)]
  | some p =>
   obtain ⟨k',hk'⟩:=hlo
   cases hi with
   | none=>simp only at hhi;subst hhi;simp [Instr.sliceBounds,hf.ev hk',zZ h1]
   | some o=>obtain ⟨k,hk⟩:=hhi;simp [Instr.sliceBounds,hf.ev hk',hf.ev hk,zZ (show h≤cap by omega),zZ h1]
 have hu:=run_underlying ht w
 simp only [execOp,Instr.sliceAt,Instr.slice,hf.ev hx,Sem.run_bind,hu,Result.andThen_ok,show (none:Option Operand).map a.eval=none from rfl,hb,he.sizeOf,Sem.run_pure,resl]
theorem Ws {v:Value} {t:Ty} {xs:List t.den} {l h:Nat} (hA:Asn.imm (.list t) v xs∈As) (h1:l≤h) (h2:h≤xs.length) (hJ:J c L (.imm (.list t) (resl v l h t.n) ((xs.take h).drop l)::As) K):J c L As K :=
 Za (fun w hw=>by
  obtain ⟨I,m,he,hs⟩:=hw
  obtain ⟨_,cs,hv,hr⟩:=hs.pers hA rfl
  have hr0:=hr
  obtain ⟨ad,len,cap,rfl,hl,hc,_⟩:=hr
  have hv':v=.slice ad len cap:=hv
  subst hv'
  exact ⟨I,m,he,[],m,rfl,⟨rfl,[_],rfl,repC_resl hr0 h1 h2⟩,hs⟩) hJ
/-! ### Literals -/
theorem fill_parts {t:Ty}:∀ (vs:List Value) (css:List (List Value)) (j:Nat) (C:Array Value),vs.map Value.cells=css.map List.toArray→(∀ cs∈css,cs.length=t.n)→C.size=(j+css.length)*t.n →
  Instr.fill (fun i=>some (i*t.n,t.n)) C ((vs.zipIdx j).map fun x=>(x.2,x.1))=some (C.toList.take (j*t.n)++css.flatten).toArray
 | [],[],j,C,_,_,hC=>by
  simp only [List.zipIdx_nil,List.map_nil,Instr.fill,List.flatten_nil,List.append_nil,Option.some.injEq]
  rw [List.take_of_length_le (by rw [Array.length_toList,hC];simp)]
 | v::vs,cs::css,j,C,hv,hl,hC=>by
  simp only [List.map_cons,List.cons.injEq] at hv
  obtain ⟨hv1,hv2⟩:=hv
  have hcs:=hl cs (by simp)
  have hsz:j*t.n+t.n≤C.size:=by rw [hC,List.length_cons,Nat.add_mul,Nat.add_mul];omega
  simp only [List.zipIdx_cons,List.map_cons,Instr.fill,hv1,List.size_toArray,hcs]
  rw [if_neg (by simp;omega)]
  have hfold:∀ (l:List Value) (k:Nat) (D:Array Value),j*t.n+k+l.length≤D.size→(l.zipIdx k).foldl (fun cs (x:Value×Nat)=>cs.setIfInBounds (j*t.n+x.2) x.1) D=(setL D.toList (j*t.n+k) l).toArray:=by
   intro l
   induction l with
   | nil=>intro k D _;simp [setL]
   | cons u l ih =>
    intro k D hD
    have:=ih (k+1) (D.setIfInBounds (j*t.n+k) u) (by simp at hD ⊢;omega)
    simp only [List.zipIdx_cons,List.foldl_cons,this]
    simp [setL,Nat.add_assoc]
  have hf0:=hfold cs 0 C (by rw [hcs];omega)
  simp only [Nat.add_zero] at hf0
  rw [← Array.foldl_toList,Array.toList_zipIdx,hf0,fill_parts vs css (j+1) _ hv2 (fun x hx=>hl x (by simp [hx])) (by simp [WD,hC];rw [Nat.add_right_comm,Nat.add_assoc])]
  simp only [List.flatten_cons,Option.some.injEq]
  congr 1
  rw [← List.append_assoc]
  congr 1
  apply List.ext_getElem?
  intro k
  rw [List.getElem?_take]
  by_cases hk:k<(j+1)*t.n
  ·rw [if_pos hk]
   rw [Nat.add_mul,Nat.one_mul] at hk
   by_cases hk2:k<j*t.n
   ·rw [setL_out _ _ _ _ (.inl hk2),List.getElem?_append_left (by simp;omega),List.getElem?_take,if_pos hk2]
   ·rw [setL_in _ _ _ _ (by simp [hcs];omega) (by omega) (by omega),List.getElem?_append_right (by simp;omega)]
    congr 1
    simp;omega
  ·rw [if_neg hk,List.getElem?_eq_none (by simp [hcs];rw [Nat.add_mul] at hk;omega)]
 | [],_::_,_,_,h,_,_=>by simp at h
 | _::_,[],_,_,h,_,_=>by simp at h
end ops
end Go.Sep
namespace Go.Sep
open Go
set_option linter.unusedSimpArgs false
section ops
variable {c:Cx} {L:List (Nat×Value)} {As R:List Asn} {Q:Exit→Act→World→Prop} {K:Act→World→Prop} {ops:Array Oper} {rest:List Oper} {T:TypeId} {pos:String} {aft:Array Edge} {gd:Option (Nat×Bool)}
/-! ### Struct values -/
theorem pr_build {t:TypeId} {parts:Array (Nat×Operand)} (vs:List (Nat×Value)) (cs:List Value) (hp:∀ a,Fits c.n L a→(parts.map fun (i,x)=>(i,a.eval x)).toList=vs) (hb:c.P.built t vs=some cs.toArray) :
  PR c (.build t parts) T L As (.agg cs.toArray):=fun a w hf _ d pos aft gd=>by
 have:=run_build w t (parts.map fun (i,x)=>(i,a.eval x)) cs.toArray (by rw [hp a hf];exact hb)
 simp only [execOp,Sem.run_bind,this,Result.andThen_ok,Sem.run_pure]
theorem ya {s:TypeId} {x:Operand} {k b o:Nat} {fs:Array Field} {f:Field} {agg:Bool} {n by_:Nat} {z:Option Value} (o':Nat) (hx:ev L x=some (.pointer (some ⟨b,o,none⟩))) (hu:c.P.underlying s=some (.struct fs)) (hf:fs[k]?=some f)
  (ht:TyF c.P f.type agg n by_ z) (hn:Nat.blt 0 n=true) (ho:o+f.offset=o'):PR c (.fieldAddr s x k) T L As (.pointer (some ⟨b,o',none⟩)):=fun a w hf' _ d pos aft gd=>by
 have hn':n≠0:=by rw [Nat.blt_eq] at hn;omega
 simp [execOp,Instr.fieldAt,hf'.ev hx,run_underlying hu,hf,Instr.sureAddr,fieldPlace,ht.sizeOf,hn',Addr.add_mk,ho]
theorem bytes_toList (l:List UInt8):(⟨l.toArray⟩:ByteArray).toList=l:=by rw [ByteArray.toList_eq]
theorem run_eq_ss {P:Program} {w:World} {t:TypeId} {f1 f2:Field} {a1 a2 b1 b2:List UInt8} (hu:P.underlying t=some (.struct #[f1,f2])) (hp:P.stoodInHeld t=false)
  (n1:(f1.name=="_")=false) (n2:(f2.name=="_")=false) (o1:f1.offset=0) (o2:f2.offset=1) (u1:P.underlying f1.type=some .string) (u2:P.underlying f2.type=some .string)
  {by1 by2:Nat} {z1 z2:Option Value} (t1:TyF P f1.type false 1 by1 z1) (t2:TyF P f2.type false 1 by2 z2) :
  (Op.equalIn 10000 t (.agg #[str a1,str a2]) (.agg #[str b1,str b2])).run P w=.ok (decide (a1=b1)&&decide (a2=b2)) w:=by
 have hfs:P.fieldsOf t=#[f1,f2]:=by simp [Program.fieldsOf,hu]
 have n1':f1.name≠"_":=by simpa using n1
 have n2':f2.name≠"_":=by simpa using n2
 have p1:∀ (x y:Value) ,(part f1.type #[x,y] 0).run P w=.ok x w:=fun x y=>by simp [part,t1.isAgg]
 have p2:∀ (x y:Value) ,(part f2.type #[x,y] 1).run P w=.ok y w:=fun x y=>by simp [part,t2.isAgg]
 have e1:∀ d t (a b:List UInt8),P.underlying t=some .string→(Op.equalIn (d+1) t (str a) (str b)).run P w=.ok (decide (a=b)) w:=fun d t a b h=>by
  show (Op.equalIn (d+1) t (.string _) (.string _)).run P w=_
  rw [run_equalIn_string w d t _ _ h,bytes_toList,bytes_toList]
  congr 1
  by_cases hab:a=b <;> simp [hab]
 rw [show (10000:Nat)=9999+1 from rfl,run_equalIn_agg w 9999 t _ _ (by rw [hfs];exact hu) hp,hfs]
 simp only [Op.eqFields,if_pos n1',if_pos n2',Sem.run_bind,o1,o2,p1,p2,Result.andThen_ok,e1 9998 _ _ _ u1,Sem.run_ite]
 by_cases h1:a1=b1
 ·simp only [h1,decide_true,Bool.not_true,Bool.false_eq_true,if_false,Sem.run_bind,o1,o2,p1,p2,Result.andThen_ok,e1 9998 _ _ _ u2,Sem.run_ite,Bool.true_and]
  by_cases h2:a2=b2 <;> simp [h2]
 ·simp [h1]
theorem pr_neq_ss {t t':TypeId} {x y:Operand} {f1 f2:Field} {a1 a2 b1 b2:List UInt8} (hx:ev L x=some (.agg #[str a1,str a2])) (hy:ev L y=some (.agg #[str b1,str b2])) (hu:c.P.underlying t=some (.struct #[f1,f2])) (hp:c.P.stoodInHeld t=false) (hm:c.P.eqGuardType c.P.depth t=false)
  (n1:(f1.name=="_")=false) (n2:(f2.name=="_")=false) (o1:f1.offset=0) (o2:f2.offset=1) (u1:c.P.underlying f1.type=some .string) (u2:c.P.underlying f2.type=some .string)
  {by1 by2:Nat} {z1 z2:Option Value} (t1:TyF c.P f1.type false 1 by1 z1) (t2:TyF c.P f2.type false 1 by2 z2):PR c (.binOp .neq t x y t') T L As (.bool (!(decide (a1=b1)&&decide (a2=b2)))):=fun a w hf _ d pos aft gd=>by
 simp only [execOp,hf.ev hx,hf.ev hy,Sem.run_bind,run_eqGuard_agg w _ _ _ _ _ _ hm,Result.andThen_ok,run_neq_struct,run_eq_ss hu hp n1 n2 o1 o2 u1 u2 t1 t2,Sem.run_pure]
/-! ### Regions that draw their order,order by order -/
def only (K:Act→World→Prop):Exit→Act→World→Prop:=fun e a w=>e=.normal∧K a w
/-- Where a region stands: 'listed' have come up;S holds throughout. -/
def JH (c:Cx) (As0:List Asn) (ops:Array Oper) (F:Act→World→Prop) (fuel:Nat) (listed:Array Bool) (L:List (Nat×Value)) (As:List Asn):Prop :=
 J c L As (fun a w=>wpAnyH c.P .any ops (only F) (Mem c As0) fuel listed a w)
variable {As0:List Asn} {F:Act→World→Prop} {fuel:Nat} {listed listed':Array Bool}
theorem qQ {id:Nat} {l:List Oper} {ι:Type} (LF:ι→List (Nat×Value)) (AF:ι→List Asn) (As0:List Asn) (hm:c.P.follows .mixedOrders=true)
  (h:∀ listed,listed=Array.replicate l.toArray.size false→JH c As0 l.toArray (fun a w=>∃ i,Fits c.n (LF i) a∧Mem c (AF i) w) l.toArray.size listed L As) (k:∀ i,J c (LF i) (AF i) (Q .normal)) :
  J c L As ((Code.region id l.toArray true).wp c.P Q):=fun a w hf hw=>by
 refine wp_mono (Q:=only (fun a w=>∃ i,Fits c.n (LF i) a∧Mem c (AF i) w)) (wp_region_held (S:=Mem c As0) hm (h _ rfl a _ hf (hw.drawn _))) ?_
 rintro e a' w' ⟨rfl,i,h1,h2⟩
 exact k i a' w' h1 h2
/-- An operation that leaves the world alone is taken first. -/
theorem yU (i:Nat) {op:Op} {d:Nat} {v:Value} (hi:ops[i]?=some ⟨some d,op,T,pos,aft,none⟩) (hs:Region.noSelect ops=true) (hf:Region.free .any ops listed i=true) (hr:(Region.ready .any ops listed).contains i=true)
  (hd:Nat.blt d c.n=true) (hp:PR c op T L As0 v) (hS:∀ w,Mem c As w→Mem c As0 w) (hl:listed.setIfInBounds i true=listed') (h:JH c As0 ops F fuel listed' ((d,v)::L) As):JH c As0 ops F (fuel+1) listed L As:=fun a w hf' hw=>by
 refine wpAnyH_take hi hs hf hr (fun c a w h=>absurd h.1 (by simp)) (.inl ⟨by simp [Region.wanted],fun w hw=>hp a w hf' hw _ _ _ _⟩) (hS w hw) ?_
 rw [hl]
 exact h _ w (hf'.put (by rw [Nat.blt_eq] at hd;exact hd) v) hw
theorem zK (rs:List Nat) (hr:Region.ready .any ops listed=rs) (hne:rs≠[])
  (h:∀ i∈rs,J c L As (fun a w=>wpOp c.P ops (only F) i (fun a' w'=>Mem c As0 w'∧wpAnyH c.P .any ops (only F) (Mem c As0) fuel (listed.setIfInBounds i true) a' w') a w)):JH c As0 ops F (fuel+1) listed L As:=fun a w hf hw =>
 wpAnyH_all hr hne fun i hi=>h i hi a w hf hw
/-- One operation,by the rules of a plain region. -/
theorem yI {i:Nat} {o:Oper} (hi:ops[i]?=some o) (h:J c L As (wpList c.P ops (only K) [o])):J c L As (fun a w=>wpOp c.P ops (only F) i K a w):=fun a w hf hw=>by
 have:=h a w hf hw
 unfold wpOp
 simp only [hi]
 unfold wpList at this
 split
 ·rename_i hw'
  rw [if_pos hw'] at this
  rcases this with this | ⟨_,h⟩
  ·left
   unfold Oper.wp at this ⊢
   revert this
   generalize (execOp a.eval o).run c.P w=r
   intro this
   cases r with
   | ok n w'=>cases n with
    | value v=>exact this.2
    | skip=>exact this.2
    | defer d=>exact this.2
    | enter f args=>exact Calls.mono this fun e w'' he=>by cases e with
     | returned v=>exact he.2
     | panicked ch=>exact absurd he.1 (by simp)
     | outgrown=>obtain ⟨_,_,h,_⟩:=(he:LetsOut (only K));exact absurd h (by simp)
    | row r args=>exact Rows.mono this fun v w'' he=>he.2
    | _=>exact this
   | halt h w'=>cases h <;> first | exact this | exact absurd this.1 (by simp)
  ·obtain ⟨_,_,h,_⟩:=h
   exact absurd h (by simp)
 ·rename_i hw'
  rw [if_neg hw'] at this
  exact this.2
theorem Yb {i:Nat} (hS:∀ w,Mem c As w→Mem c As0 w) (hl:listed.setIfInBounds i true=listed') (h:JH c As0 ops F fuel listed' L As) :
  J c L As (wpList c.P ops (only (fun a' w'=>Mem c As0 w'∧wpAnyH c.P .any ops (only F) (Mem c As0) fuel (listed.setIfInBounds i true) a' w')) []):=fun a w hf hw=>by
 refine ⟨rfl,hS w hw,?_⟩
 rw [hl]
 exact h a w hf hw
theorem ZW {ι:Type} {LF:ι→List (Nat×Value)} {AF:ι→List Asn} (i:ι) (hr:Region.ready .any ops listed=[]) (hL:SubL (LF i) L) (hA:∀ w,Mem c As w→Mem c (AF i) w) :
  JH c As0 ops (fun a w=>∃ i,Fits c.n (LF i) a∧Mem c (AF i) w) fuel listed L As:=fun _ w hf hw =>
 wpAnyH_done hr ⟨rfl,i,hf.sub hL,hA w hw⟩ _
end ops
end Go.Sep
namespace Go.Sep
open Go
set_option linter.unusedSimpArgs false
theorem evg2 {L:List (Nat×Value)} {x:Operand} {b b2:Bool} {v:Value} (h:ev L x=some (gv (b&&b2) v)) (hb:b=true):ev L x=some (gv b2 v):=by subst hb;exact h
section bools
variable {c:Cx} {L:List (Nat×Value)} {As:List Asn} {T:TypeId}
theorem pr_neqb {t t':TypeId} {x y:Operand} {a b:Bool} (hx:ev L x=some (.bool a)) (hy:ev L y=some (.bool b)) (hu:c.P.underlying t=some .bool):PR c (.binOp .neq t x y t') T L As (.bool (!(a==b))):=fun ac w hf _ d pos aft gd=>by
 simp [execOp,hf.ev hx,hf.ev hy,eqGuard,binOp,run_equal_bool w t a b hu]
end bools
section guarded
variable {c:Cx} {L:List (Nat×Value)} {As R:List Asn} {Q:Exit→Act→World→Prop} {K:Act→World→Prop} {ops:Array Oper} {rest:List Oper} {T:TypeId} {pos:String} {aft:Array Edge}
theorem not_wanted {d:Option Tmp} {op:Op} {a:Act} {n j t:Nat} {want b2:Bool} (hf:Fits n L a) (hj:(ops[j]?).bind (·.dst)=some t) (hl:lk L t=some (gv false (.bool b2))) :
  Region.wanted ⟨d,op,T,pos,aft,some (j,want)⟩ (yielded ops a.tmps)=false:=by
 have:=hf.2.2 t _ hl
 simp [Region.wanted,yielded,hj,this,gv,undef]
theorem Yd {op:Op} {d j t:Nat} {b1 b2 b' want:Bool} {v:Value} (hj:(ops[j]?).bind (·.dst)=some t) (hl:lk L t=some (gv b1 (.bool b2))) (hd:Nat.blt d c.n=true) (hw:(b1&&(b2==want))=b')
  (hp:b'=true→PR c op T L As v) (h:J c ((d,gv b' v)::L) As (wpList c.P ops Q rest)):J c L As (wpList c.P ops Q (⟨some d,op,T,pos,aft,some (j,want)⟩::rest)):=by
 cases b1 with
 | true=>exact jo_gpure hj hl hd (by simpa using hw) hp h
 | false =>
  intro a w hf hm
  unfold wpList
  rw [if_neg (by rw [not_wanted hf hj hl];simp)]
  rw [← hw] at h
  exact h _ w (hf.put (by rw [Nat.blt_eq] at hd;exact hd) _) hm
theorem jo_gcall2 {os:List Operand} {vs:List Value} {f:FuncId} {tys:Array TypeId} {Bs:List Asn} {val:Unit→Value} {d j t:Nat} {b1 b2 b' want:Bool} (hj:(ops[j]?).bind (·.dst)=some t) (hl:lk L t=some (gv b1 (.bool b2))) (hw:(b1&&(b2==want))=b')
  (hc:Cal c.P f) (con:b'=true→Con c.P f vs.toArray Bs val (fun _=>[])) (hv:b'=true→EvL L os vs) (hd:Nat.blt d c.n=true) (hB:b'=true→HasP As Bs)
  (h:J c ((d,gv b' (val ()))::L) As (wpList c.P ops Q rest)):J c L As (wpList c.P ops Q (⟨some d,.call { callee:=.value (.func f),args:=os.toArray,argTypes:=tys },T,pos,aft,some (j,want)⟩::rest)):=by
 cases b1 with
 | true=>exact Yh hj hl (by simpa using hw) hc con hv hd hB h
 | false =>
  intro a w hf hm
  unfold wpList
  rw [if_neg (by rw [not_wanted hf hj hl];simp)]
  rw [← hw] at h
  exact h _ w (hf.put (by rw [Nat.blt_eq] at hd;exact hd) _) hm
theorem jd_gpure2 {op:Op} {d j t:Nat} {b1 b2 b' want:Bool} {v:Value} (hj:(ops[j]?).bind (·.dst)=some t) (hl:lk L t=some (gv b1 (.bool b2))) (hd:Nat.blt d c.n=true) (hw:(b1&&(b2==want))=b')
  (hp:b'=true→PR c op T L As v) (h:JD c ((d,gv b' v)::L) As ops Q rest):JD c L As ops Q (⟨some d,op,T,pos,aft,some (j,want)⟩::rest):=by
 cases b1 with
 | true=>exact jd_gpure hj hl hd (by simpa using hw) hp h
 | false =>
  intro a hf
  unfold wpQuiet
  rw [if_neg (by rw [not_wanted hf hj hl];simp)]
  rw [← hw] at h
  exact h _ (hf.put (by rw [Nat.blt_eq] at hd;exact hd) _)
theorem jd_gcall2 {os:List Operand} {vs:List Value} {f:FuncId} {tys:Array TypeId} {Bs:List Asn} {val:Unit→Value} {d j t:Nat} {b1 b2 b' want:Bool} (hj:(ops[j]?).bind (·.dst)=some t) (hl:lk L t=some (gv b1 (.bool b2))) (hw:(b1&&(b2==want))=b')
  (hc:Cal c.P f) (con:b'=true→Con c.P f vs.toArray Bs val (fun _=>[])) (hv:b'=true→EvL L os vs) (hd:Nat.blt d c.n=true) (hB:b'=true→HasP As Bs)
  (h:JD c ((d,gv b' (val ()))::L) As ops Q rest):JD c L As ops Q (⟨some d,.call { callee:=.value (.func f),args:=os.toArray,argTypes:=tys },T,pos,aft,some (j,want)⟩::rest):=by
 cases b1 with
 | true=>exact jd_gcall hj hl (by simpa using hw) hc con hv hd hB h
 | false =>
  intro a hf
  unfold wpQuiet
  rw [if_neg (by rw [not_wanted hf hj hl];simp)]
  rw [← hw] at h
  exact h _ (hf.put (by rw [Nat.blt_eq] at hd;exact hd) _)
end guarded
end Go.Sep
namespace Go.Sep
open Go
set_option linter.unusedSimpArgs false
theorem WU {α:Type} (l:List α) {i n k:Nat} (hi:i<n):((l.take (n*k)).drop (i*k)).take k=(l.drop (i*k)).take k:=by
 have h:=Zm (k:=k) hi (Nat.le_refl _)
 rw [List.drop_take,List.take_take,Nat.min_eq_left (by omega)]
theorem part_left {α:Type} {a b:List α} {i n k:Nat} (ha:a.length=n*k) (hi:i<n):((a++b).drop (i*k)).take k=(a.drop (i*k)).take k:=by
 have h:=Zm (k:=k) hi (Nat.le_refl _)
 rw [List.drop_append_of_le_length (by omega),List.take_append_of_le_length (by simp;omega)]
theorem part_right {α:Type} {a b:List α} {i n k:Nat} (ha:a.length=n*k) (hi:n≤i):((a++b).drop (i*k)).take k=(b.drop ((i-n)*k)).take k:=by
 have h:n*k≤i*k:=Nat.mul_le_mul_right _ hi
 rw [List.drop_append,List.drop_of_length_le (by omega),List.nil_append,ha,Nat.sub_mul]
theorem all_parts {α:Type} {p:α→Prop} (l:List α) (k:Nat):∀ n,(∀ i,i<n→∀ u∈(l.drop (i*k)).take k,p u)→∀ u∈l.take (n*k),p u
 | 0,_,u,hu=>by simp at hu
 | n+1,h,u,hu=>by
  rw [Nat.add_mul,Nat.one_mul,List.take_add] at hu
  rcases List.mem_append.1 hu with hu | hu
  ·exact all_parts l k n (fun i hi=>h i (by omega)) u hu
  ·exact h n (by omega) u hu
section ops
variable {c:Cx} {L:List (Nat×Value)} {As R:List Asn} {Q:Exit→Act→World→Prop} {K:Act→World→Prop} {ops:Array Oper} {rest:List Oper} {T:TypeId} {pos:String} {aft:Array Edge} {gd:Option (Nat×Bool)}
/-- A slice literal of data without slices. -/
theorem zI {ty E:TypeId} {len d:Nat} {parts:Array (Nat×Operand)} {t:Ty} {agg:Bool} {by_:Nat} {z:Value} (xs:List t.den) (vs:List Value) (hp:∀ a,Fits c.n L a→(parts.map fun (i,x)=>(i,a.eval x)).toList=(vs.zipIdx 0).map fun x=>(x.2,x.1)) (hv:vs.map Value.cells=(xs.map (enc t)).map List.toArray)
  (hu:c.P.underlying ty=some (.slice E)) (he:TyF c.P E agg t.n by_ (some z)) (hfl:t.flat=true) (hlen:xs.length=len) (hpos:Nat.blt 0 len=true) (hsm:Nat.ble (len*t.n) 16777216=true) (hd:Nat.blt d c.n=true)
  (h:∀ g,J c ((d,.slice (some ⟨g,0,none⟩) xs.length xs.length)::L) (.rowg g xs.length E t xs::As) (wpList c.P ops Q rest)) :
  J c L As (wpList c.P ops Q (⟨some d,.buildSlice ty len parts,T,pos,aft,none⟩::rest)):=Yc rfl fun a w hf hm=>by
 obtain ⟨i,hi1,hi2,_,hi4⟩:=he.get
 have hn:=t.n_pos
 rw [Nat.blt_eq] at hpos
 have hsm':=Nat.le_of_ble_eq_true hsm
 have hmul:0<len*t.n:=Nat.mul_pos hpos hn
 have hfill:=fill_parts (t:=t) vs (xs.map (enc t)) 0 ((Array.range (len*i.size)).map (z.cells[· % z.cells.size]!)) hv (fun cs hcs=>by obtain ⟨y,_,rfl⟩:=List.mem_map.1 hcs;exact q7 y) (by simp [hi2,hlen])
 simp only [Nat.zero_mul,List.take_zero,List.nil_append] at hfill
 have hr:=run_buildSlice (P:=c.P) w ty E len (parts.map fun (i,x)=>(i,a.eval x)) (xs.map (enc t)).flatten.toArray i z hu hi1 hi4 (by rw [hi2];omega) (by rw [hi2];omega) (by rw [hp a hf,hi2];rw [hi2] at hfill;exact hfill)
 have hr':(execOp a.eval ⟨some d,.buildSlice ty len parts,T,pos,aft,none⟩).run c.P w=.ok (.value (.slice (some ⟨w.heap.size,0,none⟩) len len)) (w.alloc (.cells (xs.map (enc t)).flatten.toArray E)):=by
  simp only [execOp,Sem.run_bind,hr,Result.andThen_ok,Sem.run_pure]
 show Oper.upon _ _ _ _ _ ((execOp a.eval _).run c.P w)
 rw [hr']
 subst hlen
 have hml:xs.length≤maxLen:=by
  have:xs.length≤xs.length*t.n:=Nat.le_mul_of_pos_right _ hn
  simp only [maxLen];omega
 refine h _ _ _ (hf.put (by rw [Nat.blt_eq] at hd;exact hd) _) (Mem.new (Bs:=[.rowg w.heap.size xs.length E t xs]) hm fun I _=>⟨[w.heap.size],[],rfl,⟨rfl,?_⟩,rfl⟩)
 refine rowIs_flat hfl hml ?_
 rw [List.flatMap_def]
 exact heap_alloc_new w _
/-- What an own row's cells are. -/
theorem row_owns {w:World} {I:zl} {v:Value} {E:TypeId} {t:Ty} {xs:List t.den} {m:List Nat} (h:(Asn.row v E t xs).sat w I m) :
  ∃ cs,w.ownsRow 0 E t.n v xs.length cs∧(∀ i (hi:i<xs.length),repC w I t ((cs.drop (i*t.n)).take t.n) xs[i])∧(∀ b,v.ownBlock=some b↔b∈m):=by
 rcases h with ⟨rfl,rfl,rfl⟩ | ⟨g,cap,rfl,rfl,C,h1,h2,h3,h4,h5⟩
 ·exact ⟨[],⟨by simp,.inl ⟨rfl,rfl⟩⟩,fun i hi=>by simp at hi,fun b=>by simp [Value.ownBlock]⟩
 ·have hle:xs.length*t.n≤C.size:=by rw [h4];exact Nat.mul_le_mul_right _ h2
  refine ⟨C.toList.take (xs.length*t.n),⟨by simp;omega,.inr ⟨g,cap,C,rfl,Nat.zero_le _,h1,h2,h3,h4,rfl⟩⟩,fun i hi=>?_,fun b=>by simp [Value.ownBlock,eq_comm]⟩
  rw [WU _ hi];exact h5 i hi
/-- 'append(s,xs...)' to an own slice,out of one's own. -/
theorem zB {ty E E':TypeId} {x y:Operand} {v:Value} {g cap d:Nat} {t:Ty} {xs ys:List t.den} {agg:Bool} {by_:Nat} {z:Value} (hx:ev L x=some v) (hy:ev L y=some (.slice (some ⟨g,0,none⟩) ys.length cap)) (hu:c.P.underlying ty=some (.slice E)) (he:TyF c.P E agg t.n by_ (some z)) (hzs:z.cells.size=t.n)
  (hml:xs.length+ys.length≤maxLen) (hb:(xs.length+ys.length)*by_≤140737488355328) (hd:Nat.blt d c.n=true)
  (h:∀ v',J c ((d,v')::L) (.row v' E t (xs++ys)::R) (wpList c.P ops Q rest)) :
  J c L (.row v E t xs::.rowg g cap E' t ys::R) (wpList c.P ops Q (⟨some d,.call { callee:=.builtin .append,args:=#[x,y],argTypes:=#[ty,ty] },T,pos,aft,none⟩::rest)):=Yc rfl fun a w hf hm=>by
 obtain ⟨i,hi1,hi2,hi3,hi4⟩:=he.get
 obtain ⟨I,m,hE,hs⟩:=hm
 obtain ⟨m1,mr,rfl,h1,m2,m3,rfl,h2,h3⟩:=hs
 obtain ⟨rfl,C2,c1,c2,c3,c4,c5⟩:=h2
 have ho:=hE.okw
 obtain ⟨cs,o1,p1,q1⟩:=row_owns h1
 have hle:ys.length*t.n≤C2.size:=by rw [c4];exact Nat.mul_le_mul_right _ c2
 have hone:∀ u∈C2.toList.take (ys.length*t.n),u.oneCell'=true:=all_parts C2.toList t.n ys.length (fun i hi u hu=>wL (c5 i hi) u hu)
 obtain ⟨v',w',hr,o2,g1,_,b1⟩:=run_append_own_at (P:=c.P) w 0 ty T E i z t.n by_ hu hi1 hi4 hi2 hi3 hzs t.n_pos v xs.length cs o1 ⟨g,0,none⟩ ys.length cap (C2.toList.take (ys.length*t.n)) (by simp;omega)
  (fun j u hj=>by
   rw [List.getElem?_take] at hj
   rw [Addr.add_mk,Nat.zero_add,z4 c1]
   split at hj
   ·simpa using hj
   ·cases hj) hone hml hb (Nat.zero_le _)
 have hr':(execOp a.eval ⟨some d,.call { callee:=.builtin .append,args:=#[x,y],argTypes:=#[ty,ty] },T,pos,aft,none⟩).run c.P w=.ok (.value v') w':=by
  simp only [execOp,resolve,invoke,builtin,Sem.run_bind,Sem.run_pure,Result.andThen_ok,List.map_toArray,List.map_cons,List.map_nil,hf.ev hx,hf.ev hy,hr]
 show Oper.upon _ _ _ _ _ ((execOp a.eval _).run c.P w)
 rw [hr']
 have hI:∀ b,I b→w'.heap[b]?=w.heap[b]?:=fun b hb'=>g1.block b (ho.lt b hb') (fun e=>ho.apart b (by simp [(q1 b).1 e.symm]) hb')
 have hrep:∀ k (hk:k<(xs++ys).length),repC w' I t (((cs++C2.toList.take (ys.length*t.n)).drop (k*t.n)).take t.n) (xs++ys)[k]:=fun k hk=>by
  rw [List.length_append] at hk
  by_cases hkx:k<xs.length
  ·rw [part_left o1.1 hkx,List.getElem_append_left hkx]
   exact Zc hI (fun _ h=>h) (p1 k hkx)
  ·have hk2:k-xs.length<ys.length:=by omega
   rw [part_right o1.1 (by omega),WU _ hk2,List.getElem_append_right (by omega)]
   exact Zc hI (fun _ h=>h) (c5 _ hk2)
 -- the new row
 obtain ⟨m1',hsat,hm1⟩:∃ m1',(Asn.row v' E t (xs++ys)).sat w' I m1'∧((m1'=[])∨∃ g',m1'=[g']∧v'.ownBlock=some g'∧g'<w'.heap.size):=by
  obtain ⟨l2,o2⟩:=o2
  rcases o2 with ⟨rfl,hz⟩ | ⟨g',cap',cur,rfl,_,e1,e2,e3,e4,e5⟩
  ·refine ⟨[],.inl ⟨rfl,?_,rfl⟩,.inl rfl⟩
   rw [← List.length_eq_zero_iff,List.length_append];exact hz
  ·refine ⟨[g'],.inr ⟨g',cap',by rw [List.length_append],rfl,cur,e1,by rw [List.length_append];exact e2,e3,e4,fun k hk=>?_⟩,.inr ⟨g',rfl,rfl,?_⟩⟩
   ·have:=hrep k hk
    rw [← e5,WU _ (by rw [List.length_append] at hk;exact hk)] at this
    exact this
   ·rcases Nat.lt_or_ge g' w'.heap.size with h | h
    ·exact h
    ·rw [Array.getElem?_eq_none h] at e1;cases e1
 have eff:Eff w I (m1++[g]) w' I m1':=by
  refine ⟨g1.os,g1.tape,g1.output,g1.size,fun k hk hkm=>g1.block k hk (fun e=>hkm (by simp [(q1 k).1 e.symm])),fun _ h=>h,fun _ h=>.inl h,fun b hb'=>Nat.lt_of_lt_of_le (ho.lt b hb') g1.size,?_,fun b hb'=>?_,fun b hb'=>?_⟩
  ·rcases hm1 with rfl | ⟨g',rfl,_⟩ <;> simp
  ·rcases hm1 with rfl | ⟨g',rfl,e,_⟩
   ·cases hb'
   ·obtain rfl:=List.mem_singleton.1 hb'
    rcases b1 with b1 | b1
    ·exact ho.apart b (by simp [(q1 b).1 (b1 ▸ e)])
    ·intro hI'
     have:=ho.lt b hI'
     rw [e] at b1
     have:=Option.some.inj b1
     omega
  ·rcases hm1 with rfl | ⟨g',rfl,e,hlt⟩
   ·cases hb'
   ·obtain rfl:=List.mem_singleton.1 hb'
    refine ⟨?_,hlt⟩
    rcases b1 with b1 | b1
    ·exact .inl (by simp [(q1 b).1 (b1 ▸ e)])
    ·rw [e] at b1
     have:=Option.some.inj b1
     exact .inr (by omega)
 have ho':Okw w I ((m1++[g])++m3):=by simpa using ho
 have hE':Eff c.w0 c.I0 c.m0 w I ((m1++[g])++m3):=by simpa using hE
 exact h v' _ _ (hf.put (by rw [Nat.blt_eq] at hd;exact hd) _) ⟨I,m1'++m3,hE'.trans (eff.frame ho'),m1',m3,rfl,hsat,Sats.frame ho' eff h3⟩
end ops
end Go.Sep
