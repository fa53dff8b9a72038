/-
 Plain functions of the axes of Variants: values,lists of axes,lists of values in parentheses. No program in sight.
 Plain laws of runes: what is read at a byte,and that no byte of a longer rune is a sign. No program in sight.
 Plain laws for reading and writing values in parentheses,step by step. No program in sight.
 Plain laws of the axes of Variants,step by step. No program in sight.
 Plain laws of the axes of Variants,as the reference asks them. No program in sight.
 Plain law: the text of a valid list of axes is read as this list. No program in sight.
 Plain laws: how reading goes along with lower case;values of an axis and their lower case. No program in sight.
-/
import Derived.Test.YtfcidkjpebalkaaGreatDoorALawA
import Derived.Test.YtfcidkjpebalkaaGreatDoorASep2
namespace Go.Plain
open Go
set_option linter.unusedSimpArgs false
set_option linter.unusedVariables false
abbrev Axs:=Str×List Str
/-! ### Lists whose elements are all fine and all different -/
section dist
variable {α:Type} {ok:α→Bool} {eqv:α→α→Bool} {dd:α} {l:List α} {n i:Nat}
def ws (ok:α→Bool) (eqv:α→α→Bool) (dd:α) (l:List α) (n:Nat):Bool:=(List.range n).all (fun i=>ok (l.getD i dd)&&!(l.take i).any (eqv (l.getD i dd)))
theorem dist_zero:ws ok eqv dd l 0=true:=rfl
theorem dist_step:ws ok eqv dd l (n+1)=(ws ok eqv dd l n&&(ok (l.getD n dd)&&!(l.take n).any (eqv (l.getD n dd)))):=by
 unfold ws;rw [List.range_succ,List.all_append];simp
theorem Qy (h:i<n) (h2:ok (l.getD i dd)=false∨(l.take i).any (eqv (l.getD i dd))=true):ws ok eqv dd l n=false:=by
 unfold ws
 rw [List.all_eq_false]
 exact ⟨i,List.mem_range.2 h,by rcases h2 with h2 | h2 <;> rw [h2] <;> simp⟩
theorem dist_go (h:ws ok eqv dd l n=true) (h1:ok (l.getD n dd)=true) (h2:(l.take n).any (eqv (l.getD n dd))=false):ws ok eqv dd l (n+1)=true:=by rw [dist_step,h,h1,h2];rfl
theorem dist_at (h:ws ok eqv dd l n=true) (hi:i<n):ok (l.getD i dd)=true∧(l.take i).any (eqv (l.getD i dd))=false:=by
 unfold ws at h
 have:=List.all_eq_true.1 h i (List.mem_range.2 hi)
 simpa using this
theorem any_of {p:α→Bool} {k:Nat} (hk:k<l.length) (hki:k<i) (h:p (l.getD k dd)=true):(l.take i).any p=true:=by
 rw [List.any_eq_true]
 refine ⟨l.getD k dd,?_,h⟩
 rw [zw hk,List.mem_take_iff_getElem]
 exact ⟨k,by omega,rfl⟩
end dist
/-! ### Values of an axis -/
def parOk (l:List Prm) (n:Nat):Bool:=ws (fun p=>!decide (p.1=[113])) (fun p x=>decide (x.1=p.1)) ([],[]) l n
def Yy (k:Int) (s:Str):Str×Bool :=
 if k=1 then (lower s,(y4 s).2&&parOk (y4 s).1.2.2 (y4 s).1.2.2.length)
 else if k=2 then (lower s,tagF s)
 else if k=3∨k=4 then (canonical k s,token s&&!decide (s=[42]))
 else (s,((decide (1≤s.length)&&decide (s.length≤100))&&text s)&&decide (trim s=s))
def wV (axis s:Str):Bool:=(Yy (ze axis) s).2
def qf (axis a b:Str):Bool:=decide ((Yy (ze axis) a).1=(Yy (ze axis) b).1)
theorem form1 {k:Int} {s:Str} (h:k=1):Yy k s=(lower s,(y4 s).2&&parOk (y4 s).1.2.2 (y4 s).1.2.2.length):=if_pos h
theorem form2 {k:Int} {s:Str} (h1:¬ k=1) (h:k=2):Yy k s=(lower s,tagF s):=by unfold Yy;rw [if_neg h1,if_pos h]
theorem form3 {k:Int} {s:Str} (h1:¬ k=1) (h2:¬ k=2) (h:k=3∨k=4):Yy k s=(canonical k s,token s&&!decide (s=[42])):=by unfold Yy;rw [if_neg h1,if_neg h2,if_pos h]
theorem form5 {k:Int} {s:Str} (h1:¬ k=1) (h2:¬ k=2) (h3:¬ k=3) (h4:¬ k=4):Yy k s=(s,((decide (1≤s.length)&&decide (s.length≤100))&&text s)&&decide (trim s=s)):=by unfold Yy;rw [if_neg h1,if_neg h2,if_neg (by omega)]
def wW (k:Int) (l:List Str):Bool:=(decide (1≤l.length)&&decide (l.length≤16))&&ws (fun s=>(Yy k s).2) (fun a b=>decide ((Yy k b).1=(Yy k a).1)) [] l l.length
def YM (a:Axs):Bool:=(token a.1&&decide (lower a.1=a.1))&&wW (ze a.1) a.2
def YQ (l:List Axs):Bool:=(decide (1≤l.length)&&decide (l.length≤4))&&ws YM (fun a b=>decide (a.1=b.1)) ([],[]) l l.length
/-! ### Values in parentheses -/
def spB (c:UInt8):Bool:=decide (c=32)
def gsigns:Str:=[32,9,40,41,44,34]
def bareB (c:UInt8):Bool:=!gsigns.any (fun x=>decide (x=c))
def bareLen (s:Str):Nat:=s.findIdx (fun c=>!bareB c)
def quoGo:Nat→Str→Nat
 | _,[]=>0
 | n,[b]=>if b=34 then n+1 else 0
 | n,b::x::r=>if b=92 then quoGo (n+2) r else if b=34 then n+1 else quoGo (n+1) (x::r)
def quoLen (s:Str):Nat:=quoGo 1 (s.drop 1)
def Qv (s:Str):Nat:=if s.getD 0 0=34 then quoLen s else bareLen s
def pieceVal (s:Str):Option Str :=
 if Qv s=0∨(Qv s<s.length∧¬ s.getD (Qv s) 0=32) then none
 else if s.getD 0 0=34 then (if (unq (s.take (Qv s))).2=true then some (unq (s.take (Qv s))).1 else none) else some (s.take (Qv s))
def readGo:Nat→List Str→Str→Option (List Str)
 | 0,_,_=>none
 | f+1,acc,s=>if Zq spB s=[] then some acc else match pieceVal (Zq spB s) with
  | none=>none
  | some v=>readGo f (acc++[v]) ((Zq spB s).drop (Qv (Zq spB s)))
def readF (s:Str):List Str×Bool :=
 if s.length<2∨¬ s.getD 0 0=40∨¬ s.getD (s.length-1) 0=41 then ([],false)
 else ((readGo s.length [] ((s.take (s.length-1)).drop 1)).getD [],(readGo s.length [] ((s.take (s.length-1)).drop 1)).isSome)
def visB (c:UInt8):Bool:=decide (33≤c)&&decide (c≤126)
def plainB (s:Str):Bool:=s.all (fun c=>visB c&&bareB c)&&!decide (s=[])
def writeV (s:Str):Str:=if plainB s=true then s else quote s
def writeF (l:List Str):Str:=([40]++Yt [32] (l.map writeV))++[41]
/-! ### The first element of a kind -/
def idxP {α:Type} (q:α→Bool) (l:List α):Int:=if l.findIdx q<l.length then (l.findIdx q:Int) else -1
theorem Vv {α:Type} {q:α→Bool} {l:List α} {i:Nat} {dd:α} (h:i<l.length) (h0:(l.take i).any q=false) (h1:q (l.getD i dd)=true):idxP q l=(i:Int):=by
 have e:l.findIdx q=i:=by
  rw [List.findIdx_eq h]
  rw [zw h] at h1
  refine ⟨h1,fun j hj=>?_⟩
  have:=List.any_eq_false.1 h0 l[j] (List.mem_take_iff_getElem.2 ⟨j,by omega,rfl⟩)
  simpa using this
 rw [idxP,e,if_pos h]
theorem Qk {α:Type} {q:α→Bool} {l:List α} (h:l.any q=false):idxP q l=-1:=by
 rw [idxP,if_neg]
 intro e
 have:=List.findIdx_lt_length.1 e
 obtain ⟨x,hx,h1⟩:=this
 exact absurd h1 (by simpa using List.any_eq_false.1 h x hx)
theorem idxP_ge {α:Type} (q:α→Bool) (l:List α):decide ((0:Int)≤idxP q l)=l.any q:=by
 unfold idxP
 cases h:l.any q with
 | true =>
  have:l.findIdx q<l.length:=List.findIdx_lt_length.2 (by simpa using h)
  rw [if_pos this];simp
 | false =>
  have:¬ l.findIdx q<l.length:=fun e=>by
   obtain ⟨x,hx,h1⟩:=List.findIdx_lt_length.1 e
   exact absurd h1 (by simpa using List.any_eq_false.1 h x hx)
  rw [if_neg this];simp
/-! ### The first byte out of a list of signs,rune by rune -/
def idxR (r:Int):Int:=if 0≤r∧r<128 then idx gsigns (UInt8.ofNat r.toNat) else -1
/-! ### The fields -/
def sVariants:Str:=[86,97,114,105,97,110,116,115]
def QO:Str:=[86,97,114,105,97,110,116,45,75,101,121]
def axisT (a:Axs):Str:=(a.1++[61])++writeF a.2
def axesT (l:List Axs):Str:=Yt [44,32] (l.map axisT)
def formatV (l:List Axs):Str:=if YQ l=true then axesT l else []
def axOne (m:Str):Option Axs :=
 if (pos m 61<m.length∧token (m.take (pos m 61))=true)∧(readF (m.drop (pos m 61+1))).2=true then some (lower (m.take (pos m 61)),(readF (m.drop (pos m 61+1))).1) else none
def axsGo:List Axs→List Str→Option (List Axs)
 | acc,[]=>some acc
 | acc,m::r=>match axOne m with
  | none=>none
  | some a=>axsGo (acc++[a]) r
def parseV (l:List Fld):List Axs×Int :=
 if (getF l sVariants).length=0 then ([],12) else match axsGo [] (allF l sVariants) with
  | none=>([],1)
  | some out=>if YQ out=true then (out,0) else ([],11)
end Go.Plain
namespace Go.Plain
open Go Go.Sep
set_option linter.unusedSimpArgs false
set_option linter.unusedVariables false
def sgB (c:UInt8):Bool:=!bareB c
/-! ### Runes of more than one byte,as text -/
end Go.Plain
namespace Go.Plain
open Go Go.Sep
set_option linter.unusedSimpArgs false
set_option linter.unusedVariables false
/-! ### The quoted string at the beginning -/
section quo
variable {s:Str} {i X:Nat}
end quo
/-! ### Reading -/
section go
variable {t u:Str} {acc:List Str} {X:Option (List Str)} {f:Nat}
end go
/-! ### Reading by places -/
section at_
variable {s:Str} {acc:List Str} {X:Option (List Str)} {f i:Nat}
end at_
/-! ### Writing -/
end Go.Plain
namespace Go.Plain
open Go Go.Sep
set_option linter.unusedSimpArgs false
set_option linter.unusedVariables false
theorem parOk_step (l:List Prm) (n:Nat):parOk l (n+1)=(parOk l n&&(!decide ((l.getD n ([],[])).1=[113])&&!(l.take n).any (fun x=>decide (x.1=(l.getD n ([],[])).1)))):=dist_step
theorem any_swap {l:List Prm} {p:Prm}:(l.any fun x=>decide (p.1=x.1))=l.any fun x=>decide (x.1=p.1):=by
 congr 1;funext x;exact decide_eq_decide.2 eq_comm
theorem form0 {k:Int} {s:Str} (h1:¬ k=1) (h2:¬ k=2) (h3:¬ (k=3∨k=4)):Yy k s=Yy 0 s:=by
 rw [form5 h1 h2 (by omega) (by omega),form5 (by decide) (by decide) (by decide) (by decide)]
/-! ### What was seen -/
theorem seen_look {g:Str→Str} {k:Str}:∀ L:List Str,yz (L.map fun s=>(g s,true)) k=if (L.any fun b=>decide (g b=k))=true then some true else none
 | []=>rfl
 | x::L=>by
  rw [List.map_cons,yz,List.any_cons,seen_look L]
  by_cases h:k=g x
  ·subst h;simp
  ·rw [if_neg h,decide_eq_false (fun e=>h e.symm),Bool.false_or]
theorem seen_yes {ms:List (Str×Bool)} {g:Str→Str} {k:Str} {L:List Str} (e:ms=L.map fun s=>(g s,true)):(yz ms k).getD false=L.any fun b=>decide (g b=k):=by
 rw [e,seen_look];cases L.any fun b=>decide (g b=k) <;> simp
theorem seen_new {ms:List (Str×Bool)} {g:Str→Str} {k:Str} {L:List Str} (e:ms=L.map fun s=>(g s,true)) (h:(yz ms k).getD false=false):yz ms k=none:=by
 rw [seen_yes e] at h
 rw [e,seen_look,h];simp
theorem mapT_step {β:Type} {g:Str→β} {L:List Str} {i:Nat} (h:i<L.length):(L.take (i+1)).map g=(L.take i).map g++[g (L.getD i [])]:=by
 rw [List.take_succ_eq_append_getElem h,List.map_append,zw h];rfl
/-! ### Same,Value -/
theorem same_fold {axis a b:Str} (h:ze axis=1∨ze axis=2):qf axis a b=fold a b:=by
 have e:∀ s,(Yy (ze axis) s).1=lower s:=fun s=>by
  rcases h with h | h
  ·rw [form1 h]
  ·rw [form2 (by omega) h]
 rw [qf,e,e]
 by_cases hl:lower a=lower b
 ·rw [decide_eq_true hl,fold_iff.2 hl]
 ·rw [decide_eq_false hl,fold_false.2 hl]
theorem same_canon {axis a b:Str} (h:ze axis=3∨ze axis=4):qf axis a b=decide (canonical (ze axis) a=canonical (ze axis) b):=by
 rw [qf,form3 (by omega) (by omega) h,form3 (by omega) (by omega) h]
theorem same_id {axis a b:Str} (h1:¬ ze axis=1) (h2:¬ ze axis=2) (h3:¬ ze axis=3) (h4:¬ ze axis=4):qf axis a b=decide (a=b):=by
 rw [qf,form5 h1 h2 h3 h4,form5 h1 h2 h3 h4]
theorem same_comm (axis a b:Str):qf axis a b=qf axis b a:=by unfold qf;exact decide_eq_decide.2 eq_comm
theorem same_alt {axis a:Str} {L:List Str}:(L.any fun b=>qf axis a b)=L.any fun b=>decide ((Yy (ze axis) b).1=(Yy (ze axis) a).1):=by
 congr 1;funext b;rw [same_comm];rfl
/-! ### Lists of axes -/
theorem validV_no {k:Int} {l:List Str} (h:l.length<1∨16<l.length):wW k l=false:=by
 unfold wW
 rcases h with h | h
 ·rw [decide_eq_false (show ¬ 1≤l.length by omega)];rfl
 ·rw [decide_eq_false (show ¬ l.length≤16 by omega)];simp
theorem validV_yes {k:Int} {l:List Str} (h:1≤l.length∧l.length≤16):wW k l=ws (fun s=>(Yy k s).2) (fun a b=>decide ((Yy k b).1=(Yy k a).1)) [] l l.length:=by
 unfold wW
 rw [decide_eq_true h.1,decide_eq_true h.2];rfl
theorem validL_no {l:List Axs} (h:l.length<1∨4<l.length):YQ l=false:=by
 unfold YQ
 rcases h with h | h
 ·rw [decide_eq_false (show ¬ 1≤l.length by omega)];rfl
 ·rw [decide_eq_false (show ¬ l.length≤4 by omega)];simp
theorem wK {l:List Axs} (h:1≤l.length∧l.length≤4):YQ l=ws YM (fun a b=>decide (a.1=b.1)) ([],[]) l l.length:=by
 unfold YQ
 rw [decide_eq_true h.1,decide_eq_true h.2];rfl
theorem dist_done {α:Type} {ok:α→Bool} {eqv:α→α→Bool} {dd:α} {l:List α} {i:Nat} (hi:i≤l.length) (h:l.length≤i) (e:ws ok eqv dd l i=true):ws ok eqv dd l l.length=true:=by
 rw [show l.length=i by omega];exact e
theorem validL_len {l:List Axs} (h:YQ l=true):1≤l.length∧l.length≤4:=by
 unfold YQ at h
 simp only [Bool.and_eq_true,decide_eq_true_eq] at h
 exact h.1
theorem drop0 {α:Type} {l:List α}:l.drop 0=l:=List.drop_zero
/-! ### Fields -/
section
variable {M:List Str} {acc:List Axs} {X:Option (List Axs)} {i:Nat}
end
/-! ### Bounds -/
def okA (a:Axs):Bool:=!(decide (100<a.1.length)||!Wm a.2)
def QV (l:List Axs):Bool:=(l.take 7).all okA&&decide (l.length≤6)
theorem keepA_len {l:List Axs} (h:QV l=true):l.length≤6:=by
 unfold QV at h;simp only [Bool.and_eq_true,decide_eq_true_eq] at h;exact h.2
theorem keepA_mem {l:List Axs} (h:QV l=true):∀ a∈l,a.1.length≤100∧a.2.length≤20∧∀ x∈a.2,x.length≤100:=fun a ha=>by
 have hl:=keepA_len h
 unfold QV at h
 simp only [Bool.and_eq_true,decide_eq_true_eq] at h
 have h1:=List.all_eq_true.1 h.1 a (by rw [List.take_of_length_le (by omega)];exact ha)
 unfold okA at h1
 simp only [Bool.not_eq_true',Bool.or_eq_false_iff,decide_eq_false_iff_not,Bool.not_eq_false'] at h1
 exact ⟨by omega,keepS_len h1.2,keepS_mem h1.2⟩
def smallA (l:List Axs):Prop:=l.length≤1000∧∀ a∈l,a.1.length≤2000∧a.2.length≤1000000∧∀ x∈a.2,x.length≤9000
end Go.Plain
namespace Go.Plain
open Go Go.Sep
set_option linter.unusedSimpArgs false
set_option linter.unusedVariables false
theorem validA_no {a:Axs} (h:((token a.1=false∨¬ lower a.1=a.1)∨a.2.length<1)∨16<a.2.length):YM a=false:=by
 unfold YM
 rcases h with ((h | h) | h) | h
 ·rw [h];rfl
 ·rw [decide_eq_false h];simp
 ·rw [validV_no (.inl h)];simp
 ·rw [validV_no (.inr h)];simp
theorem validA_yes {a:Axs} (h:((token a.1=true∧lower a.1=a.1)∧¬ a.2.length<1)∧¬ 16<a.2.length):YM a=ws (fun s=>(Yy (ze a.1) s).2) (fun x y=>decide ((Yy (ze a.1) y).1=(Yy (ze a.1) x).1)) [] a.2 a.2.length:=by
 unfold YM
 rw [h.1.1.1,decide_eq_true h.1.1.2,validV_yes (by omega)];rfl
theorem value_1 {axis s:Str} (h:ze axis=1):wV axis s=((y4 s).2&&parOk (y4 s).1.2.2 (y4 s).1.2.2.length):=by rw [wV,form1 h]
theorem value_2 {axis s:Str} (h:ze axis=2):wV axis s=tagF s:=by rw [wV,form2 (by omega) h]
theorem value_3 {axis s:Str} (h:ze axis=3∨ze axis=4):wV axis s=(token s&&!decide (s=[42])):=by rw [wV,form3 (by omega) (by omega) h]
theorem value_5 {axis s:Str} (h1:¬ ze axis=1) (h2:¬ ze axis=2) (h3:¬ ze axis=3) (h4:¬ ze axis=4):wV axis s=(((decide (1≤s.length)&&decide (s.length≤100))&&text s)&&decide (trim s=s)):=by rw [wV,form5 h1 h2 h3 h4]
end Go.Plain
namespace Go.Plain
open Go Go.Sep
set_option linter.unusedSimpArgs false
set_option linter.unusedVariables false
/-! ### Values are texts -/
/-! ### Reading what was written -/
def tailW (r:List Str):Str:=r.flatMap fun v=>32::writeV v
/-! ### Axes -/
theorem valid_all {l:List Axs} (h:YQ l=true):∀ a∈l,YM a=true:=fun a ha=>by
 unfold YQ at h
 simp only [Bool.and_eq_true] at h
 obtain ⟨i,hi,rfl⟩:=List.getElem_of_mem ha
 have:=(dist_at h.2 hi).1
 rwa [zw hi] at this
end Go.Plain
namespace Go.Plain
open Go Go.Sep
set_option linter.unusedSimpArgs false
set_option linter.unusedVariables false
def letB (c:UInt8):Bool:=(decide (65≤c)&&decide (c≤90))||(decide (97≤c)&&decide (c≤122))
def lowV (p:Prm):Prm:=(p.1,lower p.2)
theorem same_self (axis x:Str):qf axis x x=true:=decide_eq_true rfl
end Go.Plain
