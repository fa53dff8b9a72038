/-
 Plain functions of the axes of Variants: values,lists of axes,lists of values in parentheses. No program in sight.
 Plain laws of runes: what is read at a byte,and that no byte of a longer rune is a sign. No program in sight.
 Plain laws for reading and writing values in parentheses,step by step. No program in sight.
 Plain laws of the axes of Variants,step by step. No program in sight.
 Plain laws of the axes of Variants,as the reference asks them. No program in sight.
 Plain law: the text of a valid list of axes is read as this list. No program in sight.
 Plain laws: how reading goes along with lower case;values of an axis and their lower case. No program in sight.
-/
import Derived.Test.YtlniaacdjllonaaGreatGLawA
import Derived.Test.YtlniaacdjllonaaGreatGSep2
namespace Go.Plain
open Go
set_option linter.unusedSimpArgs false
set_option linter.unusedVariables false
abbrev Axs:=Str×List Str
/-! ### Lists whose elements are all fine and all different -/
section dist
variable {α:Type} {ok:α→Bool} {eqv:α→α→Bool} {dd:α} {l:List α} {n i:Nat}
def q8 (ok:α→Bool) (eqv:α→α→Bool) (dd:α) (l:List α) (n:Nat):Bool:=(List.range n).all (fun i=>ok (l.getD i dd)&&!(l.take i).any (eqv (l.getD i dd)))
theorem dist_step:q8 ok eqv dd l (n+1)=(q8 ok eqv dd l n&&(ok (l.getD n dd)&&!(l.take n).any (eqv (l.getD n dd)))):=by
 unfold q8;rw [List.range_succ,List.all_append];simp
theorem Wv (h:i<n) (h2:ok (l.getD i dd)=false∨(l.take i).any (eqv (l.getD i dd))=true):q8 ok eqv dd l n=false:=by
 unfold q8
 rw [List.all_eq_false]
 exact ⟨i,List.mem_range.2 h,by rcases h2 with h2 | h2 <;> rw [h2] <;> simp⟩
theorem dist_go (h:q8 ok eqv dd l n=true) (h1:ok (l.getD n dd)=true) (h2:(l.take n).any (eqv (l.getD n dd))=false):q8 ok eqv dd l (n+1)=true:=by rw [dist_step,h,h1,h2];rfl
theorem any_of {p:α→Bool} {k:Nat} (hk:k<l.length) (hki:k<i) (h:p (l.getD k dd)=true):(l.take i).any p=true:=by
 rw [List.any_eq_true]
 refine ⟨l.getD k dd,?_,h⟩
 rw [Y6 hk,List.mem_take_iff_getElem]
 exact ⟨k,by omega,rfl⟩
end dist
/-! ### Values of an axis -/
def parOk (l:List Prm) (n:Nat):Bool:=q8 (fun p=>!decide (p.1=[113])) (fun p x=>decide (x.1=p.1)) ([],[]) l n
def YB (k:Int) (s:Str):Str×Bool :=
 if k=1 then (lower s,(zf s).2&&parOk (zf s).1.2.2 (zf s).1.2.2.length)
 else if k=2 then (lower s,tagF s)
 else if k=3∨k=4 then (canonical k s,token s&&!decide (s=[42]))
 else (s,((decide (1≤s.length)&&decide (s.length≤100))&&text s)&&decide (trim s=s))
def valueF (axis s:Str):Bool:=(YB (zO axis) s).2
def wg (axis a b:Str):Bool:=decide ((YB (zO axis) a).1=(YB (zO axis) b).1)
theorem form1 {k:Int} {s:Str} (h:k=1):YB k s=(lower s,(zf s).2&&parOk (zf s).1.2.2 (zf s).1.2.2.length):=if_pos h
theorem form2 {k:Int} {s:Str} (h1:¬ k=1) (h:k=2):YB k s=(lower s,tagF s):=by unfold YB;rw [if_neg h1,if_pos h]
theorem form3 {k:Int} {s:Str} (h1:¬ k=1) (h2:¬ k=2) (h:k=3∨k=4):YB k s=(canonical k s,token s&&!decide (s=[42])):=by unfold YB;rw [if_neg h1,if_neg h2,if_pos h]
theorem form5 {k:Int} {s:Str} (h1:¬ k=1) (h2:¬ k=2) (h3:¬ k=3) (h4:¬ k=4):YB k s=(s,((decide (1≤s.length)&&decide (s.length≤100))&&text s)&&decide (trim s=s)):=by unfold YB;rw [if_neg h1,if_neg h2,if_neg (by omega)]
def validV (k:Int) (l:List Str):Bool:=(decide (1≤l.length)&&decide (l.length≤16))&&q8 (fun s=>(YB k s).2) (fun a b=>decide ((YB k b).1=(YB k a).1)) [] l l.length
def Wj (a:Axs):Bool:=(token a.1&&decide (lower a.1=a.1))&&validV (zO a.1) a.2
def wm (l:List Axs):Bool:=(decide (1≤l.length)&&decide (l.length≤4))&&q8 Wj (fun a b=>decide (a.1=b.1)) ([],[]) l l.length
/-! ### Values in parentheses -/
def spB (c:UInt8):Bool:=decide (c=32)
def gsigns:Str:=[32,9,40,41,44,34]
def bareB (c:UInt8):Bool:=!gsigns.any (fun x=>decide (x=c))
def bareLen (s:Str):Nat:=s.findIdx (fun c=>!bareB c)
def quoGo:Nat→Str→Nat
 | _,[]=>0
 | n,[b]=>if b=34 then n+1 else 0
 | n,b::x::r=>if b=92 then quoGo (n+2) r else if b=34 then n+1 else quoGo (n+1) (x::r)
def quoLen (s:Str):Nat:=quoGo 1 (s.drop 1)
def Wn (s:Str):Nat:=if s.getD 0 0=34 then quoLen s else bareLen s
def pieceVal (s:Str):Option Str :=
 if Wn s=0∨(Wn s<s.length∧¬ s.getD (Wn s) 0=32) then none
 else if s.getD 0 0=34 then (if (unq (s.take (Wn s))).2=true then some (unq (s.take (Wn s))).1 else none) else some (s.take (Wn s))
def readGo:Nat→List Str→Str→Option (List Str)
 | 0,_,_=>none
 | f+1,acc,s=>if Zj spB s=[] then some acc else match pieceVal (Zj spB s) with
  | none=>none
  | some v=>readGo f (acc++[v]) ((Zj spB s).drop (Wn (Zj spB s)))
def readF (s:Str):List Str×Bool :=
 if s.length<2∨¬ s.getD 0 0=40∨¬ s.getD (s.length-1) 0=41 then ([],false)
 else ((readGo s.length [] ((s.take (s.length-1)).drop 1)).getD [],(readGo s.length [] ((s.take (s.length-1)).drop 1)).isSome)
def visB (c:UInt8):Bool:=decide (33≤c)&&decide (c≤126)
def plainB (s:Str):Bool:=s.all (fun c=>visB c&&bareB c)&&!decide (s=[])
def writeV (s:Str):Str:=if plainB s=true then s else quote s
def writeF (l:List Str):Str:=([40]++joinS [32] (l.map writeV))++[41]
/-! ### The first element of a kind -/
def idxP {α:Type} (q:α→Bool) (l:List α):Int:=if l.findIdx q<l.length then (l.findIdx q:Int) else -1
theorem Wu {α:Type} {q:α→Bool} {l:List α} {i:Nat} {dd:α} (h:i<l.length) (h0:(l.take i).any q=false) (h1:q (l.getD i dd)=true):idxP q l=(i:Int):=by
 have e:l.findIdx q=i:=by
  rw [List.findIdx_eq h]
  rw [Y6 h] at h1
  refine ⟨h1,fun j hj=>?_⟩
  have:=List.any_eq_false.1 h0 l[j] (List.mem_take_iff_getElem.2 ⟨j,by omega,rfl⟩)
  simpa using this
 rw [idxP,e,if_pos h]
theorem ww {α:Type} {q:α→Bool} {l:List α} (h:l.any q=false):idxP q l=-1:=by
 rw [idxP,if_neg]
 intro e
 have:=List.findIdx_lt_length.1 e
 obtain ⟨x,hx,h1⟩:=this
 exact absurd h1 (by simpa using List.any_eq_false.1 h x hx)
theorem idxP_ge {α:Type} (q:α→Bool) (l:List α):decide ((0:Int)≤idxP q l)=l.any q:=by
 unfold idxP
 cases h:l.any q with
 | true =>
  have:l.findIdx q<l.length:=List.findIdx_lt_length.2 (by simpa using h)
  rw [if_pos this];simp
 | false =>
  have:¬ l.findIdx q<l.length:=fun e=>by
   obtain ⟨x,hx,h1⟩:=List.findIdx_lt_length.1 e
   exact absurd h1 (by simpa using List.any_eq_false.1 h x hx)
  rw [if_neg this];simp
/-! ### The first byte out of a list of signs,rune by rune -/
def idxR (r:Int):Int:=if 0≤r∧r<128 then idx gsigns (UInt8.ofNat r.toNat) else -1
/-! ### The fields -/
def sVariants:Str:=[86,97,114,105,97,110,116,115]
def WE:Str:=[86,97,114,105,97,110,116,45,75,101,121]
def axisT (a:Axs):Str:=(a.1++[61])++writeF a.2
def axesT (l:List Axs):Str:=joinS [44,32] (l.map axisT)
def formatV (l:List Axs):Str:=if wm l=true then axesT l else []
def axOne (m:Str):Option Axs :=
 if (pos m 61<m.length∧token (m.take (pos m 61))=true)∧(readF (m.drop (pos m 61+1))).2=true then some (lower (m.take (pos m 61)),(readF (m.drop (pos m 61+1))).1) else none
def axsGo:List Axs→List Str→Option (List Axs)
 | acc,[]=>some acc
 | acc,m::r=>match axOne m with
  | none=>none
  | some a=>axsGo (acc++[a]) r
def parseV (l:List Fld):List Axs×Int :=
 if (getF l sVariants).length=0 then ([],12) else match axsGo [] (allF l sVariants) with
  | none=>([],1)
  | some out=>if wm out=true then (out,0) else ([],11)
end Go.Plain
namespace Go.Plain
open Go Go.Sep
set_option linter.unusedSimpArgs false
set_option linter.unusedVariables false
def sgB (c:UInt8):Bool:=!bareB c
/-! ### Runes of more than one byte,as text -/
end Go.Plain
namespace Go.Plain
open Go Go.Sep
set_option linter.unusedSimpArgs false
set_option linter.unusedVariables false
/-! ### The quoted string at the beginning -/
section quo
variable {s:Str} {i X:Nat}
end quo
/-! ### Reading -/
section go
variable {t u:Str} {acc:List Str} {X:Option (List Str)} {f:Nat}
end go
/-! ### Reading by places -/
section at_
variable {s:Str} {acc:List Str} {X:Option (List Str)} {f i:Nat}
end at_
/-! ### Writing -/
end Go.Plain
namespace Go.Plain
open Go Go.Sep
set_option linter.unusedSimpArgs false
set_option linter.unusedVariables false
theorem parOk_step (l:List Prm) (n:Nat):parOk l (n+1)=(parOk l n&&(!decide ((l.getD n ([],[])).1=[113])&&!(l.take n).any (fun x=>decide (x.1=(l.getD n ([],[])).1)))):=dist_step
theorem any_swap {l:List Prm} {p:Prm}:(l.any fun x=>decide (p.1=x.1))=l.any fun x=>decide (x.1=p.1):=by
 congr 1;funext x;exact decide_eq_decide.2 eq_comm
theorem form0 {k:Int} {s:Str} (h1:¬ k=1) (h2:¬ k=2) (h3:¬ (k=3∨k=4)):YB k s=YB 0 s:=by
 rw [form5 h1 h2 (by omega) (by omega),form5 (by decide) (by decide) (by decide) (by decide)]
/-! ### What was seen -/
theorem seen_look {g:Str→Str} {k:Str}:∀ L:List Str,zk (L.map fun s=>(g s,true)) k=if (L.any fun b=>decide (g b=k))=true then some true else none
 | []=>rfl
 | x::L=>by
  rw [List.map_cons,zk,List.any_cons,seen_look L]
  by_cases h:k=g x
  ·subst h;simp
  ·rw [if_neg h,decide_eq_false (fun e=>h e.symm),Bool.false_or]
theorem seen_yes {ms:List (Str×Bool)} {g:Str→Str} {k:Str} {L:List Str} (e:ms=L.map fun s=>(g s,true)):(zk ms k).getD false=L.any fun b=>decide (g b=k):=by
 rw [e,seen_look];cases L.any fun b=>decide (g b=k) <;> simp
theorem seen_new {ms:List (Str×Bool)} {g:Str→Str} {k:Str} {L:List Str} (e:ms=L.map fun s=>(g s,true)) (h:(zk ms k).getD false=false):zk ms k=none:=by
 rw [seen_yes e] at h
 rw [e,seen_look,h];simp
theorem mapT_step {β:Type} {g:Str→β} {L:List Str} {i:Nat} (h:i<L.length):(L.take (i+1)).map g=(L.take i).map g++[g (L.getD i [])]:=by
 rw [List.take_succ_eq_append_getElem h,List.map_append,Y6 h];rfl
/-! ### Same,Value -/
theorem same_fold {axis a b:Str} (h:zO axis=1∨zO axis=2):wg axis a b=fold a b:=by
 have e:∀ s,(YB (zO axis) s).1=lower s:=fun s=>by
  rcases h with h | h
  ·rw [form1 h]
  ·rw [form2 (by omega) h]
 rw [wg,e,e]
 by_cases hl:lower a=lower b
 ·rw [decide_eq_true hl,fold_iff.2 hl]
 ·rw [decide_eq_false hl,fold_false.2 hl]
theorem same_canon {axis a b:Str} (h:zO axis=3∨zO axis=4):wg axis a b=decide (canonical (zO axis) a=canonical (zO axis) b):=by
 rw [wg,form3 (by omega) (by omega) h,form3 (by omega) (by omega) h]
theorem same_id {axis a b:Str} (h1:¬ zO axis=1) (h2:¬ zO axis=2) (h3:¬ zO axis=3) (h4:¬ zO axis=4):wg axis a b=decide (a=b):=by
 rw [wg,form5 h1 h2 h3 h4,form5 h1 h2 h3 h4]
theorem same_comm (axis a b:Str):wg axis a b=wg axis b a:=by unfold wg;exact decide_eq_decide.2 eq_comm
theorem same_alt {axis a:Str} {L:List Str}:(L.any fun b=>wg axis a b)=L.any fun b=>decide ((YB (zO axis) b).1=(YB (zO axis) a).1):=by
 congr 1;funext b;rw [same_comm];rfl
/-! ### Lists of axes -/
theorem validV_no {k:Int} {l:List Str} (h:l.length<1∨16<l.length):validV k l=false:=by
 unfold validV
 rcases h with h | h
 ·rw [decide_eq_false (show ¬ 1≤l.length by omega)];rfl
 ·rw [decide_eq_false (show ¬ l.length≤16 by omega)];simp
theorem validV_yes {k:Int} {l:List Str} (h:1≤l.length∧l.length≤16):validV k l=q8 (fun s=>(YB k s).2) (fun a b=>decide ((YB k b).1=(YB k a).1)) [] l l.length:=by
 unfold validV
 rw [decide_eq_true h.1,decide_eq_true h.2];rfl
theorem validL_no {l:List Axs} (h:l.length<1∨4<l.length):wm l=false:=by
 unfold wm
 rcases h with h | h
 ·rw [decide_eq_false (show ¬ 1≤l.length by omega)];rfl
 ·rw [decide_eq_false (show ¬ l.length≤4 by omega)];simp
theorem wl {l:List Axs} (h:1≤l.length∧l.length≤4):wm l=q8 Wj (fun a b=>decide (a.1=b.1)) ([],[]) l l.length:=by
 unfold wm
 rw [decide_eq_true h.1,decide_eq_true h.2];rfl
theorem dist_done {α:Type} {ok:α→Bool} {eqv:α→α→Bool} {dd:α} {l:List α} {i:Nat} (hi:i≤l.length) (h:l.length≤i) (e:q8 ok eqv dd l i=true):q8 ok eqv dd l l.length=true:=by
 rw [show l.length=i by omega];exact e
theorem drop0 {α:Type} {l:List α}:l.drop 0=l:=List.drop_zero
/-! ### Fields -/
section
variable {M:List Str} {acc:List Axs} {X:Option (List Axs)} {i:Nat}
end
/-! ### Bounds -/
def okA (a:Axs):Bool:=!(decide (100<a.1.length)||!Wo a.2)
def keepA (l:List Axs):Bool:=(l.take 7).all okA&&decide (l.length≤6)
theorem keepA_len {l:List Axs} (h:keepA l=true):l.length≤6:=by
 unfold keepA at h;simp only [Bool.and_eq_true,decide_eq_true_eq] at h;exact h.2
theorem keepA_mem {l:List Axs} (h:keepA l=true):∀ a∈l,a.1.length≤100∧a.2.length≤20∧∀ x∈a.2,x.length≤100:=fun a ha=>by
 have hl:=keepA_len h
 unfold keepA at h
 simp only [Bool.and_eq_true,decide_eq_true_eq] at h
 have h1:=List.all_eq_true.1 h.1 a (by rw [List.take_of_length_le (by omega)];exact ha)
 unfold okA at h1
 simp only [Bool.not_eq_true',Bool.or_eq_false_iff,decide_eq_false_iff_not,Bool.not_eq_false'] at h1
 exact ⟨by omega,keepS_len h1.2,keepS_mem h1.2⟩
def smallA (l:List Axs):Prop:=l.length≤1000∧∀ a∈l,a.1.length≤2000∧a.2.length≤1000000∧∀ x∈a.2,x.length≤9000
end Go.Plain
namespace Go.Plain
open Go Go.Sep
set_option linter.unusedSimpArgs false
set_option linter.unusedVariables false
theorem validA_no {a:Axs} (h:((token a.1=false∨¬ lower a.1=a.1)∨a.2.length<1)∨16<a.2.length):Wj a=false:=by
 unfold Wj
 rcases h with ((h | h) | h) | h
 ·rw [h];rfl
 ·rw [decide_eq_false h];simp
 ·rw [validV_no (.inl h)];simp
 ·rw [validV_no (.inr h)];simp
theorem validA_yes {a:Axs} (h:((token a.1=true∧lower a.1=a.1)∧¬ a.2.length<1)∧¬ 16<a.2.length):Wj a=q8 (fun s=>(YB (zO a.1) s).2) (fun x y=>decide ((YB (zO a.1) y).1=(YB (zO a.1) x).1)) [] a.2 a.2.length:=by
 unfold Wj
 rw [h.1.1.1,decide_eq_true h.1.1.2,validV_yes (by omega)];rfl
theorem value_1 {axis s:Str} (h:zO axis=1):valueF axis s=((zf s).2&&parOk (zf s).1.2.2 (zf s).1.2.2.length):=by rw [valueF,form1 h]
theorem value_2 {axis s:Str} (h:zO axis=2):valueF axis s=tagF s:=by rw [valueF,form2 (by omega) h]
theorem value_3 {axis s:Str} (h:zO axis=3∨zO axis=4):valueF axis s=(token s&&!decide (s=[42])):=by rw [valueF,form3 (by omega) (by omega) h]
theorem value_5 {axis s:Str} (h1:¬ zO axis=1) (h2:¬ zO axis=2) (h3:¬ zO axis=3) (h4:¬ zO axis=4):valueF axis s=(((decide (1≤s.length)&&decide (s.length≤100))&&text s)&&decide (trim s=s)):=by rw [valueF,form5 h1 h2 h3 h4]
end Go.Plain
namespace Go.Plain
open Go Go.Sep
set_option linter.unusedSimpArgs false
set_option linter.unusedVariables false
/-! ### Values are texts -/
/-! ### Reading what was written -/
def tailW (r:List Str):Str:=r.flatMap fun v=>32::writeV v
/-! ### Axes -/
end Go.Plain
namespace Go.Plain
open Go Go.Sep
set_option linter.unusedSimpArgs false
set_option linter.unusedVariables false
def letB (c:UInt8):Bool:=(decide (65≤c)&&decide (c≤90))||(decide (97≤c)&&decide (c≤122))
def lowV (p:Prm):Prm:=(p.1,lower p.2)
end Go.Plain
