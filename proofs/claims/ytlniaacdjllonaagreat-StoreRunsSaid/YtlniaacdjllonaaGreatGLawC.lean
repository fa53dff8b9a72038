/-
 Plain functions of the keys of Variant-Key,step by step. No program in sight.
 Plain laws of the keys of Variant-Key: every key that is read has values of the axes;what is written is read again. No program in sight.
-/
import Derived.Test.YtlniaacdjllonaaGreatGLawB
namespace Go.Plain
open Go Go.Sep
set_option linter.unusedSimpArgs false
set_option linter.unusedVariables false
def axAt (axes:List Axs) (i:Nat):Axs:=axes.getD i ([],[])
def atF (axes:List Axs) (key:List Str) (i:Nat):Int:=idxP (fun v=>wg (axes.getD i ([],[])).1 v (key.getD i [])) (axes.getD i ([],[])).2
def okAt (axes:List Axs) (key:List Str) (i:Nat):Bool:=decide (0≤atF axes key i)
def valAt (axes:List Axs) (key:List Str) (i:Nat):Str:=(axes.getD i ([],[])).2.getD (atF axes key i).toNat []
def resB (axes:List Axs) (key:List Str):Bool:=decide (key.length=axes.length)&&(List.range axes.length).all (okAt axes key)
def resV (axes:List Axs) (key:List Str):List Str:=(List.range axes.length).map (valAt axes key)
def resR (axes:List Axs) (key:List Str):List Str:=if resB axes key=true then resV axes key else []
def addK (out:List (List Str)) (k:List Str):List (List Str):=if (out.any fun x=>decide (x=k))=true then out else out++[k]
def dedK (l:List (List Str)):List (List Str):=l.foldl addK []
def readM (M:List Str):List (List Str):=M.map fun m=>(readF m).1
def parseK (l:List Fld) (axes:List Axs):List (List Str)×Int :=
 if wm axes=false then ([],10)
 else if (allF l WE).length=0 then ([],12)
 else if ((allF l WE).all fun m=>(readF m).2)=false then ([],1)
 else if ((readM (allF l WE)).all (resB axes))=false then ([],11)
 else (dedK ((readM (allF l WE)).map (resV axes)),0)
def keysT (keys:List (List Str)):Str:=joinS [44,32] (keys.map writeF)
def sameAt (axes:List Axs) (a b:List Str) (i:Nat):Bool:=wg (axes.getD i ([],[])).1 (a.getD i []) (b.getD i [])
def wW (axes:List Axs) (a b:List Str):Bool:=(decide (a.length=axes.length)&&decide (b.length=axes.length))&&(List.range axes.length).all (sameAt axes a b)
/-! ### Steps -/
theorem range_all {p:Nat→Bool} {n:Nat} (h:(List.range n).all p=true) (h1:p n=true):(List.range (n+1)).all p=true:=by
 rw [List.range_succ,List.all_append,h];simp [h1]
theorem range_bad {p:Nat→Bool} {n i:Nat} (hi:i<n) (h1:p i=false):(List.range n).all p=false:=by
 rw [List.all_eq_false];exact ⟨i,List.mem_range.2 hi,by simp [h1]⟩
theorem take_set {α:Type} {xs:List α} {i:Nat} {v:α} (h:i<xs.length):(xs.set i v).take (i+1)=xs.take i++[v]:=by
 rw [List.take_succ_eq_append_getElem (by simpa using h),List.take_set_of_le (Nat.le_refl i)];simp
/-! ### parseK -/
section
variable {l:List Fld} {axes:List Axs}
end
/-! ### The reference takes the last place -/
theorem sameK_no {axes:List Axs} {a b:List Str} (h:¬ a.length=axes.length∨¬ b.length=axes.length):wW axes a b=false:=by
 unfold wW
 rcases h with h | h <;> rw [decide_eq_false h] <;> simp
theorem sameK_bad {axes:List Axs} {a b:List Str} {i:Nat} (hi:i<axes.length) (h:sameAt axes a b i=false):wW axes a b=false:=by
 unfold wW;rw [range_bad hi h,Bool.and_false]
theorem sameK_ok {axes:List Axs} {a b:List Str} (h1:a.length=axes.length) (h2:b.length=axes.length) (h:(List.range axes.length).all (sameAt axes a b)=true):wW axes a b=true:=by
 unfold wW;rw [decide_eq_true h1,decide_eq_true h2,h];rfl
/-! ### Bounds -/
def keepK (l:List (List Str)):Bool:=(l.take 11).all Wo&&decide (l.length≤10)
theorem keepK_len {l:List (List Str)} (h:keepK l=true):l.length≤10:=by
 unfold keepK at h;simp only [Bool.and_eq_true,decide_eq_true_eq] at h;exact h.2
theorem keepK_mem {l:List (List Str)} (h:keepK l=true):∀ k∈l,k.length≤20∧∀ x∈k,x.length≤100:=fun k hk=>by
 have hl:=keepK_len h
 unfold keepK at h
 simp only [Bool.and_eq_true,decide_eq_true_eq] at h
 have h1:=List.all_eq_true.1 h.1 k (by rw [List.take_of_length_le (by omega)];exact hk)
 exact ⟨keepS_len h1,keepS_mem h1⟩
end Go.Plain
namespace Go.Plain
open Go Go.Sep
set_option linter.unusedSimpArgs false
set_option linter.unusedVariables false
/-- A key of values of the axes. -/
def ofAxes (axes:List Axs) (k:List Str):Prop:=k.length=axes.length∧∀ i,i<axes.length→∃ j,j<(axes.getD i ([],[])).2.length∧(axes.getD i ([],[])).2.getD j []=k.getD i []
/-! ### What is written is read again -/
/-! ### Keys that are picked -/
def pickAt (x:List Axs) (p:List Int) (k:Nat):Nat :=
 if k<p.length then (((p.getD k 0).tmod ((x.getD k ([],[])).2.length:Int)+((x.getD k ([],[])).2.length:Int)).tmod ((x.getD k ([],[])).2.length:Int)).toNat else 0
def pickV (x:List Axs) (p:List Int) (k:Nat):Str:=(x.getD k ([],[])).2.getD (pickAt x p k) []
def pickK (x:List Axs) (p:List Int):List Str:=(List.range x.length).map (pickV x p)
end Go.Plain
