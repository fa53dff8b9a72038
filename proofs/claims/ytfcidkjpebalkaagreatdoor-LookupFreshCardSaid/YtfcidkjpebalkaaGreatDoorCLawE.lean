/-
 Plain laws: rank as the reference finds it,quality by quality. No program in sight.
-/
import Derived.Test.YtfcidkjpebalkaaGreatDoorCLawC
namespace Go.Plain
open Go Go.Sep
set_option linter.unusedSimpArgs false
set_option linter.unusedVariables false
section
variable {kind:Int} {l:List Prf} {present:Bool}
/-- The last value's quality,or 0. -/
def lastQ (kind:Int) (l:List Prf) (present:Bool) (out:List Str):Int:=if 0<out.length then Ys kind l present (out.getD (out.length-1) []) else 0
def nextC (kind:Int) (l:List Prf) (present:Bool) (out:List Str) (v:Str):Prop:=out.length=0∨Ys kind l present v<lastQ kind l present out
/-- How far the reference has come. -/
def RankTo (kind:Int) (l:List Prf) (present:Bool) (vs out:List Str):Prop :=
 out=[]∨(0<out.length∧0<lastQ kind l present out∧out=(wX kind l present vs).1.filter (fun v=>decide (lastQ kind l present out≤Ys kind l present v)))
/-- The greatest quality below the last one. -/
def NextTo (kind:Int) (l:List Prf) (present:Bool) (out:List Str) (X:List Str) (n:Int):Prop :=
 0≤n∧(∀ v∈X,nextC kind l present out v→Ys kind l present v≤n)∧(n=0∨∃ v∈X,nextC kind l present out v∧Ys kind l present v=n)
variable {vs out:List Str} {n:Int} {i:Nat}
/-- The values of the next quality. -/
def sameQ (kind:Int) (l:List Prf) (present:Bool) (X:List Str) (n:Int):List Str:=X.filter (fun v=>decide (Ys kind l present v=n))
end
end Go.Plain
