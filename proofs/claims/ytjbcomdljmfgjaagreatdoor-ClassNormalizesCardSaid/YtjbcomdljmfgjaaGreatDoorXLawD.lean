/-
  Plain functions and laws of classes of requests: the text of the ranked values; same class, same keys; how members are distributed does not matter. No program in sight.
  Plain laws of classes of requests: the case of ranges does not matter; a member that matches no value does not matter. No program in sight.
-/
import Derived.Test.YtjbcomdljmfgjaaGreatDoorXLawC
namespace Go.Plain
open Go Go.Sep
set_option linter.unusedSimpArgs false
set_option linter.unusedVariables false

def rankedAx (axes : List Axs) (l : List Fld) (strict : Bool) : List Axs := axes.map fun a => (a.1, rankA a l strict)
def classF (axes : List Axs) (l : List Fld) (strict : Bool) : Str := if validL axes = false then [] else axesT (rankedAx axes l strict)
def sameC (axes : List Axs) (l m : List Fld) (strict : Bool) : Bool := validL axes && decide (classF axes l strict = classF axes m strict)
section
variable {axes : List Axs} {l m : List Fld} {strict : Bool}
theorem class_no (h : validL axes = false) : classF axes l strict = [] := if_pos h
theorem class_yes (h : validL axes = true) : classF axes l strict = axesT (rankedAx axes l strict) := if_neg (by rw [h]; simp)
theorem ranked_step2 {i : Nat} (h : i < axes.length) : rankedAx (axes.take (i + 1)) l strict = rankedAx (axes.take i) l strict ++ [((axes.getD i ([], [])).1, rankA (axes.getD i ([], [])) l strict)] := by
  unfold rankedAx
  rw [List.take_succ_eq_append_getElem h, List.map_append, getD_get h]; rfl
theorem axesT_first {i : Nat} (h : i < axes.length) (h0 : i = 0) : axesT (rankedAx (axes.take (i + 1)) l strict) = axesT (rankedAx (axes.take i) l strict) ++ axisT ((axes.getD i ([], [])).1, rankA (axes.getD i ([], [])) l strict) := by
  subst h0
  rw [ranked_step2 h, List.take_zero]; rfl
theorem joinS_snoc (sep : Str) {X : List Str} (h : X ≠ []) (y : Str) : joinS sep (X ++ [y]) = joinS sep X ++ sep ++ y := by
  cases X with
  | nil => exact absurd rfl h
  | cons x r => rw [List.cons_append, joinS_flat, joinS_flat, List.flatMap_append]; simp
theorem axesT_next {i : Nat} (h : i < axes.length) (h0 : 0 < i) : axesT (rankedAx (axes.take (i + 1)) l strict) = (axesT (rankedAx (axes.take i) l strict) ++ [44, 32]) ++ axisT ((axes.getD i ([], [])).1, rankA (axes.getD i ([], [])) l strict) := by
  rw [ranked_step2 h]
  unfold axesT
  rw [List.map_append, List.map_cons, List.map_nil, joinS_snoc]
  intro e
  have := congrArg List.length e
  simp only [rankedAx, List.length_map, List.length_take, List.length_nil] at this
  omega
/-! ### How members are distributed -/
def lineName (n : Str) : Str := if kindF n = 0 then n else nameK (kindF n)
end
end Go.Plain

namespace Go.Plain
open Go Go.Sep
set_option linter.unusedSimpArgs false
set_option linter.unusedVariables false

/-! ### Lower case -/
def lowR (p : Prf) : Prf := (lower p.1, p.2)
def lowField (f : Fld) : Fld := if kindF f.1 = 0 then f else (f.1, lower f.2)
section
variable {axes : List Axs} {l m : List Fld} {strict : Bool}
/-! ### A member that matches nothing -/
end
end Go.Plain
