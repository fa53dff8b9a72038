/-
  Plain functions and laws of classes of requests: the text of the ranked values; same class, same keys; how members are distributed does not matter. No program in sight.
  Plain laws of classes of requests: the case of ranges does not matter; a member that matches no value does not matter. No program in sight.
-/
import Derived.Test.YtjbcomdljmfgjabGreatDoorZLawC
namespace Go.Plain
open Go Go.Sep
set_option linter.unusedSimpArgs false
set_option linter.unusedVariables false

def rankedAx (axes : List Axs) (l : List Fld) (strict : Bool) : List Axs := axes.map fun a => (a.1, rankA a l strict)
def classF (axes : List Axs) (l : List Fld) (strict : Bool) : Str := if validL axes = false then [] else axesT (rankedAx axes l strict)
def sameC (axes : List Axs) (l m : List Fld) (strict : Bool) : Bool := validL axes && decide (classF axes l strict = classF axes m strict)
section
variable {axes : List Axs} {l m : List Fld} {strict : Bool}
theorem class_no (h : validL axes = false) : classF axes l strict = [] := if_pos h
theorem class_yes (h : validL axes = true) : classF axes l strict = axesT (rankedAx axes l strict) := if_neg (by rw [h]; simp)
theorem ranked_step2 {i : Nat} (h : i < axes.length) : rankedAx (axes.take (i + 1)) l strict = rankedAx (axes.take i) l strict ++ [((axes.getD i ([], [])).1, rankA (axes.getD i ([], [])) l strict)] := by
  unfold rankedAx
  rw [List.take_succ_eq_append_getElem h, List.map_append, getD_get h]; rfl
theorem axesT_first {i : Nat} (h : i < axes.length) (h0 : i = 0) : axesT (rankedAx (axes.take (i + 1)) l strict) = axesT (rankedAx (axes.take i) l strict) ++ axisT ((axes.getD i ([], [])).1, rankA (axes.getD i ([], [])) l strict) := by
  subst h0
  rw [ranked_step2 h, List.take_zero]; rfl
theorem joinS_snoc (sep : Str) {X : List Str} (h : X ≠ []) (y : Str) : joinS sep (X ++ [y]) = joinS sep X ++ sep ++ y := by
  cases X with
  | nil => exact absurd rfl h
  | cons x r => rw [List.cons_append, joinS_flat, joinS_flat, List.flatMap_append]; simp
theorem axesT_next {i : Nat} (h : i < axes.length) (h0 : 0 < i) : axesT (rankedAx (axes.take (i + 1)) l strict) = (axesT (rankedAx (axes.take i) l strict) ++ [44, 32]) ++ axisT ((axes.getD i ([], [])).1, rankA (axes.getD i ([], [])) l strict) := by
  rw [ranked_step2 h]
  unfold axesT
  rw [List.map_append, List.map_cons, List.map_nil, joinS_snoc]
  intro e
  have := congrArg List.length e
  simp only [rankedAx, List.length_map, List.length_take, List.length_nil] at this
  omega
theorem sameC_of (hv : validL axes = true) (h : ∀ a ∈ axes, rankO a l = rankO a m) : sameC axes l m strict = true := by
  unfold sameC
  rw [hv, class_yes hv, class_yes hv, show rankedAx axes l strict = rankedAx axes m strict from List.map_congr_left fun a ha => by rw [rankA_of (h a ha)]]
  simp
/-! ### How members are distributed -/
theorem lower_same {a b : Axs} (ha : validA a = true) (hb : validA b = true) (h : ¬ a.1 = b.1) : fold a.1 b.1 = false := by
  unfold validA at ha hb
  simp only [Bool.and_eq_true, decide_eq_true_eq] at ha hb
  rw [fold_false, ha.1.2, hb.1.2]; exact h
theorem names_dist (hv : validL axes = true) {i j : Nat} (hi : i < axes.length) (hj : j < axes.length) (h : ¬ i = j) : ¬ (axes.getD i ([], [])).1 = (axes.getD j ([], [])).1 := fun e => by
  unfold validL at hv
  simp only [Bool.and_eq_true] at hv
  have key : ∀ i j, j < axes.length → i < j → ¬ (axes.getD i ([], [])).1 = (axes.getD j ([], [])).1 := fun i j hj hij e => by
    have h1 := (dist_at hv.2 hj).2
    rw [any_of (p := fun b => decide ((axes.getD j ([], [])).1 = b.1)) (dd := ([], [])) (by omega) hij (decide_eq_true e.symm)] at h1
    cases h1
  rcases Nat.lt_or_gt_of_ne h with h | h
  · exact key i j hj h e
  · exact key j i hi h e.symm
theorem at_or (hv : validL axes = true) {i : Nat} (hi : i < axes.length) {a : Axs} (ha : a ∈ axes) : a = axes.getD i ([], []) ∨ fold (axes.getD i ([], [])).1 a.1 = false := by
  obtain ⟨j, hj, rfl⟩ := List.getElem_of_mem ha
  by_cases e : i = j
  · subst e; exact .inl (getD_get hj).symm
  · right
    have h1 := names_dist hv hi hj e
    rw [← getD_get (dd := ([], [])) hj]
    exact lower_same (valid_all hv _ (getD_mem hi)) (valid_all hv _ (getD_mem hj)) h1
/-- What a field of one axis does not change. -/
theorem other_axis {a b : Axs} (h : fold a.1 b.1 = false) {n : Str} (hn : fold a.1 n = true) : fold n (targetF b) = false := by
  have h1 := target_fold b
  rw [fold_iff] at h1 hn
  rw [fold_false] at h ⊢
  rw [← hn, ← h1]; exact h
def lineName (n : Str) : Str := if kindF n = 0 then n else nameK (kindF n)
end
end Go.Plain

namespace Go.Plain
open Go Go.Sep
set_option linter.unusedSimpArgs false
set_option linter.unusedVariables false

/-! ### Lower case -/
def lowR (p : Prf) : Prf := (lower p.1, p.2)
theorem matchT_low (t v : Med) (ps : List Prm) : matchT (t.1, t.2.1, ps.map lowV) v = matchT (t.1, t.2.1, ps) v := by
  unfold matchT
  simp only [List.length_map, List.all_map]
  have : (fun p => v.2.2.any (matchB p)) ∘ lowV = fun p => v.2.2.any (matchB p) := by
    funext p
    simp only [Function.comp_apply]
    congr 1
    funext x
    unfold matchB lowV
    simp only
    congr 1
    unfold fold
    rw [lower_length, lower_idem]
  rw [this]
theorem match_lower (kind : Int) (r v : Str) : matchK kind (lower r) v = matchK kind r v := by
  unfold matchK
  split
  · rw [parseR_lower]
    simp only
    split
    · rfl
    · exact matchT_low _ _ _
  · split
    · unfold matchL
      rw [range_lower, lower_idem, subt_lower, List.length_map]
      by_cases h : rangeL r = false ∨ tagF v = false
      · rw [if_pos h, if_pos h]
      · rw [if_neg h, if_neg h]
        by_cases h2 : r = [42]
        · rw [if_pos h2, if_pos ((lower_eq_star r).2 h2)]
        · rw [if_neg h2, if_neg (fun e => h2 ((lower_eq_star r).1 e))]
    · split
      · rw [token_lower]
        split
        · rfl
        · unfold matchCoding
          rw [canonical_lower]
          by_cases h2 : r = [42]
          · rw [if_pos h2, if_pos ((lower_eq_star r).2 h2)]
          · rw [if_neg h2, if_neg (fun e => h2 ((lower_eq_star r).1 e))]
      · rfl
def lowField (f : Fld) : Fld := if kindF f.1 = 0 then f else (f.1, lower f.2)
section
variable {axes : List Axs} {l m : List Fld} {strict : Bool}
/-- A field of a kind matters only through the qualities. -/
theorem rankO_qual {a : Axs} (hk : ¬ kindF a.1 = 0) (h : ∀ v ∈ a.2, qualF (kindF a.1) (prefsF (kindF a.1) l).1 (prefsF (kindF a.1) l).2 v = qualF (kindF a.1) (prefsF (kindF a.1) m).1 (prefsF (kindF a.1) m).2 v) : rankO a l = rankO a m := by
  rw [rankO_kind hk, rankO_kind hk, rankG_congr h]
/-! ### A member that matches nothing -/
theorem kind_range {s : Str} (h : ¬ kindF s = 0) : 1 ≤ kindF s ∧ kindF s ≤ 4 := by
  have := kindF_cases s; omega
end
end Go.Plain
