/-
  Plain functions and laws of classes of requests: the text of the ranked values; same class, same keys; how members are distributed does not matter. No program in sight.
  Plain laws of classes of requests: the case of ranges does not matter; a member that matches no value does not matter. No program in sight.
-/
import Derived.Test.YtjbcomdljmfgjaaGreatDoorULawC
namespace Go.Plain
open Go Go.Sep
set_option linter.unusedSimpArgs false
set_option linter.unusedVariables false

def rankedAx (axes : List Axs) (l : List Fld) (strict : Bool) : List Axs := axes.map fun a => (a.1, rankA a l strict)
def classF (axes : List Axs) (l : List Fld) (strict : Bool) : Str := if validL axes = false then [] else axesT (rankedAx axes l strict)
def sameC (axes : List Axs) (l m : List Fld) (strict : Bool) : Bool := validL axes && decide (classF axes l strict = classF axes m strict)
section
variable {axes : List Axs} {l m : List Fld} {strict : Bool}
theorem class_no (h : validL axes = false) : classF axes l strict = [] := if_pos h
theorem class_yes (h : validL axes = true) : classF axes l strict = axesT (rankedAx axes l strict) := if_neg (by rw [h]; simp)
theorem ranked_step2 {i : Nat} (h : i < axes.length) : rankedAx (axes.take (i + 1)) l strict = rankedAx (axes.take i) l strict ++ [((axes.getD i ([], [])).1, rankA (axes.getD i ([], [])) l strict)] := by
  unfold rankedAx
  rw [List.take_succ_eq_append_getElem h, List.map_append, getD_get h]; rfl
theorem axesT_first {i : Nat} (h : i < axes.length) (h0 : i = 0) : axesT (rankedAx (axes.take (i + 1)) l strict) = axesT (rankedAx (axes.take i) l strict) ++ axisT ((axes.getD i ([], [])).1, rankA (axes.getD i ([], [])) l strict) := by
  subst h0
  rw [ranked_step2 h, List.take_zero]; rfl
theorem joinS_snoc (sep : Str) {X : List Str} (h : X ≠ []) (y : Str) : joinS sep (X ++ [y]) = joinS sep X ++ sep ++ y := by
  cases X with
  | nil => exact absurd rfl h
  | cons x r => rw [List.cons_append, joinS_flat, joinS_flat, List.flatMap_append]; simp
theorem axesT_next {i : Nat} (h : i < axes.length) (h0 : 0 < i) : axesT (rankedAx (axes.take (i + 1)) l strict) = (axesT (rankedAx (axes.take i) l strict) ++ [44, 32]) ++ axisT ((axes.getD i ([], [])).1, rankA (axes.getD i ([], [])) l strict) := by
  rw [ranked_step2 h]
  unfold axesT
  rw [List.map_append, List.map_cons, List.map_nil, joinS_snoc]
  intro e
  have := congrArg List.length e
  simp only [rankedAx, List.length_map, List.length_take, List.length_nil] at this
  omega
theorem sameC_of (hv : validL axes = true) (h : ∀ a ∈ axes, rankO a l = rankO a m) : sameC axes l m strict = true := by
  unfold sameC
  rw [hv, class_yes hv, class_yes hv, show rankedAx axes l strict = rankedAx axes m strict from List.map_congr_left fun a ha => by rw [rankA_of (h a ha)]]
  simp
/-! ### How members are distributed -/
theorem lower_same {a b : Axs} (ha : validA a = true) (hb : validA b = true) (h : ¬ a.1 = b.1) : fold a.1 b.1 = false := by
  unfold validA at ha hb
  simp only [Bool.and_eq_true, decide_eq_true_eq] at ha hb
  rw [fold_false, ha.1.2, hb.1.2]; exact h
theorem names_dist (hv : validL axes = true) {i j : Nat} (hi : i < axes.length) (hj : j < axes.length) (h : ¬ i = j) : ¬ (axes.getD i ([], [])).1 = (axes.getD j ([], [])).1 := fun e => by
  unfold validL at hv
  simp only [Bool.and_eq_true] at hv
  have key : ∀ i j, j < axes.length → i < j → ¬ (axes.getD i ([], [])).1 = (axes.getD j ([], [])).1 := fun i j hj hij e => by
    have h1 := (dist_at hv.2 hj).2
    rw [any_of (p := fun b => decide ((axes.getD j ([], [])).1 = b.1)) (dd := ([], [])) (by omega) hij (decide_eq_true e.symm)] at h1
    cases h1
  rcases Nat.lt_or_gt_of_ne h with h | h
  · exact key i j hj h e
  · exact key j i hi h e.symm
theorem at_or (hv : validL axes = true) {i : Nat} (hi : i < axes.length) {a : Axs} (ha : a ∈ axes) : a = axes.getD i ([], []) ∨ fold (axes.getD i ([], [])).1 a.1 = false := by
  obtain ⟨j, hj, rfl⟩ := List.getElem_of_mem ha
  by_cases e : i = j
  · subst e; exact .inl (getD_get hj).symm
  · right
    have h1 := names_dist hv hi hj e
    rw [← getD_get (dd := ([], [])) hj]
    exact lower_same (valid_all hv _ (getD_mem hi)) (valid_all hv _ (getD_mem hj)) h1
/-- What a field of one axis does not change. -/
theorem other_axis {a b : Axs} (h : fold a.1 b.1 = false) {n : Str} (hn : fold a.1 n = true) : fold n (targetF b) = false := by
  have h1 := target_fold b
  rw [fold_iff] at h1 hn
  rw [fold_false] at h ⊢
  rw [← hn, ← h1]; exact h
def lineName (n : Str) : Str := if kindF n = 0 then n else nameK (kindF n)
end
theorem lines_mem2 {R : List Fld} {u : Fld} {P : Fld → Prop} (h : ∀ z ∈ R, P z) (hu : P u) : ∀ z ∈ [u] ++ R, P z := fun z hz => by
  rcases List.mem_append.1 hz with hz | hz
  · rw [List.mem_singleton.1 hz]; exact hu
  · exact h z hz
end Go.Plain

namespace Go.Plain
open Go Go.Sep
set_option linter.unusedSimpArgs false
set_option linter.unusedVariables false

/-! ### Lower case -/
def lowR (p : Prf) : Prf := (lower p.1, p.2)
def lowField (f : Fld) : Fld := if kindF f.1 = 0 then f else (f.1, lower f.2)
theorem fold_of {x y : Str} (h : fold x y = true) (n : Str) : fold x n = fold y n := by
  have h1 := fold_iff.1 h
  have h2 : x.length = y.length := by have := congrArg List.length h1; rwa [lower_length, lower_length] at this
  unfold fold
  rw [h1, h2]
theorem fold_of2 {x y : Str} (h : fold x y = true) (n : Str) : fold n x = fold n y := by rw [fold_comm n x, fold_comm n y, fold_of h]
theorem getF_fold {l : List Fld} {x y : Str} (h : fold x y = true) : getF l x = getF l y := by
  unfold getF
  rw [show (fun f : Fld => fold f.1 x) = fun f => fold f.1 y from by funext f; exact fold_of2 h f.1]
section
variable {axes : List Axs} {l m : List Fld} {strict : Bool}
/-- A field of a kind matters only through the qualities. -/
theorem rankO_qual {a : Axs} (hk : ¬ kindF a.1 = 0) (h : ∀ v ∈ a.2, qualF (kindF a.1) (prefsF (kindF a.1) l).1 (prefsF (kindF a.1) l).2 v = qualF (kindF a.1) (prefsF (kindF a.1) m).1 (prefsF (kindF a.1) m).2 v) : rankO a l = rankO a m := by
  rw [rankO_kind hk, rankO_kind hk, rankG_congr h]
/-! ### A member that matches nothing -/
theorem q_clean_all : (List.range 1001).all (fun n => (fmtQ (n : Int)).all (fun x => decide (x ≠ 34) && decide (x ≠ 44))) = true := by decide +kernel
theorem q_clean {n : Nat} (h : n ≤ 1000) : ∀ x ∈ fmtQ (n : Int), x ≠ 34 ∧ x ≠ 44 := fun x hx => by
  have := List.all_eq_true.1 (List.all_eq_true.1 q_clean_all n (List.mem_range.2 (by omega))) x hx
  simpa using this
theorem member_few {r : Str} {n : Nat} (hn : n ≤ 1000) (h1 : (splitF r).length = 1) (h2 : (splitF (r ++ [44, 120])).length = 2) : (splitF (r ++ ([59, 113, 61] ++ fmtQ (n : Int)))).length ≤ 2 ∧ (memG (cutF (r ++ ([59, 113, 61] ++ fmtQ (n : Int))) 44)).length ≤ 2 := by
  obtain ⟨h3, X, last, e, ht⟩ := lines_closed (a := r) (by omega)
  have hc : cutF (r ++ ([59, 113, 61] ++ fmtQ (n : Int))) 44 = X ++ [last ++ ([59, 113, 61] ++ fmtQ (n : Int))] := by
    rw [ht]
    have := cut_run (c := 44) ([59, 113, 61] ++ fmtQ (n : Int)) last [] (fun x hx => by
      rcases List.mem_append.1 hx with hx | hx
      · simp at hx; rcases hx with rfl | rfl | rfl <;> decide
      · exact q_clean hn x hx)
    rw [List.append_nil] at this
    rw [this]; simp [cutGo]
  have hX : (memG X).length ≤ 1 := by
    unfold splitF at h1
    rw [e, memG_app, List.length_take, List.length_append] at h1
    rw [e, memG_app, List.length_append] at h3
    omega
  have h4 : (memG (cutF (r ++ ([59, 113, 61] ++ fmtQ (n : Int))) 44)).length ≤ 2 := by
    rw [hc, memG_app, List.length_append, memG_one]
    split <;> simp <;> omega
  refine ⟨?_, h4⟩
  unfold splitF
  rw [List.length_take]; omega
theorem prefsM_app (kind : Int) (X Y : List Str) : prefsM kind (X ++ Y) = prefsM kind X ++ prefsM kind Y := by unfold prefsM; rw [List.map_append, List.filter_append, List.map_append]
theorem best_ge (kind : Int) (v : Str) : ∀ (l : List Prf) (s : Int × Int), -1 ≤ s.1 → -1 ≤ (l.foldl (bestS kind v) s).1
  | [], _, h => h
  | p :: l, s, h => by
    rw [List.foldl_cons]
    refine best_ge kind v l _ ?_
    unfold bestS
    split
    · simp only; omega
    · exact h
theorem best_none (kind : Int) (v : Str) : ∀ (l : List Prf) (s : Int × Int), -1 ≤ s.1 → (∀ p ∈ l, matchK kind p.1 v < 0) → l.foldl (bestS kind v) s = s
  | [], _, _, _ => rfl
  | p :: l, s, h, hl => by
    have h1 := hl p (by simp)
    rw [List.foldl_cons, show bestS kind v s p = s by unfold bestS; rw [if_neg (by omega)]]
    exact best_none kind v l s h fun q hq => hl q (by simp [hq])
theorem qual_none {kind : Int} {A B : List Prf} {present : Bool} {v : Str} (h : ∀ p ∈ B, matchK kind p.1 v < 0) : qualF kind (A ++ B) present v = qualF kind A present v ∧ qualF kind (B ++ A) present v = qualF kind A present v := by
  have e1 : bestF kind v (A ++ B) 0 = bestF kind v A 0 := by unfold bestF; rw [List.foldl_append, best_none kind v B _ (best_ge kind v A _ (by decide)) h]
  have e2 : bestF kind v (B ++ A) 0 = bestF kind v A 0 := by unfold bestF; rw [List.foldl_append, best_none kind v B _ (by decide) h]
  unfold qualF
  rw [e1, e2]
  exact ⟨rfl, rfl⟩
theorem flat_few {X : List Str} {n : Nat} (h : (allV X).length ≤ n) (hn : n < 64) : (X.flatMap splitF).length ≤ n := by
  unfold allV at h
  rw [List.length_take] at h; omega
theorem kind_range {s : Str} (h : ¬ kindF s = 0) : 1 ≤ kindF s ∧ kindF s ≤ 4 := by
  have := kindF_cases s; omega
theorem unavailable {i : Nat} {r : Str} {n : Nat} {first : Bool} (hv : validL axes = true) (hi : i < axes.length) (hk : ¬ kindF (axes.getD i ([], [])).1 = 0) (hp : 0 < (getF l (axes.getD i ([], [])).1).length)
    (hf : (allF l (axes.getD i ([], [])).1).length ≤ 50) (h1 : (splitF r).length = 1) (h2 : (splitF (r ++ [44, 120])).length = 2) (hn : n ≤ 1000)
    (hno : ∀ v ∈ (axes.getD i ([], [])).2, ∀ p ∈ (prefsF (kindF (axes.getD i ([], [])).1) [((axes.getD i ([], [])).1, r ++ ([59, 113, 61] ++ fmtQ (n : Int)))]).1, matchK (kindF (axes.getD i ([], [])).1) p.1 v < 0) :
    sameC axes l (if first = true then [((axes.getD i ([], [])).1, r ++ ([59, 113, 61] ++ fmtQ (n : Int)))] ++ l else l ++ [((axes.getD i ([], [])).1, r ++ ([59, 113, 61] ++ fmtQ (n : Int)))]) strict = true := by
  refine sameC_of hv fun c hc => ?_
  rcases at_or hv hi hc with e | e
  · rw [← e] at hk hp hf hno ⊢
    refine rankO_qual hk fun v hv2 => ?_
    have hkr := kind_range hk
    have ht : fold c.1 (nameK (kindF c.1)) = true := kind_fold hk
    have hg1 : getF l c.1 = getF l (nameK (kindF c.1)) := getF_fold ht
    unfold allF at hf
    rw [hg1] at hp hf
    have hfl := flat_few hf (by omega)
    have hfew := member_few hn h1 h2
    generalize hfv : r ++ ([59, 113, 61] ++ fmtQ (n : Int)) = fv at hno hfew ⊢
    have hone : getF [(c.1, fv)] (nameK (kindF c.1)) = [fv] := by rw [getF_one, if_pos ht]
    have hp1 : prefsF (kindF c.1) [(c.1, fv)] = (prefsM (kindF c.1) (splitF fv), true) := by
      rw [prefs_of hkr.1 hkr.2 (by rw [hone]; simp)]
      unfold allF allV
      rw [hone, List.flatMap_cons, List.flatMap_nil, List.append_nil, List.take_of_length_le (by omega)]
    rw [hp1] at hno
    have hl : prefsF (kindF c.1) l = (prefsM (kindF c.1) ((getF l (nameK (kindF c.1))).flatMap splitF), true) := by
      rw [prefs_of hkr.1 hkr.2 hp]
      unfold allF allV
      rw [List.take_of_length_le (by omega)]
    rw [hl]
    cases first with
    | true =>
      rw [if_pos rfl]
      have hg : getF ([(c.1, fv)] ++ l) (nameK (kindF c.1)) = [fv] ++ getF l (nameK (kindF c.1)) := by rw [getF_app, hone]
      have hm : prefsF (kindF c.1) ([(c.1, fv)] ++ l) = (prefsM (kindF c.1) (splitF fv) ++ prefsM (kindF c.1) ((getF l (nameK (kindF c.1))).flatMap splitF), true) := by
        rw [prefs_of hkr.1 hkr.2 (by rw [hg]; simp)]
        unfold allF allV
        rw [hg, List.flatMap_append, List.flatMap_cons, List.flatMap_nil, List.append_nil, List.take_of_length_le (by rw [List.length_append]; omega), prefsM_app]
      rw [hm]
      exact (qual_none (fun p hp => hno v hv2 p hp)).2.symm
    | false =>
      rw [if_neg (by simp)]
      have hg : getF (l ++ [(c.1, fv)]) (nameK (kindF c.1)) = getF l (nameK (kindF c.1)) ++ [fv] := by rw [getF_app, hone]
      have hm : prefsF (kindF c.1) (l ++ [(c.1, fv)]) = (prefsM (kindF c.1) ((getF l (nameK (kindF c.1))).flatMap splitF) ++ prefsM (kindF c.1) (splitF fv), true) := by
        rw [prefs_of hkr.1 hkr.2 (by rw [hg]; simp)]
        unfold allF allV
        rw [hg, List.flatMap_append, List.flatMap_cons, List.flatMap_nil, List.append_nil, List.take_of_length_le (by rw [List.length_append]; omega), prefsM_app]
      rw [hm]
      exact (qual_none (fun p hp => hno v hv2 p hp)).1.symm
  · have h3 := other_axis e (fold_self (axes.getD i ([], [])).1)
    refine rankO_congr ?_
    cases first with
    | true => rw [if_pos rfl, getF_app, getF_one, if_neg (by simp only; rw [h3]; simp)]; rfl
    | false => rw [if_neg (by simp), getF_app, getF_one, if_neg (by simp only; rw [h3]; simp), List.append_nil]
end
end Go.Plain
