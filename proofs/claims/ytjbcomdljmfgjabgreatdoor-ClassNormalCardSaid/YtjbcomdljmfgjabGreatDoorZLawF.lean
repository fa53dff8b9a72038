/-
  Plain functions and laws of normalisation: the field that says what a request says of the values. No program in sight.
-/
import Derived.Test.YtjbcomdljmfgjabGreatDoorZLawD
namespace Go.Plain
open Go Go.Sep
set_option linter.unusedSimpArgs false
set_option linter.unusedVariables false
def readB (kind : Int) (v : Str) : Bool := if kind = 1 then (parseT v).2 else if kind = 2 then tagF v else token v && !decide (v = [42])
def exactF (kind : Int) (P : List Prf) (vs : List Str) : List Prf := (vs.filter (readB kind)).map fun v => (v, qualF kind P true v)
def normF (kind : Int) (l : List Fld) (vs : List Str) : List Fld :=
  if nameK kind = [] then l else if (prefsF kind l).2 = false then removeF l (nameK kind) else removeF l (nameK kind) ++ [(nameK kind, fmtP (exactF kind (prefsF kind l).1 vs))]
section
variable {kind : Int} {l : List Fld} {vs : List Str} {P : List Prf} {i : Nat}
theorem norm_none (h : nameK kind = []) : normF kind l vs = l := if_pos h
theorem norm_absent (h : ¬ nameK kind = []) (h1 : (prefsF kind l).2 = false) : normF kind l vs = removeF l (nameK kind) := by unfold normF; rw [if_neg h, if_pos h1]
theorem norm_yes (h : ¬ nameK kind = []) (h1 : (prefsF kind l).2 = true) : normF kind l vs = removeF l (nameK kind) ++ [(nameK kind, fmtP (exactF kind (prefsF kind l).1 vs))] := by unfold normF; rw [if_neg h, if_neg (by rw [h1]; simp)]
theorem prefs_present (h : ¬ nameK kind = []) : (prefsF kind l).2 = decide (0 < (getF l (nameK kind)).length) := by
  unfold prefsF
  rw [decide_eq_false h, Bool.false_or]
  split
  · rename_i h1
    cases h2 : decide (0 < (getF l (nameK kind)).length) with
    | true => rw [h2] at h1; cases h1
    | false => rfl
  · rename_i h1
    cases h2 : decide (0 < (getF l (nameK kind)).length) with
    | true => rfl
    | false => rw [h2] at h1; exact absurd rfl h1
theorem remove_none {n : Str} (h : ¬ 0 < (getF l n).length) : removeF l n = l := by
  unfold removeF
  rw [List.filter_eq_self]
  intro f hf
  cases hq : fold f.1 n with
  | false => rfl
  | true =>
    exfalso
    apply h
    unfold getF
    rw [List.length_map]
    exact List.length_pos_iff.2 (List.ne_nil_of_mem (List.mem_filter.2 ⟨hf, hq⟩))
theorem norm_same (h : nameK kind = [] ∨ (getF l (nameK kind)).length = 0) : normF kind l vs = l := by
  by_cases h1 : nameK kind = []
  · exact norm_none h1
  · have h2 := h.resolve_left h1
    rw [norm_absent h1 (by rw [prefs_present h1]; exact decide_eq_false (by omega)), remove_none (by omega)]
theorem exact_hit (hi : i < vs.length) (h : readB kind (vs.getD i []) = true) : exactF kind P (vs.take (i + 1)) = exactF kind P (vs.take i) ++ [(vs.getD i [], qualF kind P true (vs.getD i []))] := by
  unfold exactF
  rw [List.take_succ_eq_append_getElem hi, List.filter_append, List.map_append, ← getD_get (dd := []) hi, List.filter_cons, if_pos h]; rfl
theorem exact_miss (hi : i < vs.length) (h : readB kind (vs.getD i []) = false) : exactF kind P (vs.take (i + 1)) = exactF kind P (vs.take i) := by
  unfold exactF
  rw [List.take_succ_eq_append_getElem hi, List.filter_append, List.map_append, ← getD_get (dd := []) hi, List.filter_cons, if_neg (by rw [h]; simp)]; simp
theorem exact_len : (exactF kind P vs).length ≤ vs.length := by unfold exactF; rw [List.length_map]; exact List.length_filter_le ..
theorem exact_mem {n : Nat} (h : ∀ v ∈ vs, v.length ≤ n) : ∀ p ∈ exactF kind P vs, p.1.length ≤ n := fun p hp => by
  unfold exactF at hp
  obtain ⟨v, hv, rfl⟩ := List.mem_map.1 hp
  exact h v (List.mem_filter.1 hv).1
theorem read_1 {v : Str} (h : kind = 1) : readB kind v = (parseT v).2 := if_pos h
theorem read_2 {v : Str} (h1 : ¬ kind = 1) (h : kind = 2) : readB kind v = tagF v := by unfold readB; rw [if_neg h1, if_pos h]
theorem read_3 {v : Str} (h1 : ¬ kind = 1) (h : ¬ kind = 2) : readB kind v = (token v && !decide (v = [42])) := by unfold readB; rw [if_neg h1, if_neg h]
theorem norm_len : (normF kind l vs).length ≤ l.length + 1 := by
  have := removeF_length l (nameK kind)
  unfold normF
  split
  · omega
  · split
    · omega
    · rw [List.length_append, List.length_singleton]; omega
end
end Go.Plain
