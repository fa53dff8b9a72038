/-
  Plain functions of the keys of Variant-Key, step by step. No program in sight.
  Plain laws of the keys of Variant-Key: every key that is read has values of the axes; what is written is read again. No program in sight.
-/
import Derived.Test.YtgahnjchpomcfaaDoorSLawB
namespace Go.Plain
open Go Go.Sep
set_option linter.unusedSimpArgs false
set_option linter.unusedVariables false

def axAt (axes : List Axs) (i : Nat) : Axs := axes.getD i ([], [])
def atF (axes : List Axs) (key : List Str) (i : Nat) : Int := idxP (fun v => sameF (axes.getD i ([], [])).1 v (key.getD i [])) (axes.getD i ([], [])).2
def okAt (axes : List Axs) (key : List Str) (i : Nat) : Bool := decide (0 ≤ atF axes key i)
def valAt (axes : List Axs) (key : List Str) (i : Nat) : Str := (axes.getD i ([], [])).2.getD (atF axes key i).toNat []
def resB (axes : List Axs) (key : List Str) : Bool := decide (key.length = axes.length) && (List.range axes.length).all (okAt axes key)
def resV (axes : List Axs) (key : List Str) : List Str := (List.range axes.length).map (valAt axes key)
def resR (axes : List Axs) (key : List Str) : List Str := if resB axes key = true then resV axes key else []
def addK (out : List (List Str)) (k : List Str) : List (List Str) := if (out.any fun x => decide (x = k)) = true then out else out ++ [k]
def dedK (l : List (List Str)) : List (List Str) := l.foldl addK []
def readM (M : List Str) : List (List Str) := M.map fun m => (readF m).1
def parseK (l : List Fld) (axes : List Axs) : List (List Str) × Int :=
  if validL axes = false then ([], 10)
  else if (allF l sVariantKey).length = 0 then ([], 12)
  else if ((allF l sVariantKey).all fun m => (readF m).2) = false then ([], 1)
  else if ((readM (allF l sVariantKey)).all (resB axes)) = false then ([], 11)
  else (dedK ((readM (allF l sVariantKey)).map (resV axes)), 0)
def keysT (keys : List (List Str)) : Str := joinS [44, 32] (keys.map writeF)
def sameAt (axes : List Axs) (a b : List Str) (i : Nat) : Bool := sameF (axes.getD i ([], [])).1 (a.getD i []) (b.getD i [])
def sameK (axes : List Axs) (a b : List Str) : Bool := (decide (a.length = axes.length) && decide (b.length = axes.length)) && (List.range axes.length).all (sameAt axes a b)

/-! ### Steps -/
theorem range_all {p : Nat → Bool} {n : Nat} (h : (List.range n).all p = true) (h1 : p n = true) : (List.range (n + 1)).all p = true := by
  rw [List.range_succ, List.all_append, h]; simp [h1]
theorem range_bad {p : Nat → Bool} {n i : Nat} (hi : i < n) (h1 : p i = false) : (List.range n).all p = false := by
  rw [List.all_eq_false]; exact ⟨i, List.mem_range.2 hi, by simp [h1]⟩
theorem range_map {β : Type} {g : Nat → β} {n : Nat} : (List.range (n + 1)).map g = (List.range n).map g ++ [g n] := by rw [List.range_succ, List.map_append]; rfl
theorem res_len {axes : List Axs} {key : List Str} (h : ¬ key.length = axes.length) : resB axes key = false := by unfold resB; rw [decide_eq_false h]; rfl
theorem res_bad {axes : List Axs} {key : List Str} {i : Nat} (hi : i < axes.length) (h : atF axes key i < 0) : resB axes key = false := by
  unfold resB; rw [range_bad hi (decide_eq_false (by omega)), Bool.and_false]
theorem res_ok {axes : List Axs} {key : List Str} (h : key.length = axes.length) (h1 : (List.range axes.length).all (okAt axes key) = true) : resB axes key = true := by unfold resB; rw [decide_eq_true h, h1]; rfl
theorem resR_no {axes : List Axs} {key : List Str} (h : resB axes key = false) : resR axes key = [] := by unfold resR; rw [if_neg (by rw [h]; simp)]
theorem resR_yes {axes : List Axs} {key : List Str} (h : resB axes key = true) : resR axes key = resV axes key := by unfold resR; rw [if_pos h]
theorem idxP_lt {α : Type} {q : α → Bool} {l : List α} (h : 0 ≤ idxP q l) : (idxP q l).toNat < l.length := by
  unfold idxP at h ⊢
  split at h
  · rename_i h2; rw [if_pos h2]; simpa using h2
  · omega
theorem at_lt {axes : List Axs} {key : List Str} {i : Nat} (h : ¬ atF axes key i < 0) : (atF axes key i).toNat < (axes.getD i ([], [])).2.length := idxP_lt (by unfold atF at h; omega)
theorem take_set {α : Type} {xs : List α} {i : Nat} {v : α} (h : i < xs.length) : (xs.set i v).take (i + 1) = xs.take i ++ [v] := by
  rw [List.take_succ_eq_append_getElem (by simpa using h), List.take_set_of_le (Nat.le_refl i)]; simp
theorem resV_length (axes : List Axs) (key : List Str) : (resV axes key).length = axes.length := by simp [resV]
theorem readM_step {M : List Str} {i : Nat} (h : i < M.length) : readM (M.take (i + 1)) = readM (M.take i) ++ [(readF (M.getD i [])).1] := mapT_step h
theorem ded_step {X : List (List Str)} {i : Nat} (h : i < X.length) : dedK (X.take (i + 1)) = addK (dedK (X.take i)) (X.getD i []) := by
  unfold dedK
  rw [List.take_succ_eq_append_getElem h, List.foldl_append, getD_get h]; rfl
theorem map_getD {α β : Type} {f : α → β} {l : List α} {i : Nat} {da : α} {db : β} (h : i < l.length) : (l.map f).getD i db = f (l.getD i da) := by
  rw [getD_get (by simpa using h), getD_get h, List.getElem_map]
theorem dedm_step {raw : List (List Str)} {g : List Str → List Str} {i : Nat} (h : i < raw.length) : dedK ((raw.take (i + 1)).map g) = addK (dedK ((raw.take i).map g)) (g (raw.getD i [])) := by
  have := ded_step (X := raw.map g) (i := i) (by simpa using h)
  rw [← List.map_take, ← List.map_take, map_getD (da := []) h] at this
  exact this
theorem add_old {out : List (List Str)} {k : List Str} (h : (out.any fun x => decide (x = k)) = true) : addK out k = out := if_pos h
theorem add_new {out : List (List Str)} {k : List Str} (h : (out.any fun x => decide (x = k)) = false) : addK out k = out ++ [k] := if_neg (by rw [h]; simp)
theorem ded_len : ∀ (X : List (List Str)), (dedK X).length ≤ X.length := by
  have : ∀ (X : List (List Str)) (out : List (List Str)), (X.foldl addK out).length ≤ out.length + X.length := by
    intro X
    induction X with
    | nil => intro out; simp
    | cons k X ih =>
      intro out
      have h := ih (addK out k)
      have : (addK out k).length ≤ out.length + 1 := by unfold addK; split <;> simp
      simp only [List.foldl_cons, List.length_cons]; omega
  intro X; have := this X []; simpa [dedK] using this
theorem ded_mem {P : List Str → Prop} : ∀ (X : List (List Str)), (∀ k ∈ X, P k) → ∀ k ∈ dedK X, P k := by
  have : ∀ (X : List (List Str)) (out : List (List Str)), (∀ k ∈ X, P k) → (∀ k ∈ out, P k) → ∀ k ∈ X.foldl addK out, P k := by
    intro X
    induction X with
    | nil => intro out _ h; exact h
    | cons k X ih =>
      intro out hX ho
      refine ih (addK out k) (fun z hz => hX z (by simp [hz])) fun z hz => ?_
      unfold addK at hz
      split at hz
      · exact ho z hz
      · rcases List.mem_append.1 hz with hz | hz
        · exact ho z hz
        · obtain rfl := List.mem_singleton.1 hz; exact hX _ (by simp)
  intro X h; exact this X [] h (fun k hk => by cases hk)

/-! ### parseK -/
section
variable {l : List Fld} {axes : List Axs}
theorem pk_range (h : validL axes = false) : parseK l axes = ([], 10) := if_pos h
theorem pk_none (h : validL axes = true) (h1 : (allF l sVariantKey).length = 0) : parseK l axes = ([], 12) := by unfold parseK; rw [if_neg (by rw [h]; simp), if_pos h1]
theorem pk_syn {i : Nat} (h : validL axes = true) (h1 : ¬ (allF l sVariantKey).length = 0) (hi : i < (allF l sVariantKey).length) (h2 : (readF ((allF l sVariantKey).getD i [])).2 = false) : parseK l axes = ([], 1) := by
  unfold parseK; rw [if_neg (by rw [h]; simp), if_neg h1, if_pos (all_miss (dd := []) hi h2)]
theorem pk_lim {i : Nat} (h : validL axes = true) (h1 : ¬ (allF l sVariantKey).length = 0) (h2 : ((allF l sVariantKey).all fun m => (readF m).2) = true) (hi : i < (readM (allF l sVariantKey)).length) (h3 : resB axes ((readM (allF l sVariantKey)).getD i []) = false) : parseK l axes = ([], 11) := by
  unfold parseK; rw [if_neg (by rw [h]; simp), if_neg h1, if_neg (by rw [h2]; simp), if_pos (all_miss (dd := []) hi h3)]
theorem pk_ok (h : validL axes = true) (h1 : ¬ (allF l sVariantKey).length = 0) (h2 : ((allF l sVariantKey).all fun m => (readF m).2) = true) (h3 : ((readM (allF l sVariantKey)).all (resB axes)) = true) : parseK l axes = (dedK ((readM (allF l sVariantKey)).map (resV axes)), 0) := by
  unfold parseK; rw [if_neg (by rw [h]; simp), if_neg h1, if_neg (by rw [h2]; simp), if_neg (by rw [h3]; simp)]
end
/-! ### The reference takes the last place -/
/-! ### Bounds -/
def keepK (l : List (List Str)) : Bool := (l.take 11).all keepS && decide (l.length ≤ 10)
theorem readM_length (M : List Str) : (readM M).length = M.length := by simp [readM]
theorem readM_mem {M : List Str} {n : Nat} (h : ∀ m ∈ M, m.length ≤ n) : ∀ k ∈ readM M, k.length ≤ n ∧ ∀ x ∈ k, x.length ≤ n := fun k hk => by
  obtain ⟨m, hm, rfl⟩ := List.mem_map.1 hk
  have h1 := readF_length m
  have h2 := h m hm
  exact ⟨by omega, fun x hx => Nat.le_trans (readF_mem m x hx) h2⟩
end Go.Plain

namespace Go.Plain
open Go Go.Sep
set_option linter.unusedSimpArgs false
set_option linter.unusedVariables false

/-- A key of values of the axes. -/
def ofAxes (axes : List Axs) (k : List Str) : Prop := k.length = axes.length ∧ ∀ i, i < axes.length → ∃ j, j < (axes.getD i ([], [])).2.length ∧ (axes.getD i ([], [])).2.getD j [] = k.getD i []
theorem resV_getD {axes : List Axs} {key : List Str} {i : Nat} (h : i < axes.length) : (resV axes key).getD i [] = valAt axes key i := by
  unfold resV
  rw [getD_get (by simpa using h), List.getElem_map, List.getElem_range]
theorem res_of {axes : List Axs} {key : List Str} (h : resB axes key = true) : ofAxes axes (resV axes key) := by
  unfold resB at h
  simp only [Bool.and_eq_true, decide_eq_true_eq] at h
  refine ⟨resV_length axes key, fun i hi => ?_⟩
  have h1 := List.all_eq_true.1 h.2 i (List.mem_range.2 hi)
  exact ⟨(atF axes key i).toNat, idxP_lt (of_decide_eq_true h1), by rw [resV_getD hi]; rfl⟩
theorem ded_pos {X : List (List Str)} (h : X ≠ []) : dedK X ≠ [] := by
  have grow : ∀ (X out : List (List Str)), out ≠ [] → X.foldl addK out ≠ [] := by
    intro X
    induction X with
    | nil => intro out h; exact h
    | cons k X ih =>
      intro out h
      refine ih _ ?_
      unfold addK; split
      · exact h
      · simp
  cases X with
  | nil => exact absurd rfl h
  | cons k X =>
    refine grow X _ ?_
    unfold addK; simp
theorem known {l : List Fld} {axes : List Axs} (h : (parseK l axes).2 = 0) : (parseK l axes).1 ≠ [] ∧ (parseK l axes).1.length ≤ 64 ∧ (∀ k ∈ (parseK l axes).1, ofAxes axes k) ∧ ¬ (getF l sVariantKey).length = 0 := by
  unfold parseK at h ⊢
  split at h
  · cases h
  · rename_i h1
    split at h
    · cases h
    · rename_i h2
      split at h
      · cases h
      · rename_i h3
        split at h
        · cases h
        · rename_i h4
          rw [if_neg h1, if_neg h2, if_neg h3, if_neg h4]
          have hM := allV_length (getF l sVariantKey)
          have h4' : (readM (allF l sVariantKey)).all (resB axes) = true := by simpa using h4
          refine ⟨ded_pos fun e => h2 ?_, ?_, ?_, fun e => h2 ?_⟩
          · have := congrArg List.length e; rw [List.length_map, readM_length] at this; exact this
          · have := ded_len ((readM (allF l sVariantKey)).map (resV axes)); rw [List.length_map, readM_length] at this
            exact Nat.le_trans this hM
          · refine ded_mem _ fun k hk => ?_
            obtain ⟨r, hr, rfl⟩ := List.mem_map.1 hk
            exact res_of (List.all_eq_true.1 h4' r hr)
          · unfold allF; rw [List.length_eq_zero_iff.1 e]; rfl
theorem unknown {l : List Fld} {axes : List Axs} (h : ¬ (parseK l axes).2 = 0) : (parseK l axes).1 = [] := by
  unfold parseK at h ⊢
  split
  · rfl
  · rename_i h1
    rw [if_neg h1] at h
    split
    · rfl
    · rename_i h2
      rw [if_neg h2] at h
      split
      · rfl
      · rename_i h3
        rw [if_neg h3] at h
        split
        · rfl
        · rename_i h4
          rw [if_neg h4] at h; exact absurd rfl h

/-! ### What is written is read again -/
theorem parseK_fin (l : List Fld) (axes : List Axs) : (parseK l axes).1.length ≤ 64 ∧ ∀ k ∈ (parseK l axes).1, k.length = axes.length := by
  by_cases h : (parseK l axes).2 = 0
  · obtain ⟨_, h2, h3, _⟩ := known h
    exact ⟨h2, fun k hk => (h3 k hk).1⟩
  · rw [unknown h]; exact ⟨by simp, fun k hk => by cases hk⟩

/-! ### Keys that are picked -/
def pickAt (x : List Axs) (p : List Int) (k : Nat) : Nat :=
  if k < p.length then (((p.getD k 0).tmod ((x.getD k ([], [])).2.length : Int) + ((x.getD k ([], [])).2.length : Int)).tmod ((x.getD k ([], [])).2.length : Int)).toNat else 0
def pickV (x : List Axs) (p : List Int) (k : Nat) : Str := (x.getD k ([], [])).2.getD (pickAt x p k) []
def pickK (x : List Axs) (p : List Int) : List Str := (List.range x.length).map (pickV x p)
theorem found_last {x : List Axs} {G : List Str} {k : Nat} (h : ofAxes x G) (hk : k < x.length) (h1 : (((x.getD k ([], [])).2.any fun v => decide (v = G.getD k []))) = false) : False := by
  obtain ⟨j, hj, e⟩ := h.2 k hk
  rw [List.any_eq_false] at h1
  exact h1 _ (getD_mem (dd := []) hj) (decide_eq_true e)
end Go.Plain
