/-
  Plain functions of the keys of Variant-Key, step by step. No program in sight.
  Plain laws of the keys of Variant-Key: every key that is read has values of the axes; what is written is read again. No program in sight.
-/
import Derived.Test.YtgahnjchpomcfaaGreatDoorYLawB
namespace Go.Plain
open Go Go.Sep
set_option linter.unusedSimpArgs false
set_option linter.unusedVariables false

def axAt (axes : List Axs) (i : Nat) : Axs := axes.getD i ([], [])
def atF (axes : List Axs) (key : List Str) (i : Nat) : Int := idxP (fun v => sameF (axes.getD i ([], [])).1 v (key.getD i [])) (axes.getD i ([], [])).2
def okAt (axes : List Axs) (key : List Str) (i : Nat) : Bool := decide (0 ≤ atF axes key i)
def valAt (axes : List Axs) (key : List Str) (i : Nat) : Str := (axes.getD i ([], [])).2.getD (atF axes key i).toNat []
def resB (axes : List Axs) (key : List Str) : Bool := decide (key.length = axes.length) && (List.range axes.length).all (okAt axes key)
def resV (axes : List Axs) (key : List Str) : List Str := (List.range axes.length).map (valAt axes key)
def resR (axes : List Axs) (key : List Str) : List Str := if resB axes key = true then resV axes key else []
def addK (out : List (List Str)) (k : List Str) : List (List Str) := if (out.any fun x => decide (x = k)) = true then out else out ++ [k]
def dedK (l : List (List Str)) : List (List Str) := l.foldl addK []
def readM (M : List Str) : List (List Str) := M.map fun m => (readF m).1
def parseK (l : List Fld) (axes : List Axs) : List (List Str) × Int :=
  if validL axes = false then ([], 10)
  else if (allF l sVariantKey).length = 0 then ([], 12)
  else if ((allF l sVariantKey).all fun m => (readF m).2) = false then ([], 1)
  else if ((readM (allF l sVariantKey)).all (resB axes)) = false then ([], 11)
  else (dedK ((readM (allF l sVariantKey)).map (resV axes)), 0)
def keysT (keys : List (List Str)) : Str := joinS [44, 32] (keys.map writeF)
def sameAt (axes : List Axs) (a b : List Str) (i : Nat) : Bool := sameF (axes.getD i ([], [])).1 (a.getD i []) (b.getD i [])
def sameK (axes : List Axs) (a b : List Str) : Bool := (decide (a.length = axes.length) && decide (b.length = axes.length)) && (List.range axes.length).all (sameAt axes a b)

/-! ### Steps -/
theorem range_all {p : Nat → Bool} {n : Nat} (h : (List.range n).all p = true) (h1 : p n = true) : (List.range (n + 1)).all p = true := by
  rw [List.range_succ, List.all_append, h]; simp [h1]
theorem range_bad {p : Nat → Bool} {n i : Nat} (hi : i < n) (h1 : p i = false) : (List.range n).all p = false := by
  rw [List.all_eq_false]; exact ⟨i, List.mem_range.2 hi, by simp [h1]⟩
theorem range_map {β : Type} {g : Nat → β} {n : Nat} : (List.range (n + 1)).map g = (List.range n).map g ++ [g n] := by rw [List.range_succ, List.map_append]; rfl
theorem res_len {axes : List Axs} {key : List Str} (h : ¬ key.length = axes.length) : resB axes key = false := by unfold resB; rw [decide_eq_false h]; rfl
theorem res_bad {axes : List Axs} {key : List Str} {i : Nat} (hi : i < axes.length) (h : atF axes key i < 0) : resB axes key = false := by
  unfold resB; rw [range_bad hi (decide_eq_false (by omega)), Bool.and_false]
theorem res_ok {axes : List Axs} {key : List Str} (h : key.length = axes.length) (h1 : (List.range axes.length).all (okAt axes key) = true) : resB axes key = true := by unfold resB; rw [decide_eq_true h, h1]; rfl
theorem resR_no {axes : List Axs} {key : List Str} (h : resB axes key = false) : resR axes key = [] := by unfold resR; rw [if_neg (by rw [h]; simp)]
theorem resR_yes {axes : List Axs} {key : List Str} (h : resB axes key = true) : resR axes key = resV axes key := by unfold resR; rw [if_pos h]
theorem idxP_lt {α : Type} {q : α → Bool} {l : List α} (h : 0 ≤ idxP q l) : (idxP q l).toNat < l.length := by
  unfold idxP at h ⊢
  split at h
  · rename_i h2; rw [if_pos h2]; simpa using h2
  · omega
theorem at_lt {axes : List Axs} {key : List Str} {i : Nat} (h : ¬ atF axes key i < 0) : (atF axes key i).toNat < (axes.getD i ([], [])).2.length := idxP_lt (by unfold atF at h; omega)
theorem take_set {α : Type} {xs : List α} {i : Nat} {v : α} (h : i < xs.length) : (xs.set i v).take (i + 1) = xs.take i ++ [v] := by
  rw [List.take_succ_eq_append_getElem (by simpa using h), List.take_set_of_le (Nat.le_refl i)]; simp
theorem resV_length (axes : List Axs) (key : List Str) : (resV axes key).length = axes.length := by simp [resV]
theorem readM_step {M : List Str} {i : Nat} (h : i < M.length) : readM (M.take (i + 1)) = readM (M.take i) ++ [(readF (M.getD i [])).1] := mapT_step h
theorem ded_step {X : List (List Str)} {i : Nat} (h : i < X.length) : dedK (X.take (i + 1)) = addK (dedK (X.take i)) (X.getD i []) := by
  unfold dedK
  rw [List.take_succ_eq_append_getElem h, List.foldl_append, getD_get h]; rfl
theorem map_getD {α β : Type} {f : α → β} {l : List α} {i : Nat} {da : α} {db : β} (h : i < l.length) : (l.map f).getD i db = f (l.getD i da) := by
  rw [getD_get (by simpa using h), getD_get h, List.getElem_map]
theorem dedm_step {raw : List (List Str)} {g : List Str → List Str} {i : Nat} (h : i < raw.length) : dedK ((raw.take (i + 1)).map g) = addK (dedK ((raw.take i).map g)) (g (raw.getD i [])) := by
  have := ded_step (X := raw.map g) (i := i) (by simpa using h)
  rw [← List.map_take, ← List.map_take, map_getD (da := []) h] at this
  exact this
theorem add_old {out : List (List Str)} {k : List Str} (h : (out.any fun x => decide (x = k)) = true) : addK out k = out := if_pos h
theorem add_new {out : List (List Str)} {k : List Str} (h : (out.any fun x => decide (x = k)) = false) : addK out k = out ++ [k] := if_neg (by rw [h]; simp)
theorem ded_len : ∀ (X : List (List Str)), (dedK X).length ≤ X.length := by
  have : ∀ (X : List (List Str)) (out : List (List Str)), (X.foldl addK out).length ≤ out.length + X.length := by
    intro X
    induction X with
    | nil => intro out; simp
    | cons k X ih =>
      intro out
      have h := ih (addK out k)
      have : (addK out k).length ≤ out.length + 1 := by unfold addK; split <;> simp
      simp only [List.foldl_cons, List.length_cons]; omega
  intro X; have := this X []; simpa [dedK] using this
theorem ded_mem {P : List Str → Prop} : ∀ (X : List (List Str)), (∀ k ∈ X, P k) → ∀ k ∈ dedK X, P k := by
  have : ∀ (X : List (List Str)) (out : List (List Str)), (∀ k ∈ X, P k) → (∀ k ∈ out, P k) → ∀ k ∈ X.foldl addK out, P k := by
    intro X
    induction X with
    | nil => intro out _ h; exact h
    | cons k X ih =>
      intro out hX ho
      refine ih (addK out k) (fun z hz => hX z (by simp [hz])) fun z hz => ?_
      unfold addK at hz
      split at hz
      · exact ho z hz
      · rcases List.mem_append.1 hz with hz | hz
        · exact ho z hz
        · obtain rfl := List.mem_singleton.1 hz; exact hX _ (by simp)
  intro X h; exact this X [] h (fun k hk => by cases hk)

/-! ### parseK -/
section
variable {l : List Fld} {axes : List Axs}
theorem pk_range (h : validL axes = false) : parseK l axes = ([], 10) := if_pos h
theorem pk_none (h : validL axes = true) (h1 : (allF l sVariantKey).length = 0) : parseK l axes = ([], 12) := by unfold parseK; rw [if_neg (by rw [h]; simp), if_pos h1]
theorem pk_syn {i : Nat} (h : validL axes = true) (h1 : ¬ (allF l sVariantKey).length = 0) (hi : i < (allF l sVariantKey).length) (h2 : (readF ((allF l sVariantKey).getD i [])).2 = false) : parseK l axes = ([], 1) := by
  unfold parseK; rw [if_neg (by rw [h]; simp), if_neg h1, if_pos (all_miss (dd := []) hi h2)]
theorem pk_lim {i : Nat} (h : validL axes = true) (h1 : ¬ (allF l sVariantKey).length = 0) (h2 : ((allF l sVariantKey).all fun m => (readF m).2) = true) (hi : i < (readM (allF l sVariantKey)).length) (h3 : resB axes ((readM (allF l sVariantKey)).getD i []) = false) : parseK l axes = ([], 11) := by
  unfold parseK; rw [if_neg (by rw [h]; simp), if_neg h1, if_neg (by rw [h2]; simp), if_pos (all_miss (dd := []) hi h3)]
theorem pk_ok (h : validL axes = true) (h1 : ¬ (allF l sVariantKey).length = 0) (h2 : ((allF l sVariantKey).all fun m => (readF m).2) = true) (h3 : ((readM (allF l sVariantKey)).all (resB axes)) = true) : parseK l axes = (dedK ((readM (allF l sVariantKey)).map (resV axes)), 0) := by
  unfold parseK; rw [if_neg (by rw [h]; simp), if_neg h1, if_neg (by rw [h2]; simp), if_neg (by rw [h3]; simp)]
end
theorem take_get {α : Type} {l : List α} {i k : Nat} {dd : α} (h : k < i) : (l.take i).getD k dd = l.getD k dd := by
  rw [List.getD_eq_getElem?_getD, List.getD_eq_getElem?_getD, List.getElem?_take_of_lt h]
/-! ### The reference takes the last place -/
theorem idxP_take_miss {α : Type} {q : α → Bool} {l : List α} {j : Nat} {dd : α} (h : j < l.length) (hq : q (l.getD j dd) = false) : idxP q (l.take (j + 1)) = idxP q (l.take j) := by
  cases ha : (l.take j).any q with
  | false => rw [idxP_none ha, idxP_none (any_step h ha hq)]
  | true =>
    have hf : (l.take j).findIdx q < (l.take j).length := List.findIdx_lt_length.2 (by simpa using ha)
    have hlt : (l.take j).findIdx q < j := by rw [List.length_take] at hf; omega
    have e : (l.take (j + 1)).findIdx q = (l.take j).findIdx q := by
      rw [List.take_succ_eq_append_getElem h, List.findIdx_append, if_pos hf]
    unfold idxP
    rw [e, if_pos hf, if_pos (by rw [List.length_take]; omega)]
theorem idxP_take_hit {α : Type} {q : α → Bool} {l : List α} {j : Nat} {dd : α} (h : j < l.length) (h0 : (l.take j).any q = false) (hq : q (l.getD j dd) = true) : idxP q (l.take (j + 1)) = (j : Int) := by
  refine idxP_hit (dd := dd) (by rw [List.length_take]; omega) ?_ ?_
  · rw [List.take_take, Nat.min_eq_left (by omega)]; exact h0
  · rw [take_get (by omega)]; exact hq
theorem axis_uniq {a : Axs} (h : validA a = true) {v : Str} {j : Nat} (hj : j < a.2.length) (hs : sameF a.1 (a.2.getD j []) v = true) : (a.2.take j).any (fun x => sameF a.1 x v) = false := by
  unfold validA validV at h
  simp only [Bool.and_eq_true] at h
  have h2 := (dist_at h.2.2 hj).2
  rw [List.any_eq_false] at h2 ⊢
  intro x hx hc
  refine h2 x hx ?_
  rw [decide_eq_true_eq]
  exact (of_decide_eq_true hc).trans (of_decide_eq_true hs).symm
theorem sameK_no {axes : List Axs} {a b : List Str} (h : ¬ a.length = axes.length ∨ ¬ b.length = axes.length) : sameK axes a b = false := by
  unfold sameK
  rcases h with h | h <;> rw [decide_eq_false h] <;> simp
theorem sameK_bad {axes : List Axs} {a b : List Str} {i : Nat} (hi : i < axes.length) (h : sameAt axes a b i = false) : sameK axes a b = false := by
  unfold sameK; rw [range_bad hi h, Bool.and_false]
theorem sameK_ok {axes : List Axs} {a b : List Str} (h1 : a.length = axes.length) (h2 : b.length = axes.length) (h : (List.range axes.length).all (sameAt axes a b) = true) : sameK axes a b = true := by
  unfold sameK; rw [decide_eq_true h1, decide_eq_true h2, h]; rfl
/-! ### Bounds -/
def keepK (l : List (List Str)) : Bool := (l.take 11).all keepS && decide (l.length ≤ 10)
theorem keepK_len {l : List (List Str)} (h : keepK l = true) : l.length ≤ 10 := by
  unfold keepK at h; simp only [Bool.and_eq_true, decide_eq_true_eq] at h; exact h.2
theorem keepK_mem {l : List (List Str)} (h : keepK l = true) : ∀ k ∈ l, k.length ≤ 20 ∧ ∀ x ∈ k, x.length ≤ 100 := fun k hk => by
  have hl := keepK_len h
  unfold keepK at h
  simp only [Bool.and_eq_true, decide_eq_true_eq] at h
  have h1 := List.all_eq_true.1 h.1 k (by rw [List.take_of_length_le (by omega)]; exact hk)
  exact ⟨keepS_len h1, keepS_mem h1⟩
theorem mapK_step {β : Type} {g : List Str → β} {L : List (List Str)} {i : Nat} (h : i < L.length) : (L.take (i + 1)).map g = (L.take i).map g ++ [g (L.getD i [])] := by
  rw [List.take_succ_eq_append_getElem h, List.map_append, getD_get h]; rfl
theorem readM_length (M : List Str) : (readM M).length = M.length := by simp [readM]
theorem readM_mem {M : List Str} {n : Nat} (h : ∀ m ∈ M, m.length ≤ n) : ∀ k ∈ readM M, k.length ≤ n ∧ ∀ x ∈ k, x.length ≤ n := fun k hk => by
  obtain ⟨m, hm, rfl⟩ := List.mem_map.1 hk
  have h1 := readF_length m
  have h2 := h m hm
  exact ⟨by omega, fun x hx => Nat.le_trans (readF_mem m x hx) h2⟩
end Go.Plain

namespace Go.Plain
open Go Go.Sep
set_option linter.unusedSimpArgs false
set_option linter.unusedVariables false

/-- A key of values of the axes. -/
def ofAxes (axes : List Axs) (k : List Str) : Prop := k.length = axes.length ∧ ∀ i, i < axes.length → ∃ j, j < (axes.getD i ([], [])).2.length ∧ (axes.getD i ([], [])).2.getD j [] = k.getD i []
theorem resV_getD {axes : List Axs} {key : List Str} {i : Nat} (h : i < axes.length) : (resV axes key).getD i [] = valAt axes key i := by
  unfold resV
  rw [getD_get (by simpa using h), List.getElem_map, List.getElem_range]
theorem res_of {axes : List Axs} {key : List Str} (h : resB axes key = true) : ofAxes axes (resV axes key) := by
  unfold resB at h
  simp only [Bool.and_eq_true, decide_eq_true_eq] at h
  refine ⟨resV_length axes key, fun i hi => ?_⟩
  have h1 := List.all_eq_true.1 h.2 i (List.mem_range.2 hi)
  exact ⟨(atF axes key i).toNat, idxP_lt (of_decide_eq_true h1), by rw [resV_getD hi]; rfl⟩
theorem ded_pos {X : List (List Str)} (h : X ≠ []) : dedK X ≠ [] := by
  have grow : ∀ (X out : List (List Str)), out ≠ [] → X.foldl addK out ≠ [] := by
    intro X
    induction X with
    | nil => intro out h; exact h
    | cons k X ih =>
      intro out h
      refine ih _ ?_
      unfold addK; split
      · exact h
      · simp
  cases X with
  | nil => exact absurd rfl h
  | cons k X =>
    refine grow X _ ?_
    unfold addK; simp
theorem known {l : List Fld} {axes : List Axs} (h : (parseK l axes).2 = 0) : (parseK l axes).1 ≠ [] ∧ (parseK l axes).1.length ≤ 64 ∧ (∀ k ∈ (parseK l axes).1, ofAxes axes k) ∧ ¬ (getF l sVariantKey).length = 0 := by
  unfold parseK at h ⊢
  split at h
  · cases h
  · rename_i h1
    split at h
    · cases h
    · rename_i h2
      split at h
      · cases h
      · rename_i h3
        split at h
        · cases h
        · rename_i h4
          rw [if_neg h1, if_neg h2, if_neg h3, if_neg h4]
          have hM := allV_length (getF l sVariantKey)
          have h4' : (readM (allF l sVariantKey)).all (resB axes) = true := by simpa using h4
          refine ⟨ded_pos fun e => h2 ?_, ?_, ?_, fun e => h2 ?_⟩
          · have := congrArg List.length e; rw [List.length_map, readM_length] at this; exact this
          · have := ded_len ((readM (allF l sVariantKey)).map (resV axes)); rw [List.length_map, readM_length] at this
            exact Nat.le_trans this hM
          · refine ded_mem _ fun k hk => ?_
            obtain ⟨r, hr, rfl⟩ := List.mem_map.1 hk
            exact res_of (List.all_eq_true.1 h4' r hr)
          · unfold allF; rw [List.length_eq_zero_iff.1 e]; rfl
theorem unknown {l : List Fld} {axes : List Axs} (h : ¬ (parseK l axes).2 = 0) : (parseK l axes).1 = [] := by
  unfold parseK at h ⊢
  split
  · rfl
  · rename_i h1
    rw [if_neg h1] at h
    split
    · rfl
    · rename_i h2
      rw [if_neg h2] at h
      split
      · rfl
      · rename_i h3
        rw [if_neg h3] at h
        split
        · rfl
        · rename_i h4
          rw [if_neg h4] at h; exact absurd rfl h

/-! ### What is written is read again -/
theorem idx_self {a : Axs} (h : validA a = true) {j : Nat} (hj : j < a.2.length) : idxP (fun v => sameF a.1 v (a.2.getD j [])) a.2 = (j : Int) :=
  idxP_hit (dd := []) hj (axis_uniq h hj (same_self _ _)) (same_self _ _)
theorem res_self {axes : List Axs} {k : List Str} (hv : ∀ a ∈ axes, validA a = true) (h : ofAxes axes k) : resB axes k = true ∧ resV axes k = k := by
  have hat : ∀ i, i < axes.length → ∃ j, j < (axes.getD i ([], [])).2.length ∧ atF axes k i = (j : Int) ∧ (axes.getD i ([], [])).2.getD j [] = k.getD i [] := fun i hi => by
    obtain ⟨j, hj, e⟩ := h.2 i hi
    refine ⟨j, hj, ?_, e⟩
    unfold atF; rw [← e]; exact idx_self (hv _ (getD_mem hi)) hj
  refine ⟨res_ok h.1 (List.all_eq_true.2 fun i hi => ?_), ?_⟩
  · obtain ⟨j, _, e, _⟩ := hat i (List.mem_range.1 hi)
    unfold okAt; rw [e]; simp
  · apply List.ext_getElem (by rw [resV_length, h.1])
    intro i h1 h2
    rw [resV_length] at h1
    have e1 := resV_getD (key := k) h1
    rw [getD_get (by rw [resV_length]; exact h1)] at e1
    obtain ⟨j, _, e, e2⟩ := hat i h1
    rw [e1, valAt, e, Int.toNat_natCast, e2, getD_get h2]
theorem ofAxes_text {axes : List Axs} {k : List Str} (hv : ∀ a ∈ axes, validA a = true) (h : ofAxes axes k) : ∀ v ∈ k, text v = true ∧ v ≠ [] := fun v hv2 => by
  obtain ⟨i, hi, rfl⟩ := List.getElem_of_mem hv2
  obtain ⟨j, hj, e⟩ := h.2 i (by rw [← h.1]; exact hi)
  rw [getD_get hi] at e
  rw [← e]
  have ha := hv _ (getD_mem (dd := ([], [])) (show i < axes.length by rw [← h.1]; exact hi))
  unfold validA validV at ha
  simp only [Bool.and_eq_true] at ha
  exact value_text (axis := (axes.getD i ([], [])).1) (dist_at ha.2.2 hj).1
theorem keys_back {axes : List Axs} {keys : List (List Str)} {nm : Str} (hn : fold nm sVariantKey = true) (hv : validL axes = true) (hk : ∀ k ∈ keys, ofAxes axes k) (h1 : 1 ≤ keys.length) (h2 : keys.length ≤ 64) : parseK [(nm, keysT keys)] axes = (dedK keys, 0) := by
  have hva := valid_all hv
  have hg : getF [(nm, keysT keys)] sVariantKey = [keysT keys] := by unfold getF; simp [hn]
  have hs : splitF (keysT keys) = keys.map writeF := split_join (fun x hx => by obtain ⟨a, ha, rfl⟩ := List.mem_map.1 hx; exact writeF_whole a) (fun x hx => by obtain ⟨a, ha, rfl⟩ := List.mem_map.1 hx; exact writeF_firm a) (by rw [List.length_map]; omega)
  have ha : allF [(nm, keysT keys)] sVariantKey = keys.map writeF := by
    unfold allF allV
    rw [hg, List.flatMap_singleton, hs, List.take_of_length_le (by rw [List.length_map]; omega)]
  have hr : ∀ k ∈ keys, readF (writeF k) = (k, true) := fun k hk2 => read_write (ofAxes_text hva (hk k hk2))
  have hm : readM (keys.map writeF) = keys := by
    unfold readM; rw [List.map_map]
    conv => rhs; rw [← List.map_id keys]
    exact List.map_congr_left fun k hk2 => by rw [Function.comp_apply, hr k hk2]; rfl
  have hrv : keys.map (resV axes) = keys := by
    conv => rhs; rw [← List.map_id keys]
    exact List.map_congr_left fun k hk2 => (res_self hva (hk k hk2)).2
  have := pk_ok (l := [(nm, keysT keys)]) hv (by rw [ha, List.length_map]; omega) (by rw [ha, List.all_map]; exact List.all_eq_true.2 fun k hk2 => by rw [Function.comp_apply, hr k hk2]) (by rw [ha, hm]; exact List.all_eq_true.2 fun k hk2 => (res_self hva (hk k hk2)).1)
  rw [this, ha, hm, hrv]
theorem keysT_length {keys : List (List Str)} (h1 : keys.length ≤ 64) (h2 : ∀ k ∈ keys, k.length ≤ 20 ∧ ∀ x ∈ k, x.length ≤ 100) : (keysT keys).length ≤ 300000 := by
  have hw : ∀ y ∈ keys.map writeF, y.length ≤ 4062 := fun y hy => by
    obtain ⟨k, hk, rfl⟩ := List.mem_map.1 hy
    have h := writeF_length (h2 k hk).2
    have := Nat.mul_le_mul (h2 k hk).1 (Nat.le_refl (2 * 100 + 3)); omega
  have := joinS_len (k := 2) (sep := [44, 32]) (Nat.le_refl _) hw
  rw [List.length_map] at this
  have h3 := Nat.mul_le_mul h1 (Nat.le_refl (4062 + 2))
  unfold keysT; omega
theorem parseK_fin (l : List Fld) (axes : List Axs) : (parseK l axes).1.length ≤ 64 ∧ ∀ k ∈ (parseK l axes).1, k.length = axes.length := by
  by_cases h : (parseK l axes).2 = 0
  · obtain ⟨_, h2, h3, _⟩ := known h
    exact ⟨h2, fun k hk => (h3 k hk).1⟩
  · rw [unknown h]; exact ⟨by simp, fun k hk => by cases hk⟩

/-! ### Keys that are picked -/
def pickAt (x : List Axs) (p : List Int) (k : Nat) : Nat :=
  if k < p.length then (((p.getD k 0).tmod ((x.getD k ([], [])).2.length : Int) + ((x.getD k ([], [])).2.length : Int)).tmod ((x.getD k ([], [])).2.length : Int)).toNat else 0
def pickV (x : List Axs) (p : List Int) (k : Nat) : Str := (x.getD k ([], [])).2.getD (pickAt x p k) []
def pickK (x : List Axs) (p : List Int) : List Str := (List.range x.length).map (pickV x p)
theorem tmod_lo (a : Int) {n : Nat} (h : 0 < n) : -(n : Int) < a.tmod (n : Int) ∧ a.tmod (n : Int) < (n : Int) := by
  constructor
  · have h1 := Int.tmod_lt_of_pos (-a) (b := (n : Int)) (by omega)
    rw [Int.neg_tmod] at h1; omega
  · exact Int.tmod_lt_of_pos a (by omega)
theorem pick_int {x : List Axs} {p : List Int} {k : Nat} (h : k < p.length) (hn : 0 < (x.getD k ([], [])).2.length) :
    ((p.getD k 0).tmod ((x.getD k ([], [])).2.length : Int) + ((x.getD k ([], [])).2.length : Int)).tmod ((x.getD k ([], [])).2.length : Int) = ((pickAt x p k : Nat) : Int) := by
  have h1 := tmod_lo (p.getD k 0) hn
  have h2 := Int.tmod_nonneg (a := (p.getD k 0).tmod ((x.getD k ([], [])).2.length : Int) + ((x.getD k ([], [])).2.length : Int)) ((x.getD k ([], [])).2.length : Int) (by omega)
  unfold pickAt
  rw [if_pos h]; omega
theorem pick_none {x : List Axs} {p : List Int} {k : Nat} (h : ¬ k < p.length) : pickAt x p k = 0 := if_neg h
theorem pick_lt {x : List Axs} {p : List Int} {k : Nat} (hn : 0 < (x.getD k ([], [])).2.length) : pickAt x p k < (x.getD k ([], [])).2.length := by
  by_cases h : k < p.length
  · have h1 := pick_int (x := x) h hn
    have h2 := (tmod_lo ((p.getD k 0).tmod ((x.getD k ([], [])).2.length : Int) + ((x.getD k ([], [])).2.length : Int)) hn).2
    omega
  · rw [pick_none h]; exact hn
theorem valid_values {axes : List Axs} (h : validL axes = true) {k : Nat} (hk : k < axes.length) : 0 < (axes.getD k ([], [])).2.length ∧ (axes.getD k ([], [])).2.length ≤ 16 := by
  have ha := valid_all h _ (getD_mem (dd := ([], [])) hk)
  unfold validA validV at ha
  simp only [Bool.and_eq_true, decide_eq_true_eq] at ha
  exact ha.2.1
theorem pick_of {x : List Axs} (hv : validL x = true) (p : List Int) : ofAxes x (pickK x p) := by
  refine ⟨by simp [pickK], fun i hi => ⟨pickAt x p i, pick_lt (valid_values hv hi).1, ?_⟩⟩
  unfold pickK
  rw [getD_get (s := (List.range x.length).map (pickV x p)) (by simpa using hi), List.getElem_map, List.getElem_range]; rfl
theorem picks_step {g : List Int → List Str} {P : List (List Int)} {i : Nat} (h : i < P.length) : (P.take (i + 1)).map g = (P.take i).map g ++ [g (P.getD i [])] := by
  rw [List.take_succ_eq_append_getElem h, List.map_append, getD_get h]; rfl
theorem ded_snoc (X : List (List Str)) (k : List Str) : dedK (X ++ [k]) = addK (dedK X) k := by unfold dedK; rw [List.foldl_append]; rfl
theorem keep_key {x : List Axs} (hv : validL x = true) (hx : ∀ a ∈ x, ∀ z ∈ a.2, z.length ≤ 100) (p : List Int) : (pickK x p).length ≤ 20 ∧ ∀ z ∈ pickK x p, z.length ≤ 100 := by
  have hl := validL_len hv
  refine ⟨by simp [pickK]; omega, fun z hz => ?_⟩
  unfold pickK at hz
  obtain ⟨k, hk, rfl⟩ := List.mem_map.1 hz
  have hk' := List.mem_range.1 hk
  exact hx _ (getD_mem (dd := ([], [])) hk') _ (getD_mem (dd := []) (pick_lt (valid_values hv hk').1))
end Go.Plain
