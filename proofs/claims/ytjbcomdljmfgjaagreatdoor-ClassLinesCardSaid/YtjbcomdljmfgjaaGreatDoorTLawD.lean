/-
  Plain functions and laws of classes of requests: the text of the ranked values; same class, same keys; how members are distributed does not matter. No program in sight.
  Plain laws of classes of requests: the case of ranges does not matter; a member that matches no value does not matter. No program in sight.
-/
import Derived.Test.YtjbcomdljmfgjaaGreatDoorTLawC
namespace Go.Plain
open Go Go.Sep
set_option linter.unusedSimpArgs false
set_option linter.unusedVariables false

def rankedAx (axes : List Axs) (l : List Fld) (strict : Bool) : List Axs := axes.map fun a => (a.1, rankA a l strict)
def classF (axes : List Axs) (l : List Fld) (strict : Bool) : Str := if validL axes = false then [] else axesT (rankedAx axes l strict)
def sameC (axes : List Axs) (l m : List Fld) (strict : Bool) : Bool := validL axes && decide (classF axes l strict = classF axes m strict)
section
variable {axes : List Axs} {l m : List Fld} {strict : Bool}
theorem class_no (h : validL axes = false) : classF axes l strict = [] := if_pos h
theorem class_yes (h : validL axes = true) : classF axes l strict = axesT (rankedAx axes l strict) := if_neg (by rw [h]; simp)
theorem ranked_step2 {i : Nat} (h : i < axes.length) : rankedAx (axes.take (i + 1)) l strict = rankedAx (axes.take i) l strict ++ [((axes.getD i ([], [])).1, rankA (axes.getD i ([], [])) l strict)] := by
  unfold rankedAx
  rw [List.take_succ_eq_append_getElem h, List.map_append, getD_get h]; rfl
theorem axesT_first {i : Nat} (h : i < axes.length) (h0 : i = 0) : axesT (rankedAx (axes.take (i + 1)) l strict) = axesT (rankedAx (axes.take i) l strict) ++ axisT ((axes.getD i ([], [])).1, rankA (axes.getD i ([], [])) l strict) := by
  subst h0
  rw [ranked_step2 h, List.take_zero]; rfl
theorem joinS_snoc (sep : Str) {X : List Str} (h : X ≠ []) (y : Str) : joinS sep (X ++ [y]) = joinS sep X ++ sep ++ y := by
  cases X with
  | nil => exact absurd rfl h
  | cons x r => rw [List.cons_append, joinS_flat, joinS_flat, List.flatMap_append]; simp
theorem axesT_next {i : Nat} (h : i < axes.length) (h0 : 0 < i) : axesT (rankedAx (axes.take (i + 1)) l strict) = (axesT (rankedAx (axes.take i) l strict) ++ [44, 32]) ++ axisT ((axes.getD i ([], [])).1, rankA (axes.getD i ([], [])) l strict) := by
  rw [ranked_step2 h]
  unfold axesT
  rw [List.map_append, List.map_cons, List.map_nil, joinS_snoc]
  intro e
  have := congrArg List.length e
  simp only [rankedAx, List.length_map, List.length_take, List.length_nil] at this
  omega
theorem sameC_of (hv : validL axes = true) (h : ∀ a ∈ axes, rankO a l = rankO a m) : sameC axes l m strict = true := by
  unfold sameC
  rw [hv, class_yes hv, class_yes hv, show rankedAx axes l strict = rankedAx axes m strict from List.map_congr_left fun a ha => by rw [rankA_of (h a ha)]]
  simp
theorem rank_text (hv : validL axes = true) {a : Axs} (ha : a ∈ axes) : ∀ v ∈ rankA a l strict, text v = true ∧ v ≠ [] := fun v hv2 => by
  have h1 := rankA_sub v hv2
  have hva := valid_all hv a ha
  obtain ⟨j, hj, rfl⟩ := List.getElem_of_mem h1
  unfold validA validV at hva
  simp only [Bool.and_eq_true] at hva
  have := (dist_at hva.2.2 hj).1
  rw [getD_get hj] at this
  exact value_text (axis := a.1) this
theorem class_split (hv : validL axes = true) : splitF (axesT (rankedAx axes l strict)) = (rankedAx axes l strict).map axisT := by
  have hl := validL_len hv
  have hva := valid_all hv
  refine split_join (fun x hx => ?_) (fun x hx => ?_) (by rw [List.length_map]; simp only [rankedAx, List.length_map]; omega)
  · obtain ⟨b, hb, rfl⟩ := List.mem_map.1 hx
    obtain ⟨a, ha, rfl⟩ := List.mem_map.1 hb
    exact axis_whole (a := (a.1, rankA a l strict)) (show token a.1 = true from token_of (hva a ha))
  · obtain ⟨b, hb, rfl⟩ := List.mem_map.1 hx
    obtain ⟨a, ha, rfl⟩ := List.mem_map.1 hb
    exact axis_firm (a := (a.1, rankA a l strict)) (show token a.1 = true from token_of (hva a ha))
theorem class_inj (h : sameC axes l m strict = true) : validL axes = true ∧ rankL axes l strict = rankL axes m strict := by
  unfold sameC at h
  simp only [Bool.and_eq_true, decide_eq_true_eq] at h
  obtain ⟨hv, e⟩ := h
  refine ⟨hv, ?_⟩
  rw [class_yes hv, class_yes hv] at e
  have e1 := congrArg splitF e
  rw [class_split hv, class_split hv] at e1
  unfold rankedAx at e1
  rw [List.map_map, List.map_map] at e1
  refine List.map_congr_left fun a ha => ?_
  have e2 := List.map_inj_left.1 e1 a ha
  simp only [Function.comp_apply, axisT] at e2
  have e3 := congrArg readF (List.append_cancel_left e2)
  rw [read_write (rank_text hv ha), read_write (rank_text hv ha)] at e3
  exact (Prod.ext_iff.1 e3).1
theorem decides {most : Nat} (h : sameC axes l m strict = true) : keysF axes l strict most = keysF axes m strict most := keys_congr (class_inj h).2

/-! ### How members are distributed -/
theorem lines_split2 {a b : Str} (h : (splitF (a ++ [44, 120])).length = (splitF a).length + 1) : memG (cutF ((([9] ++ a) ++ [32, 44, 32]) ++ b ++ [32]) 44) = memG (cutF a 44) ++ memG (cutF b 44) := by
  obtain ⟨_, X, last, h3, h4⟩ := lines_closed h
  have e1 : ((([9] ++ a) ++ [32, 44, 32]) ++ b ++ [32] : Str) = (9 :: (a ++ (32 :: 44 :: 32 :: b))) ++ [32] := by simp
  rw [e1, memG_tail (by decide) (by decide)]
  have e2 : cutF (9 :: (a ++ (32 :: 44 :: 32 :: b))) 44 = cutGo 44 0 [9] (a ++ (32 :: 44 :: 32 :: b)) := by
    unfold cutF; rw [cutGo_next (by omega) (by decide)]; rfl
  rw [e2, memG_head (by decide) _ _ _ (by omega)]
  have e3 : cutGo 44 0 [] (a ++ (32 :: 44 :: 32 :: b)) = X ++ cutGo 44 0 last (32 :: 44 :: 32 :: b) := h4 _
  have e4 : cutGo 44 0 last (32 :: 44 :: 32 :: b) = (last ++ [32]) :: cutGo 44 0 [32] b := by
    rw [cutGo_next (by omega) (by decide), show stepF 0 32 = 0 from rfl, cutGo, if_neg (by decide), if_neg (by decide), if_neg (by decide), if_pos rfl, cutGo_next (by omega) (by decide)]; rfl
  rw [e3, e4, memG_app, h3, memG_app, List.append_assoc]
  congr 1
  rw [show (last ++ [32]) :: cutGo 44 0 [32] b = [last ++ [32]] ++ cutGo 44 0 [32] b from rfl, memG_app, memG_one, memG_one, trim_back _ (by decide), memG_head (by decide) _ _ _ (by omega)]
  rfl
theorem lower_same {a b : Axs} (ha : validA a = true) (hb : validA b = true) (h : ¬ a.1 = b.1) : fold a.1 b.1 = false := by
  unfold validA at ha hb
  simp only [Bool.and_eq_true, decide_eq_true_eq] at ha hb
  rw [fold_false, ha.1.2, hb.1.2]; exact h
theorem names_dist (hv : validL axes = true) {i j : Nat} (hi : i < axes.length) (hj : j < axes.length) (h : ¬ i = j) : ¬ (axes.getD i ([], [])).1 = (axes.getD j ([], [])).1 := fun e => by
  unfold validL at hv
  simp only [Bool.and_eq_true] at hv
  have key : ∀ i j, j < axes.length → i < j → ¬ (axes.getD i ([], [])).1 = (axes.getD j ([], [])).1 := fun i j hj hij e => by
    have h1 := (dist_at hv.2 hj).2
    rw [any_of (p := fun b => decide ((axes.getD j ([], [])).1 = b.1)) (dd := ([], [])) (by omega) hij (decide_eq_true e.symm)] at h1
    cases h1
  rcases Nat.lt_or_gt_of_ne h with h | h
  · exact key i j hj h e
  · exact key j i hi h e.symm
theorem at_or (hv : validL axes = true) {i : Nat} (hi : i < axes.length) {a : Axs} (ha : a ∈ axes) : a = axes.getD i ([], []) ∨ fold (axes.getD i ([], [])).1 a.1 = false := by
  obtain ⟨j, hj, rfl⟩ := List.getElem_of_mem ha
  by_cases e : i = j
  · subst e; exact .inl (getD_get hj).symm
  · right
    have h1 := names_dist hv hi hj e
    rw [← getD_get (dd := ([], [])) hj]
    exact lower_same (valid_all hv _ (getD_mem hi)) (valid_all hv _ (getD_mem hj)) h1
/-- What a field of one axis does not change. -/
theorem other_axis {a b : Axs} (h : fold a.1 b.1 = false) {n : Str} (hn : fold a.1 n = true) : fold n (targetF b) = false := by
  have h1 := target_fold b
  rw [fold_iff] at h1 hn
  rw [fold_false] at h ⊢
  rw [← hn, ← h1]; exact h
def lineName (n : Str) : Str := if kindF n = 0 then n else nameK (kindF n)
theorem lineName_fold (n : Str) : fold n (lineName n) = true := target_fold (n, [])
theorem rankO_all {a : Axs} (h : allF l (targetF a) = allF m (targetF a)) (h2 : decide (0 < (getF l (targetF a)).length) = decide (0 < (getF m (targetF a)).length)) : rankO a l = rankO a m := by
  unfold rankO
  by_cases hk : kindF a.1 = 0
  · rw [if_neg (show ¬ ¬ kindF a.1 = 0 from fun e => e hk), if_neg (show ¬ ¬ kindF a.1 = 0 from fun e => e hk)]
    unfold targetF at h
    rw [if_pos hk] at h
    unfold haveF
    rw [h]
  · unfold targetF at h h2
    rw [if_neg hk] at h h2
    rw [if_pos hk, if_pos hk]
    unfold prefsF
    rw [h, h2]
theorem lines_class {i : Nat} {a b : Str} (hv : validL axes = true) (hi : i < axes.length) (h : (splitF (a ++ [44, 120])).length = (splitF a).length + 1) :
    sameC axes ((removeF l (axes.getD i ([], [])).1 ++ [((axes.getD i ([], [])).1, a)]) ++ [((axes.getD i ([], [])).1, b)]) ([(lineName (axes.getD i ([], [])).1, (([9] ++ a) ++ [32, 44, 32]) ++ b ++ [32])] ++ removeF l (axes.getD i ([], [])).1) strict = true := by
  refine sameC_of hv fun c hc => ?_
  rcases at_or hv hi hc with e | e
  · rw [← e]
    have ht := target_fold c
    have hr : getF (removeF l c.1) (targetF c) = [] := by
      have h1 := get_remove l c.1
      unfold getF at h1 ⊢
      have : (fun f : Fld => fold f.1 (targetF c)) = fun f => fold f.1 c.1 := by
        funext f
        rw [fold_iff] at ht
        unfold fold
        have e1 : (targetF c).length = c.1.length := by have := congrArg List.length ht; rw [lower_length, lower_length] at this; exact this.symm
        rw [e1, ht]
      rw [this]; exact h1
    have hp : getF ((removeF l c.1 ++ [(c.1, a)]) ++ [(c.1, b)]) (targetF c) = [a, b] := by
      rw [getF_app, getF_app, hr, getF_one, getF_one, if_pos ht, if_pos ht]; rfl
    have hq : getF ([(lineName c.1, (([9] ++ a) ++ [32, 44, 32]) ++ b ++ [32])] ++ removeF l c.1) (targetF c) = [(([9] ++ a) ++ [32, 44, 32]) ++ b ++ [32]] := by
      rw [getF_app, hr, getF_one, if_pos (show fold (lineName c.1) (targetF c) = true from fold_self _)]; rfl
    refine rankO_all ?_ (by rw [hp, hq]; rfl)
    unfold allF allV
    rw [hp, hq]
    have e1 : ([a, b] : List Str).flatMap splitF = (memG (cutF a 44)).take 64 ++ (memG (cutF b 44)).take 64 := by simp [splitF]
    rw [e1, take_take_app (by have := (lines_closed h).1; omega), List.flatMap_cons, List.flatMap_nil, List.append_nil]
    unfold splitF
    rw [lines_split2 h, List.take_take, Nat.min_self]
  · have h1 := other_axis e (fold_self (axes.getD i ([], [])).1)
    have h2 := other_axis e (lineName_fold (axes.getD i ([], [])).1)
    refine rankO_congr ?_
    rw [getF_app, getF_app, getF_one, getF_one, if_neg (by simp only; rw [h1]; simp), if_neg (by simp only; rw [h1]; simp), getF_app, getF_one, if_neg (by simp only; rw [h2]; simp)]
    simp
end
theorem lines_eq1 {R : List Fld} {n a b : Str} : ([] ++ R) ++ [(n, a), (n, b)] = (R ++ [(n, a)]) ++ [(n, b)] := by simp
theorem lines_eq2 {R : List Fld} {n u1 u2 : Str} : ([(u1, u2)] ++ R).set 0 (n, (([(u1, u2)] ++ R).getD 0 ([], [])).2) = [(n, u2)] ++ R := rfl
theorem lines_mem1 {R : List Fld} {n a b : Str} {P : Fld → Prop} (h : ∀ z ∈ R, P z) (ha : P (n, a)) (hb : P (n, b)) : ∀ z ∈ ([] ++ R) ++ [(n, a), (n, b)], P z := fun z hz => by
  rcases List.mem_append.1 hz with hz | hz
  · exact h z (by simpa using hz)
  · simp only [List.mem_cons, List.not_mem_nil, or_false] at hz
    rcases hz with rfl | rfl
    · exact ha
    · exact hb
theorem lines_mem2 {R : List Fld} {u : Fld} {P : Fld → Prop} (h : ∀ z ∈ R, P z) (hu : P u) : ∀ z ∈ [u] ++ R, P z := fun z hz => by
  rcases List.mem_append.1 hz with hz | hz
  · rw [List.mem_singleton.1 hz]; exact hu
  · exact h z hz
end Go.Plain

namespace Go.Plain
open Go Go.Sep
set_option linter.unusedSimpArgs false
set_option linter.unusedVariables false

/-! ### Lower case -/
theorem qc_lower (c : UInt8) : qc (lowerB c) = lower (qc c) := by
  have := all_u8 (fun c => decide (qc (lowerB c) = lower (qc c))) (by decide +kernel) c
  exact of_decide_eq_true this
theorem flat_qc_lower : ∀ v : Str, (lower v).flatMap qc = lower (v.flatMap qc)
  | [] => rfl
  | b :: v => by rw [lower_cons, List.flatMap_cons, List.flatMap_cons, lower_app, qc_lower, flat_qc_lower v]
theorem quote_lower (v : Str) : quote (lower v) = lower (quote v) := by
  unfold quote
  rw [flat_qc_lower, lower_app, lower_cons]; rfl
theorem wr_lower (v : Str) : wr (lower v) = lower (wr v) := by
  unfold wr
  rw [token_lower]
  split
  · rfl
  · exact quote_lower v
theorem formatP_lower {v : Str} : ∀ {l : List Prm}, (∀ p ∈ l, lower p.1 = p.1) → formatP (lower v) (l.map lowV) = lower (formatP v l) := by
  intro l h
  unfold formatP
  rw [lower_app]
  congr 1
  induction l with
  | nil => rfl
  | cons p l ih =>
    rw [List.map_cons, List.flatMap_cons, List.flatMap_cons, lower_app, ih (fun q hq => h q (by simp [hq])), lower_cons]
    congr 1
    unfold pieceP lowV
    simp only
    rw [lower_app, lower_cons, h p (by simp), wr_lower]; rfl
theorem badQ_lower (s : Str) : badQ (lower s) = badQ s := by
  unfold badQ
  rw [lower_getD, lower_getD, lower_length, decide_eq_decide.2 (lower_nil (s := s)), decide_eq_decide.2 (lowerB_iff (c := 48) (by decide) _), decide_eq_decide.2 (lowerB_iff (c := 49) (by decide) _), decide_eq_decide.2 (lowerB_iff (c := 46) (by decide) _)]
theorem digsQ_lower (s : Str) : digsQ (lower s) = digsQ s := by
  unfold digsQ
  rw [← lower_drop]
  unfold lower
  rw [List.all_map]
  congr 1
  funext c; exact dig_lower c
theorem digV_lower {c : UInt8} (h : digB c = true) : lowerB c = c := by
  have := all_u8 (fun c => !digB c || decide (lowerB c = c)) (by decide +kernel) c
  rw [h] at this; simpa using this
theorem low_q {s : Str} (h1 : badQ s = false) (h2 : digsQ s = true) : lower s = s := by
  unfold badQ at h1
  simp only [Bool.or_eq_false_iff, Bool.and_eq_false_iff, decide_eq_false_iff_not, Bool.not_eq_false', decide_eq_true_eq] at h1
  obtain ⟨⟨⟨hne, hl⟩, h0⟩, hd⟩ := h1
  suffices key : ∀ c ∈ s, lowerB c = c by
    unfold lower
    conv => rhs; rw [← List.map_id s]
    exact List.map_congr_left key
  intro c hc
  obtain ⟨i, hi2, rfl⟩ := List.getElem_of_mem hc
  rcases Nat.lt_or_ge i 2 with h | h
  · have : i = 0 ∨ i = 1 := by omega
    rcases this with rfl | rfl
    · rw [getD_get hi2] at h0
      rcases h0 with h0 | h0 <;> rw [h0] <;> rfl
    · have := hd.resolve_left (by omega)
      rw [getD_get hi2] at this
      rw [this]; rfl
  · unfold digsQ at h2
    have := List.all_eq_true.1 h2 s[i] (by
      have : s[i] = (s.drop 2)[i - 2]'(by rw [List.length_drop]; omega) := by rw [List.getElem_drop]; congr 1; omega
      rw [this]; exact List.getElem_mem _)
    exact digV_lower this
theorem parseQ_lower (s : Str) : parseQ (lower s) = parseQ s := by
  by_cases h1 : badQ s = true
  · unfold parseQ; rw [if_pos h1, if_pos (by rw [badQ_lower]; exact h1)]
  · by_cases h2 : digsQ s = false
    · unfold parseQ; rw [if_neg h1, if_neg (by rw [badQ_lower]; exact h1), if_pos h2, if_pos (by rw [digsQ_lower]; exact h2)]
    · rw [low_q (by simpa using h1) (by simpa using h2)]
theorem parseR_lowered (s : Str) : lower (parseR s).1.1 = (parseR s).1.1 ∧ lower (parseR s).1.2.1 = (parseR s).1.2.1 := by
  by_cases h : (parseP s).2.2 = false ∨ okRange (parseP s).1 = false
  · rw [parseR_no h]; exact ⟨rfl, rfl⟩
  · have h1 : (parseP s).2.2 = true := by cases h9 : (parseP s).2.2; exact absurd (.inl h9) h; rfl
    have h2 : okRange (parseP s).1 = true := by cases h9 : okRange (parseP s).1; exact absurd (.inr h9) h; rfl
    rw [parseR_yes h1 h2]; exact ⟨lower_idem _, lower_idem _⟩
theorem ranged_lower {kind : Int} {v : Str} {ps : List Prm} (h : ∀ p ∈ ps, lower p.1 = p.1) : rangedF kind (lower v) (ps.map lowV) = (lower (rangedF kind v ps).1, (rangedF kind v ps).2) := by
  unfold rangedF
  split
  · rw [parseR_lower]
    simp only
    have hR := parseR_lowered v
    unfold formatT
    simp only
    rw [← formatP_lower h, lower_app, lower_app, hR.1, hR.2]; rfl
  · split
    · rw [canonical_lower, range_lower, List.length_map, lower_canonical]
    · rw [canonical_lower, token_lower, List.length_map, lower_canonical]
theorem qAt_low (l : List Prm) : qAt (l.map lowV) = qAt l := by unfold qAt; rw [List.findIdx_map]; rfl
theorem low_getD (l : List Prm) (i : Nat) : (l.map lowV).getD i ([], []) = lowV (l.getD i ([], [])) := by
  rw [List.getD_eq_getElem?_getD, List.getD_eq_getElem?_getD, List.getElem?_map]
  cases l[i]? <;> rfl
theorem pref_lower (kind : Int) (s : Str) : prefF kind (lower s) = ((lower (prefF kind s).1.1, (prefF kind s).1.2), (prefF kind s).2) := by
  have hg : ∀ p ∈ (parseP s).2.1, lower p.1 = p.1 := fun p hp => (parse_goodness s p hp).2.1
  unfold prefF
  rw [parseP_lower]
  simp only
  rw [qAt_low, List.length_map, low_getD]
  unfold lowV
  simp only
  rw [parseQ_lower]
  split
  · rfl
  · split
    · split
      · rfl
      · rw [← List.map_take]
        have := ranged_lower (kind := kind) (v := (parseP s).1) (ps := (parseP s).2.1.take (qAt (parseP s).2.1)) (fun p hp => hg p (List.mem_of_mem_take hp))
        unfold lowV at this
        rw [this]
    · have := ranged_lower (kind := kind) (v := (parseP s).1) (ps := (parseP s).2.1) hg
      unfold lowV at this
      rw [this]
def lowR (p : Prf) : Prf := (lower p.1, p.2)
theorem prefsM_lower (kind : Int) (M : List Str) : prefsM kind (M.map lower) = (prefsM kind M).map lowR := by
  unfold prefsM
  induction M with
  | nil => rfl
  | cons m M ih =>
    simp only [List.map_cons, List.filter_cons, pref_lower] at ih ⊢
    split
    · rw [List.map_cons, List.map_cons, List.map_cons, ih]; rfl
    · exact ih
theorem matchT_low (t v : Med) (ps : List Prm) : matchT (t.1, t.2.1, ps.map lowV) v = matchT (t.1, t.2.1, ps) v := by
  unfold matchT
  simp only [List.length_map, List.all_map]
  have : (fun p => v.2.2.any (matchB p)) ∘ lowV = fun p => v.2.2.any (matchB p) := by
    funext p
    simp only [Function.comp_apply]
    congr 1
    funext x
    unfold matchB lowV
    simp only
    congr 1
    unfold fold
    rw [lower_length, lower_idem]
  rw [this]
theorem match_lower (kind : Int) (r v : Str) : matchK kind (lower r) v = matchK kind r v := by
  unfold matchK
  split
  · rw [parseR_lower]
    simp only
    split
    · rfl
    · exact matchT_low _ _ _
  · split
    · unfold matchL
      rw [range_lower, lower_idem, subt_lower, List.length_map]
      by_cases h : rangeL r = false ∨ tagF v = false
      · rw [if_pos h, if_pos h]
      · rw [if_neg h, if_neg h]
        by_cases h2 : r = [42]
        · rw [if_pos h2, if_pos ((lower_eq_star r).2 h2)]
        · rw [if_neg h2, if_neg (fun e => h2 ((lower_eq_star r).1 e))]
    · split
      · rw [token_lower]
        split
        · rfl
        · unfold matchCoding
          rw [canonical_lower]
          by_cases h2 : r = [42]
          · rw [if_pos h2, if_pos ((lower_eq_star r).2 h2)]
          · rw [if_neg h2, if_neg (fun e => h2 ((lower_eq_star r).1 e))]
      · rfl
theorem best_low (kind : Int) (v : Str) : ∀ (l : List Prf) (s : Int × Int), (l.map lowR).foldl (bestS kind v) s = l.foldl (bestS kind v) s
  | [], _ => rfl
  | p :: l, s => by
    rw [List.map_cons, List.foldl_cons, List.foldl_cons, show bestS kind v s (lowR p) = bestS kind v s p by unfold bestS lowR; simp only; rw [match_lower]]
    exact best_low kind v l _
theorem qual_low (kind : Int) (l : List Prf) (present : Bool) (v : Str) : qualF kind (l.map lowR) present v = qualF kind l present v := by
  unfold qualF bestF; rw [best_low]
theorem memG_lower (X : List Str) : memG (X.map lower) = (memG X).map lower := by
  unfold memG
  induction X with
  | nil => rfl
  | cons x X ih =>
    simp only [List.map_cons, List.filter_cons, trim_lower]
    have e : neB (lower (trim x)) = neB (trim x) := by unfold neB; rw [decide_eq_decide.2 (lower_nil (s := trim x))]
    rw [e]
    split
    · rw [List.map_cons, ih]
    · exact ih
theorem split_lower (v : Str) : splitF (lower v) = (splitF v).map lower := by
  unfold splitF
  rw [cutF_lower (by decide), memG_lower, List.map_take]
theorem allV_lower (X : List Str) : allV (X.map lower) = (allV X).map lower := by
  unfold allV
  rw [List.map_take]
  congr 1
  induction X with
  | nil => rfl
  | cons x X ih => rw [List.map_cons, List.flatMap_cons, List.flatMap_cons, List.map_append, ih, split_lower]

def lowField (f : Fld) : Fld := if kindF f.1 = 0 then f else (f.1, lower f.2)
theorem fold_of {x y : Str} (h : fold x y = true) (n : Str) : fold x n = fold y n := by
  have h1 := fold_iff.1 h
  have h2 : x.length = y.length := by have := congrArg List.length h1; rwa [lower_length, lower_length] at this
  unfold fold
  rw [h1, h2]
theorem kind_same {x y : Str} (h : fold x y = true) : kindF x = kindF y := by
  unfold kindF
  rw [fold_of h, fold_of h, fold_of h, fold_of h]
theorem low_name (f : Fld) : (lowField f).1 = f.1 := by unfold lowField; split <;> rfl
theorem getF_low_kind {n : Str} (hk : ¬ kindF n = 0) : ∀ l : List Fld, getF (l.map lowField) n = (getF l n).map lower
  | [] => rfl
  | f :: l => by
    rw [List.map_cons, getF_cons, getF_cons, low_name, getF_low_kind hk l]
    cases h : fold f.1 n with
    | false => rfl
    | true =>
      have : (lowField f).2 = lower f.2 := by unfold lowField; rw [if_neg (by rw [kind_same h]; exact hk)]
      simp only [cond_true, List.map_cons, this]
theorem getF_low_other {n : Str} (hk : kindF n = 0) : ∀ l : List Fld, getF (l.map lowField) n = getF l n
  | [] => rfl
  | f :: l => by
    rw [List.map_cons, getF_cons, getF_cons, low_name, getF_low_other hk l]
    cases h : fold f.1 n with
    | false => rfl
    | true =>
      have : (lowField f).2 = f.2 := by unfold lowField; rw [if_pos (by rw [kind_same h]; exact hk)]
      simp only [cond_true, this]
theorem low_at {l m : List Fld} {i : Nat} (hi : i < l.length) (e : m = (l.take i).map lowField ++ l.drop i) : m.getD i ([], []) = l.getD i ([], []) := by
  rw [e, List.getD_eq_getElem?_getD, List.getElem?_append_right (by rw [List.length_map, List.length_take]; omega), List.length_map, List.length_take, Nat.min_eq_left (by omega), Nat.sub_self, List.getElem?_drop, Nat.add_zero, ← List.getD_eq_getElem?_getD]
theorem low_next {l : List Fld} {i : Nat} (hi : i < l.length) : (l.take (i + 1)).map lowField ++ l.drop (i + 1) = (l.take i).map lowField ++ lowField (l.getD i ([], [])) :: l.drop (i + 1) := by
  rw [List.take_succ_eq_append_getElem hi, List.map_append, getD_get hi]; simp
theorem low_hit {l m : List Fld} {i : Nat} (hi : i < l.length) (e : m = (l.take i).map lowField ++ l.drop i) (hk : ¬ kindF (m.getD i ([], [])).1 = 0) : m.set i ((m.getD i ([], [])).1, lower (m.getD i ([], [])).2) = (l.take (i + 1)).map lowField ++ l.drop (i + 1) := by
  rw [low_next hi]
  rw [low_at hi e] at hk ⊢
  rw [e, List.set_append, if_neg (by rw [List.length_map, List.length_take]; omega), List.length_map, List.length_take, Nat.min_eq_left (by omega), Nat.sub_self, drop_step (dd := ([], [])) hi, List.set_cons_zero]
  congr 2
  unfold lowField; rw [if_neg hk]
theorem low_miss {l m : List Fld} {i : Nat} (hi : i < l.length) (e : m = (l.take i).map lowField ++ l.drop i) (hk : kindF (m.getD i ([], [])).1 = 0) : m = (l.take (i + 1)).map lowField ++ l.drop (i + 1) := by
  rw [low_next hi, e, drop_step (dd := ([], [])) hi]
  rw [low_at hi e] at hk
  congr 2
  unfold lowField; rw [if_pos hk]
theorem low_end {l m : List Fld} {i : Nat} (hi : l.length ≤ i) (e : m = (l.take i).map lowField ++ l.drop i) : m = l.map lowField := by
  rw [e, List.take_of_length_le hi, List.drop_eq_nil_of_le hi, List.append_nil]
theorem low_len {l : List Fld} {i n : Nat} (h : ∀ z ∈ l, z.1.length ≤ n ∧ z.2.length ≤ n) : ∀ z ∈ (l.take i).map lowField ++ l.drop i, z.1.length ≤ n ∧ z.2.length ≤ n := fun z hz => by
  rcases List.mem_append.1 hz with hz | hz
  · obtain ⟨y, hy, rfl⟩ := List.mem_map.1 hz
    have := h y (List.mem_of_mem_take hy)
    unfold lowField
    split
    · exact this
    · simp only [lower_length]; exact this
  · exact h z (List.mem_of_mem_drop hz)
section
variable {axes : List Axs} {l m : List Fld} {strict : Bool}
/-- A field of a kind matters only through the qualities. -/
theorem rankO_qual {a : Axs} (hk : ¬ kindF a.1 = 0) (h : ∀ v ∈ a.2, qualF (kindF a.1) (prefsF (kindF a.1) l).1 (prefsF (kindF a.1) l).2 v = qualF (kindF a.1) (prefsF (kindF a.1) m).1 (prefsF (kindF a.1) m).2 v) : rankO a l = rankO a m := by
  rw [rankO_kind hk, rankO_kind hk, rankG_congr h]
theorem prefs_lower {kind : Int} (hk : ¬ kindF (nameK kind) = 0) : prefsF kind (l.map lowField) = ((prefsF kind l).1.map lowR, (prefsF kind l).2) := by
  unfold prefsF allF
  rw [getF_low_kind hk, List.length_map]
  split
  · rfl
  · rw [allV_lower, prefsM_lower]
theorem low_class (hv : validL axes = true) : sameC axes l (l.map lowField) strict = true := by
  refine sameC_of hv fun a _ => ?_
  by_cases hk : kindF a.1 = 0
  · refine rankO_congr ?_
    unfold targetF
    rw [if_pos hk, getF_low_other hk]
  · refine rankO_qual hk fun v _ => ?_
    have hk2 : ¬ kindF (nameK (kindF a.1)) = 0 := by rw [← kind_same (kind_fold hk)]; exact hk
    rw [prefs_lower hk2, qual_low]
/-! ### A member that matches nothing -/
end
end Go.Plain
