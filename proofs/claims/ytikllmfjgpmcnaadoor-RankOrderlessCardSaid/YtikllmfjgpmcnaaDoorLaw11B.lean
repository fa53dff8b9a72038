/-
  Plain laws of matching language tags, and of matching ranges in general. No program in sight.
-/
import Derived.Test.YtikllmfjgpmcnaaDoorLaw13
namespace Go.Plain
open Go
set_option linter.unusedSimpArgs false
set_option linter.unusedVariables false

def hasP (s p : Str) : Bool := decide (p.length ≤ s.length) && decide (s.take p.length = p)
theorem hasP_iff {s p : Str} : hasP s p = true ↔ p <+: s := by
  unfold hasP
  rw [Bool.and_eq_true, decide_eq_true_eq, decide_eq_true_eq, List.prefix_iff_eq_take]
  exact ⟨fun h => h.2.symm, fun h => ⟨by rw [h, List.length_take]; omega, h.symm⟩⟩
theorem cutAt_free : ∀ (s cur : Str), (45 : UInt8) ∉ cur → ∀ x ∈ cutAt 45 cur s, (45 : UInt8) ∉ x
  | [], cur, hc, x, hx => by simp [cutAt] at hx; rw [hx]; exact hc
  | b :: r, cur, hc, x, hx => by
    rw [cutAt] at hx
    by_cases hb : b = 45
    · rw [if_pos hb] at hx
      rcases List.mem_cons.1 hx with rfl | hx
      · exact hc
      · exact cutAt_free r [] (by simp) x hx
    · rw [if_neg hb] at hx
      exact cutAt_free r (cur ++ [b]) (by simp [hc]; exact fun e => hb e.symm) x hx
theorem subt_free (s : Str) : ∀ x ∈ subt s, (45 : UInt8) ∉ x := cutAt_free s [] (by simp)
theorem cutAt_back : ∀ (s cur : Str), (cutAt 45 cur s).flatMap (fun x => x ++ [45]) = cur ++ s ++ [45]
  | [], cur => by simp [cutAt]
  | b :: r, cur => by
    rw [cutAt]
    by_cases hb : b = 45
    · rw [if_pos hb, List.flatMap_cons, cutAt_back r [], hb]; simp
    · rw [if_neg hb, cutAt_back r (cur ++ [b])]; simp
theorem subt_back (s : Str) : (subt s).flatMap (fun x => x ++ [45]) = s ++ [45] := cutAt_back s []
theorem free_eq : ∀ {x y u v : Str}, (45 : UInt8) ∉ x → (45 : UInt8) ∉ y → (x ++ 45 :: u) <+: (y ++ 45 :: v) → x = y ∧ u <+: v
  | [], [], u, v, _, _, h => ⟨rfl, by simpa using h⟩
  | [], b :: y, u, v, _, hy, h => by
    simp only [List.nil_append, List.cons_append, List.cons_prefix_cons] at h
    exact absurd (by rw [← h.1]; simp) hy
  | a :: x, [], u, v, hx, _, h => by
    simp only [List.nil_append, List.cons_append, List.cons_prefix_cons] at h
    exact absurd (by rw [h.1]; simp) hx
  | a :: x, b :: y, u, v, hx, hy, h => by
    simp only [List.cons_append, List.cons_prefix_cons] at h
    obtain ⟨e, h2⟩ := free_eq (x := x) (y := y) (fun q => hx (by simp [q])) (fun q => hy (by simp [q])) h.2
    exact ⟨by rw [h.1, e], h2⟩
theorem flat_prefix : ∀ {X Y : List Str}, (∀ x ∈ X, (45 : UInt8) ∉ x) → (∀ y ∈ Y, (45 : UInt8) ∉ y) → (X.flatMap (fun x => x ++ [45]) <+: Y.flatMap (fun x => x ++ [45]) ↔ X <+: Y)
  | [], Y, _, _ => by simp
  | x :: X, [], _, _ => by simp
  | x :: X, y :: Y, hX, hY => by
    rw [List.flatMap_cons, List.flatMap_cons, List.append_assoc, List.append_assoc, List.singleton_append, List.singleton_append, List.cons_prefix_cons]
    constructor
    · intro h
      obtain ⟨e, h2⟩ := free_eq (hX x (by simp)) (hY y (by simp)) h
      exact ⟨e, (flat_prefix (fun z hz => hX z (by simp [hz])) (fun z hz => hY z (by simp [hz]))).1 h2⟩
    · rintro ⟨rfl, h⟩
      have := (flat_prefix (fun z hz => hX z (by simp [hz])) (fun z hz => hY z (by simp [hz]))).2 h
      obtain ⟨t, e⟩ := this
      exact ⟨t, by rw [← e]; simp⟩
theorem hasP_sub (s p : Str) : hasP (s ++ [45]) (p ++ [45]) = (subt p).isPrefixOf (subt s) := by
  rw [Bool.eq_iff_iff, hasP_iff, List.isPrefixOf_iff_prefix, ← subt_back s, ← subt_back p]
  exact flat_prefix (subt_free p) (subt_free s)
theorem lowerB_45 (b : UInt8) : lowerB b = 45 ↔ b = 45 := by
  have := all_u8 (fun b => decide ((lowerB b = 45) ↔ b = 45)) (by decide +kernel) b
  simpa using this
theorem cutAt_lower : ∀ (s cur : Str), cutAt 45 (lower cur) (lower s) = (cutAt 45 cur s).map lower
  | [], cur => by simp [cutAt, lower]
  | b :: r, cur => by
    have e : lower (b :: r) = lowerB b :: lower r := rfl
    rw [e, cutAt, cutAt]
    by_cases hb : b = 45
    · rw [if_pos hb, if_pos ((lowerB_45 b).2 hb), List.map_cons, ← cutAt_lower r []]; rfl
    · rw [if_neg hb, if_neg (fun q => hb ((lowerB_45 b).1 q)), ← cutAt_lower r (cur ++ [b])]
      congr 1
      simp [lower]
theorem subt_lower (s : Str) : subt (lower s) = (subt s).map lower := cutAt_lower s []
theorem tagM_no {r t : Str} (h : rangeL r = false ∨ tagF t = false) : matchL r t = -1 := if_pos h
theorem tagM_all {r t : Str} (h : ¬ (rangeL r = false ∨ tagF t = false)) (h2 : r = [42]) : matchL r t = 0 := by unfold matchL; rw [if_neg h, if_pos h2]
theorem tagM_pre {r t : Str} (h : ¬ (rangeL r = false ∨ tagF t = false)) (h2 : ¬ r = [42]) (h3 : hasP (lower t ++ [45]) (lower r ++ [45]) = true) : matchL r t = ((List.count 45 r + 1 : Nat) : Int) := by
  unfold matchL
  rw [if_neg h, if_neg h2, if_pos (by rw [← hasP_sub]; exact h3)]
  unfold subt
  rw [cutAt_length]
theorem tagM_not {r t : Str} (h : ¬ (rangeL r = false ∨ tagF t = false)) (h2 : ¬ r = [42]) (h3 : hasP (lower t ++ [45]) (lower r ++ [45]) = false) : matchL r t = -1 := by
  unfold matchL
  rw [if_neg h, if_neg h2, if_neg (by rw [← hasP_sub, h3]; simp)]
theorem map_take_step {A B : List Str} {i : Nat} (ha : i < A.length) (hb : i < B.length) (h : fold (A.getD i []) (B.getD i []) = true) (e : (A.take i).map lower = (B.take i).map lower) : (A.take (i + 1)).map lower = (B.take (i + 1)).map lower := by
  rw [List.take_succ_eq_append_getElem ha, List.take_succ_eq_append_getElem hb, List.map_append, List.map_append, e, ← getD_get (dd := []) ha, ← getD_get (dd := []) hb, List.map_cons, List.map_cons, fold_iff.1 h]
theorem tagR_all {r t : Str} {i : Nat} (h : ¬ (rangeL r = false ∨ tagF t = false)) (h2 : ¬ r = [42]) (hi : (subt r).length ≤ i) (hb : i ≤ (subt t).length) (e : ((subt r).take i).map lower = ((subt t).take i).map lower) : matchL r t = (((subt r).length : Nat) : Int) := by
  unfold matchL
  rw [if_neg h, if_neg h2, if_pos]
  rw [List.isPrefixOf_iff_prefix, subt_lower, subt_lower, ← take_over (s := subt r) hi, e]
  exact List.IsPrefix.map _ (List.take_prefix i _)
theorem tagR_not {r t : Str} {i : Nat} (h : ¬ (rangeL r = false ∨ tagF t = false)) (h2 : ¬ r = [42]) (hi : i < (subt r).length) (hb : i = (subt t).length ∨ fold ((subt r).getD i []) ((subt t).getD i []) = false) (hl : i ≤ (subt t).length) : matchL r t = -1 := by
  unfold matchL
  rw [if_neg h, if_neg h2, if_neg]
  rw [List.isPrefixOf_iff_prefix, subt_lower, subt_lower]
  intro hp
  have hl2 := hp.length_le
  simp only [List.length_map] at hl2
  rcases hb with hb | hb
  · omega
  · have hi2 : i < (subt t).length := by omega
    have := List.IsPrefix.getElem hp (i := i) (by simpa using hi)
    simp only [List.getElem_map] at this
    rw [getD_get hi, getD_get hi2] at hb
    exact fold_false.1 hb this

/-! ### Matching in general -/
def matchK (kind : Int) (r v : Str) : Int :=
  if kind = 1 then (if (parseR r).2 = false ∨ (parseT v).2 = false then -1 else matchT (parseR r).1 (parseT v).1)
  else if kind = 2 then matchL r v
  else if kind = 3 ∨ kind = 4 then (if (token r = false ∨ token v = false) ∨ v = [42] then -1 else matchCoding kind r v) else -1
section
variable {kind : Int} {r v : Str}
theorem mK1_no (hk : kind = 1) (h : (parseR r).2 = false ∨ (parseT v).2 = false) : matchK kind r v = -1 := by unfold matchK; rw [if_pos hk, if_pos h]
theorem mK1_yes (hk : kind = 1) (h : (parseR r).2 = true ∧ (parseT v).2 = true) : matchK kind r v = matchT (parseR r).1 (parseT v).1 := by unfold matchK; rw [if_pos hk, if_neg (by rw [h.1, h.2]; simp)]
theorem mK2 (h1 : ¬ kind = 1) (hk : kind = 2) : matchK kind r v = matchL r v := by unfold matchK; rw [if_neg h1, if_pos hk]
theorem mK3_no (h1 : ¬ kind = 1) (h2 : ¬ kind = 2) (hk : kind = 3 ∨ kind = 4) (h : (token r = false ∨ token v = false) ∨ v = [42]) : matchK kind r v = -1 := by unfold matchK; rw [if_neg h1, if_neg h2, if_pos hk, if_pos h]
theorem mK3_yes (h1 : ¬ kind = 1) (h2 : ¬ kind = 2) (hk : kind = 3 ∨ kind = 4) (h : (token r = true ∧ token v = true) ∧ ¬ v = [42]) : matchK kind r v = matchCoding kind r v := by unfold matchK; rw [if_neg h1, if_neg h2, if_pos hk, if_neg (by rw [h.1.1, h.1.2]; simp [h.2])]
theorem mK5 (h1 : ¬ kind = 1) (h2 : ¬ kind = 2) (h3 : ¬ kind = 3) (h4 : ¬ kind = 4) : matchK kind r v = -1 := by unfold matchK; rw [if_neg h1, if_neg h2, if_neg (by omega)]
end
end Go.Plain
