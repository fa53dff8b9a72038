/-
  Plain law: a preference of quality 0 for a value itself excludes it. No program in sight.
-/
import Derived.Test.YtikllmfjgpmcnaaDoorLaw14
namespace Go.Plain
open Go
set_option linter.unusedSimpArgs false
set_option linter.unusedVariables false

section
variable {kind : Int} {value : Str} {less : List Prf}
theorem best_below (q0 : Int) (h0 : 0 ≤ matchK kind value value) : ∀ {less : List Prf}, (∀ p ∈ less, matchK kind p.1 value < matchK kind value value) → ∀ s : Int × Int, s.1 < matchK kind value value → (less.foldl (bestS kind value) s).1 < matchK kind value value
  | [], _, s, hs => hs
  | p :: r, h, s, hs => by
    rw [List.foldl_cons]
    refine best_below q0 h0 (fun q hq => h q (by simp [hq])) _ ?_
    unfold bestS
    split
    · exact h p (by simp)
    · exact hs
theorem best_stay : ∀ {less : List Prf}, (∀ p ∈ less, matchK kind p.1 value < matchK kind value value) → ∀ q : Int, less.foldl (bestS kind value) (matchK kind value value, q) = (matchK kind value value, q)
  | [], _, q => rfl
  | p :: r, h, q => by
    rw [List.foldl_cons]
    have : bestS kind value (matchK kind value value, q) p = (matchK kind value value, q) := by
      unfold bestS
      rw [if_neg]
      have := h p (by simp)
      simp only; omega
    rw [this]
    exact best_stay (fun q hq => h q (by simp [hq])) q
theorem ex_m (h : ∀ p ∈ less, matchK kind p.1 value < matchK kind value value) (h0 : 0 ≤ matchK kind value value) : qualF kind (([] ++ less) ++ [(value, ((0 : Nat) : Int))]) true value = 0 := by
  have e : bestF kind value (([] ++ less) ++ [(value, ((0 : Nat) : Int))]) 0 = (matchK kind value value, 0) := by
    unfold bestF
    rw [List.nil_append, List.foldl_append, List.foldl_cons, List.foldl_nil]
    have := best_below 0 h0 h (-1, 0) (by simp only; omega)
    unfold bestS at this ⊢
    rw [if_pos this]; rfl
  exact qual_q rfl e (fun q => by omega)
theorem ex_w (h : ∀ p ∈ less, matchK kind p.1 value < matchK kind value value) (h0 : 0 ≤ matchK kind value value) : qualF kind ([(value, ((0 : Nat) : Int))] ++ less) true value = 0 := by
  have e : bestF kind value ([(value, ((0 : Nat) : Int))] ++ less) 0 = (matchK kind value value, 0) := by
    unfold bestF
    rw [List.singleton_append, List.foldl_cons]
    have : bestS kind value (-1, 0) (value, ((0 : Nat) : Int)) = (matchK kind value value, 0) := by
      unfold bestS
      rw [if_pos (by simp only; omega)]; rfl
    rw [this]
    exact best_stay h 0
  exact qual_q rfl e (fun q => by omega)
theorem ex_r (h : ∀ p ∈ less, matchK kind p.1 value < matchK kind value value) (h0 : 0 ≤ matchK kind value value) : (rankG kind (([] ++ less) ++ [(value, ((0 : Nat) : Int))]) true [value]).1 = [] := by
  unfold rankG
  rw [List.foldl_cons, List.foldl_nil]
  unfold rankS
  rw [if_pos (by rw [ex_m h h0]; exact Int.le_refl _)]
end
end Go.Plain
