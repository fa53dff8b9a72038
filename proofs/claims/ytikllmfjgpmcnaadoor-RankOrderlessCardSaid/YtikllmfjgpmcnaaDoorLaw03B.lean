/-
  Plain laws of field lines. No program in sight.
-/
import Derived.Test.YtikllmfjgpmcnaaDoorLaw03
namespace Go.Plain
set_option linter.unusedSimpArgs false

theorem formatF_length (f : Str × Str) : (formatF f).length ≤ 2000 := by
  unfold formatF
  split
  · rename_i h
    unfold validF at h
    simp only [Bool.and_eq_true, decide_eq_true_eq] at h
    exact h.2
  · simp
theorem pos_append {a r : Str} {c : UInt8} (h : ∀ x ∈ a, x ≠ c) : pos (a ++ c :: r) c = a.length := by
  unfold pos
  induction a with
  | nil => simp [List.findIdx_cons]
  | cons b a ih =>
    rw [List.cons_append, List.findIdx_cons, ih fun x hx => h x (by simp [hx])]
    simp [h b (by simp)]
theorem token_bytes {s : Str} (h : token s = true) : ∀ x ∈ s, tokB x = true := by
  unfold token at h
  simp only [Bool.and_eq_true] at h
  exact fun x hx => List.all_eq_true.1 h.1 x hx
theorem token_no {s : Str} {c : UInt8} (h : token s = true) (hc : tokB c = false) : ∀ x ∈ s, x ≠ c := fun x hx e => by
  subst e
  rw [token_bytes h x hx] at hc
  cases hc
theorem trim_space (s : Str) : trim (32 :: s) = trim s := by
  rw [← trim_alt, ← trim_alt]
  unfold trimL
  rw [List.dropWhile_cons, if_pos (by decide)]
theorem parse_format (f : Str × Str) (h : validF f = true) : parseF (formatF f) = (f, 0) := by
  have hl := formatF_length f
  obtain ⟨a, b⟩ := f
  have hv := h
  unfold validF at hv
  simp only [Bool.and_eq_true, decide_eq_true_eq] at hv
  obtain ⟨⟨⟨h1, h2⟩, h3⟩, _⟩ := hv
  rw [formatF, if_pos h] at hl ⊢
  obtain ⟨r, e, ht, hr⟩ : ∃ r, lineOf (a, b) = a ++ 58 :: r ∧ text r = true ∧ trim r = b := by
    unfold lineOf
    by_cases hb : b = []
    · subst hb; exact ⟨[], by simp, rfl, rfl⟩
    · refine ⟨32 :: b, by simp [hb], ?_, by rw [trim_space]; exact h3⟩
      unfold text at h2 ⊢
      rw [List.all_cons, h2]; rfl
  have hp : pos (lineOf (a, b)) 58 = a.length := by rw [e]; exact pos_append (token_no h1 (by decide))
  have ht1 : (lineOf (a, b)).take a.length = a := by rw [e]; simp
  have hd1 : (lineOf (a, b)).drop (a.length + 1) = r := by rw [e]; simp [List.drop_append]
  unfold parseF
  rw [if_neg (by omega), hp, ht1, hd1, if_neg, if_pos]
  · rw [hr]
  · rw [hr]; exact h
  · rw [e]; simp [h1, ht]
end Go.Plain
