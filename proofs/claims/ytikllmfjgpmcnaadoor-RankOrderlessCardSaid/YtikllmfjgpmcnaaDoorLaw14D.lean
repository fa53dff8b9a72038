/-
  Plain law: the order of two preferences does not matter where no two match with the same specificity; and opening a row that one holds. No program but the calculus in sight.
-/
import Derived.Test.YtikllmfjgpmcnaaDoorLaw14
import Derived.Test.YtikllmfjgpmcnaaDoorSepN
namespace Go.Sep
open Go
/-- A row behind a value, opened: it has elements. -/
theorem j_open_row {c : Cx} {L : List (Nat × Value)} {R : List Asn} {K : Act → World → Prop} {v : Value} {E : TypeId} {t : Ty} {xs : List t.den} (hne : 0 < xs.length) (h : ∀ g cap, v = .slice (some ⟨g, 0, none⟩) xs.length cap → J c L (.rowg g cap E t xs :: R) K) : J c L (.row v E t xs :: R) K := fun a w hf hm => by
  obtain ⟨I, m, he, m1, m2, rfl, hr, h2⟩ := hm
  rcases hr with ⟨_, rfl, _⟩ | ⟨g, cap, e, rfl, h3⟩
  · simp at hne
  · exact h g cap e a w hf ⟨I, [g] ++ m2, he, [g], m2, rfl, ⟨rfl, h3⟩, h2⟩
end Go.Sep
namespace Go.Plain
open Go
set_option linter.unusedSimpArgs false
set_option linter.unusedVariables false
section
variable {kind : Int} {v : Str}
theorem best_char : ∀ (l : List Prf) (s : Int × Int), (l.foldl (bestS kind v) s = s ∧ ∀ p ∈ l, matchK kind p.1 v ≤ s.1) ∨ (∃ p ∈ l, l.foldl (bestS kind v) s = (matchK kind p.1 v, p.2) ∧ s.1 < matchK kind p.1 v ∧ ∀ p' ∈ l, matchK kind p'.1 v ≤ matchK kind p.1 v)
  | [], s => .inl ⟨rfl, fun p hp => by cases hp⟩
  | p :: l, s => by
    rw [List.foldl_cons]
    by_cases h : s.1 < matchK kind p.1 v
    · have e : bestS kind v s p = (matchK kind p.1 v, p.2) := by unfold bestS; rw [if_pos h]
      rw [e]
      rcases best_char l (matchK kind p.1 v, p.2) with ⟨a, b⟩ | ⟨x, hx, a, b, c⟩
      · refine .inr ⟨p, by simp, a, h, fun p' hp' => ?_⟩
        rcases List.mem_cons.1 hp' with rfl | hp'
        · exact Int.le_refl _
        · exact b p' hp'
      · simp only at b
        refine .inr ⟨x, by simp [hx], a, by omega, fun p' hp' => ?_⟩
        rcases List.mem_cons.1 hp' with rfl | hp'
        · omega
        · exact c p' hp'
    · have e : bestS kind v s p = s := by unfold bestS; rw [if_neg h]
      rw [e]
      rcases best_char l s with ⟨a, b⟩ | ⟨x, hx, a, b, c⟩
      · refine .inl ⟨a, fun p' hp' => ?_⟩
        rcases List.mem_cons.1 hp' with rfl | hp'
        · omega
        · exact b p' hp'
      · refine .inr ⟨x, by simp [hx], a, b, fun p' hp' => ?_⟩
        rcases List.mem_cons.1 hp' with rfl | hp'
        · omega
        · exact c p' hp'
theorem best_same {l m : List Prf} (hm : ∀ p, p ∈ m ↔ p ∈ l) (hd : ∀ p ∈ l, ∀ p' ∈ l, 0 ≤ matchK kind p.1 v → matchK kind p.1 v = matchK kind p'.1 v → p = p') : bestF kind v m 0 = bestF kind v l 0 := by
  unfold bestF
  rcases best_char (kind := kind) (v := v) l (-1, 0) with ⟨a, b⟩ | ⟨x, hx, a, b, c⟩
  · rcases best_char (kind := kind) (v := v) m (-1, 0) with ⟨a', b'⟩ | ⟨y, hy, a', b', c'⟩
    · rw [a, a']
    · have := b y ((hm y).1 hy); omega
  · rcases best_char (kind := kind) (v := v) m (-1, 0) with ⟨a', b'⟩ | ⟨y, hy, a', b', c'⟩
    · have := b' x ((hm x).2 hx); omega
    · have h1 := c y ((hm y).1 hy)
      have h2 := c' x ((hm x).2 hx)
      simp only at b b'
      obtain rfl := hd x hx y ((hm y).1 hy) (by omega) (by omega)
      rw [a, a']
theorem qual_same {l m : List Prf} (hm : ∀ p, p ∈ m ↔ p ∈ l) (hd : ∀ p ∈ l, ∀ p' ∈ l, 0 ≤ matchK kind p.1 v → matchK kind p.1 v = matchK kind p'.1 v → p = p') : qualF kind l true v = qualF kind m true v := by
  unfold qualF; rw [best_same hm hd]
end
theorem swap_mem {l : List Prf} {i k : Nat} (hi : i < l.length) (hk : k < l.length) (p : Prf) : p ∈ (l.set i (l.getD k ([], 0))).set k (l.getD i ([], 0)) ↔ p ∈ l := by
  rw [getD_get (dd := ([], 0)) hi, getD_get (dd := ([], 0)) hk]
  constructor
  · intro h
    rcases List.mem_or_eq_of_mem_set h with h | rfl
    · rcases List.mem_or_eq_of_mem_set h with h | rfl
      · exact h
      · exact List.getElem_mem hk
    · exact List.getElem_mem hi
  · intro h
    obtain ⟨j, hj, rfl⟩ := List.getElem_of_mem h
    rw [List.mem_iff_getElem?]
    by_cases h1 : j = i
    · subst h1; exact ⟨k, by rw [List.getElem?_set_self (by simpa using hk)]⟩
    · by_cases h2 : j = k
      · subst h2; exact ⟨i, by rw [List.getElem?_set_ne (fun e => h1 e), List.getElem?_set_self hi]⟩
      · exact ⟨j, by rw [List.getElem?_set_ne (fun e => h2 e.symm), List.getElem?_set_ne (fun e => h1 e.symm), List.getElem?_eq_getElem hj]⟩
theorem dist_of {kind : Int} {v : Str} {l : List Prf} (h : ∀ x : Nat, x < l.length → ∀ y : Nat, y < x → ¬ (0 ≤ matchK kind (l.getD x ([], 0)).1 v ∧ matchK kind (l.getD x ([], 0)).1 v = matchK kind (l.getD y ([], 0)).1 v)) :
    ∀ p ∈ l, ∀ p' ∈ l, 0 ≤ matchK kind p.1 v → matchK kind p.1 v = matchK kind p'.1 v → p = p' := by
  intro p hp p' hp' h0 he
  obtain ⟨x, hx, rfl⟩ := List.getElem_of_mem hp
  obtain ⟨y, hy, rfl⟩ := List.getElem_of_mem hp'
  rcases Nat.lt_trichotomy x y with q | q | q
  · have := h y hy x q
    rw [getD_get hx, getD_get hy] at this
    exact absurd ⟨by omega, he.symm⟩ this
  · subst q; rfl
  · have := h x hx y q
    rw [getD_get hx, getD_get hy] at this
    exact absurd ⟨h0, he⟩ this
end Go.Plain
