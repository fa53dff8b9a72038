/-
  Plain functions of media types and ranges. No program in sight.
-/
import Derived.Test.YtikllmfjgpmcnaaDoorLaw09B
namespace Go.Plain
set_option linter.unusedSimpArgs false
set_option linter.unusedVariables false

abbrev Med := Str × Str × List Prm
def okRange (v : Str) : Bool := token (v.take (pos v 47)) && token (v.drop (pos v 47 + 1)) && !(decide (v.take (pos v 47) = [42]) && !decide (v.drop (pos v 47 + 1) = [42]))
theorem okRange_eq (v : Str) : okRange v = !((!token (v.take (pos v 47)) || !token (v.drop (pos v 47 + 1))) || (decide (v.take (pos v 47) = [42]) && !decide (v.drop (pos v 47 + 1) = [42]))) := by
  unfold okRange; cases token (v.take (pos v 47)) <;> cases token (v.drop (pos v 47 + 1)) <;> simp
theorem okRange_none {v : Str} (h : ¬ pos v 47 < v.length) : okRange v = false := by
  have : v.drop (pos v 47 + 1) = [] := List.drop_of_length_le (by omega)
  unfold okRange; rw [this]; simp [token]
def parseR (s : Str) : Med × Bool :=
  if (parseP s).2.2 = true ∧ okRange (parseP s).1 = true then ((lower ((parseP s).1.take (pos (parseP s).1 47)), lower ((parseP s).1.drop (pos (parseP s).1 47 + 1)), (parseP s).2.1), true) else (([], [], []), false)
theorem parseR_no {s : Str} (h : (parseP s).2.2 = false ∨ okRange (parseP s).1 = false) : parseR s = (([], [], []), false) := by
  rw [parseR, if_neg]; rintro ⟨h1, h2⟩; rcases h with h | h
  · rw [h] at h1; cases h1
  · rw [h] at h2; cases h2
theorem parseR_yes {s : Str} (h1 : (parseP s).2.2 = true) (h2 : okRange (parseP s).1 = true) : parseR s = ((lower ((parseP s).1.take (pos (parseP s).1 47)), lower ((parseP s).1.drop (pos (parseP s).1 47 + 1)), (parseP s).2.1), true) := by
  rw [parseR, if_pos ⟨h1, h2⟩]
def badT (s : Str) : Bool := (!(parseR s).2 || decide ((parseR s).1.1 = [42])) || decide ((parseR s).1.2.1 = [42])
def parseT (s : Str) : Med × Bool := if badT s = true then (([], [], []), false) else parseR s
theorem parseT_no {s : Str} (h : badT s = true) : parseT s = (([], [], []), false) := by rw [parseT, if_pos h]
theorem parseT_yes {s : Str} (h : badT s = false) : parseT s = parseR s ∧ (parseR s).2 = true := by
  refine ⟨by rw [parseT, if_neg (by simp [h])], ?_⟩
  unfold badT at h
  cases hr : (parseR s).2
  · rw [hr] at h; simp at h
  · rfl
def formatT (t : Med) : Str := formatP ((t.1 ++ [47]) ++ t.2.1) t.2.2
theorem any_next {α : Type} {p : α → Bool} {l : List α} {i : Nat} {dd : α} (h : i < l.length) : (l.take (i + 1)).any p = ((l.take i).any p || p (l.getD i dd)) := by
  rw [List.take_succ_eq_append_getElem h, List.any_append, getD_get h]; simp
theorem not_not {a : Prop} : ¬¬a ↔ a := Classical.not_not
def matchB (p x : Prm) : Bool := decide (x.1 = p.1) && fold x.2 p.2
theorem fold_comm (a b : Str) : fold a b = fold b a := by unfold fold; rw [decide_eq_decide.2 (eq_comm (a := a.length)), decide_eq_decide.2 (eq_comm (a := lower a))]
theorem matchB_alt (p x : Prm) : (decide (p.1 = x.1) && fold p.2 x.2) = matchB p x := by unfold matchB; rw [fold_comm, decide_eq_decide.2 (eq_comm (a := p.1))]
def matchT (r t : Med) : Int :=
  if r.1 = [42] ∧ r.2.1 = [42] then 0 else if ¬ r.1 = t.1 then -1 else if r.2.1 = [42] then 1 else if ¬ r.2.1 = t.2.1 then -1
  else if r.2.2.all (fun p => t.2.2.any (matchB p)) = true then ((2 + r.2.2.length : Nat) : Int) else -1
theorem matchT_no2 {r t : Med} (h1 : ¬ r.1 = [42] ∨ ¬ r.2.1 = [42]) (h2 : ¬ r.2.1 = [42] ∨ ¬ r.1 = t.1) (h3 : ¬ r.1 = t.1 ∨ ¬ r.2.1 = t.2.1) : matchT r t = -1 := by
  unfold matchT
  rw [if_neg (fun e => by rcases h1 with h | h; exact h e.1; exact h e.2)]
  by_cases he : r.1 = t.1
  · have h2' : ¬ r.2.1 = [42] := by rcases h2 with h | h; exact h; exact absurd he h
    have h3' : ¬ r.2.1 = t.2.1 := by rcases h3 with h | h; exact absurd he h; exact h
    rw [if_neg (not_not.2 he), if_neg h2', if_pos h3']
  · rw [if_pos he]
def sameM (a b : Med) : Bool := ((decide (a.1 = b.1) && decide (a.2.1 = b.2.1)) && decide (a.2.2 = b.2.2))
theorem sameM_self (a : Med) : sameM a a = true := by simp [sameM]
def keepM (t : Med) : Bool := (decide (t.1.length ≤ 100) && decide (t.2.1.length ≤ 100)) && keepP t.2.2
theorem parseP_len1 (s : Str) : (parseP s).1.length ≤ s.length := by
  have h : (trim ((cutF s 59).getD 0 [])).length ≤ s.length := by have := getD_len (i := 0) (cutF_mem s 59); have := trim_length ((cutF s 59).getD 0 []); omega
  unfold parseP
  split
  · simp
  · split
    · simp
    · exact h
theorem oneP_len (x : Str) : (oneP x).1.length ≤ x.length ∧ (oneP x).2.1.length ≤ x.length := by
  unfold oneP
  split
  · simp
  · split
    · simp; omega
    · have := unq_length (x.drop (pos x 61 + 1)); simp at this ⊢; omega
theorem parsGo_mem {n : Nat} : ∀ (X : List Str) (acc l : List Prm), parsGo acc X = some l → (∀ x ∈ X, x.length ≤ n) → (∀ p ∈ acc, p.1.length ≤ n ∧ p.2.length ≤ n) → ∀ p ∈ l, p.1.length ≤ n ∧ p.2.length ≤ n
  | [], acc, l, h, _, ha => by simp [parsGo] at h; subst h; exact ha
  | x :: X, acc, l, h, hx, ha => by
    have hX : ∀ y ∈ X, y.length ≤ n := fun y hy => hx y (List.mem_cons_of_mem _ hy)
    unfold parsGo at h
    split at h
    · exact parsGo_mem X _ _ h hX ha
    · split at h
      · refine parsGo_mem X _ _ h hX fun p hp => ?_
        rcases List.mem_append.1 hp with hp | hp
        · exact ha p hp
        · obtain rfl := List.mem_singleton.1 hp
          have := oneP_len (trim x)
          have := trim_length x
          have := hx x List.mem_cons_self
          exact ⟨by simp only; omega, by simp only; omega⟩
      · cases h
theorem parseP_mem (s : Str) : ∀ p ∈ (parseP s).2.1, p.1.length ≤ s.length ∧ p.2.length ≤ s.length := by
  unfold parseP
  split
  · simp
  · split
    · simp
    · rename_i l h
      exact parsGo_mem _ _ _ h (fun x hx => cutF_mem s 59 x (List.mem_of_mem_drop hx)) (by simp)
theorem parseR_len (s : Str) : (parseR s).1.1.length ≤ s.length ∧ (parseR s).1.2.1.length ≤ s.length ∧ (parseR s).1.2.2.length ≤ s.length ∧ ∀ p ∈ (parseR s).1.2.2, p.1.length ≤ s.length ∧ p.2.length ≤ s.length := by
  unfold parseR
  have := parseP_len1 s
  split
  · exact ⟨by simp; omega, by simp; omega, parseP_length s, parseP_mem s⟩
  · simp
theorem parseT_len (s : Str) : (parseT s).1.1.length ≤ s.length ∧ (parseT s).1.2.1.length ≤ s.length ∧ (parseT s).1.2.2.length ≤ s.length ∧ ∀ p ∈ (parseT s).1.2.2, p.1.length ≤ s.length ∧ p.2.length ≤ s.length := by
  unfold parseT
  split
  · simp
  · exact parseR_len s
end Go.Plain
