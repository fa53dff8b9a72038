/-
  Plain functions on bytes: tokens, text, blanks, positions, field lines. No program in sight.
-/
import Derived.Test.YtikllmfjgpmcnaaDoorLaw12
import Derived.Lib.Bytealg
namespace Go.Plain
set_option linter.unusedSimpArgs false

/-! ### Bytes -/
def signs : Str := [33, 35, 36, 37, 38, 39, 42, 43, 45, 46, 94, 95, 96, 124, 126]
def tokB (c : UInt8) : Bool := signs.any (fun x => decide (x = c)) || (decide (48 ≤ c) && decide (c ≤ 57) || decide (65 ≤ c) && decide (c ≤ 90) || decide (97 ≤ c) && decide (c ≤ 122))
def textB (c : UInt8) : Bool := decide (c = 9) || (decide (32 ≤ c) && decide (c ≤ 126)) || decide (128 ≤ c)
def blankB (c : UInt8) : Bool := decide (c = 32) || decide (c = 9)

theorem textB_alt (c : UInt8) : (decide (c < 32) && !decide (c = 9) || decide (c = 127)) = !textB c := by
  simpa using all_u8 (fun c => decide ((decide (c < 32) && !decide (c = 9) || decide (c = 127)) = !textB c)) (by decide +kernel) c
theorem tokB_alt (c : UInt8) : (decide (97 ≤ c) && decide (c ≤ 122) || decide (65 ≤ c) && decide (c ≤ 90) || decide (48 ≤ c) && decide (c ≤ 57) || signs.any (fun x => decide (x = c))) = tokB c := by
  simpa using all_u8 (fun c => decide ((decide (97 ≤ c) && decide (c ≤ 122) || decide (65 ≤ c) && decide (c ≤ 90) || decide (48 ≤ c) && decide (c ≤ 57) || signs.any (fun x => decide (x = c))) = tokB c)) (by decide +kernel) c

/-! ### Loops over all elements, over any -/
section all
variable {α : Type} {p : α → Bool} {s : List α} {dd : α}
theorem getD_get {i : Nat} (h : i < s.length) : s.getD i dd = s[i] := by rw [List.getD_eq_getElem?_getD, List.getElem?_eq_getElem h]; rfl
theorem all_step {i : Nat} (h : i < s.length) (h1 : (s.take i).all p = true) (h2 : p (s.getD i dd) = true) : (s.take (i + 1)).all p = true := by
  rw [List.take_succ_eq_append_getElem h, List.all_append, h1, ← getD_get (dd := dd) h]
  simp only [List.all_cons, List.all_nil, h2, Bool.and_true]
theorem all_miss {i : Nat} (h : i < s.length) (h2 : p (s.getD i dd) = false) : s.all p = false := by
  rw [getD_get h] at h2
  rw [← Bool.not_eq_true, List.all_eq_true]
  intro h3
  rw [h3 _ (List.getElem_mem h)] at h2
  cases h2
theorem all_end {i : Nat} (h : s.length ≤ i) (h1 : (s.take i).all p = true) : s.all p = true := by rwa [List.take_of_length_le h] at h1
theorem any_step {i : Nat} (h : i < s.length) (h1 : (s.take i).any p = false) (h2 : p (s.getD i dd) = false) : (s.take (i + 1)).any p = false := by
  rw [List.take_succ_eq_append_getElem h, List.any_append, h1, ← getD_get (dd := dd) h]
  simp only [List.any_cons, List.any_nil, h2, Bool.or_false]
theorem any_hit {i : Nat} (h : i < s.length) (h2 : p (s.getD i dd) = true) : s.any p = true := by
  rw [getD_get h] at h2
  rw [List.any_eq_true]
  exact ⟨_, List.getElem_mem h, h2⟩
theorem any_end {i : Nat} (h : s.length ≤ i) (h1 : (s.take i).any p = false) : s.any p = false := by rwa [List.take_of_length_le h] at h1
end all

def token (s : Str) : Bool := s.all tokB && !decide (s = [])
def text (s : Str) : Bool := s.all textB

/-! ### Blanks -/
theorem dw_nil {p : UInt8 → Bool} : ∀ {l : Str}, l.dropWhile p = [] ↔ ∀ x ∈ l, p x = true
  | [] => by simp
  | c :: l => by
    rw [List.dropWhile_cons]
    cases h : p c with
    | true => rw [if_pos rfl, dw_nil (l := l)]; simp [h]
    | false => simp [h]
section trim
variable (p : UInt8 → Bool)
def trimL (s : Str) : Str := s.dropWhile p
def trimR (s : Str) : Str := (s.reverse.dropWhile p).reverse
variable {p}
theorem trimL_step {s : Str} (h : 0 < s.length) (h2 : p (s.getD 0 0) = true) : trimL p (s.drop 1) = trimL p s := by
  cases s with
  | nil => simp at h
  | cons c s => simp at h2; simp [trimL, List.dropWhile_cons, h2]
theorem trimL_end {s : Str} (h : s.length = 0 ∨ p (s.getD 0 0) = false) : trimL p s = s := by
  cases s with
  | nil => rfl
  | cons c s => simp at h; simp [trimL, List.dropWhile_cons, h]
theorem rev_of {s : Str} (h : 0 < s.length) : s.reverse = s.getD (s.length - 1) 0 :: (s.take (s.length - 1)).reverse := by
  have : s = s.take (s.length - 1) ++ [s.getD (s.length - 1) 0] := by
    rw [getD_get (by omega)]
    conv => lhs; rw [← List.take_append_drop (s.length - 1) s]
    congr 1
    rw [List.drop_eq_getElem_cons (by omega), List.drop_of_length_le (by omega)]
  conv => lhs; rw [this]
  simp
theorem trimR_step {s : Str} (h : 0 < s.length) (h2 : p (s.getD (s.length - 1) 0) = true) : trimR p (s.take (s.length - 1)) = trimR p s := by
  unfold trimR
  rw [rev_of h, List.dropWhile_cons, if_pos h2]
theorem trimR_end {s : Str} (h : s.length = 0 ∨ p (s.getD (s.length - 1) 0) = false) : trimR p s = s := by
  rcases Nat.eq_zero_or_pos s.length with h0 | h0
  · rw [List.length_eq_zero_iff] at h0; subst h0; rfl
  · have h2 : p (s.getD (s.length - 1) 0) = false := by rcases h with h | h; omega; exact h
    unfold trimR
    rw [rev_of h0, List.dropWhile_cons, if_neg (by rw [h2]; simp), ← rev_of h0, List.reverse_reverse]
theorem trimL_length (s : Str) : (trimL p s).length ≤ s.length := (List.dropWhile_sublist p).length_le
theorem trimR_length (s : Str) : (trimR p s).length ≤ s.length := by
  unfold trimR
  rw [List.length_reverse]
  have := (List.dropWhile_sublist p (l := s.reverse)).length_le
  simpa using this
theorem trimL_append_all {a b : Str} (h : a.all p = true) : trimL p (a ++ b) = trimL p b := by
  unfold trimL
  rw [List.dropWhile_append]
  have : a.dropWhile p = [] := by
    rw [dw_nil]
    exact fun x hx => List.all_eq_true.1 h x hx
  rw [this]; rfl
theorem split_right (s : Str) : ∃ r : Str, s = trimR p s ++ r ∧ r.all p = true ∧ (trimR p s = [] ∨ p ((trimR p s).getD ((trimR p s).length - 1) 0) = false) := by
  induction hn : s.length using Nat.strongRecOn generalizing s with
  | _ n ih =>
    by_cases h : 0 < s.length ∧ p (s.getD (s.length - 1) 0) = true
    · obtain ⟨h1, h2⟩ := h
      obtain ⟨r, e, hr, hk⟩ := ih (s.take (s.length - 1)).length (by rw [List.length_take]; omega) _ rfl
      rw [trimR_step h1 h2] at e hk
      refine ⟨r ++ [s.getD (s.length - 1) 0], ?_, by rw [List.all_append, hr]; simpa using h2, hk⟩
      rw [← List.append_assoc, ← e, ← List.reverse_inj, rev_of h1]
      simp
    · have h' : s.length = 0 ∨ p (s.getD (s.length - 1) 0) = false := by
        rcases Nat.eq_zero_or_pos s.length with h0 | h0
        · exact .inl h0
        · exact .inr (by rw [← Bool.not_eq_true]; exact fun h2 => h ⟨h0, h2⟩)
      refine ⟨[], by rw [trimR_end h']; simp, rfl, ?_⟩
      rw [trimR_end h']
      exact h'.imp List.length_eq_zero_iff.1 id
theorem trimR_all {s : Str} (h : s.all p = true) : trimR p s = [] := by
  unfold trimR
  rw [List.reverse_eq_nil_iff, dw_nil]
  exact fun x hx => List.all_eq_true.1 h x (by simpa using hx)
theorem trimR_eq {a r : Str} (hr : r.all p = true) (ha : a = [] ∨ p (a.getD (a.length - 1) 0) = false) : trimR p (a ++ r) = a := by
  have e : trimR p (a ++ r) = trimR p a := by
    unfold trimR
    rw [List.reverse_append, List.dropWhile_append]
    have : r.reverse.dropWhile p = [] := by
      rw [dw_nil]
      exact fun x hx => List.all_eq_true.1 hr x (by simpa using hx)
    rw [this]; rfl
  rw [e]
  exact trimR_end (ha.imp (fun h => by rw [h]; rfl) id)
/-- From the left or from the right first: the same. -/
theorem trim_comm (s : Str) : trimL p (trimR p s) = trimR p (trimL p s) := by
  obtain ⟨r, e, hr, hk⟩ := split_right (p := p) s
  rcases Decidable.em ((trimR p s).all p = true) with ha | ha
  · have hs : s.all p = true := by rw [e, List.all_append, ha, hr]; rfl
    have h1 : trimR p s = [] := trimR_all hs
    have h2 : trimL p s = [] := by unfold trimL; rw [dw_nil]; exact fun x hx => List.all_eq_true.1 hs x hx
    rw [h1, h2]; rfl
  · have hd : trimL p s = trimL p (trimR p s) ++ r := by
      conv => lhs; rw [e]
      unfold trimL
      rw [List.dropWhile_append, if_neg]
      intro h
      apply ha
      rw [List.isEmpty_iff, dw_nil] at h
      exact List.all_eq_true.2 h
    rw [hd, trimR_eq hr]
    rcases hk with hk | hk
    · exact absurd (by rw [hk]; rfl) ha
    · right
      have hne : trimL p (trimR p s) ≠ [] := by
        intro h
        unfold trimL at h
        rw [dw_nil] at h
        exact ha (List.all_eq_true.2 h)
      obtain ⟨q, hq⟩ := List.dropWhile_suffix p (l := trimR p s)
      have hl : 0 < (trimL p (trimR p s)).length := List.length_pos_iff.2 hne
      have : (trimL p (trimR p s)).getD ((trimL p (trimR p s)).length - 1) 0 = (trimR p s).getD ((trimR p s).length - 1) 0 := by
        conv => rhs; rw [← hq]
        rw [List.getD_eq_getElem?_getD, List.getD_eq_getElem?_getD]
        show _ = ((q ++ trimL p (trimR p s))[(q ++ trimL p (trimR p s)).length - 1]?).getD 0
        rw [List.getElem?_append_right (by rw [List.length_append]; omega)]
        congr 2
        rw [List.length_append]; omega
      rw [this]; exact hk
end trim

def trim (s : Str) : Str := trimL blankB (trimR blankB s)
theorem trim_alt (s : Str) : trimR blankB (trimL blankB s) = trim s := (trim_comm s).symm
theorem trim_length (s : Str) : (trim s).length ≤ s.length := Nat.le_trans (trimL_length _) (trimR_length _)

/-- The set of some bytes. -/
def setOf (l : Str) : List Bool := l.foldl (fun a c => a.set c.toNat true) (List.replicate 256 false)
theorem setOf_len (l : Str) : (setOf l).length = 256 := by
  unfold setOf
  suffices ∀ (a : List Bool), a.length = 256 → (l.foldl (fun a c => a.set c.toNat true) a).length = 256 from this _ (List.length_replicate ..)
  induction l with
  | nil => intro a h; exact h
  | cons c l ih => intro a h; exact ih _ (by simpa using h)
theorem setOf_step {l : Str} {i : Nat} (h : i < l.length) : (setOf (l.take i)).set (l.getD i 0).toNat true = setOf (l.take (i + 1)) := by
  unfold setOf
  rw [List.take_succ_eq_append_getElem h, List.foldl_append, getD_get h]; rfl
theorem setOf_blank (c : UInt8) : (setOf [32, 9]).getD c.toNat false = blankB c := by
  simpa using all_u8 (fun c => decide ((setOf [32, 9]).getD c.toNat false = blankB c)) (by decide +kernel) c

/-! ### Positions -/
def pos (s : Str) (c : UInt8) : Nat := s.findIdx (fun x => decide (x = c))
def posF (s : Str) (c : UInt8) (k : Nat) : Nat := k + (s.drop k).findIdx (fun x => decide (x = c))
def idxF (s : Str) (c : UInt8) (k : Nat) : Int := if posF s c k < s.length then (posF s c k : Int) else -1
def idx (s : Str) (c : UInt8) : Int := if pos s c < s.length then (pos s c : Int) else -1
theorem posF_zero (s : Str) (c : UInt8) : posF s c 0 = pos s c := by simp [posF, pos]
theorem idxF_zero (s : Str) (c : UInt8) : idxF s c 0 = idx s c := by simp [idxF, idx, posF_zero]
theorem posF_hit {s : Str} {c : UInt8} {k : Nat} (h : k < s.length) (h2 : s.getD k 0 = c) : posF s c k = k := by
  rw [getD_get h] at h2
  unfold posF
  rw [List.drop_eq_getElem_cons h, List.findIdx_cons]
  simp [h2]
theorem posF_miss {s : Str} {c : UInt8} {k : Nat} (h : k < s.length) (h2 : ¬ s.getD k 0 = c) : posF s c (k + 1) = posF s c k := by
  rw [getD_get h] at h2
  unfold posF
  rw [List.drop_eq_getElem_cons h, List.findIdx_cons]
  simp [h2]; omega
theorem posF_end {s : Str} {c : UInt8} {k : Nat} (h : s.length ≤ k) : ¬ posF s c k < s.length := by unfold posF; omega
theorem pos_le (s : Str) (c : UInt8) : pos s c ≤ s.length := List.findIdx_le_length
theorem idx_nonneg {s : Str} {c : UInt8} (h : 0 ≤ idx s c) : idx s c = ((pos s c : Nat) : Int) ∧ pos s c < s.length := by
  unfold idx at *
  split at h <;> simp_all
theorem idx_neg {s : Str} {c : UInt8} (h : idx s c < 0) : ¬ pos s c < s.length := by
  unfold idx at h
  split at h <;> omega
theorem pos_none {s : Str} {c : UInt8} (h : ¬ 0 ≤ idx s c) : pos s c = s.length := by
  have := pos_le s c
  unfold idx at h
  split at h <;> omega
theorem idx_found {s : Str} {c : UInt8} (h : pos s c < s.length) : idx s c = ((pos s c : Nat) : Int) := by rw [idx, if_pos h]
theorem idx_none {s : Str} {c : UInt8} (h : ¬ pos s c < s.length) : idx s c = -1 := by rw [idx, if_neg h]
theorem indexByte_eq (s : Str) (c : UInt8) : Lib.indexByte s c = idx s c := by
  unfold idx pos
  induction s with
  | nil => rfl
  | cons b s ih =>
    rw [Lib.indexByte, ih, List.findIdx_cons]
    by_cases h : b = c
    · simp [h]
    · simp [h]
      split <;> rename_i h1
      · simp
      · simp
theorem pos_self (c : UInt8) : idx [c] c = 0 := by simp [idx, pos, List.findIdx_cons]

/-! ### Field lines -/
def lineOf (f : Str × Str) : Str := if f.2 = [] then f.1 ++ [58] else f.1 ++ [58, 32] ++ f.2
theorem lineOf_length (f : Str × Str) : (lineOf f).length ≤ f.1.length + f.2.length + 2 := by unfold lineOf; split <;> simp <;> omega
def validF (f : Str × Str) : Bool := token f.1 && text f.2 && decide (trim f.2 = f.2) && decide ((lineOf f).length ≤ 2000)
def formatF (f : Str × Str) : Str := if validF f = true then lineOf f else []
def parseF (s : Str) : (Str × Str) × Nat :=
  if 2000 < s.length then (([], []), 4)
  else if ¬ pos s 58 < s.length ∨ token (s.take (pos s 58)) = false ∨ text (s.drop (pos s 58 + 1)) = false then (([], []), 1)
  else if validF (s.take (pos s 58), trim (s.drop (pos s 58 + 1))) = true then ((s.take (pos s 58), trim (s.drop (pos s 58 + 1))), 0)
  else (([], []), 4)
end Go.Plain
