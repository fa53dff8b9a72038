/-
  Plain functions on bytes: lower case, content codings. No program in sight.
  Plain functions on bytes: tokens, text, blanks, positions, field lines. No program in sight.
  Plain laws of field lines. No program in sight.
  Plain laws of lists of fields. No program in sight.
  Plain laws of removing and setting fields. No program in sight.
  Plain functions of values with parameters: cutting, quoting, reading, writing; and their laws. No program in sight.
  Plain laws of writing parameters, and of reading back what was written. No program in sight.
  Plain functions of media types and ranges. No program in sight.
  Plain laws: what is written is read back; blanks do not matter; a media type matches itself. No program in sight.
  Plain laws: how long what is written gets. No program in sight.
  Plain functions of lists of members, of quality values, and of language tags. No program in sight.
  Plain laws of splitting lists, of cutting at a byte, of language tags, of quality values, and of preferences. No program in sight.
  Plain laws of the second way to read preferences. No program in sight.
  Plain law: the preferences of a request do not hang on how members lie on lines, nor on blanks around them. No program in sight.
  Plain laws of matching language tags, and of matching ranges in general. No program in sight.
  Plain laws of writing quality values and of joining. No program in sight.
  Plain law: preferences, written as a field, are read back. No program in sight.
  Plain functions and laws of quality and rank. No program in sight.
-/
import Derived.WalkKit
import Derived.Lib.Bytealg
namespace Go.Plain

abbrev Str := List UInt8

theorem all_u8 (p : UInt8 → Bool) (h : (List.range 256).all (fun n => p (UInt8.ofNat n)) = true) (c : UInt8) : p c = true := by
  have := List.all_eq_true.1 h c.toNat (by simpa using c.toNat_lt)
  simpa using this

/-! ### Lower case -/
def lowerB (c : UInt8) : UInt8 := bif decide (65 ≤ c) && decide (c ≤ 90) then c + 32 else c
def lower (s : Str) : Str := s.map lowerB

theorem lowerB_idem (c : UInt8) : lowerB (lowerB c) = lowerB c := by
  simpa using all_u8 (fun c => decide (lowerB (lowerB c) = lowerB c)) (by decide +kernel) c
theorem lower_idem (s : Str) : lower (lower s) = lower s := by
  simp only [lower, List.map_map]
  exact List.map_congr_left fun c _ => lowerB_idem c
@[simp] theorem lower_length (s : Str) : (lower s).length = s.length := by simp [lower]

/-- After i rounds. -/
def lowerTo (s : Str) (i : Nat) : Str := lower (s.take i) ++ s.drop i
theorem lowerTo_zero (s : Str) : lowerTo s 0 = s := by simp [lowerTo, lower]
theorem lowerTo_len (s : Str) (i : Nat) : (lowerTo s i).length = s.length := by simp [lowerTo]; omega
theorem lowerTo_end (s : Str) (i : Nat) (h : s.length ≤ i) : lowerTo s i = lower s := by simp [lowerTo, List.take_of_length_le h, List.drop_of_length_le h]
theorem lowerTo_get (s : Str) (i : Nat) (h : i < s.length) : (lowerTo s i).getD i 0 = s.getD i 0 := by
  have : (lower (s.take i)).length = i := by simp; omega
  simp only [lowerTo, List.getD_eq_getElem?_getD]
  rw [List.getElem?_append_right (by omega), this, Nat.sub_self, List.getElem?_drop, Nat.add_zero]
theorem lowerTo_succ (s : Str) (i : Nat) (h : i < s.length) : lowerTo s (i + 1) = (lowerTo s i).set i (lowerB (s.getD i 0)) := by
  have hl : (lower (s.take i)).length = i := by simp; omega
  rw [lowerTo, lowerTo, List.set_append_right _ _ (by omega), hl, Nat.sub_self, List.drop_eq_getElem_cons h, List.set_cons_zero, List.take_succ_eq_append_getElem h]
  simp only [lower, List.map_append, List.map_cons, List.map_nil, List.getD_eq_getElem?_getD, List.getElem?_eq_getElem h, Option.getD_some, List.append_assoc, List.cons_append, List.nil_append]
theorem lowerTo_hit (s : Str) (i : Nat) (h : i < s.length) (h1 : 65 ≤ s.getD i 0) (h2 : s.getD i 0 ≤ 90) (d : UInt8) (hd : d = s.getD i 0 + 32) : (lowerTo s i).set i d = lowerTo s (i + 1) := by
  rw [lowerTo_succ s i h, hd]
  unfold lowerB
  rw [show (decide (65 ≤ s.getD i 0) && decide (s.getD i 0 ≤ 90)) = true from by rw [Bool.and_eq_true, decide_eq_true_eq, decide_eq_true_eq]; exact ⟨h1, h2⟩]
  rfl
theorem lowerTo_miss (s : Str) (i : Nat) (h : i < s.length) (h1 : ¬ (65 ≤ s.getD i 0 ∧ s.getD i 0 ≤ 90)) : lowerTo s (i + 1) = lowerTo s i := by
  rw [lowerTo_succ s i h]
  have : lowerB (s.getD i 0) = s.getD i 0 := by
    unfold lowerB
    rw [show (decide (65 ≤ s.getD i 0) && decide (s.getD i 0 ≤ 90)) = false from by rw [← Bool.not_eq_true]; simpa using h1]
    rfl
  rw [this, ← lowerTo_get s i h]
  have hi : i < (lowerTo s i).length := by rw [lowerTo_len]; exact h
  rw [List.getD_eq_getElem?_getD, List.getElem?_eq_getElem hi]
  simp
theorem lowerTo_hit' (s : Str) (i : Nat) (h : i < s.length) (h1 : 65 ≤ (lowerTo s i).getD i 0) (h2 : (lowerTo s i).getD i 0 ≤ 90) (d : UInt8) (hd : d = (lowerTo s i).getD i 0 + 32) : (lowerTo s i).set i d = lowerTo s (i + 1) := by
  rw [lowerTo_get s i h] at h1 h2 hd
  exact lowerTo_hit s i h h1 h2 d hd
theorem lowerTo_miss' (s : Str) (i : Nat) (h : i < s.length) (h1 : ¬ 65 ≤ (lowerTo s i).getD i 0 ∨ ¬ (lowerTo s i).getD i 0 ≤ 90) : lowerTo s (i + 1) = lowerTo s i := by
  rw [lowerTo_get s i h] at h1
  exact lowerTo_miss s i h (fun h => by rcases h1 with h1 | h1; exact h1 h.1; exact h1 h.2)
theorem add97 (c : UInt8) : c + 97 - 65 = c + 32 := by
  have := all_u8 (fun c => decide (c + 97 - 65 = c + 32)) (by decide +kernel) c
  exact of_decide_eq_true this

/-! ### Content codings -/
def sGzip : Str := [103, 122, 105, 112]
def sXgzip : Str := [120, 45, 103, 122, 105, 112]
def sCompress : Str := [99, 111, 109, 112, 114, 101, 115, 115]
def sXcompress : Str := [120, 45, 99, 111, 109, 112, 114, 101, 115, 115]

/-- coding.Canonical. -/
def canonical (kind : Int) (s : Str) : Str :=
  if kind = 4 then (if lower s = sXgzip then sGzip else if lower s = sXcompress then sCompress else lower s) else lower s
def matchCoding (kind : Int) (r v : Str) : Int := if r = [42] then 0 else if canonical kind r = canonical kind v then 1 else -1

theorem canonical_length (kind : Int) (s : Str) : (canonical kind s).length ≤ s.length + 8 := by
  unfold canonical
  split
  · split
    · simp [sGzip]
    · split
      · simp [sCompress]
      · simp
  · simp

theorem canonical_idem (kind : Int) (s : Str) : canonical kind (canonical kind s) = canonical kind s := by
  have h1 : canonical 4 sGzip = sGzip := by decide
  have h2 : canonical 4 sCompress = sCompress := by decide
  by_cases hk : kind = 4
  · subst hk
    by_cases ha : lower s = sXgzip
    · have : canonical 4 s = sGzip := by simp [canonical, ha]
      rw [this, h1]
    · by_cases hb : lower s = sXcompress
      · have : canonical 4 s = sCompress := by unfold canonical; rw [if_pos rfl, if_neg ha, if_pos hb]
        rw [this, h2]
      · have : canonical 4 s = lower s := by unfold canonical; rw [if_pos rfl, if_neg ha, if_neg hb]
        rw [this]
        unfold canonical
        rw [lower_idem, if_pos rfl, if_neg ha, if_neg hb]
  · simp [canonical, hk, lower_idem]
theorem canonical_lower (kind : Int) (s : Str) : canonical kind (lower s) = canonical kind s := by
  simp only [canonical, lower_idem]
theorem canonical_star (kind : Int) (s : Str) (h : s ≠ [42]) : canonical kind s ≠ [42] := by
  unfold canonical
  have hl : lower s ≠ [42] := by
    intro e
    have hn : s.length = 1 := by rw [← lower_length, e]; rfl
    match s, hn with
    | [c], _ =>
      have := of_decide_eq_true (all_u8 (fun c => decide (lowerB c = 42 → c = 42)) (by decide +kernel) c)
      simp [lower] at e
      exact h (by rw [this e])
  split
  · split
    · decide
    · split
      · decide
      · exact hl
  · exact hl
end Go.Plain

namespace Go.Plain
set_option linter.unusedSimpArgs false

/-! ### Bytes -/
def signs : Str := [33, 35, 36, 37, 38, 39, 42, 43, 45, 46, 94, 95, 96, 124, 126]
def tokB (c : UInt8) : Bool := signs.any (fun x => decide (x = c)) || (decide (48 ≤ c) && decide (c ≤ 57) || decide (65 ≤ c) && decide (c ≤ 90) || decide (97 ≤ c) && decide (c ≤ 122))
def textB (c : UInt8) : Bool := decide (c = 9) || (decide (32 ≤ c) && decide (c ≤ 126)) || decide (128 ≤ c)
def blankB (c : UInt8) : Bool := decide (c = 32) || decide (c = 9)

theorem textB_alt (c : UInt8) : (decide (c < 32) && !decide (c = 9) || decide (c = 127)) = !textB c := by
  simpa using all_u8 (fun c => decide ((decide (c < 32) && !decide (c = 9) || decide (c = 127)) = !textB c)) (by decide +kernel) c
theorem tokB_alt (c : UInt8) : (decide (97 ≤ c) && decide (c ≤ 122) || decide (65 ≤ c) && decide (c ≤ 90) || decide (48 ≤ c) && decide (c ≤ 57) || signs.any (fun x => decide (x = c))) = tokB c := by
  simpa using all_u8 (fun c => decide ((decide (97 ≤ c) && decide (c ≤ 122) || decide (65 ≤ c) && decide (c ≤ 90) || decide (48 ≤ c) && decide (c ≤ 57) || signs.any (fun x => decide (x = c))) = tokB c)) (by decide +kernel) c

/-! ### Loops over all elements, over any -/
section all
variable {α : Type} {p : α → Bool} {s : List α} {dd : α}
theorem getD_get {i : Nat} (h : i < s.length) : s.getD i dd = s[i] := by rw [List.getD_eq_getElem?_getD, List.getElem?_eq_getElem h]; rfl
theorem all_step {i : Nat} (h : i < s.length) (h1 : (s.take i).all p = true) (h2 : p (s.getD i dd) = true) : (s.take (i + 1)).all p = true := by
  rw [List.take_succ_eq_append_getElem h, List.all_append, h1, ← getD_get (dd := dd) h]
  simp only [List.all_cons, List.all_nil, h2, Bool.and_true]
theorem all_miss {i : Nat} (h : i < s.length) (h2 : p (s.getD i dd) = false) : s.all p = false := by
  rw [getD_get h] at h2
  rw [← Bool.not_eq_true, List.all_eq_true]
  intro h3
  rw [h3 _ (List.getElem_mem h)] at h2
  cases h2
theorem all_end {i : Nat} (h : s.length ≤ i) (h1 : (s.take i).all p = true) : s.all p = true := by rwa [List.take_of_length_le h] at h1
theorem any_step {i : Nat} (h : i < s.length) (h1 : (s.take i).any p = false) (h2 : p (s.getD i dd) = false) : (s.take (i + 1)).any p = false := by
  rw [List.take_succ_eq_append_getElem h, List.any_append, h1, ← getD_get (dd := dd) h]
  simp only [List.any_cons, List.any_nil, h2, Bool.or_false]
theorem any_hit {i : Nat} (h : i < s.length) (h2 : p (s.getD i dd) = true) : s.any p = true := by
  rw [getD_get h] at h2
  rw [List.any_eq_true]
  exact ⟨_, List.getElem_mem h, h2⟩
theorem any_end {i : Nat} (h : s.length ≤ i) (h1 : (s.take i).any p = false) : s.any p = false := by rwa [List.take_of_length_le h] at h1
end all

def token (s : Str) : Bool := s.all tokB && !decide (s = [])
def text (s : Str) : Bool := s.all textB

/-! ### Blanks -/
theorem dw_nil {p : UInt8 → Bool} : ∀ {l : Str}, l.dropWhile p = [] ↔ ∀ x ∈ l, p x = true
  | [] => by simp
  | c :: l => by
    rw [List.dropWhile_cons]
    cases h : p c with
    | true => rw [if_pos rfl, dw_nil (l := l)]; simp [h]
    | false => simp [h]
section trim
variable (p : UInt8 → Bool)
def trimL (s : Str) : Str := s.dropWhile p
def trimR (s : Str) : Str := (s.reverse.dropWhile p).reverse
variable {p}
theorem trimL_step {s : Str} (h : 0 < s.length) (h2 : p (s.getD 0 0) = true) : trimL p (s.drop 1) = trimL p s := by
  cases s with
  | nil => simp at h
  | cons c s => simp at h2; simp [trimL, List.dropWhile_cons, h2]
theorem trimL_end {s : Str} (h : s.length = 0 ∨ p (s.getD 0 0) = false) : trimL p s = s := by
  cases s with
  | nil => rfl
  | cons c s => simp at h; simp [trimL, List.dropWhile_cons, h]
theorem rev_of {s : Str} (h : 0 < s.length) : s.reverse = s.getD (s.length - 1) 0 :: (s.take (s.length - 1)).reverse := by
  have : s = s.take (s.length - 1) ++ [s.getD (s.length - 1) 0] := by
    rw [getD_get (by omega)]
    conv => lhs; rw [← List.take_append_drop (s.length - 1) s]
    congr 1
    rw [List.drop_eq_getElem_cons (by omega), List.drop_of_length_le (by omega)]
  conv => lhs; rw [this]
  simp
theorem trimR_step {s : Str} (h : 0 < s.length) (h2 : p (s.getD (s.length - 1) 0) = true) : trimR p (s.take (s.length - 1)) = trimR p s := by
  unfold trimR
  rw [rev_of h, List.dropWhile_cons, if_pos h2]
theorem trimR_end {s : Str} (h : s.length = 0 ∨ p (s.getD (s.length - 1) 0) = false) : trimR p s = s := by
  rcases Nat.eq_zero_or_pos s.length with h0 | h0
  · rw [List.length_eq_zero_iff] at h0; subst h0; rfl
  · have h2 : p (s.getD (s.length - 1) 0) = false := by rcases h with h | h; omega; exact h
    unfold trimR
    rw [rev_of h0, List.dropWhile_cons, if_neg (by rw [h2]; simp), ← rev_of h0, List.reverse_reverse]
theorem trimL_length (s : Str) : (trimL p s).length ≤ s.length := (List.dropWhile_sublist p).length_le
theorem trimR_length (s : Str) : (trimR p s).length ≤ s.length := by
  unfold trimR
  rw [List.length_reverse]
  have := (List.dropWhile_sublist p (l := s.reverse)).length_le
  simpa using this
theorem trimL_append_all {a b : Str} (h : a.all p = true) : trimL p (a ++ b) = trimL p b := by
  unfold trimL
  rw [List.dropWhile_append]
  have : a.dropWhile p = [] := by
    rw [dw_nil]
    exact fun x hx => List.all_eq_true.1 h x hx
  rw [this]; rfl
theorem split_right (s : Str) : ∃ r : Str, s = trimR p s ++ r ∧ r.all p = true ∧ (trimR p s = [] ∨ p ((trimR p s).getD ((trimR p s).length - 1) 0) = false) := by
  induction hn : s.length using Nat.strongRecOn generalizing s with
  | _ n ih =>
    by_cases h : 0 < s.length ∧ p (s.getD (s.length - 1) 0) = true
    · obtain ⟨h1, h2⟩ := h
      obtain ⟨r, e, hr, hk⟩ := ih (s.take (s.length - 1)).length (by rw [List.length_take]; omega) _ rfl
      rw [trimR_step h1 h2] at e hk
      refine ⟨r ++ [s.getD (s.length - 1) 0], ?_, by rw [List.all_append, hr]; simpa using h2, hk⟩
      rw [← List.append_assoc, ← e, ← List.reverse_inj, rev_of h1]
      simp
    · have h' : s.length = 0 ∨ p (s.getD (s.length - 1) 0) = false := by
        rcases Nat.eq_zero_or_pos s.length with h0 | h0
        · exact .inl h0
        · exact .inr (by rw [← Bool.not_eq_true]; exact fun h2 => h ⟨h0, h2⟩)
      refine ⟨[], by rw [trimR_end h']; simp, rfl, ?_⟩
      rw [trimR_end h']
      exact h'.imp List.length_eq_zero_iff.1 id
theorem trimR_all {s : Str} (h : s.all p = true) : trimR p s = [] := by
  unfold trimR
  rw [List.reverse_eq_nil_iff, dw_nil]
  exact fun x hx => List.all_eq_true.1 h x (by simpa using hx)
theorem trimR_eq {a r : Str} (hr : r.all p = true) (ha : a = [] ∨ p (a.getD (a.length - 1) 0) = false) : trimR p (a ++ r) = a := by
  have e : trimR p (a ++ r) = trimR p a := by
    unfold trimR
    rw [List.reverse_append, List.dropWhile_append]
    have : r.reverse.dropWhile p = [] := by
      rw [dw_nil]
      exact fun x hx => List.all_eq_true.1 hr x (by simpa using hx)
    rw [this]; rfl
  rw [e]
  exact trimR_end (ha.imp (fun h => by rw [h]; rfl) id)
/-- From the left or from the right first: the same. -/
theorem trim_comm (s : Str) : trimL p (trimR p s) = trimR p (trimL p s) := by
  obtain ⟨r, e, hr, hk⟩ := split_right (p := p) s
  rcases Decidable.em ((trimR p s).all p = true) with ha | ha
  · have hs : s.all p = true := by rw [e, List.all_append, ha, hr]; rfl
    have h1 : trimR p s = [] := trimR_all hs
    have h2 : trimL p s = [] := by unfold trimL; rw [dw_nil]; exact fun x hx => List.all_eq_true.1 hs x hx
    rw [h1, h2]; rfl
  · have hd : trimL p s = trimL p (trimR p s) ++ r := by
      conv => lhs; rw [e]
      unfold trimL
      rw [List.dropWhile_append, if_neg]
      intro h
      apply ha
      rw [List.isEmpty_iff, dw_nil] at h
      exact List.all_eq_true.2 h
    rw [hd, trimR_eq hr]
    rcases hk with hk | hk
    · exact absurd (by rw [hk]; rfl) ha
    · right
      have hne : trimL p (trimR p s) ≠ [] := by
        intro h
        unfold trimL at h
        rw [dw_nil] at h
        exact ha (List.all_eq_true.2 h)
      obtain ⟨q, hq⟩ := List.dropWhile_suffix p (l := trimR p s)
      have hl : 0 < (trimL p (trimR p s)).length := List.length_pos_iff.2 hne
      have : (trimL p (trimR p s)).getD ((trimL p (trimR p s)).length - 1) 0 = (trimR p s).getD ((trimR p s).length - 1) 0 := by
        conv => rhs; rw [← hq]
        rw [List.getD_eq_getElem?_getD, List.getD_eq_getElem?_getD]
        show _ = ((q ++ trimL p (trimR p s))[(q ++ trimL p (trimR p s)).length - 1]?).getD 0
        rw [List.getElem?_append_right (by rw [List.length_append]; omega)]
        congr 2
        rw [List.length_append]; omega
      rw [this]; exact hk
end trim

def trim (s : Str) : Str := trimL blankB (trimR blankB s)
theorem trim_alt (s : Str) : trimR blankB (trimL blankB s) = trim s := (trim_comm s).symm
theorem trim_length (s : Str) : (trim s).length ≤ s.length := Nat.le_trans (trimL_length _) (trimR_length _)

/-- The set of some bytes. -/
def setOf (l : Str) : List Bool := l.foldl (fun a c => a.set c.toNat true) (List.replicate 256 false)
theorem setOf_len (l : Str) : (setOf l).length = 256 := by
  unfold setOf
  suffices ∀ (a : List Bool), a.length = 256 → (l.foldl (fun a c => a.set c.toNat true) a).length = 256 from this _ (List.length_replicate ..)
  induction l with
  | nil => intro a h; exact h
  | cons c l ih => intro a h; exact ih _ (by simpa using h)
theorem setOf_step {l : Str} {i : Nat} (h : i < l.length) : (setOf (l.take i)).set (l.getD i 0).toNat true = setOf (l.take (i + 1)) := by
  unfold setOf
  rw [List.take_succ_eq_append_getElem h, List.foldl_append, getD_get h]; rfl
theorem setOf_blank (c : UInt8) : (setOf [32, 9]).getD c.toNat false = blankB c := by
  simpa using all_u8 (fun c => decide ((setOf [32, 9]).getD c.toNat false = blankB c)) (by decide +kernel) c

/-! ### Positions -/
def pos (s : Str) (c : UInt8) : Nat := s.findIdx (fun x => decide (x = c))
def posF (s : Str) (c : UInt8) (k : Nat) : Nat := k + (s.drop k).findIdx (fun x => decide (x = c))
def idxF (s : Str) (c : UInt8) (k : Nat) : Int := if posF s c k < s.length then (posF s c k : Int) else -1
def idx (s : Str) (c : UInt8) : Int := if pos s c < s.length then (pos s c : Int) else -1
theorem posF_zero (s : Str) (c : UInt8) : posF s c 0 = pos s c := by simp [posF, pos]
theorem idxF_zero (s : Str) (c : UInt8) : idxF s c 0 = idx s c := by simp [idxF, idx, posF_zero]
theorem posF_hit {s : Str} {c : UInt8} {k : Nat} (h : k < s.length) (h2 : s.getD k 0 = c) : posF s c k = k := by
  rw [getD_get h] at h2
  unfold posF
  rw [List.drop_eq_getElem_cons h, List.findIdx_cons]
  simp [h2]
theorem posF_miss {s : Str} {c : UInt8} {k : Nat} (h : k < s.length) (h2 : ¬ s.getD k 0 = c) : posF s c (k + 1) = posF s c k := by
  rw [getD_get h] at h2
  unfold posF
  rw [List.drop_eq_getElem_cons h, List.findIdx_cons]
  simp [h2]; omega
theorem posF_end {s : Str} {c : UInt8} {k : Nat} (h : s.length ≤ k) : ¬ posF s c k < s.length := by unfold posF; omega
theorem pos_le (s : Str) (c : UInt8) : pos s c ≤ s.length := List.findIdx_le_length
theorem idx_nonneg {s : Str} {c : UInt8} (h : 0 ≤ idx s c) : idx s c = ((pos s c : Nat) : Int) ∧ pos s c < s.length := by
  unfold idx at *
  split at h <;> simp_all
theorem idx_neg {s : Str} {c : UInt8} (h : idx s c < 0) : ¬ pos s c < s.length := by
  unfold idx at h
  split at h <;> omega
theorem pos_none {s : Str} {c : UInt8} (h : ¬ 0 ≤ idx s c) : pos s c = s.length := by
  have := pos_le s c
  unfold idx at h
  split at h <;> omega
theorem idx_found {s : Str} {c : UInt8} (h : pos s c < s.length) : idx s c = ((pos s c : Nat) : Int) := by rw [idx, if_pos h]
theorem idx_none {s : Str} {c : UInt8} (h : ¬ pos s c < s.length) : idx s c = -1 := by rw [idx, if_neg h]
theorem indexByte_eq (s : Str) (c : UInt8) : Lib.indexByte s c = idx s c := by
  unfold idx pos
  induction s with
  | nil => rfl
  | cons b s ih =>
    rw [Lib.indexByte, ih, List.findIdx_cons]
    by_cases h : b = c
    · simp [h]
    · simp [h]
      split <;> rename_i h1
      · simp
      · simp
theorem pos_self (c : UInt8) : idx [c] c = 0 := by simp [idx, pos, List.findIdx_cons]

/-! ### Field lines -/
def lineOf (f : Str × Str) : Str := if f.2 = [] then f.1 ++ [58] else f.1 ++ [58, 32] ++ f.2
def validF (f : Str × Str) : Bool := token f.1 && text f.2 && decide (trim f.2 = f.2) && decide ((lineOf f).length ≤ 2000)
def formatF (f : Str × Str) : Str := if validF f = true then lineOf f else []
def parseF (s : Str) : (Str × Str) × Nat :=
  if 2000 < s.length then (([], []), 4)
  else if ¬ pos s 58 < s.length ∨ token (s.take (pos s 58)) = false ∨ text (s.drop (pos s 58 + 1)) = false then (([], []), 1)
  else if validF (s.take (pos s 58), trim (s.drop (pos s 58 + 1))) = true then ((s.take (pos s 58), trim (s.drop (pos s 58 + 1))), 0)
  else (([], []), 4)
end Go.Plain

namespace Go.Plain
set_option linter.unusedSimpArgs false

theorem pos_append {a r : Str} {c : UInt8} (h : ∀ x ∈ a, x ≠ c) : pos (a ++ c :: r) c = a.length := by
  unfold pos
  induction a with
  | nil => simp [List.findIdx_cons]
  | cons b a ih =>
    rw [List.cons_append, List.findIdx_cons, ih fun x hx => h x (by simp [hx])]
    simp [h b (by simp)]
theorem token_bytes {s : Str} (h : token s = true) : ∀ x ∈ s, tokB x = true := by
  unfold token at h
  simp only [Bool.and_eq_true] at h
  exact fun x hx => List.all_eq_true.1 h.1 x hx
theorem token_no {s : Str} {c : UInt8} (h : token s = true) (hc : tokB c = false) : ∀ x ∈ s, x ≠ c := fun x hx e => by
  subst e
  rw [token_bytes h x hx] at hc
  cases hc
theorem trim_space (s : Str) : trim (32 :: s) = trim s := by
  rw [← trim_alt, ← trim_alt]
  unfold trimL
  rw [List.dropWhile_cons, if_pos (by decide)]
end Go.Plain

namespace Go.Plain
set_option linter.unusedSimpArgs false

abbrev Fld := Str × Str
def fold (a b : Str) : Bool := decide (a.length = b.length) && decide (lower a = lower b)
def okF (f : Fld) : Bool := !(decide (300 < f.1.length) || decide (300 < f.2.length))
def keepF (l : List Fld) : Bool := (l.take 71).all okF && decide (l.length ≤ 70)
theorem keep_end {α : Type} {p : α → Bool} {l : List α} {i m : Nat} (hi : i ≤ m) (h : ¬ i < l.length ∨ ¬ i < m) (h1 : (l.take i).all p = true) : (l.take m).all p = true := by
  rcases h with h | h
  · rw [List.take_of_length_le (by omega)] at h1 ⊢; exact h1
  · rw [show m = i by omega]; exact h1
theorem keep_miss {α : Type} {p : α → Bool} {l : List α} {i m : Nat} {dd : α} (hm : i < m) (hi : i < l.length) (h : p (l.getD i dd) = false) : (l.take m).all p = false := by
  refine all_miss (i := i) (dd := dd) (by rw [List.length_take]; omega) ?_
  rw [List.getD_eq_getElem?_getD, List.getElem?_take, if_pos hm, ← List.getD_eq_getElem?_getD]
  exact h
theorem keepF_len {l : List Fld} (h : keepF l = true) : l.length ≤ 70 := by
  unfold keepF at h
  simp only [Bool.and_eq_true, decide_eq_true_eq] at h
  exact h.2
theorem keepF_mem {l : List Fld} (h : keepF l = true) : ∀ x ∈ l, x.1.length ≤ 300 ∧ x.2.length ≤ 300 := fun x hx => by
  have hl := keepF_len h
  unfold keepF at h
  simp only [Bool.and_eq_true] at h
  have h1 := h.1
  rw [List.take_of_length_le (by omega)] at h1
  have := List.all_eq_true.1 h1 x hx
  unfold okF at this
  simp at this
  omega

def getF (l : List Fld) (name : Str) : List Str := (l.filter fun f => fold f.1 name).map (·.2)
theorem filter_hit {α : Type} {p : α → Bool} {l : List α} {i : Nat} {dd : α} (h : i < l.length) (h2 : p (l.getD i dd) = true) : (l.take (i + 1)).filter p = (l.take i).filter p ++ [l.getD i dd] := by
  rw [List.take_succ_eq_append_getElem h, List.filter_append, ← getD_get (dd := dd) h]
  simp only [List.filter_cons, h2, if_true, List.filter_nil]
theorem filter_miss {α : Type} {p : α → Bool} {l : List α} {i : Nat} {dd : α} (h : i < l.length) (h2 : p (l.getD i dd) = false) : (l.take (i + 1)).filter p = (l.take i).filter p := by
  rw [List.take_succ_eq_append_getElem h, List.filter_append, ← getD_get (dd := dd) h]
  simp only [List.filter_cons, h2, Bool.false_eq_true, if_false, List.filter_nil, List.append_nil]
theorem getF_length (l : List Fld) (name : Str) : (getF l name).length ≤ l.length := by
  unfold getF; rw [List.length_map]; exact List.length_filter_le ..
def namedB (nm : Str) (f : Fld) : Bool := decide (f.1.length = nm.length) && decide (lower f.1 = nm)
theorem named_fold (name : Str) (f : Fld) : namedB (lower name) f = fold f.1 name := by simp [namedB, fold]
theorem get_filter (l : List Fld) (name : Str) : (l.filter (namedB (lower name))).map (·.2) = getF l name := by
  unfold getF
  congr 2
  funext f
  exact named_fold name f
theorem getD_mem {α : Type} {l : List α} {i : Nat} {dd : α} (h : i < l.length) : l.getD i dd ∈ l := by rw [getD_get h]; exact List.getElem_mem h
theorem map_step {l : List Fld} {i : Nat} {dd : Fld} (h : i < l.length) : (l.take (i + 1)).map (fun x => x.2) = (l.take i).map (fun x => x.2) ++ [(l.getD i dd).2] := by
  rw [List.take_succ_eq_append_getElem h, List.map_append, ← getD_get (dd := dd) h]; rfl
end Go.Plain

namespace Go.Plain
set_option linter.unusedSimpArgs false
set_option linter.unusedVariables false

theorem fold_iff {a b : Str} : fold a b = true ↔ lower a = lower b := by
  unfold fold
  simp only [Bool.and_eq_true, decide_eq_true_eq]
  exact ⟨fun h => h.2, fun h => ⟨by have := congrArg List.length h; simpa using this, h⟩⟩
theorem fold_false {a b : Str} : fold a b = false ↔ lower a ≠ lower b := by
  rw [← Bool.not_eq_true, fold_iff]
theorem fold_self (a : Str) : fold a a = true := fold_iff.2 rfl
theorem drop_step {α : Type} {l : List α} {i : Nat} {dd : α} (h : i < l.length) : l.drop i = l.getD i dd :: l.drop (i + 1) := by
  rw [List.drop_eq_getElem_cons h, List.getD_eq_getElem?_getD, List.getElem?_eq_getElem h]; rfl

def removeF (l : List Fld) (name : Str) : List Fld := l.filter fun f => !fold f.1 name
theorem remove_filter (l : List Fld) (name : Str) : l.filter (fun f => !namedB (lower name) f) = removeF l name := by
  unfold removeF; congr 1; funext f; rw [named_fold]
def setGo (name value : Str) : Bool → List Fld → List Fld
  | d, [] => bif d then [] else [(name, value)]
  | d, f :: r => bif fold f.1 name then (bif d then setGo name value d r else (f.1, value) :: setGo name value true r) else f :: setGo name value d r
def setF (l : List Fld) (name value : Str) : List Fld := setGo name value false l

section
variable {l acc : List Fld} {name value : Str} {i : Nat} {d : Bool} {dd : Fld} {X : List Fld}
end

theorem removeF_length (l : List Fld) (name : Str) : (removeF l name).length ≤ l.length := List.length_filter_le ..
theorem removeF_mem {l : List Fld} {name : Str} {p : Fld → Prop} (hl : ∀ x ∈ l, p x) : ∀ x ∈ removeF l name, p x := fun x hx => hl x (List.mem_filter.1 hx).1

theorem getF_cons (f : Fld) (l : List Fld) (name : Str) : getF (f :: l) name = bif fold f.1 name then f.2 :: getF l name else getF l name := by
  unfold getF; rw [List.filter_cons]; cases fold f.1 name <;> rfl
theorem get_remove (l : List Fld) (name : Str) : getF (removeF l name) name = [] := by
  unfold getF removeF
  rw [List.filter_filter]
  simp
theorem get_remove_other {name other : Str} (hne : fold name other = false) : ∀ (l : List Fld), getF (removeF l name) other = getF l other
  | [] => rfl
  | f :: r => by
    have ih := get_remove_other hne r
    unfold removeF at ih ⊢
    rw [List.filter_cons]
    cases h : fold f.1 name
    · simp only [Bool.not_false, if_true, getF_cons, ih]
    · have h2 : fold f.1 other = false := by rw [fold_false] at hne ⊢; rw [fold_iff] at h; rwa [h]
      simp only [Bool.not_true, Bool.false_eq_true, if_false, getF_cons, h2, cond_false, ih]
end Go.Plain

namespace Go.Plain
set_option linter.unusedSimpArgs false
set_option linter.unusedVariables false

abbrev Prm := Str × Str

/-! ### Cutting at a separator outside quotes -/
def cutGo (c : UInt8) : Nat → Str → Str → List Str
  | _, cur, [] => [cur]
  | st, cur, b :: r =>
    if st = 2 then cutGo c 1 (cur ++ [b]) r
    else if st = 1 then (if b = 92 then cutGo c 2 (cur ++ [b]) r else if b = 34 then cutGo c 0 (cur ++ [b]) r else cutGo c 1 (cur ++ [b]) r)
    else (if b = 34 then cutGo c 1 (cur ++ [b]) r else if b = c then cur :: cutGo c 0 [] r else cutGo c 0 (cur ++ [b]) r)
def cutF (s : Str) (c : UInt8) : List Str := cutGo c 0 [] s
def stq (q : Bool) : Nat := bif q then 1 else 0

theorem take_drop_step {s : Str} {i fr : Nat} (h : i < s.length) (hf : fr ≤ i) : (s.take (i + 1)).drop fr = (s.take i).drop fr ++ [s.getD i 0] := by
  rw [List.take_succ_eq_append_getElem h, List.drop_append_of_le_length (by simp; omega), getD_get h]
theorem take_over {α : Type} {s : List α} {i : Nat} (h : s.length ≤ i) : s.take i = s := List.take_of_length_le h

section
variable {s : Str} {i fr : Nat} {c : UInt8} {q : Bool} {acc X : List Str}
theorem cut_esc (h : i < s.length) (hf : fr ≤ i) (hq : q = true) (hb : s.getD i 0 = 92) (e : acc ++ cutGo c (stq q) ((s.take i).drop fr) (s.drop i) = X) :
    acc ++ cutGo c (stq q) ((s.take (i + 1 + 1)).drop fr) (s.drop (i + 1 + 1)) = X := by
  subst hq
  rw [drop_step (dd := 0) h, hb] at e
  simp only [stq, cond_true, cutGo] at e ⊢
  simp only [Nat.one_ne_zero, if_false, if_true, Nat.reduceEqDiff] at e
  rw [← e]
  by_cases h2 : i + 1 < s.length
  · rw [drop_step (dd := 0) h2]
    simp only [cutGo, if_true]
    rw [take_drop_step h2 (by omega), take_drop_step h hf, hb]
  · have e1 : s.drop (i + 1) = [] := List.drop_of_length_le (by omega)
    have e2 : s.drop (i + 1 + 1) = [] := List.drop_of_length_le (by omega)
    have e3 : s.take (i + 1 + 1) = s.take (i + 1) := by rw [take_over (by omega), take_over (by omega)]
    rw [e1, e2, e3, take_drop_step h hf, hb]
    simp only [cutGo]
theorem cut_quote (h : i < s.length) (hf : fr ≤ i) (hb : s.getD i 0 = 34) (e : acc ++ cutGo c (stq q) ((s.take i).drop fr) (s.drop i) = X) :
    acc ++ cutGo c (stq (!q)) ((s.take (i + 1)).drop fr) (s.drop (i + 1)) = X := by
  rw [drop_step (dd := 0) h, hb] at e
  rw [take_drop_step h hf, hb]
  cases q <;> simpa [stq, cutGo] using e
theorem cut_sep (h : i < s.length) (hq : q = false) (hb : s.getD i 0 = c) (h34 : ¬ s.getD i 0 = 34) (e : acc ++ cutGo c (stq q) ((s.take i).drop fr) (s.drop i) = X) :
    (acc ++ [(s.take i).drop fr]) ++ cutGo c (stq q) ((s.take (i + 1)).drop (i + 1)) (s.drop (i + 1)) = X := by
  subst hq
  have h34' : ¬ c = 34 := hb ▸ h34
  rw [drop_step (dd := 0) h, hb] at e
  rw [List.drop_of_length_le (i := i + 1) (l := s.take (i + 1)) (by simp; omega)]
  simpa [stq, cutGo, h34'] using e
theorem cut_plain (h : i < s.length) (hf : fr ≤ i) (h1 : q = false ∨ ¬ s.getD i 0 = 92) (h34 : ¬ s.getD i 0 = 34) (h2 : ¬ s.getD i 0 = c ∨ q = true) (e : acc ++ cutGo c (stq q) ((s.take i).drop fr) (s.drop i) = X) :
    acc ++ cutGo c (stq q) ((s.take (i + 1)).drop fr) (s.drop (i + 1)) = X := by
  rw [drop_step (dd := 0) h] at e
  rw [take_drop_step h hf]
  revert e h1 h34 h2
  generalize s.getD i 0 = b
  intro h1 h34 h2 e
  cases q
  · have h2' : ¬ b = c := by simpa using h2
    simpa [stq, cutGo, h34, h2'] using e
  · have h1' : ¬ b = 92 := by simpa using h1
    simpa [stq, cutGo, h34, h1'] using e
theorem cut_end (h : s.length ≤ i) (e : acc ++ cutGo c (stq q) ((s.take i).drop fr) (s.drop i) = X) : acc ++ [s.drop fr] = X := by
  rw [List.drop_of_length_le h, take_over h] at e
  simpa [cutGo] using e
end

theorem cutGo_pos (c : UInt8) : ∀ (r : Str) (st : Nat) (cur : Str), 0 < (cutGo c st cur r).length
  | [], _, _ => by simp [cutGo]
  | b :: r, st, cur => by
    unfold cutGo
    split
    · exact cutGo_pos c r _ _
    · split
      · split
        · exact cutGo_pos c r _ _
        · split <;> exact cutGo_pos c r _ _
      · split
        · exact cutGo_pos c r _ _
        · split
          · simp
          · exact cutGo_pos c r _ _
theorem cutF_pos (s : Str) (c : UInt8) : 0 < (cutF s c).length := cutGo_pos c s 0 []
theorem cutGo_mem (c : UInt8) : ∀ (r : Str) (st : Nat) (cur : Str), ∀ x ∈ cutGo c st cur r, x.length ≤ cur.length + r.length
  | [], _, cur => by simp [cutGo]
  | b :: r, st, cur => fun x hx => by
    have ih := cutGo_mem c r
    have up : ∀ st, x ∈ cutGo c st (cur ++ [b]) r → x.length ≤ cur.length + (b :: r).length := fun st h => by
      have := ih st _ x h; simp at this ⊢; omega
    unfold cutGo at hx
    split at hx
    · exact up _ hx
    · split at hx
      · split at hx
        · exact up _ hx
        · split at hx <;> exact up _ hx
      · split at hx
        · exact up _ hx
        · split at hx
          · rcases List.mem_cons.1 hx with rfl | hx
            · simp
            · have := ih _ _ x hx; simp at this ⊢; omega
          · exact up _ hx
theorem cutF_mem (s : Str) (c : UInt8) : ∀ x ∈ cutF s c, x.length ≤ s.length := fun x hx => by have := cutGo_mem c s 0 [] x hx; simpa using this
theorem cutGo_length (c : UInt8) : ∀ (r : Str) (st : Nat) (cur : Str), (cutGo c st cur r).length ≤ r.length + 1
  | [], _, _ => by simp [cutGo]
  | b :: r, st, cur => by
    have ih := cutGo_length c r
    unfold cutGo
    split
    · have := ih 1 (cur ++ [b]); simp; omega
    · split
      · split
        · have := ih 2 (cur ++ [b]); simp; omega
        · split
          · have := ih 0 (cur ++ [b]); simp; omega
          · have := ih 1 (cur ++ [b]); simp; omega
      · split
        · have := ih 1 (cur ++ [b]); simp; omega
        · split
          · have := ih 0 []; simp; omega
          · have := ih 0 (cur ++ [b]); simp; omega
theorem cutF_length (s : Str) (c : UInt8) : (cutF s c).length ≤ s.length + 1 := cutGo_length c s 0 []
theorem getD_len {l : List Str} {n i : Nat} (h : ∀ x ∈ l, x.length ≤ n) : (l.getD i []).length ≤ n := by
  by_cases hi : i < l.length
  · exact h _ (getD_mem hi)
  · rw [List.getD_eq_getElem?_getD, List.getElem?_eq_none (by omega)]; simp

/-! ### Quoted strings -/
def qc (c : UInt8) : Str := bif decide (c = 34) || decide (c = 92) then [92, c] else [c]
def quote (s : Str) : Str := 34 :: s.flatMap qc ++ [34]
theorem flatMap_step {α β : Type} {f : α → List β} {l : List α} {i : Nat} {dd : α} (h : i < l.length) : (l.take (i + 1)).flatMap f = (l.take i).flatMap f ++ f (l.getD i dd) := by
  rw [List.take_succ_eq_append_getElem h, List.flatMap_append, getD_get h]; simp
theorem quote_hit {s : Str} {i : Nat} (h : i < s.length) (h2 : s.getD i 0 = 34 ∨ s.getD i 0 = 92) : ((34 :: (s.take i).flatMap qc) ++ [92]) ++ [s.getD i 0] = 34 :: (s.take (i + 1)).flatMap qc := by
  rw [flatMap_step (dd := 0) h]
  revert h2
  generalize s.getD i 0 = b
  intro h2
  rcases h2 with h2 | h2 <;> simp [qc, h2]
theorem quote_miss {s : Str} {i : Nat} (h : i < s.length) (h2 : ¬ s.getD i 0 = 34 ∧ ¬ s.getD i 0 = 92) : (34 :: (s.take i).flatMap qc) ++ [s.getD i 0] = 34 :: (s.take (i + 1)).flatMap qc := by
  rw [flatMap_step (dd := 0) h]
  revert h2
  generalize s.getD i 0 = b
  intro h2
  simp [qc, h2.1, h2.2]
theorem qc_length (c : UInt8) : (qc c).length ≤ 2 := by unfold qc; cases decide (c = 34) || decide (c = 92) <;> simp
theorem flatMap_length_le {α β : Type} {f : α → List β} {k : Nat} (hk : ∀ x, (f x).length ≤ k) : ∀ l : List α, (l.flatMap f).length ≤ l.length * k
  | [] => by simp
  | x :: l => by have := hk x; have := flatMap_length_le hk l; rw [List.flatMap_cons, List.length_append, List.length_cons, Nat.add_mul]; omega
theorem quote_length (s : Str) : (quote s).length ≤ 2 * s.length + 2 := by
  have := flatMap_length_le qc_length s
  simp only [quote, List.length_append, List.length_cons, List.length_nil]; omega

def unqGo : Str → Str → Option Str
  | acc, [] => some acc
  | acc, [b] => if b = 34 then none else if b = 92 then none else if textB b = true then some (acc ++ [b]) else none
  | acc, b :: x :: r => if b = 34 then none else if b = 92 then (if textB x = true then unqGo (acc ++ [x]) r else none) else if textB b = true then unqGo (acc ++ [b]) (x :: r) else none
def inner (s : Str) : Str := (s.take (s.length - 1)).drop 1
def unq (s : Str) : Str × Bool :=
  if 2 ≤ s.length ∧ s.getD 0 0 = 34 ∧ s.getD (s.length - 1) 0 = 34 then ((unqGo [] (inner s)).getD [], (unqGo [] (inner s)).isSome) else ([], false)

section
variable {t acc : Str} {i : Nat} {X : Option Str}
theorem unq_quote (h : i < t.length) (hb : t.getD i 0 = 34) (e : unqGo acc (t.drop i) = X) : X = none := by
  rw [← e, drop_step (dd := 0) h, hb]
  cases t.drop (i + 1) <;> simp [unqGo]
theorem unq_esc_end (h : i < t.length) (hb : t.getD i 0 = 92) (h1 : i + 1 = t.length) (e : unqGo acc (t.drop i) = X) : X = none := by
  rw [← e, drop_step (dd := 0) h, hb, List.drop_of_length_le (by omega)]
  simp [unqGo]
theorem unq_esc_bad (h : i + 1 < t.length) (hb : t.getD i 0 = 92) (h1 : textB (t.getD (i + 1) 0) = false) (e : unqGo acc (t.drop i) = X) : X = none := by
  rw [← e, drop_step (dd := 0) (show i < t.length by omega), hb, drop_step (dd := 0) h]
  revert h1
  generalize t.getD (i + 1) 0 = b
  intro h1
  simp [unqGo, h1]
theorem unq_esc (h : i + 1 < t.length) (hb : t.getD i 0 = 92) (h1 : textB (t.getD (i + 1) 0) = true) (e : unqGo acc (t.drop i) = X) : unqGo (acc ++ [t.getD (i + 1) 0]) (t.drop (i + 1 + 1)) = X := by
  rw [← e, drop_step (dd := 0) (show i < t.length by omega), hb, drop_step (dd := 0) h]
  revert h1
  generalize t.getD (i + 1) 0 = b
  intro h1
  simp [unqGo, h1]
theorem unq_bad (h : i < t.length) (h34 : ¬ t.getD i 0 = 34) (hb : ¬ t.getD i 0 = 92) (h1 : textB (t.getD i 0) = false) (e : unqGo acc (t.drop i) = X) : X = none := by
  rw [← e, drop_step (dd := 0) h]
  revert h34 hb h1
  generalize t.getD i 0 = b
  intro h34 hb h1
  cases t.drop (i + 1) <;> simp [unqGo, h34, hb, h1]
theorem unq_plain (h : i < t.length) (h34 : ¬ t.getD i 0 = 34) (hb : ¬ t.getD i 0 = 92) (h1 : textB (t.getD i 0) = true) (e : unqGo acc (t.drop i) = X) : unqGo (acc ++ [t.getD i 0]) (t.drop (i + 1)) = X := by
  rw [← e, drop_step (dd := 0) h]
  revert h34 hb h1
  generalize t.getD i 0 = b
  intro h34 hb h1
  cases t.drop (i + 1) <;> simp [unqGo, h34, hb, h1]
theorem unq_end (h : t.length ≤ i) (e : unqGo acc (t.drop i) = X) : X = some acc := by
  rw [← e, List.drop_of_length_le h]; simp [unqGo]
end
theorem text_get {t : Str} {i : Nat} (h : t.all textB = true) (hi : i < t.length) : textB (t.getD i 0) = true := by
  rw [getD_get hi]; exact List.all_eq_true.1 h _ (List.getElem_mem hi)
theorem unqGo_text : ∀ (t acc u : Str), unqGo acc t = some u → t.all textB = true
  | [], _, _, _ => rfl
  | [b], acc, u, h => by
    unfold unqGo at h
    split at h
    · cases h
    · split at h
      · cases h
      · split at h
        · rename_i hb; simpa using hb
        · cases h
  | b :: x :: r, acc, u, h => by
    unfold unqGo at h
    split at h
    · cases h
    · split at h
      · rename_i hb
        split at h
        · rename_i hx
          have := unqGo_text r _ _ h
          simp [hb, hx, this]; decide
        · cases h
      · split at h
        · rename_i hb
          have := unqGo_text (x :: r) _ _ h
          rw [List.all_cons, hb, this]; rfl
        · cases h
  termination_by t => t.length
theorem unqGo_length : ∀ (t acc u : Str), unqGo acc t = some u → u.length ≤ acc.length + t.length
  | [], _, _, h => by simp [unqGo] at h; subst h; simp
  | [b], acc, u, h => by
    unfold unqGo at h
    split at h
    · cases h
    · split at h
      · cases h
      · split at h
        · cases h; simp
        · cases h
  | b :: x :: r, acc, u, h => by
    unfold unqGo at h
    split at h
    · cases h
    · split at h
      · split at h
        · have := unqGo_length r _ _ h
          simp at this ⊢; omega
        · cases h
      · split at h
        · have := unqGo_length (x :: r) _ _ h
          simp at this ⊢; omega
        · cases h
  termination_by t => t.length
theorem inner_length (s : Str) : (inner s).length ≤ s.length := by simp [inner]; omega
theorem unq_length (s : Str) : (unq s).1.length ≤ s.length := by
  unfold unq
  split
  · cases h : unqGo [] (inner s) with
    | none => simp
    | some u => have := unqGo_length _ _ _ h; have := inner_length s; simp at *; omega
  · simp
theorem unq_no {s : Str} (h : s.length < 2 ∨ ¬ s.getD 0 0 = 34 ∨ ¬ s.getD (s.length - 1) 0 = 34) : unq s = ([], false) := by
  unfold unq; rw [if_neg (by rintro ⟨h1, h2, h3⟩; rcases h with h | h | h <;> first | omega | contradiction)]
theorem unq_yes {s : Str} (h : 2 ≤ s.length) (h2 : s.getD 0 0 = 34) (h3 : s.getD (s.length - 1) 0 = 34) {X : Option Str} (hX : unqGo [] (inner s) = X) : unq s = (X.getD [], X.isSome) := by
  unfold unq; rw [if_pos ⟨h, h2, h3⟩, hX]

theorem unq_nt {s : Str} (h : text (inner s) = false) : unq s = ([], false) := by
  unfold unq
  split
  · cases e : unqGo [] (inner s) with
    | none => rfl
    | some u => have := unqGo_text _ _ _ e; rw [text, this] at h; cases h
  · rfl

/-! ### Parameters -/
def oneP (x : Str) : Str × Str × Bool :=
  if ¬ pos x 61 < x.length ∨ token (x.take (pos x 61)) = false then ([], [], false)
  else if token (x.drop (pos x 61 + 1)) = true then (lower (x.take (pos x 61)), x.drop (pos x 61 + 1), true)
  else (lower (x.take (pos x 61)), unq (x.drop (pos x 61 + 1)))
theorem one_no {x : Str} (h : ¬ pos x 61 < x.length) : oneP x = ([], [], false) := by rw [oneP, if_pos (.inl h)]
theorem one_bad {x : Str} (ht : token (x.take (pos x 61)) = false) : oneP x = ([], [], false) := by rw [oneP, if_pos (.inr ht)]
theorem one_tok {x : Str} (h : pos x 61 < x.length) (ht : token (x.take (pos x 61)) = true) (hv : token (x.drop (pos x 61 + 1)) = true) : oneP x = (lower (x.take (pos x 61)), x.drop (pos x 61 + 1), true) := by
  rw [oneP, if_neg (by simp [h, ht]), if_pos hv]
theorem one_unq {x : Str} (h : pos x 61 < x.length) (ht : token (x.take (pos x 61)) = true) (hv : token (x.drop (pos x 61 + 1)) = false) : oneP x = (lower (x.take (pos x 61)), unq (x.drop (pos x 61 + 1))) := by
  rw [oneP, if_neg (by simp [h, ht]), if_neg (by simp [hv])]
def parsGo : List Prm → List Str → Option (List Prm)
  | acc, [] => some acc
  | acc, p :: r => if trim p = [] then parsGo acc r else if (oneP (trim p)).2.2 = true then parsGo (acc ++ [((oneP (trim p)).1, (oneP (trim p)).2.1)]) r else none
def parseP (s : Str) : Str × List Prm × Bool :=
  if trim ((cutF s 59).getD 0 []) = [] then ([], [], false)
  else match parsGo [] ((cutF s 59).drop 1) with
    | none => ([], [], false)
    | some l => (trim ((cutF s 59).getD 0 []), l, true)
theorem parse_none {s : Str} (h : ¬ trim ((cutF s 59).getD 0 []) = []) (e : parsGo [] ((cutF s 59).drop 1) = none) : parseP s = ([], [], false) := by
  unfold parseP; rw [if_neg h, e]
theorem parse_some {s : Str} {l : List Prm} (h : ¬ trim ((cutF s 59).getD 0 []) = []) (e : parsGo [] ((cutF s 59).drop 1) = some l) : parseP s = (trim ((cutF s 59).getD 0 []), l, true) := by
  unfold parseP; rw [if_neg h, e]
theorem parse_blank {s : Str} (h : trim ((cutF s 59).getD 0 []) = []) : parseP s = ([], [], false) := by
  unfold parseP; rw [if_pos h]
section
variable {X : List Str} {acc : List Prm} {i : Nat} {Y : Option (List Prm)}
theorem pars_skip (h : i < X.length) (hb : trim (X.getD i []) = []) (e : parsGo acc (X.drop i) = Y) : parsGo acc (X.drop (i + 1)) = Y := by
  rw [← e, drop_step (dd := []) h, parsGo, if_pos hb]
theorem pars_bad (h : i < X.length) (hb : ¬ trim (X.getD i []) = []) (h2 : (oneP (trim (X.getD i []))).2.2 = false) (e : parsGo acc (X.drop i) = Y) : Y = none := by
  rw [← e, drop_step (dd := []) h, parsGo, if_neg hb, if_neg (by rw [h2]; simp)]
theorem pars_ok (h : i < X.length) (hb : ¬ trim (X.getD i []) = []) (h2 : (oneP (trim (X.getD i []))).2.2 = true) (e : parsGo acc (X.drop i) = Y) : parsGo (acc ++ [((oneP (trim (X.getD i []))).1, (oneP (trim (X.getD i []))).2.1)]) (X.drop (i + 1)) = Y := by
  rw [← e, drop_step (dd := []) h, parsGo, if_neg hb, if_pos h2]
theorem pars_end (h : X.length ≤ i) (e : parsGo acc (X.drop i) = Y) : Y = some acc := by
  rw [← e, List.drop_of_length_le h, parsGo]
end
theorem parsGo_length : ∀ (X : List Str) (acc : List Prm) (l : List Prm), parsGo acc X = some l → l.length ≤ acc.length + X.length
  | [], acc, l, h => by simp [parsGo] at h; subst h; simp
  | p :: r, acc, l, h => by
    unfold parsGo at h
    split at h
    · have := parsGo_length r _ _ h; simp; omega
    · split at h
      · have := parsGo_length r _ _ h; simp at this ⊢; omega
      · cases h
theorem parseP_length (s : Str) : (parseP s).2.1.length ≤ s.length := by
  unfold parseP
  split
  · simp
  · split
    · simp
    · rename_i l h
      have := parsGo_length _ _ _ h
      have := cutF_length s 59
      simp at *; omega
def wr (v : Str) : Str := if token v = true then v else quote v
def pieceP (p : Prm) : Str := p.1 ++ 61 :: wr p.2
def formatP (v : Str) (l : List Prm) : Str := v ++ l.flatMap fun p => 59 :: pieceP p
def findP (l : List Prm) (name : Str) : Str × Bool := match l.find? (fun p => decide (p.1 = name)) with | some p => (p.2, true) | none => ([], false)
def okP (f : Prm) : Bool := !(decide (100 < f.1.length) || decide (100 < f.2.length))
def keepP (l : List Prm) : Bool := (l.take 9).all okP && decide (l.length ≤ 8)
end Go.Plain

namespace Go.Plain
set_option linter.unusedSimpArgs false
set_option linter.unusedVariables false

section
variable {l : List Prm} {value acc : Str} {i : Nat}
theorem format_step (h : i < l.length) (e : acc = value ++ (l.take i).flatMap (fun p => 59 :: pieceP p)) : value ++ (l.take (i + 1)).flatMap (fun p => 59 :: pieceP p) = acc ++ 59 :: pieceP (l.getD i ([], [])) := by
  rw [flatMap_step (dd := ([], [])) h, ← List.append_assoc, ← e]
theorem format_tok (h : i < l.length) (e : acc = value ++ (l.take i).flatMap (fun p => 59 :: pieceP p)) (ht : token (l.getD i ([], [])).2 = true) : (acc ++ (([59] ++ (l.getD i ([], [])).1) ++ [61])) ++ (l.getD i ([], [])).2 = value ++ (l.take (i + 1)).flatMap (fun p => 59 :: pieceP p) := by
  rw [format_step h e]; revert ht; generalize l.getD i ([], []) = p; intro ht; simp [pieceP, wr, ht]
theorem format_quo (h : i < l.length) (e : acc = value ++ (l.take i).flatMap (fun p => 59 :: pieceP p)) (ht : token (l.getD i ([], [])).2 = false) : (acc ++ (([59] ++ (l.getD i ([], [])).1) ++ [61])) ++ quote (l.getD i ([], [])).2 = value ++ (l.take (i + 1)).flatMap (fun p => 59 :: pieceP p) := by
  rw [format_step h e]; revert ht; generalize l.getD i ([], []) = p; intro ht; simp [pieceP, wr, ht]
end
end Go.Plain

namespace Go.Plain
set_option linter.unusedSimpArgs false
set_option linter.unusedVariables false

abbrev Med := Str × Str × List Prm
def okRange (v : Str) : Bool := token (v.take (pos v 47)) && token (v.drop (pos v 47 + 1)) && !(decide (v.take (pos v 47) = [42]) && !decide (v.drop (pos v 47 + 1) = [42]))
theorem okRange_eq (v : Str) : okRange v = !((!token (v.take (pos v 47)) || !token (v.drop (pos v 47 + 1))) || (decide (v.take (pos v 47) = [42]) && !decide (v.drop (pos v 47 + 1) = [42]))) := by
  unfold okRange; cases token (v.take (pos v 47)) <;> cases token (v.drop (pos v 47 + 1)) <;> simp
theorem okRange_none {v : Str} (h : ¬ pos v 47 < v.length) : okRange v = false := by
  have : v.drop (pos v 47 + 1) = [] := List.drop_of_length_le (by omega)
  unfold okRange; rw [this]; simp [token]
def parseR (s : Str) : Med × Bool :=
  if (parseP s).2.2 = true ∧ okRange (parseP s).1 = true then ((lower ((parseP s).1.take (pos (parseP s).1 47)), lower ((parseP s).1.drop (pos (parseP s).1 47 + 1)), (parseP s).2.1), true) else (([], [], []), false)
theorem parseR_no {s : Str} (h : (parseP s).2.2 = false ∨ okRange (parseP s).1 = false) : parseR s = (([], [], []), false) := by
  rw [parseR, if_neg]; rintro ⟨h1, h2⟩; rcases h with h | h
  · rw [h] at h1; cases h1
  · rw [h] at h2; cases h2
theorem parseR_yes {s : Str} (h1 : (parseP s).2.2 = true) (h2 : okRange (parseP s).1 = true) : parseR s = ((lower ((parseP s).1.take (pos (parseP s).1 47)), lower ((parseP s).1.drop (pos (parseP s).1 47 + 1)), (parseP s).2.1), true) := by
  rw [parseR, if_pos ⟨h1, h2⟩]
def badT (s : Str) : Bool := (!(parseR s).2 || decide ((parseR s).1.1 = [42])) || decide ((parseR s).1.2.1 = [42])
def parseT (s : Str) : Med × Bool := if badT s = true then (([], [], []), false) else parseR s
theorem parseT_no {s : Str} (h : badT s = true) : parseT s = (([], [], []), false) := by rw [parseT, if_pos h]
theorem parseT_yes {s : Str} (h : badT s = false) : parseT s = parseR s ∧ (parseR s).2 = true := by
  refine ⟨by rw [parseT, if_neg (by simp [h])], ?_⟩
  unfold badT at h
  cases hr : (parseR s).2
  · rw [hr] at h; simp at h
  · rfl
def formatT (t : Med) : Str := formatP ((t.1 ++ [47]) ++ t.2.1) t.2.2
theorem any_next {α : Type} {p : α → Bool} {l : List α} {i : Nat} {dd : α} (h : i < l.length) : (l.take (i + 1)).any p = ((l.take i).any p || p (l.getD i dd)) := by
  rw [List.take_succ_eq_append_getElem h, List.any_append, getD_get h]; simp
theorem not_not {a : Prop} : ¬¬a ↔ a := Classical.not_not
def matchB (p x : Prm) : Bool := decide (x.1 = p.1) && fold x.2 p.2
def matchT (r t : Med) : Int :=
  if r.1 = [42] ∧ r.2.1 = [42] then 0 else if ¬ r.1 = t.1 then -1 else if r.2.1 = [42] then 1 else if ¬ r.2.1 = t.2.1 then -1
  else if r.2.2.all (fun p => t.2.2.any (matchB p)) = true then ((2 + r.2.2.length : Nat) : Int) else -1
theorem matchT_no2 {r t : Med} (h1 : ¬ r.1 = [42] ∨ ¬ r.2.1 = [42]) (h2 : ¬ r.2.1 = [42] ∨ ¬ r.1 = t.1) (h3 : ¬ r.1 = t.1 ∨ ¬ r.2.1 = t.2.1) : matchT r t = -1 := by
  unfold matchT
  rw [if_neg (fun e => by rcases h1 with h | h; exact h e.1; exact h e.2)]
  by_cases he : r.1 = t.1
  · have h2' : ¬ r.2.1 = [42] := by rcases h2 with h | h; exact h; exact absurd he h
    have h3' : ¬ r.2.1 = t.2.1 := by rcases h3 with h | h; exact absurd he h; exact h
    rw [if_neg (not_not.2 he), if_neg h2', if_pos h3']
  · rw [if_pos he]
def sameM (a b : Med) : Bool := ((decide (a.1 = b.1) && decide (a.2.1 = b.2.1)) && decide (a.2.2 = b.2.2))
def keepM (t : Med) : Bool := (decide (t.1.length ≤ 100) && decide (t.2.1.length ≤ 100)) && keepP t.2.2
theorem parseP_len1 (s : Str) : (parseP s).1.length ≤ s.length := by
  have h : (trim ((cutF s 59).getD 0 [])).length ≤ s.length := by have := getD_len (i := 0) (cutF_mem s 59); have := trim_length ((cutF s 59).getD 0 []); omega
  unfold parseP
  split
  · simp
  · split
    · simp
    · exact h
theorem oneP_len (x : Str) : (oneP x).1.length ≤ x.length ∧ (oneP x).2.1.length ≤ x.length := by
  unfold oneP
  split
  · simp
  · split
    · simp; omega
    · have := unq_length (x.drop (pos x 61 + 1)); simp at this ⊢; omega
theorem parsGo_mem {n : Nat} : ∀ (X : List Str) (acc l : List Prm), parsGo acc X = some l → (∀ x ∈ X, x.length ≤ n) → (∀ p ∈ acc, p.1.length ≤ n ∧ p.2.length ≤ n) → ∀ p ∈ l, p.1.length ≤ n ∧ p.2.length ≤ n
  | [], acc, l, h, _, ha => by simp [parsGo] at h; subst h; exact ha
  | x :: X, acc, l, h, hx, ha => by
    have hX : ∀ y ∈ X, y.length ≤ n := fun y hy => hx y (List.mem_cons_of_mem _ hy)
    unfold parsGo at h
    split at h
    · exact parsGo_mem X _ _ h hX ha
    · split at h
      · refine parsGo_mem X _ _ h hX fun p hp => ?_
        rcases List.mem_append.1 hp with hp | hp
        · exact ha p hp
        · obtain rfl := List.mem_singleton.1 hp
          have := oneP_len (trim x)
          have := trim_length x
          have := hx x List.mem_cons_self
          exact ⟨by simp only; omega, by simp only; omega⟩
      · cases h
theorem parseP_mem (s : Str) : ∀ p ∈ (parseP s).2.1, p.1.length ≤ s.length ∧ p.2.length ≤ s.length := by
  unfold parseP
  split
  · simp
  · split
    · simp
    · rename_i l h
      exact parsGo_mem _ _ _ h (fun x hx => cutF_mem s 59 x (List.mem_of_mem_drop hx)) (by simp)
theorem parseR_len (s : Str) : (parseR s).1.1.length ≤ s.length ∧ (parseR s).1.2.1.length ≤ s.length ∧ (parseR s).1.2.2.length ≤ s.length ∧ ∀ p ∈ (parseR s).1.2.2, p.1.length ≤ s.length ∧ p.2.length ≤ s.length := by
  unfold parseR
  have := parseP_len1 s
  split
  · exact ⟨by simp; omega, by simp; omega, parseP_length s, parseP_mem s⟩
  · simp
theorem parseT_len (s : Str) : (parseT s).1.1.length ≤ s.length ∧ (parseT s).1.2.1.length ≤ s.length ∧ (parseT s).1.2.2.length ≤ s.length ∧ ∀ p ∈ (parseT s).1.2.2, p.1.length ≤ s.length ∧ p.2.length ≤ s.length := by
  unfold parseT
  split
  · simp
  · exact parseR_len s
end Go.Plain

namespace Go.Plain
set_option linter.unusedSimpArgs false
set_option linter.unusedVariables false

/-! ### Bytes -/
theorem tok_blank (c : UInt8) (h : tokB c = true) : blankB c = false := by
  have := all_u8 (fun c => !tokB c || !blankB c) (by decide +kernel) c
  simp only [h, Bool.not_true, Bool.false_or] at this; simpa using this
theorem tok_text (c : UInt8) (h : tokB c = true) : textB c = true := by
  have := all_u8 (fun c => !tokB c || textB c) (by decide +kernel) c
  simpa [h] using this
theorem tok_lower (c : UInt8) : tokB (lowerB c) = tokB c := by
  have := all_u8 (fun c => decide (tokB (lowerB c) = tokB c)) (by decide +kernel) c
  simpa using this
theorem lower_star (c : UInt8) : lowerB c = 42 ↔ c = 42 := by
  have := all_u8 (fun c => decide (lowerB c = 42 ↔ c = 42)) (by decide +kernel) c
  simpa using this
theorem token_lower (s : Str) : token (lower s) = token s := by
  unfold token lower
  rw [List.all_map]
  have e : (tokB ∘ lowerB) = tokB := funext fun c => tok_lower c
  rw [e]
  cases s <;> simp
theorem lower_eq_star (s : Str) : lower s = [42] ↔ s = [42] := by
  unfold lower
  cases s with
  | nil => simp
  | cons c r => cases r <;> simp [lower_star]
theorem token_text {s : Str} (h : token s = true) : text s = true := by
  unfold text
  rw [List.all_eq_true]
  exact fun x hx => tok_text x (token_bytes h x hx)
theorem token_ne {s : Str} (h : token s = true) : s ≠ [] := by
  intro e; subst e; simp [token] at h

/-! ### Ends -/
theorem getD_last (m : Str) (z : UInt8) : (m ++ [z]).getD ((m ++ [z]).length - 1) 0 = z := by simp
theorem pad_trim {a s b m m' : Str} {x z : UInt8} (ha : a.all blankB = true) (hb : b.all blankB = true) (h1 : s = x :: m) (h2 : s = m' ++ [z]) (hx : blankB x = false) (hz : blankB z = false) : trim (a ++ s ++ b) = s := by
  unfold trim
  have e1 : trimR blankB ((a ++ s) ++ b) = a ++ s := trimR_eq hb (.inr (by rw [h2, ← List.append_assoc, getD_last]; exact hz))
  rw [e1, trimL_append_all ha]
  exact trimL_end (.inr (by rw [h1]; exact hx))
theorem ends_trim {s m m' : Str} {x z : UInt8} (h1 : s = x :: m) (h2 : s = m' ++ [z]) (hx : blankB x = false) (hz : blankB z = false) : trim s = s := by
  have := pad_trim (a := []) (b := []) rfl rfl h1 h2 hx hz
  simpa using this
theorem last_of {s : Str} (h : s ≠ []) : ∃ m z, s = m ++ [z] ∧ z ∈ s := ⟨s.dropLast, s.getLast h, (List.dropLast_concat_getLast h).symm, List.getLast_mem h⟩
theorem first_of {s : Str} (h : s ≠ []) : ∃ x m, s = x :: m ∧ x ∈ s := by cases s with
  | nil => exact absurd rfl h
  | cons x m => exact ⟨x, m, rfl, List.mem_cons_self⟩
/-- A text whose ends are no blanks. -/
def Firm (s : Str) : Prop := ∃ x m m' z, s = x :: m ∧ s = m' ++ [z] ∧ blankB x = false ∧ blankB z = false
theorem Firm.trim {s : Str} (h : Firm s) : trim s = s := by obtain ⟨x, m, m', z, h1, h2, h3, h4⟩ := h; exact ends_trim h1 h2 h3 h4
theorem Firm.ne {s : Str} (h : Firm s) : s ≠ [] := by obtain ⟨x, m, m', z, h1, _⟩ := h; rw [h1]; simp
theorem token_firm {s : Str} (h : token s = true) : Firm s := by
  obtain ⟨x, m, h1, hx⟩ := first_of (token_ne h)
  obtain ⟨m', z, h2, hz⟩ := last_of (token_ne h)
  exact ⟨x, m, m', z, h1, h2, tok_blank x (token_bytes h x hx), tok_blank z (token_bytes h z hz)⟩
theorem Firm.append {a b w : Str} (ha : Firm a) (hb : Firm b) : Firm (a ++ w ++ b) := by
  obtain ⟨x, m, _, _, h1, _, h3, _⟩ := ha
  obtain ⟨_, _, m', z, _, h2, _, h4⟩ := hb
  exact ⟨x, m ++ w ++ b, a ++ w ++ m', z, by rw [h1]; rfl, by rw [h2]; simp, h3, h4⟩
theorem quote_firm (s : Str) : Firm (quote s) := ⟨34, s.flatMap qc ++ [34], 34 :: s.flatMap qc, 34, rfl, rfl, rfl, rfl⟩
theorem wr_firm (v : Str) : Firm (wr v) := by
  unfold wr
  split
  · rename_i h; exact token_firm h
  · exact quote_firm v

/-! ### Cutting what was written -/
theorem cut_run {c : UInt8} : ∀ (a cur r : Str), (∀ x ∈ a, x ≠ 34 ∧ x ≠ c) → cutGo c 0 cur (a ++ r) = cutGo c 0 (cur ++ a) r
  | [], cur, r, _ => by simp
  | x :: a, cur, r, h => by
    have hx := h x List.mem_cons_self
    have ih := cut_run a (cur ++ [x]) r (fun y hy => h y (List.mem_cons_of_mem _ hy))
    rw [List.cons_append, cutGo, if_neg (by decide), if_neg (by decide), if_neg hx.1, if_neg hx.2, ih]
    simp
theorem cut_quoted {c : UInt8} : ∀ (s cur r : Str), cutGo c 1 cur (s.flatMap qc ++ 34 :: r) = cutGo c 0 (cur ++ s.flatMap qc ++ [34]) r
  | [], cur, r => by
    simp [cutGo]
  | x :: s, cur, r => by
    rw [List.flatMap_cons, List.append_assoc]
    by_cases h : x = 34 ∨ x = 92
    · have e : qc x = [92, x] := by rcases h with rfl | rfl <;> rfl
      have ih := cut_quoted (c := c) s (cur ++ [92] ++ [x]) r
      rw [e]
      simp only [List.cons_append, List.nil_append]
      rw [cutGo, if_neg (by decide), if_pos rfl, if_pos rfl, cutGo, if_pos rfl, ih]
      simp
    · have h1 : ¬ x = 34 := fun e => h (.inl e)
      have h2 : ¬ x = 92 := fun e => h (.inr e)
      have e : qc x = [x] := by simp [qc, h1, h2]
      have ih := cut_quoted (c := c) s (cur ++ [x]) r
      rw [e]
      simp only [List.cons_append, List.nil_append]
      rw [cutGo, if_neg (by decide), if_pos rfl, if_neg h2, if_neg h1, ih]
      simp
theorem cut_quote_run {c : UInt8} (s cur r : Str) : cutGo c 0 cur (quote s ++ r) = cutGo c 0 (cur ++ quote s) r := by
  unfold quote
  rw [List.append_assoc, List.cons_append]
  rw [cutGo, if_neg (by decide), if_neg (by decide), if_pos rfl]
  have := cut_quoted (c := c) s (cur ++ [34]) r
  simp only [List.cons_append, List.nil_append] at this ⊢
  rw [this]
  simp
theorem tok_clean {s : Str} (h : token s = true) : ∀ x ∈ s, x ≠ 34 ∧ x ≠ 59 := fun x hx => ⟨token_no h (by decide) x hx, token_no h (by decide) x hx⟩
theorem cut_wr (v cur r : Str) : cutGo 59 0 cur (wr v ++ r) = cutGo 59 0 (cur ++ wr v) r := by
  unfold wr
  split
  · rename_i h; exact cut_run v cur r (tok_clean h)
  · exact cut_quote_run v cur r
theorem cut_piece {n w : Str} (hn : token n = true) (hw : ∀ cur r, cutGo 59 0 cur (w ++ r) = cutGo 59 0 (cur ++ w) r) (cur r : Str) : cutGo 59 0 cur ((n ++ 61 :: w) ++ r) = cutGo 59 0 (cur ++ (n ++ 61 :: w)) r := by
  have e : (n ++ 61 :: w) ++ r = (n ++ [61]) ++ (w ++ r) := by simp
  rw [e, cut_run (n ++ [61]) cur (w ++ r) (fun x hx => by
    rcases List.mem_append.1 hx with h | h
    · exact tok_clean hn x h
    · obtain rfl := List.mem_singleton.1 h; decide), hw]
  simp
theorem cut_sep1 (cur r : Str) : cutGo 59 0 cur (59 :: r) = cur :: cutGo 59 0 [] r := by
  rw [cutGo, if_neg (by decide), if_neg (by decide), if_neg (by decide), if_pos rfl]
theorem cut_list : ∀ (l : List Prm) (cur : Str), (∀ p ∈ l, token p.1 = true) → cutGo 59 0 cur (l.flatMap fun p => 59 :: pieceP p) = cur :: l.map pieceP
  | [], cur, _ => by simp [cutGo]
  | p :: l, cur, h => by
    have ih := cut_list l (pieceP p) (fun q hq => h q (List.mem_cons_of_mem _ hq))
    rw [List.flatMap_cons, List.cons_append, cut_sep1]
    have := cut_piece (h p List.mem_cons_self) (cut_wr p.2) [] (l.flatMap fun p => 59 :: pieceP p)
    unfold pieceP at this ih ⊢
    rw [this]
    simp only [List.nil_append]
    rw [ih]
    rfl

/-! ### Reading a parameter -/
theorem quote_no_token (s : Str) : token (quote s) = false := by
  unfold token quote
  have : tokB 34 = false := by decide
  simp [this]
theorem unq_step {acc r : Str} {x : UInt8} (h1 : ¬ x = 34) (h2 : ¬ x = 92) (h3 : textB x = true) : unqGo acc (x :: r) = unqGo (acc ++ [x]) r := by
  cases r <;> simp [unqGo, h1, h2, h3]
theorem unq_flat : ∀ (s acc : Str), s.all textB = true → unqGo acc (s.flatMap qc) = some (acc ++ s)
  | [], acc, _ => by simp [unqGo]
  | x :: s, acc, h => by
    have h' : textB x = true ∧ s.all textB = true := by simpa using h
    have ih := unq_flat s (acc ++ [x]) h'.2
    rw [List.flatMap_cons]
    by_cases hx : x = 34 ∨ x = 92
    · have e : qc x = [92, x] := by rcases hx with rfl | rfl <;> rfl
      rw [e]
      simp only [List.cons_append, List.nil_append]
      have e2 : unqGo acc (92 :: x :: s.flatMap qc) = unqGo (acc ++ [x]) (s.flatMap qc) := by simp [unqGo, h'.1]
      rw [e2, ih]; simp
    · have h1 : ¬ x = 34 := fun e => hx (.inl e)
      have h2 : ¬ x = 92 := fun e => hx (.inr e)
      have e : qc x = [x] := by simp [qc, h1, h2]
      rw [e, List.cons_append, List.nil_append, unq_step h1 h2 h'.1, ih]; simp
theorem unq_of_quote {s : Str} (h : text s = true) : unq (quote s) = (s, true) := by
  have hl : (quote s).length = (s.flatMap qc).length + 2 := by simp only [quote, List.length_append, List.length_cons, List.length_nil]
  have hi : inner (quote s) = s.flatMap qc := by
    unfold inner
    rw [hl]
    simp [quote]
  have e := unq_yes (s := quote s) (by omega) (by simp [quote]) (by unfold quote; rw [getD_last]) (X := some s) (by rw [hi, unq_flat s [] h]; rfl)
  rw [e]; rfl
theorem pos_name {n w : Str} (hn : token n = true) : pos (n ++ 61 :: w) 61 = n.length := pos_append (token_no hn (by decide))
theorem one_piece {n w : Str} (hn : token n = true) : oneP (n ++ 61 :: w) = if token w = true then (lower n, w, true) else (lower n, unq w) := by
  have hp := pos_name (w := w) hn
  have ht : (n ++ 61 :: w).take (pos (n ++ 61 :: w) 61) = n := by rw [hp]; simp
  have hd : (n ++ 61 :: w).drop (pos (n ++ 61 :: w) 61 + 1) = w := by rw [hp, ← List.drop_drop]; simp
  have hlt : pos (n ++ 61 :: w) 61 < (n ++ 61 :: w).length := by rw [hp]; simp
  cases hw : token w
  · rw [one_unq hlt (by rw [ht]; exact hn) (by rw [hd]; exact hw), ht, hd]; simp
  · rw [one_tok hlt (by rw [ht]; exact hn) (by rw [hd]; exact hw), ht, hd]; simp
/-- A parameter that is written so that it is read back. -/
def Good (p : Prm) : Prop := token p.1 = true ∧ lower p.1 = p.1 ∧ text p.2 = true
theorem one_good {p : Prm} (h : Good p) : oneP (pieceP p) = (p.1, p.2, true) := by
  unfold pieceP
  rw [one_piece h.1]
  cases hv : token p.2
  · have hw : wr p.2 = quote p.2 := by unfold wr; rw [if_neg (by rw [hv]; simp)]
    rw [hw, quote_no_token, if_neg (by simp), unq_of_quote h.2.2, h.2.1]
  · have hw : wr p.2 = p.2 := by unfold wr; rw [if_pos hv]
    rw [hw, hv, if_pos rfl, h.2.1]
theorem piece_firm {p : Prm} (h : token p.1 = true) : Firm (pieceP p) := by
  have := (token_firm h).append (w := [61]) (wr_firm p.2)
  unfold pieceP; simpa using this
theorem pars_good : ∀ (l acc : List Prm), (∀ p ∈ l, Good p) → parsGo acc (l.map pieceP) = some (acc ++ l)
  | [], acc, _ => by simp [parsGo]
  | p :: l, acc, h => by
    have hp := h p List.mem_cons_self
    have hf := piece_firm hp.1
    have ih := pars_good l (acc ++ [p]) (fun q hq => h q (List.mem_cons_of_mem _ hq))
    rw [List.map_cons, parsGo, hf.trim, if_neg hf.ne, one_good hp, if_pos rfl]
    have e : ((p.1, p.2, true).1, (p.1, p.2, true).2.1) = p := rfl
    rw [e, ih]; simp
theorem parse_back {v : Str} {l : List Prm} (hv : Firm v) (hc : ∀ x ∈ v, x ≠ 34 ∧ x ≠ 59) (hl : ∀ p ∈ l, Good p) : parseP (formatP v l) = (v, l, true) := by
  have hcut : cutF (formatP v l) 59 = v :: l.map pieceP := by
    unfold cutF formatP
    rw [cut_run v [] _ hc, List.nil_append, cut_list l v (fun p hp => (hl p hp).1)]
  have h0 : (cutF (formatP v l) 59).getD 0 [] = v := by rw [hcut]; rfl
  have h1 : (cutF (formatP v l) 59).drop 1 = l.map pieceP := by rw [hcut]; rfl
  have hp := parse_some (s := formatP v l) (l := l) (by rw [h0, hv.trim]; exact hv.ne) (by rw [h1, pars_good l [] hl]; rfl)
  rw [hp, h0, hv.trim]
/-! ### Blanks -/
section
variable {v n t : Str}
end

/-! ### Media types -/
theorem unqGo_all : ∀ (t acc u : Str), unqGo acc t = some u → acc.all textB = true → u.all textB = true
  | [], acc, u, h, ha => by simp [unqGo] at h; subst h; exact ha
  | [b], acc, u, h, ha => by
    unfold unqGo at h
    split at h
    · cases h
    · split at h
      · cases h
      · split at h
        · rename_i hb; cases h; simp [ha, hb]
        · cases h
  | b :: x :: r, acc, u, h, ha => by
    unfold unqGo at h
    split at h
    · cases h
    · split at h
      · split at h
        · rename_i hx
          exact unqGo_all r _ _ h (by simp [ha, hx])
        · cases h
      · split at h
        · rename_i hb
          exact unqGo_all (x :: r) _ _ h (by simp [ha, hb])
        · cases h
  termination_by t => t.length
theorem unq_text {s : Str} (h : (unq s).2 = true) : text (unq s).1 = true := by
  unfold unq at h ⊢
  split
  · rename_i hc
    rw [if_pos hc] at h
    cases e : unqGo [] (inner s) with
    | none => rw [e] at h; cases h
    | some u => exact unqGo_all _ _ _ e rfl
  · rename_i hc; rw [if_neg hc] at h; cases h
theorem one_goodness {x : Str} (h : (oneP x).2.2 = true) : Good ((oneP x).1, (oneP x).2.1) := by
  unfold oneP at h ⊢
  split
  · rename_i hc; rw [if_pos hc] at h; cases h
  · rename_i hc
    rw [if_neg hc] at h
    have ht : token (x.take (pos x 61)) = true := by
      cases e : token (x.take (pos x 61))
      · exact absurd (.inr e) hc
      · rfl
    split
    · rename_i hv
      exact ⟨by simp only; rw [token_lower]; exact ht, by simp only; rw [lower_idem], token_text hv⟩
    · rename_i hv
      rw [if_neg hv] at h
      exact ⟨by simp only; rw [token_lower]; exact ht, by simp only; rw [lower_idem], unq_text h⟩
theorem pars_goodness : ∀ (X : List Str) (acc l : List Prm), parsGo acc X = some l → (∀ p ∈ acc, Good p) → ∀ p ∈ l, Good p
  | [], acc, l, h, ha => by simp [parsGo] at h; subst h; exact ha
  | x :: X, acc, l, h, ha => by
    unfold parsGo at h
    split at h
    · exact pars_goodness X _ _ h ha
    · split at h
      · rename_i ho
        refine pars_goodness X _ _ h fun p hp => ?_
        rcases List.mem_append.1 hp with hp | hp
        · exact ha p hp
        · obtain rfl := List.mem_singleton.1 hp; exact one_goodness ho
      · cases h
theorem parse_goodness (s : Str) : ∀ p ∈ (parseP s).2.1, Good p := by
  unfold parseP
  split
  · simp
  · split
    · simp
    · rename_i l h; exact pars_goodness _ _ _ h (by simp)
theorem parse_range_back {s : Str} (h : (parseR s).2 = true) : parseR (formatT (parseR s).1) = parseR s := by
  have hc : (parseP s).2.2 = true ∧ okRange (parseP s).1 = true := by
    by_cases hc : (parseP s).2.2 = true ∧ okRange (parseP s).1 = true
    · exact hc
    · rw [parseR, if_neg hc] at h; cases h
  have e := parseR_yes hc.1 hc.2
  have hok := hc.2
  have hg := parse_goodness s
  rw [e]
  generalize (parseP s).1 = v at hok ⊢
  generalize (parseP s).2.1 = l at hg ⊢
  unfold okRange at hok
  revert hok
  generalize v.take (pos v 47) = a
  generalize v.drop (pos v 47 + 1) = b
  intro hok
  simp only [Bool.and_eq_true] at hok
  obtain ⟨⟨ha, hb⟩, hst⟩ := hok
  have hla : token (lower a) = true := by rw [token_lower]; exact ha
  have hlb : token (lower b) = true := by rw [token_lower]; exact hb
  have hv : Firm ((lower a ++ [47]) ++ lower b) := (token_firm hla).append (token_firm hlb)
  have hcl : ∀ x ∈ (lower a ++ [47]) ++ lower b, x ≠ 34 ∧ x ≠ 59 := fun x hx => by
    rcases List.mem_append.1 hx with hx | hx
    · rcases List.mem_append.1 hx with hx | hx
      · exact tok_clean hla x hx
      · obtain rfl := List.mem_singleton.1 hx; decide
    · exact tok_clean hlb x hx
  have hb2 : parseP (formatT (lower a, lower b, l)) = ((lower a ++ [47]) ++ lower b, l, true) := parse_back hv hcl hg
  have hpos : pos ((lower a ++ [47]) ++ lower b) 47 = (lower a).length := by
    have := pos_append (r := lower b) (token_no hla (c := 47) (by decide))
    simpa using this
  have ht : ((lower a ++ [47]) ++ lower b).take (pos ((lower a ++ [47]) ++ lower b) 47) = lower a := by rw [hpos]; simp
  have hd : ((lower a ++ [47]) ++ lower b).drop (pos ((lower a ++ [47]) ++ lower b) 47 + 1) = lower b := by rw [hpos, ← List.drop_drop]; simp
  have hok2 : okRange ((lower a ++ [47]) ++ lower b) = true := by
    unfold okRange
    have e1 : decide (lower a = [42]) = decide (a = [42]) := decide_eq_decide.2 (lower_eq_star a)
    have e2 : decide (lower b = [42]) = decide (b = [42]) := decide_eq_decide.2 (lower_eq_star b)
    rw [ht, hd, hla, hlb, e1, e2]
    simpa using hst
  rw [parseR_yes (by rw [hb2]) (by rw [hb2]; exact hok2), hb2]
  simp only
  rw [ht, hd, lower_idem, lower_idem]
theorem match_self {t : Med} (h1 : ¬ t.1 = [42]) (h2 : ¬ t.2.1 = [42]) : matchT t t = ((2 + t.2.2.length : Nat) : Int) := by
  unfold matchT
  rw [if_neg (fun e => h1 e.1), if_neg (not_not.2 rfl), if_neg h2, if_neg (not_not.2 rfl), if_pos]
  rw [List.all_eq_true]
  intro p hp
  rw [List.any_eq_true]
  exact ⟨p, hp, by unfold matchB; rw [fold_self]; simp⟩
end Go.Plain

namespace Go.Plain
set_option linter.unusedSimpArgs false
set_option linter.unusedVariables false

def goodB (p : Prm) : Bool := (token p.1 && decide (lower p.1 = p.1)) && text p.2
theorem wr_length (v : Str) : (wr v).length ≤ 2 * v.length + 2 := by
  unfold wr; split
  · omega
  · exact quote_length v
def sumP (l : List Prm) : Nat := (l.map fun p => p.1.length + p.2.length).sum
theorem formatP_length (v : Str) : ∀ l : List Prm, (formatP v l).length ≤ v.length + 2 * sumP l + 4 * l.length
  | [] => by simp [formatP, sumP]
  | p :: l => by
    have ih := formatP_length v l
    have := wr_length p.2
    simp only [formatP, sumP, List.length_append, List.flatMap_cons, List.length_cons, pieceP, List.map_cons, List.sum_cons] at ih ⊢
    omega
def sumS (X : List Str) : Nat := (X.map fun x => x.length).sum
theorem cutGo_sum (c : UInt8) : ∀ (r : Str) (st : Nat) (cur : Str), sumS (cutGo c st cur r) ≤ cur.length + r.length
  | [], _, cur => by simp [cutGo, sumS]
  | b :: r, st, cur => by
    have ih := cutGo_sum c r
    have up : ∀ st, sumS (cutGo c st (cur ++ [b]) r) ≤ cur.length + (b :: r).length := fun st => by have := ih st (cur ++ [b]); simp at this ⊢; omega
    unfold cutGo
    split
    · exact up _
    · split
      · split
        · exact up _
        · split <;> exact up _
      · split
        · exact up _
        · split
          · have := ih 0 []
            simp only [sumS, List.map_cons, List.sum_cons, List.length_nil, List.length_cons] at this ⊢
            omega
          · exact up _
theorem oneP_sum (x : Str) : (oneP x).1.length + (oneP x).2.1.length ≤ x.length := by
  unfold oneP
  split
  · simp
  · rename_i hc
    have hlt : pos x 61 < x.length := by
      rcases Nat.lt_or_ge (pos x 61) x.length with h | h
      · exact h
      · exact absurd (.inl (by omega)) hc
    split
    · simp; omega
    · have := unq_length (x.drop (pos x 61 + 1)); simp at this ⊢; omega
theorem parsGo_sum : ∀ (X : List Str) (acc l : List Prm), parsGo acc X = some l → sumP l ≤ sumP acc + sumS X
  | [], acc, l, h => by simp [parsGo] at h; subst h; simp
  | x :: X, acc, l, h => by
    unfold parsGo at h
    split at h
    · have := parsGo_sum X _ _ h; simp only [sumS, List.map_cons, List.sum_cons] at this ⊢; omega
    · split at h
      · have h1 := parsGo_sum X _ _ h
        have h2 := oneP_sum (trim x)
        have h3 := trim_length x
        simp only [sumS, sumP, List.map_cons, List.sum_cons, List.map_append, List.sum_append, List.map_nil, List.sum_nil] at h1 ⊢
        omega
      · cases h
theorem parseP_sum (s : Str) : sumP (parseP s).2.1 ≤ s.length := by
  unfold parseP
  split
  · simp [sumP]
  · split
    · simp [sumP]
    · rename_i l h
      have h1 := parsGo_sum _ _ _ h
      have h2 := cutGo_sum 59 s 0 []
      have h3 : sumS ((cutF s 59).drop 1) ≤ sumS (cutF s 59) := by
        unfold sumS
        cases cutF s 59 with
        | nil => simp
        | cons a t => simp
      unfold cutF at h1 h3
      simp only [sumP, List.map_nil, List.sum_nil, List.length_nil] at h1 h2 ⊢
      omega
theorem parseT_ok {s : Str} (h : (parseT s).2 = true) : ¬ (parseT s).1.1 = [42] ∧ ¬ (parseT s).1.2.1 = [42] := by
  cases hb : badT s
  · rw [(parseT_yes hb).1]
    unfold badT at hb
    simp only [Bool.or_eq_false_iff, decide_eq_false_iff_not] at hb
    exact ⟨hb.1.2, hb.2⟩
  · rw [parseT_no hb] at h; cases h
end Go.Plain

namespace Go.Plain
set_option linter.unusedSimpArgs false
set_option linter.unusedVariables false

/-! ### Members -/
def neB (s : Str) : Bool := !decide (s = [])
def memG (X : List Str) : List Str := (X.map trim).filter neB
def splitF (v : Str) : List Str := (memG (cutF v 44)).take 64
def stepF (st : Nat) (c : UInt8) : Nat := if st = 2 then 1 else if st = 1 ∧ c = 92 then 2 else if c = 34 then 1 - st else st
theorem stepF_le {st : Nat} {c : UInt8} (h : st ≤ 2) : stepF st c ≤ 2 := by unfold stepF; split; omega; split; omega; split <;> omega
theorem memG_cons (x : Str) (X : List Str) : memG (x :: X) = if trim x = [] then memG X else trim x :: memG X := by
  unfold memG
  rw [List.map_cons, List.filter_cons]
  unfold neB
  by_cases h : trim x = [] <;> simp [h]
section
variable {v : Str} {i fr st : Nat} {acc X : List Str}
/-- What is still to come. -/
def rest7 (v : Str) (i fr st : Nat) : List Str := if i ≤ v.length then memG (cutGo 44 st ((v.take i).drop fr) (v.drop i)) else []
theorem cutGo_next {c b : UInt8} {st : Nat} {cur r : Str} (hs : st ≤ 2) (h : ¬ (st = 0 ∧ b = c)) : cutGo c st cur (b :: r) = cutGo c (stepF st b) (cur ++ [b]) r := by
  unfold stepF
  rw [cutGo]
  by_cases h2 : st = 2
  · simp [h2]
  by_cases h1 : st = 1
  · subst h1
    by_cases hb : b = 92
    · simp [hb]
    · by_cases h34 : b = 34
      · simp [h34]
      · simp [hb, h34]
  · obtain rfl : st = 0 := by omega
    have hc : ¬ b = c := fun e => h ⟨rfl, e⟩
    by_cases h34 : b = 34
    · simp [h34]
    · simp [h34, hc]
theorem split_next (h : i < v.length) (hf : fr ≤ i) (hs : st ≤ 2) (hn : ¬ (st = 0 ∧ v.getD i 0 = 44)) (e : acc ++ rest7 v i fr st = X) : acc ++ rest7 v (i + 1) fr (stepF st (v.getD i 0)) = X := by
  rw [← e]
  unfold rest7
  rw [if_pos (by omega), if_pos (by omega), take_drop_step h hf, drop_step (dd := 0) h, cutGo_next hs hn]
theorem rest7_in (h : i ≤ v.length) : rest7 v i fr st = memG (cutGo 44 st ((v.take i).drop fr) (v.drop i)) := if_pos h
theorem rest7_out (h : v.length < i) : rest7 v i fr st = [] := if_neg (by omega)
theorem split_cut (h : i < v.length) (hs : st = 0) (hb : v.getD i 0 = 44) (e : acc ++ rest7 v i fr st = X) : acc ++ (if trim ((v.take i).drop fr) = [] then [] else [trim ((v.take i).drop fr)]) ++ rest7 v (i + 1) (i + 1) st = X := by
  rw [← e, rest7_in (i := i) (by omega), rest7_in (i := i + 1) (by omega), drop_step (dd := 0) h, hb, hs]
  have e2 : (v.take (i + 1)).drop (i + 1) = [] := List.drop_of_length_le (by rw [List.length_take]; exact Nat.min_le_left _ _)
  have e3 : cutGo 44 0 ((v.take i).drop fr) (44 :: v.drop (i + 1)) = (v.take i).drop fr :: cutGo 44 0 [] (v.drop (i + 1)) := by
    rw [cutGo, if_neg (by decide), if_neg (by decide), if_neg (by decide), if_pos rfl]
  rw [e2, e3, memG_cons]
  split <;> simp
theorem split_last (h : i = v.length) (e : acc ++ rest7 v i fr st = X) : acc ++ (if trim ((v.take i).drop fr) = [] then [] else [trim ((v.take i).drop fr)]) ++ rest7 v (i + 1) (i + 1) st = X := by
  have e1 : v.drop i = [] := List.drop_of_length_le (by omega)
  rw [← e, rest7_in (i := i) (by omega), rest7_out (i := i + 1) (by omega), e1, cutGo, memG_cons]
  split <;> simp [memG]
theorem split_done (h : v.length < i ∨ 64 ≤ acc.length) (h2 : acc.length ≤ 64) (e : acc ++ rest7 v i fr st = memG (cutF v 44)) : acc = splitF v := by
  unfold splitF
  rw [← e]
  rcases h with h | h
  · unfold rest7
    rw [if_neg (by omega), List.append_nil, List.take_of_length_le h2]
  · rw [List.take_append_of_le_length h, List.take_of_length_le h2]
theorem rest7_zero : rest7 v 0 0 0 = memG (cutF v 44) := by unfold rest7 cutF; simp
end
theorem splitF_length (v : Str) : (splitF v).length ≤ 64 := by unfold splitF; rw [List.length_take]; omega
theorem splitF_mem (v : Str) : ∀ x ∈ splitF v, x.length ≤ v.length := fun x hx => by
  have h1 := List.mem_of_mem_take hx
  unfold memG at h1
  obtain ⟨h2, _⟩ := List.mem_filter.1 h1
  obtain ⟨y, hy, rfl⟩ := List.mem_map.1 h2
  have := trim_length y
  have := cutF_mem v 44 y hy
  omega
def allV (vs : List Str) : List Str := (vs.flatMap splitF).take 64
def allF (l : List Fld) (name : Str) : List Str := allV (getF l name)
theorem allV_length (vs : List Str) : (allV vs).length ≤ 64 := by unfold allV; rw [List.length_take]; omega
theorem allV_mem {vs : List Str} {n : Nat} (h : ∀ v ∈ vs, v.length ≤ n) : ∀ x ∈ allV vs, x.length ≤ n := fun x hx => by
  obtain ⟨v, hv, hx⟩ := List.mem_flatMap.1 (List.mem_of_mem_take hx)
  have := splitF_mem v x hx
  have := h v hv
  omega
theorem getF_mem {l : List Fld} {name : Str} {n : Nat} (h : ∀ x ∈ l, x.1.length ≤ n ∧ x.2.length ≤ n) : ∀ v ∈ getF l name, v.length ≤ n := fun v hv => by
  unfold getF at hv
  obtain ⟨f, hf, rfl⟩ := List.mem_map.1 hv
  exact (h f (List.mem_filter.1 hf).1).2
theorem flat_take_step {vs : List Str} {i : Nat} (h : i < vs.length) : (vs.take (i + 1)).flatMap splitF = (vs.take i).flatMap splitF ++ splitF (vs.getD i []) := flatMap_step h
def joinS (sep : Str) : List Str → Str
  | [] => []
  | x :: r => r.foldl (fun a y => a ++ sep ++ y) x
theorem joinS_step {sep x : Str} {r : List Str} {i : Nat} (h : i < r.length) : joinS sep (x :: r.take (i + 1)) = (joinS sep (x :: r.take i) ++ sep) ++ r.getD i [] := by
  unfold joinS
  simp only
  rw [List.take_succ_eq_append_getElem h, List.foldl_append, getD_get h]
  rfl

/-! ### Quality values -/
def digB (c : UInt8) : Bool := decide (48 ≤ c) && decide (c ≤ 57)
def digV (c : UInt8) : Nat := (c - 48).toNat
def badQ (s : Str) : Bool := decide (s = []) || decide (5 < s.length) || (!decide (s.getD 0 0 = 48) && !decide (s.getD 0 0 = 49)) || (decide (1 < s.length) && !decide (s.getD 1 0 = 46))
/-- The weight of the digit at i. -/
def wq (i : Nat) : Nat := if i = 0 then 1000 else if i = 2 then 100 else if i = 3 then 10 else if i = 4 then 1 else 0
def sumQ (s : Str) (i : Nat) : Nat := (List.range i).foldl (fun q k => if k = 1 then q else q + wq k * digV (s.getD k 0)) 0
def digsQ (s : Str) : Bool := (s.drop 2).all digB
def parseQ (s : Str) : Nat × Bool :=
  if badQ s = true then (0, false) else if digsQ s = false then (0, false) else if 1000 < sumQ s s.length then (0, false) else (sumQ s s.length, true)

/-! ### Language tags -/
def cutAt (c : UInt8) : Str → Str → List Str
  | cur, [] => [cur]
  | cur, b :: r => if b = c then cur :: cutAt c [] r else cutAt c (cur ++ [b]) r
def subt (s : Str) : List Str := cutAt 45 [] s
def alphaB (c : UInt8) : Bool := (decide (97 ≤ c) && decide (c ≤ 122)) || (decide (65 ≤ c) && decide (c ≤ 90))
def subOk (d : Bool) (s : Str) : Bool := s.all (fun c => alphaB c || (d && digB c)) && !decide (s = []) && decide (s.length ≤ 8)
def tagF (s : Str) : Bool := match subt s with
  | [] => false
  | x :: r => subOk false x && r.all (subOk true)
def rangeL (s : Str) : Bool := decide (s = [42]) || tagF s
def matchL (r t : Str) : Int :=
  if rangeL r = false ∨ tagF t = false then -1 else if r = [42] then 0
  else if (subt (lower r)).isPrefixOf (subt (lower t)) = true then ((subt r).length : Nat) else -1

/-! ### Preferences -/
def nameK (kind : Int) : Str :=
  if kind = 1 then [65, 99, 99, 101, 112, 116] else if kind = 2 then [65, 99, 99, 101, 112, 116, 45, 76, 97, 110, 103, 117, 97, 103, 101]
  else if kind = 3 then [65, 99, 99, 101, 112, 116, 45, 67, 104, 97, 114, 115, 101, 116] else if kind = 4 then [65, 99, 99, 101, 112, 116, 45, 69, 110, 99, 111, 100, 105, 110, 103] else []
def kindF (name : Str) : Int := if fold name (nameK 1) then 1 else if fold name (nameK 2) then 2 else if fold name (nameK 3) then 3 else if fold name (nameK 4) then 4 else 0
theorem nameK_length (kind : Int) : (nameK kind).length ≤ 15 := by unfold nameK; (repeat' split) <;> decide
def qAt (l : List Prm) : Nat := l.findIdx fun p => decide (p.1 = [113])
def idxQ (l : List Prm) : Int := if qAt l < l.length then (qAt l : Int) else -1
theorem idxQ_found {l : List Prm} (h : qAt l < l.length) : idxQ l = ((qAt l : Nat) : Int) := if_pos h
theorem idxQ_none {l : List Prm} (h : ¬ qAt l < l.length) : idxQ l = -1 := if_neg h
theorem qAt_miss {l : List Prm} {i : Nat} (h : i < l.length) (h2 : ¬ (l.getD i ([], [])).1 = [113]) (e : i + qAt (l.drop i) = qAt l) : i + 1 + qAt (l.drop (i + 1)) = qAt l := by
  rw [← e, drop_step (dd := ([], [])) h]
  revert h2
  generalize l.getD i ([], []) = p
  intro h2
  simp [qAt, List.findIdx_cons, h2]; omega
theorem qAt_hit {l : List Prm} {i : Nat} (h : i < l.length) (h2 : (l.getD i ([], [])).1 = [113]) (e : i + qAt (l.drop i) = qAt l) : qAt l = i := by
  rw [← e, drop_step (dd := ([], [])) h]
  revert h2
  generalize l.getD i ([], []) = p
  intro h2
  simp [qAt, List.findIdx_cons, h2]
theorem qAt_end {l : List Prm} {i : Nat} (h : l.length ≤ i) (e : i + qAt (l.drop i) = qAt l) : ¬ qAt l < l.length := by omega
def rangedF (kind : Int) (v : Str) (ps : List Prm) : Str × Bool :=
  if kind = 1 then (formatT ((parseR v).1.1, (parseR v).1.2.1, ps), (parseR v).2)
  else if kind = 2 then (canonical kind v, rangeL v && decide (ps.length = 0)) else (canonical kind v, token v && decide (ps.length = 0))
abbrev Prf := Str × Int
def prefF (kind : Int) (s : Str) : Prf × Bool :=
  if (parseP s).2.2 = false then (([], 0), false)
  else if qAt (parseP s).2.1 < (parseP s).2.1.length then
    (if (parseQ ((parseP s).2.1.getD (qAt (parseP s).2.1) ([], [])).2).2 = false then (([], 0), false)
     else (((rangedF kind (parseP s).1 ((parseP s).2.1.take (qAt (parseP s).2.1))).1, (((parseQ ((parseP s).2.1.getD (qAt (parseP s).2.1) ([], [])).2).1 : Nat) : Int)), (rangedF kind (parseP s).1 ((parseP s).2.1.take (qAt (parseP s).2.1))).2))
  else (((rangedF kind (parseP s).1 (parseP s).2.1).1, 1000), (rangedF kind (parseP s).1 (parseP s).2.1).2)
def prefsM (kind : Int) (m : List Str) : List Prf := ((m.map (prefF kind)).filter (·.2)).map (·.1)
theorem prefsM_hit {kind : Int} {m : List Str} {i : Nat} (h : i < m.length) (h2 : (prefF kind (m.getD i [])).2 = true) : prefsM kind (m.take (i + 1)) = prefsM kind (m.take i) ++ [(prefF kind (m.getD i [])).1] := by
  unfold prefsM
  rw [List.take_succ_eq_append_getElem h, List.map_append, List.filter_append, List.map_append, ← getD_get (dd := []) h]
  simp only [List.map_cons, List.map_nil, List.filter_cons, h2, if_true, List.filter_nil]
theorem prefsM_miss {kind : Int} {m : List Str} {i : Nat} (h : i < m.length) (h2 : (prefF kind (m.getD i [])).2 = false) : prefsM kind (m.take (i + 1)) = prefsM kind (m.take i) := by
  unfold prefsM
  rw [List.take_succ_eq_append_getElem h, List.map_append, List.filter_append, List.map_append, ← getD_get (dd := []) h]
  simp only [List.map_cons, List.map_nil, List.filter_cons, h2, Bool.false_eq_true, if_false, List.filter_nil, List.append_nil]
def prefsF (kind : Int) (l : List Fld) : List Prf × Bool :=
  if (decide (nameK kind = []) || !decide (0 < (getF l (nameK kind)).length)) = true then ([], false) else (prefsM kind (allF l (nameK kind)), true)
theorem prefsF_no {kind : Int} {l : List Fld} (h : (decide (nameK kind = []) || !decide (0 < (getF l (nameK kind)).length)) = true) : prefsF kind l = ([], false) := if_pos h
theorem prefsF_yes {kind : Int} {l : List Fld} (h : (decide (nameK kind = []) || !decide (0 < (getF l (nameK kind)).length)) = false) : prefsF kind l = (prefsM kind (allF l (nameK kind)), true) := if_neg (by rw [h]; simp)
theorem prefsM_length (kind : Int) (m : List Str) : (prefsM kind m).length ≤ m.length := by
  unfold prefsM; rw [List.length_map]; exact Nat.le_trans (List.length_filter_le ..) (by rw [List.length_map]; exact Nat.le_refl _)
end Go.Plain

namespace Go.Plain
open Go
set_option linter.unusedSimpArgs false
set_option linter.unusedVariables false

section
variable {v : Str} {i fr st : Nat} {acc X : List Str}
theorem split_put (hi : i ≤ v.length) (h2 : ¬ i < v.length ∨ (st = 0 ∧ v.getD i 0 = 44)) (h3 : ¬ trim ((v.take i).drop fr) = []) (e : acc ++ rest7 v i fr st = X) : acc ++ [trim ((v.take i).drop fr)] ++ rest7 v (i + 1) (i + 1) st = X := by
  by_cases h : i < v.length
  · obtain ⟨a, b⟩ := h2.resolve_left (fun q => q h)
    have := split_cut h a b e
    rwa [if_neg h3] at this
  · have := split_last (by omega) e
    rwa [if_neg h3] at this
theorem split_skip (hi : i ≤ v.length) (h2 : ¬ i < v.length ∨ (st = 0 ∧ v.getD i 0 = 44)) (h3 : trim ((v.take i).drop fr) = []) (e : acc ++ rest7 v i fr st = X) : acc ++ rest7 v (i + 1) (i + 1) st = X := by
  by_cases h : i < v.length
  · obtain ⟨a, b⟩ := h2.resolve_left (fun q => q h)
    have := split_cut h a b e
    rwa [if_pos h3, List.append_nil] at this
  · have := split_last (by omega) e
    rwa [if_pos h3, List.append_nil] at this
end
theorem take_min {α : Type} {X : List α} {n : Nat} : (X.take (min X.length n)).drop 0 = X.take n := by
  rw [List.drop_zero]
  by_cases h : X.length ≤ n
  · rw [Nat.min_eq_left h, List.take_length, List.take_of_length_le h]
  · rw [Nat.min_eq_right (by omega)]

/-! ### Cutting at a byte -/
theorem pos_cons (b : UInt8) (r : Str) (c : UInt8) : pos (b :: r) c = if b = c then 0 else pos r c + 1 := by
  unfold pos
  rw [List.findIdx_cons]
  by_cases h : b = c <;> simp [h]
theorem cutAt_some {c : UInt8} : ∀ {t : Str} (cur : Str), pos t c < t.length → cutAt c cur t = (cur ++ t.take (pos t c)) :: cutAt c [] (t.drop (pos t c + 1))
  | [], cur, h => by simp at h
  | b :: r, cur, h => by
    rw [pos_cons] at h ⊢
    by_cases hb : b = c
    · rw [cutAt, if_pos hb, if_pos hb]; simp
    · rw [if_neg hb] at h ⊢
      rw [cutAt, if_neg hb, cutAt_some (t := r) (cur ++ [b]) (by simpa using h)]
      simp
theorem cutAt_none {c : UInt8} : ∀ {t : Str} (cur : Str), ¬ pos t c < t.length → cutAt c cur t = [cur ++ t]
  | [], cur, h => by simp [cutAt]
  | b :: r, cur, h => by
    rw [pos_cons] at h
    by_cases hb : b = c
    · rw [if_pos hb] at h; simp at h
    · rw [if_neg hb] at h
      rw [cutAt, if_neg hb, cutAt_none (t := r) (cur ++ [b]) (by simpa using h)]
      simp
theorem count_some {c : UInt8} : ∀ {t : Str}, pos t c < t.length → (t.drop (pos t c + 1)).count c + 1 = t.count c
  | [], h => by simp at h
  | b :: r, h => by
    rw [pos_cons] at h ⊢
    by_cases hb : b = c
    · rw [if_pos hb]; simp [hb]
    · rw [if_neg hb] at h ⊢
      have := count_some (t := r) (by simpa using h)
      rw [List.count_cons_of_ne hb]
      simpa using this
theorem cutAt_length {c : UInt8} : ∀ (t cur : Str), (cutAt c cur t).length = t.count c + 1
  | [], cur => by simp [cutAt]
  | b :: r, cur => by
    rw [cutAt]
    by_cases hb : b = c
    · rw [if_pos hb, List.length_cons, cutAt_length r [], hb, List.count_cons_self]
    · rw [if_neg hb, cutAt_length r (cur ++ [b]), List.count_cons_of_ne hb]
theorem cutAt_mem {c : UInt8} : ∀ (t cur : Str), ∀ x ∈ cutAt c cur t, x.length ≤ cur.length + t.length
  | [], cur, x, hx => by simp [cutAt] at hx; simp [hx]
  | b :: r, cur, x, hx => by
    rw [cutAt] at hx
    by_cases hb : b = c
    · rw [if_pos hb] at hx
      rcases List.mem_cons.1 hx with rfl | hx
      · omega
      · have := cutAt_mem r [] x hx; simp at this ⊢; omega
    · rw [if_neg hb] at hx
      have := cutAt_mem r (cur ++ [b]) x hx
      simp at this ⊢; omega
theorem subt_mem (s : Str) : ∀ x ∈ subt s, x.length ≤ s.length := fun x hx => by have := cutAt_mem s [] x hx; simpa using this
theorem count_len (c : UInt8) (s : Str) : s.count c ≤ s.length := List.count_le_length
theorem subt_length (s : Str) : (subt s).length ≤ s.length + 1 := by unfold subt; rw [cutAt_length]; have := count_len 45 s; omega
theorem gs_go {xs : List Str} {i : Nat} {t : Str} {c : UInt8} {X : List Str} (hi : i < xs.length) (hp : pos t c < t.length) (e : xs.take i ++ cutAt c [] t = X) : (xs.set i (t.take (pos t c))).take (i + 1) ++ cutAt c [] (t.drop (pos t c + 1)) = X := by
  rw [← e, cutAt_some [] hp, List.nil_append, List.take_succ_eq_append_getElem (by simpa using hi), List.take_set, List.set_eq_of_length_le (by rw [List.length_take]; omega)]
  simp
theorem gs_end {xs : List Str} {i : Nat} {t : Str} {c : UInt8} {X : List Str} (hi : i < xs.length) (hp : ¬ pos t c < t.length) (e : xs.take i ++ cutAt c [] t = X) : (xs.set i t).take (i + 1) = X := by
  rw [← e, cutAt_none [] hp, List.nil_append, List.take_succ_eq_append_getElem (by simpa using hi), List.take_set, List.set_eq_of_length_le (by rw [List.length_take]; omega)]
  simp

/-! ### Language tags -/
def lowOk (d : Bool) (c : UInt8) : Bool := (decide (97 ≤ c) && decide (c ≤ 122)) || (d && digB c)
theorem low_sub (d : Bool) (s : Str) : (lower s).all (lowOk d) = s.all (fun c => alphaB c || (d && digB c)) := by
  unfold lower
  rw [List.all_map]
  congr 1
  funext c
  cases d
  · simpa using all_u8 (fun c => decide (lowOk false (lowerB c) = (alphaB c || (false && digB c)))) (by decide +kernel) c
  · simpa using all_u8 (fun c => decide (lowOk true (lowerB c) = (alphaB c || (true && digB c)))) (by decide +kernel) c
theorem sub_bad {d : Bool} {s : Str} {i : Nat} (h : i < (lower s).length) (h2 : lowOk d ((lower s).getD i 0) = false) : subOk d s = false := by
  unfold subOk
  rw [← low_sub]
  have : (lower s).all (lowOk d) = false := by
    rw [List.all_eq_false]
    exact ⟨_, getD_mem h, by rw [h2]; simp⟩
  rw [this]; rfl
theorem sub_end {d : Bool} {s : Str} (h : (lower s).all (lowOk d) = true) : subOk d s = (!decide (s = []) && decide (s.length ≤ 8)) := by
  unfold subOk
  rw [← low_sub, h]; rfl
theorem tag_bad {s : Str} {i : Nat} (h : i < (subt s).length) (h2 : subOk (decide (0 < i)) ((subt s).getD i []) = false) : tagF s = false := by
  unfold tagF
  generalize subt s = X at h h2 ⊢
  cases X with
  | nil => rfl
  | cons x r =>
    cases i with
    | zero => simp at h2; simp [h2]
    | succ i =>
      have : r.all (subOk true) = false := by
        rw [List.all_eq_false]
        refine ⟨_, getD_mem (dd := []) (i := i) (by simpa using h), ?_⟩
        simp at h2; simp [h2]
      show (subOk false x && r.all (subOk true)) = false
      rw [this]; simp
theorem tag_end {s : Str} (h : ∀ k, k < (subt s).length → subOk (decide (0 < k)) ((subt s).getD k []) = true) : tagF s = true := by
  have h0 : (subt s).length ≠ 0 := by unfold subt; rw [cutAt_length]; omega
  unfold tagF
  generalize subt s = X at h h0 ⊢
  cases X with
  | nil => simp at h0
  | cons x r =>
    have h1 := h 0 (by simp)
    simp only [Nat.lt_irrefl, decide_false, List.getD_cons_zero] at h1
    have h2 : r.all (subOk true) = true := by
      rw [List.all_eq_true]
      intro y hy
      obtain ⟨k, hk, rfl⟩ := List.getElem_of_mem hy
      have := h (k + 1) (by simpa using hk)
      simpa [List.getD_eq_getElem?_getD, hk] using this
    simp [h1, h2]

/-! ### Quality values -/
theorem wq_le (i : Nat) : wq i ≤ 1000 := by unfold wq; (repeat' split) <;> omega
theorem digV_le (c : UInt8) : digV c ≤ 255 := by have := (c - 48).toNat_lt; unfold digV; omega
theorem wd_le (i : Nat) (c : UInt8) : wq i * digV c ≤ 255000 := by
  have := Nat.mul_le_mul (wq_le i) (digV_le c)
  omega
theorem wq_get {i : Nat} (h : i < 5) : [((1000 : Nat) : Int), ((0 : Nat) : Int), ((100 : Nat) : Int), ((10 : Nat) : Int), ((1 : Nat) : Int)].getD i 0 = ((wq i : Nat) : Int) := by
  have : i = 0 ∨ i = 1 ∨ i = 2 ∨ i = 3 ∨ i = 4 := by omega
  rcases this with rfl | rfl | rfl | rfl | rfl <;> rfl
theorem sumQ_one (s : Str) : sumQ s (1 + 1) = sumQ s 1 := by unfold sumQ; rw [List.range_succ, List.foldl_append]; rfl
theorem sumQ_step {s : Str} {i : Nat} (h : ¬ i = 1) : sumQ s (i + 1) = sumQ s i + wq i * digV (s.getD i 0) := by
  unfold sumQ; rw [List.range_succ, List.foldl_append]; simp [h]
theorem badQ_len {s : Str} (h : badQ s = false) : 0 < s.length ∧ s.length ≤ 5 := by
  unfold badQ at h
  simp only [Bool.or_eq_false_iff, decide_eq_false_iff_not] at h
  have := List.length_pos_iff.2 h.1.1.1
  omega
theorem dig_step {s : Str} {i : Nat} (hi : i < s.length) (h : digB (s.getD i 0) = true) (e : ((s.take i).drop 2).all digB = true) : ((s.take (i + 1)).drop 2).all digB = true := by
  by_cases h2 : 2 ≤ i
  · rw [take_drop_step hi h2, List.all_append, e]; simp only [List.all_cons, List.all_nil, h]; rfl
  · rw [List.drop_of_length_le (by rw [List.length_take]; omega)]; rfl
theorem dig_one {s : Str} : ((s.take (1 + 1)).drop 2).all digB = true := by
  rw [List.drop_of_length_le (by rw [List.length_take]; omega)]; rfl
theorem parseQ_bad {s : Str} (h : badQ s = true) : parseQ s = (0, false) := if_pos h
theorem parseQ_dig {s : Str} {i : Nat} (hb : badQ s = false) (hi : i < s.length) (h1 : ¬ i = 1) (h : digB (s.getD i 0) = false) : parseQ s = (0, false) := by
  have h2 : 2 ≤ i := by
    rcases Nat.lt_or_ge i 2 with h2 | h2
    · obtain rfl : i = 0 := by omega
      unfold badQ at hb
      simp only [Bool.or_eq_false_iff, Bool.and_eq_false_iff, Bool.not_eq_false', decide_eq_true_eq] at hb
      rcases hb.1.2 with e | e <;> (rw [e] at h; revert h; decide)
    · exact h2
  have hd : digsQ s = false := by
    unfold digsQ
    rw [List.all_eq_false]
    refine ⟨s.getD i 0, ?_, by rw [h]; simp⟩
    rw [getD_get hi]
    have : i - 2 < (s.drop 2).length := by rw [List.length_drop]; omega
    have h3 : (s.drop 2)[i - 2] = s[i] := by rw [List.getElem_drop]; congr 1; omega
    rw [← h3]; exact List.getElem_mem this
  unfold parseQ
  rw [if_neg (by rw [hb]; simp), if_pos hd]
theorem digs_end {s : Str} {i : Nat} (hi : s.length ≤ i) (e : ((s.take i).drop 2).all digB = true) : digsQ s = true := by
  rw [take_over hi] at e; exact e
theorem parseQ_big {s : Str} (hb : badQ s = false) (hd : digsQ s = true) (h : 1000 < sumQ s s.length) : parseQ s = (0, false) := by
  unfold parseQ; rw [if_neg (by rw [hb]; simp), if_neg (by rw [hd]; simp), if_pos h]
theorem parseQ_ok {s : Str} (hb : badQ s = false) (hd : digsQ s = true) (h : ¬ 1000 < sumQ s s.length) : parseQ s = (sumQ s s.length, true) := by
  unfold parseQ; rw [if_neg (by rw [hb]; simp), if_neg (by rw [hd]; simp), if_neg h]
theorem parseQ_le (s : Str) : (parseQ s).1 ≤ 1000 := by unfold parseQ; (repeat' split) <;> simp <;> omega

/-! ### Preferences -/
theorem kindF_hit {name : Str} {k : Nat} (h1 : 1 ≤ k) (h2 : k ≤ 4) (hm : ∀ j : Nat, 1 ≤ j → j < k → fold name (nameK (j : Int)) = false) (h : fold name (nameK (k : Int)) = true) : kindF name = (k : Int) := by
  have : k = 1 ∨ k = 2 ∨ k = 3 ∨ k = 4 := by omega
  rcases this with rfl | rfl | rfl | rfl
  · have a : fold name (nameK 1) = true := h
    unfold kindF; rw [if_pos a]; rfl
  · have a1 : fold name (nameK 1) = false := hm 1 (by omega) (by omega)
    have a : fold name (nameK 2) = true := h
    unfold kindF; rw [if_neg (by rw [a1]; simp), if_pos a]; rfl
  · have a1 : fold name (nameK 1) = false := hm 1 (by omega) (by omega)
    have a2 : fold name (nameK 2) = false := hm 2 (by omega) (by omega)
    have a : fold name (nameK 3) = true := h
    unfold kindF; rw [if_neg (by rw [a1]; simp), if_neg (by rw [a2]; simp), if_pos a]; rfl
  · have a1 : fold name (nameK 1) = false := hm 1 (by omega) (by omega)
    have a2 : fold name (nameK 2) = false := hm 2 (by omega) (by omega)
    have a3 : fold name (nameK 3) = false := hm 3 (by omega) (by omega)
    have a : fold name (nameK 4) = true := h
    unfold kindF; rw [if_neg (by rw [a1]; simp), if_neg (by rw [a2]; simp), if_neg (by rw [a3]; simp), if_pos a]; rfl
theorem kindF_none {name : Str} {k : Nat} (h2 : 4 < k) (hm : ∀ j : Nat, 1 ≤ j → j < k → fold name (nameK (j : Int)) = false) : kindF name = 0 := by
  have a1 : fold name (nameK 1) = false := hm 1 (by omega) (by omega)
  have a2 : fold name (nameK 2) = false := hm 2 (by omega) (by omega)
  have a3 : fold name (nameK 3) = false := hm 3 (by omega) (by omega)
  have a4 : fold name (nameK 4) = false := hm 4 (by omega) (by omega)
  unfold kindF; rw [if_neg (by rw [a1]; simp), if_neg (by rw [a2]; simp), if_neg (by rw [a3]; simp), if_neg (by rw [a4]; simp)]
theorem pref_bad {kind : Int} {s : Str} (h : (parseP s).2.2 = false) : prefF kind s = (([], 0), false) := if_pos h
theorem pref_badq {kind : Int} {s : Str} (h : ¬ (parseP s).2.2 = false) (hq : qAt (parseP s).2.1 < (parseP s).2.1.length) (h2 : (parseQ ((parseP s).2.1.getD (qAt (parseP s).2.1) ([], [])).2).2 = false) : prefF kind s = (([], 0), false) := by
  unfold prefF; rw [if_neg h, if_pos hq, if_pos h2]
theorem pref_q {kind : Int} {s : Str} (h : ¬ (parseP s).2.2 = false) (hq : qAt (parseP s).2.1 < (parseP s).2.1.length) (h2 : ¬ (parseQ ((parseP s).2.1.getD (qAt (parseP s).2.1) ([], [])).2).2 = false) :
    prefF kind s = (((rangedF kind (parseP s).1 ((parseP s).2.1.take (qAt (parseP s).2.1))).1, (((parseQ ((parseP s).2.1.getD (qAt (parseP s).2.1) ([], [])).2).1 : Nat) : Int)), (rangedF kind (parseP s).1 ((parseP s).2.1.take (qAt (parseP s).2.1))).2) := by
  unfold prefF; rw [if_neg h, if_pos hq, if_neg h2]
theorem pref_plain {kind : Int} {s : Str} (h : ¬ (parseP s).2.2 = false) (hq : ¬ qAt (parseP s).2.1 < (parseP s).2.1.length) : prefF kind s = (((rangedF kind (parseP s).1 (parseP s).2.1).1, 1000), (rangedF kind (parseP s).1 (parseP s).2.1).2) := by
  unfold prefF; rw [if_neg h, if_neg hq]
end Go.Plain

namespace Go.Plain
open Go
set_option linter.unusedSimpArgs false
set_option linter.unusedVariables false

/-! ### Tags -/
theorem sub_len {d : Bool} {m : Str} (h : m.length < 1 ∨ 8 < m.length) : subOk d m = false := by
  unfold subOk
  rcases h with h | h
  · have : m = [] := List.length_eq_zero_iff.1 (by omega)
    simp [this]
  · rw [decide_eq_false (by omega : ¬ m.length ≤ 8), Bool.and_false]
theorem sub_ch {d : Bool} {m : Str} {k : Nat} (h : k < m.length) (h2 : (alphaB (m.getD k 0) || (d && digB (m.getD k 0))) = false) : subOk d m = false := by
  unfold subOk
  have : m.all (fun c => alphaB c || (d && digB c)) = false := by
    rw [List.all_eq_false]
    exact ⟨_, getD_mem h, by rw [h2]; simp⟩
  rw [this]; rfl
theorem sub_good {d : Bool} {m : Str} (h : ¬ m.length < 1 ∧ ¬ 8 < m.length) (h2 : m.all (fun c => alphaB c || (d && digB c)) = true) : subOk d m = true := by
  unfold subOk
  have : m ≠ [] := fun e => by rw [e] at h; simp at h
  rw [h2, decide_eq_true (by omega : m.length ≤ 8), decide_eq_false this]; rfl

/-! ### Quality values -/
def badQ2 (s : Str) : Bool := decide (s.length < 1) || decide (5 < s.length) || (!decide (s.getD 0 0 = 48) && !decide (s.getD 0 0 = 49)) || (decide (1 < s.length) && !decide (s.getD 1 0 = 46))
/-! ### A member -/
theorem prefsF_length (kind : Int) (l : List Fld) : (prefsF kind l).1.length ≤ 64 := by
  unfold prefsF
  split
  · simp
  · exact Nat.le_trans (prefsM_length _ _) (allV_length _)
end Go.Plain

namespace Go.Plain
open Go
set_option linter.unusedSimpArgs false
set_option linter.unusedVariables false

theorem trim_front {w : UInt8} (s : Str) (h : blankB w = true) : trim (w :: s) = trim s := by
  rw [← trim_alt, ← trim_alt]
  unfold trimL
  rw [List.dropWhile_cons, if_pos h]
theorem trim_back {w : UInt8} (s : Str) (h : blankB w = true) : trim (s ++ [w]) = trim s := by
  unfold trim
  congr 1
  unfold trimR
  rw [List.reverse_append, List.reverse_cons, List.reverse_nil, List.nil_append, List.singleton_append, List.dropWhile_cons, if_pos h]
theorem trim_nil {s : Str} (h : trim s = []) : ∀ x ∈ s, blankB x = true := by
  unfold trim trimL at h
  rw [dw_nil] at h
  obtain ⟨r, e, hr, _⟩ := split_right (p := blankB) s
  intro x hx
  rw [e] at hx
  rcases List.mem_append.1 hx with hx | hx
  · exact h x hx
  · exact List.all_eq_true.1 hr x hx
theorem nameK_ne {kind : Int} (h1 : 1 ≤ kind) (h4 : kind ≤ 4) : nameK kind ≠ [] := by
  have : kind = 1 ∨ kind = 2 ∨ kind = 3 ∨ kind = 4 := by omega
  rcases this with rfl | rfl | rfl | rfl <;> decide
theorem prefs_of {kind : Int} {l : List Fld} (h1 : 1 ≤ kind) (h4 : kind ≤ 4) (h : 0 < (getF l (nameK kind)).length) : prefsF kind l = (prefsM kind (allF l (nameK kind)), true) := by
  unfold prefsF
  rw [decide_eq_false (nameK_ne h1 h4), decide_eq_true h]; rfl
end Go.Plain

namespace Go.Plain
open Go
set_option linter.unusedSimpArgs false
set_option linter.unusedVariables false

def hasP (s p : Str) : Bool := decide (p.length ≤ s.length) && decide (s.take p.length = p)
theorem hasP_iff {s p : Str} : hasP s p = true ↔ p <+: s := by
  unfold hasP
  rw [Bool.and_eq_true, decide_eq_true_eq, decide_eq_true_eq, List.prefix_iff_eq_take]
  exact ⟨fun h => h.2.symm, fun h => ⟨by rw [h, List.length_take]; omega, h.symm⟩⟩
theorem cutAt_free : ∀ (s cur : Str), (45 : UInt8) ∉ cur → ∀ x ∈ cutAt 45 cur s, (45 : UInt8) ∉ x
  | [], cur, hc, x, hx => by simp [cutAt] at hx; rw [hx]; exact hc
  | b :: r, cur, hc, x, hx => by
    rw [cutAt] at hx
    by_cases hb : b = 45
    · rw [if_pos hb] at hx
      rcases List.mem_cons.1 hx with rfl | hx
      · exact hc
      · exact cutAt_free r [] (by simp) x hx
    · rw [if_neg hb] at hx
      exact cutAt_free r (cur ++ [b]) (by simp [hc]; exact fun e => hb e.symm) x hx
theorem subt_free (s : Str) : ∀ x ∈ subt s, (45 : UInt8) ∉ x := cutAt_free s [] (by simp)
theorem cutAt_back : ∀ (s cur : Str), (cutAt 45 cur s).flatMap (fun x => x ++ [45]) = cur ++ s ++ [45]
  | [], cur => by simp [cutAt]
  | b :: r, cur => by
    rw [cutAt]
    by_cases hb : b = 45
    · rw [if_pos hb, List.flatMap_cons, cutAt_back r [], hb]; simp
    · rw [if_neg hb, cutAt_back r (cur ++ [b])]; simp
theorem subt_back (s : Str) : (subt s).flatMap (fun x => x ++ [45]) = s ++ [45] := cutAt_back s []
theorem free_eq : ∀ {x y u v : Str}, (45 : UInt8) ∉ x → (45 : UInt8) ∉ y → (x ++ 45 :: u) <+: (y ++ 45 :: v) → x = y ∧ u <+: v
  | [], [], u, v, _, _, h => ⟨rfl, by simpa using h⟩
  | [], b :: y, u, v, _, hy, h => by
    simp only [List.nil_append, List.cons_append, List.cons_prefix_cons] at h
    exact absurd (by rw [← h.1]; simp) hy
  | a :: x, [], u, v, hx, _, h => by
    simp only [List.nil_append, List.cons_append, List.cons_prefix_cons] at h
    exact absurd (by rw [h.1]; simp) hx
  | a :: x, b :: y, u, v, hx, hy, h => by
    simp only [List.cons_append, List.cons_prefix_cons] at h
    obtain ⟨e, h2⟩ := free_eq (x := x) (y := y) (fun q => hx (by simp [q])) (fun q => hy (by simp [q])) h.2
    exact ⟨by rw [h.1, e], h2⟩
theorem flat_prefix : ∀ {X Y : List Str}, (∀ x ∈ X, (45 : UInt8) ∉ x) → (∀ y ∈ Y, (45 : UInt8) ∉ y) → (X.flatMap (fun x => x ++ [45]) <+: Y.flatMap (fun x => x ++ [45]) ↔ X <+: Y)
  | [], Y, _, _ => by simp
  | x :: X, [], _, _ => by simp
  | x :: X, y :: Y, hX, hY => by
    rw [List.flatMap_cons, List.flatMap_cons, List.append_assoc, List.append_assoc, List.singleton_append, List.singleton_append, List.cons_prefix_cons]
    constructor
    · intro h
      obtain ⟨e, h2⟩ := free_eq (hX x (by simp)) (hY y (by simp)) h
      exact ⟨e, (flat_prefix (fun z hz => hX z (by simp [hz])) (fun z hz => hY z (by simp [hz]))).1 h2⟩
    · rintro ⟨rfl, h⟩
      have := (flat_prefix (fun z hz => hX z (by simp [hz])) (fun z hz => hY z (by simp [hz]))).2 h
      obtain ⟨t, e⟩ := this
      exact ⟨t, by rw [← e]; simp⟩
theorem hasP_sub (s p : Str) : hasP (s ++ [45]) (p ++ [45]) = (subt p).isPrefixOf (subt s) := by
  rw [Bool.eq_iff_iff, hasP_iff, List.isPrefixOf_iff_prefix, ← subt_back s, ← subt_back p]
  exact flat_prefix (subt_free p) (subt_free s)
theorem lowerB_45 (b : UInt8) : lowerB b = 45 ↔ b = 45 := by
  have := all_u8 (fun b => decide ((lowerB b = 45) ↔ b = 45)) (by decide +kernel) b
  simpa using this
theorem cutAt_lower : ∀ (s cur : Str), cutAt 45 (lower cur) (lower s) = (cutAt 45 cur s).map lower
  | [], cur => by simp [cutAt, lower]
  | b :: r, cur => by
    have e : lower (b :: r) = lowerB b :: lower r := rfl
    rw [e, cutAt, cutAt]
    by_cases hb : b = 45
    · rw [if_pos hb, if_pos ((lowerB_45 b).2 hb), List.map_cons, ← cutAt_lower r []]; rfl
    · rw [if_neg hb, if_neg (fun q => hb ((lowerB_45 b).1 q)), ← cutAt_lower r (cur ++ [b])]
      congr 1
      simp [lower]
theorem subt_lower (s : Str) : subt (lower s) = (subt s).map lower := cutAt_lower s []
theorem tagM_no {r t : Str} (h : rangeL r = false ∨ tagF t = false) : matchL r t = -1 := if_pos h
theorem tagM_all {r t : Str} (h : ¬ (rangeL r = false ∨ tagF t = false)) (h2 : r = [42]) : matchL r t = 0 := by unfold matchL; rw [if_neg h, if_pos h2]
theorem tagM_pre {r t : Str} (h : ¬ (rangeL r = false ∨ tagF t = false)) (h2 : ¬ r = [42]) (h3 : hasP (lower t ++ [45]) (lower r ++ [45]) = true) : matchL r t = ((List.count 45 r + 1 : Nat) : Int) := by
  unfold matchL
  rw [if_neg h, if_neg h2, if_pos (by rw [← hasP_sub]; exact h3)]
  unfold subt
  rw [cutAt_length]
theorem tagM_not {r t : Str} (h : ¬ (rangeL r = false ∨ tagF t = false)) (h2 : ¬ r = [42]) (h3 : hasP (lower t ++ [45]) (lower r ++ [45]) = false) : matchL r t = -1 := by
  unfold matchL
  rw [if_neg h, if_neg h2, if_neg (by rw [← hasP_sub, h3]; simp)]
/-! ### Matching in general -/
def matchK (kind : Int) (r v : Str) : Int :=
  if kind = 1 then (if (parseR r).2 = false ∨ (parseT v).2 = false then -1 else matchT (parseR r).1 (parseT v).1)
  else if kind = 2 then matchL r v
  else if kind = 3 ∨ kind = 4 then (if (token r = false ∨ token v = false) ∨ v = [42] then -1 else matchCoding kind r v) else -1
section
variable {kind : Int} {r v : Str}
theorem mK1_no (hk : kind = 1) (h : (parseR r).2 = false ∨ (parseT v).2 = false) : matchK kind r v = -1 := by unfold matchK; rw [if_pos hk, if_pos h]
theorem mK1_yes (hk : kind = 1) (h : (parseR r).2 = true ∧ (parseT v).2 = true) : matchK kind r v = matchT (parseR r).1 (parseT v).1 := by unfold matchK; rw [if_pos hk, if_neg (by rw [h.1, h.2]; simp)]
theorem mK2 (h1 : ¬ kind = 1) (hk : kind = 2) : matchK kind r v = matchL r v := by unfold matchK; rw [if_neg h1, if_pos hk]
theorem mK3_no (h1 : ¬ kind = 1) (h2 : ¬ kind = 2) (hk : kind = 3 ∨ kind = 4) (h : (token r = false ∨ token v = false) ∨ v = [42]) : matchK kind r v = -1 := by unfold matchK; rw [if_neg h1, if_neg h2, if_pos hk, if_pos h]
theorem mK3_yes (h1 : ¬ kind = 1) (h2 : ¬ kind = 2) (hk : kind = 3 ∨ kind = 4) (h : (token r = true ∧ token v = true) ∧ ¬ v = [42]) : matchK kind r v = matchCoding kind r v := by unfold matchK; rw [if_neg h1, if_neg h2, if_pos hk, if_neg (by rw [h.1.1, h.1.2]; simp [h.2])]
theorem mK5 (h1 : ¬ kind = 1) (h2 : ¬ kind = 2) (h3 : ¬ kind = 3) (h4 : ¬ kind = 4) : matchK kind r v = -1 := by unfold matchK; rw [if_neg h1, if_neg h2, if_neg (by omega)]
end
end Go.Plain

namespace Go.Plain
open Go
set_option linter.unusedSimpArgs false
set_option linter.unusedVariables false

def digQ (q : Int) : Str := [UInt8.ofNat (((48 : Nat) : Int) + q / ((100 : Nat) : Int)).toNat, UInt8.ofNat (((48 : Nat) : Int) + (q / ((10 : Nat) : Int)) % ((10 : Nat) : Int)).toNat, UInt8.ofNat (((48 : Nat) : Int) + q % ((10 : Nat) : Int)).toNat]
def z48 (c : UInt8) : Bool := decide (c = 48)
def fmtQ (q : Int) : Str := if q < 0 ∨ 1000 < q then [] else if q = 0 then [48] else if q = 1000 then [49] else [48, 46] ++ trimR z48 (digQ q)
theorem fmtQ_out {q : Int} (h : q < 0 ∨ 1000 < q) : fmtQ q = [] := if_pos h
theorem fmtQ_zero {q : Int} (h : ¬ (q < 0 ∨ 1000 < q)) (h0 : q = 0) : fmtQ q = [48] := by unfold fmtQ; rw [if_neg h, if_pos h0]
theorem fmtQ_one {q : Int} (h : ¬ (q < 0 ∨ 1000 < q)) (h0 : ¬ q = 0) (h1 : q = 1000) : fmtQ q = [49] := by unfold fmtQ; rw [if_neg h, if_neg h0, if_pos h1]
theorem fmtQ_some {q : Int} (h : ¬ (q < 0 ∨ 1000 < q)) (h0 : ¬ q = 0) (h1 : ¬ q = 1000) : fmtQ q = [48, 46] ++ trimR z48 (digQ q) := by unfold fmtQ; rw [if_neg h, if_neg h0, if_neg h1]
theorem digQ_length (q : Int) : (digQ q).length = 3 := rfl
theorem fmtQ_length (q : Int) : (fmtQ q).length ≤ 5 := by
  unfold fmtQ
  have := trimR_length (p := z48) (digQ q)
  rw [digQ_length] at this
  repeat' split
  · simp
  · simp
  · simp
  · rw [List.length_append]; simp only [List.length_cons, List.length_nil]; omega
/-- The last k digits. -/
def lastD (n : Int) : Nat → Str
  | 0 => []
  | k + 1 => UInt8.ofNat (((48 : Nat) : Int) + (n / 10 ^ k) % ((10 : Nat) : Int)).toNat :: lastD n k
/-! ### Joining -/
theorem joinS_next {sep : Str} {l : List Str} {i : Nat} (h0 : 0 < i) (h : i < l.length) : joinS sep (l.take (i + 1)) = (joinS sep (l.take i) ++ sep) ++ l.getD i [] := by
  cases l with
  | nil => simp at h
  | cons x r =>
    obtain ⟨j, rfl⟩ : ∃ j, i = j + 1 := ⟨i - 1, by omega⟩
    have hj : j < r.length := by simpa using h
    rw [List.take_succ_cons, List.take_succ_cons, joinS_step hj]
    simp
theorem joinS_first {sep : Str} {l : List Str} (h : 0 < l.length) : joinS sep (l.take 1) = l.getD 0 [] := by
  cases l with
  | nil => simp at h
  | cons x r => rfl
theorem joinS_all {sep : Str} {l : List Str} {i : Nat} (h : l.length ≤ i) : joinS sep (l.take i) = joinS sep l := by rw [List.take_of_length_le h]
theorem tail_get {l : List Str} {i : Nat} : ((l.take l.length).drop 1).getD i [] = l.getD (i + 1) [] := by
  rw [List.take_length, List.drop_one]
  cases l <;> simp
def memP (p : Prf) : Str := if p.2 = 1000 then p.1 else p.1 ++ ([59, 113, 61] ++ fmtQ p.2)
def fmtP (l : List Prf) : Str := joinS [44, 32] (l.map memP)
theorem memP_plain {p : Prf} (h : p.2 = 1000) : memP p = p.1 := if_pos h
theorem memP_q {p : Prf} (h : ¬ p.2 = 1000) : memP p = p.1 ++ ([59, 113, 61] ++ fmtQ p.2) := if_neg h
theorem memP_length (p : Prf) : (memP p).length ≤ p.1.length + 8 := by
  unfold memP
  have := fmtQ_length p.2
  split
  · omega
  · simp only [List.length_append, List.length_cons, List.length_nil]; omega
theorem mapP_step {l : List Prf} {i : Nat} (h : i < l.length) : (l.take (i + 1)).map memP = (l.take i).map memP ++ [memP (l.getD i ([], 0))] := by
  rw [List.take_succ_eq_append_getElem h, List.map_append, ← getD_get (dd := ([], 0)) h]; rfl
def okR (p : Prf) : Bool := !decide (100 < p.1.length)
def keepR (l : List Prf) : Bool := (l.take 21).all okR && decide (l.length ≤ 20)
end Go.Plain

namespace Go.Plain
open Go
set_option linter.unusedSimpArgs false
set_option linter.unusedVariables false

/-! ### Cutting at commas what was written -/
/-- A text that is one whole between commas. -/
def Whole (m : Str) : Prop := ∀ cur r, cutGo 44 0 cur (m ++ r) = cutGo 44 0 (cur ++ m) r
theorem Whole.app {a b : Str} (ha : Whole a) (hb : Whole b) : Whole (a ++ b) := fun cur r => by
  rw [List.append_assoc, ha, hb, List.append_assoc]
theorem Whole.nil : Whole [] := fun cur r => by simp
theorem clean_whole {a : Str} (h : ∀ x ∈ a, x ≠ 34 ∧ x ≠ 44) : Whole a := fun cur r => cut_run a cur r h
theorem tok_clean44 {s : Str} (h : token s = true) : ∀ x ∈ s, x ≠ 34 ∧ x ≠ 44 := fun x hx => ⟨token_no h (by decide) x hx, token_no h (by decide) x hx⟩
theorem joinS_flat (sep x : Str) : ∀ (r : List Str), joinS sep (x :: r) = x ++ r.flatMap (fun y => sep ++ y) := by
  intro r
  unfold joinS
  simp only
  induction r generalizing x with
  | nil => simp
  | cons y r ih => rw [List.foldl_cons, ih, List.flatMap_cons]; simp
theorem cut_joined : ∀ (r : List Str) (cur : Str), (∀ y ∈ r, Whole y) → cutGo 44 0 cur (r.flatMap (fun y => [44, 32] ++ y)) = cur :: r.map (fun y => 32 :: y)
  | [], cur, _ => by simp [cutGo]
  | y :: r, cur, h => by
    have e0 : ∀ t, cutGo 44 0 cur (44 :: t) = cur :: cutGo 44 0 [] t := fun t => by rw [cutGo, if_neg (by decide), if_neg (by decide), if_neg (by decide), if_pos rfl]
    rw [List.flatMap_cons, List.cons_append, List.cons_append, List.cons_append, e0]
    have hw : Whole (32 :: y) := by
      have e : (32 :: y) = [32] ++ y := rfl
      rw [e]; exact (clean_whole (by decide)).app (h y (by simp))
    have := hw [] (r.flatMap (fun y => [44, 32] ++ y))
    simp only [List.nil_append, List.cons_append] at this ⊢
    rw [this]
    have ih := cut_joined r (32 :: y) (fun z hz => h z (by simp [hz]))
    simp only [List.nil_append, List.cons_append] at ih
    rw [ih]
    rfl
/-! ### One preference -/
def qName : Str := [113]
def extra (q : Int) : List Prm := if q = 1000 then [] else [(qName, fmtQ q)]
theorem q_all : (List.range 1001).all (fun n => decide (parseQ (fmtQ (n : Int)) = (n, true)) && (decide (n = 1000) || token (fmtQ (n : Int)))) = true := by decide +kernel
theorem q_back {n : Nat} (h : n ≤ 1000) : parseQ (fmtQ (n : Int)) = (n, true) := by
  have := List.all_eq_true.1 q_all n (List.mem_range.2 (by omega))
  simp only [Bool.and_eq_true, decide_eq_true_eq] at this
  exact this.1
theorem q_token {n : Nat} (h : n ≤ 1000) (h2 : n ≠ 1000) : token (fmtQ (n : Int)) = true := by
  have := List.all_eq_true.1 q_all n (List.mem_range.2 (by omega))
  simp only [Bool.and_eq_true, Bool.or_eq_true, decide_eq_true_eq] at this
  exact this.2.resolve_left h2
/-- What can be read back. -/
structure OkP (kind : Int) (p : Prf) : Prop where
  ex : ∃ (v : Str) (ps : List Prm) (n : Nat), Firm v ∧ (∀ x ∈ v, x ≠ 34 ∧ x ≠ 59) ∧ (∀ x ∈ v, x ≠ 34 ∧ x ≠ 44) ∧ (∀ q ∈ ps, Good q) ∧ (∀ q ∈ ps, q.1 ≠ qName) ∧ p.1 = formatP v ps ∧ n ≤ 1000 ∧ p.2 = (n : Int) ∧ rangedF kind v ps = (p.1, true)
theorem extra_good {n : Nat} (hn : n ≤ 1000) : ∀ q ∈ extra (n : Int), Good q := by
  intro q hq
  unfold extra at hq
  split at hq
  · simp at hq
  · rename_i h
    obtain rfl := List.mem_singleton.1 hq
    exact ⟨show token qName = true by decide, show lower qName = qName by decide, token_text (q_token hn (by intro e; apply h; rw [e]; rfl))⟩
theorem qAt_none {ps : List Prm} (h : ∀ q ∈ ps, q.1 ≠ qName) : qAt ps = ps.length := by
  unfold qAt
  rw [List.findIdx_eq_length]
  intro x hx
  exact decide_eq_false (h x hx)
theorem qAt_app {ps : List Prm} {x : Str} (h : ∀ q ∈ ps, q.1 ≠ qName) : qAt (ps ++ [(qName, x)]) = ps.length := by
  have e := qAt_none h
  unfold qAt at e ⊢
  rw [List.findIdx_append, e, if_neg (by omega)]
  simp [qName]
/-! ### What is read is such -/
theorem range_norm {V : Str} (h : (parseR V).2 = true) : Firm (((parseR V).1.1 ++ [47]) ++ (parseR V).1.2.1) ∧ (∀ x ∈ ((parseR V).1.1 ++ [47]) ++ (parseR V).1.2.1, x ≠ 34 ∧ x ≠ 59) ∧ (∀ x ∈ ((parseR V).1.1 ++ [47]) ++ (parseR V).1.2.1, x ≠ 34 ∧ x ≠ 44)
    ∧ parseR (((parseR V).1.1 ++ [47]) ++ (parseR V).1.2.1) = (((parseR V).1.1, (parseR V).1.2.1, []), true) := by
  have hc : (parseP V).2.2 = true ∧ okRange (parseP V).1 = true := by
    by_cases hc : (parseP V).2.2 = true ∧ okRange (parseP V).1 = true
    · exact hc
    · rw [parseR, if_neg hc] at h; cases h
  have e := parseR_yes hc.1 hc.2
  have hok := hc.2
  rw [e]
  generalize (parseP V).1 = v at hok ⊢
  unfold okRange at hok
  revert hok
  simp only
  generalize v.take (pos v 47) = a
  generalize v.drop (pos v 47 + 1) = b
  intro hok
  simp only [Bool.and_eq_true] at hok
  obtain ⟨⟨ha, hb⟩, hst⟩ := hok
  have hla : token (lower a) = true := by rw [token_lower]; exact ha
  have hlb : token (lower b) = true := by rw [token_lower]; exact hb
  have hv : Firm ((lower a ++ [47]) ++ lower b) := (token_firm hla).append (token_firm hlb)
  have hcl : ∀ x ∈ (lower a ++ [47]) ++ lower b, x ≠ 34 ∧ x ≠ 59 := fun x hx => by
    rcases List.mem_append.1 hx with hx | hx
    · rcases List.mem_append.1 hx with hx | hx
      · exact tok_clean hla x hx
      · obtain rfl := List.mem_singleton.1 hx; decide
    · exact tok_clean hlb x hx
  have hcl2 : ∀ x ∈ (lower a ++ [47]) ++ lower b, x ≠ 34 ∧ x ≠ 44 := fun x hx => by
    rcases List.mem_append.1 hx with hx | hx
    · rcases List.mem_append.1 hx with hx | hx
      · exact tok_clean44 hla x hx
      · obtain rfl := List.mem_singleton.1 hx; decide
    · exact tok_clean44 hlb x hx
  have hb2 : parseP ((lower a ++ [47]) ++ lower b) = ((lower a ++ [47]) ++ lower b, [], true) := by
    have := parse_back (l := []) hv hcl (by simp)
    simpa [formatP] using this
  have hpos : pos ((lower a ++ [47]) ++ lower b) 47 = (lower a).length := by
    have := pos_append (r := lower b) (token_no hla (c := 47) (by decide))
    simpa using this
  have ht : ((lower a ++ [47]) ++ lower b).take (pos ((lower a ++ [47]) ++ lower b) 47) = lower a := by rw [hpos]; simp
  have hd : ((lower a ++ [47]) ++ lower b).drop (pos ((lower a ++ [47]) ++ lower b) 47 + 1) = lower b := by rw [hpos, ← List.drop_drop]; simp
  have hok2 : okRange ((lower a ++ [47]) ++ lower b) = true := by
    unfold okRange
    have e1 : decide (lower a = [42]) = decide (a = [42]) := decide_eq_decide.2 (lower_eq_star a)
    have e2 : decide (lower b = [42]) = decide (b = [42]) := decide_eq_decide.2 (lower_eq_star b)
    rw [ht, hd, hla, hlb, e1, e2]
    simpa using hst
  refine ⟨hv, hcl, hcl2, ?_⟩
  rw [parseR_yes (by rw [hb2]) (by rw [hb2]; exact hok2), hb2]
  simp only
  rw [ht, hd, lower_idem, lower_idem]
def langB (c : UInt8) : Bool := (alphaB c || digB c) || decide (c = 45)
theorem sub_bytes {d : Bool} {m : Str} (h : subOk d m = true) : ∀ x ∈ m, langB x = true := fun x hx => by
  unfold subOk at h
  simp only [Bool.and_eq_true] at h
  have := List.all_eq_true.1 h.1.1 x hx
  unfold langB
  cases ha : alphaB x
  · rw [ha] at this; simp only [Bool.false_or, Bool.and_eq_true] at this; rw [this.2]; rfl
  · rfl
theorem tag_bytes {s : Str} (h : tagF s = true) : s ≠ [] ∧ ∀ x ∈ s, langB x = true := by
  have hb := subt_back s
  unfold tagF at h
  constructor
  · rintro rfl
    revert h
    decide
  · intro x hx
    have hx2 : x ∈ (subt s).flatMap (fun x => x ++ [45]) := by rw [hb]; simp [hx]
    obtain ⟨m, hm, hx3⟩ := List.mem_flatMap.1 hx2
    rcases List.mem_append.1 hx3 with hx3 | hx3
    · generalize subt s = X at h hm
      cases X with
      | nil => simp at hm
      | cons y r =>
        simp only [Bool.and_eq_true] at h
        rcases List.mem_cons.1 hm with rfl | hm
        · exact sub_bytes h.1 x hx3
        · exact sub_bytes (List.all_eq_true.1 h.2 m hm) x hx3
    · obtain rfl := List.mem_singleton.1 hx3; decide
theorem lang_fine (c : UInt8) (h : langB c = true) : blankB c = false ∧ c ≠ 34 ∧ c ≠ 59 ∧ c ≠ 44 := by
  have := all_u8 (fun c => !langB c || (!blankB c && decide (c ≠ 34) && decide (c ≠ 59) && decide (c ≠ 44))) (by decide +kernel) c
  rw [h] at this
  simpa [and_assoc] using this
theorem bytes_firm {s : Str} (h0 : s ≠ []) (h : ∀ x ∈ s, blankB x = false) : Firm s := by
  obtain ⟨x, m, h1, hx⟩ := first_of h0
  obtain ⟨m', z, h2, hz⟩ := last_of h0
  exact ⟨x, m, m', z, h1, h2, h x hx, h z hz⟩
theorem alpha_lower (c : UInt8) : alphaB (lowerB c) = alphaB c := by
  have := all_u8 (fun c => decide (alphaB (lowerB c) = alphaB c)) (by decide +kernel) c
  simpa using this
theorem dig_lower (c : UInt8) : digB (lowerB c) = digB c := by
  have := all_u8 (fun c => decide (digB (lowerB c) = digB c)) (by decide +kernel) c
  simpa using this
theorem sub_lower (d : Bool) (m : Str) : subOk d (lower m) = subOk d m := by
  unfold subOk
  rw [lower_length]
  have e1 : (lower m).all (fun c => alphaB c || (d && digB c)) = m.all (fun c => alphaB c || (d && digB c)) := by
    unfold lower
    rw [List.all_map]
    congr 1
    funext c
    simp [alpha_lower, dig_lower]
  have e2 : decide (lower m = []) = decide (m = []) := decide_eq_decide.2 (by unfold lower; simp)
  rw [e1, e2]
theorem tag_lower (s : Str) : tagF (lower s) = tagF s := by
  unfold tagF
  rw [subt_lower]
  cases subt s with
  | nil => rfl
  | cons x r =>
    simp only [List.map_cons, sub_lower, List.all_map]
    congr 2
    funext y
    exact sub_lower true y
theorem range_lower (s : Str) : rangeL (lower s) = rangeL s := by
  unfold rangeL
  rw [tag_lower, decide_eq_decide.2 (lower_eq_star s)]
theorem rangeL_fine {s : Str} (h : rangeL s = true) : s ≠ [] ∧ ∀ x ∈ s, blankB x = false ∧ x ≠ 34 ∧ x ≠ 59 ∧ x ≠ 44 := by
  unfold rangeL at h
  rw [Bool.or_eq_true, decide_eq_true_eq] at h
  rcases h with rfl | h
  · exact ⟨by simp, by decide⟩
  · obtain ⟨a, b⟩ := tag_bytes h
    exact ⟨a, fun x hx => lang_fine x (b x hx)⟩
theorem token_canon {kind : Int} {s : Str} (h : token s = true) : token (canonical kind s) = true := by
  unfold canonical
  have hl : token (lower s) = true := by rw [token_lower]; exact h
  split
  · split
    · decide
    · split
      · decide
      · exact hl
  · exact hl
theorem canon2 (s : Str) : canonical 2 s = lower s := by unfold canonical; rw [if_neg (by decide)]
theorem format_nil (v : Str) : formatP v [] = v := by simp [formatP]
theorem ranged_ok {kind : Int} {V : Str} {ps : List Prm} {n : Nat} (hn : n ≤ 1000) (hg : ∀ q ∈ ps, Good q) (hq : ∀ q ∈ ps, q.1 ≠ qName) (h : (rangedF kind V ps).2 = true) : OkP kind ((rangedF kind V ps).1, (n : Int)) := by
  by_cases h1 : kind = 1
  · subst h1
    have e : rangedF 1 V ps = (formatT ((parseR V).1.1, (parseR V).1.2.1, ps), (parseR V).2) := if_pos rfl
    rw [e] at h ⊢
    obtain ⟨a, b, c, d⟩ := range_norm h
    refine ⟨_, ps, n, a, b, c, hg, hq, rfl, hn, rfl, ?_⟩
    unfold rangedF
    rw [if_pos rfl, d]
  · by_cases h2 : kind = 2
    · subst h2
      have e : rangedF 2 V ps = (canonical 2 V, rangeL V && decide (ps.length = 0)) := by unfold rangedF; rw [if_neg h1, if_pos rfl]
      rw [e] at h ⊢
      simp only [Bool.and_eq_true, decide_eq_true_eq] at h
      obtain rfl := List.length_eq_zero_iff.1 h.2
      have hr : rangeL (canonical 2 V) = true := by rw [canon2, range_lower]; exact h.1
      obtain ⟨a, b⟩ := rangeL_fine hr
      refine ⟨canonical 2 V, [], n, bytes_firm a (fun x hx => (b x hx).1), fun x hx => ⟨(b x hx).2.1, (b x hx).2.2.1⟩, fun x hx => ⟨(b x hx).2.1, (b x hx).2.2.2⟩, by simp, by simp, (format_nil _).symm, hn, rfl, ?_⟩
      unfold rangedF
      rw [if_neg h1, if_pos rfl, canonical_idem, hr]; rfl
    · have e : rangedF kind V ps = (canonical kind V, token V && decide (ps.length = 0)) := by unfold rangedF; rw [if_neg h1, if_neg h2]
      rw [e] at h ⊢
      simp only [Bool.and_eq_true, decide_eq_true_eq] at h
      obtain rfl := List.length_eq_zero_iff.1 h.2
      have ht : token (canonical kind V) = true := token_canon h.1
      refine ⟨canonical kind V, [], n, token_firm ht, tok_clean ht, tok_clean44 ht, by simp, by simp, (format_nil _).symm, hn, rfl, ?_⟩
      unfold rangedF
      rw [if_neg h1, if_neg h2, canonical_idem, ht]; rfl
theorem before_q {ps : List Prm} : ∀ q ∈ ps.take (qAt ps), q.1 ≠ qName := fun q hq e => by
  obtain ⟨i, hi, rfl⟩ := List.getElem_of_mem hq
  rw [List.length_take] at hi
  have hi2 : i < ps.findIdx (fun p => decide (p.1 = [113])) := by unfold qAt at hi; omega
  have := List.not_of_lt_findIdx hi2
  rw [List.getElem_take] at e
  have e2 : ps[i].1 = [113] := e
  rw [decide_eq_true e2] at this
  cases this
theorem pref_ok {kind : Int} {s : Str} (h : (prefF kind s).2 = true) : OkP kind (prefF kind s).1 := by
  have hg := parse_goodness s
  by_cases h1 : (parseP s).2.2 = false
  · rw [pref_bad h1] at h; cases h
  · by_cases hq : qAt (parseP s).2.1 < (parseP s).2.1.length
    · by_cases h2 : (parseQ ((parseP s).2.1.getD (qAt (parseP s).2.1) ([], [])).2).2 = false
      · rw [pref_badq h1 hq h2] at h; cases h
      · rw [pref_q h1 hq h2] at h ⊢
        exact ranged_ok (parseQ_le _) (fun q hx => hg q (List.mem_of_mem_take hx)) before_q h
    · rw [pref_plain h1 hq] at h ⊢
      refine ranged_ok (n := 1000) (by omega) hg (fun q hx => ?_) h
      have := before_q (ps := (parseP s).2.1) q
      rw [take_over (s := (parseP s).2.1) (by omega)] at this
      exact this hx
theorem prefsM_mem {kind : Int} {m : List Str} : ∀ p ∈ prefsM kind m, OkP kind p := fun p hp => by
  unfold prefsM at hp
  obtain ⟨x, hx, rfl⟩ := List.mem_map.1 hp
  obtain ⟨hx, h2⟩ := List.mem_filter.1 hx
  obtain ⟨s, _, rfl⟩ := List.mem_map.1 hx
  exact pref_ok h2
/-! ### How long it gets -/
theorem sumP_take (i : Nat) : ∀ l : List Prm, sumP (l.take i) ≤ sumP l := fun l => by
  have : sumP l = sumP (l.take i) + sumP (l.drop i) := by
    conv => lhs; rw [← List.take_append_drop i l]
    unfold sumP
    rw [List.map_append, List.sum_append]
  omega
theorem ranged_length {kind : Int} {V : Str} {ps : List Prm} : (rangedF kind V ps).1.length ≤ 2 * V.length + 8 + 2 * sumP ps + 4 * ps.length := by
  unfold rangedF
  split
  · have h1 := formatP_length (((parseR V).1.1 ++ [47]) ++ (parseR V).1.2.1) ps
    have h2 := parseR_len V
    simp only [List.length_append, List.length_cons, List.length_nil] at h1
    show (formatP (((parseR V).1.1 ++ [47]) ++ (parseR V).1.2.1) ps).length ≤ _
    omega
  · split
    · have := canonical_length kind V; show (canonical kind V).length ≤ _; omega
    · have := canonical_length kind V; show (canonical kind V).length ≤ _; omega
theorem pref_length (kind : Int) (s : Str) : (prefF kind s).1.1.length ≤ 8 * s.length + 8 := by
  have a1 := parseP_len1 s
  have a2 := parseP_length s
  have a3 := parseP_sum s
  unfold prefF
  split
  · simp
  · split
    · split
      · simp
      · have h1 := ranged_length (kind := kind) (V := (parseP s).1) (ps := (parseP s).2.1.take (qAt (parseP s).2.1))
        have h2 := sumP_take (qAt (parseP s).2.1) (parseP s).2.1
        have h3 : ((parseP s).2.1.take (qAt (parseP s).2.1)).length ≤ (parseP s).2.1.length := by rw [List.length_take]; omega
        show (rangedF kind (parseP s).1 ((parseP s).2.1.take (qAt (parseP s).2.1))).1.length ≤ _
        omega
    · have h1 := ranged_length (kind := kind) (V := (parseP s).1) (ps := (parseP s).2.1)
      show (rangedF kind (parseP s).1 (parseP s).2.1).1.length ≤ _
      omega
theorem prefsF_short {kind : Int} {l : List Fld} {n : Nat} (h : ∀ y ∈ l, y.1.length ≤ n ∧ y.2.length ≤ n) : ∀ x ∈ (prefsF kind l).1, x.1.length ≤ 8 * n + 8 := fun x hx => by
  unfold prefsF at hx
  split at hx
  · simp at hx
  · simp only at hx
    unfold prefsM at hx
    obtain ⟨y, hy, rfl⟩ := List.mem_map.1 hx
    obtain ⟨hy, _⟩ := List.mem_filter.1 hy
    obtain ⟨s, hs, rfl⟩ := List.mem_map.1 hy
    have h1 := pref_length kind s
    have h2 := allV_mem (getF_mem h (name := nameK kind)) s hs
    omega
theorem joinS_short {n : Nat} : ∀ {X : List Str}, (∀ y ∈ X, y.length ≤ n) → (joinS [44, 32] X).length ≤ X.length * (n + 2)
  | [], _ => by simp [joinS]
  | x :: r, h => by
    rw [joinS_flat]
    have hx := h x (by simp)
    have hr : ∀ (r : List Str), (∀ y ∈ r, y.length ≤ n) → (r.flatMap (fun y => [44, 32] ++ y)).length ≤ r.length * (n + 2) := by
      intro r
      induction r with
      | nil => intro _; simp
      | cons y r ih =>
        intro h
        have h1 := ih (fun z hz => h z (by simp [hz]))
        have h2 := h y (by simp)
        rw [List.flatMap_cons, List.length_append, List.length_cons (as := r), Nat.succ_mul]
        simp only [List.length_append, List.length_cons, List.length_nil] at h1 ⊢
        omega
    have h3 := hr r (fun y hy => h y (by simp [hy]))
    rw [List.length_append, List.length_cons, Nat.succ_mul]
    omega
end Go.Plain

namespace Go.Plain
open Go
set_option linter.unusedSimpArgs false
set_option linter.unusedVariables false

def sIdent : Str := [105, 100, 101, 110, 116, 105, 116, 121]
def bestS (kind : Int) (v : Str) (s : Int × Int) (p : Prf) : Int × Int := if s.1 < matchK kind p.1 v then (matchK kind p.1 v, p.2) else s
def bestF (kind : Int) (v : Str) (l : List Prf) (q0 : Int) : Int × Int := l.foldl (bestS kind v) (-1, q0)
def qualF (kind : Int) (l : List Prf) (present : Bool) (v : Str) : Int :=
  if present = false then 1000 else if ((bestF kind v l 0).1 < 0 ∧ kind = 4) ∧ fold v sIdent = true then 1 else (bestF kind v l 0).2
section
variable {kind q0 : Int} {v : Str} {l : List Prf} {i : Nat} {present : Bool}
theorem best_step (h : i < l.length) : bestF kind v (l.take (i + 1)) q0 = bestS kind v (bestF kind v (l.take i) q0) (l.getD i ([], 0)) := by
  unfold bestF
  rw [List.take_succ_eq_append_getElem h, List.foldl_append, ← getD_get (dd := ([], 0)) h]; rfl
theorem best_hit {b q : Int} (h : i < l.length) (e : (b, q) = bestF kind v (l.take i) q0) (h2 : b < matchK kind (l.getD i ([], 0)).1 v) : (matchK kind (l.getD i ([], 0)).1 v, (l.getD i ([], 0)).2) = bestF kind v (l.take (i + 1)) q0 := by
  rw [best_step h, ← e]; unfold bestS; rw [if_pos h2]
theorem best_miss {b q : Int} (h : i < l.length) (e : (b, q) = bestF kind v (l.take i) q0) (h2 : ¬ b < matchK kind (l.getD i ([], 0)).1 v) : (b, q) = bestF kind v (l.take (i + 1)) q0 := by
  rw [best_step h, ← e]; unfold bestS; rw [if_neg h2]
theorem best_end {b q : Int} (h : ¬ i < l.length) (e : (b, q) = bestF kind v (l.take i) q0) : bestF kind v l q0 = (b, q) := by
  rw [e, List.take_of_length_le (by omega)]
theorem qual_no (h : present = false) : qualF kind l present v = 1000 := if_pos h
theorem qual_one {b q : Int} (hp : present = true) (e : bestF kind v l 0 = (b, q)) (h : (b < 0 ∧ kind = 4) ∧ fold v sIdent = true) : qualF kind l present v = 1 := by
  unfold qualF; rw [if_neg (by rw [hp]; simp), if_pos (by rw [e]; exact h)]
theorem qual_q {b q : Int} (hp : present = true) (e : bestF kind v l 0 = (b, q)) (h : ¬ ((b < 0 ∧ kind = 4) ∧ fold v sIdent = true)) : qualF kind l present v = q := by
  unfold qualF; rw [if_neg (by rw [hp]; simp), if_neg (by rw [e]; exact h), e]
end
/-! ### Rank -/
def insPos (qs : List Int) (q : Int) : Nat := (qs.reverse.dropWhile (fun p => decide (p < q))).length
theorem insPos_back {qs : List Int} {q : Int} {k : Nat} (h0 : 0 < k) (hk : k ≤ qs.length) (h : qs.getD (k - 1) 0 < q) : insPos (qs.take (k - 1)) q = insPos (qs.take k) q := by
  obtain ⟨j, rfl⟩ : ∃ j, k = j + 1 := ⟨k - 1, by omega⟩
  have hj : j < qs.length := by omega
  rw [Nat.add_sub_cancel] at h ⊢
  unfold insPos
  rw [List.take_succ_eq_append_getElem hj, List.reverse_append, List.reverse_singleton, List.singleton_append, List.dropWhile_cons, ← getD_get (dd := 0) hj, if_pos (decide_eq_true h)]
theorem insPos_stop {qs : List Int} {q : Int} {k : Nat} (hk : k ≤ qs.length) (h : ¬ 0 < k ∨ ¬ qs.getD (k - 1) 0 < q) : insPos (qs.take k) q = k := by
  by_cases h0 : 0 < k
  · obtain ⟨j, rfl⟩ : ∃ j, k = j + 1 := ⟨k - 1, by omega⟩
    have hj : j < qs.length := by omega
    have h2 := h.resolve_left (fun q => q h0)
    rw [Nat.add_sub_cancel] at h2
    unfold insPos
    rw [List.take_succ_eq_append_getElem hj, List.reverse_append, List.reverse_singleton, List.singleton_append, List.dropWhile_cons, ← getD_get (dd := 0) hj, if_neg (by rw [decide_eq_false h2]; simp)]
    simp; omega
  · obtain rfl : k = 0 := by omega
    simp [insPos]
def rankS (kind : Int) (l : List Prf) (present : Bool) (s : List Str × List Int) (v : Str) : List Str × List Int :=
  if qualF kind l present v ≤ 0 then s else (s.1.take (insPos s.2 (qualF kind l present v)) ++ [v] ++ s.1.drop (insPos s.2 (qualF kind l present v)), s.2.take (insPos s.2 (qualF kind l present v)) ++ [qualF kind l present v] ++ s.2.drop (insPos s.2 (qualF kind l present v)))
def rankG (kind : Int) (l : List Prf) (present : Bool) (vs : List Str) : List Str × List Int := vs.foldl (rankS kind l present) ([], [])
section
variable {kind : Int} {l : List Prf} {present : Bool} {vs : List Str} {i : Nat} {out : List Str} {qs : List Int}
theorem rank_step (h : i < vs.length) : rankG kind l present (vs.take (i + 1)) = rankS kind l present (rankG kind l present (vs.take i)) (vs.getD i []) := by
  unfold rankG
  rw [List.take_succ_eq_append_getElem h, List.foldl_append, ← getD_get (dd := []) h]; rfl
theorem rank_skip (h : i < vs.length) (e : (out, qs) = rankG kind l present (vs.take i)) (h2 : qualF kind l present (vs.getD i []) ≤ 0) : (out, qs) = rankG kind l present (vs.take (i + 1)) := by
  rw [rank_step h, ← e]; unfold rankS; rw [if_pos h2]
theorem rank_put {k : Nat} (h : i < vs.length) (e : (out, qs) = rankG kind l present (vs.take i)) (h2 : ¬ qualF kind l present (vs.getD i []) ≤ 0) (hk : insPos qs (qualF kind l present (vs.getD i [])) = k) :
    (out.take k ++ [vs.getD i []] ++ out.drop k, qs.take k ++ [qualF kind l present (vs.getD i [])] ++ qs.drop k) = rankG kind l present (vs.take (i + 1)) := by
  rw [rank_step h, ← e]; unfold rankS; rw [if_neg h2]; simp only; rw [hk]
theorem rank_end (h : ¬ i < vs.length) (e : (out, qs) = rankG kind l present (vs.take i)) : out = (rankG kind l present vs).1 := by
  rw [List.take_of_length_le (by omega)] at e; rw [← e]
end
def okS (s : Str) : Bool := !decide (100 < s.length)
def keepS (l : List Str) : Bool := (l.take 21).all okS && decide (l.length ≤ 20)
theorem keepS_len {l : List Str} (h : keepS l = true) : l.length ≤ 20 := by
  unfold keepS at h; rw [Bool.and_eq_true, decide_eq_true_eq] at h; exact h.2
theorem keepS_mem {l : List Str} (h : keepS l = true) : ∀ x ∈ l, x.length ≤ 100 := fun x hx => by
  have hl := keepS_len h
  unfold keepS at h
  rw [Bool.and_eq_true, take_over (s := l) (by omega)] at h
  have := List.all_eq_true.1 h.1 x hx
  unfold okS at this
  simp at this; omega
end Go.Plain
