/-
  Plain functions of values with parameters: cutting, quoting, reading, writing; and their laws. No program in sight.
-/
import Derived.Test.YtikllmfjgpmcnaaDoorLaw03D
namespace Go.Plain
set_option linter.unusedSimpArgs false
set_option linter.unusedVariables false

abbrev Prm := Str × Str

/-! ### Cutting at a separator outside quotes -/
def cutGo (c : UInt8) : Nat → Str → Str → List Str
  | _, cur, [] => [cur]
  | st, cur, b :: r =>
    if st = 2 then cutGo c 1 (cur ++ [b]) r
    else if st = 1 then (if b = 92 then cutGo c 2 (cur ++ [b]) r else if b = 34 then cutGo c 0 (cur ++ [b]) r else cutGo c 1 (cur ++ [b]) r)
    else (if b = 34 then cutGo c 1 (cur ++ [b]) r else if b = c then cur :: cutGo c 0 [] r else cutGo c 0 (cur ++ [b]) r)
def cutF (s : Str) (c : UInt8) : List Str := cutGo c 0 [] s
def stq (q : Bool) : Nat := bif q then 1 else 0

theorem take_drop_step {s : Str} {i fr : Nat} (h : i < s.length) (hf : fr ≤ i) : (s.take (i + 1)).drop fr = (s.take i).drop fr ++ [s.getD i 0] := by
  rw [List.take_succ_eq_append_getElem h, List.drop_append_of_le_length (by simp; omega), getD_get h]
theorem take_over {α : Type} {s : List α} {i : Nat} (h : s.length ≤ i) : s.take i = s := List.take_of_length_le h

section
variable {s : Str} {i fr : Nat} {c : UInt8} {q : Bool} {acc X : List Str}
theorem cut_esc (h : i < s.length) (hf : fr ≤ i) (hq : q = true) (hb : s.getD i 0 = 92) (e : acc ++ cutGo c (stq q) ((s.take i).drop fr) (s.drop i) = X) :
    acc ++ cutGo c (stq q) ((s.take (i + 1 + 1)).drop fr) (s.drop (i + 1 + 1)) = X := by
  subst hq
  rw [drop_step (dd := 0) h, hb] at e
  simp only [stq, cond_true, cutGo] at e ⊢
  simp only [Nat.one_ne_zero, if_false, if_true, Nat.reduceEqDiff] at e
  rw [← e]
  by_cases h2 : i + 1 < s.length
  · rw [drop_step (dd := 0) h2]
    simp only [cutGo, if_true]
    rw [take_drop_step h2 (by omega), take_drop_step h hf, hb]
  · have e1 : s.drop (i + 1) = [] := List.drop_of_length_le (by omega)
    have e2 : s.drop (i + 1 + 1) = [] := List.drop_of_length_le (by omega)
    have e3 : s.take (i + 1 + 1) = s.take (i + 1) := by rw [take_over (by omega), take_over (by omega)]
    rw [e1, e2, e3, take_drop_step h hf, hb]
    simp only [cutGo]
theorem cut_quote (h : i < s.length) (hf : fr ≤ i) (hb : s.getD i 0 = 34) (e : acc ++ cutGo c (stq q) ((s.take i).drop fr) (s.drop i) = X) :
    acc ++ cutGo c (stq (!q)) ((s.take (i + 1)).drop fr) (s.drop (i + 1)) = X := by
  rw [drop_step (dd := 0) h, hb] at e
  rw [take_drop_step h hf, hb]
  cases q <;> simpa [stq, cutGo] using e
theorem cut_sep (h : i < s.length) (hq : q = false) (hb : s.getD i 0 = c) (h34 : ¬ s.getD i 0 = 34) (e : acc ++ cutGo c (stq q) ((s.take i).drop fr) (s.drop i) = X) :
    (acc ++ [(s.take i).drop fr]) ++ cutGo c (stq q) ((s.take (i + 1)).drop (i + 1)) (s.drop (i + 1)) = X := by
  subst hq
  have h34' : ¬ c = 34 := hb ▸ h34
  rw [drop_step (dd := 0) h, hb] at e
  rw [List.drop_of_length_le (i := i + 1) (l := s.take (i + 1)) (by simp; omega)]
  simpa [stq, cutGo, h34'] using e
theorem cut_plain (h : i < s.length) (hf : fr ≤ i) (h1 : q = false ∨ ¬ s.getD i 0 = 92) (h34 : ¬ s.getD i 0 = 34) (h2 : ¬ s.getD i 0 = c ∨ q = true) (e : acc ++ cutGo c (stq q) ((s.take i).drop fr) (s.drop i) = X) :
    acc ++ cutGo c (stq q) ((s.take (i + 1)).drop fr) (s.drop (i + 1)) = X := by
  rw [drop_step (dd := 0) h] at e
  rw [take_drop_step h hf]
  revert e h1 h34 h2
  generalize s.getD i 0 = b
  intro h1 h34 h2 e
  cases q
  · have h2' : ¬ b = c := by simpa using h2
    simpa [stq, cutGo, h34, h2'] using e
  · have h1' : ¬ b = 92 := by simpa using h1
    simpa [stq, cutGo, h34, h1'] using e
theorem cut_end (h : s.length ≤ i) (e : acc ++ cutGo c (stq q) ((s.take i).drop fr) (s.drop i) = X) : acc ++ [s.drop fr] = X := by
  rw [List.drop_of_length_le h, take_over h] at e
  simpa [cutGo] using e
end

theorem cutGo_pos (c : UInt8) : ∀ (r : Str) (st : Nat) (cur : Str), 0 < (cutGo c st cur r).length
  | [], _, _ => by simp [cutGo]
  | b :: r, st, cur => by
    unfold cutGo
    split
    · exact cutGo_pos c r _ _
    · split
      · split
        · exact cutGo_pos c r _ _
        · split <;> exact cutGo_pos c r _ _
      · split
        · exact cutGo_pos c r _ _
        · split
          · simp
          · exact cutGo_pos c r _ _
theorem cutF_pos (s : Str) (c : UInt8) : 0 < (cutF s c).length := cutGo_pos c s 0 []
theorem cutGo_mem (c : UInt8) : ∀ (r : Str) (st : Nat) (cur : Str), ∀ x ∈ cutGo c st cur r, x.length ≤ cur.length + r.length
  | [], _, cur => by simp [cutGo]
  | b :: r, st, cur => fun x hx => by
    have ih := cutGo_mem c r
    have up : ∀ st, x ∈ cutGo c st (cur ++ [b]) r → x.length ≤ cur.length + (b :: r).length := fun st h => by
      have := ih st _ x h; simp at this ⊢; omega
    unfold cutGo at hx
    split at hx
    · exact up _ hx
    · split at hx
      · split at hx
        · exact up _ hx
        · split at hx <;> exact up _ hx
      · split at hx
        · exact up _ hx
        · split at hx
          · rcases List.mem_cons.1 hx with rfl | hx
            · simp
            · have := ih _ _ x hx; simp at this ⊢; omega
          · exact up _ hx
theorem cutF_mem (s : Str) (c : UInt8) : ∀ x ∈ cutF s c, x.length ≤ s.length := fun x hx => by have := cutGo_mem c s 0 [] x hx; simpa using this
theorem cutGo_length (c : UInt8) : ∀ (r : Str) (st : Nat) (cur : Str), (cutGo c st cur r).length ≤ r.length + 1
  | [], _, _ => by simp [cutGo]
  | b :: r, st, cur => by
    have ih := cutGo_length c r
    unfold cutGo
    split
    · have := ih 1 (cur ++ [b]); simp; omega
    · split
      · split
        · have := ih 2 (cur ++ [b]); simp; omega
        · split
          · have := ih 0 (cur ++ [b]); simp; omega
          · have := ih 1 (cur ++ [b]); simp; omega
      · split
        · have := ih 1 (cur ++ [b]); simp; omega
        · split
          · have := ih 0 []; simp; omega
          · have := ih 0 (cur ++ [b]); simp; omega
theorem cutF_length (s : Str) (c : UInt8) : (cutF s c).length ≤ s.length + 1 := cutGo_length c s 0 []
theorem getD_len {l : List Str} {n i : Nat} (h : ∀ x ∈ l, x.length ≤ n) : (l.getD i []).length ≤ n := by
  by_cases hi : i < l.length
  · exact h _ (getD_mem hi)
  · rw [List.getD_eq_getElem?_getD, List.getElem?_eq_none (by omega)]; simp

/-! ### Quoted strings -/
def qc (c : UInt8) : Str := bif decide (c = 34) || decide (c = 92) then [92, c] else [c]
def quote (s : Str) : Str := 34 :: s.flatMap qc ++ [34]
theorem flatMap_step {α β : Type} {f : α → List β} {l : List α} {i : Nat} {dd : α} (h : i < l.length) : (l.take (i + 1)).flatMap f = (l.take i).flatMap f ++ f (l.getD i dd) := by
  rw [List.take_succ_eq_append_getElem h, List.flatMap_append, getD_get h]; simp
theorem quote_hit {s : Str} {i : Nat} (h : i < s.length) (h2 : s.getD i 0 = 34 ∨ s.getD i 0 = 92) : ((34 :: (s.take i).flatMap qc) ++ [92]) ++ [s.getD i 0] = 34 :: (s.take (i + 1)).flatMap qc := by
  rw [flatMap_step (dd := 0) h]
  revert h2
  generalize s.getD i 0 = b
  intro h2
  rcases h2 with h2 | h2 <;> simp [qc, h2]
theorem quote_miss {s : Str} {i : Nat} (h : i < s.length) (h2 : ¬ s.getD i 0 = 34 ∧ ¬ s.getD i 0 = 92) : (34 :: (s.take i).flatMap qc) ++ [s.getD i 0] = 34 :: (s.take (i + 1)).flatMap qc := by
  rw [flatMap_step (dd := 0) h]
  revert h2
  generalize s.getD i 0 = b
  intro h2
  simp [qc, h2.1, h2.2]
theorem qc_length (c : UInt8) : (qc c).length ≤ 2 := by unfold qc; cases decide (c = 34) || decide (c = 92) <;> simp
theorem flatMap_length_le {α β : Type} {f : α → List β} {k : Nat} (hk : ∀ x, (f x).length ≤ k) : ∀ l : List α, (l.flatMap f).length ≤ l.length * k
  | [] => by simp
  | x :: l => by have := hk x; have := flatMap_length_le hk l; rw [List.flatMap_cons, List.length_append, List.length_cons, Nat.add_mul]; omega
theorem quote_length (s : Str) : (quote s).length ≤ 2 * s.length + 2 := by
  have := flatMap_length_le qc_length s
  simp only [quote, List.length_append, List.length_cons, List.length_nil]; omega

def unqGo : Str → Str → Option Str
  | acc, [] => some acc
  | acc, [b] => if b = 34 then none else if b = 92 then none else if textB b = true then some (acc ++ [b]) else none
  | acc, b :: x :: r => if b = 34 then none else if b = 92 then (if textB x = true then unqGo (acc ++ [x]) r else none) else if textB b = true then unqGo (acc ++ [b]) (x :: r) else none
def inner (s : Str) : Str := (s.take (s.length - 1)).drop 1
def unq (s : Str) : Str × Bool :=
  if 2 ≤ s.length ∧ s.getD 0 0 = 34 ∧ s.getD (s.length - 1) 0 = 34 then ((unqGo [] (inner s)).getD [], (unqGo [] (inner s)).isSome) else ([], false)

section
variable {t acc : Str} {i : Nat} {X : Option Str}
theorem unq_quote (h : i < t.length) (hb : t.getD i 0 = 34) (e : unqGo acc (t.drop i) = X) : X = none := by
  rw [← e, drop_step (dd := 0) h, hb]
  cases t.drop (i + 1) <;> simp [unqGo]
theorem unq_esc_end (h : i < t.length) (hb : t.getD i 0 = 92) (h1 : i + 1 = t.length) (e : unqGo acc (t.drop i) = X) : X = none := by
  rw [← e, drop_step (dd := 0) h, hb, List.drop_of_length_le (by omega)]
  simp [unqGo]
theorem unq_esc_bad (h : i + 1 < t.length) (hb : t.getD i 0 = 92) (h1 : textB (t.getD (i + 1) 0) = false) (e : unqGo acc (t.drop i) = X) : X = none := by
  rw [← e, drop_step (dd := 0) (show i < t.length by omega), hb, drop_step (dd := 0) h]
  revert h1
  generalize t.getD (i + 1) 0 = b
  intro h1
  simp [unqGo, h1]
theorem unq_esc (h : i + 1 < t.length) (hb : t.getD i 0 = 92) (h1 : textB (t.getD (i + 1) 0) = true) (e : unqGo acc (t.drop i) = X) : unqGo (acc ++ [t.getD (i + 1) 0]) (t.drop (i + 1 + 1)) = X := by
  rw [← e, drop_step (dd := 0) (show i < t.length by omega), hb, drop_step (dd := 0) h]
  revert h1
  generalize t.getD (i + 1) 0 = b
  intro h1
  simp [unqGo, h1]
theorem unq_bad (h : i < t.length) (h34 : ¬ t.getD i 0 = 34) (hb : ¬ t.getD i 0 = 92) (h1 : textB (t.getD i 0) = false) (e : unqGo acc (t.drop i) = X) : X = none := by
  rw [← e, drop_step (dd := 0) h]
  revert h34 hb h1
  generalize t.getD i 0 = b
  intro h34 hb h1
  cases t.drop (i + 1) <;> simp [unqGo, h34, hb, h1]
theorem unq_plain (h : i < t.length) (h34 : ¬ t.getD i 0 = 34) (hb : ¬ t.getD i 0 = 92) (h1 : textB (t.getD i 0) = true) (e : unqGo acc (t.drop i) = X) : unqGo (acc ++ [t.getD i 0]) (t.drop (i + 1)) = X := by
  rw [← e, drop_step (dd := 0) h]
  revert h34 hb h1
  generalize t.getD i 0 = b
  intro h34 hb h1
  cases t.drop (i + 1) <;> simp [unqGo, h34, hb, h1]
theorem unq_end (h : t.length ≤ i) (e : unqGo acc (t.drop i) = X) : X = some acc := by
  rw [← e, List.drop_of_length_le h]; simp [unqGo]
end
theorem text_get {t : Str} {i : Nat} (h : t.all textB = true) (hi : i < t.length) : textB (t.getD i 0) = true := by
  rw [getD_get hi]; exact List.all_eq_true.1 h _ (List.getElem_mem hi)
theorem unqGo_text : ∀ (t acc u : Str), unqGo acc t = some u → t.all textB = true
  | [], _, _, _ => rfl
  | [b], acc, u, h => by
    unfold unqGo at h
    split at h
    · cases h
    · split at h
      · cases h
      · split at h
        · rename_i hb; simpa using hb
        · cases h
  | b :: x :: r, acc, u, h => by
    unfold unqGo at h
    split at h
    · cases h
    · split at h
      · rename_i hb
        split at h
        · rename_i hx
          have := unqGo_text r _ _ h
          simp [hb, hx, this]; decide
        · cases h
      · split at h
        · rename_i hb
          have := unqGo_text (x :: r) _ _ h
          rw [List.all_cons, hb, this]; rfl
        · cases h
  termination_by t => t.length
theorem unqGo_length : ∀ (t acc u : Str), unqGo acc t = some u → u.length ≤ acc.length + t.length
  | [], _, _, h => by simp [unqGo] at h; subst h; simp
  | [b], acc, u, h => by
    unfold unqGo at h
    split at h
    · cases h
    · split at h
      · cases h
      · split at h
        · cases h; simp
        · cases h
  | b :: x :: r, acc, u, h => by
    unfold unqGo at h
    split at h
    · cases h
    · split at h
      · split at h
        · have := unqGo_length r _ _ h
          simp at this ⊢; omega
        · cases h
      · split at h
        · have := unqGo_length (x :: r) _ _ h
          simp at this ⊢; omega
        · cases h
  termination_by t => t.length
theorem inner_length (s : Str) : (inner s).length ≤ s.length := by simp [inner]; omega
theorem unq_length (s : Str) : (unq s).1.length ≤ s.length := by
  unfold unq
  split
  · cases h : unqGo [] (inner s) with
    | none => simp
    | some u => have := unqGo_length _ _ _ h; have := inner_length s; simp at *; omega
  · simp
theorem unq_no {s : Str} (h : s.length < 2 ∨ ¬ s.getD 0 0 = 34 ∨ ¬ s.getD (s.length - 1) 0 = 34) : unq s = ([], false) := by
  unfold unq; rw [if_neg (by rintro ⟨h1, h2, h3⟩; rcases h with h | h | h <;> first | omega | contradiction)]
theorem unq_yes {s : Str} (h : 2 ≤ s.length) (h2 : s.getD 0 0 = 34) (h3 : s.getD (s.length - 1) 0 = 34) {X : Option Str} (hX : unqGo [] (inner s) = X) : unq s = (X.getD [], X.isSome) := by
  unfold unq; rw [if_pos ⟨h, h2, h3⟩, hX]

theorem unq_nt {s : Str} (h : text (inner s) = false) : unq s = ([], false) := by
  unfold unq
  split
  · cases e : unqGo [] (inner s) with
    | none => rfl
    | some u => have := unqGo_text _ _ _ e; rw [text, this] at h; cases h
  · rfl

/-! ### Parameters -/
def oneP (x : Str) : Str × Str × Bool :=
  if ¬ pos x 61 < x.length ∨ token (x.take (pos x 61)) = false then ([], [], false)
  else if token (x.drop (pos x 61 + 1)) = true then (lower (x.take (pos x 61)), x.drop (pos x 61 + 1), true)
  else (lower (x.take (pos x 61)), unq (x.drop (pos x 61 + 1)))
theorem one_no {x : Str} (h : ¬ pos x 61 < x.length) : oneP x = ([], [], false) := by rw [oneP, if_pos (.inl h)]
theorem one_bad {x : Str} (ht : token (x.take (pos x 61)) = false) : oneP x = ([], [], false) := by rw [oneP, if_pos (.inr ht)]
theorem one_tok {x : Str} (h : pos x 61 < x.length) (ht : token (x.take (pos x 61)) = true) (hv : token (x.drop (pos x 61 + 1)) = true) : oneP x = (lower (x.take (pos x 61)), x.drop (pos x 61 + 1), true) := by
  rw [oneP, if_neg (by simp [h, ht]), if_pos hv]
theorem one_unq {x : Str} (h : pos x 61 < x.length) (ht : token (x.take (pos x 61)) = true) (hv : token (x.drop (pos x 61 + 1)) = false) : oneP x = (lower (x.take (pos x 61)), unq (x.drop (pos x 61 + 1))) := by
  rw [oneP, if_neg (by simp [h, ht]), if_neg (by simp [hv])]
def parsGo : List Prm → List Str → Option (List Prm)
  | acc, [] => some acc
  | acc, p :: r => if trim p = [] then parsGo acc r else if (oneP (trim p)).2.2 = true then parsGo (acc ++ [((oneP (trim p)).1, (oneP (trim p)).2.1)]) r else none
def parseP (s : Str) : Str × List Prm × Bool :=
  if trim ((cutF s 59).getD 0 []) = [] then ([], [], false)
  else match parsGo [] ((cutF s 59).drop 1) with
    | none => ([], [], false)
    | some l => (trim ((cutF s 59).getD 0 []), l, true)
theorem parse_none {s : Str} (h : ¬ trim ((cutF s 59).getD 0 []) = []) (e : parsGo [] ((cutF s 59).drop 1) = none) : parseP s = ([], [], false) := by
  unfold parseP; rw [if_neg h, e]
theorem parse_some {s : Str} {l : List Prm} (h : ¬ trim ((cutF s 59).getD 0 []) = []) (e : parsGo [] ((cutF s 59).drop 1) = some l) : parseP s = (trim ((cutF s 59).getD 0 []), l, true) := by
  unfold parseP; rw [if_neg h, e]
theorem parse_blank {s : Str} (h : trim ((cutF s 59).getD 0 []) = []) : parseP s = ([], [], false) := by
  unfold parseP; rw [if_pos h]
section
variable {X : List Str} {acc : List Prm} {i : Nat} {Y : Option (List Prm)}
theorem pars_skip (h : i < X.length) (hb : trim (X.getD i []) = []) (e : parsGo acc (X.drop i) = Y) : parsGo acc (X.drop (i + 1)) = Y := by
  rw [← e, drop_step (dd := []) h, parsGo, if_pos hb]
theorem pars_bad (h : i < X.length) (hb : ¬ trim (X.getD i []) = []) (h2 : (oneP (trim (X.getD i []))).2.2 = false) (e : parsGo acc (X.drop i) = Y) : Y = none := by
  rw [← e, drop_step (dd := []) h, parsGo, if_neg hb, if_neg (by rw [h2]; simp)]
theorem pars_ok (h : i < X.length) (hb : ¬ trim (X.getD i []) = []) (h2 : (oneP (trim (X.getD i []))).2.2 = true) (e : parsGo acc (X.drop i) = Y) : parsGo (acc ++ [((oneP (trim (X.getD i []))).1, (oneP (trim (X.getD i []))).2.1)]) (X.drop (i + 1)) = Y := by
  rw [← e, drop_step (dd := []) h, parsGo, if_neg hb, if_pos h2]
theorem pars_end (h : X.length ≤ i) (e : parsGo acc (X.drop i) = Y) : Y = some acc := by
  rw [← e, List.drop_of_length_le h, parsGo]
end
theorem parsGo_length : ∀ (X : List Str) (acc : List Prm) (l : List Prm), parsGo acc X = some l → l.length ≤ acc.length + X.length
  | [], acc, l, h => by simp [parsGo] at h; subst h; simp
  | p :: r, acc, l, h => by
    unfold parsGo at h
    split at h
    · have := parsGo_length r _ _ h; simp; omega
    · split at h
      · have := parsGo_length r _ _ h; simp at this ⊢; omega
      · cases h
theorem parseP_length (s : Str) : (parseP s).2.1.length ≤ s.length := by
  unfold parseP
  split
  · simp
  · split
    · simp
    · rename_i l h
      have := parsGo_length _ _ _ h
      have := cutF_length s 59
      simp at *; omega
def wr (v : Str) : Str := if token v = true then v else quote v
def pieceP (p : Prm) : Str := p.1 ++ 61 :: wr p.2
def formatP (v : Str) (l : List Prm) : Str := v ++ l.flatMap fun p => 59 :: pieceP p
def findP (l : List Prm) (name : Str) : Str × Bool := match l.find? (fun p => decide (p.1 = name)) with | some p => (p.2, true) | none => ([], false)
theorem findP_hit {l : List Prm} {name : Str} {i : Nat} {dd : Prm} (h : i < l.length) (h2 : (l.getD i dd).1 = name) (e : findP (l.drop i) name = findP l name) : findP l name = ((l.getD i dd).2, true) := by
  rw [← e, drop_step (dd := dd) h]
  revert h2
  generalize l.getD i dd = b
  intro h2
  simp [findP, h2]
theorem findP_miss {l : List Prm} {name : Str} {i : Nat} {dd : Prm} (h : i < l.length) (h2 : ¬ (l.getD i dd).1 = name) (e : findP (l.drop i) name = findP l name) : findP (l.drop (i + 1)) name = findP l name := by
  rw [← e, drop_step (dd := dd) h]
  revert h2
  generalize l.getD i dd = b
  intro h2
  simp [findP, h2]
theorem findP_end {l : List Prm} {name : Str} {i : Nat} (h : l.length ≤ i) (e : findP (l.drop i) name = findP l name) : findP l name = ([], false) := by
  rw [← e, List.drop_of_length_le h]; rfl
def okP (f : Prm) : Bool := !(decide (100 < f.1.length) || decide (100 < f.2.length))
def keepP (l : List Prm) : Bool := (l.take 9).all okP && decide (l.length ≤ 8)
theorem keepP_len {l : List Prm} (h : keepP l = true) : l.length ≤ 8 := by
  unfold keepP at h
  simp only [Bool.and_eq_true, decide_eq_true_eq] at h
  exact h.2
theorem keepP_mem {l : List Prm} (h : keepP l = true) : ∀ x ∈ l, x.1.length ≤ 100 ∧ x.2.length ≤ 100 := fun x hx => by
  have hl := keepP_len h
  unfold keepP at h
  simp only [Bool.and_eq_true] at h
  have h1 := h.1
  rw [List.take_of_length_le (by omega)] at h1
  have := List.all_eq_true.1 h1 x hx
  unfold okP at this
  simp at this
  omega
end Go.Plain
