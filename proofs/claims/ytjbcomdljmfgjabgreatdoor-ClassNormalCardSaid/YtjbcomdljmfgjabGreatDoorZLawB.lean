/-
  Plain functions of the axes of Variants: values, lists of axes, lists of values in parentheses. No program in sight.
  Plain laws of runes: what is read at a byte, and that no byte of a longer rune is a sign. No program in sight.
  Plain laws for reading and writing values in parentheses, step by step. No program in sight.
  Plain laws of the axes of Variants, step by step. No program in sight.
  Plain laws of the axes of Variants, as the reference asks them. No program in sight.
  Plain law: the text of a valid list of axes is read as this list. No program in sight.
  Plain laws: how reading goes along with lower case; values of an axis and their lower case. No program in sight.
-/
import Derived.Test.YtjbcomdljmfgjabGreatDoorZLawA
import Derived.Test.YtjbcomdljmfgjabGreatDoorZSep2
namespace Go.Plain
open Go
set_option linter.unusedSimpArgs false
set_option linter.unusedVariables false

abbrev Axs := Str × List Str

/-! ### Lists whose elements are all fine and all different -/
section dist
variable {α : Type} {ok : α → Bool} {eqv : α → α → Bool} {dd : α} {l : List α} {n i : Nat}
def distB (ok : α → Bool) (eqv : α → α → Bool) (dd : α) (l : List α) (n : Nat) : Bool := (List.range n).all (fun i => ok (l.getD i dd) && !(l.take i).any (eqv (l.getD i dd)))
theorem dist_zero : distB ok eqv dd l 0 = true := rfl
theorem dist_step : distB ok eqv dd l (n + 1) = (distB ok eqv dd l n && (ok (l.getD n dd) && !(l.take n).any (eqv (l.getD n dd)))) := by
  unfold distB; rw [List.range_succ, List.all_append]; simp
theorem dist_bad (h : i < n) (h2 : ok (l.getD i dd) = false ∨ (l.take i).any (eqv (l.getD i dd)) = true) : distB ok eqv dd l n = false := by
  unfold distB
  rw [List.all_eq_false]
  exact ⟨i, List.mem_range.2 h, by rcases h2 with h2 | h2 <;> rw [h2] <;> simp⟩
theorem dist_go (h : distB ok eqv dd l n = true) (h1 : ok (l.getD n dd) = true) (h2 : (l.take n).any (eqv (l.getD n dd)) = false) : distB ok eqv dd l (n + 1) = true := by rw [dist_step, h, h1, h2]; rfl
theorem dist_at (h : distB ok eqv dd l n = true) (hi : i < n) : ok (l.getD i dd) = true ∧ (l.take i).any (eqv (l.getD i dd)) = false := by
  unfold distB at h
  have := List.all_eq_true.1 h i (List.mem_range.2 hi)
  simpa using this
theorem any_of {p : α → Bool} {k : Nat} (hk : k < l.length) (hki : k < i) (h : p (l.getD k dd) = true) : (l.take i).any p = true := by
  rw [List.any_eq_true]
  refine ⟨l.getD k dd, ?_, h⟩
  rw [getD_get hk, List.mem_take_iff_getElem]
  exact ⟨k, by omega, rfl⟩
end dist

/-! ### Values of an axis -/
def parOk (l : List Prm) (n : Nat) : Bool := distB (fun p => !decide (p.1 = [113])) (fun p x => decide (x.1 = p.1)) ([], []) l n
def formF (k : Int) (s : Str) : Str × Bool :=
  if k = 1 then (lower s, (parseT s).2 && parOk (parseT s).1.2.2 (parseT s).1.2.2.length)
  else if k = 2 then (lower s, tagF s)
  else if k = 3 ∨ k = 4 then (canonical k s, token s && !decide (s = [42]))
  else (s, ((decide (1 ≤ s.length) && decide (s.length ≤ 100)) && text s) && decide (trim s = s))
def valueF (axis s : Str) : Bool := (formF (kindF axis) s).2
def sameF (axis a b : Str) : Bool := decide ((formF (kindF axis) a).1 = (formF (kindF axis) b).1)
theorem form1 {k : Int} {s : Str} (h : k = 1) : formF k s = (lower s, (parseT s).2 && parOk (parseT s).1.2.2 (parseT s).1.2.2.length) := if_pos h
theorem form2 {k : Int} {s : Str} (h1 : ¬ k = 1) (h : k = 2) : formF k s = (lower s, tagF s) := by unfold formF; rw [if_neg h1, if_pos h]
theorem form3 {k : Int} {s : Str} (h1 : ¬ k = 1) (h2 : ¬ k = 2) (h : k = 3 ∨ k = 4) : formF k s = (canonical k s, token s && !decide (s = [42])) := by unfold formF; rw [if_neg h1, if_neg h2, if_pos h]
theorem form5 {k : Int} {s : Str} (h1 : ¬ k = 1) (h2 : ¬ k = 2) (h3 : ¬ k = 3) (h4 : ¬ k = 4) : formF k s = (s, ((decide (1 ≤ s.length) && decide (s.length ≤ 100)) && text s) && decide (trim s = s)) := by unfold formF; rw [if_neg h1, if_neg h2, if_neg (by omega)]

def validV (k : Int) (l : List Str) : Bool := (decide (1 ≤ l.length) && decide (l.length ≤ 16)) && distB (fun s => (formF k s).2) (fun a b => decide ((formF k b).1 = (formF k a).1)) [] l l.length
def validA (a : Axs) : Bool := (token a.1 && decide (lower a.1 = a.1)) && validV (kindF a.1) a.2
def validL (l : List Axs) : Bool := (decide (1 ≤ l.length) && decide (l.length ≤ 4)) && distB validA (fun a b => decide (a.1 = b.1)) ([], []) l l.length

/-! ### Values in parentheses -/
def spB (c : UInt8) : Bool := decide (c = 32)
def gsigns : Str := [32, 9, 40, 41, 44, 34]
def bareB (c : UInt8) : Bool := !gsigns.any (fun x => decide (x = c))
def bareLen (s : Str) : Nat := s.findIdx (fun c => !bareB c)
def quoGo : Nat → Str → Nat
  | _, [] => 0
  | n, [b] => if b = 34 then n + 1 else 0
  | n, b :: x :: r => if b = 92 then quoGo (n + 2) r else if b = 34 then n + 1 else quoGo (n + 1) (x :: r)
def quoLen (s : Str) : Nat := quoGo 1 (s.drop 1)
def pieceLen (s : Str) : Nat := if s.getD 0 0 = 34 then quoLen s else bareLen s
def pieceVal (s : Str) : Option Str :=
  if pieceLen s = 0 ∨ (pieceLen s < s.length ∧ ¬ s.getD (pieceLen s) 0 = 32) then none
  else if s.getD 0 0 = 34 then (if (unq (s.take (pieceLen s))).2 = true then some (unq (s.take (pieceLen s))).1 else none) else some (s.take (pieceLen s))
def readGo : Nat → List Str → Str → Option (List Str)
  | 0, _, _ => none
  | f + 1, acc, s => if trimL spB s = [] then some acc else match pieceVal (trimL spB s) with
    | none => none
    | some v => readGo f (acc ++ [v]) ((trimL spB s).drop (pieceLen (trimL spB s)))
def readF (s : Str) : List Str × Bool :=
  if s.length < 2 ∨ ¬ s.getD 0 0 = 40 ∨ ¬ s.getD (s.length - 1) 0 = 41 then ([], false)
  else ((readGo s.length [] ((s.take (s.length - 1)).drop 1)).getD [], (readGo s.length [] ((s.take (s.length - 1)).drop 1)).isSome)
def visB (c : UInt8) : Bool := decide (33 ≤ c) && decide (c ≤ 126)
def plainB (s : Str) : Bool := s.all (fun c => visB c && bareB c) && !decide (s = [])
def writeV (s : Str) : Str := if plainB s = true then s else quote s
def writeF (l : List Str) : Str := ([40] ++ joinS [32] (l.map writeV)) ++ [41]

/-! ### The first element of a kind -/
def idxP {α : Type} (q : α → Bool) (l : List α) : Int := if l.findIdx q < l.length then (l.findIdx q : Int) else -1
theorem idxP_hit {α : Type} {q : α → Bool} {l : List α} {i : Nat} {dd : α} (h : i < l.length) (h0 : (l.take i).any q = false) (h1 : q (l.getD i dd) = true) : idxP q l = (i : Int) := by
  have e : l.findIdx q = i := by
    rw [List.findIdx_eq h]
    rw [getD_get h] at h1
    refine ⟨h1, fun j hj => ?_⟩
    have := List.any_eq_false.1 h0 l[j] (List.mem_take_iff_getElem.2 ⟨j, by omega, rfl⟩)
    simpa using this
  rw [idxP, e, if_pos h]
theorem idxP_none {α : Type} {q : α → Bool} {l : List α} (h : l.any q = false) : idxP q l = -1 := by
  rw [idxP, if_neg]
  intro e
  have := List.findIdx_lt_length.1 e
  obtain ⟨x, hx, h1⟩ := this
  exact absurd h1 (by simpa using List.any_eq_false.1 h x hx)
theorem idxP_ge {α : Type} (q : α → Bool) (l : List α) : decide ((0 : Int) ≤ idxP q l) = l.any q := by
  unfold idxP
  cases h : l.any q with
  | true =>
    have : l.findIdx q < l.length := List.findIdx_lt_length.2 (by simpa using h)
    rw [if_pos this]; simp
  | false =>
    have : ¬ l.findIdx q < l.length := fun e => by
      obtain ⟨x, hx, h1⟩ := List.findIdx_lt_length.1 e
      exact absurd h1 (by simpa using List.any_eq_false.1 h x hx)
    rw [if_neg this]; simp

/-! ### The first byte out of a list of signs, rune by rune -/
def idxR (r : Int) : Int := if 0 ≤ r ∧ r < 128 then idx gsigns (UInt8.ofNat r.toNat) else -1

/-! ### The fields -/
def sVariants : Str := [86, 97, 114, 105, 97, 110, 116, 115]
def sVariantKey : Str := [86, 97, 114, 105, 97, 110, 116, 45, 75, 101, 121]
def axisT (a : Axs) : Str := (a.1 ++ [61]) ++ writeF a.2
def axesT (l : List Axs) : Str := joinS [44, 32] (l.map axisT)
def formatV (l : List Axs) : Str := if validL l = true then axesT l else []
def axOne (m : Str) : Option Axs :=
  if (pos m 61 < m.length ∧ token (m.take (pos m 61)) = true) ∧ (readF (m.drop (pos m 61 + 1))).2 = true then some (lower (m.take (pos m 61)), (readF (m.drop (pos m 61 + 1))).1) else none
def axsGo : List Axs → List Str → Option (List Axs)
  | acc, [] => some acc
  | acc, m :: r => match axOne m with
    | none => none
    | some a => axsGo (acc ++ [a]) r
def parseV (l : List Fld) : List Axs × Int :=
  if (getF l sVariants).length = 0 then ([], 12) else match axsGo [] (allF l sVariants) with
    | none => ([], 1)
    | some out => if validL out = true then (out, 0) else ([], 11)

end Go.Plain

namespace Go.Plain
open Go Go.Sep
set_option linter.unusedSimpArgs false
set_option linter.unusedVariables false

def sgB (c : UInt8) : Bool := !bareB c
/-! ### Runes of more than one byte, as text -/
end Go.Plain

namespace Go.Plain
open Go Go.Sep
set_option linter.unusedSimpArgs false
set_option linter.unusedVariables false

/-! ### The quoted string at the beginning -/
section quo
variable {s : Str} {i X : Nat}
end quo
/-! ### Reading -/
section go
variable {t u : Str} {acc : List Str} {X : Option (List Str)} {f : Nat}
end go

/-! ### Reading by places -/
section at_
variable {s : Str} {acc : List Str} {X : Option (List Str)} {f i : Nat}
end at_

/-! ### Writing -/
theorem plain_byte (c : UInt8) : ((decide (c < 33) || decide (126 < c)) || decide ((0 : Int) ≤ idx [40, 41, 44, 34] c)) = !(visB c && bareB c) := by
  have := all_u8 (fun c => (((decide (c < 33) || decide (126 < c)) || decide ((0 : Int) ≤ idx [40, 41, 44, 34] c)) == !(visB c && bareB c))) (by decide +kernel) c
  simpa using this
theorem writeV_length (s : Str) : (writeV s).length ≤ 2 * s.length + 2 := by
  unfold writeV; split
  · omega
  · exact quote_length s
theorem mapS_step {f : Str → Str} {l : List Str} {i : Nat} (h : i < l.length) : (l.take (i + 1)).map f = (l.take i).map f ++ [f (l.getD i [])] := by
  rw [List.take_succ_eq_append_getElem h, List.map_append, getD_get h]; rfl
theorem joinS_len {n k : Nat} {sep : Str} (hs : sep.length ≤ k) : ∀ {X : List Str}, (∀ y ∈ X, y.length ≤ n) → (joinS sep X).length ≤ X.length * (n + k)
  | [], _ => by simp [joinS]
  | x :: r, h => by
    rw [joinS_flat, List.length_append, List.length_cons]
    have h1 := h x (by simp)
    have h2 : ∀ (r : List Str), (∀ y ∈ r, y.length ≤ n) → (r.flatMap (fun y => sep ++ y)).length ≤ r.length * (n + k) := by
      intro r
      induction r with
      | nil => intro _; simp
      | cons y r ih =>
        intro h
        rw [List.flatMap_cons, List.length_append, List.length_cons, List.length_append, Nat.add_mul]
        have := h y (by simp)
        have := ih (fun z hz => h z (by simp [hz]))
        omega
    have := h2 r (fun y hy => h y (by simp [hy]))
    rw [Nat.add_mul]; omega
theorem writeF_length {l : List Str} {n : Nat} (h : ∀ x ∈ l, x.length ≤ n) : (writeF l).length ≤ l.length * (2 * n + 3) + 2 := by
  have := joinS_len (n := 2 * n + 2) (k := 1) (sep := [32]) (Nat.le_refl _) (X := l.map writeV) (fun y hy => by
    obtain ⟨x, hx, rfl⟩ := List.mem_map.1 hy
    have := writeV_length x; have := h x hx; omega)
  rw [List.length_map, show 2 * n + 2 + 1 = 2 * n + 3 from rfl] at this
  unfold writeF
  simp only [List.length_append, List.length_cons, List.length_nil]
  omega
end Go.Plain

namespace Go.Plain
open Go Go.Sep
set_option linter.unusedSimpArgs false
set_option linter.unusedVariables false

theorem parOk_step (l : List Prm) (n : Nat) : parOk l (n + 1) = (parOk l n && (!decide ((l.getD n ([], [])).1 = [113]) && !(l.take n).any (fun x => decide (x.1 = (l.getD n ([], [])).1)))) := dist_step
theorem any_swap {l : List Prm} {p : Prm} : (l.any fun x => decide (p.1 = x.1)) = l.any fun x => decide (x.1 = p.1) := by
  congr 1; funext x; exact decide_eq_decide.2 eq_comm
theorem form0 {k : Int} {s : Str} (h1 : ¬ k = 1) (h2 : ¬ k = 2) (h3 : ¬ (k = 3 ∨ k = 4)) : formF k s = formF 0 s := by
  rw [form5 h1 h2 (by omega) (by omega), form5 (by decide) (by decide) (by decide) (by decide)]

/-! ### What was seen -/
theorem seen_look {g : Str → Str} {k : Str} : ∀ L : List Str, lookS (L.map fun s => (g s, true)) k = if (L.any fun b => decide (g b = k)) = true then some true else none
  | [] => rfl
  | x :: L => by
    rw [List.map_cons, lookS, List.any_cons, seen_look L]
    by_cases h : k = g x
    · subst h; simp
    · rw [if_neg h, decide_eq_false (fun e => h e.symm), Bool.false_or]
theorem seen_yes {ms : List (Str × Bool)} {g : Str → Str} {k : Str} {L : List Str} (e : ms = L.map fun s => (g s, true)) : (lookS ms k).getD false = L.any fun b => decide (g b = k) := by
  rw [e, seen_look]; cases L.any fun b => decide (g b = k) <;> simp
theorem seen_new {ms : List (Str × Bool)} {g : Str → Str} {k : Str} {L : List Str} (e : ms = L.map fun s => (g s, true)) (h : (lookS ms k).getD false = false) : lookS ms k = none := by
  rw [seen_yes e] at h
  rw [e, seen_look, h]; simp
theorem mapT_step {β : Type} {g : Str → β} {L : List Str} {i : Nat} (h : i < L.length) : (L.take (i + 1)).map g = (L.take i).map g ++ [g (L.getD i [])] := by
  rw [List.take_succ_eq_append_getElem h, List.map_append, getD_get h]; rfl

/-! ### Same, Value -/
theorem same_fold {axis a b : Str} (h : kindF axis = 1 ∨ kindF axis = 2) : sameF axis a b = fold a b := by
  have e : ∀ s, (formF (kindF axis) s).1 = lower s := fun s => by
    rcases h with h | h
    · rw [form1 h]
    · rw [form2 (by omega) h]
  rw [sameF, e, e]
  by_cases hl : lower a = lower b
  · rw [decide_eq_true hl, fold_iff.2 hl]
  · rw [decide_eq_false hl, fold_false.2 hl]
theorem same_canon {axis a b : Str} (h : kindF axis = 3 ∨ kindF axis = 4) : sameF axis a b = decide (canonical (kindF axis) a = canonical (kindF axis) b) := by
  rw [sameF, form3 (by omega) (by omega) h, form3 (by omega) (by omega) h]
theorem same_id {axis a b : Str} (h1 : ¬ kindF axis = 1) (h2 : ¬ kindF axis = 2) (h3 : ¬ kindF axis = 3) (h4 : ¬ kindF axis = 4) : sameF axis a b = decide (a = b) := by
  rw [sameF, form5 h1 h2 h3 h4, form5 h1 h2 h3 h4]
theorem same_comm (axis a b : Str) : sameF axis a b = sameF axis b a := by unfold sameF; exact decide_eq_decide.2 eq_comm
theorem same_alt {axis a : Str} {L : List Str} : (L.any fun b => sameF axis a b) = L.any fun b => decide ((formF (kindF axis) b).1 = (formF (kindF axis) a).1) := by
  congr 1; funext b; rw [same_comm]; rfl

/-! ### Lists of axes -/
theorem validV_no {k : Int} {l : List Str} (h : l.length < 1 ∨ 16 < l.length) : validV k l = false := by
  unfold validV
  rcases h with h | h
  · rw [decide_eq_false (show ¬ 1 ≤ l.length by omega)]; rfl
  · rw [decide_eq_false (show ¬ l.length ≤ 16 by omega)]; simp
theorem validV_yes {k : Int} {l : List Str} (h : 1 ≤ l.length ∧ l.length ≤ 16) : validV k l = distB (fun s => (formF k s).2) (fun a b => decide ((formF k b).1 = (formF k a).1)) [] l l.length := by
  unfold validV
  rw [decide_eq_true h.1, decide_eq_true h.2]; rfl
theorem validL_no {l : List Axs} (h : l.length < 1 ∨ 4 < l.length) : validL l = false := by
  unfold validL
  rcases h with h | h
  · rw [decide_eq_false (show ¬ 1 ≤ l.length by omega)]; rfl
  · rw [decide_eq_false (show ¬ l.length ≤ 4 by omega)]; simp
theorem validL_yes {l : List Axs} (h : 1 ≤ l.length ∧ l.length ≤ 4) : validL l = distB validA (fun a b => decide (a.1 = b.1)) ([], []) l l.length := by
  unfold validL
  rw [decide_eq_true h.1, decide_eq_true h.2]; rfl
theorem dist_done {α : Type} {ok : α → Bool} {eqv : α → α → Bool} {dd : α} {l : List α} {i : Nat} (hi : i ≤ l.length) (h : l.length ≤ i) (e : distB ok eqv dd l i = true) : distB ok eqv dd l l.length = true := by
  rw [show l.length = i by omega]; exact e
theorem validL_len {l : List Axs} (h : validL l = true) : 1 ≤ l.length ∧ l.length ≤ 4 := by
  unfold validL at h
  simp only [Bool.and_eq_true, decide_eq_true_eq] at h
  exact h.1
theorem drop0 {α : Type} {l : List α} : l.drop 0 = l := List.drop_zero

/-! ### Fields -/
section
variable {M : List Str} {acc : List Axs} {X : Option (List Axs)} {i : Nat}
end
/-! ### Bounds -/
def okA (a : Axs) : Bool := !(decide (100 < a.1.length) || !keepS a.2)
def keepA (l : List Axs) : Bool := (l.take 7).all okA && decide (l.length ≤ 6)
theorem keepA_len {l : List Axs} (h : keepA l = true) : l.length ≤ 6 := by
  unfold keepA at h; simp only [Bool.and_eq_true, decide_eq_true_eq] at h; exact h.2
theorem keepA_mem {l : List Axs} (h : keepA l = true) : ∀ a ∈ l, a.1.length ≤ 100 ∧ a.2.length ≤ 20 ∧ ∀ x ∈ a.2, x.length ≤ 100 := fun a ha => by
  have hl := keepA_len h
  unfold keepA at h
  simp only [Bool.and_eq_true, decide_eq_true_eq] at h
  have h1 := List.all_eq_true.1 h.1 a (by rw [List.take_of_length_le (by omega)]; exact ha)
  unfold okA at h1
  simp only [Bool.not_eq_true', Bool.or_eq_false_iff, decide_eq_false_iff_not, Bool.not_eq_false'] at h1
  exact ⟨by omega, keepS_len h1.2, keepS_mem h1.2⟩
def smallA (l : List Axs) : Prop := l.length ≤ 1000 ∧ ∀ a ∈ l, a.1.length ≤ 2000 ∧ a.2.length ≤ 1000000 ∧ ∀ x ∈ a.2, x.length ≤ 9000
end Go.Plain

namespace Go.Plain
open Go Go.Sep
set_option linter.unusedSimpArgs false
set_option linter.unusedVariables false

theorem validA_no {a : Axs} (h : ((token a.1 = false ∨ ¬ lower a.1 = a.1) ∨ a.2.length < 1) ∨ 16 < a.2.length) : validA a = false := by
  unfold validA
  rcases h with ((h | h) | h) | h
  · rw [h]; rfl
  · rw [decide_eq_false h]; simp
  · rw [validV_no (.inl h)]; simp
  · rw [validV_no (.inr h)]; simp
theorem validA_yes {a : Axs} (h : ((token a.1 = true ∧ lower a.1 = a.1) ∧ ¬ a.2.length < 1) ∧ ¬ 16 < a.2.length) : validA a = distB (fun s => (formF (kindF a.1) s).2) (fun x y => decide ((formF (kindF a.1) y).1 = (formF (kindF a.1) x).1)) [] a.2 a.2.length := by
  unfold validA
  rw [h.1.1.1, decide_eq_true h.1.1.2, validV_yes (by omega)]; rfl
theorem value_1 {axis s : Str} (h : kindF axis = 1) : valueF axis s = ((parseT s).2 && parOk (parseT s).1.2.2 (parseT s).1.2.2.length) := by rw [valueF, form1 h]
theorem value_2 {axis s : Str} (h : kindF axis = 2) : valueF axis s = tagF s := by rw [valueF, form2 (by omega) h]
theorem value_3 {axis s : Str} (h : kindF axis = 3 ∨ kindF axis = 4) : valueF axis s = (token s && !decide (s = [42])) := by rw [valueF, form3 (by omega) (by omega) h]
theorem value_5 {axis s : Str} (h1 : ¬ kindF axis = 1) (h2 : ¬ kindF axis = 2) (h3 : ¬ kindF axis = 3) (h4 : ¬ kindF axis = 4) : valueF axis s = (((decide (1 ≤ s.length) && decide (s.length ≤ 100)) && text s) && decide (trim s = s)) := by rw [valueF, form5 h1 h2 h3 h4]
end Go.Plain

namespace Go.Plain
open Go Go.Sep
set_option linter.unusedSimpArgs false
set_option linter.unusedVariables false

/-! ### Values are texts -/
theorem pos_get {s : Str} {c : UInt8} (h : pos s c < s.length) : s.getD (pos s c) 0 = c := by
  rw [getD_get h]
  exact of_decide_eq_true (List.findIdx_getElem (p := fun y => decide (y = c)) (w := h))
theorem inner_wrap (a b : UInt8) (J : Str) : ((([a] ++ J) ++ [b]).take ((([a] ++ J) ++ [b]).length - 1)).drop 1 = J := by
  have e : (([a] ++ J) ++ [b]).length - 1 = ([a] ++ J).length := by simp
  rw [e, List.take_left' rfl]; rfl
/-! ### Reading what was written -/
def tailW (r : List Str) : Str := r.flatMap fun v => 32 :: writeV v
/-! ### Axes -/
theorem valid_all {l : List Axs} (h : validL l = true) : ∀ a ∈ l, validA a = true := fun a ha => by
  unfold validL at h
  simp only [Bool.and_eq_true] at h
  obtain ⟨i, hi, rfl⟩ := List.getElem_of_mem ha
  have := (dist_at h.2 hi).1
  rwa [getD_get hi] at this
end Go.Plain

namespace Go.Plain
open Go Go.Sep
set_option linter.unusedSimpArgs false
set_option linter.unusedVariables false

def letB (c : UInt8) : Bool := (decide (65 ≤ c) && decide (c ≤ 90)) || (decide (97 ≤ c) && decide (c ≤ 122))
theorem let_lower (b : UInt8) : letB (lowerB b) = letB b := by
  have := all_u8 (fun b => letB (lowerB b) == letB b) (by decide +kernel) b
  simpa using this
theorem lower_nolet {b : UInt8} (h : letB b = false) : lowerB b = b := by
  have := all_u8 (fun b => letB b || decide (lowerB b = b)) (by decide +kernel) b
  rw [h] at this; simpa using this
theorem lowerB_iff {c : UInt8} (hc : letB c = false) (b : UInt8) : lowerB b = c ↔ b = c := by
  cases h : letB b with
  | false => rw [lower_nolet h]
  | true =>
    constructor
    · intro e; have := let_lower b; rw [e, hc, h] at this; cases this
    · intro e; rw [e, hc] at h; cases h
theorem blank_lower (b : UInt8) : blankB (lowerB b) = blankB b := by
  have := all_u8 (fun b => blankB (lowerB b) == blankB b) (by decide +kernel) b
  simpa using this
theorem text_lowerB (b : UInt8) : textB (lowerB b) = textB b := by
  have := all_u8 (fun b => textB (lowerB b) == textB b) (by decide +kernel) b
  simpa using this
theorem lower_app (a b : Str) : lower (a ++ b) = lower a ++ lower b := by simp [lower]
theorem lower_cons (b : UInt8) (r : Str) : lower (b :: r) = lowerB b :: lower r := rfl
theorem lower_take (s : Str) (n : Nat) : lower (s.take n) = (lower s).take n := by simp [lower, List.map_take]
theorem lower_drop (s : Str) (n : Nat) : lower (s.drop n) = (lower s).drop n := by simp [lower, List.map_drop]
theorem lower_nil {s : Str} : lower s = [] ↔ s = [] := by cases s <;> simp [lower]
theorem lower_getD (s : Str) (i : Nat) : (lower s).getD i 0 = lowerB (s.getD i 0) := by
  unfold lower
  rw [List.getD_eq_getElem?_getD, List.getD_eq_getElem?_getD, List.getElem?_map]
  cases s[i]? <;> rfl
theorem pos_lower {c : UInt8} (hc : letB c = false) (s : Str) : pos (lower s) c = pos s c := by
  unfold pos lower
  rw [List.findIdx_map]
  congr 1
  funext b
  exact decide_eq_decide.2 (lowerB_iff hc b)
theorem dropWhile_lower {p : UInt8 → Bool} (hp : ∀ b, p (lowerB b) = p b) : ∀ s : Str, (lower s).dropWhile p = lower (s.dropWhile p)
  | [] => rfl
  | b :: s => by
    rw [lower_cons, List.dropWhile_cons, List.dropWhile_cons, hp]
    cases p b with
    | true => exact dropWhile_lower hp s
    | false => rfl
theorem trim_lower (s : Str) : trim (lower s) = lower (trim s) := by
  unfold trim trimL trimR
  have hr : ∀ s : Str, (lower s).reverse = lower s.reverse := fun s => by simp [lower]
  rw [hr, dropWhile_lower blank_lower, hr, dropWhile_lower blank_lower]
theorem cutGo_lower {c : UInt8} (hc : letB c = false) : ∀ (s : Str) (st : Nat) (cur : Str), cutGo c st (lower cur) (lower s) = (cutGo c st cur s).map lower
  | [], st, cur => rfl
  | b :: s, st, cur => by
    have h92 := lowerB_iff (c := 92) (by decide) b
    have h34 := lowerB_iff (c := 34) (by decide) b
    have hcc := lowerB_iff hc b
    have e : lower cur ++ [lowerB b] = lower (cur ++ [b]) := by rw [lower_app]; rfl
    rw [lower_cons, cutGo, cutGo]
    simp only [h92, h34, hcc, e]
    split
    · exact cutGo_lower hc s _ _
    · split
      · split
        · exact cutGo_lower hc s _ _
        · split <;> exact cutGo_lower hc s _ _
      · split
        · exact cutGo_lower hc s _ _
        · split
          · rw [List.map_cons]; congr 1; exact cutGo_lower hc s 0 []
          · exact cutGo_lower hc s _ _
theorem cutF_lower {c : UInt8} (hc : letB c = false) (s : Str) : cutF (lower s) c = (cutF s c).map lower := cutGo_lower hc s 0 []
theorem unqGo_lower : ∀ (t acc : Str), unqGo (lower acc) (lower t) = (unqGo acc t).map lower
  | [], acc => rfl
  | [b], acc => by
    have h92 := lowerB_iff (c := 92) (by decide) b
    have h34 := lowerB_iff (c := 34) (by decide) b
    rw [lower_cons, show lower [] = [] from rfl, unqGo, unqGo]
    simp only [h92, h34, text_lowerB]
    split
    · rfl
    · split
      · rfl
      · split
        · simp [lower]
        · rfl
  | b :: x :: r, acc => by
    have h92 := lowerB_iff (c := 92) (by decide) b
    have h34 := lowerB_iff (c := 34) (by decide) b
    have e : ∀ y, lower acc ++ [lowerB y] = lower (acc ++ [y]) := fun y => by rw [lower_app]; rfl
    rw [lower_cons, lower_cons, unqGo, unqGo]
    simp only [h92, h34, text_lowerB, e]
    split
    · rfl
    · split
      · split
        · exact unqGo_lower r _
        · rfl
      · split
        · exact unqGo_lower (x :: r) _
        · rfl
theorem inner_lower (s : Str) : inner (lower s) = lower (inner s) := by
  unfold inner; rw [lower_length, lower_drop, lower_take]
theorem unq_lower (s : Str) : unq (lower s) = (lower (unq s).1, (unq s).2) := by
  unfold unq
  simp only [lower_length, lower_getD, lowerB_iff (c := 34) (by decide), inner_lower]
  have := unqGo_lower (inner s) []
  rw [show lower [] = [] from rfl] at this
  split
  · rw [this]; cases unqGo [] (inner s) <;> rfl
  · rfl
def lowV (p : Prm) : Prm := (p.1, lower p.2)
theorem one_lower (x : Str) : oneP (lower x) = ((oneP x).1, lower (oneP x).2.1, (oneP x).2.2) := by
  have hp := pos_lower (c := 61) (by decide) x
  by_cases h : pos x 61 < x.length
  · have h' : pos (lower x) 61 < (lower x).length := by rw [hp, lower_length]; exact h
    by_cases ht : token (x.take (pos x 61)) = true
    · have ht' : token ((lower x).take (pos (lower x) 61)) = true := by rw [hp, ← lower_take, token_lower]; exact ht
      have ev : (lower x).drop (pos (lower x) 61 + 1) = lower (x.drop (pos x 61 + 1)) := by rw [hp, lower_drop]
      have en : (lower x).take (pos (lower x) 61) = lower (x.take (pos x 61)) := by rw [hp, lower_take]
      by_cases hv : token (x.drop (pos x 61 + 1)) = true
      · rw [one_tok h' ht' (by rw [ev, token_lower]; exact hv), one_tok h ht hv, ev, en, lower_idem]
      · rw [one_unq h' ht' (by rw [ev, token_lower]; simpa using hv), one_unq h ht (by simpa using hv), ev, en, lower_idem, unq_lower]
    · have ht' : token ((lower x).take (pos (lower x) 61)) = false := by rw [hp, ← lower_take, token_lower]; simpa using ht
      rw [one_bad ht', one_bad (by simpa using ht)]; rfl
  · rw [one_no (by rw [hp, lower_length]; exact h), one_no h]; rfl
theorem pars_lower : ∀ (X : List Str) (acc : List Prm), parsGo (acc.map lowV) (X.map lower) = (parsGo acc X).map (·.map lowV)
  | [], acc => rfl
  | x :: X, acc => by
    rw [List.map_cons, parsGo, parsGo, trim_lower]
    have hn : lower (trim x) = [] ↔ trim x = [] := lower_nil
    by_cases hb : trim x = []
    · rw [if_pos (hn.2 hb), if_pos hb]; exact pars_lower X acc
    · rw [if_neg (fun e => hb (hn.1 e)), if_neg hb, one_lower]
      dsimp only
      split
      · have := pars_lower X (acc ++ [((oneP (trim x)).1, (oneP (trim x)).2.1)])
        rw [List.map_append] at this; exact this
      · rfl
theorem headD_map (X : List Str) : (X.map lower).getD 0 [] = lower (X.getD 0 []) := by cases X <;> rfl
theorem parseP_lower (s : Str) : parseP (lower s) = (lower (parseP s).1, (parseP s).2.1.map lowV, (parseP s).2.2) := by
  unfold parseP
  rw [cutF_lower (by decide), headD_map, trim_lower, ← List.map_drop]
  have := pars_lower ((cutF s 59).drop 1) []
  rw [show ([] : List Prm).map lowV = [] from rfl] at this
  rw [this]
  by_cases hb : trim ((cutF s 59).getD 0 []) = []
  · rw [if_pos (lower_nil.2 hb), if_pos hb]; rfl
  · rw [if_neg (fun e => hb (lower_nil.1 e)), if_neg hb]
    cases parsGo [] ((cutF s 59).drop 1) <;> rfl
theorem okRange_lower (v : Str) : okRange (lower v) = okRange v := by
  unfold okRange
  rw [pos_lower (by decide), ← lower_take, ← lower_drop, token_lower, token_lower, decide_eq_decide.2 (lower_eq_star _), decide_eq_decide.2 (lower_eq_star _)]
theorem parseR_lower (s : Str) : parseR (lower s) = (((parseR s).1.1, (parseR s).1.2.1, (parseR s).1.2.2.map lowV), (parseR s).2) := by
  have hP := parseP_lower s
  by_cases h : (parseP s).2.2 = false ∨ okRange (parseP s).1 = false
  · rw [parseR_no h, parseR_no (by rw [hP]; dsimp only; rw [okRange_lower]; exact h)]; rfl
  · have h1 : (parseP s).2.2 = true := by cases h9 : (parseP s).2.2; exact absurd (.inl h9) h; rfl
    have h2 : okRange (parseP s).1 = true := by cases h9 : okRange (parseP s).1; exact absurd (.inr h9) h; rfl
    rw [parseR_yes h1 h2, parseR_yes (by rw [hP]; exact h1) (by rw [hP]; dsimp only; rw [okRange_lower]; exact h2), hP]
    dsimp only
    rw [pos_lower (by decide), ← lower_take, ← lower_drop, lower_idem, lower_idem]
theorem kindF_cases (s : Str) : kindF s = 0 ∨ kindF s = 1 ∨ kindF s = 2 ∨ kindF s = 3 ∨ kindF s = 4 := by
  unfold kindF
  split
  · simp
  · split
    · simp
    · split
      · simp
      · split <;> simp
theorem same_self (axis x : Str) : sameF axis x x = true := decide_eq_true rfl
end Go.Plain
