/-
  Plain functions of the axes of Variants: values, lists of axes, lists of values in parentheses. No program in sight.
  Plain laws of runes: what is read at a byte, and that no byte of a longer rune is a sign. No program in sight.
  Plain laws for reading and writing values in parentheses, step by step. No program in sight.
  Plain laws of the axes of Variants, step by step. No program in sight.
  Plain laws of the axes of Variants, as the reference asks them. No program in sight.
  Plain law: the text of a valid list of axes is read as this list. No program in sight.
  Plain laws: how reading goes along with lower case; values of an axis and their lower case. No program in sight.
-/
import Derived.Test.YtgahnjchpomcfaaGreatDoorYLawA
import Derived.Test.YtgahnjchpomcfaaGreatDoorYSep2
namespace Go.Plain
open Go
set_option linter.unusedSimpArgs false
set_option linter.unusedVariables false

abbrev Axs := Str × List Str

/-! ### Lists whose elements are all fine and all different -/
section dist
variable {α : Type} {ok : α → Bool} {eqv : α → α → Bool} {dd : α} {l : List α} {n i : Nat}
def distB (ok : α → Bool) (eqv : α → α → Bool) (dd : α) (l : List α) (n : Nat) : Bool := (List.range n).all (fun i => ok (l.getD i dd) && !(l.take i).any (eqv (l.getD i dd)))
theorem dist_step : distB ok eqv dd l (n + 1) = (distB ok eqv dd l n && (ok (l.getD n dd) && !(l.take n).any (eqv (l.getD n dd)))) := by
  unfold distB; rw [List.range_succ, List.all_append]; simp
theorem dist_bad (h : i < n) (h2 : ok (l.getD i dd) = false ∨ (l.take i).any (eqv (l.getD i dd)) = true) : distB ok eqv dd l n = false := by
  unfold distB
  rw [List.all_eq_false]
  exact ⟨i, List.mem_range.2 h, by rcases h2 with h2 | h2 <;> rw [h2] <;> simp⟩
theorem dist_go (h : distB ok eqv dd l n = true) (h1 : ok (l.getD n dd) = true) (h2 : (l.take n).any (eqv (l.getD n dd)) = false) : distB ok eqv dd l (n + 1) = true := by rw [dist_step, h, h1, h2]; rfl
theorem dist_at (h : distB ok eqv dd l n = true) (hi : i < n) : ok (l.getD i dd) = true ∧ (l.take i).any (eqv (l.getD i dd)) = false := by
  unfold distB at h
  have := List.all_eq_true.1 h i (List.mem_range.2 hi)
  simpa using this
theorem any_of {p : α → Bool} {k : Nat} (hk : k < l.length) (hki : k < i) (h : p (l.getD k dd) = true) : (l.take i).any p = true := by
  rw [List.any_eq_true]
  refine ⟨l.getD k dd, ?_, h⟩
  rw [getD_get hk, List.mem_take_iff_getElem]
  exact ⟨k, by omega, rfl⟩
end dist

/-! ### Values of an axis -/
def parOk (l : List Prm) (n : Nat) : Bool := distB (fun p => !decide (p.1 = [113])) (fun p x => decide (x.1 = p.1)) ([], []) l n
def formF (k : Int) (s : Str) : Str × Bool :=
  if k = 1 then (lower s, (parseT s).2 && parOk (parseT s).1.2.2 (parseT s).1.2.2.length)
  else if k = 2 then (lower s, tagF s)
  else if k = 3 ∨ k = 4 then (canonical k s, token s && !decide (s = [42]))
  else (s, ((decide (1 ≤ s.length) && decide (s.length ≤ 100)) && text s) && decide (trim s = s))
def valueF (axis s : Str) : Bool := (formF (kindF axis) s).2
def sameF (axis a b : Str) : Bool := decide ((formF (kindF axis) a).1 = (formF (kindF axis) b).1)
theorem form1 {k : Int} {s : Str} (h : k = 1) : formF k s = (lower s, (parseT s).2 && parOk (parseT s).1.2.2 (parseT s).1.2.2.length) := if_pos h
theorem form2 {k : Int} {s : Str} (h1 : ¬ k = 1) (h : k = 2) : formF k s = (lower s, tagF s) := by unfold formF; rw [if_neg h1, if_pos h]
theorem form3 {k : Int} {s : Str} (h1 : ¬ k = 1) (h2 : ¬ k = 2) (h : k = 3 ∨ k = 4) : formF k s = (canonical k s, token s && !decide (s = [42])) := by unfold formF; rw [if_neg h1, if_neg h2, if_pos h]
theorem form5 {k : Int} {s : Str} (h1 : ¬ k = 1) (h2 : ¬ k = 2) (h3 : ¬ k = 3) (h4 : ¬ k = 4) : formF k s = (s, ((decide (1 ≤ s.length) && decide (s.length ≤ 100)) && text s) && decide (trim s = s)) := by unfold formF; rw [if_neg h1, if_neg h2, if_neg (by omega)]

def validV (k : Int) (l : List Str) : Bool := (decide (1 ≤ l.length) && decide (l.length ≤ 16)) && distB (fun s => (formF k s).2) (fun a b => decide ((formF k b).1 = (formF k a).1)) [] l l.length
def validA (a : Axs) : Bool := (token a.1 && decide (lower a.1 = a.1)) && validV (kindF a.1) a.2
def validL (l : List Axs) : Bool := (decide (1 ≤ l.length) && decide (l.length ≤ 4)) && distB validA (fun a b => decide (a.1 = b.1)) ([], []) l l.length

/-! ### Values in parentheses -/
def spB (c : UInt8) : Bool := decide (c = 32)
def gsigns : Str := [32, 9, 40, 41, 44, 34]
def bareB (c : UInt8) : Bool := !gsigns.any (fun x => decide (x = c))
def bareLen (s : Str) : Nat := s.findIdx (fun c => !bareB c)
def quoGo : Nat → Str → Nat
  | _, [] => 0
  | n, [b] => if b = 34 then n + 1 else 0
  | n, b :: x :: r => if b = 92 then quoGo (n + 2) r else if b = 34 then n + 1 else quoGo (n + 1) (x :: r)
def quoLen (s : Str) : Nat := quoGo 1 (s.drop 1)
def pieceLen (s : Str) : Nat := if s.getD 0 0 = 34 then quoLen s else bareLen s
def pieceVal (s : Str) : Option Str :=
  if pieceLen s = 0 ∨ (pieceLen s < s.length ∧ ¬ s.getD (pieceLen s) 0 = 32) then none
  else if s.getD 0 0 = 34 then (if (unq (s.take (pieceLen s))).2 = true then some (unq (s.take (pieceLen s))).1 else none) else some (s.take (pieceLen s))
def readGo : Nat → List Str → Str → Option (List Str)
  | 0, _, _ => none
  | f + 1, acc, s => if trimL spB s = [] then some acc else match pieceVal (trimL spB s) with
    | none => none
    | some v => readGo f (acc ++ [v]) ((trimL spB s).drop (pieceLen (trimL spB s)))
def readF (s : Str) : List Str × Bool :=
  if s.length < 2 ∨ ¬ s.getD 0 0 = 40 ∨ ¬ s.getD (s.length - 1) 0 = 41 then ([], false)
  else ((readGo s.length [] ((s.take (s.length - 1)).drop 1)).getD [], (readGo s.length [] ((s.take (s.length - 1)).drop 1)).isSome)
def visB (c : UInt8) : Bool := decide (33 ≤ c) && decide (c ≤ 126)
def plainB (s : Str) : Bool := s.all (fun c => visB c && bareB c) && !decide (s = [])
def writeV (s : Str) : Str := if plainB s = true then s else quote s
def writeF (l : List Str) : Str := ([40] ++ joinS [32] (l.map writeV)) ++ [41]

/-! ### The first element of a kind -/
def idxP {α : Type} (q : α → Bool) (l : List α) : Int := if l.findIdx q < l.length then (l.findIdx q : Int) else -1
theorem idxP_hit {α : Type} {q : α → Bool} {l : List α} {i : Nat} {dd : α} (h : i < l.length) (h0 : (l.take i).any q = false) (h1 : q (l.getD i dd) = true) : idxP q l = (i : Int) := by
  have e : l.findIdx q = i := by
    rw [List.findIdx_eq h]
    rw [getD_get h] at h1
    refine ⟨h1, fun j hj => ?_⟩
    have := List.any_eq_false.1 h0 l[j] (List.mem_take_iff_getElem.2 ⟨j, by omega, rfl⟩)
    simpa using this
  rw [idxP, e, if_pos h]
theorem idxP_none {α : Type} {q : α → Bool} {l : List α} (h : l.any q = false) : idxP q l = -1 := by
  rw [idxP, if_neg]
  intro e
  have := List.findIdx_lt_length.1 e
  obtain ⟨x, hx, h1⟩ := this
  exact absurd h1 (by simpa using List.any_eq_false.1 h x hx)
theorem idxP_ge {α : Type} (q : α → Bool) (l : List α) : decide ((0 : Int) ≤ idxP q l) = l.any q := by
  unfold idxP
  cases h : l.any q with
  | true =>
    have : l.findIdx q < l.length := List.findIdx_lt_length.2 (by simpa using h)
    rw [if_pos this]; simp
  | false =>
    have : ¬ l.findIdx q < l.length := fun e => by
      obtain ⟨x, hx, h1⟩ := List.findIdx_lt_length.1 e
      exact absurd h1 (by simpa using List.any_eq_false.1 h x hx)
    rw [if_neg this]; simp

/-! ### The first byte out of a list of signs, rune by rune -/
def idxR (r : Int) : Int := if 0 ≤ r ∧ r < 128 then idx gsigns (UInt8.ofNat r.toNat) else -1

/-! ### The fields -/
def sVariants : Str := [86, 97, 114, 105, 97, 110, 116, 115]
def sVariantKey : Str := [86, 97, 114, 105, 97, 110, 116, 45, 75, 101, 121]
def axisT (a : Axs) : Str := (a.1 ++ [61]) ++ writeF a.2
def axesT (l : List Axs) : Str := joinS [44, 32] (l.map axisT)
def formatV (l : List Axs) : Str := if validL l = true then axesT l else []
def axOne (m : Str) : Option Axs :=
  if (pos m 61 < m.length ∧ token (m.take (pos m 61)) = true) ∧ (readF (m.drop (pos m 61 + 1))).2 = true then some (lower (m.take (pos m 61)), (readF (m.drop (pos m 61 + 1))).1) else none
def axsGo : List Axs → List Str → Option (List Axs)
  | acc, [] => some acc
  | acc, m :: r => match axOne m with
    | none => none
    | some a => axsGo (acc ++ [a]) r
def parseV (l : List Fld) : List Axs × Int :=
  if (getF l sVariants).length = 0 then ([], 12) else match axsGo [] (allF l sVariants) with
    | none => ([], 1)
    | some out => if validL out = true then (out, 0) else ([], 11)

end Go.Plain

namespace Go.Plain
open Go Go.Sep
set_option linter.unusedSimpArgs false
set_option linter.unusedVariables false

theorem get_mk (s : Str) (i : Nat) : (⟨s.toArray⟩ : ByteArray).get! i = s.getD i 0 := by
  show s.toArray[i]! = _
  rw [List.getElem!_toArray, List.getElem!_eq_getElem?_getD, List.getD_eq_getElem?_getD]; rfl
theorem rune_ascii {s : Str} {p : Nat} (h : (s.getD p 0).toNat < 128) : runeAt s p = ((s.getD p 0).toNat : Nat) ∧ runeW s p = 1 := by
  unfold runeAt runeW Utf8.decode
  simp only [get_mk, Nat.add_zero, h, if_true, and_self]
/-- A rune of more than one byte, or no rune. -/
theorem rune_more {s : Str} {p : Nat} (hp : p < s.length) (h : 128 ≤ (s.getD p 0).toNat) : 128 ≤ runeAt s p ∧ 1 ≤ runeW s p ∧ p + runeW s p ≤ s.length ∧ ∀ j, j < runeW s p → 128 ≤ (s.getD (p + j) 0).toNat := by
  have hz : (⟨s.toArray⟩ : ByteArray).size = s.length := by simp [ByteArray.size]
  have hb : ∀ k, (s.getD (p + k) 0).toNat < 256 := fun k => (s.getD (p + k) 0).toNat_lt
  have hb0 := hb 0
  rw [Nat.add_zero] at hb0
  unfold runeAt runeW Utf8.decode
  simp only [get_mk, Nat.add_zero, hz]
  rw [if_neg (by omega)]
  have one : ∀ j, j < 1 → 128 ≤ (s.getD (p + j) 0).toNat := fun j hj => by rw [show j = 0 by omega, Nat.add_zero]; exact h
  have hE : Utf8.runeError = 65533 := rfl
  split
  · rename_i h2
    simp only [Bool.and_eq_true, beq_iff_eq, decide_eq_true_eq] at h2
    split
    · exact ⟨by dsimp only; omega, by dsimp only; omega, by dsimp only; omega, fun j hj => by dsimp only at hj; rcases (show j = 0 ∨ j = 1 by omega) with rfl | rfl; simpa using h; omega⟩
    · exact ⟨by dsimp only; rw [hE]; omega, by dsimp only; omega, by dsimp only; omega, one⟩
  · split
    · rename_i h2
      simp only [Bool.and_eq_true, beq_iff_eq, decide_eq_true_eq] at h2
      split
      · rename_i h3
        simp only [Bool.and_eq_true, decide_eq_true_eq] at h3
        exact ⟨by dsimp only; omega, by dsimp only; omega, by dsimp only; omega, fun j hj => by dsimp only at hj; rcases (show j = 0 ∨ j = 1 ∨ j = 2 by omega) with rfl | rfl | rfl; simpa using h; omega; omega⟩
      · exact ⟨by dsimp only; rw [hE]; omega, by dsimp only; omega, by dsimp only; omega, one⟩
    · split
      · rename_i h2
        simp only [Bool.and_eq_true, beq_iff_eq, decide_eq_true_eq] at h2
        split
        · rename_i h3
          simp only [Bool.and_eq_true, decide_eq_true_eq] at h3
          exact ⟨by dsimp only; omega, by dsimp only; omega, by dsimp only; omega, fun j hj => by dsimp only at hj; rcases (show j = 0 ∨ j = 1 ∨ j = 2 ∨ j = 3 by omega) with rfl | rfl | rfl | rfl; simpa using h; omega; omega; omega⟩
        · exact ⟨by dsimp only; rw [hE]; omega, by dsimp only; omega, by dsimp only; omega, one⟩
      · exact ⟨by dsimp only; rw [hE]; omega, by dsimp only; omega, by dsimp only; omega, one⟩

theorem rune_facts {s : Str} {p : Nat} (hp : p < s.length) : 1 ≤ runeW s p ∧ p + runeW s p ≤ s.length ∧ 0 ≤ runeAt s p := by
  by_cases h : (s.getD p 0).toNat < 128
  · have := rune_ascii h; omega
  · have := rune_more hp (by omega); omega

def sgB (c : UInt8) : Bool := !bareB c
theorem sg_set (c : UInt8) : (setOf gsigns).getD c.toNat false = sgB c := by
  have := all_u8 (fun c => (setOf gsigns).getD c.toNat false == sgB c) (by decide +kernel) c
  simpa using this
theorem sg_big {c : UInt8} (h : 128 ≤ c.toNat) : sgB c = false := by
  have := all_u8 (fun c => decide (c.toNat < 128) || !sgB c) (by decide +kernel) c
  simp only [Bool.or_eq_true, decide_eq_true_eq, Bool.not_eq_true'] at this
  rcases this with h2 | h2
  · omega
  · exact h2
theorem idxR_byte (c : UInt8) : c.toNat < 128 → decide (0 ≤ idxR ((c.toNat : Nat) : Int)) = sgB c := by
  have := all_u8 (fun c => !decide (c.toNat < 128) || (decide (0 ≤ idxR ((c.toNat : Nat) : Int)) == sgB c)) (by decide +kernel) c
  intro h
  simpa [h] using this
theorem idxR_big {r : Int} (h : 128 ≤ r) : idxR r = -1 := if_neg (by omega)
theorem idxR_small {r : Int} (h : 0 ≤ r ∧ r < 128) : idxR r = idx gsigns (UInt8.ofNat r.toNat) := if_pos h
theorem idxR_no {r : Int} (h : ¬ (0 ≤ r ∧ r < 128)) : idxR r = -1 := if_neg h

theorem any_ext {q : UInt8 → Bool} {s : Str} {p w : Nat} (h0 : (s.take p).any q = false) (hw : p + w ≤ s.length) (h : ∀ j, j < w → q (s.getD (p + j) 0) = false) : (s.take (p + w)).any q = false := by
  induction w with
  | zero => exact h0
  | succ w ih =>
    have h1 := ih (by omega) (fun j hj => h j (by omega))
    exact any_step (dd := 0) (show p + w < s.length by omega) h1 (h w (by omega))
theorem sg_miss {s : Str} {p : Nat} (hp : p < s.length) (h0 : (s.take p).any sgB = false) (h : ¬ 0 ≤ idxR (runeAt s p)) : p + runeW s p ≤ s.length ∧ (s.take (p + runeW s p)).any sgB = false := by
  by_cases hb : (s.getD p 0).toNat < 128
  · obtain ⟨h1, h2⟩ := rune_ascii hb
    rw [h1] at h
    have := idxR_byte _ hb
    rw [decide_eq_false h] at this
    rw [h2]
    exact ⟨by omega, any_step (dd := 0) hp h0 this.symm⟩
  · obtain ⟨h1, h2, h3, h4⟩ := rune_more hp (by omega)
    exact ⟨h3, any_ext h0 h3 fun j hj => sg_big (h4 j hj)⟩
theorem sg_hit {s : Str} {p : Nat} (hp : p < s.length) (h0 : (s.take p).any sgB = false) (h : 0 ≤ idxR (runeAt s p)) : idxP sgB s = (p : Int) := by
  by_cases hb : (s.getD p 0).toNat < 128
  · obtain ⟨h1, h2⟩ := rune_ascii hb
    rw [h1] at h
    have := idxR_byte _ hb
    rw [decide_eq_true h] at this
    exact idxP_hit hp h0 this.symm
  · obtain ⟨h1, h2, h3, h4⟩ := rune_more hp (by omega)
    rw [idxR_big h1] at h
    omega
theorem sg_none {s : Str} {p : Nat} (hp : s.length ≤ p) (h0 : (s.take p).any sgB = false) : idxP sgB s = -1 := idxP_none (any_end hp h0)
theorem gs_rune {p : Nat} (hp : p < gsigns.length) : runeAt gsigns p < 128 ∧ runeW gsigns p = 1 := by
  have hb : (gsigns.getD p 0).toNat < 128 := by
    have : ∀ k, k < 6 → (gsigns.getD k 0).toNat < 128 := by decide
    exact this p hp
  have := rune_ascii hb
  omega

/-! ### Runes of more than one byte, as text -/
theorem encR_facts {r : Int} (hv : validRune r = true) (h : 128 ≤ r) : 2 ≤ (encR r).length ∧ (encR r).length ≤ 4 ∧ 128 ≤ ((encR r).getD ((encR r).length - 1) 0).toNat := by
  rw [← validRune_eq] at hv
  obtain ⟨h1, h2, h3⟩ := encode_facts r hv h
  have hl : (encR r).length = (Utf8.encode r).size := by unfold encR; rw [Array.length_toList]; rfl
  have hlt : (Utf8.encode r).size - 1 < (Utf8.encode r).size := by omega
  refine ⟨by omega, by omega, ?_⟩
  have e : (encR r).getD ((encR r).length - 1) 0 = (Utf8.encode r)[(Utf8.encode r).size - 1]'hlt := by
    rw [getD_get (by omega)]
    simp only [hl]
    rfl
  rw [e]
  exact h3 hlt
theorem gs_ne {b : UInt8} (hb : 128 ≤ b.toNat) (i : Nat) : ¬ gsigns.getD i 0 = b := fun e => by
  have : ∀ k, k < 6 → (gsigns.getD k 0).toNat < 128 := by decide
  rcases Nat.lt_or_ge i 6 with h | h
  · have := this i h; rw [e] at this; omega
  · rw [List.getD_eq_getElem?_getD, List.getElem?_eq_none (show gsigns.length ≤ i from h)] at e
    rw [← e] at hb; exact absurd hb (by decide)
theorem gs_idx {b : UInt8} (hb : 128 ≤ b.toNat) (i : Nat) : idx (gsigns.drop i) b = -1 := by
  refine idx_none fun h => ?_
  unfold pos at h
  obtain ⟨x, hx, h1⟩ := List.findIdx_lt_length.1 h
  have hx2 := List.mem_of_mem_drop hx
  have : ∀ y ∈ gsigns, y.toNat < 128 := by decide
  have h3 := this x hx2
  simp only [decide_eq_true_eq] at h1
  subst h1
  omega

end Go.Plain

namespace Go.Plain
open Go Go.Sep
set_option linter.unusedSimpArgs false
set_option linter.unusedVariables false

theorem bare_some {s : Str} (h : 0 ≤ idxP sgB s) : idxP sgB s = ((bareLen s : Nat) : Int) := by
  unfold idxP at h ⊢
  split at h
  · rename_i h2; rw [if_pos h2]; rfl
  · omega
theorem bare_none {s : Str} (h : ¬ 0 ≤ idxP sgB s) : s.length = bareLen s := by
  unfold idxP at h
  split at h
  · omega
  · rename_i h2
    have : s.findIdx sgB ≤ s.length := List.findIdx_le_length
    show s.length = s.findIdx sgB
    omega
theorem bareLen_le (s : Str) : bareLen s ≤ s.length := List.findIdx_le_length

/-! ### The quoted string at the beginning -/
section quo
variable {s : Str} {i X : Nat}
theorem quo_done (h : s.length ≤ i) {n : Nat} (e : quoGo n (s.drop i) = X) : X = 0 := by rw [List.drop_eq_nil_of_le h] at e; exact e.symm
theorem quo_esc (h : i < s.length) (hb : s.getD i 0 = 92) {n : Nat} (e : quoGo n (s.drop i) = X) : quoGo (n + 2) (s.drop (i + 2)) = X := by
  rw [drop_step (dd := 0) h, hb] at e
  rcases Nat.lt_or_ge (i + 1) s.length with h2 | h2
  · rw [drop_step (dd := 0) h2, quoGo, if_pos rfl] at e; exact e
  · rw [List.drop_eq_nil_of_le h2, quoGo, if_neg (by decide)] at e
    rw [List.drop_eq_nil_of_le (by omega)]; exact e
theorem quo_hit (h : i < s.length) (hb : s.getD i 0 = 34) {n : Nat} (e : quoGo n (s.drop i) = X) : X = n + 1 := by
  rw [drop_step (dd := 0) h, hb] at e
  cases hr : s.drop (i + 1) with
  | nil => rw [hr, quoGo, if_pos rfl] at e; exact e.symm
  | cons x r => rw [hr, quoGo, if_neg (by decide), if_pos rfl] at e; exact e.symm
theorem quo_next (h : i < s.length) (h1 : ¬ s.getD i 0 = 92) (h2 : ¬ s.getD i 0 = 34) {n : Nat} (e : quoGo n (s.drop i) = X) : quoGo (n + 1) (s.drop (i + 1)) = X := by
  rw [drop_step (dd := 0) h] at e
  cases hr : s.drop (i + 1) with
  | nil => rw [hr, quoGo, if_neg h2] at e; exact e
  | cons x r => rw [hr, quoGo, if_neg h1, if_neg h2] at e; exact e
theorem quoGo_le : ∀ (t : Str) (n : Nat), quoGo n t ≤ n + t.length
  | [], n => by simp [quoGo]
  | [b], n => by simp only [quoGo]; split <;> simp
  | b :: x :: r, n => by
    simp only [quoGo, List.length_cons]
    have h1 := quoGo_le r (n + 2)
    have h2 := quoGo_le (x :: r) (n + 1)
    simp only [List.length_cons] at h2
    split
    · omega
    · split <;> omega
theorem quoLen_le {s : Str} (h : 0 < s.length) : quoLen s ≤ s.length := by
  have := quoGo_le (s.drop 1) 1
  rw [List.length_drop] at this
  unfold quoLen
  omega
end quo
theorem piece_le {s : Str} (h : 0 < s.length) : pieceLen s ≤ s.length := by
  unfold pieceLen; split
  · exact quoLen_le h
  · exact bareLen_le s

/-! ### Reading -/
theorem read_no {s : Str} (h : s.length < 2 ∨ ¬ s.getD 0 0 = 40 ∨ ¬ s.getD (s.length - 1) 0 = 41) : readF s = ([], false) := if_pos h
theorem read_yes {s : Str} {X : Option (List Str)} (h : ¬ (s.length < 2 ∨ ¬ s.getD 0 0 = 40 ∨ ¬ s.getD (s.length - 1) 0 = 41)) (e : readGo s.length [] ((s.take (s.length - 1)).drop 1) = X) : readF s = (X.getD [], X.isSome) := by
  rw [readF, if_neg h, e]
section go
variable {t u : Str} {acc : List Str} {X : Option (List Str)} {f : Nat}
theorem read_end (hf : t.length + 1 ≤ f) (h : trimL spB t = []) (e : readGo f acc t = X) : X = some acc := by
  obtain ⟨f, rfl⟩ : ∃ k, f = k + 1 := ⟨f - 1, by omega⟩
  rw [readGo, if_pos h] at e; exact e.symm
theorem read_bad (hf : t.length + 1 ≤ f) (h : ¬ trimL spB t = []) (hv : pieceVal (trimL spB t) = none) (e : readGo f acc t = X) : X = none := by
  obtain ⟨f, rfl⟩ : ∃ k, f = k + 1 := ⟨f - 1, by omega⟩
  rw [readGo, if_neg h, hv] at e; exact e.symm
theorem pv_pos {v : Str} (hv : pieceVal u = some v) : 0 < pieceLen u := by
  unfold pieceVal at hv
  split at hv
  · cases hv
  · rename_i h; omega
theorem read_go {v : Str} (hf : t.length + 1 ≤ f) (h : ¬ trimL spB t = []) (hv : pieceVal (trimL spB t) = some v) (e : readGo f acc t = X) :
    ((trimL spB t).drop (pieceLen (trimL spB t))).length + 1 ≤ f - 1 ∧ readGo (f - 1) (acc ++ [v]) ((trimL spB t).drop (pieceLen (trimL spB t))) = X := by
  obtain ⟨f, rfl⟩ : ∃ k, f = k + 1 := ⟨f - 1, by omega⟩
  rw [readGo, if_neg h, hv] at e
  have h1 := pv_pos hv
  have h2 : (trimL spB t).length ≤ t.length := trimL_length t
  have h3 : 0 < (trimL spB t).length := List.length_pos_iff.2 h
  have h4 := piece_le h3
  rw [List.length_drop]
  exact ⟨by omega, e⟩
theorem pl_quo (h : u.getD 0 0 = 34) : pieceLen u = quoLen u := if_pos h
theorem pl_bare (h : ¬ u.getD 0 0 = 34) : pieceLen u = bareLen u := if_neg h
theorem pv_bad (h : pieceLen u = 0 ∨ (pieceLen u < u.length ∧ ¬ u.getD (pieceLen u) 0 = 32)) : pieceVal u = none := if_pos h
theorem pv_unq_no (h : ¬ (pieceLen u = 0 ∨ (pieceLen u < u.length ∧ ¬ u.getD (pieceLen u) 0 = 32))) (hq : u.getD 0 0 = 34) (h2 : (unq (u.take (pieceLen u))).2 = false) : pieceVal u = none := by
  unfold pieceVal; rw [if_neg h, if_pos hq, h2]; simp
theorem pv_unq_any (hq : u.getD 0 0 = 34) (h2 : (unq (u.take (pieceLen u))).2 = false) : pieceVal u = none := by
  by_cases h : pieceLen u = 0 ∨ (pieceLen u < u.length ∧ ¬ u.getD (pieceLen u) 0 = 32)
  · exact pv_bad h
  · exact pv_unq_no h hq h2
theorem pv_unq (h : ¬ (pieceLen u = 0 ∨ (pieceLen u < u.length ∧ ¬ u.getD (pieceLen u) 0 = 32))) (hq : u.getD 0 0 = 34) (h2 : (unq (u.take (pieceLen u))).2 = true) : pieceVal u = some (unq (u.take (pieceLen u))).1 := by
  unfold pieceVal; rw [if_neg h, if_pos hq, if_pos h2]
theorem pv_bare (h : ¬ (pieceLen u = 0 ∨ (pieceLen u < u.length ∧ ¬ u.getD (pieceLen u) 0 = 32))) (hq : ¬ u.getD 0 0 = 34) : pieceVal u = some (u.take (pieceLen u)) := by
  unfold pieceVal; rw [if_neg h, if_neg hq]
end go

/-! ### Reading by places -/
section at_
variable {s : Str} {acc : List Str} {X : Option (List Str)} {f i : Nat}
theorem read_sp (h : i < s.length) (hb : s.getD i 0 = 32) (hf : 0 < f) (e : readGo f acc (s.drop i) = X) : readGo f acc (s.drop (i + 1)) = X := by
  obtain ⟨f, rfl⟩ : ∃ k, f = k + 1 := ⟨f - 1, by omega⟩
  have e2 : trimL spB (s.drop i) = trimL spB (s.drop (i + 1)) := by
    rw [drop_step (dd := 0) h, hb]; rfl
  rw [readGo, e2] at e
  rw [readGo]; exact e
theorem trim_at (h : i < s.length) (hb : ¬ s.getD i 0 = 32) : trimL spB (s.drop i) = s.drop i := by
  rw [drop_step (dd := 0) h]
  have : spB (s.getD i 0) = false := decide_eq_false hb
  rw [trimL, List.dropWhile_cons, this]; rfl
theorem drop_get (h : i < s.length) : (s.drop i).getD 0 0 = s.getD i 0 := by rw [drop_step (dd := 0) h]; rfl
theorem drop_ne (h : i < s.length) : ¬ s.drop i = [] := by rw [drop_step (dd := 0) h]; simp
theorem drop_getD (i k : Nat) : (s.drop i).getD k 0 = s.getD (i + k) 0 := by
  rw [List.getD_eq_getElem?_getD, List.getD_eq_getElem?_getD, List.getElem?_drop]
theorem drop_take_take (i n : Nat) : (s.take (i + n)).drop i = (s.drop i).take n := by
  rw [List.drop_take, Nat.add_sub_cancel_left]
theorem quo_start (I : Str) (i : Nat) : quoGo (i + 1 - i) (I.drop (i + 1)) = quoLen (I.drop i) := by rw [Nat.add_sub_cancel_left, quoLen, List.drop_drop]
theorem sl_take {I : Str} {i k : Nat} (h : i ≤ k) : (I.take k).drop i = (I.drop i).take (k - i) := by rw [List.drop_take]
theorem read_at_bad (hf : (s.drop i).length + 1 ≤ f) (h : i < s.length) (hb : ¬ s.getD i 0 = 32) (hv : pieceVal (s.drop i) = none) (e : readGo f acc (s.drop i) = X) : X = none :=
  read_bad hf (by rw [trim_at h hb]; exact drop_ne h) (by rw [trim_at h hb]; exact hv) e
theorem read_at_go {v : Str} {k : Nat} (hf : (s.drop i).length + 1 ≤ f) (h : i < s.length) (hb : ¬ s.getD i 0 = 32) (hk : k = i + pieceLen (s.drop i)) (hv : pieceVal (s.drop i) = some v) (e : readGo f acc (s.drop i) = X) : (s.drop k).length + 1 ≤ f - 1 ∧ readGo (f - 1) (acc ++ [v]) (s.drop k) = X := by
  have := read_go hf (by rw [trim_at h hb]; exact drop_ne h) (by rw [trim_at h hb]; exact hv) e
  rw [trim_at h hb, List.drop_drop] at this
  subst hk
  exact this
theorem read_at_end (hf : (s.drop i).length + 1 ≤ f) (h : s.length ≤ i) (e : readGo f acc (s.drop i) = X) : X = some acc :=
  read_end hf (by rw [List.drop_eq_nil_of_le h]; rfl) e
theorem bare_at {k : Nat} (hi : i < s.length) (hk : i ≤ k) (h0 : ((s.take k).drop i).all bareB = true) (h : ¬ k < s.length ∨ bareB (s.getD k 0) = false) (hl : k ≤ s.length) : bareLen (s.drop i) = k - i := by
  have hfi : ((s.drop i).findIdx fun c => !bareB c) = k - i := by
    obtain ⟨n, rfl⟩ : ∃ n, k = i + n := ⟨k - i, by omega⟩
    rw [drop_take_take] at h0
    rw [Nat.add_sub_cancel_left]
    rcases h with h | h
    · have hn : n = (s.drop i).length := by rw [List.length_drop]; omega
      rw [hn, List.take_length] at h0
      rw [hn]
      exact List.findIdx_eq_length.2 fun x hx => by have := List.all_eq_true.1 h0 x hx; simp [this]
    · by_cases hn : i + n < s.length
      · have hn2 : n < (s.drop i).length := by rw [List.length_drop]; omega
        rw [List.findIdx_eq hn2]
        have e := drop_getD (s := s) i n
        rw [getD_get hn2] at e
        refine ⟨by rw [e, h]; rfl, fun j hj => ?_⟩
        have := List.all_eq_true.1 h0 (s.drop i)[j] (List.mem_take_iff_getElem.2 ⟨j, by omega, rfl⟩)
        rw [this]; rfl
      · have hn2 : n = (s.drop i).length := by rw [List.length_drop]; omega
        rw [hn2, List.take_length] at h0
        rw [hn2]
        exact List.findIdx_eq_length.2 fun x hx => by have := List.all_eq_true.1 h0 x hx; simp [this]
  exact hfi
theorem bare_go {k : Nat} (hk : i ≤ k) (hl : k < s.length) (h : bareB (s.getD k 0) = true) (h0 : ((s.take k).drop i).all bareB = true) : ((s.take (k + 1)).drop i).all bareB = true := by
  rw [take_drop_step hl hk, List.all_append, h0, List.all_cons, h]; rfl
end at_

/-! ### Writing -/
theorem plain_byte (c : UInt8) : ((decide (c < 33) || decide (126 < c)) || decide ((0 : Int) ≤ idx [40, 41, 44, 34] c)) = !(visB c && bareB c) := by
  have := all_u8 (fun c => (((decide (c < 33) || decide (126 < c)) || decide ((0 : Int) ≤ idx [40, 41, 44, 34] c)) == !(visB c && bareB c))) (by decide +kernel) c
  simpa using this
theorem bare_alt (c : UInt8) : (((((!decide (c = 32) && !decide (c = 9)) && !decide (c = 40)) && !decide (c = 41)) && !decide (c = 44)) && !decide (c = 34)) = bareB c := by
  have := all_u8 (fun c => ((((((!decide (c = 32) && !decide (c = 9)) && !decide (c = 40)) && !decide (c = 41)) && !decide (c = 44)) && !decide (c = 34)) == bareB c)) (by decide +kernel) c
  simpa using this
theorem vis_alt (c : UInt8) : (decide (c < 33) || decide (126 < c)) = !visB c := by
  have := all_u8 (fun c => ((decide (c < 33) || decide (126 < c)) == !visB c)) (by decide +kernel) c
  simpa using this
theorem all_and {p q : UInt8 → Bool} (s : Str) : (s.all fun c => p c && q c) = (s.all p && s.all q) := by
  induction s with
  | nil => rfl
  | cons c s ih => simp only [List.all_cons, ih]; cases p c <;> cases q c <;> simp
theorem plain_parts (s : Str) : ((s.all visB && !decide (s = [])) && s.all bareB) = plainB s := by
  unfold plainB
  rw [all_and]
  cases s.all visB <;> cases s.all bareB <;> simp
theorem all_next {p : UInt8 → Bool} {s : Str} {i : Nat} (h : i < s.length) : (s.take (i + 1)).all p = ((s.take i).all p && p (s.getD i 0)) := by
  rw [List.take_succ_eq_append_getElem h, List.all_append, getD_get h]; simp
theorem writeV_length (s : Str) : (writeV s).length ≤ 2 * s.length + 2 := by
  unfold writeV; split
  · omega
  · exact quote_length s
theorem mapS_step {f : Str → Str} {l : List Str} {i : Nat} (h : i < l.length) : (l.take (i + 1)).map f = (l.take i).map f ++ [f (l.getD i [])] := by
  rw [List.take_succ_eq_append_getElem h, List.map_append, getD_get h]; rfl
theorem joinS_len {n k : Nat} {sep : Str} (hs : sep.length ≤ k) : ∀ {X : List Str}, (∀ y ∈ X, y.length ≤ n) → (joinS sep X).length ≤ X.length * (n + k)
  | [], _ => by simp [joinS]
  | x :: r, h => by
    rw [joinS_flat, List.length_append, List.length_cons]
    have h1 := h x (by simp)
    have h2 : ∀ (r : List Str), (∀ y ∈ r, y.length ≤ n) → (r.flatMap (fun y => sep ++ y)).length ≤ r.length * (n + k) := by
      intro r
      induction r with
      | nil => intro _; simp
      | cons y r ih =>
        intro h
        rw [List.flatMap_cons, List.length_append, List.length_cons, List.length_append, Nat.add_mul]
        have := h y (by simp)
        have := ih (fun z hz => h z (by simp [hz]))
        omega
    have := h2 r (fun y hy => h y (by simp [hy]))
    rw [Nat.add_mul]; omega
theorem writeF_length {l : List Str} {n : Nat} (h : ∀ x ∈ l, x.length ≤ n) : (writeF l).length ≤ l.length * (2 * n + 3) + 2 := by
  have := joinS_len (n := 2 * n + 2) (k := 1) (sep := [32]) (Nat.le_refl _) (X := l.map writeV) (fun y hy => by
    obtain ⟨x, hx, rfl⟩ := List.mem_map.1 hy
    have := writeV_length x; have := h x hx; omega)
  rw [List.length_map, show 2 * n + 2 + 1 = 2 * n + 3 from rfl] at this
  unfold writeF
  simp only [List.length_append, List.length_cons, List.length_nil]
  omega
theorem written_step {l : List Str} {i : Nat} {v : Str} (h : i < l.length) (hv : writeV (l.getD i []) = v) : (([40] ++ joinS [32] ((l.take i).map writeV)) ++ (if 0 < i then [32] else [])) ++ v = [40] ++ joinS [32] ((l.take (i + 1)).map writeV) := by
  rw [mapS_step h, hv]
  cases i with
  | zero => rfl
  | succ i =>
    have hlen : ((l.take (i + 1)).map writeV).length = i + 1 := by rw [List.length_map, List.length_take]; omega
    have := joinS_next (sep := [32]) (l := (l.take (i + 1)).map writeV ++ [v]) (i := i + 1) (by omega) (by rw [List.length_append, hlen]; simp)
    rw [List.take_of_length_le (by rw [List.length_append, hlen]; simp), List.take_left' hlen] at this
    rw [this, if_pos (by omega)]
    have e : ((l.take (i + 1)).map writeV ++ [v]).getD (i + 1) [] = v := by
      rw [List.getD_eq_getElem?_getD, List.getElem?_append_right (by omega), hlen]; simp
    rw [e]; simp
theorem readGo_len : ∀ (f : Nat) (acc : List Str) (t : Str) (l : List Str), readGo f acc t = some l → l.length ≤ acc.length + t.length
  | 0, _, _, _, h => by cases h
  | f + 1, acc, t, l, h => by
    rw [readGo] at h
    split at h
    · cases h; omega
    · rename_i h0
      cases hv : pieceVal (trimL spB t) with
      | none => rw [hv] at h; cases h
      | some v =>
        rw [hv] at h
        have := readGo_len f _ _ l h
        have h1 := pv_pos hv
        have h2 : (trimL spB t).length ≤ t.length := trimL_length t
        have h3 : 0 < (trimL spB t).length := List.length_pos_iff.2 h0
        rw [List.length_append, List.length_singleton, List.length_drop] at this
        have := piece_le h3
        omega
theorem pv_len {u v : Str} (h : pieceVal u = some v) : v.length ≤ u.length := by
  unfold pieceVal at h
  split at h
  · cases h
  · split at h
    · split at h
      · cases h; exact Nat.le_trans (unq_length _) (by rw [List.length_take]; omega)
      · cases h
    · cases h; rw [List.length_take]; omega
theorem readGo_mem {n : Nat} : ∀ (f : Nat) (acc : List Str) (t : Str) (l : List Str), readGo f acc t = some l → t.length ≤ n → (∀ x ∈ acc, x.length ≤ n) → ∀ x ∈ l, x.length ≤ n
  | 0, _, _, _, h, _, _ => by cases h
  | f + 1, acc, t, l, h, hn, ha => by
    rw [readGo] at h
    split at h
    · cases h; exact ha
    · cases hv : pieceVal (trimL spB t) with
      | none => rw [hv] at h; cases h
      | some v =>
        rw [hv] at h
        have h2 : (trimL spB t).length ≤ t.length := trimL_length t
        refine readGo_mem f _ _ l h (by rw [List.length_drop]; omega) fun x hx => ?_
        rcases List.mem_append.1 hx with hx | hx
        · exact ha x hx
        · obtain rfl := List.mem_singleton.1 hx
          have := pv_len hv; omega
theorem readF_length (s : Str) : (readF s).1.length ≤ s.length := by
  unfold readF; split
  · simp
  · cases h : readGo s.length [] ((s.take (s.length - 1)).drop 1) with
    | none => simp
    | some l => have := readGo_len _ _ _ _ h; simp at this ⊢; omega
theorem readF_mem (s : Str) : ∀ x ∈ (readF s).1, x.length ≤ s.length := by
  unfold readF; split
  · simp
  · cases h : readGo s.length [] ((s.take (s.length - 1)).drop 1) with
    | none => simp
    | some l => exact readGo_mem _ _ _ _ h (by simp; omega) (by simp)
end Go.Plain

namespace Go.Plain
open Go Go.Sep
set_option linter.unusedSimpArgs false
set_option linter.unusedVariables false

theorem parOk_step (l : List Prm) (n : Nat) : parOk l (n + 1) = (parOk l n && (!decide ((l.getD n ([], [])).1 = [113]) && !(l.take n).any (fun x => decide (x.1 = (l.getD n ([], [])).1)))) := dist_step
theorem any_swap {l : List Prm} {p : Prm} : (l.any fun x => decide (p.1 = x.1)) = l.any fun x => decide (x.1 = p.1) := by
  congr 1; funext x; exact decide_eq_decide.2 eq_comm
theorem form0 {k : Int} {s : Str} (h1 : ¬ k = 1) (h2 : ¬ k = 2) (h3 : ¬ (k = 3 ∨ k = 4)) : formF k s = formF 0 s := by
  rw [form5 h1 h2 (by omega) (by omega), form5 (by decide) (by decide) (by decide) (by decide)]

/-! ### What was seen -/
theorem seen_look {g : Str → Str} {k : Str} : ∀ L : List Str, lookS (L.map fun s => (g s, true)) k = if (L.any fun b => decide (g b = k)) = true then some true else none
  | [] => rfl
  | x :: L => by
    rw [List.map_cons, lookS, List.any_cons, seen_look L]
    by_cases h : k = g x
    · subst h; simp
    · rw [if_neg h, decide_eq_false (fun e => h e.symm), Bool.false_or]
theorem seen_yes {ms : List (Str × Bool)} {g : Str → Str} {k : Str} {L : List Str} (e : ms = L.map fun s => (g s, true)) : (lookS ms k).getD false = L.any fun b => decide (g b = k) := by
  rw [e, seen_look]; cases L.any fun b => decide (g b = k) <;> simp
theorem seen_new {ms : List (Str × Bool)} {g : Str → Str} {k : Str} {L : List Str} (e : ms = L.map fun s => (g s, true)) (h : (lookS ms k).getD false = false) : lookS ms k = none := by
  rw [seen_yes e] at h
  rw [e, seen_look, h]; simp
theorem mapT_step {β : Type} {g : Str → β} {L : List Str} {i : Nat} (h : i < L.length) : (L.take (i + 1)).map g = (L.take i).map g ++ [g (L.getD i [])] := by
  rw [List.take_succ_eq_append_getElem h, List.map_append, getD_get h]; rfl

/-! ### Same, Value -/
theorem same_fold {axis a b : Str} (h : kindF axis = 1 ∨ kindF axis = 2) : sameF axis a b = fold a b := by
  have e : ∀ s, (formF (kindF axis) s).1 = lower s := fun s => by
    rcases h with h | h
    · rw [form1 h]
    · rw [form2 (by omega) h]
  rw [sameF, e, e]
  by_cases hl : lower a = lower b
  · rw [decide_eq_true hl, fold_iff.2 hl]
  · rw [decide_eq_false hl, fold_false.2 hl]
theorem same_canon {axis a b : Str} (h : kindF axis = 3 ∨ kindF axis = 4) : sameF axis a b = decide (canonical (kindF axis) a = canonical (kindF axis) b) := by
  rw [sameF, form3 (by omega) (by omega) h, form3 (by omega) (by omega) h]
theorem same_id {axis a b : Str} (h1 : ¬ kindF axis = 1) (h2 : ¬ kindF axis = 2) (h3 : ¬ kindF axis = 3) (h4 : ¬ kindF axis = 4) : sameF axis a b = decide (a = b) := by
  rw [sameF, form5 h1 h2 h3 h4, form5 h1 h2 h3 h4]
theorem same_comm (axis a b : Str) : sameF axis a b = sameF axis b a := by unfold sameF; exact decide_eq_decide.2 eq_comm
theorem same_alt {axis a : Str} {L : List Str} : (L.any fun b => sameF axis a b) = L.any fun b => decide ((formF (kindF axis) b).1 = (formF (kindF axis) a).1) := by
  congr 1; funext b; rw [same_comm]; rfl

/-! ### Lists of axes -/
theorem validV_no {k : Int} {l : List Str} (h : l.length < 1 ∨ 16 < l.length) : validV k l = false := by
  unfold validV
  rcases h with h | h
  · rw [decide_eq_false (show ¬ 1 ≤ l.length by omega)]; rfl
  · rw [decide_eq_false (show ¬ l.length ≤ 16 by omega)]; simp
theorem validV_yes {k : Int} {l : List Str} (h : 1 ≤ l.length ∧ l.length ≤ 16) : validV k l = distB (fun s => (formF k s).2) (fun a b => decide ((formF k b).1 = (formF k a).1)) [] l l.length := by
  unfold validV
  rw [decide_eq_true h.1, decide_eq_true h.2]; rfl
theorem validL_no {l : List Axs} (h : l.length < 1 ∨ 4 < l.length) : validL l = false := by
  unfold validL
  rcases h with h | h
  · rw [decide_eq_false (show ¬ 1 ≤ l.length by omega)]; rfl
  · rw [decide_eq_false (show ¬ l.length ≤ 4 by omega)]; simp
theorem validL_yes {l : List Axs} (h : 1 ≤ l.length ∧ l.length ≤ 4) : validL l = distB validA (fun a b => decide (a.1 = b.1)) ([], []) l l.length := by
  unfold validL
  rw [decide_eq_true h.1, decide_eq_true h.2]; rfl
theorem dist_done {α : Type} {ok : α → Bool} {eqv : α → α → Bool} {dd : α} {l : List α} {i : Nat} (hi : i ≤ l.length) (h : l.length ≤ i) (e : distB ok eqv dd l i = true) : distB ok eqv dd l l.length = true := by
  rw [show l.length = i by omega]; exact e
theorem validL_len {l : List Axs} (h : validL l = true) : 1 ≤ l.length ∧ l.length ≤ 4 := by
  unfold validL at h
  simp only [Bool.and_eq_true, decide_eq_true_eq] at h
  exact h.1
theorem drop0 {α : Type} {l : List α} : l.drop 0 = l := List.drop_zero

/-! ### Fields -/
section
variable {M : List Str} {acc : List Axs} {X : Option (List Axs)} {i : Nat}
end
/-! ### Bounds -/
def okA (a : Axs) : Bool := !(decide (100 < a.1.length) || !keepS a.2)
def keepA (l : List Axs) : Bool := (l.take 7).all okA && decide (l.length ≤ 6)
theorem keepA_len {l : List Axs} (h : keepA l = true) : l.length ≤ 6 := by
  unfold keepA at h; simp only [Bool.and_eq_true, decide_eq_true_eq] at h; exact h.2
theorem keepA_mem {l : List Axs} (h : keepA l = true) : ∀ a ∈ l, a.1.length ≤ 100 ∧ a.2.length ≤ 20 ∧ ∀ x ∈ a.2, x.length ≤ 100 := fun a ha => by
  have hl := keepA_len h
  unfold keepA at h
  simp only [Bool.and_eq_true, decide_eq_true_eq] at h
  have h1 := List.all_eq_true.1 h.1 a (by rw [List.take_of_length_le (by omega)]; exact ha)
  unfold okA at h1
  simp only [Bool.not_eq_true', Bool.or_eq_false_iff, decide_eq_false_iff_not, Bool.not_eq_false'] at h1
  exact ⟨by omega, keepS_len h1.2, keepS_mem h1.2⟩
def smallA (l : List Axs) : Prop := l.length ≤ 1000 ∧ ∀ a ∈ l, a.1.length ≤ 2000 ∧ a.2.length ≤ 1000000 ∧ ∀ x ∈ a.2, x.length ≤ 9000
end Go.Plain

namespace Go.Plain
open Go Go.Sep
set_option linter.unusedSimpArgs false
set_option linter.unusedVariables false

theorem validA_no {a : Axs} (h : ((token a.1 = false ∨ ¬ lower a.1 = a.1) ∨ a.2.length < 1) ∨ 16 < a.2.length) : validA a = false := by
  unfold validA
  rcases h with ((h | h) | h) | h
  · rw [h]; rfl
  · rw [decide_eq_false h]; simp
  · rw [validV_no (.inl h)]; simp
  · rw [validV_no (.inr h)]; simp
theorem validA_yes {a : Axs} (h : ((token a.1 = true ∧ lower a.1 = a.1) ∧ ¬ a.2.length < 1) ∧ ¬ 16 < a.2.length) : validA a = distB (fun s => (formF (kindF a.1) s).2) (fun x y => decide ((formF (kindF a.1) y).1 = (formF (kindF a.1) x).1)) [] a.2 a.2.length := by
  unfold validA
  rw [h.1.1.1, decide_eq_true h.1.1.2, validV_yes (by omega)]; rfl
theorem value_1 {axis s : Str} (h : kindF axis = 1) : valueF axis s = ((parseT s).2 && parOk (parseT s).1.2.2 (parseT s).1.2.2.length) := by rw [valueF, form1 h]
theorem value_2 {axis s : Str} (h : kindF axis = 2) : valueF axis s = tagF s := by rw [valueF, form2 (by omega) h]
theorem value_3 {axis s : Str} (h : kindF axis = 3 ∨ kindF axis = 4) : valueF axis s = (token s && !decide (s = [42])) := by rw [valueF, form3 (by omega) (by omega) h]
theorem value_5 {axis s : Str} (h1 : ¬ kindF axis = 1) (h2 : ¬ kindF axis = 2) (h3 : ¬ kindF axis = 3) (h4 : ¬ kindF axis = 4) : valueF axis s = (((decide (1 ≤ s.length) && decide (s.length ≤ 100)) && text s) && decide (trim s = s)) := by rw [valueF, form5 h1 h2 h3 h4]
end Go.Plain

namespace Go.Plain
open Go Go.Sep
set_option linter.unusedSimpArgs false
set_option linter.unusedVariables false

/-! ### Values are texts -/
theorem bytes_text {s : Str} (h : ∀ x ∈ s, textB x = true) : text s = true := List.all_eq_true.2 h
theorem lang_text (c : UInt8) (h : langB c = true) : textB c = true := by
  have := all_u8 (fun c => !langB c || textB c) (by decide +kernel) c
  rw [h] at this; simpa using this
theorem blank_text (c : UInt8) (h : blankB c = true) : textB c = true := by
  have := all_u8 (fun c => !blankB c || textB c) (by decide +kernel) c
  rw [h] at this; simpa using this
theorem trim_split (s : Str) : ∃ a b : Str, s = a ++ trim s ++ b ∧ a.all blankB = true ∧ b.all blankB = true := by
  obtain ⟨r, h1, h2, _⟩ := split_right (p := blankB) s
  obtain ⟨a, h3, h4⟩ : ∃ a, trimR blankB s = a ++ trimL blankB (trimR blankB s) ∧ a.all blankB = true := by
    refine ⟨(trimR blankB s).takeWhile blankB, (List.takeWhile_append_dropWhile).symm, ?_⟩
    exact List.all_eq_true.2 fun x hx => by have := List.all_takeWhile (p := blankB) (l := trimR blankB s); exact List.all_eq_true.1 this x hx
  refine ⟨a, r, ?_, h4, h2⟩
  show s = a ++ trimL blankB (trimR blankB s) ++ r
  rw [← h3]; exact h1
theorem text_app (a b : Str) : text (a ++ b) = (text a && text b) := List.all_append
theorem blanks_text {a : Str} (h : a.all blankB = true) : text a = true := List.all_eq_true.2 fun x hx => blank_text x (List.all_eq_true.1 h x hx)
theorem trim_text {s : Str} (h : text (trim s) = true) : text s = true := by
  obtain ⟨a, b, h1, h2, h3⟩ := trim_split s
  rw [h1, text_app, text_app, blanks_text h2, blanks_text h3, h]; rfl
theorem unq_is_text {s : Str} (h : (unq s).2 = true) : text s = true := by
  unfold unq at h
  split at h
  · rename_i h0
    cases hu : unqGo [] (inner s) with
    | none => rw [hu] at h; cases h
    | some u =>
      have := unqGo_text _ _ _ hu
      have e : s = s.getD 0 0 :: inner s ++ [s.getD (s.length - 1) 0] := by
        have h2 := h0.1
        have e1 : s.take (s.length - 1) = s.getD 0 0 :: inner s := by
          unfold inner
          have : (s.take (s.length - 1)).getD 0 0 = s.getD 0 0 := by
            rw [List.getD_eq_getElem?_getD, List.getD_eq_getElem?_getD, List.getElem?_take_of_lt (by omega)]
          rw [← this, ← drop_step (dd := 0) (show 0 < (s.take (s.length - 1)).length by rw [List.length_take]; omega), List.drop_zero]
        rw [← e1]
        conv => lhs; rw [← List.take_append_drop (s.length - 1) s]
        rw [drop_step (dd := 0) (show s.length - 1 < s.length by omega), List.drop_eq_nil_of_le (by omega)]
      rw [e, h0.2.1, h0.2.2]
      show List.all _ _ = true
      rw [List.all_append, List.all_cons, this]; rfl
  · cases h
theorem pos_get {s : Str} {c : UInt8} (h : pos s c < s.length) : s.getD (pos s c) 0 = c := by
  rw [getD_get h]
  exact of_decide_eq_true (List.findIdx_getElem (p := fun y => decide (y = c)) (w := h))
theorem inner_wrap (a b : UInt8) (J : Str) : ((([a] ++ J) ++ [b]).take ((([a] ++ J) ++ [b]).length - 1)).drop 1 = J := by
  have e : (([a] ++ J) ++ [b]).length - 1 = ([a] ++ J).length := by simp
  rw [e, List.take_left' rfl]; rfl
theorem one_text {x : Str} (h : (oneP x).2.2 = true) : text x = true := by
  by_cases hp : pos x 61 < x.length
  · by_cases ht : token (x.take (pos x 61)) = true
    · have e : x = x.take (pos x 61) ++ x.getD (pos x 61) 0 :: x.drop (pos x 61 + 1) := by
        rw [← drop_step (dd := 0) hp, List.take_append_drop]
      have e61 : x.getD (pos x 61) 0 = 61 := pos_get hp
      have hv : text (x.drop (pos x 61 + 1)) = true := by
        by_cases hv : token (x.drop (pos x 61 + 1)) = true
        · exact token_text hv
        · rw [one_unq hp ht (by simpa using hv)] at h; exact unq_is_text h
      rw [e, e61, text_app, token_text ht]
      show (true && List.all _ _) = true
      rw [List.all_cons, show List.all (x.drop (pos x 61 + 1)) textB = true from hv]; rfl
    · rw [one_bad (by simpa using ht)] at h; cases h
  · rw [one_no hp] at h; cases h
theorem pars_text : ∀ (X : List Str) (acc l : List Prm), parsGo acc X = some l → ∀ x ∈ X, text x = true
  | [], _, _, _, x, hx => by cases hx
  | y :: X, acc, l, h, x, hx => by
    by_cases hb : trim y = []
    · have e : parsGo acc (y :: X) = parsGo acc X := by
        have := pars_skip (X := y :: X) (acc := acc) (i := 0) (by simp) (by simpa using hb) rfl
        simpa using this.symm
      rw [e] at h
      rcases List.mem_cons.1 hx with rfl | hx
      · exact trim_text (by rw [hb]; rfl)
      · exact pars_text X acc l h x hx
    · cases ho : (oneP (trim y)).2.2 with
      | false =>
        have := pars_bad (X := y :: X) (acc := acc) (i := 0) (by simp) (by simpa using hb) (by simpa using ho) h
        cases this
      | true =>
        have := pars_ok (X := y :: X) (acc := acc) (i := 0) (by simp) (by simpa using hb) (by simpa using ho) h
        rcases List.mem_cons.1 hx with rfl | hx
        · exact trim_text (one_text ho)
        · exact pars_text X _ l (by simpa using this) x hx
/-- Cutting loses the separators alone. -/
theorem cutGo_text {c : UInt8} (hc : textB c = true) : ∀ (r : Str) (st : Nat) (cur : Str), (∀ x ∈ cutGo c st cur r, text x = true) → text cur = true ∧ text r = true
  | [], st, cur, h => by
    simp only [cutGo] at h
    exact ⟨h cur (by simp), rfl⟩
  | b :: r, st, cur, h => by
    have key : ∀ st', cutGo c st cur (b :: r) = cutGo c st' (cur ++ [b]) r → text cur = true ∧ text (b :: r) = true := fun st' e => by
      rw [e] at h
      have := cutGo_text hc r st' _ h
      rw [text_app, Bool.and_eq_true] at this
      refine ⟨this.1.1, ?_⟩
      have h1 : textB b = true := by have := this.1.2; simpa [text] using this
      show List.all (b :: r) textB = true
      rw [List.all_cons, h1, show List.all r textB = true from this.2]; rfl
    by_cases h2 : st = 2
    · exact key 1 (by rw [cutGo, if_pos h2])
    · by_cases h1 : st = 1
      · by_cases hb : b = 92
        · exact key 2 (by rw [cutGo, if_neg h2, if_pos h1, if_pos hb])
        · by_cases hq : b = 34
          · exact key 0 (by rw [cutGo, if_neg h2, if_pos h1, if_neg hb, if_pos hq])
          · exact key 1 (by rw [cutGo, if_neg h2, if_pos h1, if_neg hb, if_neg hq])
      · by_cases hq : b = 34
        · exact key 1 (by rw [cutGo, if_neg h2, if_neg h1, if_pos hq])
        · by_cases he : b = c
          · have e : cutGo c st cur (b :: r) = cur :: cutGo c 0 [] r := by rw [cutGo, if_neg h2, if_neg h1, if_neg hq, if_pos he]
            rw [e] at h
            have := cutGo_text hc r 0 [] (fun x hx => h x (by simp [hx]))
            refine ⟨h cur (by simp), ?_⟩
            show List.all (b :: r) textB = true
            rw [List.all_cons, he, hc, show List.all r textB = true from this.2]; rfl
          · exact key 0 (by rw [cutGo, if_neg h2, if_neg h1, if_neg hq, if_neg he])
theorem media_text {s : Str} (h : (parseT s).2 = true) : text s = true ∧ s ≠ [] := by
  have hb : badT s = false := by
    cases hb : badT s with
    | false => rfl
    | true => rw [parseT_no hb] at h; cases h
  obtain ⟨h1, h2⟩ := parseT_yes hb
  have hP : (parseP s).2.2 = true ∧ okRange (parseP s).1 = true := by
    by_cases hn : (parseP s).2.2 = false ∨ okRange (parseP s).1 = false
    · rw [parseR_no hn] at h2; cases h2
    · exact ⟨by cases h9 : (parseP s).2.2; exact absurd (.inl h9) hn; rfl, by cases h9 : okRange (parseP s).1; exact absurd (.inr h9) hn; rfl⟩
  have hnb : ¬ trim ((cutF s 59).getD 0 []) = [] := fun e => by rw [parse_blank e] at hP; cases hP.1
  obtain ⟨l, hl⟩ : ∃ l, parsGo [] ((cutF s 59).drop 1) = some l := by
    cases hp : parsGo [] ((cutF s 59).drop 1) with
    | none => rw [parse_none hnb hp] at hP; cases hP.1
    | some l => exact ⟨l, rfl⟩
  have e1 : (parseP s).1 = trim ((cutF s 59).getD 0 []) := by rw [parse_some hnb hl]
  have hv : text (trim ((cutF s 59).getD 0 [])) = true := by
    rw [← e1]
    have h3 := hP.2
    unfold okRange at h3
    simp only [Bool.and_eq_true] at h3
    have hp : pos (parseP s).1 47 < (parseP s).1.length := by
      rcases Nat.lt_or_ge (pos (parseP s).1 47) (parseP s).1.length with h | h
      · exact h
      · rw [okRange_none (by omega)] at hP; cases hP.2
    have e : (parseP s).1 = (parseP s).1.take (pos (parseP s).1 47) ++ (parseP s).1.getD (pos (parseP s).1 47) 0 :: (parseP s).1.drop (pos (parseP s).1 47 + 1) := by
      rw [← drop_step (dd := 0) hp, List.take_append_drop]
    have e47 : (parseP s).1.getD (pos (parseP s).1 47) 0 = 47 := pos_get hp
    rw [e, e47, text_app, token_text h3.1.1]
    show (true && List.all _ _) = true
    rw [List.all_cons, show List.all _ textB = true from token_text h3.1.2]; rfl
  have hx := pars_text _ _ _ hl
  have hc : cutF s 59 = (cutF s 59).getD 0 [] :: (cutF s 59).drop 1 := by
    rw [← drop_step (dd := []) (cutF_pos s 59), List.drop_zero]
  refine ⟨(cutGo_text (c := 59) (by decide) s 0 [] (fun x hm => ?_)).2, fun e => ?_⟩
  · have hm' : x ∈ cutF s 59 := hm
    rw [hc] at hm'
    rcases List.mem_cons.1 hm' with rfl | hm'
    · exact trim_text hv
    · exact hx x hm'
  · subst e; exact absurd h (by decide)
theorem value_text {axis s : Str} (h : valueF axis s = true) : text s = true ∧ s ≠ [] := by
  by_cases h1 : kindF axis = 1
  · rw [value_1 h1, Bool.and_eq_true] at h; exact media_text h.1
  by_cases h2 : kindF axis = 2
  · rw [value_2 h2] at h
    have := tag_bytes h
    exact ⟨bytes_text fun x hx => lang_text x (this.2 x hx), this.1⟩
  by_cases h3 : kindF axis = 3 ∨ kindF axis = 4
  · rw [value_3 h3, Bool.and_eq_true] at h
    exact ⟨token_text h.1, token_ne h.1⟩
  · rw [value_5 h1 h2 (by omega) (by omega)] at h
    simp only [Bool.and_eq_true, decide_eq_true_eq] at h
    refine ⟨h.1.2, fun e => ?_⟩
    rw [e] at h; exact absurd h.1.1.1 (by decide)

/-! ### Reading what was written -/
def tailW (r : List Str) : Str := r.flatMap fun v => 32 :: writeV v
theorem tail_head (r : List Str) : tailW r = [] ∨ ∃ t, tailW r = 32 :: t := by
  cases r with
  | nil => exact .inl rfl
  | cons v r => exact .inr ⟨writeV v ++ tailW r, by simp [tailW]⟩
theorem quo_flat : ∀ (v : Str) (n : Nat) (T : Str), quoGo n (v.flatMap qc ++ 34 :: T) = n + (v.flatMap qc).length + 1
  | [], n, T => by
    show quoGo n (34 :: T) = n + 0 + 1
    cases T with
    | nil => rfl
    | cons x T => rw [quoGo, if_neg (by decide), if_pos rfl]
  | c :: v, n, T => by
    rw [List.flatMap_cons]
    have hq : qc c = if c = 34 ∨ c = 92 then [92, c] else [c] := by
      unfold qc
      by_cases h : c = 34 ∨ c = 92
      · rw [if_pos h]; rcases h with h | h <;> subst h <;> rfl
      · rw [if_neg h]
        have h1 : ¬ c = 34 := fun e => h (.inl e)
        have h2 : ¬ c = 92 := fun e => h (.inr e)
        simp [h1, h2]
    rw [hq]
    split
    · have e : ([92, c] ++ v.flatMap qc) ++ 34 :: T = 92 :: c :: (v.flatMap qc ++ 34 :: T) := by simp
      rw [e, quoGo, if_pos rfl, quo_flat v (n + 2) T]
      simp; omega
    · rename_i h
      have h1 : ¬ c = 34 := fun e => h (.inl e)
      have h2 : ¬ c = 92 := fun e => h (.inr e)
      have e : ([c] ++ v.flatMap qc) ++ 34 :: T = c :: (v.flatMap qc ++ 34 :: T) := by simp
      have ne : v.flatMap qc ++ 34 :: T ≠ [] := by simp
      obtain ⟨x, r, hx⟩ : ∃ x r, v.flatMap qc ++ 34 :: T = x :: r := by
        cases hh : v.flatMap qc ++ 34 :: T with
        | nil => exact absurd hh ne
        | cons x r => exact ⟨x, r, rfl⟩
      rw [e, hx, quoGo, if_neg h2, if_neg h1, ← hx, quo_flat v (n + 1) T]
      simp; omega
theorem quote_eq (v : Str) : quote v = 34 :: (v.flatMap qc ++ [34]) := by simp [quote]
theorem piece_back {v : Str} (ht : text v = true) (hne : v ≠ []) (r : List Str) : trimL spB (writeV v ++ tailW r) = writeV v ++ tailW r ∧ pieceLen (writeV v ++ tailW r) = (writeV v).length ∧ pieceVal (writeV v ++ tailW r) = some v ∧ (writeV v ++ tailW r) ≠ [] := by
  have hT := tail_head r
  generalize tailW r = T at hT ⊢
  have hnext : ¬ ((writeV v).length < (writeV v ++ T).length ∧ ¬ (writeV v ++ T).getD (writeV v).length 0 = 32) := by
    rintro ⟨h1, h2⟩
    rcases hT with rfl | ⟨t, rfl⟩
    · rw [List.append_nil] at h1; omega
    · apply h2; rw [List.getD_eq_getElem?_getD, List.getElem?_append_right (Nat.le_refl _)]; simp
  by_cases hp : plainB v = true
  · have hw : writeV v = v := if_pos hp
    rw [hw] at hnext ⊢
    unfold plainB at hp
    simp only [Bool.and_eq_true] at hp
    have hall := List.all_eq_true.1 hp.1
    obtain ⟨c, u, rfl⟩ : ∃ c u, v = c :: u := by
      cases v with
      | nil => exact absurd rfl hne
      | cons c u => exact ⟨c, u, rfl⟩
    have hc : bareB c = true := by have := hall c (by simp); simp only [Bool.and_eq_true] at this; exact this.2
    have hc32 : ¬ c = 32 := fun e => by subst e; exact absurd hc (by decide)
    have hc34 : ¬ c = 34 := fun e => by subst e; exact absurd hc (by decide)
    have hb : bareLen ((c :: u) ++ T) = (c :: u).length := by
      unfold bareLen
      have hfi : ∀ (v : Str), (∀ x ∈ v, bareB x = true) → (v ++ T).findIdx (fun c => !bareB c) = v.length := by
        intro v
        induction v with
        | nil =>
          intro _
          rcases hT with rfl | ⟨t, rfl⟩
          · rfl
          · rw [List.nil_append, List.findIdx_cons]; rfl
        | cons x v ih =>
          intro h
          rw [List.cons_append, List.findIdx_cons, h x (by simp)]
          simp [ih (fun y hy => h y (by simp [hy]))]
      exact hfi _ fun x hx => by have := hall x hx; simp only [Bool.and_eq_true] at this; exact this.2
    have hg : ((c :: u) ++ T).getD 0 0 = c := rfl
    have hpl : pieceLen ((c :: u) ++ T) = (c :: u).length := by rw [pl_bare (by rw [hg]; exact hc34), hb]
    refine ⟨?_, hpl, ?_, by simp⟩
    · show trimL spB (c :: (u ++ T)) = _
      rw [trimL, List.dropWhile_cons, show spB c = false from decide_eq_false hc32]; rfl
    · rw [pv_bare (by rw [hpl]; rintro (e | e); simp at e; exact hnext e) (by rw [hg]; exact hc34), hpl, List.take_left' rfl]
  · have hw : writeV v = quote v := if_neg hp
    rw [hw] at hnext ⊢
    have hg : (quote v ++ T).getD 0 0 = 34 := by rw [quote_eq]; rfl
    have hpl : pieceLen (quote v ++ T) = (quote v).length := by
      rw [pl_quo hg]
      have e : (quote v ++ T).drop 1 = v.flatMap qc ++ 34 :: T := by rw [quote_eq]; simp
      rw [quoLen, e, quo_flat, quote_eq]; simp; omega
    have hun := unq_of_quote ht
    refine ⟨?_, hpl, ?_, by rw [quote_eq]; simp⟩
    · rw [quote_eq]
      show trimL spB (34 :: _) = _
      rw [trimL, List.dropWhile_cons, show spB 34 = false from rfl]; rfl
    · rw [pv_unq (by rw [hpl]; rintro (e | e); rw [quote_eq] at e; simp at e; exact hnext e) hg (by rw [hpl, List.take_left' rfl, hun]), hpl, List.take_left' rfl, hun]
theorem read_tail : ∀ (r : List Str) (acc : List Str) (f : Nat), (∀ v ∈ r, text v = true ∧ v ≠ []) → (tailW r).length + 1 ≤ f → readGo f acc (tailW r) = some (acc ++ r)
  | [], acc, f, _, hf => by
    have := read_end (t := tailW []) (acc := acc) hf rfl rfl
    rw [List.append_nil]; exact this
  | v :: r, acc, f, h, hf => by
    have e : tailW (v :: r) = 32 :: (writeV v ++ tailW r) := by simp [tailW]
    rw [e] at hf ⊢
    obtain ⟨h1, h2, h3, h4⟩ := piece_back (h v (by simp)).1 (h v (by simp)).2 r
    obtain ⟨f, rfl⟩ : ∃ k, f = k + 1 := ⟨f - 1, by omega⟩
    have e2 : trimL spB (32 :: (writeV v ++ tailW r)) = writeV v ++ tailW r := by
      rw [trimL, List.dropWhile_cons, show spB 32 = true from rfl]; exact h1
    rw [readGo, e2, if_neg h4, h3]
    simp only
    rw [h2, List.drop_left' rfl, read_tail r (acc ++ [v]) f (fun u hu => h u (by simp [hu])) (by simp at hf; omega)]
    simp
theorem read_list (l : List Str) (h : ∀ v ∈ l, text v = true ∧ v ≠ []) (f : Nat) (hf : (joinS [32] (l.map writeV)).length + 1 ≤ f) : readGo f [] (joinS [32] (l.map writeV)) = some l := by
  cases l with
  | nil => exact read_tail [] [] f (fun v hv => by cases hv) hf
  | cons v r =>
    have e : joinS [32] ((v :: r).map writeV) = writeV v ++ tailW r := by
      rw [List.map_cons, joinS_flat]; simp [tailW, List.flatMap_map]
    rw [e] at hf ⊢
    obtain ⟨h1, h2, h3, h4⟩ := piece_back (h v (by simp)).1 (h v (by simp)).2 r
    obtain ⟨f, rfl⟩ : ∃ k, f = k + 1 := ⟨f - 1, by omega⟩
    rw [readGo, h1, if_neg h4, h3]
    simp only
    have hl : 0 < (writeV v).length := by have := pv_pos h3; rw [h2] at this; exact this
    rw [h2, List.drop_left' rfl, read_tail r _ f (fun u hu => h u (by simp [hu])) (by simp at hf; omega)]
    rfl
theorem read_write {l : List Str} (h : ∀ v ∈ l, text v = true ∧ v ≠ []) : readF (writeF l) = (l, true) := by
  have hl : (writeF l).length = (joinS [32] (l.map writeV)).length + 2 := by unfold writeF; simp
  have h0 : (writeF l).getD 0 0 = 40 := rfl
  have h1 : (writeF l).getD ((writeF l).length - 1) 0 = 41 := getD_last _ 41
  have hin : ((writeF l).take ((writeF l).length - 1)).drop 1 = joinS [32] (l.map writeV) := inner_wrap 40 41 _
  rw [read_yes (X := some l) (by rintro (e | e | e); omega; exact e h0; exact e h1) (by rw [hin]; exact read_list l h _ (by omega))]
  rfl

/-! ### Axes -/
theorem Whole.join {X : List Str} (h : ∀ x ∈ X, Whole x) : Whole (joinS [32] X) := by
  cases X with
  | nil => exact Whole.nil
  | cons x r =>
    rw [joinS_flat]
    refine (h x (by simp)).app ?_
    have : ∀ r : List Str, (∀ y ∈ r, Whole y) → Whole (r.flatMap fun y => [32] ++ y) := by
      intro r
      induction r with
      | nil => intro _; exact Whole.nil
      | cons y r ih => intro h; rw [List.flatMap_cons]; exact ((clean_whole (by decide)).app (h y (by simp))).app (ih fun z hz => h z (by simp [hz]))
    exact this r fun y hy => h y (by simp [hy])
theorem writeV_whole (v : Str) : Whole (writeV v) := by
  unfold writeV
  split
  · rename_i h
    unfold plainB at h
    simp only [Bool.and_eq_true] at h
    refine clean_whole fun x hx => ?_
    have := List.all_eq_true.1 h.1 x hx
    simp only [Bool.and_eq_true] at this
    exact ⟨fun e => by subst e; exact absurd this.2 (by decide), fun e => by subst e; exact absurd this.2 (by decide)⟩
  · exact quote_whole v
theorem writeF_whole (l : List Str) : Whole (writeF l) := by
  unfold writeF
  refine ((clean_whole (by decide)).app (Whole.join fun x hx => ?_)).app (clean_whole (by decide))
  obtain ⟨y, _, rfl⟩ := List.mem_map.1 hx
  exact writeV_whole y
theorem close_firm : Firm [41] := ⟨41, [], [], 41, rfl, rfl, rfl, rfl⟩
theorem writeF_firm (l : List Str) : Firm (writeF l) := by
  have h40 : Firm [40] := ⟨40, [], [], 40, rfl, rfl, rfl, rfl⟩
  exact h40.append (w := joinS [32] (l.map writeV)) close_firm
theorem valid_all {l : List Axs} (h : validL l = true) : ∀ a ∈ l, validA a = true := fun a ha => by
  unfold validL at h
  simp only [Bool.and_eq_true] at h
  obtain ⟨i, hi, rfl⟩ := List.getElem_of_mem ha
  have := (dist_at h.2 hi).1
  rwa [getD_get hi] at this
end Go.Plain

namespace Go.Plain
open Go Go.Sep
set_option linter.unusedSimpArgs false
set_option linter.unusedVariables false

def letB (c : UInt8) : Bool := (decide (65 ≤ c) && decide (c ≤ 90)) || (decide (97 ≤ c) && decide (c ≤ 122))
def lowV (p : Prm) : Prm := (p.1, lower p.2)
theorem same_self (axis x : Str) : sameF axis x x = true := decide_eq_true rfl
end Go.Plain
