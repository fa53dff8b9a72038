/-
  Plain functions of the axes of Variants: values, lists of axes, lists of values in parentheses. No program in sight.
  Plain laws of runes: what is read at a byte, and that no byte of a longer rune is a sign. No program in sight.
  Plain laws for reading and writing values in parentheses, step by step. No program in sight.
  Plain laws of the axes of Variants, step by step. No program in sight.
  Plain laws of the axes of Variants, as the reference asks them. No program in sight.
  Plain law: the text of a valid list of axes is read as this list. No program in sight.
  Plain laws: how reading goes along with lower case; values of an axis and their lower case. No program in sight.
-/
import Derived.Test.YtgahnjchpomcfaaDoorSLawA
import Derived.Test.YtgahnjchpomcfaaDoorSSep2
namespace Go.Plain
open Go
set_option linter.unusedSimpArgs false
set_option linter.unusedVariables false

abbrev Axs := Str × List Str

/-! ### Lists whose elements are all fine and all different -/
section dist
variable {α : Type} {ok : α → Bool} {eqv : α → α → Bool} {dd : α} {l : List α} {n i : Nat}
def distB (ok : α → Bool) (eqv : α → α → Bool) (dd : α) (l : List α) (n : Nat) : Bool := (List.range n).all (fun i => ok (l.getD i dd) && !(l.take i).any (eqv (l.getD i dd)))
theorem dist_step : distB ok eqv dd l (n + 1) = (distB ok eqv dd l n && (ok (l.getD n dd) && !(l.take n).any (eqv (l.getD n dd)))) := by
  unfold distB; rw [List.range_succ, List.all_append]; simp
theorem dist_bad (h : i < n) (h2 : ok (l.getD i dd) = false ∨ (l.take i).any (eqv (l.getD i dd)) = true) : distB ok eqv dd l n = false := by
  unfold distB
  rw [List.all_eq_false]
  exact ⟨i, List.mem_range.2 h, by rcases h2 with h2 | h2 <;> rw [h2] <;> simp⟩
theorem dist_go (h : distB ok eqv dd l n = true) (h1 : ok (l.getD n dd) = true) (h2 : (l.take n).any (eqv (l.getD n dd)) = false) : distB ok eqv dd l (n + 1) = true := by rw [dist_step, h, h1, h2]; rfl
end dist

/-! ### Values of an axis -/
def parOk (l : List Prm) (n : Nat) : Bool := distB (fun p => !decide (p.1 = [113])) (fun p x => decide (x.1 = p.1)) ([], []) l n
def formF (k : Int) (s : Str) : Str × Bool :=
  if k = 1 then (lower s, (parseT s).2 && parOk (parseT s).1.2.2 (parseT s).1.2.2.length)
  else if k = 2 then (lower s, tagF s)
  else if k = 3 ∨ k = 4 then (canonical k s, token s && !decide (s = [42]))
  else (s, ((decide (1 ≤ s.length) && decide (s.length ≤ 100)) && text s) && decide (trim s = s))
def valueF (axis s : Str) : Bool := (formF (kindF axis) s).2
def sameF (axis a b : Str) : Bool := decide ((formF (kindF axis) a).1 = (formF (kindF axis) b).1)
theorem form1 {k : Int} {s : Str} (h : k = 1) : formF k s = (lower s, (parseT s).2 && parOk (parseT s).1.2.2 (parseT s).1.2.2.length) := if_pos h
theorem form3 {k : Int} {s : Str} (h1 : ¬ k = 1) (h2 : ¬ k = 2) (h : k = 3 ∨ k = 4) : formF k s = (canonical k s, token s && !decide (s = [42])) := by unfold formF; rw [if_neg h1, if_neg h2, if_pos h]
theorem form5 {k : Int} {s : Str} (h1 : ¬ k = 1) (h2 : ¬ k = 2) (h3 : ¬ k = 3) (h4 : ¬ k = 4) : formF k s = (s, ((decide (1 ≤ s.length) && decide (s.length ≤ 100)) && text s) && decide (trim s = s)) := by unfold formF; rw [if_neg h1, if_neg h2, if_neg (by omega)]

def validV (k : Int) (l : List Str) : Bool := (decide (1 ≤ l.length) && decide (l.length ≤ 16)) && distB (fun s => (formF k s).2) (fun a b => decide ((formF k b).1 = (formF k a).1)) [] l l.length
def validA (a : Axs) : Bool := (token a.1 && decide (lower a.1 = a.1)) && validV (kindF a.1) a.2
def validL (l : List Axs) : Bool := (decide (1 ≤ l.length) && decide (l.length ≤ 4)) && distB validA (fun a b => decide (a.1 = b.1)) ([], []) l l.length

/-! ### Values in parentheses -/
def spB (c : UInt8) : Bool := decide (c = 32)
def gsigns : Str := [32, 9, 40, 41, 44, 34]
def bareB (c : UInt8) : Bool := !gsigns.any (fun x => decide (x = c))
def bareLen (s : Str) : Nat := s.findIdx (fun c => !bareB c)
def quoGo : Nat → Str → Nat
  | _, [] => 0
  | n, [b] => if b = 34 then n + 1 else 0
  | n, b :: x :: r => if b = 92 then quoGo (n + 2) r else if b = 34 then n + 1 else quoGo (n + 1) (x :: r)
def quoLen (s : Str) : Nat := quoGo 1 (s.drop 1)
def pieceLen (s : Str) : Nat := if s.getD 0 0 = 34 then quoLen s else bareLen s
def pieceVal (s : Str) : Option Str :=
  if pieceLen s = 0 ∨ (pieceLen s < s.length ∧ ¬ s.getD (pieceLen s) 0 = 32) then none
  else if s.getD 0 0 = 34 then (if (unq (s.take (pieceLen s))).2 = true then some (unq (s.take (pieceLen s))).1 else none) else some (s.take (pieceLen s))
def readGo : Nat → List Str → Str → Option (List Str)
  | 0, _, _ => none
  | f + 1, acc, s => if trimL spB s = [] then some acc else match pieceVal (trimL spB s) with
    | none => none
    | some v => readGo f (acc ++ [v]) ((trimL spB s).drop (pieceLen (trimL spB s)))
def readF (s : Str) : List Str × Bool :=
  if s.length < 2 ∨ ¬ s.getD 0 0 = 40 ∨ ¬ s.getD (s.length - 1) 0 = 41 then ([], false)
  else ((readGo s.length [] ((s.take (s.length - 1)).drop 1)).getD [], (readGo s.length [] ((s.take (s.length - 1)).drop 1)).isSome)
def visB (c : UInt8) : Bool := decide (33 ≤ c) && decide (c ≤ 126)
def plainB (s : Str) : Bool := s.all (fun c => visB c && bareB c) && !decide (s = [])
def writeV (s : Str) : Str := if plainB s = true then s else quote s
def writeF (l : List Str) : Str := ([40] ++ joinS [32] (l.map writeV)) ++ [41]

/-! ### The first element of a kind -/
def idxP {α : Type} (q : α → Bool) (l : List α) : Int := if l.findIdx q < l.length then (l.findIdx q : Int) else -1
theorem idxP_hit {α : Type} {q : α → Bool} {l : List α} {i : Nat} {dd : α} (h : i < l.length) (h0 : (l.take i).any q = false) (h1 : q (l.getD i dd) = true) : idxP q l = (i : Int) := by
  have e : l.findIdx q = i := by
    rw [List.findIdx_eq h]
    rw [getD_get h] at h1
    refine ⟨h1, fun j hj => ?_⟩
    have := List.any_eq_false.1 h0 l[j] (List.mem_take_iff_getElem.2 ⟨j, by omega, rfl⟩)
    simpa using this
  rw [idxP, e, if_pos h]
theorem idxP_none {α : Type} {q : α → Bool} {l : List α} (h : l.any q = false) : idxP q l = -1 := by
  rw [idxP, if_neg]
  intro e
  have := List.findIdx_lt_length.1 e
  obtain ⟨x, hx, h1⟩ := this
  exact absurd h1 (by simpa using List.any_eq_false.1 h x hx)
theorem idxP_ge {α : Type} (q : α → Bool) (l : List α) : decide ((0 : Int) ≤ idxP q l) = l.any q := by
  unfold idxP
  cases h : l.any q with
  | true =>
    have : l.findIdx q < l.length := List.findIdx_lt_length.2 (by simpa using h)
    rw [if_pos this]; simp
  | false =>
    have : ¬ l.findIdx q < l.length := fun e => by
      obtain ⟨x, hx, h1⟩ := List.findIdx_lt_length.1 e
      exact absurd h1 (by simpa using List.any_eq_false.1 h x hx)
    rw [if_neg this]; simp

/-! ### The first byte out of a list of signs, rune by rune -/
def idxR (r : Int) : Int := if 0 ≤ r ∧ r < 128 then idx gsigns (UInt8.ofNat r.toNat) else -1

/-! ### The fields -/
def sVariants : Str := [86, 97, 114, 105, 97, 110, 116, 115]
def sVariantKey : Str := [86, 97, 114, 105, 97, 110, 116, 45, 75, 101, 121]
def axisT (a : Axs) : Str := (a.1 ++ [61]) ++ writeF a.2
def axesT (l : List Axs) : Str := joinS [44, 32] (l.map axisT)
def formatV (l : List Axs) : Str := if validL l = true then axesT l else []
def axOne (m : Str) : Option Axs :=
  if (pos m 61 < m.length ∧ token (m.take (pos m 61)) = true) ∧ (readF (m.drop (pos m 61 + 1))).2 = true then some (lower (m.take (pos m 61)), (readF (m.drop (pos m 61 + 1))).1) else none
def axsGo : List Axs → List Str → Option (List Axs)
  | acc, [] => some acc
  | acc, m :: r => match axOne m with
    | none => none
    | some a => axsGo (acc ++ [a]) r
def parseV (l : List Fld) : List Axs × Int :=
  if (getF l sVariants).length = 0 then ([], 12) else match axsGo [] (allF l sVariants) with
    | none => ([], 1)
    | some out => if validL out = true then (out, 0) else ([], 11)

end Go.Plain

namespace Go.Plain
open Go Go.Sep
set_option linter.unusedSimpArgs false
set_option linter.unusedVariables false

theorem get_mk (s : Str) (i : Nat) : (⟨s.toArray⟩ : ByteArray).get! i = s.getD i 0 := by
  show s.toArray[i]! = _
  rw [List.getElem!_toArray, List.getElem!_eq_getElem?_getD, List.getD_eq_getElem?_getD]; rfl
theorem rune_ascii {s : Str} {p : Nat} (h : (s.getD p 0).toNat < 128) : runeAt s p = ((s.getD p 0).toNat : Nat) ∧ runeW s p = 1 := by
  unfold runeAt runeW Utf8.decode
  simp only [get_mk, Nat.add_zero, h, if_true, and_self]
/-- A rune of more than one byte, or no rune. -/
theorem rune_more {s : Str} {p : Nat} (hp : p < s.length) (h : 128 ≤ (s.getD p 0).toNat) : 128 ≤ runeAt s p ∧ 1 ≤ runeW s p ∧ p + runeW s p ≤ s.length ∧ ∀ j, j < runeW s p → 128 ≤ (s.getD (p + j) 0).toNat := by
  have hz : (⟨s.toArray⟩ : ByteArray).size = s.length := by simp [ByteArray.size]
  have hb : ∀ k, (s.getD (p + k) 0).toNat < 256 := fun k => (s.getD (p + k) 0).toNat_lt
  have hb0 := hb 0
  rw [Nat.add_zero] at hb0
  unfold runeAt runeW Utf8.decode
  simp only [get_mk, Nat.add_zero, hz]
  rw [if_neg (by omega)]
  have one : ∀ j, j < 1 → 128 ≤ (s.getD (p + j) 0).toNat := fun j hj => by rw [show j = 0 by omega, Nat.add_zero]; exact h
  have hE : Utf8.runeError = 65533 := rfl
  split
  · rename_i h2
    simp only [Bool.and_eq_true, beq_iff_eq, decide_eq_true_eq] at h2
    split
    · exact ⟨by dsimp only; omega, by dsimp only; omega, by dsimp only; omega, fun j hj => by dsimp only at hj; rcases (show j = 0 ∨ j = 1 by omega) with rfl | rfl; simpa using h; omega⟩
    · exact ⟨by dsimp only; rw [hE]; omega, by dsimp only; omega, by dsimp only; omega, one⟩
  · split
    · rename_i h2
      simp only [Bool.and_eq_true, beq_iff_eq, decide_eq_true_eq] at h2
      split
      · rename_i h3
        simp only [Bool.and_eq_true, decide_eq_true_eq] at h3
        exact ⟨by dsimp only; omega, by dsimp only; omega, by dsimp only; omega, fun j hj => by dsimp only at hj; rcases (show j = 0 ∨ j = 1 ∨ j = 2 by omega) with rfl | rfl | rfl; simpa using h; omega; omega⟩
      · exact ⟨by dsimp only; rw [hE]; omega, by dsimp only; omega, by dsimp only; omega, one⟩
    · split
      · rename_i h2
        simp only [Bool.and_eq_true, beq_iff_eq, decide_eq_true_eq] at h2
        split
        · rename_i h3
          simp only [Bool.and_eq_true, decide_eq_true_eq] at h3
          exact ⟨by dsimp only; omega, by dsimp only; omega, by dsimp only; omega, fun j hj => by dsimp only at hj; rcases (show j = 0 ∨ j = 1 ∨ j = 2 ∨ j = 3 by omega) with rfl | rfl | rfl | rfl; simpa using h; omega; omega; omega⟩
        · exact ⟨by dsimp only; rw [hE]; omega, by dsimp only; omega, by dsimp only; omega, one⟩
      · exact ⟨by dsimp only; rw [hE]; omega, by dsimp only; omega, by dsimp only; omega, one⟩

theorem rune_facts {s : Str} {p : Nat} (hp : p < s.length) : 1 ≤ runeW s p ∧ p + runeW s p ≤ s.length ∧ 0 ≤ runeAt s p := by
  by_cases h : (s.getD p 0).toNat < 128
  · have := rune_ascii h; omega
  · have := rune_more hp (by omega); omega

def sgB (c : UInt8) : Bool := !bareB c
theorem sg_set (c : UInt8) : (setOf gsigns).getD c.toNat false = sgB c := by
  have := all_u8 (fun c => (setOf gsigns).getD c.toNat false == sgB c) (by decide +kernel) c
  simpa using this
theorem sg_big {c : UInt8} (h : 128 ≤ c.toNat) : sgB c = false := by
  have := all_u8 (fun c => decide (c.toNat < 128) || !sgB c) (by decide +kernel) c
  simp only [Bool.or_eq_true, decide_eq_true_eq, Bool.not_eq_true'] at this
  rcases this with h2 | h2
  · omega
  · exact h2
theorem idxR_byte (c : UInt8) : c.toNat < 128 → decide (0 ≤ idxR ((c.toNat : Nat) : Int)) = sgB c := by
  have := all_u8 (fun c => !decide (c.toNat < 128) || (decide (0 ≤ idxR ((c.toNat : Nat) : Int)) == sgB c)) (by decide +kernel) c
  intro h
  simpa [h] using this
theorem idxR_big {r : Int} (h : 128 ≤ r) : idxR r = -1 := if_neg (by omega)
theorem idxR_small {r : Int} (h : 0 ≤ r ∧ r < 128) : idxR r = idx gsigns (UInt8.ofNat r.toNat) := if_pos h
theorem idxR_no {r : Int} (h : ¬ (0 ≤ r ∧ r < 128)) : idxR r = -1 := if_neg h

theorem any_ext {q : UInt8 → Bool} {s : Str} {p w : Nat} (h0 : (s.take p).any q = false) (hw : p + w ≤ s.length) (h : ∀ j, j < w → q (s.getD (p + j) 0) = false) : (s.take (p + w)).any q = false := by
  induction w with
  | zero => exact h0
  | succ w ih =>
    have h1 := ih (by omega) (fun j hj => h j (by omega))
    exact any_step (dd := 0) (show p + w < s.length by omega) h1 (h w (by omega))
theorem sg_miss {s : Str} {p : Nat} (hp : p < s.length) (h0 : (s.take p).any sgB = false) (h : ¬ 0 ≤ idxR (runeAt s p)) : p + runeW s p ≤ s.length ∧ (s.take (p + runeW s p)).any sgB = false := by
  by_cases hb : (s.getD p 0).toNat < 128
  · obtain ⟨h1, h2⟩ := rune_ascii hb
    rw [h1] at h
    have := idxR_byte _ hb
    rw [decide_eq_false h] at this
    rw [h2]
    exact ⟨by omega, any_step (dd := 0) hp h0 this.symm⟩
  · obtain ⟨h1, h2, h3, h4⟩ := rune_more hp (by omega)
    exact ⟨h3, any_ext h0 h3 fun j hj => sg_big (h4 j hj)⟩
theorem sg_hit {s : Str} {p : Nat} (hp : p < s.length) (h0 : (s.take p).any sgB = false) (h : 0 ≤ idxR (runeAt s p)) : idxP sgB s = (p : Int) := by
  by_cases hb : (s.getD p 0).toNat < 128
  · obtain ⟨h1, h2⟩ := rune_ascii hb
    rw [h1] at h
    have := idxR_byte _ hb
    rw [decide_eq_true h] at this
    exact idxP_hit hp h0 this.symm
  · obtain ⟨h1, h2, h3, h4⟩ := rune_more hp (by omega)
    rw [idxR_big h1] at h
    omega
theorem sg_none {s : Str} {p : Nat} (hp : s.length ≤ p) (h0 : (s.take p).any sgB = false) : idxP sgB s = -1 := idxP_none (any_end hp h0)
theorem gs_rune {p : Nat} (hp : p < gsigns.length) : runeAt gsigns p < 128 ∧ runeW gsigns p = 1 := by
  have hb : (gsigns.getD p 0).toNat < 128 := by
    have : ∀ k, k < 6 → (gsigns.getD k 0).toNat < 128 := by decide
    exact this p hp
  have := rune_ascii hb
  omega

/-! ### Runes of more than one byte, as text -/
theorem encR_facts {r : Int} (hv : validRune r = true) (h : 128 ≤ r) : 2 ≤ (encR r).length ∧ (encR r).length ≤ 4 ∧ 128 ≤ ((encR r).getD ((encR r).length - 1) 0).toNat := by
  rw [← validRune_eq] at hv
  obtain ⟨h1, h2, h3⟩ := encode_facts r hv h
  have hl : (encR r).length = (Utf8.encode r).size := by unfold encR; rw [Array.length_toList]; rfl
  have hlt : (Utf8.encode r).size - 1 < (Utf8.encode r).size := by omega
  refine ⟨by omega, by omega, ?_⟩
  have e : (encR r).getD ((encR r).length - 1) 0 = (Utf8.encode r)[(Utf8.encode r).size - 1]'hlt := by
    rw [getD_get (by omega)]
    simp only [hl]
    rfl
  rw [e]
  exact h3 hlt
theorem gs_ne {b : UInt8} (hb : 128 ≤ b.toNat) (i : Nat) : ¬ gsigns.getD i 0 = b := fun e => by
  have : ∀ k, k < 6 → (gsigns.getD k 0).toNat < 128 := by decide
  rcases Nat.lt_or_ge i 6 with h | h
  · have := this i h; rw [e] at this; omega
  · rw [List.getD_eq_getElem?_getD, List.getElem?_eq_none (show gsigns.length ≤ i from h)] at e
    rw [← e] at hb; exact absurd hb (by decide)
theorem gs_idx {b : UInt8} (hb : 128 ≤ b.toNat) (i : Nat) : idx (gsigns.drop i) b = -1 := by
  refine idx_none fun h => ?_
  unfold pos at h
  obtain ⟨x, hx, h1⟩ := List.findIdx_lt_length.1 h
  have hx2 := List.mem_of_mem_drop hx
  have : ∀ y ∈ gsigns, y.toNat < 128 := by decide
  have h3 := this x hx2
  simp only [decide_eq_true_eq] at h1
  subst h1
  omega

end Go.Plain

namespace Go.Plain
open Go Go.Sep
set_option linter.unusedSimpArgs false
set_option linter.unusedVariables false

theorem bare_some {s : Str} (h : 0 ≤ idxP sgB s) : idxP sgB s = ((bareLen s : Nat) : Int) := by
  unfold idxP at h ⊢
  split at h
  · rename_i h2; rw [if_pos h2]; rfl
  · omega
theorem bare_none {s : Str} (h : ¬ 0 ≤ idxP sgB s) : s.length = bareLen s := by
  unfold idxP at h
  split at h
  · omega
  · rename_i h2
    have : s.findIdx sgB ≤ s.length := List.findIdx_le_length
    show s.length = s.findIdx sgB
    omega
theorem bareLen_le (s : Str) : bareLen s ≤ s.length := List.findIdx_le_length

/-! ### The quoted string at the beginning -/
section quo
variable {s : Str} {i X : Nat}
theorem quo_done (h : s.length ≤ i) {n : Nat} (e : quoGo n (s.drop i) = X) : X = 0 := by rw [List.drop_eq_nil_of_le h] at e; exact e.symm
theorem quo_esc (h : i < s.length) (hb : s.getD i 0 = 92) {n : Nat} (e : quoGo n (s.drop i) = X) : quoGo (n + 2) (s.drop (i + 2)) = X := by
  rw [drop_step (dd := 0) h, hb] at e
  rcases Nat.lt_or_ge (i + 1) s.length with h2 | h2
  · rw [drop_step (dd := 0) h2, quoGo, if_pos rfl] at e; exact e
  · rw [List.drop_eq_nil_of_le h2, quoGo, if_neg (by decide)] at e
    rw [List.drop_eq_nil_of_le (by omega)]; exact e
theorem quo_hit (h : i < s.length) (hb : s.getD i 0 = 34) {n : Nat} (e : quoGo n (s.drop i) = X) : X = n + 1 := by
  rw [drop_step (dd := 0) h, hb] at e
  cases hr : s.drop (i + 1) with
  | nil => rw [hr, quoGo, if_pos rfl] at e; exact e.symm
  | cons x r => rw [hr, quoGo, if_neg (by decide), if_pos rfl] at e; exact e.symm
theorem quo_next (h : i < s.length) (h1 : ¬ s.getD i 0 = 92) (h2 : ¬ s.getD i 0 = 34) {n : Nat} (e : quoGo n (s.drop i) = X) : quoGo (n + 1) (s.drop (i + 1)) = X := by
  rw [drop_step (dd := 0) h] at e
  cases hr : s.drop (i + 1) with
  | nil => rw [hr, quoGo, if_neg h2] at e; exact e
  | cons x r => rw [hr, quoGo, if_neg h1, if_neg h2] at e; exact e
theorem quoGo_le : ∀ (t : Str) (n : Nat), quoGo n t ≤ n + t.length
  | [], n => by simp [quoGo]
  | [b], n => by simp only [quoGo]; split <;> simp
  | b :: x :: r, n => by
    simp only [quoGo, List.length_cons]
    have h1 := quoGo_le r (n + 2)
    have h2 := quoGo_le (x :: r) (n + 1)
    simp only [List.length_cons] at h2
    split
    · omega
    · split <;> omega
theorem quoLen_le {s : Str} (h : 0 < s.length) : quoLen s ≤ s.length := by
  have := quoGo_le (s.drop 1) 1
  rw [List.length_drop] at this
  unfold quoLen
  omega
end quo
theorem piece_le {s : Str} (h : 0 < s.length) : pieceLen s ≤ s.length := by
  unfold pieceLen; split
  · exact quoLen_le h
  · exact bareLen_le s

/-! ### Reading -/
theorem read_no {s : Str} (h : s.length < 2 ∨ ¬ s.getD 0 0 = 40 ∨ ¬ s.getD (s.length - 1) 0 = 41) : readF s = ([], false) := if_pos h
theorem read_yes {s : Str} {X : Option (List Str)} (h : ¬ (s.length < 2 ∨ ¬ s.getD 0 0 = 40 ∨ ¬ s.getD (s.length - 1) 0 = 41)) (e : readGo s.length [] ((s.take (s.length - 1)).drop 1) = X) : readF s = (X.getD [], X.isSome) := by
  rw [readF, if_neg h, e]
section go
variable {t u : Str} {acc : List Str} {X : Option (List Str)} {f : Nat}
theorem read_end (hf : t.length + 1 ≤ f) (h : trimL spB t = []) (e : readGo f acc t = X) : X = some acc := by
  obtain ⟨f, rfl⟩ : ∃ k, f = k + 1 := ⟨f - 1, by omega⟩
  rw [readGo, if_pos h] at e; exact e.symm
theorem read_bad (hf : t.length + 1 ≤ f) (h : ¬ trimL spB t = []) (hv : pieceVal (trimL spB t) = none) (e : readGo f acc t = X) : X = none := by
  obtain ⟨f, rfl⟩ : ∃ k, f = k + 1 := ⟨f - 1, by omega⟩
  rw [readGo, if_neg h, hv] at e; exact e.symm
theorem pv_pos {v : Str} (hv : pieceVal u = some v) : 0 < pieceLen u := by
  unfold pieceVal at hv
  split at hv
  · cases hv
  · rename_i h; omega
theorem read_go {v : Str} (hf : t.length + 1 ≤ f) (h : ¬ trimL spB t = []) (hv : pieceVal (trimL spB t) = some v) (e : readGo f acc t = X) :
    ((trimL spB t).drop (pieceLen (trimL spB t))).length + 1 ≤ f - 1 ∧ readGo (f - 1) (acc ++ [v]) ((trimL spB t).drop (pieceLen (trimL spB t))) = X := by
  obtain ⟨f, rfl⟩ : ∃ k, f = k + 1 := ⟨f - 1, by omega⟩
  rw [readGo, if_neg h, hv] at e
  have h1 := pv_pos hv
  have h2 : (trimL spB t).length ≤ t.length := trimL_length t
  have h3 : 0 < (trimL spB t).length := List.length_pos_iff.2 h
  have h4 := piece_le h3
  rw [List.length_drop]
  exact ⟨by omega, e⟩
theorem pl_quo (h : u.getD 0 0 = 34) : pieceLen u = quoLen u := if_pos h
theorem pl_bare (h : ¬ u.getD 0 0 = 34) : pieceLen u = bareLen u := if_neg h
theorem pv_bad (h : pieceLen u = 0 ∨ (pieceLen u < u.length ∧ ¬ u.getD (pieceLen u) 0 = 32)) : pieceVal u = none := if_pos h
theorem pv_unq_no (h : ¬ (pieceLen u = 0 ∨ (pieceLen u < u.length ∧ ¬ u.getD (pieceLen u) 0 = 32))) (hq : u.getD 0 0 = 34) (h2 : (unq (u.take (pieceLen u))).2 = false) : pieceVal u = none := by
  unfold pieceVal; rw [if_neg h, if_pos hq, h2]; simp
theorem pv_unq (h : ¬ (pieceLen u = 0 ∨ (pieceLen u < u.length ∧ ¬ u.getD (pieceLen u) 0 = 32))) (hq : u.getD 0 0 = 34) (h2 : (unq (u.take (pieceLen u))).2 = true) : pieceVal u = some (unq (u.take (pieceLen u))).1 := by
  unfold pieceVal; rw [if_neg h, if_pos hq, if_pos h2]
theorem pv_bare (h : ¬ (pieceLen u = 0 ∨ (pieceLen u < u.length ∧ ¬ u.getD (pieceLen u) 0 = 32))) (hq : ¬ u.getD 0 0 = 34) : pieceVal u = some (u.take (pieceLen u)) := by
  unfold pieceVal; rw [if_neg h, if_neg hq]
end go

/-! ### Reading by places -/
section at_
variable {s : Str} {acc : List Str} {X : Option (List Str)} {f i : Nat}
end at_

/-! ### Writing -/
theorem readGo_len : ∀ (f : Nat) (acc : List Str) (t : Str) (l : List Str), readGo f acc t = some l → l.length ≤ acc.length + t.length
  | 0, _, _, _, h => by cases h
  | f + 1, acc, t, l, h => by
    rw [readGo] at h
    split at h
    · cases h; omega
    · rename_i h0
      cases hv : pieceVal (trimL spB t) with
      | none => rw [hv] at h; cases h
      | some v =>
        rw [hv] at h
        have := readGo_len f _ _ l h
        have h1 := pv_pos hv
        have h2 : (trimL spB t).length ≤ t.length := trimL_length t
        have h3 : 0 < (trimL spB t).length := List.length_pos_iff.2 h0
        rw [List.length_append, List.length_singleton, List.length_drop] at this
        have := piece_le h3
        omega
theorem pv_len {u v : Str} (h : pieceVal u = some v) : v.length ≤ u.length := by
  unfold pieceVal at h
  split at h
  · cases h
  · split at h
    · split at h
      · cases h; exact Nat.le_trans (unq_length _) (by rw [List.length_take]; omega)
      · cases h
    · cases h; rw [List.length_take]; omega
theorem readGo_mem {n : Nat} : ∀ (f : Nat) (acc : List Str) (t : Str) (l : List Str), readGo f acc t = some l → t.length ≤ n → (∀ x ∈ acc, x.length ≤ n) → ∀ x ∈ l, x.length ≤ n
  | 0, _, _, _, h, _, _ => by cases h
  | f + 1, acc, t, l, h, hn, ha => by
    rw [readGo] at h
    split at h
    · cases h; exact ha
    · cases hv : pieceVal (trimL spB t) with
      | none => rw [hv] at h; cases h
      | some v =>
        rw [hv] at h
        have h2 : (trimL spB t).length ≤ t.length := trimL_length t
        refine readGo_mem f _ _ l h (by rw [List.length_drop]; omega) fun x hx => ?_
        rcases List.mem_append.1 hx with hx | hx
        · exact ha x hx
        · obtain rfl := List.mem_singleton.1 hx
          have := pv_len hv; omega
theorem readF_length (s : Str) : (readF s).1.length ≤ s.length := by
  unfold readF; split
  · simp
  · cases h : readGo s.length [] ((s.take (s.length - 1)).drop 1) with
    | none => simp
    | some l => have := readGo_len _ _ _ _ h; simp at this ⊢; omega
theorem readF_mem (s : Str) : ∀ x ∈ (readF s).1, x.length ≤ s.length := by
  unfold readF; split
  · simp
  · cases h : readGo s.length [] ((s.take (s.length - 1)).drop 1) with
    | none => simp
    | some l => exact readGo_mem _ _ _ _ h (by simp; omega) (by simp)
end Go.Plain

namespace Go.Plain
open Go Go.Sep
set_option linter.unusedSimpArgs false
set_option linter.unusedVariables false

theorem parOk_step (l : List Prm) (n : Nat) : parOk l (n + 1) = (parOk l n && (!decide ((l.getD n ([], [])).1 = [113]) && !(l.take n).any (fun x => decide (x.1 = (l.getD n ([], [])).1)))) := dist_step
theorem form0 {k : Int} {s : Str} (h1 : ¬ k = 1) (h2 : ¬ k = 2) (h3 : ¬ (k = 3 ∨ k = 4)) : formF k s = formF 0 s := by
  rw [form5 h1 h2 (by omega) (by omega), form5 (by decide) (by decide) (by decide) (by decide)]

/-! ### What was seen -/
theorem seen_look {g : Str → Str} {k : Str} : ∀ L : List Str, lookS (L.map fun s => (g s, true)) k = if (L.any fun b => decide (g b = k)) = true then some true else none
  | [] => rfl
  | x :: L => by
    rw [List.map_cons, lookS, List.any_cons, seen_look L]
    by_cases h : k = g x
    · subst h; simp
    · rw [if_neg h, decide_eq_false (fun e => h e.symm), Bool.false_or]
theorem seen_yes {ms : List (Str × Bool)} {g : Str → Str} {k : Str} {L : List Str} (e : ms = L.map fun s => (g s, true)) : (lookS ms k).getD false = L.any fun b => decide (g b = k) := by
  rw [e, seen_look]; cases L.any fun b => decide (g b = k) <;> simp
theorem seen_new {ms : List (Str × Bool)} {g : Str → Str} {k : Str} {L : List Str} (e : ms = L.map fun s => (g s, true)) (h : (lookS ms k).getD false = false) : lookS ms k = none := by
  rw [seen_yes e] at h
  rw [e, seen_look, h]; simp
theorem mapT_step {β : Type} {g : Str → β} {L : List Str} {i : Nat} (h : i < L.length) : (L.take (i + 1)).map g = (L.take i).map g ++ [g (L.getD i [])] := by
  rw [List.take_succ_eq_append_getElem h, List.map_append, getD_get h]; rfl

/-! ### Same, Value -/
/-! ### Lists of axes -/
theorem validV_no {k : Int} {l : List Str} (h : l.length < 1 ∨ 16 < l.length) : validV k l = false := by
  unfold validV
  rcases h with h | h
  · rw [decide_eq_false (show ¬ 1 ≤ l.length by omega)]; rfl
  · rw [decide_eq_false (show ¬ l.length ≤ 16 by omega)]; simp
theorem validV_yes {k : Int} {l : List Str} (h : 1 ≤ l.length ∧ l.length ≤ 16) : validV k l = distB (fun s => (formF k s).2) (fun a b => decide ((formF k b).1 = (formF k a).1)) [] l l.length := by
  unfold validV
  rw [decide_eq_true h.1, decide_eq_true h.2]; rfl
theorem validL_no {l : List Axs} (h : l.length < 1 ∨ 4 < l.length) : validL l = false := by
  unfold validL
  rcases h with h | h
  · rw [decide_eq_false (show ¬ 1 ≤ l.length by omega)]; rfl
  · rw [decide_eq_false (show ¬ l.length ≤ 4 by omega)]; simp
theorem validL_yes {l : List Axs} (h : 1 ≤ l.length ∧ l.length ≤ 4) : validL l = distB validA (fun a b => decide (a.1 = b.1)) ([], []) l l.length := by
  unfold validL
  rw [decide_eq_true h.1, decide_eq_true h.2]; rfl
theorem dist_done {α : Type} {ok : α → Bool} {eqv : α → α → Bool} {dd : α} {l : List α} {i : Nat} (hi : i ≤ l.length) (h : l.length ≤ i) (e : distB ok eqv dd l i = true) : distB ok eqv dd l l.length = true := by
  rw [show l.length = i by omega]; exact e
theorem validL_len {l : List Axs} (h : validL l = true) : 1 ≤ l.length ∧ l.length ≤ 4 := by
  unfold validL at h
  simp only [Bool.and_eq_true, decide_eq_true_eq] at h
  exact h.1
theorem drop0 {α : Type} {l : List α} : l.drop 0 = l := List.drop_zero

/-! ### Fields -/
section
variable {M : List Str} {acc : List Axs} {X : Option (List Axs)} {i : Nat}
end
/-! ### Bounds -/
def okA (a : Axs) : Bool := !(decide (100 < a.1.length) || !keepS a.2)
def keepA (l : List Axs) : Bool := (l.take 7).all okA && decide (l.length ≤ 6)
theorem keepA_len {l : List Axs} (h : keepA l = true) : l.length ≤ 6 := by
  unfold keepA at h; simp only [Bool.and_eq_true, decide_eq_true_eq] at h; exact h.2
theorem keepA_mem {l : List Axs} (h : keepA l = true) : ∀ a ∈ l, a.1.length ≤ 100 ∧ a.2.length ≤ 20 ∧ ∀ x ∈ a.2, x.length ≤ 100 := fun a ha => by
  have hl := keepA_len h
  unfold keepA at h
  simp only [Bool.and_eq_true, decide_eq_true_eq] at h
  have h1 := List.all_eq_true.1 h.1 a (by rw [List.take_of_length_le (by omega)]; exact ha)
  unfold okA at h1
  simp only [Bool.not_eq_true', Bool.or_eq_false_iff, decide_eq_false_iff_not, Bool.not_eq_false'] at h1
  exact ⟨by omega, keepS_len h1.2, keepS_mem h1.2⟩
def smallA (l : List Axs) : Prop := l.length ≤ 1000 ∧ ∀ a ∈ l, a.1.length ≤ 2000 ∧ a.2.length ≤ 1000000 ∧ ∀ x ∈ a.2, x.length ≤ 9000
end Go.Plain

namespace Go.Plain
open Go Go.Sep
set_option linter.unusedSimpArgs false
set_option linter.unusedVariables false

end Go.Plain

namespace Go.Plain
open Go Go.Sep
set_option linter.unusedSimpArgs false
set_option linter.unusedVariables false

/-! ### Values are texts -/
/-! ### Reading what was written -/
def tailW (r : List Str) : Str := r.flatMap fun v => 32 :: writeV v
/-! ### Axes -/
end Go.Plain

namespace Go.Plain
open Go Go.Sep
set_option linter.unusedSimpArgs false
set_option linter.unusedVariables false

def letB (c : UInt8) : Bool := (decide (65 ≤ c) && decide (c ≤ 90)) || (decide (97 ≤ c) && decide (c ≤ 122))
def lowV (p : Prm) : Prm := (p.1, lower p.2)
end Go.Plain
