/-
  Plain functions on bytes: lower case, content codings. No program in sight.
-/
import Derived.WalkKit
namespace Go.Plain

abbrev Str := List UInt8

theorem all_u8 (p : UInt8 → Bool) (h : (List.range 256).all (fun n => p (UInt8.ofNat n)) = true) (c : UInt8) : p c = true := by
  have := List.all_eq_true.1 h c.toNat (by simpa using c.toNat_lt)
  simpa using this

/-! ### Lower case -/
def lowerB (c : UInt8) : UInt8 := bif decide (65 ≤ c) && decide (c ≤ 90) then c + 32 else c
def lower (s : Str) : Str := s.map lowerB

theorem lowerB_idem (c : UInt8) : lowerB (lowerB c) = lowerB c := by
  simpa using all_u8 (fun c => decide (lowerB (lowerB c) = lowerB c)) (by decide +kernel) c
theorem lower_idem (s : Str) : lower (lower s) = lower s := by
  simp only [lower, List.map_map]
  exact List.map_congr_left fun c _ => lowerB_idem c
@[simp] theorem lower_length (s : Str) : (lower s).length = s.length := by simp [lower]

/-- After i rounds. -/
def lowerTo (s : Str) (i : Nat) : Str := lower (s.take i) ++ s.drop i
theorem lowerTo_zero (s : Str) : lowerTo s 0 = s := by simp [lowerTo, lower]
theorem lowerTo_len (s : Str) (i : Nat) : (lowerTo s i).length = s.length := by simp [lowerTo]; omega
theorem lowerTo_end (s : Str) (i : Nat) (h : s.length ≤ i) : lowerTo s i = lower s := by simp [lowerTo, List.take_of_length_le h, List.drop_of_length_le h]
theorem lowerTo_get (s : Str) (i : Nat) (h : i < s.length) : (lowerTo s i).getD i 0 = s.getD i 0 := by
  have : (lower (s.take i)).length = i := by simp; omega
  simp only [lowerTo, List.getD_eq_getElem?_getD]
  rw [List.getElem?_append_right (by omega), this, Nat.sub_self, List.getElem?_drop, Nat.add_zero]
theorem lowerTo_succ (s : Str) (i : Nat) (h : i < s.length) : lowerTo s (i + 1) = (lowerTo s i).set i (lowerB (s.getD i 0)) := by
  have hl : (lower (s.take i)).length = i := by simp; omega
  rw [lowerTo, lowerTo, List.set_append_right _ _ (by omega), hl, Nat.sub_self, List.drop_eq_getElem_cons h, List.set_cons_zero, List.take_succ_eq_append_getElem h]
  simp only [lower, List.map_append, List.map_cons, List.map_nil, List.getD_eq_getElem?_getD, List.getElem?_eq_getElem h, Option.getD_some, List.append_assoc, List.cons_append, List.nil_append]
theorem lowerTo_hit (s : Str) (i : Nat) (h : i < s.length) (h1 : 65 ≤ s.getD i 0) (h2 : s.getD i 0 ≤ 90) (d : UInt8) (hd : d = s.getD i 0 + 32) : (lowerTo s i).set i d = lowerTo s (i + 1) := by
  rw [lowerTo_succ s i h, hd]
  unfold lowerB
  rw [show (decide (65 ≤ s.getD i 0) && decide (s.getD i 0 ≤ 90)) = true from by rw [Bool.and_eq_true, decide_eq_true_eq, decide_eq_true_eq]; exact ⟨h1, h2⟩]
  rfl
theorem lowerTo_miss (s : Str) (i : Nat) (h : i < s.length) (h1 : ¬ (65 ≤ s.getD i 0 ∧ s.getD i 0 ≤ 90)) : lowerTo s (i + 1) = lowerTo s i := by
  rw [lowerTo_succ s i h]
  have : lowerB (s.getD i 0) = s.getD i 0 := by
    unfold lowerB
    rw [show (decide (65 ≤ s.getD i 0) && decide (s.getD i 0 ≤ 90)) = false from by rw [← Bool.not_eq_true]; simpa using h1]
    rfl
  rw [this, ← lowerTo_get s i h]
  have hi : i < (lowerTo s i).length := by rw [lowerTo_len]; exact h
  rw [List.getD_eq_getElem?_getD, List.getElem?_eq_getElem hi]
  simp
theorem lowerTo_hit' (s : Str) (i : Nat) (h : i < s.length) (h1 : 65 ≤ (lowerTo s i).getD i 0) (h2 : (lowerTo s i).getD i 0 ≤ 90) (d : UInt8) (hd : d = (lowerTo s i).getD i 0 + 32) : (lowerTo s i).set i d = lowerTo s (i + 1) := by
  rw [lowerTo_get s i h] at h1 h2 hd
  exact lowerTo_hit s i h h1 h2 d hd
theorem lowerTo_miss' (s : Str) (i : Nat) (h : i < s.length) (h1 : ¬ 65 ≤ (lowerTo s i).getD i 0 ∨ ¬ (lowerTo s i).getD i 0 ≤ 90) : lowerTo s (i + 1) = lowerTo s i := by
  rw [lowerTo_get s i h] at h1
  exact lowerTo_miss s i h (fun h => by rcases h1 with h1 | h1; exact h1 h.1; exact h1 h.2)
theorem add97 (c : UInt8) : c + 97 - 65 = c + 32 := by
  have := all_u8 (fun c => decide (c + 97 - 65 = c + 32)) (by decide +kernel) c
  exact of_decide_eq_true this

/-! ### Content codings -/
def sGzip : Str := [103, 122, 105, 112]
def sXgzip : Str := [120, 45, 103, 122, 105, 112]
def sCompress : Str := [99, 111, 109, 112, 114, 101, 115, 115]
def sXcompress : Str := [120, 45, 99, 111, 109, 112, 114, 101, 115, 115]

/-- coding.Canonical. -/
def canonical (kind : Int) (s : Str) : Str :=
  if kind = 4 then (if lower s = sXgzip then sGzip else if lower s = sXcompress then sCompress else lower s) else lower s
def matchCoding (kind : Int) (r v : Str) : Int := if r = [42] then 0 else if canonical kind r = canonical kind v then 1 else -1

theorem canonical_length (kind : Int) (s : Str) : (canonical kind s).length ≤ s.length + 8 := by
  unfold canonical
  split
  · split
    · simp [sGzip]
    · split
      · simp [sCompress]
      · simp
  · simp

theorem lower_canonical (kind : Int) (s : Str) : lower (canonical kind s) = canonical kind s := by
  unfold canonical
  split
  · split
    · decide
    · split
      · decide
      · exact lower_idem s
  · exact lower_idem s
theorem canonical_idem (kind : Int) (s : Str) : canonical kind (canonical kind s) = canonical kind s := by
  have h1 : canonical 4 sGzip = sGzip := by decide
  have h2 : canonical 4 sCompress = sCompress := by decide
  by_cases hk : kind = 4
  · subst hk
    by_cases ha : lower s = sXgzip
    · have : canonical 4 s = sGzip := by simp [canonical, ha]
      rw [this, h1]
    · by_cases hb : lower s = sXcompress
      · have : canonical 4 s = sCompress := by unfold canonical; rw [if_pos rfl, if_neg ha, if_pos hb]
        rw [this, h2]
      · have : canonical 4 s = lower s := by unfold canonical; rw [if_pos rfl, if_neg ha, if_neg hb]
        rw [this]
        unfold canonical
        rw [lower_idem, if_pos rfl, if_neg ha, if_neg hb]
  · simp [canonical, hk, lower_idem]
theorem canonical_lower (kind : Int) (s : Str) : canonical kind (lower s) = canonical kind s := by
  simp only [canonical, lower_idem]
theorem canonical_star (kind : Int) (s : Str) (h : s ≠ [42]) : canonical kind s ≠ [42] := by
  unfold canonical
  have hl : lower s ≠ [42] := by
    intro e
    have hn : s.length = 1 := by rw [← lower_length, e]; rfl
    match s, hn with
    | [c], _ =>
      have := of_decide_eq_true (all_u8 (fun c => decide (lowerB c = 42 → c = 42)) (by decide +kernel) c)
      simp [lower] at e
      exact h (by rw [this e])
  split
  · split
    · decide
    · split
      · decide
      · exact hl
  · exact hl
theorem match_symm (kind : Int) (x y : Str) (hx : x ≠ [42]) (hy : y ≠ [42]) : matchCoding kind x y = matchCoding kind y x := by
  unfold matchCoding
  rw [if_neg hx, if_neg hy]
  by_cases h : canonical kind x = canonical kind y
  · rw [if_pos h, if_pos h.symm]
  · rw [if_neg h, if_neg (fun e => h e.symm)]
theorem match_canonical (kind : Int) (x : Str) (hx : x ≠ [42]) : matchCoding kind x (canonical kind x) = 1 := by
  unfold matchCoding
  rw [if_neg hx, canonical_idem, if_pos rfl]
end Go.Plain
