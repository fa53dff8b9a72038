/-
  Plain laws of splitting lists, of cutting at a byte, of language tags, of quality values, and of preferences. No program in sight.
-/
import Derived.Test.YtikllmfjgpmcnaaDoorLaw07
import Derived.Lib.Bytealg
namespace Go.Plain
open Go
set_option linter.unusedSimpArgs false
set_option linter.unusedVariables false

section
variable {v : Str} {i fr st : Nat} {acc X : List Str}
theorem split_put (hi : i ≤ v.length) (h2 : ¬ i < v.length ∨ (st = 0 ∧ v.getD i 0 = 44)) (h3 : ¬ trim ((v.take i).drop fr) = []) (e : acc ++ rest7 v i fr st = X) : acc ++ [trim ((v.take i).drop fr)] ++ rest7 v (i + 1) (i + 1) st = X := by
  by_cases h : i < v.length
  · obtain ⟨a, b⟩ := h2.resolve_left (fun q => q h)
    have := split_cut h a b e
    rwa [if_neg h3] at this
  · have := split_last (by omega) e
    rwa [if_neg h3] at this
theorem split_skip (hi : i ≤ v.length) (h2 : ¬ i < v.length ∨ (st = 0 ∧ v.getD i 0 = 44)) (h3 : trim ((v.take i).drop fr) = []) (e : acc ++ rest7 v i fr st = X) : acc ++ rest7 v (i + 1) (i + 1) st = X := by
  by_cases h : i < v.length
  · obtain ⟨a, b⟩ := h2.resolve_left (fun q => q h)
    have := split_cut h a b e
    rwa [if_pos h3, List.append_nil] at this
  · have := split_last (by omega) e
    rwa [if_pos h3, List.append_nil] at this
end
theorem take_min {α : Type} {X : List α} {n : Nat} : (X.take (min X.length n)).drop 0 = X.take n := by
  rw [List.drop_zero]
  by_cases h : X.length ≤ n
  · rw [Nat.min_eq_left h, List.take_length, List.take_of_length_le h]
  · rw [Nat.min_eq_right (by omega)]

/-! ### Cutting at a byte -/
theorem pos_cons (b : UInt8) (r : Str) (c : UInt8) : pos (b :: r) c = if b = c then 0 else pos r c + 1 := by
  unfold pos
  rw [List.findIdx_cons]
  by_cases h : b = c <;> simp [h]
theorem cutAt_some {c : UInt8} : ∀ {t : Str} (cur : Str), pos t c < t.length → cutAt c cur t = (cur ++ t.take (pos t c)) :: cutAt c [] (t.drop (pos t c + 1))
  | [], cur, h => by simp at h
  | b :: r, cur, h => by
    rw [pos_cons] at h ⊢
    by_cases hb : b = c
    · rw [cutAt, if_pos hb, if_pos hb]; simp
    · rw [if_neg hb] at h ⊢
      rw [cutAt, if_neg hb, cutAt_some (t := r) (cur ++ [b]) (by simpa using h)]
      simp
theorem cutAt_none {c : UInt8} : ∀ {t : Str} (cur : Str), ¬ pos t c < t.length → cutAt c cur t = [cur ++ t]
  | [], cur, h => by simp [cutAt]
  | b :: r, cur, h => by
    rw [pos_cons] at h
    by_cases hb : b = c
    · rw [if_pos hb] at h; simp at h
    · rw [if_neg hb] at h
      rw [cutAt, if_neg hb, cutAt_none (t := r) (cur ++ [b]) (by simpa using h)]
      simp
theorem count_some {c : UInt8} : ∀ {t : Str}, pos t c < t.length → (t.drop (pos t c + 1)).count c + 1 = t.count c
  | [], h => by simp at h
  | b :: r, h => by
    rw [pos_cons] at h ⊢
    by_cases hb : b = c
    · rw [if_pos hb]; simp [hb]
    · rw [if_neg hb] at h ⊢
      have := count_some (t := r) (by simpa using h)
      rw [List.count_cons_of_ne hb]
      simpa using this
theorem count_none {c : UInt8} {t : Str} (h : ¬ pos t c < t.length) : t.count c = 0 := by
  rw [List.count_eq_zero]
  intro hm
  apply h
  unfold pos
  exact List.findIdx_lt_length_of_exists ⟨c, hm, by simp⟩
theorem cutAt_length {c : UInt8} : ∀ (t cur : Str), (cutAt c cur t).length = t.count c + 1
  | [], cur => by simp [cutAt]
  | b :: r, cur => by
    rw [cutAt]
    by_cases hb : b = c
    · rw [if_pos hb, List.length_cons, cutAt_length r [], hb, List.count_cons_self]
    · rw [if_neg hb, cutAt_length r (cur ++ [b]), List.count_cons_of_ne hb]
theorem cutAt_mem {c : UInt8} : ∀ (t cur : Str), ∀ x ∈ cutAt c cur t, x.length ≤ cur.length + t.length
  | [], cur, x, hx => by simp [cutAt] at hx; simp [hx]
  | b :: r, cur, x, hx => by
    rw [cutAt] at hx
    by_cases hb : b = c
    · rw [if_pos hb] at hx
      rcases List.mem_cons.1 hx with rfl | hx
      · omega
      · have := cutAt_mem r [] x hx; simp at this ⊢; omega
    · rw [if_neg hb] at hx
      have := cutAt_mem r (cur ++ [b]) x hx
      simp at this ⊢; omega
theorem subt_mem (s : Str) : ∀ x ∈ subt s, x.length ≤ s.length := fun x hx => by have := cutAt_mem s [] x hx; simpa using this
theorem count_len (c : UInt8) (s : Str) : s.count c ≤ s.length := List.count_le_length
theorem subt_length (s : Str) : (subt s).length ≤ s.length + 1 := by unfold subt; rw [cutAt_length]; have := count_len 45 s; omega
theorem gs_go {xs : List Str} {i : Nat} {t : Str} {c : UInt8} {X : List Str} (hi : i < xs.length) (hp : pos t c < t.length) (e : xs.take i ++ cutAt c [] t = X) : (xs.set i (t.take (pos t c))).take (i + 1) ++ cutAt c [] (t.drop (pos t c + 1)) = X := by
  rw [← e, cutAt_some [] hp, List.nil_append, List.take_succ_eq_append_getElem (by simpa using hi), List.take_set, List.set_eq_of_length_le (by rw [List.length_take]; omega)]
  simp
theorem gs_end {xs : List Str} {i : Nat} {t : Str} {c : UInt8} {X : List Str} (hi : i < xs.length) (hp : ¬ pos t c < t.length) (e : xs.take i ++ cutAt c [] t = X) : (xs.set i t).take (i + 1) = X := by
  rw [← e, cutAt_none [] hp, List.nil_append, List.take_succ_eq_append_getElem (by simpa using hi), List.take_set, List.set_eq_of_length_le (by rw [List.length_take]; omega)]
  simp

/-! ### Language tags -/
def lowOk (d : Bool) (c : UInt8) : Bool := (decide (97 ≤ c) && decide (c ≤ 122)) || (d && digB c)
theorem low_sub (d : Bool) (s : Str) : (lower s).all (lowOk d) = s.all (fun c => alphaB c || (d && digB c)) := by
  unfold lower
  rw [List.all_map]
  congr 1
  funext c
  cases d
  · simpa using all_u8 (fun c => decide (lowOk false (lowerB c) = (alphaB c || (false && digB c)))) (by decide +kernel) c
  · simpa using all_u8 (fun c => decide (lowOk true (lowerB c) = (alphaB c || (true && digB c)))) (by decide +kernel) c
theorem sub_bad {d : Bool} {s : Str} {i : Nat} (h : i < (lower s).length) (h2 : lowOk d ((lower s).getD i 0) = false) : subOk d s = false := by
  unfold subOk
  rw [← low_sub]
  have : (lower s).all (lowOk d) = false := by
    rw [List.all_eq_false]
    exact ⟨_, getD_mem h, by rw [h2]; simp⟩
  rw [this]; rfl
theorem sub_end {d : Bool} {s : Str} (h : (lower s).all (lowOk d) = true) : subOk d s = (!decide (s = []) && decide (s.length ≤ 8)) := by
  unfold subOk
  rw [← low_sub, h]; rfl
theorem tag_bad {s : Str} {i : Nat} (h : i < (subt s).length) (h2 : subOk (decide (0 < i)) ((subt s).getD i []) = false) : tagF s = false := by
  unfold tagF
  generalize subt s = X at h h2 ⊢
  cases X with
  | nil => rfl
  | cons x r =>
    cases i with
    | zero => simp at h2; simp [h2]
    | succ i =>
      have : r.all (subOk true) = false := by
        rw [List.all_eq_false]
        refine ⟨_, getD_mem (dd := []) (i := i) (by simpa using h), ?_⟩
        simp at h2; simp [h2]
      show (subOk false x && r.all (subOk true)) = false
      rw [this]; simp
theorem tag_end {s : Str} (h : ∀ k, k < (subt s).length → subOk (decide (0 < k)) ((subt s).getD k []) = true) : tagF s = true := by
  have h0 : (subt s).length ≠ 0 := by unfold subt; rw [cutAt_length]; omega
  unfold tagF
  generalize subt s = X at h h0 ⊢
  cases X with
  | nil => simp at h0
  | cons x r =>
    have h1 := h 0 (by simp)
    simp only [Nat.lt_irrefl, decide_false, List.getD_cons_zero] at h1
    have h2 : r.all (subOk true) = true := by
      rw [List.all_eq_true]
      intro y hy
      obtain ⟨k, hk, rfl⟩ := List.getElem_of_mem hy
      have := h (k + 1) (by simpa using hk)
      simpa [List.getD_eq_getElem?_getD, hk] using this
    simp [h1, h2]

/-! ### Quality values -/
theorem wq_le (i : Nat) : wq i ≤ 1000 := by unfold wq; (repeat' split) <;> omega
theorem digV_le (c : UInt8) : digV c ≤ 255 := by have := (c - 48).toNat_lt; unfold digV; omega
theorem wd_le (i : Nat) (c : UInt8) : wq i * digV c ≤ 255000 := by
  have := Nat.mul_le_mul (wq_le i) (digV_le c)
  omega
theorem wq_get {i : Nat} (h : i < 5) : [((1000 : Nat) : Int), ((0 : Nat) : Int), ((100 : Nat) : Int), ((10 : Nat) : Int), ((1 : Nat) : Int)].getD i 0 = ((wq i : Nat) : Int) := by
  have : i = 0 ∨ i = 1 ∨ i = 2 ∨ i = 3 ∨ i = 4 := by omega
  rcases this with rfl | rfl | rfl | rfl | rfl <;> rfl
theorem sumQ_one (s : Str) : sumQ s (1 + 1) = sumQ s 1 := by unfold sumQ; rw [List.range_succ, List.foldl_append]; rfl
theorem sumQ_step {s : Str} {i : Nat} (h : ¬ i = 1) : sumQ s (i + 1) = sumQ s i + wq i * digV (s.getD i 0) := by
  unfold sumQ; rw [List.range_succ, List.foldl_append]; simp [h]
theorem badQ_len {s : Str} (h : badQ s = false) : 0 < s.length ∧ s.length ≤ 5 := by
  unfold badQ at h
  simp only [Bool.or_eq_false_iff, decide_eq_false_iff_not] at h
  have := List.length_pos_iff.2 h.1.1.1
  omega
theorem dig_step {s : Str} {i : Nat} (hi : i < s.length) (h : digB (s.getD i 0) = true) (e : ((s.take i).drop 2).all digB = true) : ((s.take (i + 1)).drop 2).all digB = true := by
  by_cases h2 : 2 ≤ i
  · rw [take_drop_step hi h2, List.all_append, e]; simp only [List.all_cons, List.all_nil, h]; rfl
  · rw [List.drop_of_length_le (by rw [List.length_take]; omega)]; rfl
theorem dig_one {s : Str} : ((s.take (1 + 1)).drop 2).all digB = true := by
  rw [List.drop_of_length_le (by rw [List.length_take]; omega)]; rfl
theorem parseQ_bad {s : Str} (h : badQ s = true) : parseQ s = (0, false) := if_pos h
theorem parseQ_dig {s : Str} {i : Nat} (hb : badQ s = false) (hi : i < s.length) (h1 : ¬ i = 1) (h : digB (s.getD i 0) = false) : parseQ s = (0, false) := by
  have h2 : 2 ≤ i := by
    rcases Nat.lt_or_ge i 2 with h2 | h2
    · obtain rfl : i = 0 := by omega
      unfold badQ at hb
      simp only [Bool.or_eq_false_iff, Bool.and_eq_false_iff, Bool.not_eq_false', decide_eq_true_eq] at hb
      rcases hb.1.2 with e | e <;> (rw [e] at h; revert h; decide)
    · exact h2
  have hd : digsQ s = false := by
    unfold digsQ
    rw [List.all_eq_false]
    refine ⟨s.getD i 0, ?_, by rw [h]; simp⟩
    rw [getD_get hi]
    have : i - 2 < (s.drop 2).length := by rw [List.length_drop]; omega
    have h3 : (s.drop 2)[i - 2] = s[i] := by rw [List.getElem_drop]; congr 1; omega
    rw [← h3]; exact List.getElem_mem this
  unfold parseQ
  rw [if_neg (by rw [hb]; simp), if_pos hd]
theorem digs_end {s : Str} {i : Nat} (hi : s.length ≤ i) (e : ((s.take i).drop 2).all digB = true) : digsQ s = true := by
  rw [take_over hi] at e; exact e
theorem parseQ_big {s : Str} (hb : badQ s = false) (hd : digsQ s = true) (h : 1000 < sumQ s s.length) : parseQ s = (0, false) := by
  unfold parseQ; rw [if_neg (by rw [hb]; simp), if_neg (by rw [hd]; simp), if_pos h]
theorem parseQ_ok {s : Str} (hb : badQ s = false) (hd : digsQ s = true) (h : ¬ 1000 < sumQ s s.length) : parseQ s = (sumQ s s.length, true) := by
  unfold parseQ; rw [if_neg (by rw [hb]; simp), if_neg (by rw [hd]; simp), if_neg h]
theorem parseQ_le (s : Str) : (parseQ s).1 ≤ 1000 := by unfold parseQ; (repeat' split) <;> simp <;> omega

/-! ### Preferences -/
theorem kindF_hit {name : Str} {k : Nat} (h1 : 1 ≤ k) (h2 : k ≤ 4) (hm : ∀ j : Nat, 1 ≤ j → j < k → fold name (nameK (j : Int)) = false) (h : fold name (nameK (k : Int)) = true) : kindF name = (k : Int) := by
  have : k = 1 ∨ k = 2 ∨ k = 3 ∨ k = 4 := by omega
  rcases this with rfl | rfl | rfl | rfl
  · have a : fold name (nameK 1) = true := h
    unfold kindF; rw [if_pos a]; rfl
  · have a1 : fold name (nameK 1) = false := hm 1 (by omega) (by omega)
    have a : fold name (nameK 2) = true := h
    unfold kindF; rw [if_neg (by rw [a1]; simp), if_pos a]; rfl
  · have a1 : fold name (nameK 1) = false := hm 1 (by omega) (by omega)
    have a2 : fold name (nameK 2) = false := hm 2 (by omega) (by omega)
    have a : fold name (nameK 3) = true := h
    unfold kindF; rw [if_neg (by rw [a1]; simp), if_neg (by rw [a2]; simp), if_pos a]; rfl
  · have a1 : fold name (nameK 1) = false := hm 1 (by omega) (by omega)
    have a2 : fold name (nameK 2) = false := hm 2 (by omega) (by omega)
    have a3 : fold name (nameK 3) = false := hm 3 (by omega) (by omega)
    have a : fold name (nameK 4) = true := h
    unfold kindF; rw [if_neg (by rw [a1]; simp), if_neg (by rw [a2]; simp), if_neg (by rw [a3]; simp), if_pos a]; rfl
theorem kindF_none {name : Str} {k : Nat} (h2 : 4 < k) (hm : ∀ j : Nat, 1 ≤ j → j < k → fold name (nameK (j : Int)) = false) : kindF name = 0 := by
  have a1 : fold name (nameK 1) = false := hm 1 (by omega) (by omega)
  have a2 : fold name (nameK 2) = false := hm 2 (by omega) (by omega)
  have a3 : fold name (nameK 3) = false := hm 3 (by omega) (by omega)
  have a4 : fold name (nameK 4) = false := hm 4 (by omega) (by omega)
  unfold kindF; rw [if_neg (by rw [a1]; simp), if_neg (by rw [a2]; simp), if_neg (by rw [a3]; simp), if_neg (by rw [a4]; simp)]
theorem pref_bad {kind : Int} {s : Str} (h : (parseP s).2.2 = false) : prefF kind s = (([], 0), false) := if_pos h
theorem pref_badq {kind : Int} {s : Str} (h : ¬ (parseP s).2.2 = false) (hq : qAt (parseP s).2.1 < (parseP s).2.1.length) (h2 : (parseQ ((parseP s).2.1.getD (qAt (parseP s).2.1) ([], [])).2).2 = false) : prefF kind s = (([], 0), false) := by
  unfold prefF; rw [if_neg h, if_pos hq, if_pos h2]
theorem pref_q {kind : Int} {s : Str} (h : ¬ (parseP s).2.2 = false) (hq : qAt (parseP s).2.1 < (parseP s).2.1.length) (h2 : ¬ (parseQ ((parseP s).2.1.getD (qAt (parseP s).2.1) ([], [])).2).2 = false) :
    prefF kind s = (((rangedF kind (parseP s).1 ((parseP s).2.1.take (qAt (parseP s).2.1))).1, (((parseQ ((parseP s).2.1.getD (qAt (parseP s).2.1) ([], [])).2).1 : Nat) : Int)), (rangedF kind (parseP s).1 ((parseP s).2.1.take (qAt (parseP s).2.1))).2) := by
  unfold prefF; rw [if_neg h, if_pos hq, if_neg h2]
theorem pref_plain {kind : Int} {s : Str} (h : ¬ (parseP s).2.2 = false) (hq : ¬ qAt (parseP s).2.1 < (parseP s).2.1.length) : prefF kind s = (((rangedF kind (parseP s).1 (parseP s).2.1).1, 1000), (rangedF kind (parseP s).1 (parseP s).2.1).2) := by
  unfold prefF; rw [if_neg h, if_neg hq]
end Go.Plain
