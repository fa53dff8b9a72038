/-
  Plain functions and laws of quality and rank. No program in sight.
-/
import Derived.Test.YtikllmfjgpmcnaaDoorLaw11B
import Derived.Test.YtikllmfjgpmcnaaDoorLaw08
namespace Go.Plain
open Go
set_option linter.unusedSimpArgs false
set_option linter.unusedVariables false

def sIdent : Str := [105, 100, 101, 110, 116, 105, 116, 121]
def bestS (kind : Int) (v : Str) (s : Int × Int) (p : Prf) : Int × Int := if s.1 < matchK kind p.1 v then (matchK kind p.1 v, p.2) else s
def bestF (kind : Int) (v : Str) (l : List Prf) (q0 : Int) : Int × Int := l.foldl (bestS kind v) (-1, q0)
def qualF (kind : Int) (l : List Prf) (present : Bool) (v : Str) : Int :=
  if present = false then 1000 else if ((bestF kind v l 0).1 < 0 ∧ kind = 4) ∧ fold v sIdent = true then 1 else (bestF kind v l 0).2
section
variable {kind q0 : Int} {v : Str} {l : List Prf} {i : Nat} {present : Bool}
theorem best_step (h : i < l.length) : bestF kind v (l.take (i + 1)) q0 = bestS kind v (bestF kind v (l.take i) q0) (l.getD i ([], 0)) := by
  unfold bestF
  rw [List.take_succ_eq_append_getElem h, List.foldl_append, ← getD_get (dd := ([], 0)) h]; rfl
theorem best_hit {b q : Int} (h : i < l.length) (e : (b, q) = bestF kind v (l.take i) q0) (h2 : b < matchK kind (l.getD i ([], 0)).1 v) : (matchK kind (l.getD i ([], 0)).1 v, (l.getD i ([], 0)).2) = bestF kind v (l.take (i + 1)) q0 := by
  rw [best_step h, ← e]; unfold bestS; rw [if_pos h2]
theorem best_miss {b q : Int} (h : i < l.length) (e : (b, q) = bestF kind v (l.take i) q0) (h2 : ¬ b < matchK kind (l.getD i ([], 0)).1 v) : (b, q) = bestF kind v (l.take (i + 1)) q0 := by
  rw [best_step h, ← e]; unfold bestS; rw [if_neg h2]
theorem best_end {b q : Int} (h : ¬ i < l.length) (e : (b, q) = bestF kind v (l.take i) q0) : bestF kind v l q0 = (b, q) := by
  rw [e, List.take_of_length_le (by omega)]
theorem qual_no (h : present = false) : qualF kind l present v = 1000 := if_pos h
theorem qual_one {b q : Int} (hp : present = true) (e : bestF kind v l 0 = (b, q)) (h : (b < 0 ∧ kind = 4) ∧ fold v sIdent = true) : qualF kind l present v = 1 := by
  unfold qualF; rw [if_neg (by rw [hp]; simp), if_pos (by rw [e]; exact h)]
theorem qual_q {b q : Int} (hp : present = true) (e : bestF kind v l 0 = (b, q)) (h : ¬ ((b < 0 ∧ kind = 4) ∧ fold v sIdent = true)) : qualF kind l present v = q := by
  unfold qualF; rw [if_neg (by rw [hp]; simp), if_neg (by rw [e]; exact h), e]
theorem best_rel (q1 : Int) : (bestF kind v l q0).1 = (bestF kind v l q1).1 ∧ (-1 ≤ (bestF kind v l q0).1) ∧ ((bestF kind v l q0).1 < 0 → (bestF kind v l q0).2 = q0) ∧ (0 ≤ (bestF kind v l q0).1 → (bestF kind v l q0).2 = (bestF kind v l q1).2) := by
  have key : ∀ (l : List Prf) (s s' : Int × Int), s.1 = s'.1 → -1 ≤ s.1 → (s.1 < 0 → s.2 = q0) → (0 ≤ s.1 → s.2 = s'.2) →
      (l.foldl (bestS kind v) s).1 = (l.foldl (bestS kind v) s').1 ∧ (-1 ≤ (l.foldl (bestS kind v) s).1) ∧ ((l.foldl (bestS kind v) s).1 < 0 → (l.foldl (bestS kind v) s).2 = q0) ∧ (0 ≤ (l.foldl (bestS kind v) s).1 → (l.foldl (bestS kind v) s).2 = (l.foldl (bestS kind v) s').2) := by
    intro l
    induction l with
    | nil => intro s s' a b c d; exact ⟨a, b, c, d⟩
    | cons p l ih =>
      intro s s' a b c d
      rw [List.foldl_cons, List.foldl_cons]
      apply ih
      · unfold bestS; rw [← a]; split
        · rfl
        · exact a
      · unfold bestS; split
        · simp only; omega
        · exact b
      · unfold bestS; split
        · intro h; simp only at h; omega
        · exact c
      · unfold bestS; rw [← a]; split
        · intro _; rfl
        · exact d
  exact key l _ _ rfl (Int.le_refl _) (fun _ => rfl) (fun h => by simp at h)
theorem qual_ref {b q : Int} (hp : present = true) (hq : q0 = if kind = 4 ∧ fold v sIdent = true then 1 else 0) (e : bestF kind v l q0 = (b, q)) : qualF kind l present v = q := by
  obtain ⟨a1, a2, a3, a4⟩ := best_rel (kind := kind) (v := v) (l := l) (q0 := q0) 0
  obtain ⟨b1, b2, b3, b4⟩ := best_rel (kind := kind) (v := v) (l := l) (q0 := 0) 0
  rw [e] at a1 a2 a3 a4
  simp only at a1 a2 a3 a4
  unfold qualF
  rw [if_neg (by rw [hp]; simp)]
  by_cases hb : b < 0
  · rw [a3 hb, hq]
    by_cases hk : kind = 4 ∧ fold v sIdent = true
    · rw [if_pos hk, if_pos ⟨⟨by omega, hk.1⟩, hk.2⟩]
    · rw [if_neg hk, if_neg (fun q => hk ⟨q.1.2, q.2⟩), b3 (by omega)]
  · rw [if_neg (fun q => by omega), a4 (by omega)]
end
/-! ### Rank -/
def insPos (qs : List Int) (q : Int) : Nat := (qs.reverse.dropWhile (fun p => decide (p < q))).length
theorem insPos_le (qs : List Int) (q : Int) : insPos qs q ≤ qs.length := by
  unfold insPos
  have := (List.dropWhile_sublist (fun p => decide (p < q)) (l := qs.reverse)).length_le
  simpa using this
theorem insPos_back {qs : List Int} {q : Int} {k : Nat} (h0 : 0 < k) (hk : k ≤ qs.length) (h : qs.getD (k - 1) 0 < q) : insPos (qs.take (k - 1)) q = insPos (qs.take k) q := by
  obtain ⟨j, rfl⟩ : ∃ j, k = j + 1 := ⟨k - 1, by omega⟩
  have hj : j < qs.length := by omega
  rw [Nat.add_sub_cancel] at h ⊢
  unfold insPos
  rw [List.take_succ_eq_append_getElem hj, List.reverse_append, List.reverse_singleton, List.singleton_append, List.dropWhile_cons, ← getD_get (dd := 0) hj, if_pos (decide_eq_true h)]
theorem insPos_stop {qs : List Int} {q : Int} {k : Nat} (hk : k ≤ qs.length) (h : ¬ 0 < k ∨ ¬ qs.getD (k - 1) 0 < q) : insPos (qs.take k) q = k := by
  by_cases h0 : 0 < k
  · obtain ⟨j, rfl⟩ : ∃ j, k = j + 1 := ⟨k - 1, by omega⟩
    have hj : j < qs.length := by omega
    have h2 := h.resolve_left (fun q => q h0)
    rw [Nat.add_sub_cancel] at h2
    unfold insPos
    rw [List.take_succ_eq_append_getElem hj, List.reverse_append, List.reverse_singleton, List.singleton_append, List.dropWhile_cons, ← getD_get (dd := 0) hj, if_neg (by rw [decide_eq_false h2]; simp)]
    simp; omega
  · obtain rfl : k = 0 := by omega
    simp [insPos]
def rankS (kind : Int) (l : List Prf) (present : Bool) (s : List Str × List Int) (v : Str) : List Str × List Int :=
  if qualF kind l present v ≤ 0 then s else (s.1.take (insPos s.2 (qualF kind l present v)) ++ [v] ++ s.1.drop (insPos s.2 (qualF kind l present v)), s.2.take (insPos s.2 (qualF kind l present v)) ++ [qualF kind l present v] ++ s.2.drop (insPos s.2 (qualF kind l present v)))
def rankG (kind : Int) (l : List Prf) (present : Bool) (vs : List Str) : List Str × List Int := vs.foldl (rankS kind l present) ([], [])
section
variable {kind : Int} {l : List Prf} {present : Bool} {vs : List Str} {i : Nat} {out : List Str} {qs : List Int}
theorem rank_step (h : i < vs.length) : rankG kind l present (vs.take (i + 1)) = rankS kind l present (rankG kind l present (vs.take i)) (vs.getD i []) := by
  unfold rankG
  rw [List.take_succ_eq_append_getElem h, List.foldl_append, ← getD_get (dd := []) h]; rfl
theorem rank_skip (h : i < vs.length) (e : (out, qs) = rankG kind l present (vs.take i)) (h2 : qualF kind l present (vs.getD i []) ≤ 0) : (out, qs) = rankG kind l present (vs.take (i + 1)) := by
  rw [rank_step h, ← e]; unfold rankS; rw [if_pos h2]
theorem rank_put {k : Nat} (h : i < vs.length) (e : (out, qs) = rankG kind l present (vs.take i)) (h2 : ¬ qualF kind l present (vs.getD i []) ≤ 0) (hk : insPos qs (qualF kind l present (vs.getD i [])) = k) :
    (out.take k ++ [vs.getD i []] ++ out.drop k, qs.take k ++ [qualF kind l present (vs.getD i [])] ++ qs.drop k) = rankG kind l present (vs.take (i + 1)) := by
  rw [rank_step h, ← e]; unfold rankS; rw [if_neg h2]; simp only; rw [hk]
theorem rank_end (h : ¬ i < vs.length) (e : (out, qs) = rankG kind l present (vs.take i)) : out = (rankG kind l present vs).1 := by
  rw [List.take_of_length_le (by omega)] at e; rw [← e]
end
def okS (s : Str) : Bool := !decide (100 < s.length)
def keepS (l : List Str) : Bool := (l.take 21).all okS && decide (l.length ≤ 20)
theorem keepS_len {l : List Str} (h : keepS l = true) : l.length ≤ 20 := by
  unfold keepS at h; rw [Bool.and_eq_true, decide_eq_true_eq] at h; exact h.2
theorem keepS_mem {l : List Str} (h : keepS l = true) : ∀ x ∈ l, x.length ≤ 100 := fun x hx => by
  have hl := keepS_len h
  unfold keepS at h
  rw [Bool.and_eq_true, take_over (s := l) (by omega)] at h
  have := List.all_eq_true.1 h.1 x hx
  unfold okS at this
  simp at this; omega
end Go.Plain
