/-
  Plain law: what Rank returns lies in descending order of quality, those of one quality in their order. No program in sight.
-/
import Derived.Test.YtikllmfjgpmcnaaDoorLaw14
namespace Go.Plain
open Go
set_option linter.unusedSimpArgs false
set_option linter.unusedVariables false

section
variable {kind : Int} {l : List Prf} {present : Bool} {vs : List Str}
/-- The quality of the value at j. -/
def qAtV (kind : Int) (l : List Prf) (present : Bool) (vs : List Str) (j : Nat) : Int := qualF kind l present (vs.getD j [])
def betB (kind : Int) (l : List Prf) (present : Bool) (vs : List Str) (i j : Nat) : Bool := decide (qAtV kind l present vs i < qAtV kind l present vs j) || (decide (qAtV kind l present vs j = qAtV kind l present vs i) && decide (j < i))
def cntI (kind : Int) (l : List Prf) (present : Bool) (vs : List Str) (i n : Nat) : Nat := (List.range n).countP (betB kind l present vs i)
def posB (kind : Int) (l : List Prf) (present : Bool) (v : Str) : Bool := decide (0 < qualF kind l present v)
theorem cnt_step (i n : Nat) : cntI kind l present vs i (n + 1) = cntI kind l present vs i n + if betB kind l present vs i n = true then 1 else 0 := by
  unfold cntI; rw [List.range_succ, List.countP_append, List.countP_singleton]
/-- What holds of the two rows behind n values. -/
structure Ranked (kind : Int) (l : List Prf) (present : Bool) (vs : List Str) (n : Nat) (s : List Str × List Int) : Prop where
  len : s.2.length = s.1.length
  sorted : s.2.Pairwise (fun a b => b ≤ a)
  count : ∀ t : Int, 0 < t → s.2.countP (fun q => decide (t ≤ q)) = (List.range n).countP (fun j => decide (t ≤ qAtV kind l present vs j))
  all : s.1.length = (List.range n).countP (fun j => decide (0 < qAtV kind l present vs j))
  place : ∀ i, i < n → 0 < qAtV kind l present vs i → s.1[cntI kind l present vs i n]? = some (vs.getD i []) ∧ s.2[cntI kind l present vs i n]? = some (qAtV kind l present vs i)
theorem insPos_sorted {q : Int} : ∀ {qs : List Int}, qs.Pairwise (fun a b => b ≤ a) → insPos qs q = qs.countP (fun p => decide (q ≤ p)) ∧ (∀ j p, qs[j]? = some p → (j < insPos qs q ↔ q ≤ p)) := by
  intro qs
  induction hn : qs.length generalizing qs with
  | zero =>
    obtain rfl := List.length_eq_zero_iff.1 hn
    intro _; exact ⟨by simp [insPos], fun j p h => by simp at h⟩
  | succ m ih0 =>
    rcases List.eq_nil_or_concat qs with rfl | ⟨qs', p, rfl⟩
    · simp at hn
    rw [List.concat_eq_append] at hn ⊢
    have ih := @ih0 qs' (by simpa using hn)
    clear ih0
    revert ih
    generalize qs' = qs
    intro ih h
    have h1 := (List.pairwise_append.1 h)
    obtain ⟨a, b⟩ := ih h1.1
    by_cases hp : p < q
    · have e : insPos (qs ++ [p]) q = insPos qs q := by
        unfold insPos; rw [List.reverse_append, List.reverse_singleton, List.singleton_append, List.dropWhile_cons, if_pos (decide_eq_true hp)]
      refine ⟨by rw [e, a, List.countP_append, List.countP_singleton, if_neg (by simp; omega), Nat.add_zero], fun j p' hj => ?_⟩
      rw [e]
      by_cases hj2 : j < qs.length
      · rw [List.getElem?_append_left hj2] at hj; exact b j p' hj
      · have hle := insPos_le qs q
        rw [List.getElem?_append_right (by omega)] at hj
        have : j - qs.length = 0 := by
          rcases Nat.eq_zero_or_pos (j - qs.length) with h0 | h0
          · exact h0
          · rw [List.getElem?_eq_none (by simp; omega)] at hj; cases hj
        rw [this] at hj
        simp at hj
        subst hj
        exact ⟨fun hlt => by omega, fun hlt => by omega⟩
    · have e : insPos (qs ++ [p]) q = qs.length + 1 := by
        unfold insPos; rw [List.reverse_append, List.reverse_singleton, List.singleton_append, List.dropWhile_cons, if_neg (by simp; omega)]; simp
      have hall : ∀ x ∈ qs, q ≤ x := fun x hx => by have := h1.2.2 x hx p (by simp); omega
      refine ⟨by rw [e, List.countP_append, List.countP_singleton, if_pos (by simp; omega), List.countP_eq_length.2 (fun x hx => decide_eq_true (hall x hx))], fun j p' hj => ?_⟩
      rw [e]
      have hjl : j < (qs ++ [p]).length := by
        rcases Nat.lt_or_ge j (qs ++ [p]).length with h0 | h0
        · exact h0
        · rw [List.getElem?_eq_none h0] at hj; cases hj
      have hm : p' ∈ qs ++ [p] := List.mem_of_getElem? hj
      refine ⟨fun _ => ?_, fun _ => by simpa using hjl⟩
      rcases List.mem_append.1 hm with hm | hm
      · exact hall p' hm
      · obtain rfl := List.mem_singleton.1 hm; omega
theorem ins_at {α : Type} {xs : List α} {x : α} {a : Nat} (ha : a ≤ xs.length) (j : Nat) : (xs.take a ++ [x] ++ xs.drop a)[j]? = if j < a then xs[j]? else if j = a then some x else xs[j - 1]? := by
  have hl : (xs.take a).length = a := by rw [List.length_take]; omega
  by_cases h1 : j < a
  · rw [if_pos h1, List.append_assoc, List.getElem?_append_left (by omega), List.getElem?_take, if_pos h1]
  · rw [if_neg h1, List.append_assoc, List.getElem?_append_right (by omega), hl]
    by_cases h2 : j = a
    · subst h2; simp
    · rw [if_neg h2, List.getElem?_append_right (by simp; omega), List.getElem?_drop]
      congr 1
      simp only [List.length_singleton]; omega
theorem ranked_zero : Ranked kind l present vs 0 ([], []) := ⟨rfl, List.Pairwise.nil, fun t h => rfl, rfl, fun i h => absurd h (Nat.not_lt_zero _)⟩
theorem ranked_step {n : Nat} {s : List Str × List Int} (h : Ranked kind l present vs n s) : Ranked kind l present vs (n + 1) (rankS kind l present s (vs.getD n [])) := by
  unfold rankS
  by_cases hq : qualF kind l present (vs.getD n []) ≤ 0
  · rw [if_pos hq]
    have hq' : qAtV kind l present vs n ≤ 0 := hq
    refine ⟨h.len, h.sorted, fun t ht => ?_, ?_, fun i hi hp => ?_⟩
    · rw [List.range_succ, List.countP_append, List.countP_singleton, if_neg (by simp; omega)]; exact h.count t ht
    · rw [List.range_succ, List.countP_append, List.countP_singleton, if_neg (by simp; omega)]; exact h.all
    · have hi2 : i < n := by
        rcases Nat.lt_or_ge i n with h0 | h0
        · exact h0
        · obtain rfl : i = n := by omega
          omega
      rw [cnt_step, if_neg (by unfold betB; simp; omega), Nat.add_zero]
      exact h.place i hi2 hp
  · rw [if_neg hq]
    obtain ⟨q, hqe⟩ : ∃ q, q = qualF kind l present (vs.getD n []) := ⟨_, rfl⟩
    have hqn : qAtV kind l present vs n = q := hqe.symm
    rw [← hqe] at hq ⊢
    obtain ⟨a1, a2⟩ := insPos_sorted (q := q) h.sorted
    have hle := insPos_le s.2 q
    have hle1 : insPos s.2 q ≤ s.1.length := by rw [← h.len]; exact hle
    generalize insPos s.2 q = a at a1 a2 hle hle1 ⊢
    have hcnt : ∀ p : Int → Bool, (s.2.take a ++ [q] ++ s.2.drop a).countP p = s.2.countP p + if p q = true then 1 else 0 := fun p => by
      have : s.2.countP p = (s.2.take a).countP p + (s.2.drop a).countP p := by rw [← List.countP_append, List.take_append_drop]
      rw [List.countP_append, List.countP_append, List.countP_singleton, this]; omega
    refine ⟨?_, ?_, fun t ht => ?_, ?_, fun i hi hp => ?_⟩
    · have := h.len
      simp only [List.length_append, List.length_take, List.length_drop, List.length_singleton]; omega
    · show List.Pairwise (fun a b => b ≤ a) (s.2.take a ++ [q] ++ s.2.drop a)
      rw [List.append_assoc, List.pairwise_append]
      have h1 : ∀ x ∈ s.2.take a, q ≤ x := fun x hx => by
        obtain ⟨j, hj, rfl⟩ := List.getElem_of_mem hx
        rw [List.length_take] at hj
        rw [List.getElem_take]
        exact (a2 j _ (List.getElem?_eq_getElem (by omega))).1 (by omega)
      have h2 : ∀ x ∈ s.2.drop a, x < q := fun x hx => by
        obtain ⟨j, hj, rfl⟩ := List.getElem_of_mem hx
        rw [List.length_drop] at hj
        rw [List.getElem_drop]
        have := a2 (a + j) _ (List.getElem?_eq_getElem (by omega))
        rcases Int.lt_or_le (s.2[a + j]) q with h0 | h0
        · exact h0
        · have := this.2 h0; omega
      refine ⟨h.sorted.sublist (List.take_sublist _ _), ?_, fun x hx y hy => ?_⟩
      · rw [List.singleton_append, List.pairwise_cons]
        exact ⟨fun y hy => by have := h2 y hy; omega, h.sorted.sublist (List.drop_sublist _ _)⟩
      · have hx1 := h1 x hx
        rcases List.mem_append.1 hy with hy | hy
        · obtain rfl := List.mem_singleton.1 hy; exact hx1
        · have := h2 y hy; omega
    · rw [hcnt, h.count t ht, List.range_succ, List.countP_append, List.countP_singleton, hqn]
    · have := h.all
      rw [List.range_succ, List.countP_append, List.countP_singleton, hqn, if_pos (decide_eq_true (by omega)), ← h.all]
      simp only [List.length_append, List.length_take, List.length_drop, List.length_singleton]; omega
    · rw [cnt_step]
      rcases Nat.lt_or_ge i n with hi2 | hi2
      · obtain ⟨p1, p2⟩ := h.place i hi2 hp
        have p3 := a2 _ _ p2
        by_cases hb : qAtV kind l present vs i < q
        · rw [if_pos (by unfold betB; rw [hqn, decide_eq_true hb]; rfl), ins_at hle1, ins_at hle]
          have h3 : ¬ cntI kind l present vs i n < a := fun h0 => by have := p3.1 h0; omega
          rw [if_neg (by omega), if_neg (by omega), if_neg (by omega), if_neg (by omega), Nat.add_sub_cancel]
          exact ⟨p1, p2⟩
        · rw [if_neg (by unfold betB; rw [hqn]; simp; omega), Nat.add_zero, ins_at hle1, ins_at hle]
          have h3 : cntI kind l present vs i n < a := p3.2 (by omega)
          rw [if_pos h3, if_pos h3]
          exact ⟨p1, p2⟩
      · obtain rfl : i = n := by omega
        have e : cntI kind l present vs i i = a := by
          rw [a1, h.count q (by omega)]
          unfold cntI
          apply List.countP_congr
          intro j hj
          have hj := List.mem_range.1 hj
          unfold betB
          rw [hqn]
          simp only [Bool.or_eq_true, Bool.and_eq_true, decide_eq_true_eq]
          omega
        rw [if_neg (by unfold betB; simp), Nat.add_zero, e, ins_at hle1, ins_at hle, if_neg (by omega), if_pos rfl, if_neg (by omega), if_pos rfl, hqn]
        exact ⟨rfl, rfl⟩
theorem ranked_all : ∀ n, n ≤ vs.length → Ranked kind l present vs n (rankG kind l present (vs.take n))
  | 0, _ => by rw [List.take_zero]; exact ranked_zero
  | n + 1, h => by rw [rank_step (by omega)]; exact ranked_step (ranked_all n (by omega))
theorem sorted_at {i : Nat} (hi : i < vs.length) (hq : ¬ qAtV kind l present vs i ≤ 0) : (rankG kind l present vs).1[cntI kind l present vs i vs.length]? = some (vs.getD i []) := by
  have := ((ranked_all (kind := kind) (l := l) (present := present) (vs := vs) vs.length (Nat.le_refl _)).place i hi (by omega)).1
  rwa [List.take_length] at this
theorem sorted_len : (rankG kind l present vs).1.length = (List.range vs.length).countP (fun j => decide (0 < qAtV kind l present vs j)) := by
  have := (ranked_all (kind := kind) (l := l) (present := present) (vs := vs) vs.length (Nat.le_refl _)).all
  rwa [List.take_length] at this
end
end Go.Plain
