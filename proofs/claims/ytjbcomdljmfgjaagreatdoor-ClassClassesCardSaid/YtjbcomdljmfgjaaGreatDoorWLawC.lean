/-
  Plain functions of the keys of Variant-Key, step by step. No program in sight.
  Plain laws of the keys of Variant-Key: every key that is read has values of the axes; what is written is read again. No program in sight.
  Plain law: a preference of quality 0 for a value itself excludes it. No program in sight.
  Plain law: what Rank returns lies in descending order of quality, those of one quality in their order. No program in sight.
  Plain law: the order of two preferences does not matter where no two match with the same specificity; and opening a row that one holds. No program but the calculus in sight.
  Plain functions and laws of selection: ranked values of an axis, keys as the product of the ranked values. No program in sight.
  Plain laws of selection: products, what does not matter, the best value. No program in sight.
-/
import Derived.Test.YtjbcomdljmfgjaaGreatDoorWLawB
import Derived.Test.YtjbcomdljmfgjaaGreatDoorWLawA
import Derived.Test.YtjbcomdljmfgjaaGreatDoorWSep2
namespace Go.Plain
open Go Go.Sep
set_option linter.unusedSimpArgs false
set_option linter.unusedVariables false

def axAt (axes : List Axs) (i : Nat) : Axs := axes.getD i ([], [])
def atF (axes : List Axs) (key : List Str) (i : Nat) : Int := idxP (fun v => sameF (axes.getD i ([], [])).1 v (key.getD i [])) (axes.getD i ([], [])).2
def okAt (axes : List Axs) (key : List Str) (i : Nat) : Bool := decide (0 ≤ atF axes key i)
def valAt (axes : List Axs) (key : List Str) (i : Nat) : Str := (axes.getD i ([], [])).2.getD (atF axes key i).toNat []
def resB (axes : List Axs) (key : List Str) : Bool := decide (key.length = axes.length) && (List.range axes.length).all (okAt axes key)
def resV (axes : List Axs) (key : List Str) : List Str := (List.range axes.length).map (valAt axes key)
def resR (axes : List Axs) (key : List Str) : List Str := if resB axes key = true then resV axes key else []
def addK (out : List (List Str)) (k : List Str) : List (List Str) := if (out.any fun x => decide (x = k)) = true then out else out ++ [k]
def dedK (l : List (List Str)) : List (List Str) := l.foldl addK []
def readM (M : List Str) : List (List Str) := M.map fun m => (readF m).1
def parseK (l : List Fld) (axes : List Axs) : List (List Str) × Int :=
  if validL axes = false then ([], 10)
  else if (allF l sVariantKey).length = 0 then ([], 12)
  else if ((allF l sVariantKey).all fun m => (readF m).2) = false then ([], 1)
  else if ((readM (allF l sVariantKey)).all (resB axes)) = false then ([], 11)
  else (dedK ((readM (allF l sVariantKey)).map (resV axes)), 0)
def keysT (keys : List (List Str)) : Str := joinS [44, 32] (keys.map writeF)
def sameAt (axes : List Axs) (a b : List Str) (i : Nat) : Bool := sameF (axes.getD i ([], [])).1 (a.getD i []) (b.getD i [])
def sameK (axes : List Axs) (a b : List Str) : Bool := (decide (a.length = axes.length) && decide (b.length = axes.length)) && (List.range axes.length).all (sameAt axes a b)

/-! ### Steps -/
theorem take_set {α : Type} {xs : List α} {i : Nat} {v : α} (h : i < xs.length) : (xs.set i v).take (i + 1) = xs.take i ++ [v] := by
  rw [List.take_succ_eq_append_getElem (by simpa using h), List.take_set_of_le (Nat.le_refl i)]; simp
/-! ### parseK -/
section
variable {l : List Fld} {axes : List Axs}
end
/-! ### The reference takes the last place -/
theorem axis_uniq {a : Axs} (h : validA a = true) {v : Str} {j : Nat} (hj : j < a.2.length) (hs : sameF a.1 (a.2.getD j []) v = true) : (a.2.take j).any (fun x => sameF a.1 x v) = false := by
  unfold validA validV at h
  simp only [Bool.and_eq_true] at h
  have h2 := (dist_at h.2.2 hj).2
  rw [List.any_eq_false] at h2 ⊢
  intro x hx hc
  refine h2 x hx ?_
  rw [decide_eq_true_eq]
  exact (of_decide_eq_true hc).trans (of_decide_eq_true hs).symm
/-! ### Bounds -/
def keepK (l : List (List Str)) : Bool := (l.take 11).all keepS && decide (l.length ≤ 10)
end Go.Plain

namespace Go.Plain
open Go Go.Sep
set_option linter.unusedSimpArgs false
set_option linter.unusedVariables false

/-- A key of values of the axes. -/
def ofAxes (axes : List Axs) (k : List Str) : Prop := k.length = axes.length ∧ ∀ i, i < axes.length → ∃ j, j < (axes.getD i ([], [])).2.length ∧ (axes.getD i ([], [])).2.getD j [] = k.getD i []
/-! ### What is written is read again -/
/-! ### Keys that are picked -/
def pickAt (x : List Axs) (p : List Int) (k : Nat) : Nat :=
  if k < p.length then (((p.getD k 0).tmod ((x.getD k ([], [])).2.length : Int) + ((x.getD k ([], [])).2.length : Int)).tmod ((x.getD k ([], [])).2.length : Int)).toNat else 0
def pickV (x : List Axs) (p : List Int) (k : Nat) : Str := (x.getD k ([], [])).2.getD (pickAt x p k) []
def pickK (x : List Axs) (p : List Int) : List Str := (List.range x.length).map (pickV x p)
end Go.Plain

namespace Go.Plain
open Go
set_option linter.unusedSimpArgs false
set_option linter.unusedVariables false

section
variable {kind : Int} {value : Str} {less : List Prf}
end
end Go.Plain

namespace Go.Plain
open Go
set_option linter.unusedSimpArgs false
set_option linter.unusedVariables false

section
variable {kind : Int} {l : List Prf} {present : Bool} {vs : List Str}
/-- The quality of the value at j. -/
def qAtV (kind : Int) (l : List Prf) (present : Bool) (vs : List Str) (j : Nat) : Int := qualF kind l present (vs.getD j [])
def betB (kind : Int) (l : List Prf) (present : Bool) (vs : List Str) (i j : Nat) : Bool := decide (qAtV kind l present vs i < qAtV kind l present vs j) || (decide (qAtV kind l present vs j = qAtV kind l present vs i) && decide (j < i))
def cntI (kind : Int) (l : List Prf) (present : Bool) (vs : List Str) (i n : Nat) : Nat := (List.range n).countP (betB kind l present vs i)
def posB (kind : Int) (l : List Prf) (present : Bool) (v : Str) : Bool := decide (0 < qualF kind l present v)
theorem cnt_step (i n : Nat) : cntI kind l present vs i (n + 1) = cntI kind l present vs i n + if betB kind l present vs i n = true then 1 else 0 := by
  unfold cntI; rw [List.range_succ, List.countP_append, List.countP_singleton]
/-- What holds of the two rows behind n values. -/
structure Ranked (kind : Int) (l : List Prf) (present : Bool) (vs : List Str) (n : Nat) (s : List Str × List Int) : Prop where
  len : s.2.length = s.1.length
  sorted : s.2.Pairwise (fun a b => b ≤ a)
  count : ∀ t : Int, 0 < t → s.2.countP (fun q => decide (t ≤ q)) = (List.range n).countP (fun j => decide (t ≤ qAtV kind l present vs j))
  all : s.1.length = (List.range n).countP (fun j => decide (0 < qAtV kind l present vs j))
  place : ∀ i, i < n → 0 < qAtV kind l present vs i → s.1[cntI kind l present vs i n]? = some (vs.getD i []) ∧ s.2[cntI kind l present vs i n]? = some (qAtV kind l present vs i)
theorem insPos_sorted {q : Int} : ∀ {qs : List Int}, qs.Pairwise (fun a b => b ≤ a) → insPos qs q = qs.countP (fun p => decide (q ≤ p)) ∧ (∀ j p, qs[j]? = some p → (j < insPos qs q ↔ q ≤ p)) := by
  intro qs
  induction hn : qs.length generalizing qs with
  | zero =>
    obtain rfl := List.length_eq_zero_iff.1 hn
    intro _; exact ⟨by simp [insPos], fun j p h => by simp at h⟩
  | succ m ih0 =>
    rcases List.eq_nil_or_concat qs with rfl | ⟨qs', p, rfl⟩
    · simp at hn
    rw [List.concat_eq_append] at hn ⊢
    have ih := @ih0 qs' (by simpa using hn)
    clear ih0
    revert ih
    generalize qs' = qs
    intro ih h
    have h1 := (List.pairwise_append.1 h)
    obtain ⟨a, b⟩ := ih h1.1
    by_cases hp : p < q
    · have e : insPos (qs ++ [p]) q = insPos qs q := by
        unfold insPos; rw [List.reverse_append, List.reverse_singleton, List.singleton_append, List.dropWhile_cons, if_pos (decide_eq_true hp)]
      refine ⟨by rw [e, a, List.countP_append, List.countP_singleton, if_neg (by simp; omega), Nat.add_zero], fun j p' hj => ?_⟩
      rw [e]
      by_cases hj2 : j < qs.length
      · rw [List.getElem?_append_left hj2] at hj; exact b j p' hj
      · have hle := insPos_le qs q
        rw [List.getElem?_append_right (by omega)] at hj
        have : j - qs.length = 0 := by
          rcases Nat.eq_zero_or_pos (j - qs.length) with h0 | h0
          · exact h0
          · rw [List.getElem?_eq_none (by simp; omega)] at hj; cases hj
        rw [this] at hj
        simp at hj
        subst hj
        exact ⟨fun hlt => by omega, fun hlt => by omega⟩
    · have e : insPos (qs ++ [p]) q = qs.length + 1 := by
        unfold insPos; rw [List.reverse_append, List.reverse_singleton, List.singleton_append, List.dropWhile_cons, if_neg (by simp; omega)]; simp
      have hall : ∀ x ∈ qs, q ≤ x := fun x hx => by have := h1.2.2 x hx p (by simp); omega
      refine ⟨by rw [e, List.countP_append, List.countP_singleton, if_pos (by simp; omega), List.countP_eq_length.2 (fun x hx => decide_eq_true (hall x hx))], fun j p' hj => ?_⟩
      rw [e]
      have hjl : j < (qs ++ [p]).length := by
        rcases Nat.lt_or_ge j (qs ++ [p]).length with h0 | h0
        · exact h0
        · rw [List.getElem?_eq_none h0] at hj; cases hj
      have hm : p' ∈ qs ++ [p] := List.mem_of_getElem? hj
      refine ⟨fun _ => ?_, fun _ => by simpa using hjl⟩
      rcases List.mem_append.1 hm with hm | hm
      · exact hall p' hm
      · obtain rfl := List.mem_singleton.1 hm; omega
theorem ins_at {α : Type} {xs : List α} {x : α} {a : Nat} (ha : a ≤ xs.length) (j : Nat) : (xs.take a ++ [x] ++ xs.drop a)[j]? = if j < a then xs[j]? else if j = a then some x else xs[j - 1]? := by
  have hl : (xs.take a).length = a := by rw [List.length_take]; omega
  by_cases h1 : j < a
  · rw [if_pos h1, List.append_assoc, List.getElem?_append_left (by omega), List.getElem?_take, if_pos h1]
  · rw [if_neg h1, List.append_assoc, List.getElem?_append_right (by omega), hl]
    by_cases h2 : j = a
    · subst h2; simp
    · rw [if_neg h2, List.getElem?_append_right (by simp; omega), List.getElem?_drop]
      congr 1
      simp only [List.length_singleton]; omega
theorem ranked_zero : Ranked kind l present vs 0 ([], []) := ⟨rfl, List.Pairwise.nil, fun t h => rfl, rfl, fun i h => absurd h (Nat.not_lt_zero _)⟩
theorem ranked_step {n : Nat} {s : List Str × List Int} (h : Ranked kind l present vs n s) : Ranked kind l present vs (n + 1) (rankS kind l present s (vs.getD n [])) := by
  unfold rankS
  by_cases hq : qualF kind l present (vs.getD n []) ≤ 0
  · rw [if_pos hq]
    have hq' : qAtV kind l present vs n ≤ 0 := hq
    refine ⟨h.len, h.sorted, fun t ht => ?_, ?_, fun i hi hp => ?_⟩
    · rw [List.range_succ, List.countP_append, List.countP_singleton, if_neg (by simp; omega)]; exact h.count t ht
    · rw [List.range_succ, List.countP_append, List.countP_singleton, if_neg (by simp; omega)]; exact h.all
    · have hi2 : i < n := by
        rcases Nat.lt_or_ge i n with h0 | h0
        · exact h0
        · obtain rfl : i = n := by omega
          omega
      rw [cnt_step, if_neg (by unfold betB; simp; omega), Nat.add_zero]
      exact h.place i hi2 hp
  · rw [if_neg hq]
    obtain ⟨q, hqe⟩ : ∃ q, q = qualF kind l present (vs.getD n []) := ⟨_, rfl⟩
    have hqn : qAtV kind l present vs n = q := hqe.symm
    rw [← hqe] at hq ⊢
    obtain ⟨a1, a2⟩ := insPos_sorted (q := q) h.sorted
    have hle := insPos_le s.2 q
    have hle1 : insPos s.2 q ≤ s.1.length := by rw [← h.len]; exact hle
    generalize insPos s.2 q = a at a1 a2 hle hle1 ⊢
    have hcnt : ∀ p : Int → Bool, (s.2.take a ++ [q] ++ s.2.drop a).countP p = s.2.countP p + if p q = true then 1 else 0 := fun p => by
      have : s.2.countP p = (s.2.take a).countP p + (s.2.drop a).countP p := by rw [← List.countP_append, List.take_append_drop]
      rw [List.countP_append, List.countP_append, List.countP_singleton, this]; omega
    refine ⟨?_, ?_, fun t ht => ?_, ?_, fun i hi hp => ?_⟩
    · have := h.len
      simp only [List.length_append, List.length_take, List.length_drop, List.length_singleton]; omega
    · show List.Pairwise (fun a b => b ≤ a) (s.2.take a ++ [q] ++ s.2.drop a)
      rw [List.append_assoc, List.pairwise_append]
      have h1 : ∀ x ∈ s.2.take a, q ≤ x := fun x hx => by
        obtain ⟨j, hj, rfl⟩ := List.getElem_of_mem hx
        rw [List.length_take] at hj
        rw [List.getElem_take]
        exact (a2 j _ (List.getElem?_eq_getElem (by omega))).1 (by omega)
      have h2 : ∀ x ∈ s.2.drop a, x < q := fun x hx => by
        obtain ⟨j, hj, rfl⟩ := List.getElem_of_mem hx
        rw [List.length_drop] at hj
        rw [List.getElem_drop]
        have := a2 (a + j) _ (List.getElem?_eq_getElem (by omega))
        rcases Int.lt_or_le (s.2[a + j]) q with h0 | h0
        · exact h0
        · have := this.2 h0; omega
      refine ⟨h.sorted.sublist (List.take_sublist _ _), ?_, fun x hx y hy => ?_⟩
      · rw [List.singleton_append, List.pairwise_cons]
        exact ⟨fun y hy => by have := h2 y hy; omega, h.sorted.sublist (List.drop_sublist _ _)⟩
      · have hx1 := h1 x hx
        rcases List.mem_append.1 hy with hy | hy
        · obtain rfl := List.mem_singleton.1 hy; exact hx1
        · have := h2 y hy; omega
    · rw [hcnt, h.count t ht, List.range_succ, List.countP_append, List.countP_singleton, hqn]
    · have := h.all
      rw [List.range_succ, List.countP_append, List.countP_singleton, hqn, if_pos (decide_eq_true (by omega)), ← h.all]
      simp only [List.length_append, List.length_take, List.length_drop, List.length_singleton]; omega
    · rw [cnt_step]
      rcases Nat.lt_or_ge i n with hi2 | hi2
      · obtain ⟨p1, p2⟩ := h.place i hi2 hp
        have p3 := a2 _ _ p2
        by_cases hb : qAtV kind l present vs i < q
        · rw [if_pos (by unfold betB; rw [hqn, decide_eq_true hb]; rfl), ins_at hle1, ins_at hle]
          have h3 : ¬ cntI kind l present vs i n < a := fun h0 => by have := p3.1 h0; omega
          rw [if_neg (by omega), if_neg (by omega), if_neg (by omega), if_neg (by omega), Nat.add_sub_cancel]
          exact ⟨p1, p2⟩
        · rw [if_neg (by unfold betB; rw [hqn]; simp; omega), Nat.add_zero, ins_at hle1, ins_at hle]
          have h3 : cntI kind l present vs i n < a := p3.2 (by omega)
          rw [if_pos h3, if_pos h3]
          exact ⟨p1, p2⟩
      · obtain rfl : i = n := by omega
        have e : cntI kind l present vs i i = a := by
          rw [a1, h.count q (by omega)]
          unfold cntI
          apply List.countP_congr
          intro j hj
          have hj := List.mem_range.1 hj
          unfold betB
          rw [hqn]
          simp only [Bool.or_eq_true, Bool.and_eq_true, decide_eq_true_eq]
          omega
        rw [if_neg (by unfold betB; simp), Nat.add_zero, e, ins_at hle1, ins_at hle, if_neg (by omega), if_pos rfl, if_neg (by omega), if_pos rfl, hqn]
        exact ⟨rfl, rfl⟩
theorem ranked_all : ∀ n, n ≤ vs.length → Ranked kind l present vs n (rankG kind l present (vs.take n))
  | 0, _ => by rw [List.take_zero]; exact ranked_zero
  | n + 1, h => by rw [rank_step (by omega)]; exact ranked_step (ranked_all n (by omega))
end
end Go.Plain

namespace Go.Sep
open Go
end Go.Sep
namespace Go.Plain
open Go
set_option linter.unusedSimpArgs false
set_option linter.unusedVariables false
section
variable {kind : Int} {v : Str}
end
end Go.Plain

namespace Go.Plain
open Go Go.Sep
set_option linter.unusedSimpArgs false
set_option linter.unusedVariables false

def haveF (a : Axs) (l : List Fld) : Str := joinS [44, 32] (allF l a.1)
def rankO (a : Axs) (l : List Fld) : List Str :=
  if ¬ kindF a.1 = 0 then (rankG (kindF a.1) (prefsF (kindF a.1) l).1 (prefsF (kindF a.1) l).2 a.2).1
  else if (a.2.any fun x => decide (x = haveF a l)) = true then [haveF a l] else []
def rankA (a : Axs) (l : List Fld) (strict : Bool) : List Str :=
  if validA a = false then [] else if (rankO a l).length = 0 ∧ strict = false then [a.2.getD 0 []] else rankO a l
def prodL : List (List Str) → List (List Str)
  | [] => [[]]
  | r :: R => r.flatMap fun x => (prodL R).map (x :: ·)
def rankL (axes : List Axs) (l : List Fld) (strict : Bool) : List (List Str) := axes.map fun a => rankA a l strict
def keysF (axes : List Axs) (l : List Fld) (strict : Bool) (most : Nat) : List (List Str) := if validL axes = false then [] else (prodL (rankL axes l strict)).take most

/-! ### Counting through a product -/
def restK : List (List Str) → List Int → List (List Str)
  | r :: R, d :: ds => (restK R ds).map (r.getD d.toNat [] :: ·) ++ (r.drop (d.toNat + 1)).flatMap (fun y => (prodL R).map (y :: ·))
  | _, _ => [[]]
def keyD : List (List Str) → List Int → List Str
  | r :: R, d :: ds => r.getD d.toNat [] :: keyD R ds
  | _, _ => []
def MaxD (R : List (List Str)) (ds : List Int) : Prop := R.length = ds.length ∧ ∀ i, i < R.length → ds.getD i 0 + 1 = ((R.getD i []).length : Int)
theorem MaxD.tail {r : List Str} {R : List (List Str)} {d : Int} {ds : List Int} (h : MaxD (r :: R) (d :: ds)) : d + 1 = (r.length : Int) ∧ MaxD R ds :=
  ⟨h.2 0 (by simp), by simpa using h.1, fun i hi => by have := h.2 (i + 1) (by simpa using hi); simpa using this⟩
/-- Digits that lie within. -/
def Dig (R : List (List Str)) (ds : List Int) : Prop := ds.length = R.length ∧ ∀ i, i < R.length → 0 ≤ ds.getD i 0 ∧ ds.getD i 0 < ((R.getD i []).length : Int)
/-- The counter goes back over the digits that stand at their end. -/
def Carry (R : List (List Str)) (ds : List Int) (j : Nat) (xs : List Int) : Prop := j ≤ R.length ∧ xs = ds.take j ++ List.replicate (R.length - j) 0 ∧ ∀ i, j ≤ i → i < R.length → ds.getD i 0 + 1 = ((R.getD i []).length : Int)
theorem Carry.length {R : List (List Str)} {ds xs : List Int} {j : Nat} (hd : Dig R ds) (h : Carry R ds j xs) : xs.length = R.length := by
  have := h.1; have := hd.1
  rw [h.2.1, List.length_append, List.length_take, List.length_replicate]; omega
theorem Carry.at {R : List (List Str)} {ds xs : List Int} {j i : Nat} (hd : Dig R ds) (h : Carry R ds j xs) (hi : i < j) : xs.getD i 0 = ds.getD i 0 := by
  have := h.1; have := hd.1
  rw [h.2.1, List.getD_eq_getElem?_getD, List.getD_eq_getElem?_getD, List.getElem?_append_left (by rw [List.length_take]; omega), List.getElem?_take_of_lt hi]
/-! ### Keys -/
section
variable {axes : List Axs} {l : List Fld} {strict : Bool} {most : Nat}
end
/-! ### Ranked -/
theorem valid_one {a : Axs} : validL [a] = validA a := by
  rw [validL_yes (by simp)]
  show distB validA (fun x b => decide (x.1 = b.1)) ([], []) [a] 1 = _
  rw [dist_step, dist_zero]; simp
section
variable {a : Axs} {l : List Fld} {strict : Bool}
theorem ranked_no (h : validA a = false) : rankA a l strict = [] := if_pos h
theorem ranked_first (h : validA a = true) (h1 : (rankO a l).length = 0) (h2 : strict = false) : rankA a l strict = [a.2.getD 0 []] := by
  unfold rankA; rw [if_neg (by rw [h]; simp), if_pos ⟨h1, h2⟩]
theorem ranked_out (h : validA a = true) (h1 : ¬ (rankO a l).length = 0 ∨ strict = true) : rankA a l strict = rankO a l := by
  unfold rankA; rw [if_neg (by rw [h]; simp), if_neg]
  rintro ⟨e1, e2⟩
  rcases h1 with h1 | h1
  · exact h1 e1
  · rw [e2] at h1; cases h1
theorem rankO_kind (h : ¬ kindF a.1 = 0) : rankO a l = (rankG (kindF a.1) (prefsF (kindF a.1) l).1 (prefsF (kindF a.1) l).2 a.2).1 := if_pos h
theorem rankO_have (h : kindF a.1 = 0) (h1 : (a.2.any fun x => decide (x = haveF a l)) = true) : rankO a l = [haveF a l] := by unfold rankO; rw [if_neg (by simp [h]), if_pos h1]
theorem rankO_none (h : kindF a.1 = 0) (h1 : (a.2.any fun x => decide (x = haveF a l)) = false) : rankO a l = [] := by unfold rankO; rw [if_neg (by simp [h]), if_neg (by rw [h1]; simp)]
end
/-! ### Steps -/
theorem values_once {a : Axs} (h : validA a = true) {i : Nat} (hi : i < a.2.length) : (a.2.take i).any (fun x => decide (x = a.2.getD i [])) = false := by
  have h1 := axis_uniq h hi (same_self a.1 _)
  rw [List.any_eq_false] at h1 ⊢
  intro x hx e
  have := of_decide_eq_true e
  exact h1 x hx (by rw [this]; exact same_self _ _)
def haveU (a : Axs) (l : List Fld) (i : Nat) : List Str := if ((a.2.take i).any fun x => decide (x = haveF a l)) = true then [haveF a l] else []
section
variable {a : Axs} {l : List Fld} {i : Nat}
theorem haveU_hit (h : validA a = true) (hi : i < a.2.length) (h1 : a.2.getD i [] = haveF a l) : haveU a l i ++ [haveF a l] = haveU a l (i + 1) := by
  have h2 := values_once h hi
  rw [h1] at h2
  unfold haveU
  rw [any_next (dd := []) hi, h2, if_neg (by simp), if_pos (by rw [h1]; simp)]; rfl
theorem haveU_miss (hi : i < a.2.length) (h1 : ¬ a.2.getD i [] = haveF a l) : haveU a l i = haveU a l (i + 1) := by
  unfold haveU
  rw [any_next (dd := []) hi, decide_eq_false h1, Bool.or_false]
theorem haveU_end (hk : kindF a.1 = 0) (hi : a.2.length ≤ i) : haveU a l i = rankO a l := by
  unfold haveU rankO
  rw [if_neg (show ¬ ¬ kindF a.1 = 0 from fun e => e hk), List.take_of_length_le hi]
theorem haveU_len : (haveU a l i).length ≤ 1 := by unfold haveU; split <;> simp
end
end Go.Plain

namespace Go.Plain
open Go Go.Sep
set_option linter.unusedSimpArgs false
set_option linter.unusedVariables false

/-! ### Rank, as a rearrangement -/
section
variable {kind : Int} {l : List Prf} {present : Bool}
theorem rankS_perm (s : List Str × List Int) (v : Str) : (rankS kind l present s v).1.Perm (s.1 ++ if posB kind l present v = true then [v] else []) := by
  unfold rankS posB
  by_cases h : qualF kind l present v ≤ 0
  · rw [if_pos h, if_neg (by rw [decide_eq_true_eq]; omega), List.append_nil]
  · rw [if_neg h, if_pos (by rw [decide_eq_true_eq]; omega)]
    simp only
    have : (s.1.take (insPos s.2 (qualF kind l present v)) ++ [v] ++ s.1.drop (insPos s.2 (qualF kind l present v))).Perm (s.1.take (insPos s.2 (qualF kind l present v)) ++ (s.1.drop (insPos s.2 (qualF kind l present v)) ++ [v])) := by
      rw [List.append_assoc]; exact List.Perm.append_left _ List.perm_append_comm
    rwa [← List.append_assoc, List.take_append_drop] at this
theorem rankG_perm (vs : List Str) : (rankG kind l present vs).1.Perm (vs.filter (posB kind l present)) := by
  have key : ∀ (vs : List Str) (s : List Str × List Int), (vs.foldl (rankS kind l present) s).1.Perm (s.1 ++ vs.filter (posB kind l present)) := by
    intro vs
    induction vs with
    | nil => intro s; simp
    | cons v vs ih =>
      intro s
      rw [List.foldl_cons]
      refine (ih _).trans ?_
      refine ((rankS_perm s v).append_right _).trans ?_
      rw [List.append_assoc, List.filter_cons]
      split
      · exact List.Perm.refl _
      · exact List.Perm.refl _
  exact key vs ([], [])
theorem rankG_map (vs : List Str) : (rankG kind l present vs).2 = (rankG kind l present vs).1.map (qualF kind l present) := by
  have key : ∀ (vs : List Str) (s : List Str × List Int), s.2 = s.1.map (qualF kind l present) → (vs.foldl (rankS kind l present) s).2 = (vs.foldl (rankS kind l present) s).1.map (qualF kind l present) := by
    intro vs
    induction vs with
    | nil => intro s h; exact h
    | cons v vs ih =>
      intro s h
      rw [List.foldl_cons]
      refine ih _ ?_
      unfold rankS
      split
      · exact h
      · simp only [List.map_append, List.map_cons, List.map_nil, List.map_take, List.map_drop, ← h]
  exact key vs ([], []) rfl
end

/-! ### Values of a valid axis -/
section
variable {a : Axs} {l m : List Fld} {strict : Bool}
theorem values_len (h : validA a = true) : 0 < a.2.length ∧ a.2.length ≤ 16 := by
  unfold validA validV at h
  simp only [Bool.and_eq_true, decide_eq_true_eq] at h
  exact h.2.1
theorem values_dist (h : validA a = true) {i j : Nat} (hj : j < a.2.length) (hi : i < j) : sameF a.1 (a.2.getD i []) (a.2.getD j []) = false := by
  cases hs : sameF a.1 (a.2.getD i []) (a.2.getD j []) with
  | false => rfl
  | true =>
    have h1 := axis_uniq h hj (same_self a.1 _)
    rw [any_of (p := fun x => sameF a.1 x (a.2.getD j [])) (dd := []) (by omega) hi hs] at h1
    cases h1
theorem values_nodup (h : validA a = true) : a.2.Nodup := by
  rw [List.Nodup, List.pairwise_iff_getElem]
  intro i j hi hj hij e
  have := values_dist h hj hij
  rw [getD_get hi, getD_get hj, e, same_self] at this
  cases this
theorem rankO_sub : ∀ x ∈ rankO a l, x ∈ a.2 := fun x hx => by
  unfold rankO at hx
  split at hx
  · have := (rankG_perm a.2).mem_iff.1 hx
    exact (List.mem_filter.1 this).1
  · split at hx
    · rename_i h
      obtain rfl := List.mem_singleton.1 hx
      obtain ⟨y, hy, e⟩ := List.any_eq_true.1 h
      rw [← of_decide_eq_true e]; exact hy
    · cases hx
theorem rankA_sub : ∀ x ∈ rankA a l strict, x ∈ a.2 := fun x hx => by
  unfold rankA at hx
  split at hx
  · cases hx
  · rename_i h
    split at hx
    · obtain rfl := List.mem_singleton.1 hx
      exact getD_mem (values_len (by simpa using h)).1
    · exact rankO_sub x hx
theorem rankA_nodup : (rankA a l strict).Nodup := by
  unfold rankA
  split
  · simp
  · rename_i h
    split
    · simp
    · unfold rankO
      split
      · exact (rankG_perm a.2).nodup_iff.2 ((values_nodup (by simpa using h)).filter _)
      · split <;> simp
theorem rankA_length : (rankA a l strict).length ≤ 16 := by
  by_cases h : validA a = true
  · have h1 := values_len h
    have : (rankA a l strict).length ≤ a.2.length := rankA_nodup.length_le_of_subset (fun x hx => rankA_sub x hx)
    omega
  · rw [ranked_no (by simpa using h)]; simp
/-! ### What the ranked values depend on -/
def targetF (a : Axs) : Str := if kindF a.1 = 0 then a.1 else nameK (kindF a.1)
end
/-! ### The product -/
/-! ### The best key -/
def bestK (axes : List Axs) (l : List Fld) (strict : Bool) : List Str := (keysF axes l strict 1).getD 0 []
def bestB (axes : List Axs) (l : List Fld) (strict : Bool) : Bool := decide (0 < (keysF axes l strict 1).length)
end Go.Plain
