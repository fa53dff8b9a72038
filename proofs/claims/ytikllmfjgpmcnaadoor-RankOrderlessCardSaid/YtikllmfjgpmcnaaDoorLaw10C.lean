/-
  Plain laws: how long what is written gets. No program in sight.
-/
import Derived.Test.YtikllmfjgpmcnaaDoorLaw10B
namespace Go.Plain
set_option linter.unusedSimpArgs false
set_option linter.unusedVariables false

def goodB (p : Prm) : Bool := (token p.1 && decide (lower p.1 = p.1)) && text p.2
theorem good_all {l : List Prm} (h : l.all goodB = true) : ∀ p ∈ l, token p.1 = true ∧ lower p.1 = p.1 ∧ text p.2 = true := fun p hp => by
  have := List.all_eq_true.1 h p hp
  unfold goodB at this
  simp only [Bool.and_eq_true, decide_eq_true_eq] at this
  exact ⟨this.1.1, this.1.2, this.2⟩
theorem wr_length (v : Str) : (wr v).length ≤ 2 * v.length + 2 := by
  unfold wr; split
  · omega
  · exact quote_length v
def sumP (l : List Prm) : Nat := (l.map fun p => p.1.length + p.2.length).sum
theorem formatP_length (v : Str) : ∀ l : List Prm, (formatP v l).length ≤ v.length + 2 * sumP l + 4 * l.length
  | [] => by simp [formatP, sumP]
  | p :: l => by
    have ih := formatP_length v l
    have := wr_length p.2
    simp only [formatP, sumP, List.length_append, List.flatMap_cons, List.length_cons, pieceP, List.map_cons, List.sum_cons] at ih ⊢
    omega
theorem sumP_le {l : List Prm} {n : Nat} (h : ∀ p ∈ l, p.1.length ≤ n ∧ p.2.length ≤ n) : sumP l ≤ l.length * (2 * n) := by
  induction l with
  | nil => simp [sumP]
  | cons p l ih =>
    have h1 := h p List.mem_cons_self
    have h2 := ih (fun q hq => h q (List.mem_cons_of_mem _ hq))
    simp only [sumP, List.map_cons, List.sum_cons, List.length_cons, Nat.add_mul] at h2 ⊢
    omega
def sumS (X : List Str) : Nat := (X.map fun x => x.length).sum
theorem cutGo_sum (c : UInt8) : ∀ (r : Str) (st : Nat) (cur : Str), sumS (cutGo c st cur r) ≤ cur.length + r.length
  | [], _, cur => by simp [cutGo, sumS]
  | b :: r, st, cur => by
    have ih := cutGo_sum c r
    have up : ∀ st, sumS (cutGo c st (cur ++ [b]) r) ≤ cur.length + (b :: r).length := fun st => by have := ih st (cur ++ [b]); simp at this ⊢; omega
    unfold cutGo
    split
    · exact up _
    · split
      · split
        · exact up _
        · split <;> exact up _
      · split
        · exact up _
        · split
          · have := ih 0 []
            simp only [sumS, List.map_cons, List.sum_cons, List.length_nil, List.length_cons] at this ⊢
            omega
          · exact up _
theorem oneP_sum (x : Str) : (oneP x).1.length + (oneP x).2.1.length ≤ x.length := by
  unfold oneP
  split
  · simp
  · rename_i hc
    have hlt : pos x 61 < x.length := by
      rcases Nat.lt_or_ge (pos x 61) x.length with h | h
      · exact h
      · exact absurd (.inl (by omega)) hc
    split
    · simp; omega
    · have := unq_length (x.drop (pos x 61 + 1)); simp at this ⊢; omega
theorem parsGo_sum : ∀ (X : List Str) (acc l : List Prm), parsGo acc X = some l → sumP l ≤ sumP acc + sumS X
  | [], acc, l, h => by simp [parsGo] at h; subst h; simp
  | x :: X, acc, l, h => by
    unfold parsGo at h
    split at h
    · have := parsGo_sum X _ _ h; simp only [sumS, List.map_cons, List.sum_cons] at this ⊢; omega
    · split at h
      · have h1 := parsGo_sum X _ _ h
        have h2 := oneP_sum (trim x)
        have h3 := trim_length x
        simp only [sumS, sumP, List.map_cons, List.sum_cons, List.map_append, List.sum_append, List.map_nil, List.sum_nil] at h1 ⊢
        omega
      · cases h
theorem parseP_sum (s : Str) : sumP (parseP s).2.1 ≤ s.length := by
  unfold parseP
  split
  · simp [sumP]
  · split
    · simp [sumP]
    · rename_i l h
      have h1 := parsGo_sum _ _ _ h
      have h2 := cutGo_sum 59 s 0 []
      have h3 : sumS ((cutF s 59).drop 1) ≤ sumS (cutF s 59) := by
        unfold sumS
        cases cutF s 59 with
        | nil => simp
        | cons a t => simp
      unfold cutF at h1 h3
      simp only [sumP, List.map_nil, List.sum_nil, List.length_nil] at h1 h2 ⊢
      omega
theorem parseR_sum (s : Str) : sumP (parseR s).1.2.2 ≤ s.length := by
  unfold parseR
  split
  · exact parseP_sum s
  · simp [sumP]
theorem formatT_len (s : Str) : (formatT (parseR s).1).length ≤ 8 * s.length + 1 := by
  have h1 := formatP_length (((parseR s).1.1 ++ [47]) ++ (parseR s).1.2.1) (parseR s).1.2.2
  have h2 := parseR_len s
  have h3 := parseR_sum s
  unfold formatT
  simp only [List.length_append, List.length_cons, List.length_nil] at h1
  omega
theorem parseT_ok {s : Str} (h : (parseT s).2 = true) : ¬ (parseT s).1.1 = [42] ∧ ¬ (parseT s).1.2.1 = [42] := by
  cases hb : badT s
  · rw [(parseT_yes hb).1]
    unfold badT at hb
    simp only [Bool.or_eq_false_iff, decide_eq_false_iff_not] at hb
    exact ⟨hb.1.2, hb.2⟩
  · rw [parseT_no hb] at h; cases h
theorem match_more2 {t : Med} {q : Prm} (h1 : ¬ t.1 = [42]) (h2 : ¬ t.2.1 = [42]) (hn : ∀ p ∈ t.2.2, p.1 ≠ q.1) : matchT (t.1, t.2.1, ([] ++ t.2.2) ++ [q]) t = -1 := match_more (n := []) h1 h2 hn
theorem more_new {s name : Str} : ∀ p ∈ (parseT s).1.2.2, p.1 ≠ (([120] ++ lower name) ++ s, ([49] : Str)).1 := fun p hp e => by
  have h1 := ((parseT_len s).2.2.2 p hp).1
  have h2 := congrArg List.length e
  simp only [List.length_append, List.length_cons, List.length_nil] at h2
  omega
end Go.Plain
