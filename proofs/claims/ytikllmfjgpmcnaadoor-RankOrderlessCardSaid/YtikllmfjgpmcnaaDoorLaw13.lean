/-
  Plain laws of the second way to read preferences. No program in sight.
-/
import Derived.Test.YtikllmfjgpmcnaaDoorLaw11
namespace Go.Plain
open Go
set_option linter.unusedSimpArgs false
set_option linter.unusedVariables false

theorem split_more {X acc Y : List Str} {i : Nat} (h : i < X.length) (h3 : ¬ trim (X.getD i []) = []) (e : acc ++ memG (X.drop i) = Y) : acc ++ [trim (X.getD i [])] ++ memG (X.drop (i + 1)) = Y := by
  have := memG_step h e
  rwa [if_neg h3] at this
theorem split_less {X acc Y : List Str} {i : Nat} (h : i < X.length) (h3 : trim (X.getD i []) = []) (e : acc ++ memG (X.drop i) = Y) : acc ++ memG (X.drop (i + 1)) = Y := by
  have := memG_step h e
  rwa [if_pos h3, List.append_nil] at this

/-! ### Tags -/
theorem sub_len {d : Bool} {m : Str} (h : m.length < 1 ∨ 8 < m.length) : subOk d m = false := by
  unfold subOk
  rcases h with h | h
  · have : m = [] := List.length_eq_zero_iff.1 (by omega)
    simp [this]
  · rw [decide_eq_false (by omega : ¬ m.length ≤ 8), Bool.and_false]
theorem sub_ch {d : Bool} {m : Str} {k : Nat} (h : k < m.length) (h2 : (alphaB (m.getD k 0) || (d && digB (m.getD k 0))) = false) : subOk d m = false := by
  unfold subOk
  have : m.all (fun c => alphaB c || (d && digB c)) = false := by
    rw [List.all_eq_false]
    exact ⟨_, getD_mem h, by rw [h2]; simp⟩
  rw [this]; rfl
theorem sub_good {d : Bool} {m : Str} (h : ¬ m.length < 1 ∧ ¬ 8 < m.length) (h2 : m.all (fun c => alphaB c || (d && digB c)) = true) : subOk d m = true := by
  unfold subOk
  have : m ≠ [] := fun e => by rw [e] at h; simp at h
  rw [h2, decide_eq_true (by omega : m.length ≤ 8), decide_eq_false this]; rfl

/-! ### Quality values -/
def badQ2 (s : Str) : Bool := decide (s.length < 1) || decide (5 < s.length) || (!decide (s.getD 0 0 = 48) && !decide (s.getD 0 0 = 49)) || (decide (1 < s.length) && !decide (s.getD 1 0 = 46))
theorem badQ_eq (s : Str) : badQ2 s = badQ s := by
  unfold badQ2 badQ
  rw [show decide (s.length < 1) = decide (s = []) from decide_eq_decide.2 ⟨fun h => List.length_eq_zero_iff.1 (by omega), fun h => by rw [h]; simp⟩]
theorem sumQ_two (s : Str) : (s.getD 0 0 - 48).toNat * 1000 = sumQ s 2 := by
  rw [show (2 : Nat) = 1 + 1 from rfl, sumQ_one, show (1 : Nat) = 0 + 1 from rfl, sumQ_step (by omega), Nat.mul_comm]
  simp [sumQ, wq, digV]
theorem wq_div {i : Nat} (h : 2 ≤ i) (h2 : i ≤ 4) : wq i / 10 = wq (i + 1) := by
  have : i = 2 ∨ i = 3 ∨ i = 4 := by omega
  rcases this with rfl | rfl | rfl <;> rfl
theorem sumQ_at {s : Str} {i : Nat} (h0 : 0 < s.length) (h : s.length ≤ i) (h2 : i ≤ s.length ∨ i = 2) : sumQ s i = sumQ s s.length := by
  rcases h2 with h2 | rfl
  · rw [show i = s.length by omega]
  · by_cases h3 : s.length = 2
    · rw [h3]
    · rw [show s.length = 1 by omega]; exact sumQ_one s
theorem dig_two (s : Str) : ((s.take 2).drop 2).all digB = true := dig_one

/-! ### A member -/
theorem qAt_stop {l : List Prm} {i : Nat} (hi : i ≤ l.length) (h : ¬ i < l.length ∨ (l.getD i ([], [])).1 = [113]) (e : i + qAt (l.drop i) = qAt l) : qAt l = i := by
  by_cases h1 : i < l.length
  · exact qAt_hit h1 (h.resolve_left (fun q => q h1)) e
  · have := qAt_le l
    omega
theorem mem_badq {kind : Int} {s : Str} {i : Nat} (h : (parseP s).2.2 = true) (e : qAt (parseP s).2.1 = i) (hi : i < (parseP s).2.1.length) (h2 : (parseQ ((parseP s).2.1.getD i ([], [])).2).2 = false) : prefF kind s = (([], 0), false) := by
  subst e
  exact pref_badq (by rw [h]; simp) hi h2
theorem mem_any {kind q : Int} {s : Str} {i : Nat} (h : (parseP s).2.2 = true) (e : qAt (parseP s).2.1 = i) (hq : (i < (parseP s).2.1.length ∧ (parseQ ((parseP s).2.1.getD i ([], [])).2).2 = true ∧ q = (((parseQ ((parseP s).2.1.getD i ([], [])).2).1 : Nat) : Int)) ∨ (¬ i < (parseP s).2.1.length ∧ q = 1000)) :
    prefF kind s = (((rangedF kind (parseP s).1 (((parseP s).2.1.take i).drop 0)).1, q), (rangedF kind (parseP s).1 (((parseP s).2.1.take i).drop 0)).2) := by
  subst e
  rw [List.drop_zero]
  rcases hq with ⟨a, b, rfl⟩ | ⟨a, rfl⟩
  · exact pref_q (by rw [h]; simp) a (by rw [b]; simp)
  · rw [take_over (s := (parseP s).2.1) (by omega)]
    exact pref_plain (by rw [h]; simp) a
theorem ranged_1 {kind : Int} {v : Str} {ps : List Prm} (hk : kind = 1) : rangedF kind v ps = (formatT ((parseR v).1.1, (parseR v).1.2.1, ps), (parseR v).2) := if_pos hk
theorem take_no {α : Type} {X : List α} {i : Nat} (h : i ≤ X.length) : decide (((X.take i).drop 0).length = 0) = decide (i = 0) := by
  rw [List.drop_zero, List.length_take, Nat.min_eq_left h]
theorem ranged_2 {kind : Int} {v : Str} {X : List Prm} {i : Nat} (hi : i ≤ X.length) (hk : kind = 2) : rangedF kind v ((X.take i).drop 0) = (canonical kind v, rangeL v && decide (i = 0)) := by
  unfold rangedF
  rw [if_neg (by omega), if_pos hk, take_no hi]
theorem ranged_3 {kind : Int} {v : Str} {X : List Prm} {i : Nat} (hi : i ≤ X.length) (h1 : ¬ kind = 1) (h2 : ¬ kind = 2) : rangedF kind v ((X.take i).drop 0) = (canonical kind v, token v && decide (i = 0)) := by
  unfold rangedF
  rw [if_neg h1, if_neg h2, take_no hi]
theorem prefsF_length (kind : Int) (l : List Fld) : (prefsF kind l).1.length ≤ 64 := by
  unfold prefsF
  split
  · simp
  · exact Nat.le_trans (prefsM_length _ _) (allV_length _)
end Go.Plain
