/-
  Plain laws of writing quality values and of joining. No program in sight.
-/
import Derived.Test.YtikllmfjgpmcnaaDoorLaw13
namespace Go.Plain
open Go
set_option linter.unusedSimpArgs false
set_option linter.unusedVariables false

def digQ (q : Int) : Str := [UInt8.ofNat (((48 : Nat) : Int) + q / ((100 : Nat) : Int)).toNat, UInt8.ofNat (((48 : Nat) : Int) + (q / ((10 : Nat) : Int)) % ((10 : Nat) : Int)).toNat, UInt8.ofNat (((48 : Nat) : Int) + q % ((10 : Nat) : Int)).toNat]
def z48 (c : UInt8) : Bool := decide (c = 48)
def fmtQ (q : Int) : Str := if q < 0 ∨ 1000 < q then [] else if q = 0 then [48] else if q = 1000 then [49] else [48, 46] ++ trimR z48 (digQ q)
theorem fmtQ_out {q : Int} (h : q < 0 ∨ 1000 < q) : fmtQ q = [] := if_pos h
theorem fmtQ_zero {q : Int} (h : ¬ (q < 0 ∨ 1000 < q)) (h0 : q = 0) : fmtQ q = [48] := by unfold fmtQ; rw [if_neg h, if_pos h0]
theorem fmtQ_one {q : Int} (h : ¬ (q < 0 ∨ 1000 < q)) (h0 : ¬ q = 0) (h1 : q = 1000) : fmtQ q = [49] := by unfold fmtQ; rw [if_neg h, if_neg h0, if_pos h1]
theorem fmtQ_some {q : Int} (h : ¬ (q < 0 ∨ 1000 < q)) (h0 : ¬ q = 0) (h1 : ¬ q = 1000) : fmtQ q = [48, 46] ++ trimR z48 (digQ q) := by unfold fmtQ; rw [if_neg h, if_neg h0, if_neg h1]
theorem digQ_length (q : Int) : (digQ q).length = 3 := rfl
theorem fmtQ_length (q : Int) : (fmtQ q).length ≤ 5 := by
  unfold fmtQ
  have := trimR_length (p := z48) (digQ q)
  rw [digQ_length] at this
  repeat' split
  · simp
  · simp
  · simp
  · rw [List.length_append]; simp only [List.length_cons, List.length_nil]; omega
theorem trimR_nil {p : UInt8 → Bool} {s : Str} (h : trimR p s = []) : ∀ x ∈ s, p x = true := by
  unfold trimR at h
  rw [List.reverse_eq_nil_iff, dw_nil] at h
  exact fun x hx => h x (by simpa using hx)
theorem dig48 {m : Int} (h0 : 0 ≤ m) (h9 : m ≤ 9) (h : UInt8.ofNat (((48 : Nat) : Int) + m).toNat = 48) : m = 0 := by
  have h2 := congrArg UInt8.toNat h
  rw [UInt8.toNat_ofNat'] at h2
  have : (48 : UInt8).toNat = 48 := rfl
  omega
theorem digQ_some {q : Int} (h0 : 0 < q) (h1 : q < 1000) : trimR z48 (digQ q) ≠ [] := fun h => by
  have h2 := trimR_nil h
  unfold digQ at h2
  simp only [List.mem_cons, List.not_mem_nil, or_false, forall_eq_or_imp, forall_eq] at h2
  obtain ⟨a, b, c⟩ := h2
  unfold z48 at a b c
  have a := dig48 (by omega) (by omega) (of_decide_eq_true a)
  have b := dig48 (by omega) (by omega) (of_decide_eq_true b)
  have c := dig48 (by omega) (by omega) (of_decide_eq_true c)
  omega
/-- The last k digits. -/
def lastD (n : Int) : Nat → Str
  | 0 => []
  | k + 1 => UInt8.ofNat (((48 : Nat) : Int) + (n / 10 ^ k) % ((10 : Nat) : Int)).toNat :: lastD n k
theorem lastD_length (n : Int) : ∀ k, (lastD n k).length = k
  | 0 => rfl
  | k + 1 => by rw [lastD, List.length_cons, lastD_length n k]
theorem ten_step {n m : Int} {k : Nat} (h : m = n / 10 ^ k) : m / ((10 : Nat) : Int) = n / 10 ^ (k + 1) := by
  rw [h, Int.pow_succ, Int.ediv_ediv_of_nonneg (Int.pow_nonneg (by omega))]; rfl
theorem ten_le {n m : Int} {k : Nat} (hn : n ≤ 9999) (h : m = n / 10 ^ k) (h0 : 0 < m) : k ≤ 3 := by
  rcases Nat.lt_or_ge k 4 with q | q
  · omega
  · exfalso
    have h1 : (10 : Int) ^ 4 ≤ 10 ^ k := by exact_mod_cast Nat.pow_le_pow_right (by omega) q
    have h2 : n / 10 ^ k < 1 := Int.ediv_lt_of_lt_mul (by omega) (by omega)
    omega
theorem ten_end {n : Int} {k : Nat} (hn : 1000 ≤ n) (hk : k ≤ 4) (h : 0 = n / 10 ^ k) : k = 4 := by
  have : k = 0 ∨ k = 1 ∨ k = 2 ∨ k = 3 ∨ k = 4 := by omega
  rcases this with rfl | rfl | rfl | rfl | rfl <;> omega
theorem lastD_digQ {q : Int} (h0 : 0 < q) (h1 : q < 1000) : (lastD (((1000 : Nat) : Int) + q) 4).drop 1 = digQ q := by
  have e0 : (((1000 : Nat) : Int) + q) / 10 ^ 2 % ((10 : Nat) : Int) = q / ((100 : Nat) : Int) := by omega
  have e1 : (((1000 : Nat) : Int) + q) / 10 ^ 1 % ((10 : Nat) : Int) = (q / ((10 : Nat) : Int)) % ((10 : Nat) : Int) := by omega
  have e2 : (((1000 : Nat) : Int) + q) / 10 ^ 0 % ((10 : Nat) : Int) = q % ((10 : Nat) : Int) := by omega
  show [_, _, _] = _
  simp only [lastD, e0, e1, e2, List.drop_one, List.tail_cons]
  unfold digQ
  rfl
/-! ### Joining -/
theorem joinS_next {sep : Str} {l : List Str} {i : Nat} (h0 : 0 < i) (h : i < l.length) : joinS sep (l.take (i + 1)) = (joinS sep (l.take i) ++ sep) ++ l.getD i [] := by
  cases l with
  | nil => simp at h
  | cons x r =>
    obtain ⟨j, rfl⟩ : ∃ j, i = j + 1 := ⟨i - 1, by omega⟩
    have hj : j < r.length := by simpa using h
    rw [List.take_succ_cons, List.take_succ_cons, joinS_step hj]
    simp
theorem joinS_first {sep : Str} {l : List Str} (h : 0 < l.length) : joinS sep (l.take 1) = l.getD 0 [] := by
  cases l with
  | nil => simp at h
  | cons x r => rfl
theorem joinS_zero {sep : Str} {l : List Str} : joinS sep (l.take 0) = [] := rfl
theorem joinS_all {sep : Str} {l : List Str} {i : Nat} (h : l.length ≤ i) : joinS sep (l.take i) = joinS sep l := by rw [List.take_of_length_le h]
theorem tail_get {l : List Str} {i : Nat} : ((l.take l.length).drop 1).getD i [] = l.getD (i + 1) [] := by
  rw [List.take_length, List.drop_one]
  cases l <;> simp
def memP (p : Prf) : Str := if p.2 = 1000 then p.1 else p.1 ++ ([59, 113, 61] ++ fmtQ p.2)
def fmtP (l : List Prf) : Str := joinS [44, 32] (l.map memP)
theorem memP_plain {p : Prf} (h : p.2 = 1000) : memP p = p.1 := if_pos h
theorem memP_q {p : Prf} (h : ¬ p.2 = 1000) : memP p = p.1 ++ ([59, 113, 61] ++ fmtQ p.2) := if_neg h
theorem memP_length (p : Prf) : (memP p).length ≤ p.1.length + 8 := by
  unfold memP
  have := fmtQ_length p.2
  split
  · omega
  · simp only [List.length_append, List.length_cons, List.length_nil]; omega
theorem mapP_step {l : List Prf} {i : Nat} (h : i < l.length) : (l.take (i + 1)).map memP = (l.take i).map memP ++ [memP (l.getD i ([], 0))] := by
  rw [List.take_succ_eq_append_getElem h, List.map_append, ← getD_get (dd := ([], 0)) h]; rfl
def okR (p : Prf) : Bool := !decide (100 < p.1.length)
def keepR (l : List Prf) : Bool := (l.take 21).all okR && decide (l.length ≤ 20)
theorem keepR_len {l : List Prf} (h : keepR l = true) : l.length ≤ 20 := by
  unfold keepR at h; rw [Bool.and_eq_true, decide_eq_true_eq] at h; exact h.2
theorem keepR_mem {l : List Prf} (h : keepR l = true) : ∀ x ∈ l, x.1.length ≤ 100 := fun x hx => by
  have hl := keepR_len h
  unfold keepR at h
  rw [Bool.and_eq_true, take_over (s := l) (by omega)] at h
  have := List.all_eq_true.1 h.1 x hx
  unfold okR at this
  simp at this; omega
end Go.Plain
