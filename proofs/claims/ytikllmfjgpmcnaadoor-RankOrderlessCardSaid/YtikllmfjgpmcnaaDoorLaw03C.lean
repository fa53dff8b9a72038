/-
  Plain laws of lists of fields. No program in sight.
-/
import Derived.Test.YtikllmfjgpmcnaaDoorLaw03B
namespace Go.Plain
set_option linter.unusedSimpArgs false

abbrev Fld := Str × Str
def fold (a b : Str) : Bool := decide (a.length = b.length) && decide (lower a = lower b)
def okF (f : Fld) : Bool := !(decide (300 < f.1.length) || decide (300 < f.2.length))
def keepF (l : List Fld) : Bool := (l.take 71).all okF && decide (l.length ≤ 70)
theorem keep_end {α : Type} {p : α → Bool} {l : List α} {i m : Nat} (hi : i ≤ m) (h : ¬ i < l.length ∨ ¬ i < m) (h1 : (l.take i).all p = true) : (l.take m).all p = true := by
  rcases h with h | h
  · rw [List.take_of_length_le (by omega)] at h1 ⊢; exact h1
  · rw [show m = i by omega]; exact h1
theorem keep_miss {α : Type} {p : α → Bool} {l : List α} {i m : Nat} {dd : α} (hm : i < m) (hi : i < l.length) (h : p (l.getD i dd) = false) : (l.take m).all p = false := by
  refine all_miss (i := i) (dd := dd) (by rw [List.length_take]; omega) ?_
  rw [List.getD_eq_getElem?_getD, List.getElem?_take, if_pos hm, ← List.getD_eq_getElem?_getD]
  exact h
theorem keepF_len {l : List Fld} (h : keepF l = true) : l.length ≤ 70 := by
  unfold keepF at h
  simp only [Bool.and_eq_true, decide_eq_true_eq] at h
  exact h.2
theorem keepF_mem {l : List Fld} (h : keepF l = true) : ∀ x ∈ l, x.1.length ≤ 300 ∧ x.2.length ≤ 300 := fun x hx => by
  have hl := keepF_len h
  unfold keepF at h
  simp only [Bool.and_eq_true] at h
  have h1 := h.1
  rw [List.take_of_length_le (by omega)] at h1
  have := List.all_eq_true.1 h1 x hx
  unfold okF at this
  simp at this
  omega

theorem take_eq_step {α : Type} {a b : List α} {i : Nat} {dd : α} (ha : i < a.length) (hb : i < b.length) (h : a.take i = b.take i) (he : a.getD i dd = b.getD i dd) : a.take (i + 1) = b.take (i + 1) := by
  rw [List.take_succ_eq_append_getElem ha, List.take_succ_eq_append_getElem hb, h, ← getD_get (dd := dd) ha, ← getD_get (dd := dd) hb, he]

def getF (l : List Fld) (name : Str) : List Str := (l.filter fun f => fold f.1 name).map (·.2)
theorem filter_hit {α : Type} {p : α → Bool} {l : List α} {i : Nat} {dd : α} (h : i < l.length) (h2 : p (l.getD i dd) = true) : (l.take (i + 1)).filter p = (l.take i).filter p ++ [l.getD i dd] := by
  rw [List.take_succ_eq_append_getElem h, List.filter_append, ← getD_get (dd := dd) h]
  simp only [List.filter_cons, h2, if_true, List.filter_nil]
theorem filter_miss {α : Type} {p : α → Bool} {l : List α} {i : Nat} {dd : α} (h : i < l.length) (h2 : p (l.getD i dd) = false) : (l.take (i + 1)).filter p = (l.take i).filter p := by
  rw [List.take_succ_eq_append_getElem h, List.filter_append, ← getD_get (dd := dd) h]
  simp only [List.filter_cons, h2, Bool.false_eq_true, if_false, List.filter_nil, List.append_nil]
theorem getF_hit {l : List Fld} {name : Str} {i : Nat} {dd : Fld} (h : i < l.length) (h2 : fold (l.getD i dd).1 name = true) : getF (l.take (i + 1)) name = getF (l.take i) name ++ [(l.getD i dd).2] := by
  unfold getF
  rw [filter_hit (p := fun f : Fld => fold f.1 name) h h2, List.map_append]; rfl
theorem getF_miss {l : List Fld} {name : Str} {i : Nat} {dd : Fld} (h : i < l.length) (h2 : fold (l.getD i dd).1 name = false) : getF (l.take (i + 1)) name = getF (l.take i) name := by
  unfold getF
  rw [filter_miss (p := fun f : Fld => fold f.1 name) h h2]
theorem getF_length (l : List Fld) (name : Str) : (getF l name).length ≤ l.length := by
  unfold getF; rw [List.length_map]; exact List.length_filter_le ..
def namedB (nm : Str) (f : Fld) : Bool := decide (f.1.length = nm.length) && decide (lower f.1 = nm)
theorem named_fold (name : Str) (f : Fld) : namedB (lower name) f = fold f.1 name := by simp [namedB, fold]
theorem get_filter (l : List Fld) (name : Str) : (l.filter (namedB (lower name))).map (·.2) = getF l name := by
  unfold getF
  congr 2
  funext f
  exact named_fold name f
theorem getD_mem {α : Type} {l : List α} {i : Nat} {dd : α} (h : i < l.length) : l.getD i dd ∈ l := by rw [getD_get h]; exact List.getElem_mem h
theorem head_getD {α : Type} {l : List α} {dd : α} : l.headD dd = l.getD 0 dd := by cases l <;> rfl
theorem map_step {l : List Fld} {i : Nat} {dd : Fld} (h : i < l.length) : (l.take (i + 1)).map (fun x => x.2) = (l.take i).map (fun x => x.2) ++ [(l.getD i dd).2] := by
  rw [List.take_succ_eq_append_getElem h, List.map_append, ← getD_get (dd := dd) h]; rfl
end Go.Plain
