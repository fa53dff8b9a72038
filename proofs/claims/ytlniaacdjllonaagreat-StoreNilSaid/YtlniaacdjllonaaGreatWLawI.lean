/-
 Tables and stores in plain Lean: sizes, what Put and Remove make of a table, and a store as a list of tables from the least to the most recently used one; after each change the bounds hold. No program in sight. No conditions.
-/
import Derived.Test.YtlniaacdjllonaaGreatWLawC
import Derived.Test.YtlniaacdjllonaaGreatWSep6
namespace Go.Plain
open Go.Sep
set_option linter.unusedVariables false
set_option linter.unusedSimpArgs false
abbrev Ent := List (List Str) × List Str × List Str × Str × List Fld × Str × Int × Int
abbrev Tab := List Axs × List Ent
abbrev Sto := List (Str × Tab)
abbrev tyE : Ty := .pair (.list (.list .str)) (.pair (.list .str) (.pair (.list .str) (.pair .str (.pair (.list (.pair .str .str)) (.pair .str (.pair (.int .i64) (.int .i64)))))))
abbrev tyT : Ty := .pair (.list (.pair .str (.list .str))) (.list tyE)
abbrev dE : Ent := ([], [], [], [], [], [], 0, 0)
def lenS (l : List Str) : Nat := (l.map fun s => 4 + s.length).sum
def lenF (l : List Fld) : Nat := (l.map fun f => 4 + f.1.length + f.2.length).sum
def lenK (l : List (List Str)) : Nat := (l.map lenS).sum
def sizeE (e : Ent) : Nat := 100 + e.2.2.2.1.length + e.2.2.2.2.2.1.length + lenS e.2.1 + lenS e.2.2.1 + lenF e.2.2.2.2.1 + lenK e.1
def sizeL (l : List Ent) : Nat := (l.map sizeE).sum
def totA (A : Sto) : Nat := (A.map fun x => sizeL x.2.2).sum
def cntA (A : Sto) : Nat := (A.map fun x => x.2.2.length).sum
def hasK (axes : List Axs) (e : Ent) (key : List Str) : Bool := e.1.any fun k => sameK axes k key
def replB (axes : List Axs) (e old : Ent) : Bool := if axes = [] then decide (e.2.1 = old.2.1) && decide (e.2.2.1 = old.2.2.1) else e.1.any fun k => hasK axes old k
def keepT (t : Tab) (e : Ent) (axes : List Axs) : List Ent := (if t.1 = axes then t.2.filter (fun o => !replB axes e o) else []) ++ [e]
def putT (t : Tab) (e : Ent) (axes : List Axs) (limit : Nat) : Tab := (axes, (keepT t e axes).drop ((keepT t e axes).length - limit))
def remL (l : List Ent) (i : Int) : List Ent := if 0 ≤ i ∧ i < l.length then l.eraseIdx i.toNat else l
theorem sum_step {α : Type} (f : α → Nat) {l : List α} {i : Nat} (dd : α) (h : i < l.length) : ((l.take (i + 1)).map f).sum = ((l.take i).map f).sum + f (l.getD i dd) := by
 rw [List.take_add_one, List.getElem?_eq_getElem h, Option.toList_some, List.map_append, List.sum_append, List.getD_eq_getElem?_getD, List.getElem?_eq_getElem h]
 simp
theorem sum_le {α : Type} (f : α → Nat) (l : List α) (i : Nat) : ((l.take i).map f).sum ≤ (l.map f).sum := by
 conv => rhs; rw [← List.take_append_drop i l, List.map_append, List.sum_append]
 omega
theorem sum_mem {α : Type} (f : α → Nat) {l : List α} {x : α} (h : x ∈ l) : f x ≤ (l.map f).sum := by
 induction l with
 | nil => cases h
 | cons y r ih =>
  rw [List.map_cons, List.sum_cons]
  rcases List.mem_cons.1 h with rfl | h
  ·omega
  ·have := ih h; omega
theorem take_next {α : Type} {l : List α} {i : Nat} {dd : α} (h : i < l.length) : l.take (i + 1) = l.take i ++ [l.getD i dd] := by
 rw [List.take_add_one, List.getElem?_eq_getElem h, Option.toList_some, List.getD_eq_getElem?_getD, List.getElem?_eq_getElem h]
 simp
theorem lenS_step {l : List Str} {i : Nat} (h : i < l.length) : lenS (l.take (i + 1)) = lenS (l.take i) + (4 + (l.getD i []).length) := sum_step _ [] h
theorem lenS_le (l : List Str) (i : Nat) : lenS (l.take i) ≤ lenS l := sum_le _ l i
theorem lenF_step {l : List Fld} {i : Nat} (h : i < l.length) : lenF (l.take (i + 1)) = lenF (l.take i) + (4 + (l.getD i ([], [])).1.length + (l.getD i ([], [])).2.length) := sum_step _ ([], []) h
theorem lenF_le (l : List Fld) (i : Nat) : lenF (l.take i) ≤ lenF l := sum_le _ l i
theorem lenK_step {l : List (List Str)} {i : Nat} (h : i < l.length) : lenK (l.take (i + 1)) = lenK (l.take i) + lenS (l.getD i []) := sum_step _ [] h
theorem lenK_le (l : List (List Str)) (i : Nat) : lenK (l.take i) ≤ lenK l := sum_le _ l i
def noE : Ent := ([], [], [], [], [], [], 0, 0)
theorem sizeL_step {l : List Ent} {i : Nat} (h : i < l.length) : sizeL (l.take (i + 1)) = sizeL (l.take i) + sizeE (l.getD i ([], [], [], [], [], [], 0, 0)) := sum_step _ _ h
theorem sizeL_le (l : List Ent) (i : Nat) : sizeL (l.take i) ≤ sizeL l := sum_le _ l i
/-- An entry that is not too long. -/
structure OkE (e : Ent) : Prop where
 size : sizeE e ≤ 1000000000
 keys : e.1.length ≤ 1000000
 strs : ∀ k ∈ e.1, ∀ s ∈ k, s.length ≤ 300000
theorem lenS_len : ∀ (l : List Str), 4 * l.length ≤ lenS l
 | [] => Nat.le_refl _
 | s :: l => by
  have := lenS_len l
  have e : lenS (s :: l) = (4 + s.length) + lenS l := by simp [lenS]
  rw [e, List.length_cons]; omega
theorem lenF_len : ∀ (l : List Fld), 4 * l.length ≤ lenF l
 | [] => Nat.le_refl _
 | s :: l => by
  have := lenF_len l
  have e : lenF (s :: l) = (4 + s.1.length + s.2.length) + lenF l := by simp [lenF]
  rw [e, List.length_cons]; omega
theorem OkE.lens {e : Ent} (h : OkE e) : e.1.length ≤ 1000000000 ∧ (∀ k ∈ e.1, k.length ≤ 1000000000) ∧ e.2.1.length ≤ 1000000000 ∧ e.2.2.1.length ≤ 1000000000 ∧ e.2.2.2.2.1.length ≤ 1000000000 := by
 have h1 := h.size
 unfold sizeE at h1
 have h2 := lenS_len e.2.1
 have h3 := lenS_len e.2.2.1
 have h4 := lenF_len e.2.2.2.2.1
 refine ⟨by have := h.keys; omega, fun k hk => ?_, by omega, by omega, by omega⟩
 have h5 := lenS_len k
 have h6 : lenS k ≤ lenK e.1 := sum_mem lenS hk
 omega
/-- Axes that are not too long. -/
structure OkA (l : List Axs) : Prop where
 len : l.length ≤ 1000
 names : ∀ a ∈ l, a.1.length ≤ 1000000
 vals : ∀ a ∈ l, a.2.length ≤ 1000000000
 strs : ∀ a ∈ l, ∀ x ∈ a.2, x.length ≤ 300000
/-- What 'slices.DeleteFunc' has done when it has come to j. -/
def DelTo {α : Type} (q : α → Bool) (l xs : List α) (k j : Nat) : Prop := k ≤ j ∧ j ≤ l.length ∧ xs.length = l.length ∧ xs.take k = (l.take j).filter (fun o => !q o) ∧ xs.drop j = l.drop j
theorem DelTo.get {α : Type} {q : α → Bool} {l xs : List α} {k j : Nat} (h : DelTo q l xs k j) (hj : j < l.length) (dd : α) : xs.getD j dd = l.getD j dd := by
 obtain ⟨_, _, h3, _, h5⟩ := h
 have e : (xs.drop j)[0]? = (l.drop j)[0]? := by rw [h5]
 rw [List.getElem?_drop, List.getElem?_drop] at e
 rw [List.getD_eq_getElem?_getD, List.getD_eq_getElem?_getD]
 simpa using congrArg (fun o => o.getD dd) e
theorem filter_next {α : Type} {p : α → Bool} {l : List α} {j : Nat} {dd : α} (h : j < l.length) : (l.take (j + 1)).filter p = (l.take j).filter p ++ (if p (l.getD j dd) = true then [l.getD j dd] else []) := by
 rw [take_next (dd := dd) h, List.filter_append, List.filter_cons, List.filter_nil]
theorem DelTo.keep {α : Type} {q : α → Bool} {l xs : List α} {k j : Nat} {dd : α} (h : DelTo q l xs k j) (hj : j < l.length) (hq : q (l.getD j dd) = false) : DelTo q l (xs.set k (l.getD j dd)) (k + 1) (j + 1) := by
 obtain ⟨h1, h2, h3, h4, h5⟩ := h
 refine ⟨by omega, by omega, by rw [List.length_set]; exact h3, ?_, ?_⟩
 ·rw [filter_next (dd := dd) hj, if_pos (by rw [hq]; rfl), ← h4]
  apply List.ext_getElem?
  intro i
  rw [List.getElem?_take]
  have hl : (xs.take k).length = k := by rw [List.length_take]; omega
  rcases Nat.lt_trichotomy i k with hi | hi | hi
  ·rw [if_pos (by omega), List.getElem?_append_left (by omega), List.getElem?_set, if_neg (by omega), List.getElem?_take_of_lt hi]
  ·subst hi
   rw [if_pos (by omega), List.getElem?_append_right (by omega), hl, List.getElem?_set, if_pos rfl, if_pos (by omega)]; simp
  ·rw [if_neg (by omega), List.getElem?_eq_none (by rw [List.length_append, hl]; simp; omega)]
 ·rw [List.drop_set_of_lt (by omega), ← List.drop_drop, ← List.drop_drop, h5]
theorem DelTo.skip {α : Type} {q : α → Bool} {l xs : List α} {k j : Nat} {dd : α} (h : DelTo q l xs k j) (hj : j < l.length) (hq : q (l.getD j dd) = true) : DelTo q l xs k (j + 1) := by
 obtain ⟨h1, h2, h3, h4, h5⟩ := h
 refine ⟨by omega, by omega, h3, ?_, by rw [← List.drop_drop, ← List.drop_drop, h5]⟩
 rw [filter_next (dd := dd) hj, if_neg (by rw [hq]; simp), List.append_nil, h4]
theorem idxP_at {α : Type} {q : α → Bool} {l : List α} (h : ¬ idxP q l = -1) (dd : α) : 0 ≤ idxP q l ∧ (idxP q l).toNat < l.length ∧ q (l.getD (idxP q l).toNat dd) = true ∧ (l.take (idxP q l).toNat).any q = false := by
 unfold idxP at h ⊢
 by_cases hl : l.findIdx q < l.length
 ·rw [if_pos hl] at h ⊢
  refine ⟨by omega, by simpa using hl, ?_, ?_⟩
  ·rw [Int.toNat_natCast, List.getD_eq_getElem?_getD, List.getElem?_eq_getElem hl]
   exact List.findIdx_getElem
  ·rw [Int.toNat_natCast, List.any_eq_false]
   intro x hx
   obtain ⟨i, hi, rfl⟩ := List.mem_iff_getElem.1 hx
   rw [List.length_take] at hi
   rw [List.getElem_take]
   simpa using List.not_of_lt_findIdx (p := q) (xs := l) (by omega)
 ·rw [if_neg hl] at h; exact absurd rfl h
theorem idxP_no {α : Type} {q : α → Bool} {l : List α} (h : idxP q l = -1) : l.filter (fun o => !q o) = l := by
 refine List.filter_eq_self.2 fun x hx => ?_
 have : l.any q = false := by
  rw [← idxP_ge, h]; rfl
 rw [List.any_eq_false] at this
 have := this x hx
 simpa using this
theorem DelTo.start {α : Type} {q : α → Bool} {l : List α} {k : Nat} (dd : α) (hk : k < l.length) (h1 : q (l.getD k dd) = true) (h2 : (l.take k).any q = false) : DelTo q l l k (k + 1) := by
 refine ⟨by omega, by omega, rfl, ?_, rfl⟩
 rw [filter_next (dd := dd) hk, if_neg (by rw [h1]; simp), List.append_nil]
 refine (List.filter_eq_self.2 fun x hx => ?_).symm
 rw [List.any_eq_false] at h2
 simpa using h2 x hx
theorem DelTo.done {α : Type} {q : α → Bool} {l xs : List α} {k j : Nat} (h : DelTo q l xs k j) (hj : ¬ j < l.length) : xs.take k = l.filter (fun o => !q o) := by
 rw [h.2.2.2.1, List.take_of_length_le (by omega)]
theorem sizeE_ge (e : Ent) : 100 ≤ sizeE e := by unfold sizeE; omega
theorem sizeL_cons (e : Ent) (l : List Ent) : sizeL (e :: l) = sizeE e + sizeL l := by simp [sizeL]
theorem sizeL_append (l m : List Ent) : sizeL (l ++ m) = sizeL l + sizeL m := by simp [sizeL]
theorem sizeL_len : ∀ (l : List Ent), 100 * l.length ≤ sizeL l
 | [] => Nat.le_refl _
 | e :: l => by have := sizeL_len l; have := sizeE_ge e; rw [sizeL_cons, List.length_cons]; omega
theorem sizeL_sub {l m : List Ent} (h : l.Sublist m) : sizeL l ≤ sizeL m := by
 induction h with
 | slnil => exact Nat.le_refl _
 | cons a _ ih => rw [sizeL_cons]; omega
 | cons_cons a _ ih => rw [sizeL_cons, sizeL_cons]; omega
theorem put_eq {t : Tab} {e : Ent} {axes : List Axs} {limit n : Nat} (h : t.1 = axes) (hn : n = ((t.2.filter (fun o => !replB axes e o)) ++ [e]).length) : (putT t e axes limit).2 = (((t.2.filter (fun o => !replB axes e o)) ++ [e]).take n).drop (n - max limit 0) := by
 have hk : keepT t e axes = (t.2.filter (fun o => !replB axes e o)) ++ [e] := by unfold keepT; rw [if_pos h]
 unfold putT
 rw [hk, hn, List.take_length, Nat.max_eq_left (Nat.zero_le limit)]
theorem put_ne {t : Tab} {e : Ent} {axes : List Axs} {limit n : Nat} (h : ¬ t.1 = axes) (hn : n = ((([] : List Ent).filter (fun o => !replB axes e o)) ++ [e]).length) : (putT t e axes limit).2 = (((([] : List Ent).filter (fun o => !replB axes e o)) ++ [e]).take n).drop (n - max limit 0) := by
 have hk : keepT t e axes = (([] : List Ent).filter (fun o => !replB axes e o)) ++ [e] := by unfold keepT; rw [if_neg h]; rfl
 unfold putT
 rw [hk, hn, List.take_length, Nat.max_eq_left (Nat.zero_le limit)]
theorem remL_in {l : List Ent} {i : Int} (h : 0 ≤ i ∧ i < l.length) : remL l i = l.take i.toNat ++ l.drop (i.toNat + 1) := by
 unfold remL
 rw [if_pos h, List.eraseIdx_eq_take_drop_succ]
theorem remL_nat {l : List Ent} {n : Nat} (h : n < l.length) : remL l (n : Int) = l.take n ++ l.drop (n + 1) := by
 rw [remL_in ⟨by omega, by omega⟩]; rfl
theorem remL_out {l : List Ent} {i : Int} (h : ¬ (0 ≤ i ∧ i < l.length)) : remL l i = l := if_neg h
theorem remL_sub (l : List Ent) (i : Int) : (remL l i).Sublist l := by
 unfold remL
 split
 ·exact List.eraseIdx_sublist _ _
 ·exact List.Sublist.refl _
theorem totA_cons (x : Str × Tab) (A : Sto) : totA (x :: A) = sizeL x.2.2 + totA A := by simp [totA]
theorem totA_append (A B : Sto) : totA (A ++ B) = totA A + totA B := by simp [totA]
theorem cntA_cons (x : Str × Tab) (A : Sto) : cntA (x :: A) = x.2.2.length + cntA A := by simp [cntA]
theorem totA_perm {A B : Sto} (h : A.Perm B) : totA A = totA B := (h.map _).sum_nat
/-! ### Eviction -/
def overA (B T : Nat) (A : Sto) : Bool := decide (B < totA A) || decide (T < A.length)
def dropI (one : Bool) (sp : Int) : Int := if one = true ∧ sp = 0 then 1 else 0
def nextI (one : Bool) (sp : Int) : Int := if one = true ∧ sp ≠ 0 then sp - 1 else sp
def consT (k : Str) (t : Tab) (r : Sto) : Sto := if t.2 = [] then r else (k, t) :: r
def stepA : Sto → Int → Sto
 | [], _ => []
 | x :: r, sp => consT x.1 (x.2.1, remL x.2.2 (dropI (decide (r = [])) sp)) r
def oneA (A : Sto) : Bool := decide (A.length = 1)
def evGo (B T : Nat) : Nat → Sto → Int → Sto
 | 0, A, _ => A
 | n + 1, A, sp => if overA B T A = true then evGo B T n (stepA A sp) (nextI (oneA A) sp) else A
def evF (B T : Nat) (A : Sto) (sp : Int) : Sto := evGo B T (cntA A) A sp
/-- The entry e is the one that is spared, in the last table. -/
def GoodE (lst : Bool) (k : Str) (axes : List Axs) (e : Ent) (A : Sto) (sp : Int) : Prop :=
 (A.map (·.1)).Nodup ∧ (∀ x ∈ A, x.2.2 ≠ []) ∧ ∃ r l, A = r ++ [(k, (axes, l))] ∧ 0 ≤ sp ∧ l[sp.toNat]? = some e ∧ (lst = true → sp.toNat + 1 = l.length)
theorem good_step {B T : Nat} {lst : Bool} {k : Str} {axes : List Axs} {e : Ent} {A : Sto} {sp : Int} (hB : sizeE e ≤ B) (hT : 1 ≤ T) (hg : GoodE lst k axes e A sp) (ho : overA B T A = true) :
  GoodE lst k axes e (stepA A sp) (nextI (oneA A) sp) ∧ cntA (stepA A sp) + 1 = cntA A := by
 obtain ⟨h1, h2, r, l, rfl, h3, h4, h5⟩ := hg
 obtain ⟨hlt, he⟩ := List.getElem?_eq_some_iff.1 h4
 cases r with
 | nil =>
  rw [List.nil_append] at h1 h2 ho ⊢
  have hone : oneA [(k, (axes, l))] = true := rfl
  have hov : B < sizeL l := by
   unfold overA at ho
   rw [Bool.or_eq_true, decide_eq_true_iff, decide_eq_true_iff, totA_cons] at ho
   rcases ho with ho | ho
   ·simpa [totA] using ho
   ·simp at ho; omega
  have hl2 : 2 ≤ l.length := by
   rcases Nat.lt_or_ge l.length 2 with h | h
   ·exfalso
    match l, h, hlt, he with
    | [x], _, hlt, he =>
     have h0 : sp.toNat = 0 := by simpa using hlt
     have : x = e := by simp only [h0, List.getElem_cons_zero] at he; exact he
     rw [sizeL_cons, this] at hov
     simp [sizeL] at hov; omega
    | [], _, hlt, _ => simp at hlt
   ·exact h
  rw [hone]
  have hrem : ∀ i : Int, 0 ≤ i → i < l.length → remL l i = l.eraseIdx i.toNat := fun i a b => by unfold remL; rw [if_pos ⟨a, b⟩]
  by_cases h0 : sp = 0
  ·subst h0
   have hd : dropI (decide (([] : Sto) = [])) 0 = 1 := rfl
   have hn : nextI true 0 = 0 := rfl
   have hlen : (l.eraseIdx 1).length = l.length - 1 := List.length_eraseIdx_of_lt (by omega)
   have hne : l.eraseIdx 1 ≠ [] := fun h => by rw [h] at hlen; simp at hlen; omega
   have hs : stepA [(k, (axes, l))] 0 = [(k, (axes, l.eraseIdx 1))] := by
    show consT k (axes, remL l _) [] = _
    rw [hd, hrem 1 (by omega) (by omega)]
    unfold consT
    rw [if_neg (by exact hne)]; rfl
   rw [hs, hn]
   refine ⟨⟨by simp, fun x hx => by rw [List.mem_singleton.1 hx]; exact hne, [], _, rfl, Int.le_refl _, ?_, fun h => by have := h5 h; rw [hlen]; simp at this; omega⟩, by rw [cntA_cons, cntA_cons]; show (l.eraseIdx 1).length + _ + 1 = l.length + _; simp only [cntA, List.map_nil, List.sum_nil]; omega⟩
   have : (l.eraseIdx 1)[0]? = l[0]? := by rw [List.getElem?_eraseIdx]; simp
   exact this.trans h4
  ·have hd : dropI (decide (([] : Sto) = [])) sp = 0 := by unfold dropI; rw [if_neg (fun h => h0 h.2)]
   have hn : nextI true sp = sp - 1 := by unfold nextI; rw [if_pos ⟨rfl, h0⟩]
   have hlen : (l.eraseIdx 0).length = l.length - 1 := List.length_eraseIdx_of_lt (by omega)
   have hne : l.eraseIdx 0 ≠ [] := fun h => by rw [h] at hlen; simp at hlen; omega
   have hs : stepA [(k, (axes, l))] sp = [(k, (axes, l.eraseIdx 0))] := by
    show consT k (axes, remL l _) [] = _
    rw [hd, hrem 0 (by omega) (by omega)]
    unfold consT
    rw [if_neg (by exact hne)]; rfl
   rw [hs, hn]
   refine ⟨⟨by simp, fun x hx => by rw [List.mem_singleton.1 hx]; exact hne, [], _, rfl, by omega, ?_, fun h => by have := h5 h; rw [hlen]; omega⟩, by rw [cntA_cons, cntA_cons]; show (l.eraseIdx 0).length + _ + 1 = l.length + _; simp only [cntA, List.map_nil, List.sum_nil]; omega⟩
   have : (l.eraseIdx 0)[(sp - 1).toNat]? = l[sp.toNat]? := by
    rw [List.getElem?_eraseIdx, if_neg (by omega)]
    congr 1; omega
   exact this.trans h4
 | cons x r =>
  have hnone : oneA (x :: r ++ [(k, (axes, l))]) = false := by unfold oneA; simp
  have hnil : decide (r ++ [(k, (axes, l))] = []) = false := by simp
  have hd : dropI (decide (r ++ [(k, (axes, l))] = [])) sp = 0 := by unfold dropI; rw [hnil]; simp
  have hn : nextI false sp = sp := by unfold nextI; simp
  rw [hnone, hn]
  have hx : x.2.2 ≠ [] := h2 x (by simp)
  have hxl : 0 < x.2.2.length := List.length_pos_iff.2 hx
  have hrem : remL x.2.2 0 = x.2.2.eraseIdx 0 := by unfold remL; rw [if_pos ⟨Int.le_refl _, by omega⟩]; rfl
  have hs : stepA (x :: r ++ [(k, (axes, l))]) sp = consT x.1 (x.2.1, x.2.2.eraseIdx 0) (r ++ [(k, (axes, l))]) := by
   show consT x.1 (x.2.1, remL x.2.2 (dropI (decide (r ++ [(k, (axes, l))] = [])) sp)) _ = _
   rw [hd, hrem]; rfl
  rw [hs]
  have hlen : (x.2.2.eraseIdx 0).length = x.2.2.length - 1 := List.length_eraseIdx_of_lt hxl
  rw [List.cons_append, List.map_cons, List.nodup_cons] at h1
  unfold consT
  by_cases he0 : x.2.2.eraseIdx 0 = []
  ·rw [if_pos he0]
   refine ⟨⟨h1.2, fun y hy => h2 y (by rw [List.cons_append]; exact List.mem_cons_of_mem _ hy), r, l, rfl, h3, h4, h5⟩, ?_⟩
   rw [List.cons_append, cntA_cons]
   rw [he0] at hlen; simp at hlen; omega
  ·rw [if_neg he0]
   refine ⟨⟨by rw [List.map_cons, List.nodup_cons]; exact h1, fun y hy => ?_, (x.1, (x.2.1, x.2.2.eraseIdx 0)) :: r, l, rfl, h3, h4, h5⟩, ?_⟩
   ·rcases List.mem_cons.1 hy with rfl | hy
    ·exact he0
    ·exact h2 y (by rw [List.cons_append]; exact List.mem_cons_of_mem _ hy)
   ·rw [List.cons_append, cntA_cons, cntA_cons]
    show (x.2.2.eraseIdx 0).length + _ + 1 = _
    omega
theorem evF_over {B T : Nat} {lst : Bool} {k : Str} {axes : List Axs} {e : Ent} {A : Sto} {sp : Int} (hB : sizeE e ≤ B) (hT : 1 ≤ T) (hg : GoodE lst k axes e A sp) (ho : overA B T A = true) : evF B T A sp = evF B T (stepA A sp) (nextI (oneA A) sp) := by
 obtain ⟨_, h⟩ := good_step hB hT hg ho
 unfold evF
 rw [← h]
 show (if overA B T A = true then _ else _) = _
 rw [if_pos ho]
theorem evF_done {B T : Nat} {A : Sto} {sp : Int} (ho : overA B T A = false) : evF B T A sp = A := by
 unfold evF
 cases h : cntA A with
 | zero => rfl
 | succ n => show (if overA B T A = true then _ else _) = _; rw [if_neg (by rw [ho]; simp)]
/-- What is kept of an order of use, whatever is dropped. -/
theorem evF_good {B T : Nat} {lst : Bool} {k : Str} {axes : List Axs} {e : Ent} (hB : sizeE e ≤ B) (hT : 1 ≤ T) : ∀ (n : Nat) {A : Sto} {sp : Int}, cntA A = n → GoodE lst k axes e A sp →
  overA B T (evF B T A sp) = false ∧ ∃ sp', GoodE lst k axes e (evF B T A sp) sp'
 | n, A, sp, hn, hg => by
  cases ho : overA B T A with
  | false => rw [evF_done ho]; exact ⟨ho, sp, hg⟩
  | true =>
   obtain ⟨h1, h2⟩ := good_step hB hT hg ho
   rw [evF_over hB hT hg ho]
   match n, hn with
   | 0, hn => omega
   | n + 1, hn => exact evF_good hB hT n (by omega) h1
theorem stepA_all {p : Tab → Prop} (hp : ∀ ax l m, m.Sublist l → p (ax, l) → p (ax, m)) : ∀ {A : Sto} {sp : Int}, (∀ x ∈ A, p x.2) → ∀ x ∈ stepA A sp, p x.2
 | [], _, _ => fun x hx => by cases hx
 | y :: r, sp, h => fun x hx => by
  have hx' : x ∈ consT y.1 (y.2.1, remL y.2.2 (dropI (decide (r = [])) sp)) r := hx
  unfold consT at hx'
  by_cases h0 : (y.2.1, remL y.2.2 (dropI (decide (r = [])) sp)).2 = []
  ·rw [if_pos h0] at hx'
   exact h x (List.mem_cons_of_mem _ hx')
  ·rw [if_neg h0] at hx'
   rcases List.mem_cons.1 hx' with rfl | hx'
   ·exact hp _ _ _ (remL_sub _ _) (h y List.mem_cons_self)
   ·exact h x (List.mem_cons_of_mem _ hx')
theorem evF_all {p : Tab → Prop} (hp : ∀ ax l m, m.Sublist l → p (ax, l) → p (ax, m)) {B T : Nat} : ∀ (n : Nat) {A : Sto} {sp : Int}, (∀ x ∈ A, p x.2) → ∀ x ∈ evGo B T n A sp, p x.2
 | 0, _, _, h => h
 | n + 1, A, sp, h => by
  unfold evGo
  split
  ·exact evF_all hp n (stepA_all hp h)
  ·exact h
/-! ### What each call does -/
def frontA (A : Sto) (k : Str) (t : Tab) : Sto := delS A k ++ [(k, t)]
def setA (A : Sto) (k : Str) (t : Tab) : Sto := A.map fun x => if x.1 = k then (k, t) else x
def cutA (A : Sto) (k : Str) (t : Tab) : Sto := if t.2 = [] then delS A k else setA A k t
def findA (A : Sto) (k : Str) : Tab := (lookS A k).getD ([], [])
def inA (A : Sto) (k : Str) : Bool := (lookS A k).isSome
def noEnt : Ent := ([], [], [], [], [], [], 0, 0)
def mixE (old e : Ent) : Ent := (old.1, old.2.1, old.2.2.1, e.2.2.2)
def fitsB (B : Nat) (e : Ent) (axes : List Axs) : Bool := !(decide (B < sizeE e) || (!decide (axes = []) && !validL axes))
def putA (B V T : Nat) (A : Sto) (k : Str) (e : Ent) (axes : List Axs) : Sto :=
 if fitsB B e axes = true then evF B T (frontA A k (putT (findA A k) e axes V)) ((putT (findA A k) e axes V).2.length - 1) else A
def touchA (A : Sto) (k : Str) : Sto := if inA A k = true then frontA A k (findA A k) else A
def onB (A : Sto) (k : Str) (i : Int) : Bool := inA A k && (decide (0 ≤ i) && decide (i < (findA A k).2.length))
def newE (A : Sto) (k : Str) (i : Int) (e : Ent) : Ent := mixE ((findA A k).2.getD i.toNat noEnt) e
def replA (B T : Nat) (A : Sto) (k : Str) (i : Int) (e : Ent) : Sto :=
 if onB A k i = true then
  if B < sizeE (newE A k i e) then cutA A k ((findA A k).1, remL (findA A k).2 i)
  else evF B T (frontA A k ((findA A k).1, (findA A k).2.set i.toNat (newE A k i e))) i
 else A
def replB2 (B : Nat) (A : Sto) (k : Str) (i : Int) (e : Ent) : Bool := onB A k i && !decide (B < sizeE (newE A k i e))
/-- The bounds of a store. -/
structure InvA (B V T : Nat) (A : Sto) : Prop where
 keys : (A.map (·.1)).Nodup
 some_ : ∀ x ∈ A, x.2.2 ≠ []
 most : ∀ x ∈ A, x.2.2.length ≤ V
 under : overA B T A = false
theorem delS_sub {α : Type} (l : List (Str × α)) (k : Str) : (delS l k).Sublist l := List.filter_sublist
theorem InvA.tot {B V T : Nat} {A : Sto} (h : InvA B V T A) : totA A ≤ B ∧ A.length ≤ T := by
 have := h.under
 unfold overA at this
 rw [Bool.or_eq_false_iff, decide_eq_false_iff_not, decide_eq_false_iff_not] at this
 omega
theorem overA_le {B T : Nat} {A : Sto} (h1 : totA A ≤ B) (h2 : A.length ≤ T) : overA B T A = false := by
 unfold overA
 rw [Bool.or_eq_false_iff, decide_eq_false_iff_not, decide_eq_false_iff_not]
 omega
theorem inA_mem {A : Sto} {k : Str} (h : inA A k = true) : (k, findA A k) ∈ A := by
 unfold inA at h
 unfold findA
 cases hl : lookS A k with
 | none => rw [hl] at h; cases h
 | some t => exact lookS_mem hl
theorem front_perm {A : Sto} {k : Str} (hn : (A.map (·.1)).Nodup) (h : inA A k = true) : (frontA A k (findA A k)).Perm A := by
 have hm := inA_mem h
 generalize findA A k = t at hm ⊢
 unfold frontA
 refine (List.perm_append_singleton _ _).trans ?_
 induction A with
 | nil => cases hm
 | cons x r ih =>
  rw [List.map_cons, List.nodup_cons] at hn
  rcases List.mem_cons.1 hm with hx | hm
  ·subst hx
   have : delS ((k, t) :: r) k = r := by
    have h2 : delS r k = r := delS_none hn.1
    unfold delS at h2 ⊢
    rw [List.filter_cons, if_neg (by simp), h2]
   rw [this]
  ·have hne : x.1 ≠ k := fun e => hn.1 (by rw [e]; exact List.mem_map_of_mem (f := (·.1)) hm)
   have : delS (x :: r) k = x :: delS r k := by unfold delS; rw [List.filter_cons, if_pos (by simp [hne])]
   rw [this]
   exact (List.Perm.swap x (k, t) _).trans ((ih hn.2 (by unfold inA; rw [lookS_of_mem hn.2 hm]; rfl) hm).cons x)
theorem inv_touch {B V T : Nat} {A : Sto} (h : InvA B V T A) (k : Str) : InvA B V T (touchA A k) := by
 unfold touchA
 split
 ·rename_i hk
  have hp := front_perm h.keys hk
  exact ⟨(hp.map _).nodup_iff.2 h.keys, fun x hx => h.some_ x (hp.mem_iff.1 hx), fun x hx => h.most x (hp.mem_iff.1 hx), overA_le (by rw [totA_perm hp]; exact h.tot.1) (by rw [hp.length_eq]; exact h.tot.2)⟩
 ·exact h
theorem front_good {A : Sto} {k : Str} {axes : List Axs} {l : List Ent} {i : Nat} {e : Ent} (lst : Bool) (hk : (A.map (·.1)).Nodup) (hs : ∀ x ∈ A, x.2.2 ≠ []) (hl : l[i]? = some e) (hlst : lst = true → i + 1 = l.length) : GoodE lst k axes e (frontA A k (axes, l)) (i : Int) := by
 refine ⟨putS_nodup hk, fun x hx => ?_, delS A k, l, rfl, by omega, by simpa using hl, by simpa using hlst⟩
 rcases List.mem_append.1 hx with hx | hx
 ·exact hs x ((delS_sub A k).subset hx)
 ·rw [List.mem_singleton.1 hx]
  intro h0
  have h0' : l = [] := h0
  rw [h0'] at hl; cases hl
theorem front_most {A : Sto} {k : Str} {axes : List Axs} {l : List Ent} {V : Nat} (hs : ∀ x ∈ A, x.2.2.length ≤ V) (hl : l.length ≤ V) : ∀ x ∈ frontA A k (axes, l), x.2.2.length ≤ V := fun x hx => by
 rcases List.mem_append.1 hx with hx | hx
 ·exact hs x ((delS_sub A k).subset hx)
 ·rw [List.mem_singleton.1 hx]; exact hl
theorem inv_ev {B V T : Nat} {lst : Bool} {k : Str} {axes : List Axs} {e : Ent} {A : Sto} {sp : Int} (hB : sizeE e ≤ B) (hT : 1 ≤ T) (hg : GoodE lst k axes e A sp) (hm : ∀ x ∈ A, x.2.2.length ≤ V) : InvA B V T (evF B T A sp) := by
 obtain ⟨h1, sp', h2, h3, _⟩ := evF_good hB hT _ rfl hg
 exact ⟨h2, h3, fun x hx => evF_all (p := fun t => t.2.length ≤ V) (fun ax l m hs h => Nat.le_trans hs.length_le h) _ hm x hx, h1⟩
theorem keepT_last (t : Tab) (e : Ent) (axes : List Axs) : ∃ l, keepT t e axes = l ++ [e] := ⟨_, rfl⟩
theorem putT_get {t : Tab} {e : Ent} {axes : List Axs} {V : Nat} (hV : 1 ≤ V) : 1 ≤ (putT t e axes V).2.length ∧ (putT t e axes V).2.length ≤ V ∧ (putT t e axes V).2[(putT t e axes V).2.length - 1]? = some e := by
 obtain ⟨l, hl⟩ := keepT_last t e axes
 have h1 : (putT t e axes V).2 = (l ++ [e]).drop ((l ++ [e]).length - V) := by unfold putT; rw [hl]
 rw [h1]
 have h2 : (l ++ [e]).length = l.length + 1 := by simp
 rw [List.length_drop, h2]
 refine ⟨by omega, by omega, ?_⟩
 rw [List.getElem?_drop, List.getElem?_append_right (by omega)]
 have : l.length + 1 - V + (l.length + 1 - (l.length + 1 - V) - 1) - l.length = 0 := by omega
 rw [this]; rfl
theorem put_good {A : Sto} {k : Str} {e : Ent} {axes : List Axs} {V : Nat} (hV : 1 ≤ V) (hk : (A.map (·.1)).Nodup) (hs : ∀ x ∈ A, x.2.2 ≠ []) : GoodE true k axes e (frontA A k (putT (findA A k) e axes V)) (((putT (findA A k) e axes V).2.length : Int) - 1) := by
 obtain ⟨h1, h2, h3⟩ := putT_get (t := findA A k) (e := e) (axes := axes) hV
 have := front_good (k := k) (axes := axes) (l := (putT (findA A k) e axes V).2) true hk hs h3 (fun _ => by omega)
 have e1 : (((putT (findA A k) e axes V).2.length - 1 : Nat) : Int) = ((putT (findA A k) e axes V).2.length : Int) - 1 := by omega
 rw [e1] at this
 exact this
theorem fits_size {B : Nat} {e : Ent} {axes : List Axs} (h : fitsB B e axes = true) : sizeE e ≤ B := by
 unfold fitsB at h
 rw [Bool.not_eq_true', Bool.or_eq_false_iff, decide_eq_false_iff_not] at h
 omega
theorem inv_put {B V T : Nat} {A : Sto} (h : InvA B V T A) (hV : 1 ≤ V) (hT : 1 ≤ T) (k : Str) (e : Ent) (axes : List Axs) : InvA B V T (putA B V T A k e axes) := by
 unfold putA
 split
 ·rename_i hf
  exact inv_ev (fits_size hf) hT (put_good hV h.keys h.some_) (front_most h.most (putT_get hV).2.1)
 ·exact h
theorem inv_nil (B V T : Nat) : InvA B V T [] := ⟨List.nodup_nil, fun x hx => (List.not_mem_nil hx).elim, fun x hx => (List.not_mem_nil hx).elim, by unfold overA; simp [totA]⟩
/-! ### The parts of a call -/
/-- A table that is not too long. -/
structure OkT (t : Tab) : Prop where
 axes : OkA t.1
 ents : ∀ e ∈ t.2, OkE e
 size : sizeL t.2 ≤ 10000000000
theorem okA_nil : OkA [] := ⟨Nat.zero_le _, fun _ h => (List.not_mem_nil h).elim, fun _ h => (List.not_mem_nil h).elim, fun _ h => (List.not_mem_nil h).elim⟩
theorem okT_nil : OkT ([], []) := ⟨okA_nil, fun _ h => (List.not_mem_nil h).elim, Nat.zero_le _⟩
theorem okT_find {A : Sto} (h : ∀ x ∈ A, OkT x.2) (k : Str) : OkT (findA A k) := by
 unfold findA
 cases hl : lookS A k with
 | none => exact okT_nil
 | some t => exact h _ (lookS_mem hl)
theorem OkT.len {t : Tab} (h : OkT t) : t.2.length ≤ 100000000 := by have := sizeL_len t.2; have := h.size; omega
def cutS (os : List Str) (k : Str) : List Str := os.filter fun o => !decide (o = k)
def frontS (os : List Str) (k : Str) : List Str := cutS os k ++ [k]
def setM (A : Sto) (k : Str) (t : Tab) : Sto := if t.2 = [] then delS A k else delS A k ++ [(k, t)]
def setO (os : List Str) (k : Str) (t : Tab) : List Str := if t.2 = [] then cutS os k else os
theorem setM_yes {A : Sto} {k : Str} {t : Tab} (h : 0 < t.2.length) : setM A k t = delS A k ++ [(k, t)] := if_neg fun e => by rw [e] at h; simp at h
theorem setM_no {A : Sto} {k : Str} {t : Tab} (h : ¬ 0 < t.2.length) : setM A k t = delS A k := if_pos (List.length_eq_zero_iff.1 (by omega))
theorem setO_yes {os : List Str} {k : Str} {t : Tab} (h : 0 < t.2.length) : setO os k t = os := if_neg fun e => by rw [e] at h; simp at h
theorem setO_no {os : List Str} {k : Str} {t : Tab} (h : ¬ 0 < t.2.length) : setO os k t = cutS os k := if_pos (List.length_eq_zero_iff.1 (by omega))
theorem del_map {A : Sto} {k : Str} : (delS A k).map (·.1) = cutS (A.map (·.1)) k := delS_keys
theorem front_map {A : Sto} {k : Str} {t : Tab} : (frontA A k t).map (·.1) = frontS (A.map (·.1)) k := by
 unfold frontA frontS
 rw [List.map_append, del_map]; rfl
theorem touch_no {A : Sto} {k : Str} (h : inA A k = false) : touchA A k = A := by unfold touchA; rw [if_neg (by rw [h]; simp)]
theorem touch_yes {A : Sto} {k : Str} (h : inA A k = true) : touchA A k = frontA A k (findA A k) := by unfold touchA; rw [if_pos h]
theorem touch_perm {A : Sto} {k : Str} (hn : (A.map (·.1)).Nodup) : A.Perm (touchA A k) := by
 cases h : inA A k with
 | false => rw [touch_no h]
 | true => rw [touch_yes h]; exact (front_perm hn h).symm
def remA (A : Sto) (k : Str) : Sto := delS A k
theorem rem_no {A : Sto} {k : Str} (h : inA A k = false) : delS A k = A := by
 unfold inA at h
 cases hl : lookS A k with
 | some t => rw [hl] at h; cases h
 | none =>
  refine delS_none fun hm => ?_
  obtain ⟨x, hx, e⟩ := List.mem_map.1 hm
  have : ∀ {l : Sto}, x ∈ l → lookS l k ≠ none := fun {l} => by
   induction l with
   | nil => intro h; cases h
   | cons y r ih =>
    intro h
    unfold lookS
    split
    ·simp
    ·rename_i hne
     rcases List.mem_cons.1 h with h | h
     ·exact absurd (by rw [← h]; exact e.symm) hne
     ·exact ih h
  exact this hx hl
theorem find_no {A : Sto} {k : Str} (h : inA A k = false) : findA A k = ([], []) := by
 unfold inA at h; unfold findA
 cases hl : lookS A k with
 | some t => rw [hl] at h; cases h
 | none => rfl
theorem del_tot {A : Sto} {k : Str} (hn : (A.map (·.1)).Nodup) : totA (delS A k) + sizeL (findA A k).2 = totA A := by
 cases h : inA A k with
 | false => rw [rem_no h, find_no h]; rfl
 | true =>
  have := totA_perm (front_perm hn h)
  unfold frontA at this
  rw [totA_append, totA_cons] at this
  simpa [totA] using this
def keysA (A : Sto) : List Str := A.map (·.1)
theorem len_keys (A : Sto) : (keysA A).length = A.length := List.length_map _
theorem keys_front {A : Sto} {k : Str} {t : Tab} : keysA (frontA A k t) = frontS (keysA A) k := front_map
theorem keys_del {A : Sto} {k : Str} : keysA (delS A k) = cutS (keysA A) k := del_map
def headK (A : Sto) : Str := (keysA A).getD 0 []
theorem good_ne {lst : Bool} {k : Str} {axes : List Axs} {e : Ent} {A : Sto} {sp : Int} (hg : GoodE lst k axes e A sp) : 0 < A.length := by
 obtain ⟨_, _, r, l, rfl, _⟩ := hg
 simp
theorem good_one {lst : Bool} {k : Str} {axes : List Axs} {e : Ent} {A : Sto} {sp : Int} (hg : GoodE lst k axes e A sp) : decide (headK A = k) = oneA A := by
 obtain ⟨hn, _, r, l, rfl, _⟩ := hg
 cases r with
 | nil => show decide (k = k) = true; simp
 | cons x r =>
  rw [List.cons_append, List.map_cons, List.nodup_cons] at hn
  have : headK (x :: r ++ [(k, (axes, l))]) = x.1 := rfl
  rw [this, decide_eq_false (fun e => hn.1 (by rw [e]; simp))]
  unfold oneA; simp
theorem step_eq {A : Sto} {sp : Int} {t : Tab} (hne : 0 < A.length) (hn : (A.map (·.1)).Nodup) (ht : t = ((findA A (headK A)).1, remL (findA A (headK A)).2 (dropI (oneA A) sp))) :
  (setM A (headK A) t).Perm (stepA A sp) ∧ setO (keysA A) (headK A) t = keysA (stepA A sp) ∧ totA (stepA A sp) = totA A + sizeL t.2 - sizeL (findA A (headK A)).2 := by
 match A, hne, hn with
 | x :: r, _, hn =>
  have hk : headK (x :: r) = x.1 := rfl
  have hf : findA (x :: r) x.1 = x.2 := by unfold findA lookS; rw [if_pos rfl]; rfl
  rw [List.map_cons, List.nodup_cons] at hn
  have hd : delS (x :: r) x.1 = r := by
   have h2 : delS r x.1 = r := delS_none hn.1
   unfold delS at h2 ⊢
   rw [List.filter_cons, if_neg (by simp), h2]
  have hone : decide (r = []) = oneA (x :: r) := by unfold oneA; cases r <;> simp
  rw [hk, hf] at ht
  rw [hk, hf]
  have hs : stepA (x :: r) sp = consT x.1 t r := by rw [ht, ← hone]; rfl
  have hc : cutS (keysA (x :: r)) x.1 = keysA r := by rw [← keys_del, hd]
  rw [hs]
  unfold setM setO consT
  rw [hd, hc]
  by_cases h0 : t.2 = []
  ·rw [if_pos h0, if_pos h0, if_pos h0, totA_cons, h0]
   refine ⟨List.Perm.refl _, rfl, ?_⟩
   show totA r = sizeL x.2.2 + totA r + 0 - _; omega
  ·rw [if_neg h0, if_neg h0, if_neg h0, totA_cons, totA_cons]
   refine ⟨List.perm_append_singleton _ _, rfl, ?_⟩
   show sizeL t.2 + totA r = sizeL x.2.2 + totA r + sizeL t.2 - _; omega
theorem okT_rem {t : Tab} (h : OkT t) (d : Int) : OkT (t.1, remL t.2 d) := ⟨h.axes, fun e he => h.ents e ((remL_sub _ _).subset he), Nat.le_trans (sizeL_sub (remL_sub _ _)) h.size⟩
theorem okT_step {A : Sto} {sp : Int} (h : ∀ x ∈ A, OkT x.2) : ∀ x ∈ stepA A sp, OkT x.2 :=
 stepA_all (p := OkT) (fun ax l m hs h => ⟨h.axes, fun e he => h.ents e (hs.subset he), Nat.le_trans (sizeL_sub hs) h.size⟩) h
theorem step_len (A : Sto) (sp : Int) : (stepA A sp).length ≤ A.length := by
 match A with
 | [] => exact Nat.le_refl _
 | x :: r => show (consT _ _ r).length ≤ _; unfold consT; split <;> simp
theorem step_tot (A : Sto) (sp : Int) : totA (stepA A sp) ≤ totA A := by
 match A with
 | [] => exact Nat.le_refl _
 | x :: r =>
  show totA (consT x.1 (x.2.1, remL x.2.2 (dropI (decide (r = [])) sp)) r) ≤ _
  have := sizeL_sub (remL_sub x.2.2 (dropI (decide (r = [])) sp))
  unfold consT
  split
  ·rw [totA_cons]; omega
  ·rw [totA_cons, totA_cons]; show sizeL (remL _ _) + _ ≤ _; omega
theorem good_sp {lst : Bool} {k : Str} {axes : List Axs} {e : Ent} {A : Sto} {sp : Int} (hg : GoodE lst k axes e A sp) (hok : ∀ x ∈ A, OkT x.2) : 0 ≤ sp ∧ sp ≤ 100000000 := by
 obtain ⟨_, _, r, l, rfl, h1, h2, _⟩ := hg
 obtain ⟨h3, _⟩ := List.getElem?_eq_some_iff.1 h2
 have h4 := (hok (k, (axes, l)) (by simp)).len
 have h5 : l.length ≤ 100000000 := h4
 omega
theorem fits_eq {B : Nat} {e : Ent} {axes : List Axs} : (decide (B < sizeE e) || (decide (0 < axes.length) && !validL axes)) = !fitsB B e axes := by
 unfold fitsB
 have : decide (0 < axes.length) = !decide (axes = []) := by cases axes <;> simp
 rw [this]; simp
theorem fits_no {B : Nat} {e : Ent} {axes : List Axs} (h : (decide (B < sizeE e) || (decide (0 < axes.length) && !validL axes)) = true) : fitsB B e axes = false := by rw [fits_eq] at h; simpa using h
theorem fits_yes {B : Nat} {e : Ent} {axes : List Axs} (h : (decide (B < sizeE e) || (decide (0 < axes.length) && !validL axes)) = false) : fitsB B e axes = true := by rw [fits_eq] at h; simpa using h
theorem put_no {B V T : Nat} {A : Sto} {k : Str} {e : Ent} {axes : List Axs} (h : fitsB B e axes = false) : putA B V T A k e axes = A := by unfold putA; rw [if_neg (by rw [h]; simp)]
theorem put_yes {B V T : Nat} {A : Sto} {k : Str} {e : Ent} {axes : List Axs} (h : fitsB B e axes = true) : putA B V T A k e axes = evF B T (frontA A k (putT (findA A k) e axes V)) ((putT (findA A k) e axes V).2.length - 1) := by unfold putA; rw [if_pos h]
theorem putT_sub {t : Tab} {e : Ent} {axes : List Axs} {V : Nat} : (∀ x ∈ (putT t e axes V).2, x ∈ t.2 ∨ x = e) ∧ sizeL (putT t e axes V).2 ≤ sizeL t.2 + sizeE e := by
 have h1 : ((putT t e axes V).2).Sublist (keepT t e axes) := List.drop_sublist _ _
 have h2 : (keepT t e axes).Sublist (t.2 ++ [e]) := by
  unfold keepT
  refine List.Sublist.append ?_ (List.Sublist.refl _)
  split
  ·exact List.filter_sublist
  ·exact List.nil_sublist _
 have h3 := h1.trans h2
 refine ⟨fun x hx => by simpa using h3.subset hx, ?_⟩
 have := sizeL_sub h3
 rw [sizeL_append] at this
 simpa [sizeL] using this
theorem okT_put {t : Tab} {e : Ent} {axes : List Axs} {V : Nat} (ht : OkT t) (he : OkE e) (ha : OkA axes) (hs : sizeL t.2 + sizeE e ≤ 10000000000) : OkT (putT t e axes V) :=
 ⟨ha, fun x hx => by rcases putT_sub.1 x hx with h | h; exact ht.ents x h; rw [h]; exact he, Nat.le_trans putT_sub.2 hs⟩
theorem front_tot {A : Sto} {k : Str} {t : Tab} (hn : (A.map (·.1)).Nodup) : totA (frontA A k t) + sizeL (findA A k).2 = totA A + sizeL t.2 := by
 have := del_tot (k := k) hn
 unfold frontA
 rw [totA_append, totA_cons]
 show totA (delS A k) + (sizeL t.2 + 0) + _ = _
 omega
theorem front_len (A : Sto) (k : Str) (t : Tab) : (frontA A k t).length ≤ A.length + 1 := by
 unfold frontA
 rw [List.length_append, List.length_singleton]
 have := (delS_sub A k).length_le
 omega
theorem okT_front {A : Sto} {k : Str} {t : Tab} (h : ∀ x ∈ A, OkT x.2) (ht : OkT t) : ∀ x ∈ frontA A k t, OkT x.2 := fun x hx => by
 rcases List.mem_append.1 hx with hx | hx
 ·exact h x ((delS_sub A k).subset hx)
 ·rw [List.mem_singleton.1 hx]; exact ht
end Go.Plain
