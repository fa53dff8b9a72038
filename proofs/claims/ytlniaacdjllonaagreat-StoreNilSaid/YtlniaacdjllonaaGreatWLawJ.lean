/-
 Tables and stores in plain Lean: sizes along Put and Replace, and that what is stored stays of bounded length. No program in sight. No conditions.
 The calls of a law on stores in plain Lean: the entry of a call, what a call does to a store, and that every store that calls make keeps the bounds. No program in sight. No conditions.
 Plain laws of stores: every table that a key leads to has its bounds; what was put is found; nothing changes where nothing fits. No program in sight. No conditions.
-/
import Derived.Test.YtlniaacdjllonaaGreatWLawI
namespace Go.Plain
open Go.Sep
set_option linter.unusedVariables false
set_option linter.unusedSimpArgs false
theorem find_tot {A : Sto} {k : Str} (hn : (A.map (·.1)).Nodup) : sizeL (findA A k).2 ≤ totA A := by
 have := del_tot (k := k) hn
 omega
theorem front_put_tot {A : Sto} {k : Str} {e : Ent} {axes : List Axs} {V : Nat} (hn : (A.map (·.1)).Nodup) : totA (frontA A k (putT (findA A k) e axes V)) ≤ totA A + sizeE e := by
 have h1 := front_tot (k := k) (t := putT (findA A k) e axes V) hn
 have h2 := (putT_sub (t := findA A k) (e := e) (axes := axes) (V := V)).2
 omega
theorem front_used {A : Sto} {k : Str} {t : Tab} (hn : (A.map (·.1)).Nodup) : totA A + sizeL t.2 - sizeL (findA A k).2 = totA (frontA A k t) := by
 have h1 := front_tot (k := k) (t := t) hn
 omega
theorem okT_ev {A : Sto} {sp : Int} {B T : Nat} (h : ∀ x ∈ A, OkT x.2) : ∀ x ∈ evF B T A sp, OkT x.2 :=
 evF_all (p := OkT) (fun ax l m hs h => ⟨h.axes, fun e he => h.ents e (hs.subset he), Nat.le_trans (sizeL_sub hs) h.size⟩) _ h
theorem okT_putA {B V T : Nat} {A : Sto} {k : Str} {e : Ent} {axes : List Axs} (hi : InvA B V T A) (h : ∀ x ∈ A, OkT x.2) (he : OkE e) (ha : OkA axes) (hB : B ≤ 100000000) : ∀ x ∈ putA B V T A k e axes, OkT x.2 := by
 unfold putA
 split
 ·have h1 := hi.tot
  have h2 := find_tot (k := k) hi.keys
  have h3 := he.size
  exact okT_ev (okT_front h (okT_put (okT_find h k) he ha (by omega)))
 ·exact h
theorem okT_touch {A : Sto} {k : Str} (h : ∀ x ∈ A, OkT x.2) : ∀ x ∈ touchA A k, OkT x.2 := by
 unfold touchA
 split
 ·exact okT_front h (okT_find h k)
 ·exact h
end Go.Plain
namespace Go.Plain
open Go.Sep
set_option linter.unusedVariables false
set_option linter.unusedSimpArgs false
abbrev OpD := Int × Int × Int × Int × Ent × List Axs
def and3 (m : Int) : Nat := (m % 4).toNat
def nameF (k : Int) : Str := [[97], [98], [99], [100]].getD (and3 k) []
def keepE (e : Ent) : Bool := ((((keepK e.1 && keepS e.2.1) && keepS e.2.2.1) && decide (e.2.2.2.1.length ≤ 100)) && decide (e.2.2.2.2.2.1.length ≤ 2000)) && keepF e.2.2.2.2.1
def keepO (o : OpD) : Bool := keepE o.2.2.2.2.1 && keepA o.2.2.2.2.2
def smallL (l : List OpD) : Bool := (l.take 13).all keepO && decide (l.length ≤ 12)
def ofE (o : OpD) : Ent := (o.2.2.2.2.1.1, o.2.2.2.2.1.2.1, o.2.2.2.2.1.2.2.1, o.2.2.2.2.1.2.2.2.1, o.2.2.2.2.1.2.2.2.2.1, o.2.2.2.2.1.2.2.2.2.2.1 ++ List.replicate (min o.2.2.2.1.toNat 200) 120, o.2.2.2.2.1.2.2.2.2.2.2)
def doA (B V T : Nat) (A : Sto) (o : OpD) : Sto :=
 if and3 o.1 = 0 then putA B V T A (nameF o.2.1) (ofE o) o.2.2.2.2.2 else if and3 o.1 = 1 then touchA A (nameF o.2.1) else if and3 o.1 = 2 then replA B T A (nameF o.2.1) o.2.2.1 (ofE o) else delS A (nameF o.2.1)
def doB (B : Nat) (A : Sto) (o : OpD) : Bool :=
 if and3 o.1 = 0 then fitsB B (ofE o) o.2.2.2.2.2 else if and3 o.1 = 1 then inA A (nameF o.2.1) else if and3 o.1 = 2 then replB2 B A (nameF o.2.1) o.2.2.1 (ofE o) else inA A (nameF o.2.1)
section
variable {B V T : Nat} {A : Sto} {o : OpD}
end
def runA (B V T : Nat) (A : Sto) (l : List OpD) : Sto := l.foldl (doA B V T) A
def noOp : OpD := (0, 0, 0, 0, noEnt, [])
theorem lenS_small {l : List Str} (h : keepS l = true) : lenS l ≤ 2080 := by
 have h1 := keepS_len h
 have h2 := keepS_mem h
 have h3 : ∀ (m : List Str), (∀ x ∈ m, x.length ≤ 100) → lenS m ≤ 104 * m.length := by
  intro m
  induction m with
  | nil => intro _; exact Nat.le_refl _
  | cons x m ih =>
   intro hm
   have := ih fun y hy => hm y (List.mem_cons_of_mem _ hy)
   have := hm x List.mem_cons_self
   have e : lenS (x :: m) = (4 + x.length) + lenS m := by simp [lenS]
   rw [e, List.length_cons]; omega
 have := h3 l h2
 omega
theorem lenF_small {l : List Fld} (h : keepF l = true) : lenF l ≤ 42280 := by
 have h1 := keepF_len h
 have h2 := keepF_mem h
 have h3 : ∀ (m : List Fld), (∀ x ∈ m, x.1.length ≤ 300 ∧ x.2.length ≤ 300) → lenF m ≤ 604 * m.length := by
  intro m
  induction m with
  | nil => intro _; exact Nat.le_refl _
  | cons x m ih =>
   intro hm
   have := ih fun y hy => hm y (List.mem_cons_of_mem _ hy)
   have := hm x List.mem_cons_self
   have e : lenF (x :: m) = (4 + x.1.length + x.2.length) + lenF m := by simp [lenF]
   rw [e, List.length_cons]; omega
 have := h3 l h2
 omega
theorem lenK_small {l : List (List Str)} (h : keepK l = true) : lenK l ≤ 20800 := by
 have h1 := keepK_len h
 have h4 : ∀ k ∈ l, lenS k ≤ 2080 := fun k hk => lenS_small (by
  unfold keepK at h
  rw [Bool.and_eq_true, decide_eq_true_iff] at h
  rw [List.take_of_length_le (by omega)] at h
  exact List.all_eq_true.1 h.1 k hk)
 have h3 : ∀ (m : List (List Str)), (∀ x ∈ m, lenS x ≤ 2080) → lenK m ≤ 2080 * m.length := by
  intro m
  induction m with
  | nil => intro _; exact Nat.le_refl _
  | cons x m ih =>
   intro hm
   have := ih fun y hy => hm y (List.mem_cons_of_mem _ hy)
   have := hm x List.mem_cons_self
   have e : lenK (x :: m) = lenS x + lenK m := by simp [lenK]
   rw [e, List.length_cons]; omega
 have := h3 l h4
 omega
theorem nor_true {a b : Bool} (h : (!a || !b) = true) : (a && b) = false := by cases a <;> cases b <;> first | rfl | cases h
theorem nor_false {a b : Bool} (h : (!a || !b) = false) : (a && b) = true := by cases a <;> cases b <;> first | rfl | cases h
structure KeepE (e : Ent) : Prop where
 k : keepK e.1 = true
 v : keepS e.2.1 = true
 n : keepS e.2.2.1 = true
 r : e.2.2.2.1.length ≤ 100
 b : e.2.2.2.2.2.1.length ≤ 2000
 f : keepF e.2.2.2.2.1 = true
theorem keepE_of {e : Ent} (h : keepE e = true) : KeepE e := by
 unfold keepE at h
 simp only [Bool.and_eq_true, decide_eq_true_iff] at h
 exact ⟨h.1.1.1.1.1, h.1.1.1.1.2, h.1.1.1.2, h.1.1.2, h.1.2, h.2⟩
theorem keepE_size {e : Ent} (h : keepE e = true) : sizeE e ≤ 70000 := by
 obtain ⟨h1, h2, h3, h4, h5, h6⟩ := keepE_of h
 have := lenK_small h1
 have := lenS_small h2
 have := lenS_small h3
 have := lenF_small h6
 unfold sizeE
 omega
theorem okE_keep {e : Ent} (h : keepE e = true) : OkE e := by
 have h1 := keepE_size h
 have h2 := (keepE_of h).k
 exact ⟨by omega, by have := keepK_len h2; omega, fun k hk s hs => by have := (keepK_mem h2 k hk).2 s hs; omega⟩
theorem small_mem {l : List OpD} (h : smallL l = true) : ∀ o ∈ l, keepO o = true := fun o ho => by
 unfold smallL at h
 rw [Bool.and_eq_true, decide_eq_true_iff] at h
 rw [List.take_of_length_le (by omega)] at h
 exact List.all_eq_true.1 h.1 o ho
/-- What holds of a store between the calls. -/
structure StoA (B V T : Nat) (A : Sto) : Prop where
 inv : InvA B V T A
 ok : ∀ x ∈ A, OkT x.2
structure LimA (B V T : Nat) : Prop where
 b : 1 ≤ B ∧ B ≤ 100000000
 v : 1 ≤ V ∧ V ≤ 64
 t : 1 ≤ T ∧ T ≤ 1000
theorem sto_nil {B V T : Nat} : StoA B V T [] := ⟨inv_nil B V T, fun x hx => (List.not_mem_nil hx).elim⟩
theorem StoA.len {B V T : Nat} {A : Sto} (hl : LimA B V T) (h : StoA B V T A) : totA A ≤ 100000000 ∧ A.length ≤ 1000 := by
 have := h.inv.tot
 have := hl.b
 have := hl.t
 omega
def allowB (b v t : Int) : Bool := ((((decide (1 ≤ b) && decide (b ≤ 100000000)) && decide (1 ≤ v)) && decide (v ≤ 64)) && decide (1 ≤ t)) && decide (t ≤ 1000)
end Go.Plain
namespace Go.Plain
open Go.Sep
set_option linter.unusedVariables false
set_option linter.unusedSimpArgs false
def eqE (a b : Ent) : Bool := ((((((decide (a.1 = b.1) && decide (a.2.1 = b.2.1)) && decide (a.2.2.1 = b.2.2.1)) && decide (a.2.2.2.1 = b.2.2.2.1)) && decide (a.2.2.2.2.1 = b.2.2.2.2.1)) && decide (a.2.2.2.2.2.1 = b.2.2.2.2.2.1)) && decide (a.2.2.2.2.2.2.1 = b.2.2.2.2.2.2.1)) && decide (a.2.2.2.2.2.2.2 = b.2.2.2.2.2.2.2)
def eqAll (a b : List Ent) (n : Nat) : Bool := (List.range n).all fun i => eqE (a.getD i ([], [], [], [], [], [], 0, 0)) (b.getD i ([], [], [], [], [], [], 0, 0))
def eqT (a b : Tab) : Bool := (decide (a.1 = b.1) && decide (a.2.length = b.2.length)) && eqAll a.2 b.2 a.2.length
def noA : Sto := []
def noE2 : Ent := ([], [], [], [], [], [], 0, 0)
theorem sto_put {B V T : Nat} {A : Sto} {k : Str} {e : Ent} {axes : List Axs} (hl : LimA B V T) (h : StoA B V T A) (he : OkE e) (ha : OkA axes) : StoA B V T (putA B V T A k e axes) :=
 ⟨inv_put h.inv hl.v.1 hl.t.1 _ _ _, okT_putA h.inv h.ok he ha hl.b.2⟩
theorem sto_touch {B V T : Nat} {A : Sto} {k : Str} (h : StoA B V T A) : StoA B V T (touchA A k) := ⟨inv_touch h.inv _, okT_touch h.ok⟩
theorem sto_noA {B V T : Nat} : StoA B V T noA := sto_nil
theorem aw_lim : LimA 250 5 5 := ⟨by omega, by omega, by omega⟩
theorem aw_ent : OkE ([], [], [], [], [], [], 0, 0) := ⟨by decide, by decide, fun _ h => (List.not_mem_nil h).elim⟩
end Go.Plain
