/-
  Plain functions of the keys of Variant-Key, step by step. No program in sight.
  Plain laws of the keys of Variant-Key: every key that is read has values of the axes; what is written is read again. No program in sight.
  Plain law: a preference of quality 0 for a value itself excludes it. No program in sight.
  Plain law: what Rank returns lies in descending order of quality, those of one quality in their order. No program in sight.
  Plain law: the order of two preferences does not matter where no two match with the same specificity; and opening a row that one holds. No program but the calculus in sight.
  Plain functions and laws of selection: ranked values of an axis, keys as the product of the ranked values. No program in sight.
  Plain laws of selection: products, what does not matter, the best value. No program in sight.
-/
import Derived.Test.YtjbcomdljmfgjabGreatDoorZLawB
import Derived.Test.YtjbcomdljmfgjabGreatDoorZLawA
import Derived.Test.YtjbcomdljmfgjabGreatDoorZSep2
namespace Go.Plain
open Go Go.Sep
set_option linter.unusedSimpArgs false
set_option linter.unusedVariables false

def axAt (axes : List Axs) (i : Nat) : Axs := axes.getD i ([], [])
def atF (axes : List Axs) (key : List Str) (i : Nat) : Int := idxP (fun v => sameF (axes.getD i ([], [])).1 v (key.getD i [])) (axes.getD i ([], [])).2
def okAt (axes : List Axs) (key : List Str) (i : Nat) : Bool := decide (0 ≤ atF axes key i)
def valAt (axes : List Axs) (key : List Str) (i : Nat) : Str := (axes.getD i ([], [])).2.getD (atF axes key i).toNat []
def resB (axes : List Axs) (key : List Str) : Bool := decide (key.length = axes.length) && (List.range axes.length).all (okAt axes key)
def resV (axes : List Axs) (key : List Str) : List Str := (List.range axes.length).map (valAt axes key)
def resR (axes : List Axs) (key : List Str) : List Str := if resB axes key = true then resV axes key else []
def addK (out : List (List Str)) (k : List Str) : List (List Str) := if (out.any fun x => decide (x = k)) = true then out else out ++ [k]
def dedK (l : List (List Str)) : List (List Str) := l.foldl addK []
def readM (M : List Str) : List (List Str) := M.map fun m => (readF m).1
def parseK (l : List Fld) (axes : List Axs) : List (List Str) × Int :=
  if validL axes = false then ([], 10)
  else if (allF l sVariantKey).length = 0 then ([], 12)
  else if ((allF l sVariantKey).all fun m => (readF m).2) = false then ([], 1)
  else if ((readM (allF l sVariantKey)).all (resB axes)) = false then ([], 11)
  else (dedK ((readM (allF l sVariantKey)).map (resV axes)), 0)
def keysT (keys : List (List Str)) : Str := joinS [44, 32] (keys.map writeF)
def sameAt (axes : List Axs) (a b : List Str) (i : Nat) : Bool := sameF (axes.getD i ([], [])).1 (a.getD i []) (b.getD i [])
def sameK (axes : List Axs) (a b : List Str) : Bool := (decide (a.length = axes.length) && decide (b.length = axes.length)) && (List.range axes.length).all (sameAt axes a b)

/-! ### Steps -/
theorem take_set {α : Type} {xs : List α} {i : Nat} {v : α} (h : i < xs.length) : (xs.set i v).take (i + 1) = xs.take i ++ [v] := by
  rw [List.take_succ_eq_append_getElem (by simpa using h), List.take_set_of_le (Nat.le_refl i)]; simp
/-! ### parseK -/
section
variable {l : List Fld} {axes : List Axs}
end
/-! ### The reference takes the last place -/
theorem axis_uniq {a : Axs} (h : validA a = true) {v : Str} {j : Nat} (hj : j < a.2.length) (hs : sameF a.1 (a.2.getD j []) v = true) : (a.2.take j).any (fun x => sameF a.1 x v) = false := by
  unfold validA validV at h
  simp only [Bool.and_eq_true] at h
  have h2 := (dist_at h.2.2 hj).2
  rw [List.any_eq_false] at h2 ⊢
  intro x hx hc
  refine h2 x hx ?_
  rw [decide_eq_true_eq]
  exact (of_decide_eq_true hc).trans (of_decide_eq_true hs).symm
/-! ### Bounds -/
def keepK (l : List (List Str)) : Bool := (l.take 11).all keepS && decide (l.length ≤ 10)
end Go.Plain

namespace Go.Plain
open Go Go.Sep
set_option linter.unusedSimpArgs false
set_option linter.unusedVariables false

/-- A key of values of the axes. -/
def ofAxes (axes : List Axs) (k : List Str) : Prop := k.length = axes.length ∧ ∀ i, i < axes.length → ∃ j, j < (axes.getD i ([], [])).2.length ∧ (axes.getD i ([], [])).2.getD j [] = k.getD i []
/-! ### What is written is read again -/
/-! ### Keys that are picked -/
def pickAt (x : List Axs) (p : List Int) (k : Nat) : Nat :=
  if k < p.length then (((p.getD k 0).tmod ((x.getD k ([], [])).2.length : Int) + ((x.getD k ([], [])).2.length : Int)).tmod ((x.getD k ([], [])).2.length : Int)).toNat else 0
def pickV (x : List Axs) (p : List Int) (k : Nat) : Str := (x.getD k ([], [])).2.getD (pickAt x p k) []
def pickK (x : List Axs) (p : List Int) : List Str := (List.range x.length).map (pickV x p)
end Go.Plain

namespace Go.Plain
open Go
set_option linter.unusedSimpArgs false
set_option linter.unusedVariables false

section
variable {kind : Int} {value : Str} {less : List Prf}
end
end Go.Plain

namespace Go.Plain
open Go
set_option linter.unusedSimpArgs false
set_option linter.unusedVariables false

section
variable {kind : Int} {l : List Prf} {present : Bool} {vs : List Str}
/-- The quality of the value at j. -/
def qAtV (kind : Int) (l : List Prf) (present : Bool) (vs : List Str) (j : Nat) : Int := qualF kind l present (vs.getD j [])
def betB (kind : Int) (l : List Prf) (present : Bool) (vs : List Str) (i j : Nat) : Bool := decide (qAtV kind l present vs i < qAtV kind l present vs j) || (decide (qAtV kind l present vs j = qAtV kind l present vs i) && decide (j < i))
def cntI (kind : Int) (l : List Prf) (present : Bool) (vs : List Str) (i n : Nat) : Nat := (List.range n).countP (betB kind l present vs i)
def posB (kind : Int) (l : List Prf) (present : Bool) (v : Str) : Bool := decide (0 < qualF kind l present v)
/-- What holds of the two rows behind n values. -/
structure Ranked (kind : Int) (l : List Prf) (present : Bool) (vs : List Str) (n : Nat) (s : List Str × List Int) : Prop where
  len : s.2.length = s.1.length
  sorted : s.2.Pairwise (fun a b => b ≤ a)
  count : ∀ t : Int, 0 < t → s.2.countP (fun q => decide (t ≤ q)) = (List.range n).countP (fun j => decide (t ≤ qAtV kind l present vs j))
  all : s.1.length = (List.range n).countP (fun j => decide (0 < qAtV kind l present vs j))
  place : ∀ i, i < n → 0 < qAtV kind l present vs i → s.1[cntI kind l present vs i n]? = some (vs.getD i []) ∧ s.2[cntI kind l present vs i n]? = some (qAtV kind l present vs i)
end
end Go.Plain

namespace Go.Sep
open Go
end Go.Sep
namespace Go.Plain
open Go
set_option linter.unusedSimpArgs false
set_option linter.unusedVariables false
section
variable {kind : Int} {v : Str}
theorem best_char : ∀ (l : List Prf) (s : Int × Int), (l.foldl (bestS kind v) s = s ∧ ∀ p ∈ l, matchK kind p.1 v ≤ s.1) ∨ (∃ p ∈ l, l.foldl (bestS kind v) s = (matchK kind p.1 v, p.2) ∧ s.1 < matchK kind p.1 v ∧ ∀ p' ∈ l, matchK kind p'.1 v ≤ matchK kind p.1 v)
  | [], s => .inl ⟨rfl, fun p hp => by cases hp⟩
  | p :: l, s => by
    rw [List.foldl_cons]
    by_cases h : s.1 < matchK kind p.1 v
    · have e : bestS kind v s p = (matchK kind p.1 v, p.2) := by unfold bestS; rw [if_pos h]
      rw [e]
      rcases best_char l (matchK kind p.1 v, p.2) with ⟨a, b⟩ | ⟨x, hx, a, b, c⟩
      · refine .inr ⟨p, by simp, a, h, fun p' hp' => ?_⟩
        rcases List.mem_cons.1 hp' with rfl | hp'
        · exact Int.le_refl _
        · exact b p' hp'
      · simp only at b
        refine .inr ⟨x, by simp [hx], a, by omega, fun p' hp' => ?_⟩
        rcases List.mem_cons.1 hp' with rfl | hp'
        · omega
        · exact c p' hp'
    · have e : bestS kind v s p = s := by unfold bestS; rw [if_neg h]
      rw [e]
      rcases best_char l s with ⟨a, b⟩ | ⟨x, hx, a, b, c⟩
      · refine .inl ⟨a, fun p' hp' => ?_⟩
        rcases List.mem_cons.1 hp' with rfl | hp'
        · omega
        · exact b p' hp'
      · refine .inr ⟨x, by simp [hx], a, b, fun p' hp' => ?_⟩
        rcases List.mem_cons.1 hp' with rfl | hp'
        · omega
        · exact c p' hp'
end
end Go.Plain

namespace Go.Plain
open Go Go.Sep
set_option linter.unusedSimpArgs false
set_option linter.unusedVariables false

def haveF (a : Axs) (l : List Fld) : Str := joinS [44, 32] (allF l a.1)
def rankO (a : Axs) (l : List Fld) : List Str :=
  if ¬ kindF a.1 = 0 then (rankG (kindF a.1) (prefsF (kindF a.1) l).1 (prefsF (kindF a.1) l).2 a.2).1
  else if (a.2.any fun x => decide (x = haveF a l)) = true then [haveF a l] else []
def rankA (a : Axs) (l : List Fld) (strict : Bool) : List Str :=
  if validA a = false then [] else if (rankO a l).length = 0 ∧ strict = false then [a.2.getD 0 []] else rankO a l
def prodL : List (List Str) → List (List Str)
  | [] => [[]]
  | r :: R => r.flatMap fun x => (prodL R).map (x :: ·)
def rankL (axes : List Axs) (l : List Fld) (strict : Bool) : List (List Str) := axes.map fun a => rankA a l strict
def keysF (axes : List Axs) (l : List Fld) (strict : Bool) (most : Nat) : List (List Str) := if validL axes = false then [] else (prodL (rankL axes l strict)).take most

/-! ### Counting through a product -/
def restK : List (List Str) → List Int → List (List Str)
  | r :: R, d :: ds => (restK R ds).map (r.getD d.toNat [] :: ·) ++ (r.drop (d.toNat + 1)).flatMap (fun y => (prodL R).map (y :: ·))
  | _, _ => [[]]
def keyD : List (List Str) → List Int → List Str
  | r :: R, d :: ds => r.getD d.toNat [] :: keyD R ds
  | _, _ => []
def MaxD (R : List (List Str)) (ds : List Int) : Prop := R.length = ds.length ∧ ∀ i, i < R.length → ds.getD i 0 + 1 = ((R.getD i []).length : Int)
theorem MaxD.tail {r : List Str} {R : List (List Str)} {d : Int} {ds : List Int} (h : MaxD (r :: R) (d :: ds)) : d + 1 = (r.length : Int) ∧ MaxD R ds :=
  ⟨h.2 0 (by simp), by simpa using h.1, fun i hi => by have := h.2 (i + 1) (by simpa using hi); simpa using this⟩
/-- Digits that lie within. -/
def Dig (R : List (List Str)) (ds : List Int) : Prop := ds.length = R.length ∧ ∀ i, i < R.length → 0 ≤ ds.getD i 0 ∧ ds.getD i 0 < ((R.getD i []).length : Int)
/-- The counter goes back over the digits that stand at their end. -/
def Carry (R : List (List Str)) (ds : List Int) (j : Nat) (xs : List Int) : Prop := j ≤ R.length ∧ xs = ds.take j ++ List.replicate (R.length - j) 0 ∧ ∀ i, j ≤ i → i < R.length → ds.getD i 0 + 1 = ((R.getD i []).length : Int)
theorem Carry.length {R : List (List Str)} {ds xs : List Int} {j : Nat} (hd : Dig R ds) (h : Carry R ds j xs) : xs.length = R.length := by
  have := h.1; have := hd.1
  rw [h.2.1, List.length_append, List.length_take, List.length_replicate]; omega
theorem Carry.at {R : List (List Str)} {ds xs : List Int} {j i : Nat} (hd : Dig R ds) (h : Carry R ds j xs) (hi : i < j) : xs.getD i 0 = ds.getD i 0 := by
  have := h.1; have := hd.1
  rw [h.2.1, List.getD_eq_getElem?_getD, List.getD_eq_getElem?_getD, List.getElem?_append_left (by rw [List.length_take]; omega), List.getElem?_take_of_lt hi]
/-! ### Keys -/
section
variable {axes : List Axs} {l : List Fld} {strict : Bool} {most : Nat}
end
/-! ### Ranked -/
theorem valid_one {a : Axs} : validL [a] = validA a := by
  rw [validL_yes (by simp)]
  show distB validA (fun x b => decide (x.1 = b.1)) ([], []) [a] 1 = _
  rw [dist_step, dist_zero]; simp
section
variable {a : Axs} {l : List Fld} {strict : Bool}
theorem ranked_no (h : validA a = false) : rankA a l strict = [] := if_pos h
theorem ranked_first (h : validA a = true) (h1 : (rankO a l).length = 0) (h2 : strict = false) : rankA a l strict = [a.2.getD 0 []] := by
  unfold rankA; rw [if_neg (by rw [h]; simp), if_pos ⟨h1, h2⟩]
theorem ranked_out (h : validA a = true) (h1 : ¬ (rankO a l).length = 0 ∨ strict = true) : rankA a l strict = rankO a l := by
  unfold rankA; rw [if_neg (by rw [h]; simp), if_neg]
  rintro ⟨e1, e2⟩
  rcases h1 with h1 | h1
  · exact h1 e1
  · rw [e2] at h1; cases h1
theorem rankO_kind (h : ¬ kindF a.1 = 0) : rankO a l = (rankG (kindF a.1) (prefsF (kindF a.1) l).1 (prefsF (kindF a.1) l).2 a.2).1 := if_pos h
theorem rankO_have (h : kindF a.1 = 0) (h1 : (a.2.any fun x => decide (x = haveF a l)) = true) : rankO a l = [haveF a l] := by unfold rankO; rw [if_neg (by simp [h]), if_pos h1]
theorem rankO_none (h : kindF a.1 = 0) (h1 : (a.2.any fun x => decide (x = haveF a l)) = false) : rankO a l = [] := by unfold rankO; rw [if_neg (by simp [h]), if_neg (by rw [h1]; simp)]
end
/-! ### Steps -/
def haveU (a : Axs) (l : List Fld) (i : Nat) : List Str := if ((a.2.take i).any fun x => decide (x = haveF a l)) = true then [haveF a l] else []
section
variable {a : Axs} {l : List Fld} {i : Nat}
end
end Go.Plain

namespace Go.Plain
open Go Go.Sep
set_option linter.unusedSimpArgs false
set_option linter.unusedVariables false

/-! ### Rank, as a rearrangement -/
section
variable {kind : Int} {l : List Prf} {present : Bool}
theorem rankS_perm (s : List Str × List Int) (v : Str) : (rankS kind l present s v).1.Perm (s.1 ++ if posB kind l present v = true then [v] else []) := by
  unfold rankS posB
  by_cases h : qualF kind l present v ≤ 0
  · rw [if_pos h, if_neg (by rw [decide_eq_true_eq]; omega), List.append_nil]
  · rw [if_neg h, if_pos (by rw [decide_eq_true_eq]; omega)]
    simp only
    have : (s.1.take (insPos s.2 (qualF kind l present v)) ++ [v] ++ s.1.drop (insPos s.2 (qualF kind l present v))).Perm (s.1.take (insPos s.2 (qualF kind l present v)) ++ (s.1.drop (insPos s.2 (qualF kind l present v)) ++ [v])) := by
      rw [List.append_assoc]; exact List.Perm.append_left _ List.perm_append_comm
    rwa [← List.append_assoc, List.take_append_drop] at this
theorem rankG_perm (vs : List Str) : (rankG kind l present vs).1.Perm (vs.filter (posB kind l present)) := by
  have key : ∀ (vs : List Str) (s : List Str × List Int), (vs.foldl (rankS kind l present) s).1.Perm (s.1 ++ vs.filter (posB kind l present)) := by
    intro vs
    induction vs with
    | nil => intro s; simp
    | cons v vs ih =>
      intro s
      rw [List.foldl_cons]
      refine (ih _).trans ?_
      refine ((rankS_perm s v).append_right _).trans ?_
      rw [List.append_assoc, List.filter_cons]
      split
      · exact List.Perm.refl _
      · exact List.Perm.refl _
  exact key vs ([], [])
theorem rankG_congr {m : List Prf} {p2 : Bool} {vs : List Str} (h : ∀ v ∈ vs, qualF kind l present v = qualF kind m p2 v) : rankG kind l present vs = rankG kind m p2 vs := by
  have key : ∀ (vs : List Str) (s : List Str × List Int), (∀ v ∈ vs, qualF kind l present v = qualF kind m p2 v) → vs.foldl (rankS kind l present) s = vs.foldl (rankS kind m p2) s := by
    intro vs
    induction vs with
    | nil => intro s _; rfl
    | cons v vs ih =>
      intro s h
      rw [List.foldl_cons, List.foldl_cons, show rankS kind l present s v = rankS kind m p2 s v by unfold rankS; rw [h v (by simp)]]
      exact ih _ fun w hw => h w (by simp [hw])
  exact key vs _ h
end

/-! ### Values of a valid axis -/
section
variable {a : Axs} {l m : List Fld} {strict : Bool}
theorem values_len (h : validA a = true) : 0 < a.2.length ∧ a.2.length ≤ 16 := by
  unfold validA validV at h
  simp only [Bool.and_eq_true, decide_eq_true_eq] at h
  exact h.2.1
theorem values_dist (h : validA a = true) {i j : Nat} (hj : j < a.2.length) (hi : i < j) : sameF a.1 (a.2.getD i []) (a.2.getD j []) = false := by
  cases hs : sameF a.1 (a.2.getD i []) (a.2.getD j []) with
  | false => rfl
  | true =>
    have h1 := axis_uniq h hj (same_self a.1 _)
    rw [any_of (p := fun x => sameF a.1 x (a.2.getD j [])) (dd := []) (by omega) hi hs] at h1
    cases h1
theorem values_nodup (h : validA a = true) : a.2.Nodup := by
  rw [List.Nodup, List.pairwise_iff_getElem]
  intro i j hi hj hij e
  have := values_dist h hj hij
  rw [getD_get hi, getD_get hj, e, same_self] at this
  cases this
theorem rankO_sub : ∀ x ∈ rankO a l, x ∈ a.2 := fun x hx => by
  unfold rankO at hx
  split at hx
  · have := (rankG_perm a.2).mem_iff.1 hx
    exact (List.mem_filter.1 this).1
  · split at hx
    · rename_i h
      obtain rfl := List.mem_singleton.1 hx
      obtain ⟨y, hy, e⟩ := List.any_eq_true.1 h
      rw [← of_decide_eq_true e]; exact hy
    · cases hx
theorem rankA_sub : ∀ x ∈ rankA a l strict, x ∈ a.2 := fun x hx => by
  unfold rankA at hx
  split at hx
  · cases hx
  · rename_i h
    split at hx
    · obtain rfl := List.mem_singleton.1 hx
      exact getD_mem (values_len (by simpa using h)).1
    · exact rankO_sub x hx
theorem rankA_nodup : (rankA a l strict).Nodup := by
  unfold rankA
  split
  · simp
  · rename_i h
    split
    · simp
    · unfold rankO
      split
      · exact (rankG_perm a.2).nodup_iff.2 ((values_nodup (by simpa using h)).filter _)
      · split <;> simp
theorem rankA_length : (rankA a l strict).length ≤ 16 := by
  by_cases h : validA a = true
  · have h1 := values_len h
    have : (rankA a l strict).length ≤ a.2.length := rankA_nodup.length_le_of_subset (fun x hx => rankA_sub x hx)
    omega
  · rw [ranked_no (by simpa using h)]; simp
/-! ### What the ranked values depend on -/
def targetF (a : Axs) : Str := if kindF a.1 = 0 then a.1 else nameK (kindF a.1)
theorem kind_fold {s : Str} (h : ¬ kindF s = 0) : fold s (nameK (kindF s)) = true := by
  unfold kindF at h ⊢
  split
  · rename_i h1; exact h1
  · split
    · rename_i h2; exact h2
    · split
      · rename_i h3; exact h3
      · split
        · rename_i h4; exact h4
        · rename_i h1 h2 h3 h4; rw [if_neg h1, if_neg h2, if_neg h3, if_neg h4] at h; exact absurd rfl h
theorem target_fold (a : Axs) : fold a.1 (targetF a) = true := by
  unfold targetF
  split
  · exact fold_self _
  · rename_i h; exact kind_fold h
theorem prefsF_congr {kind : Int} (h : getF l (nameK kind) = getF m (nameK kind)) : prefsF kind l = prefsF kind m := by
  unfold prefsF allF; rw [h]
theorem rankO_congr (h : getF l (targetF a) = getF m (targetF a)) : rankO a l = rankO a m := by
  unfold rankO
  by_cases hk : kindF a.1 = 0
  · rw [if_neg (show ¬ ¬ kindF a.1 = 0 from fun e => e hk), if_neg (show ¬ ¬ kindF a.1 = 0 from fun e => e hk)]
    have e : haveF a l = haveF a m := by
      unfold targetF at h
      rw [if_pos hk] at h
      unfold haveF allF; rw [h]
    rw [e]
  · unfold targetF at h
    rw [if_neg hk] at h
    rw [if_pos hk, if_pos hk, prefsF_congr h]
theorem rankA_of (h : rankO a l = rankO a m) : rankA a l strict = rankA a m strict := by unfold rankA; rw [h]
theorem getF_app (l m : List Fld) (n : Str) : getF (l ++ m) n = getF l n ++ getF m n := by unfold getF; rw [List.filter_append, List.map_append]
theorem getF_one (f : Fld) (n : Str) : getF [f] n = if fold f.1 n = true then [f.2] else [] := by
  unfold getF
  rw [List.filter_cons]
  split <;> rfl
end
/-! ### The product -/
/-! ### The best key -/
def bestK (axes : List Axs) (l : List Fld) (strict : Bool) : List Str := (keysF axes l strict 1).getD 0 []
def bestB (axes : List Axs) (l : List Fld) (strict : Bool) : Bool := decide (0 < (keysF axes l strict 1).length)
end Go.Plain
