/-
  Plain functions of lists of members, of quality values, and of language tags. No program in sight.
-/
import Derived.Test.YtikllmfjgpmcnaaDoorLaw10C
namespace Go.Plain
set_option linter.unusedSimpArgs false
set_option linter.unusedVariables false

/-! ### Members -/
def neB (s : Str) : Bool := !decide (s = [])
def memG (X : List Str) : List Str := (X.map trim).filter neB
def splitF (v : Str) : List Str := (memG (cutF v 44)).take 64
def stepF (st : Nat) (c : UInt8) : Nat := if st = 2 then 1 else if st = 1 ∧ c = 92 then 2 else if c = 34 then 1 - st else st
theorem stepF_le {st : Nat} {c : UInt8} (h : st ≤ 2) : stepF st c ≤ 2 := by unfold stepF; split; omega; split; omega; split <;> omega
theorem memG_cons (x : Str) (X : List Str) : memG (x :: X) = if trim x = [] then memG X else trim x :: memG X := by
  unfold memG
  rw [List.map_cons, List.filter_cons]
  unfold neB
  by_cases h : trim x = [] <;> simp [h]
section
variable {v : Str} {i fr st : Nat} {acc X : List Str}
/-- What is still to come. -/
def rest7 (v : Str) (i fr st : Nat) : List Str := if i ≤ v.length then memG (cutGo 44 st ((v.take i).drop fr) (v.drop i)) else []
theorem cutGo_next {c b : UInt8} {st : Nat} {cur r : Str} (hs : st ≤ 2) (h : ¬ (st = 0 ∧ b = c)) : cutGo c st cur (b :: r) = cutGo c (stepF st b) (cur ++ [b]) r := by
  unfold stepF
  rw [cutGo]
  by_cases h2 : st = 2
  · simp [h2]
  by_cases h1 : st = 1
  · subst h1
    by_cases hb : b = 92
    · simp [hb]
    · by_cases h34 : b = 34
      · simp [h34]
      · simp [hb, h34]
  · obtain rfl : st = 0 := by omega
    have hc : ¬ b = c := fun e => h ⟨rfl, e⟩
    by_cases h34 : b = 34
    · simp [h34]
    · simp [h34, hc]
theorem split_next (h : i < v.length) (hf : fr ≤ i) (hs : st ≤ 2) (hn : ¬ (st = 0 ∧ v.getD i 0 = 44)) (e : acc ++ rest7 v i fr st = X) : acc ++ rest7 v (i + 1) fr (stepF st (v.getD i 0)) = X := by
  rw [← e]
  unfold rest7
  rw [if_pos (by omega), if_pos (by omega), take_drop_step h hf, drop_step (dd := 0) h, cutGo_next hs hn]
theorem rest7_in (h : i ≤ v.length) : rest7 v i fr st = memG (cutGo 44 st ((v.take i).drop fr) (v.drop i)) := if_pos h
theorem rest7_out (h : v.length < i) : rest7 v i fr st = [] := if_neg (by omega)
theorem split_cut (h : i < v.length) (hs : st = 0) (hb : v.getD i 0 = 44) (e : acc ++ rest7 v i fr st = X) : acc ++ (if trim ((v.take i).drop fr) = [] then [] else [trim ((v.take i).drop fr)]) ++ rest7 v (i + 1) (i + 1) st = X := by
  rw [← e, rest7_in (i := i) (by omega), rest7_in (i := i + 1) (by omega), drop_step (dd := 0) h, hb, hs]
  have e2 : (v.take (i + 1)).drop (i + 1) = [] := List.drop_of_length_le (by rw [List.length_take]; exact Nat.min_le_left _ _)
  have e3 : cutGo 44 0 ((v.take i).drop fr) (44 :: v.drop (i + 1)) = (v.take i).drop fr :: cutGo 44 0 [] (v.drop (i + 1)) := by
    rw [cutGo, if_neg (by decide), if_neg (by decide), if_neg (by decide), if_pos rfl]
  rw [e2, e3, memG_cons]
  split <;> simp
theorem split_last (h : i = v.length) (e : acc ++ rest7 v i fr st = X) : acc ++ (if trim ((v.take i).drop fr) = [] then [] else [trim ((v.take i).drop fr)]) ++ rest7 v (i + 1) (i + 1) st = X := by
  have e1 : v.drop i = [] := List.drop_of_length_le (by omega)
  rw [← e, rest7_in (i := i) (by omega), rest7_out (i := i + 1) (by omega), e1, cutGo, memG_cons]
  split <;> simp [memG]
theorem split_done (h : v.length < i ∨ 64 ≤ acc.length) (h2 : acc.length ≤ 64) (e : acc ++ rest7 v i fr st = memG (cutF v 44)) : acc = splitF v := by
  unfold splitF
  rw [← e]
  rcases h with h | h
  · unfold rest7
    rw [if_neg (by omega), List.append_nil, List.take_of_length_le h2]
  · rw [List.take_append_of_le_length h, List.take_of_length_le h2]
theorem rest7_zero : rest7 v 0 0 0 = memG (cutF v 44) := by unfold rest7 cutF; simp
end
theorem memG_step {X acc Y : List Str} {i : Nat} (h : i < X.length) (e : acc ++ memG (X.drop i) = Y) : acc ++ (if trim (X.getD i []) = [] then [] else [trim (X.getD i [])]) ++ memG (X.drop (i + 1)) = Y := by
  rw [← e, drop_step (dd := []) h, memG_cons]
  split <;> simp
theorem memG_done {v : Str} {acc : List Str} {i : Nat} (h : ¬ i < (cutF v 44).length ∨ 64 ≤ acc.length) (h2 : acc.length ≤ 64) (e : acc ++ memG ((cutF v 44).drop i) = memG (cutF v 44)) : acc = splitF v := by
  unfold splitF
  rw [← e]
  rcases h with h | h
  · rw [List.drop_of_length_le (by omega)]
    simp only [memG, List.map_nil, List.filter_nil, List.append_nil]
    rw [List.take_of_length_le h2]
  · rw [List.take_append_of_le_length h, List.take_of_length_le h2]
theorem splitF_length (v : Str) : (splitF v).length ≤ 64 := by unfold splitF; rw [List.length_take]; omega
theorem splitF_mem (v : Str) : ∀ x ∈ splitF v, x.length ≤ v.length := fun x hx => by
  have h1 := List.mem_of_mem_take hx
  unfold memG at h1
  obtain ⟨h2, _⟩ := List.mem_filter.1 h1
  obtain ⟨y, hy, rfl⟩ := List.mem_map.1 h2
  have := trim_length y
  have := cutF_mem v 44 y hy
  omega
def allV (vs : List Str) : List Str := (vs.flatMap splitF).take 64
def allF (l : List Fld) (name : Str) : List Str := allV (getF l name)
theorem allV_length (vs : List Str) : (allV vs).length ≤ 64 := by unfold allV; rw [List.length_take]; omega
theorem allV_mem {vs : List Str} {n : Nat} (h : ∀ v ∈ vs, v.length ≤ n) : ∀ x ∈ allV vs, x.length ≤ n := fun x hx => by
  obtain ⟨v, hv, hx⟩ := List.mem_flatMap.1 (List.mem_of_mem_take hx)
  have := splitF_mem v x hx
  have := h v hv
  omega
theorem getF_mem {l : List Fld} {name : Str} {n : Nat} (h : ∀ x ∈ l, x.1.length ≤ n ∧ x.2.length ≤ n) : ∀ v ∈ getF l name, v.length ≤ n := fun v hv => by
  unfold getF at hv
  obtain ⟨f, hf, rfl⟩ := List.mem_map.1 hv
  exact (h f (List.mem_filter.1 hf).1).2
theorem flat_take_step {vs : List Str} {i : Nat} (h : i < vs.length) : (vs.take (i + 1)).flatMap splitF = (vs.take i).flatMap splitF ++ splitF (vs.getD i []) := flatMap_step h
theorem take64_step {X m : List Str} {k : Nat} (h : k < m.length) (h2 : ((X ++ m.take k).take 64).length < 64) : (X ++ m.take k).take 64 ++ [m.getD k []] = (X ++ m.take (k + 1)).take 64 := by
  rw [List.length_take] at h2
  have h3 : (X ++ m.take k).length < 64 := by omega
  have h4 : (X ++ m.take (k + 1)).length ≤ 64 := by simp only [List.length_append, List.length_take] at h3 ⊢; omega
  rw [List.take_of_length_le (Nat.le_of_lt h3), List.take_of_length_le h4, List.take_succ_eq_append_getElem h, getD_get h, List.append_assoc]
theorem take64_end {X m : List Str} {k : Nat} (hk : k ≤ m.length) (h : ¬ k < m.length ∨ 64 ≤ ((X ++ m.take k).take 64).length) : (X ++ m.take k).take 64 = (X ++ m).take 64 := by
  rcases h with h | h
  · rw [List.take_of_length_le (l := m) (i := k) (by omega)]
  · have h2 : (X ++ m).take (X ++ m.take k).length = X ++ m.take k := by
      rw [List.length_append, List.take_append]
      rw [List.take_of_length_le (by omega)]
      congr 1
      rw [List.length_take]
      rw [show X.length + min k m.length - X.length = k by omega]
    rw [← h2, List.take_take]
    congr 1
    rw [List.length_take] at h
    omega
def joinS (sep : Str) : List Str → Str
  | [] => []
  | x :: r => r.foldl (fun a y => a ++ sep ++ y) x
theorem joinS_step {sep x : Str} {r : List Str} {i : Nat} (h : i < r.length) : joinS sep (x :: r.take (i + 1)) = (joinS sep (x :: r.take i) ++ sep) ++ r.getD i [] := by
  unfold joinS
  simp only
  rw [List.take_succ_eq_append_getElem h, List.foldl_append, getD_get h]
  rfl

/-! ### Quality values -/
def digB (c : UInt8) : Bool := decide (48 ≤ c) && decide (c ≤ 57)
def digV (c : UInt8) : Nat := (c - 48).toNat
def badQ (s : Str) : Bool := decide (s = []) || decide (5 < s.length) || (!decide (s.getD 0 0 = 48) && !decide (s.getD 0 0 = 49)) || (decide (1 < s.length) && !decide (s.getD 1 0 = 46))
/-- The weight of the digit at i. -/
def wq (i : Nat) : Nat := if i = 0 then 1000 else if i = 2 then 100 else if i = 3 then 10 else if i = 4 then 1 else 0
def sumQ (s : Str) (i : Nat) : Nat := (List.range i).foldl (fun q k => if k = 1 then q else q + wq k * digV (s.getD k 0)) 0
def digsQ (s : Str) : Bool := (s.drop 2).all digB
def parseQ (s : Str) : Nat × Bool :=
  if badQ s = true then (0, false) else if digsQ s = false then (0, false) else if 1000 < sumQ s s.length then (0, false) else (sumQ s s.length, true)

/-! ### Language tags -/
def cutAt (c : UInt8) : Str → Str → List Str
  | cur, [] => [cur]
  | cur, b :: r => if b = c then cur :: cutAt c [] r else cutAt c (cur ++ [b]) r
def subt (s : Str) : List Str := cutAt 45 [] s
def alphaB (c : UInt8) : Bool := (decide (97 ≤ c) && decide (c ≤ 122)) || (decide (65 ≤ c) && decide (c ≤ 90))
def subOk (d : Bool) (s : Str) : Bool := s.all (fun c => alphaB c || (d && digB c)) && !decide (s = []) && decide (s.length ≤ 8)
def tagF (s : Str) : Bool := match subt s with
  | [] => false
  | x :: r => subOk false x && r.all (subOk true)
def rangeL (s : Str) : Bool := decide (s = [42]) || tagF s
def matchL (r t : Str) : Int :=
  if rangeL r = false ∨ tagF t = false then -1 else if r = [42] then 0
  else if (subt (lower r)).isPrefixOf (subt (lower t)) = true then ((subt r).length : Nat) else -1

/-! ### Preferences -/
def nameK (kind : Int) : Str :=
  if kind = 1 then [65, 99, 99, 101, 112, 116] else if kind = 2 then [65, 99, 99, 101, 112, 116, 45, 76, 97, 110, 103, 117, 97, 103, 101]
  else if kind = 3 then [65, 99, 99, 101, 112, 116, 45, 67, 104, 97, 114, 115, 101, 116] else if kind = 4 then [65, 99, 99, 101, 112, 116, 45, 69, 110, 99, 111, 100, 105, 110, 103] else []
def kindF (name : Str) : Int := if fold name (nameK 1) then 1 else if fold name (nameK 2) then 2 else if fold name (nameK 3) then 3 else if fold name (nameK 4) then 4 else 0
theorem nameK_length (kind : Int) : (nameK kind).length ≤ 15 := by unfold nameK; (repeat' split) <;> decide
def qAt (l : List Prm) : Nat := l.findIdx fun p => decide (p.1 = [113])
def idxQ (l : List Prm) : Int := if qAt l < l.length then (qAt l : Int) else -1
theorem qAt_le (l : List Prm) : qAt l ≤ l.length := List.findIdx_le_length
theorem idxQ_found {l : List Prm} (h : qAt l < l.length) : idxQ l = ((qAt l : Nat) : Int) := if_pos h
theorem idxQ_none {l : List Prm} (h : ¬ qAt l < l.length) : idxQ l = -1 := if_neg h
theorem qAt_miss {l : List Prm} {i : Nat} (h : i < l.length) (h2 : ¬ (l.getD i ([], [])).1 = [113]) (e : i + qAt (l.drop i) = qAt l) : i + 1 + qAt (l.drop (i + 1)) = qAt l := by
  rw [← e, drop_step (dd := ([], [])) h]
  revert h2
  generalize l.getD i ([], []) = p
  intro h2
  simp [qAt, List.findIdx_cons, h2]; omega
theorem qAt_hit {l : List Prm} {i : Nat} (h : i < l.length) (h2 : (l.getD i ([], [])).1 = [113]) (e : i + qAt (l.drop i) = qAt l) : qAt l = i := by
  rw [← e, drop_step (dd := ([], [])) h]
  revert h2
  generalize l.getD i ([], []) = p
  intro h2
  simp [qAt, List.findIdx_cons, h2]
theorem qAt_end {l : List Prm} {i : Nat} (h : l.length ≤ i) (e : i + qAt (l.drop i) = qAt l) : ¬ qAt l < l.length := by omega
def rangedF (kind : Int) (v : Str) (ps : List Prm) : Str × Bool :=
  if kind = 1 then (formatT ((parseR v).1.1, (parseR v).1.2.1, ps), (parseR v).2)
  else if kind = 2 then (canonical kind v, rangeL v && decide (ps.length = 0)) else (canonical kind v, token v && decide (ps.length = 0))
abbrev Prf := Str × Int
def prefF (kind : Int) (s : Str) : Prf × Bool :=
  if (parseP s).2.2 = false then (([], 0), false)
  else if qAt (parseP s).2.1 < (parseP s).2.1.length then
    (if (parseQ ((parseP s).2.1.getD (qAt (parseP s).2.1) ([], [])).2).2 = false then (([], 0), false)
     else (((rangedF kind (parseP s).1 ((parseP s).2.1.take (qAt (parseP s).2.1))).1, (((parseQ ((parseP s).2.1.getD (qAt (parseP s).2.1) ([], [])).2).1 : Nat) : Int)), (rangedF kind (parseP s).1 ((parseP s).2.1.take (qAt (parseP s).2.1))).2))
  else (((rangedF kind (parseP s).1 (parseP s).2.1).1, 1000), (rangedF kind (parseP s).1 (parseP s).2.1).2)
def prefsM (kind : Int) (m : List Str) : List Prf := ((m.map (prefF kind)).filter (·.2)).map (·.1)
theorem prefsM_hit {kind : Int} {m : List Str} {i : Nat} (h : i < m.length) (h2 : (prefF kind (m.getD i [])).2 = true) : prefsM kind (m.take (i + 1)) = prefsM kind (m.take i) ++ [(prefF kind (m.getD i [])).1] := by
  unfold prefsM
  rw [List.take_succ_eq_append_getElem h, List.map_append, List.filter_append, List.map_append, ← getD_get (dd := []) h]
  simp only [List.map_cons, List.map_nil, List.filter_cons, h2, if_true, List.filter_nil]
theorem prefsM_miss {kind : Int} {m : List Str} {i : Nat} (h : i < m.length) (h2 : (prefF kind (m.getD i [])).2 = false) : prefsM kind (m.take (i + 1)) = prefsM kind (m.take i) := by
  unfold prefsM
  rw [List.take_succ_eq_append_getElem h, List.map_append, List.filter_append, List.map_append, ← getD_get (dd := []) h]
  simp only [List.map_cons, List.map_nil, List.filter_cons, h2, Bool.false_eq_true, if_false, List.filter_nil, List.append_nil]
def prefsF (kind : Int) (l : List Fld) : List Prf × Bool :=
  if (decide (nameK kind = []) || !decide (0 < (getF l (nameK kind)).length)) = true then ([], false) else (prefsM kind (allF l (nameK kind)), true)
theorem prefsF_no {kind : Int} {l : List Fld} (h : (decide (nameK kind = []) || !decide (0 < (getF l (nameK kind)).length)) = true) : prefsF kind l = ([], false) := if_pos h
theorem prefsF_yes {kind : Int} {l : List Fld} (h : (decide (nameK kind = []) || !decide (0 < (getF l (nameK kind)).length)) = false) : prefsF kind l = (prefsM kind (allF l (nameK kind)), true) := if_neg (by rw [h]; simp)
theorem prefsM_length (kind : Int) (m : List Str) : (prefsM kind m).length ≤ m.length := by
  unfold prefsM; rw [List.length_map]; exact Nat.le_trans (List.length_filter_le ..) (by rw [List.length_map]; exact Nat.le_refl _)
end Go.Plain
