/-
  Plain law: the preferences of a request do not hang on how members lie on lines, nor on blanks around them. No program in sight.
-/
import Derived.Test.YtikllmfjgpmcnaaDoorLaw13
namespace Go.Plain
open Go
set_option linter.unusedSimpArgs false
set_option linter.unusedVariables false

theorem trim_front {w : UInt8} (s : Str) (h : blankB w = true) : trim (w :: s) = trim s := by
  rw [← trim_alt, ← trim_alt]
  unfold trimL
  rw [List.dropWhile_cons, if_pos h]
theorem trim_back {w : UInt8} (s : Str) (h : blankB w = true) : trim (s ++ [w]) = trim s := by
  unfold trim
  congr 1
  unfold trimR
  rw [List.reverse_append, List.reverse_cons, List.reverse_nil, List.nil_append, List.singleton_append, List.dropWhile_cons, if_pos h]
theorem trim_nil {s : Str} (h : trim s = []) : ∀ x ∈ s, blankB x = true := by
  unfold trim trimL at h
  rw [dw_nil] at h
  obtain ⟨r, e, hr, _⟩ := split_right (p := blankB) s
  intro x hx
  rw [e] at hx
  rcases List.mem_append.1 hx with hx | hx
  · exact h x hx
  · exact List.all_eq_true.1 hr x hx
theorem memG_app (X Y : List Str) : memG (X ++ Y) = memG X ++ memG Y := by
  unfold memG; rw [List.map_append, List.filter_append]
theorem memG_one {x : Str} : memG [x] = if trim x = [] then [] else [trim x] := by rw [memG_cons]; split <;> rfl
/-- How a text goes on behind another. -/
theorem cut_app : ∀ (s : Str) (st : Nat) (cur : Str), st ≤ 2 → (st ≠ 0 → (34 : UInt8) ∈ cur) → ∃ (X : List Str) (last : Str) (e : Nat), e ≤ 2 ∧ (e ≠ 0 → (34 : UInt8) ∈ last) ∧ cutGo 44 st cur s = X ++ [last] ∧ ∀ t, cutGo 44 st cur (s ++ t) = X ++ cutGo 44 e last t
  | [], st, cur, hs, hq => ⟨[], cur, st, hs, hq, by simp [cutGo], fun t => by simp⟩
  | b :: r, st, cur, hs, hq => by
    by_cases h : st = 0 ∧ b = 44
    · obtain ⟨rfl, rfl⟩ := h
      obtain ⟨X, last, e, h1, h2, h3, h4⟩ := cut_app r 0 [] (by omega) (fun q => absurd rfl q)
      have e0 : ∀ t, cutGo 44 0 cur (44 :: t) = cur :: cutGo 44 0 [] t := fun t => by rw [cutGo, if_neg (by decide), if_neg (by decide), if_neg (by decide), if_pos rfl]
      exact ⟨cur :: X, last, e, h1, h2, by rw [e0, h3]; rfl, fun t => by rw [List.cons_append, e0, h4]; rfl⟩
    · have hq2 : stepF st b ≠ 0 → (34 : UInt8) ∈ cur ++ [b] := fun q => by
        by_cases h0 : st = 0
        · subst h0
          by_cases hb : b = 34
          · simp [hb]
          · unfold stepF at q; simp [hb] at q
        · exact List.mem_append.2 (.inl (hq h0))
      obtain ⟨X, last, e, h1, h2, h3, h4⟩ := cut_app r (stepF st b) (cur ++ [b]) (stepF_le hs) hq2
      exact ⟨X, last, e, h1, h2, by rw [cutGo_next hs h]; exact h3, fun t => by rw [List.cons_append, cutGo_next hs h]; exact h4 t⟩
theorem memG_head {w : UInt8} (hw : blankB w = true) : ∀ (s : Str) (st : Nat) (cur : Str), st ≤ 2 → memG (cutGo 44 st (w :: cur) s) = memG (cutGo 44 st cur s)
  | [], st, cur, hs => by simp only [cutGo]; rw [memG_one, memG_one, trim_front _ hw]
  | b :: r, st, cur, hs => by
    by_cases h : st = 0 ∧ b = 44
    · obtain ⟨rfl, rfl⟩ := h
      have e0 : ∀ cur t, cutGo 44 0 cur (44 :: t) = cur :: cutGo 44 0 [] t := fun cur t => by rw [cutGo, if_neg (by decide), if_neg (by decide), if_neg (by decide), if_pos rfl]
      rw [e0, e0, memG_cons, memG_cons, trim_front _ hw]
    · rw [cutGo_next hs h, cutGo_next hs h, List.cons_append]
      exact memG_head hw r (stepF st b) (cur ++ [b]) (stepF_le hs)
theorem memG_tail {w : UInt8} (hw : blankB w = true) (h44 : w ≠ 44) (s : Str) : memG (cutF (s ++ [w]) 44) = memG (cutF s 44) := by
  unfold cutF
  obtain ⟨X, last, e, h1, h2, h3, h4⟩ := cut_app s 0 [] (by omega) (fun q => absurd rfl q)
  rw [h4, h3, cutGo_next h1 (fun q => h44 q.2), cutGo, memG_app, memG_app, memG_one, memG_one, trim_back _ hw]
theorem one34 {x : Str} (h : (34 : UInt8) ∈ x) : ¬ trim x = [] := fun e => absurd (trim_nil e 34 h) (by decide)
theorem cut_open {e : Nat} {last : Str} (h0 : e ≠ 0) (h1 : e ≤ 2) : cutGo 44 e last [44, 120] = [last ++ [44] ++ [120]] := by
  have : e = 1 ∨ e = 2 := by omega
  rcases this with rfl | rfl <;> simp [cutGo]
theorem memG_len1 {x : Str} (h : ¬ trim x = []) : memG [x] = [trim x] := by rw [memG_one, if_neg h]
/-- The premise of the law says that the first value does not end within quotes, and that it has fewer than 64 members. -/
theorem lines_closed {a : Str} (h : (splitF (a ++ [44, 120])).length = (splitF a).length + 1) : (memG (cutF a 44)).length ≤ 63 ∧ ∃ (X : List Str) (last : Str), cutF a 44 = X ++ [last] ∧ ∀ t, cutF (a ++ t) 44 = X ++ cutGo 44 0 last t := by
  obtain ⟨X, last, e, h1, h2, h3, h4⟩ := cut_app a 0 [] (by omega) (fun q => absurd rfl q)
  have e1 : cutF a 44 = X ++ [last] := h3
  have e2 : cutF (a ++ [44, 120]) 44 = X ++ cutGo 44 e last [44, 120] := h4 _
  unfold splitF at h
  rw [e2, e1] at h
  by_cases h0 : e = 0
  · subst h0
    have e3 : cutGo 44 0 last [44, 120] = [last] ++ [[120]] := by simp [cutGo]
    rw [e3, ← List.append_assoc, memG_app (X ++ [last]), memG_len1 (x := [120]) (by decide +kernel), List.length_take, List.length_take, List.length_append, List.length_singleton] at h
    refine ⟨by rw [e1]; omega, X, last, e1, fun t => h4 t⟩
  · rw [cut_open h0 h1, memG_app, memG_app, memG_len1 (one34 (h2 h0)), memG_len1 (one34 (by have := h2 h0; simp [this])), List.length_take, List.length_take, List.length_append, List.length_append, List.length_singleton, List.length_singleton] at h
    omega
theorem lines_split {a b : Str} (h : (splitF (a ++ [44, 120])).length = (splitF a).length + 1) : memG (cutF ((([32] ++ a) ++ [32, 44, 9]) ++ b ++ [9]) 44) = memG (cutF a 44) ++ memG (cutF b 44) := by
  obtain ⟨_, X, last, h3, h4⟩ := lines_closed h
  have e1 : ((([32] ++ a) ++ [32, 44, 9]) ++ b ++ [9] : Str) = (32 :: (a ++ (32 :: 44 :: 9 :: b))) ++ [9] := by simp
  rw [e1, memG_tail (by decide) (by decide)]
  have e2 : cutF (32 :: (a ++ (32 :: 44 :: 9 :: b))) 44 = cutGo 44 0 [32] (a ++ (32 :: 44 :: 9 :: b)) := by
    unfold cutF; rw [cutGo_next (by omega) (by decide)]; rfl
  rw [e2, memG_head (by decide) _ _ _ (by omega)]
  have e3 : cutGo 44 0 [] (a ++ (32 :: 44 :: 9 :: b)) = X ++ cutGo 44 0 last (32 :: 44 :: 9 :: b) := h4 _
  have e4 : cutGo 44 0 last (32 :: 44 :: 9 :: b) = (last ++ [32]) :: cutGo 44 0 [9] b := by
    rw [cutGo_next (by omega) (by decide), show stepF 0 32 = 0 from rfl, cutGo, if_neg (by decide), if_neg (by decide), if_neg (by decide), if_pos rfl, cutGo_next (by omega) (by decide)]; rfl
  rw [e3, e4, memG_app, h3, memG_app, List.append_assoc]
  congr 1
  rw [show (last ++ [32]) :: cutGo 44 0 [9] b = [last ++ [32]] ++ cutGo 44 0 [9] b from rfl, memG_app, memG_one, memG_one, trim_back _ (by decide), memG_head (by decide) _ _ _ (by omega)]
  rfl
theorem take_take_app {α : Type} {X Y : List α} {n : Nat} (h : X.length ≤ n) : (X.take n ++ Y.take n).take n = (X ++ Y).take n := by
  rw [List.take_of_length_le h, List.take_append, List.take_append, List.take_take, Nat.min_eq_left (by omega)]
theorem nameK_ne {kind : Int} (h1 : 1 ≤ kind) (h4 : kind ≤ 4) : nameK kind ≠ [] := by
  have : kind = 1 ∨ kind = 2 ∨ kind = 3 ∨ kind = 4 := by omega
  rcases this with rfl | rfl | rfl | rfl <;> decide
theorem prefs_of {kind : Int} {l : List Fld} (h1 : 1 ≤ kind) (h4 : kind ≤ 4) (h : 0 < (getF l (nameK kind)).length) : prefsF kind l = (prefsM kind (allF l (nameK kind)), true) := by
  unfold prefsF
  rw [decide_eq_false (nameK_ne h1 h4), decide_eq_true h]; rfl
theorem lines_law {kind : Int} {a b : Str} (h1 : 1 ≤ kind) (h4 : kind ≤ 4) (h : (splitF (a ++ [44, 120])).length = (splitF a).length + 1) :
    prefsF kind [(nameK kind, a), (lower (nameK kind), b)] = (prefsM kind ((memG (cutF a 44) ++ memG (cutF b 44)).take 64), true)
    ∧ prefsF kind [(nameK kind, (([32] ++ a) ++ [32, 44, 9]) ++ b ++ [9])] = (prefsM kind ((memG (cutF a 44) ++ memG (cutF b 44)).take 64), true) := by
  have g1 : getF [(nameK kind, a), (lower (nameK kind), b)] (nameK kind) = [a, b] := by
    rw [getF_cons, getF_cons, fold_self, fold_iff.2 (lower_idem _)]; rfl
  have g2 : ∀ v, getF [(nameK kind, v)] (nameK kind) = [v] := fun v => by rw [getF_cons, fold_self]; rfl
  refine ⟨?_, ?_⟩
  · rw [prefs_of h1 h4 (by rw [g1]; simp)]
    unfold allF allV
    rw [g1]
    have : ([a, b] : List Str).flatMap splitF = (memG (cutF a 44)).take 64 ++ (memG (cutF b 44)).take 64 := by simp [splitF]
    rw [this, take_take_app (by have := (lines_closed h).1; omega)]
  · rw [prefs_of h1 h4 (by rw [g2]; simp)]
    unfold allF allV
    rw [g2, List.flatMap_cons, List.flatMap_nil, List.append_nil]
    unfold splitF
    rw [lines_split h, List.take_take, Nat.min_self]
end Go.Plain
