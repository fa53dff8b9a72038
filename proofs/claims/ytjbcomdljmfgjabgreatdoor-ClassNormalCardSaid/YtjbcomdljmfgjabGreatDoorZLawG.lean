/-
  Plain laws: values as ranges. The text of a value, written into a field with its quality, is read as this value. No program in sight.
-/
import Derived.Test.YtjbcomdljmfgjabGreatDoorZLawF
import Derived.Test.YtjbcomdljmfgjabGreatDoorZLawC
namespace Go.Plain
open Go Go.Sep
set_option linter.unusedSimpArgs false
set_option linter.unusedVariables false

/-! ### Texts that are closed between signs -/
def WholeC (c : UInt8) (m : Str) : Prop := ∀ cur r, cutGo c 0 cur (m ++ r) = cutGo c 0 (cur ++ m) r
theorem WholeC.app {c : UInt8} {a b : Str} (ha : WholeC c a) (hb : WholeC c b) : WholeC c (a ++ b) := fun cur r => by rw [List.append_assoc, ha, hb, List.append_assoc]
theorem cleanC {c : UInt8} {a : Str} (h : ∀ x ∈ a, x ≠ 34 ∧ x ≠ c) : WholeC c a := fun cur r => cut_run a cur r h
theorem unq_scan {c : UInt8} : ∀ (t acc u : Str), unqGo acc t = some u → ∀ cur r, cutGo c 1 cur (t ++ 34 :: r) = cutGo c 0 (cur ++ t ++ [34]) r
  | [], acc, u, _, cur, r => by rw [List.nil_append, cutGo, if_neg (by decide), if_pos rfl, if_neg (by decide), if_pos rfl]; simp
  | [b], acc, u, h, cur, r => by
    rw [unqGo] at h
    by_cases h1 : b = 34
    · rw [if_pos h1] at h; cases h
    · rw [if_neg h1] at h
      by_cases h2 : b = 92
      · rw [if_pos h2] at h; cases h
      · rw [List.cons_append, cutGo, if_neg (by decide), if_pos rfl, if_neg h2, if_neg h1]
        have := unq_scan (c := c) [] [] [] rfl (cur ++ [b]) r
        simpa using this
  | b :: x :: r', acc, u, h, cur, r => by
    rw [unqGo] at h
    by_cases h1 : b = 34
    · rw [if_pos h1] at h; cases h
    · rw [if_neg h1] at h
      by_cases h2 : b = 92
      · rw [if_pos h2] at h
        by_cases h3 : textB x = true
        · rw [if_pos h3] at h
          have ih := unq_scan (c := c) r' _ u h (cur ++ [b] ++ [x]) r
          rw [List.cons_append, List.cons_append, cutGo, if_neg (by decide), if_pos rfl, if_pos h2, cutGo, if_pos rfl, ih]; simp
        · rw [if_neg h3] at h; cases h
      · rw [if_neg h2] at h
        by_cases h3 : textB b = true
        · rw [if_pos h3] at h
          have ih := unq_scan (c := c) (x :: r') _ u h (cur ++ [b]) r
          rw [List.cons_append, cutGo, if_neg (by decide), if_pos rfl, if_neg h2, if_neg h1, ih]; simp
        · rw [if_neg h3] at h; cases h
theorem quoted_whole {c : UInt8} {s : Str} (h : (unq s).2 = true) : WholeC c s := by
  unfold unq at h
  split at h
  · rename_i hc
    obtain ⟨hl, h0, h1⟩ := hc
    obtain ⟨x, t, rfl⟩ : ∃ x t, s = x :: t := by
      cases s with
      | nil => simp at hl
      | cons x t => exact ⟨x, t, rfl⟩
    obtain ⟨m, z, rfl⟩ : ∃ m z, t = m ++ [z] := by
      have ht : t ≠ [] := fun e => by subst e; simp at hl
      exact ⟨t.dropLast, t.getLast ht, (List.dropLast_concat_getLast ht).symm⟩
    have e0 : x = 34 := h0
    have e1 : z = 34 := by
      have := getD_last (x :: m) z
      rw [List.cons_append] at this
      rw [this] at h1; exact h1
    subst e0 e1
    have hin : inner (34 :: (m ++ [34])) = m := inner_wrap 34 34 m
    simp only [hin] at h
    obtain ⟨u, hu⟩ := Option.isSome_iff_exists.1 h
    intro cur r
    have := unq_scan (c := c) m [] u hu (cur ++ [34]) r
    rw [List.cons_append, cutGo, if_neg (by decide), if_neg (by decide), if_pos rfl, List.append_assoc, List.singleton_append, this]
    simp
  · cases h
theorem one_whole {c : UInt8} (hc : tokB c = false) (h61 : c ≠ 61) {x : Str} (h : (oneP x).2.2 = true) : WholeC c x := by
  by_cases hp : pos x 61 < x.length
  · by_cases ht : token (x.take (pos x 61)) = true
    · have e : x = x.take (pos x 61) ++ ([61] ++ x.drop (pos x 61 + 1)) := by
        conv => lhs; rw [← List.take_append_drop (pos x 61) x, drop_step (dd := 0) hp, pos_get hp]
        rfl
      have h1 : WholeC c (x.take (pos x 61)) := cleanC fun y hy => ⟨token_no ht (by decide) y hy, token_no ht hc y hy⟩
      have h2 : WholeC c [61] := cleanC fun y hy => by rw [List.mem_singleton.1 hy]; exact ⟨by decide, fun e => h61 e.symm⟩
      have h3 : WholeC c (x.drop (pos x 61 + 1)) := by
        cases hv : token (x.drop (pos x 61 + 1)) with
        | true => exact cleanC fun y hy => ⟨token_no hv (by decide) y hy, token_no hv hc y hy⟩
        | false => rw [one_unq hp ht hv] at h; exact quoted_whole h
      rw [e]; exact h1.app (h2.app h3)
    · rw [one_bad (by simpa using ht)] at h; cases h
  · rw [one_no hp] at h; cases h
theorem blank_no (c : UInt8) (h : blankB c = true) : c ≠ 34 ∧ c ≠ 44 ∧ c ≠ 59 := by
  have := all_u8 (fun c => !blankB c || (decide (c ≠ 34) && decide (c ≠ 44) && decide (c ≠ 59))) (by decide +kernel) c
  rw [h] at this
  simpa [and_assoc] using this
theorem trim_parts (s : Str) : ∃ a b, (∀ x ∈ a, blankB x = true) ∧ (∀ x ∈ b, blankB x = true) ∧ s = a ++ trim s ++ b := by
  obtain ⟨r, e, hr, _⟩ := split_right (p := blankB) s
  refine ⟨(trimR blankB s).takeWhile blankB, r, fun x hx => List.all_eq_true.1 List.all_takeWhile x hx, fun x hx => List.all_eq_true.1 hr x hx, ?_⟩
  conv => lhs; rw [e]
  congr 1
  unfold trim trimL
  exact (List.takeWhile_append_dropWhile).symm
theorem parts_whole {c : UInt8} (hc : c = 44 ∨ c = 59) {p : Str} (h : WholeC c (trim p)) : WholeC c p := by
  obtain ⟨a, b, ha, hb, e⟩ := trim_parts p
  have cl : ∀ z : Str, (∀ x ∈ z, blankB x = true) → WholeC c z := fun z hz => cleanC fun x hx => by
    have := blank_no x (hz x hx)
    rcases hc with rfl | rfl
    · exact ⟨this.1, this.2.1⟩
    · exact ⟨this.1, this.2.2⟩
  rw [e]
  exact ((cl a ha).app h).app (cl b hb)
theorem nilC {c : UInt8} : WholeC c [] := fun cur r => by simp
theorem parsGo_all : ∀ (L : List Str) (acc l : List Prm), parsGo acc L = some l → ∀ p ∈ L, trim p = [] ∨ (oneP (trim p)).2.2 = true
  | [], _, _, _, p, hp => by cases hp
  | q :: L, acc, l, h, p, hp => by
    rw [parsGo] at h
    by_cases h1 : trim q = []
    · rw [if_pos h1] at h
      rcases List.mem_cons.1 hp with rfl | hp
      · exact .inl h1
      · exact parsGo_all L acc l h p hp
    · rw [if_neg h1] at h
      by_cases h2 : (oneP (trim q)).2.2 = true
      · rw [if_pos h2] at h
        rcases List.mem_cons.1 hp with rfl | hp
        · exact .inr h2
        · exact parsGo_all L _ l h p hp
      · rw [if_neg h2] at h; cases h
theorem parsGo_app : ∀ (L : List Str) (acc l : List Prm) (u : Str), parsGo acc L = some l → parsGo acc (L ++ [u]) = parsGo l [u]
  | [], acc, l, u, h => by rw [parsGo] at h; cases h; rfl
  | q :: L, acc, l, u, h => by
    rw [parsGo] at h
    rw [List.cons_append, parsGo]
    by_cases h1 : trim q = []
    · rw [if_pos h1] at h ⊢; exact parsGo_app L acc l u h
    · rw [if_neg h1] at h ⊢
      by_cases h2 : (oneP (trim q)).2.2 = true
      · rw [if_pos h2] at h ⊢; exact parsGo_app L _ l u h
      · rw [if_neg h2] at h; cases h
/-! ### Pieces and the text they are pieces of -/
theorem cutGo_parts {c : UInt8} : ∀ (s : Str) (st : Nat) (cur : Str), ∃ ps last, cutGo c st cur s = ps ++ [last] ∧ cur ++ s = ps.flatMap (· ++ [c]) ++ last
  | [], st, cur => ⟨[], cur, rfl, by simp⟩
  | b :: r, st, cur => by
    have keep : ∀ st', ∃ ps last, cutGo c st' (cur ++ [b]) r = ps ++ [last] ∧ cur ++ b :: r = ps.flatMap (· ++ [c]) ++ last := fun st' => by
      obtain ⟨ps, last, e1, e2⟩ := cutGo_parts r st' (cur ++ [b])
      exact ⟨ps, last, e1, by rw [← e2]; simp⟩
    rw [cutGo]
    split
    · exact keep 1
    · split
      · split
        · exact keep 2
        · split
          · exact keep 0
          · exact keep 1
      · split
        · exact keep 1
        · split
          · rename_i hb
            obtain ⟨ps, last, e1, e2⟩ := cutGo_parts (c := c) r 0 []
            refine ⟨cur :: ps, last, by rw [e1]; rfl, ?_⟩
            rw [List.nil_append] at e2
            rw [List.flatMap_cons, e2, hb]; simp
          · exact keep 0
theorem cut_pieces : ∀ (ps : List Str) (last t : Str), (∀ p ∈ ps, WholeC 59 p) → WholeC 59 last → cutGo 59 0 [] (ps.flatMap (· ++ [59]) ++ last ++ t) = ps ++ cutGo 59 0 last t
  | [], last, t, _, hl => by rw [List.flatMap_nil, List.nil_append, hl]; rfl
  | p :: ps, last, t, h, hl => by
    have ih := cut_pieces ps last t (fun q hq => h q (by simp [hq])) hl
    have e : (p :: ps).flatMap (· ++ [59]) ++ last ++ t = p ++ 59 :: (ps.flatMap (· ++ [59]) ++ last ++ t) := by simp
    rw [e, h p (by simp), List.nil_append, cut_sep1, ih]; rfl
theorem flat_whole {c : UInt8} (h59 : c ≠ 59) : ∀ (ps : List Str) (last : Str), (∀ p ∈ ps, WholeC c p) → WholeC c last → WholeC c (ps.flatMap (· ++ [59]) ++ last)
  | [], last, _, hl => by simpa using hl
  | p :: ps, last, h, hl => by
    have ih := flat_whole h59 ps last (fun q hq => h q (by simp [hq])) hl
    have e : (p :: ps).flatMap (· ++ [59]) ++ last = p ++ ([59] ++ (ps.flatMap (· ++ [59]) ++ last)) := by simp
    rw [e]
    exact (h p (by simp)).app ((cleanC fun x hx => by rw [List.mem_singleton.1 hx]; exact ⟨by decide, fun e => h59 e.symm⟩).app ih)
/-! ### Values -/
structure ValP (v : Str) : Prop where
  ok : (parseP v).2.2 = true
  head : ∀ x ∈ (parseP v).1, x ≠ 34 ∧ x ≠ 44 ∧ x ≠ 59
  noq : ∀ q ∈ (parseP v).2.1, q.1 ≠ qName
theorem parse_inv {v : Str} (h : (parseP v).2.2 = true) : ¬ trim ((cutF v 59).getD 0 []) = [] ∧ (parseP v).1 = trim ((cutF v 59).getD 0 []) ∧ parsGo [] ((cutF v 59).drop 1) = some (parseP v).2.1 := by
  by_cases h1 : trim ((cutF v 59).getD 0 []) = []
  · rw [parse_blank h1] at h; cases h
  · cases e : parsGo [] ((cutF v 59).drop 1) with
    | none => rw [parse_none h1 e] at h; cases h
    | some l => rw [parse_some h1 e]; exact ⟨h1, rfl, rfl⟩
theorem val_pieces {c : UInt8} (hc : c = 44 ∨ c = 59) {v : Str} (h : ValP v) : ∀ p ∈ cutF v 59, WholeC c p := fun p hp => by
  obtain ⟨h1, h2, h3⟩ := parse_inv h.ok
  refine parts_whole hc ?_
  have htok : tokB c = false := by rcases hc with rfl | rfl <;> decide
  have h61 : c ≠ 61 := by rcases hc with rfl | rfl <;> decide
  obtain ⟨p0, L, e⟩ : ∃ p0 L, cutF v 59 = p0 :: L := by
    cases hcv : cutF v 59 with
    | nil => rw [hcv] at hp; cases hp
    | cons p0 L => exact ⟨p0, L, rfl⟩
  rw [e] at hp h2 h3
  rcases List.mem_cons.1 hp with rfl | hp
  · have h2' : (parseP v).1 = trim p := h2
    rw [← h2']
    exact cleanC fun x hx => by
      have := h.head x hx
      rcases hc with rfl | rfl
      · exact ⟨this.1, this.2.1⟩
      · exact ⟨this.1, this.2.2⟩
  · rcases parsGo_all L [] _ h3 p hp with q | q
    · rw [q]; exact nilC
    · exact one_whole htok h61 q
theorem val_parts {v : Str} (h : ValP v) : ∃ ps last, cutF v 59 = ps ++ [last] ∧ v = ps.flatMap (· ++ [59]) ++ last ∧ ∀ t, cutF (v ++ t) 59 = ps ++ cutGo 59 0 last t := by
  obtain ⟨ps, last, e1, e2⟩ := cutGo_parts (c := 59) v 0 []
  rw [List.nil_append] at e2
  have hw := val_pieces (.inr rfl) h
  have e1' : cutF v 59 = ps ++ [last] := e1
  refine ⟨ps, last, e1', e2, fun t => ?_⟩
  unfold cutF
  conv => lhs; rw [e2]
  exact cut_pieces ps last t (fun p hp => hw p (by rw [e1']; simp [hp])) (hw last (by rw [e1']; simp))
theorem val_whole {v : Str} (h : ValP v) : Whole v := by
  obtain ⟨ps, last, e1, e2, _⟩ := val_parts h
  have hw := val_pieces (.inl rfl) h
  rw [e2]
  exact flat_whole (c := 44) (by decide) ps last (fun p hp => hw p (by rw [e1]; simp [hp])) (hw last (by rw [e1]; simp))
theorem mem_q {v : Str} {n : Nat} (hk : ¬ (n : Int) = 1000) : memP (v, (n : Int)) = v ++ 59 :: ([113, 61] ++ fmtQ (n : Int)) := by
  unfold memP; rw [if_neg hk]; rfl
theorem q_text {n : Nat} (hn : n ≤ 1000) (hk : ¬ (n : Int) = 1000) : token (fmtQ (n : Int)) = true := q_token hn (fun e => hk (by rw [e]; rfl))
theorem val_q {v : Str} {n : Nat} (h : ValP v) (hn : n ≤ 1000) : parseP (memP (v, (n : Int))) = ((parseP v).1, (parseP v).2.1 ++ extra (n : Int), true) := by
  obtain ⟨h1, h2, h3⟩ := parse_inv h.ok
  by_cases hk : (n : Int) = 1000
  · have e : memP (v, (n : Int)) = v := by unfold memP; rw [if_pos hk]
    have ex : extra (n : Int) = [] := if_pos hk
    rw [e, ex, List.append_nil, parse_some h1 h3]
  · have ht := q_text hn hk
    have ex : extra (n : Int) = [(qName, fmtQ (n : Int))] := if_neg hk
    obtain ⟨ps, last, e1, _, e3⟩ := val_parts h
    have hcl : ∀ x ∈ [113, 61] ++ fmtQ (n : Int), x ≠ 34 ∧ x ≠ 59 := fun x hx => by
      rcases List.mem_append.1 hx with hx | hx
      · simp at hx; rcases hx with rfl | rfl <;> decide
      · exact tok_clean ht x hx
    have hcut : cutF (memP (v, (n : Int))) 59 = cutF v 59 ++ [[113, 61] ++ fmtQ (n : Int)] := by
      rw [mem_q hk, e3, cut_sep1, e1]
      have := cut_run (c := 59) ([113, 61] ++ fmtQ (n : Int)) [] [] hcl
      rw [List.append_nil, List.nil_append] at this
      rw [this]; simp [cutGo]
    have hne : cutF v 59 ≠ [] := by rw [e1]; simp
    obtain ⟨p0, L, e⟩ : ∃ p0 L, cutF v 59 = p0 :: L := by
      cases hcv : cutF v 59 with
      | nil => exact absurd hcv hne
      | cons p0 L => exact ⟨p0, L, rfl⟩
    have hg : Good (qName, fmtQ (n : Int)) := extra_good hn _ (by rw [ex]; simp)
    have hpc : pieceP (qName, fmtQ (n : Int)) = [113, 61] ++ fmtQ (n : Int) := by unfold pieceP wr; rw [if_pos ht]; rfl
    have hgo : parsGo (parseP v).2.1 [[113, 61] ++ fmtQ (n : Int)] = some ((parseP v).2.1 ++ [(qName, fmtQ (n : Int))]) := by
      have := pars_good [(qName, fmtQ (n : Int))] (parseP v).2.1 (fun p hp => by rw [List.mem_singleton.1 hp]; exact hg)
      rw [List.map_cons, List.map_nil, hpc] at this
      exact this
    rw [e] at hcut h3 h1 h2
    have h3' : parsGo [] ((cutF (memP (v, (n : Int))) 59).drop 1) = some ((parseP v).2.1 ++ [(qName, fmtQ (n : Int))]) := by
      rw [hcut]
      show parsGo [] (L ++ [[113, 61] ++ fmtQ (n : Int)]) = _
      rw [parsGo_app L [] _ _ h3, hgo]
    have h1' : ¬ trim ((cutF (memP (v, (n : Int))) 59).getD 0 []) = [] := by rw [hcut]; exact h1
    rw [parse_some h1' h3', ex]
    have h2' : trim ((cutF (memP (v, (n : Int))) 59).getD 0 []) = (parseP v).1 := by rw [hcut, h2]; rfl
    rw [h2']
theorem val_pref {kind : Int} {v : Str} {n : Nat} (h : ValP v) (hn : n ≤ 1000) : prefF kind (memP (v, (n : Int))) = (((rangedF kind (parseP v).1 (parseP v).2.1).1, (n : Int)), (rangedF kind (parseP v).1 (parseP v).2.1).2) := by
  have hp := val_q h hn
  generalize (parseP v).1 = v0 at hp ⊢
  have hq := h.noq
  generalize (parseP v).2.1 = ps at hp hq ⊢
  generalize hs : memP (v, (n : Int)) = s at hp ⊢
  by_cases hk : (n : Int) = 1000
  · have ex : extra (n : Int) = [] := if_pos hk
    rw [ex, List.append_nil] at hp
    have := pref_plain (kind := kind) (s := s) (by rw [hp]; simp) (by rw [hp]; simp only; rw [qAt_none hq]; omega)
    rw [this, hp, hk]
  · have ex : extra (n : Int) = [(qName, fmtQ (n : Int))] := if_neg hk
    rw [ex] at hp
    have hqa : qAt (parseP s).2.1 = ps.length := by rw [hp]; exact qAt_app hq
    have hlt : qAt (parseP s).2.1 < (parseP s).2.1.length := by rw [hqa, hp]; simp
    have hget : (parseP s).2.1.getD (qAt (parseP s).2.1) ([], []) = (qName, fmtQ (n : Int)) := by rw [hqa, hp]; simp
    have hpq : parseQ (fmtQ (n : Int)) = (n, true) := q_back hn
    have := pref_q (kind := kind) (s := s) (by rw [hp]; simp) hlt (by rw [hget]; simp only; rw [hpq]; simp)
    rw [this, hget, hqa, hp]
    simp only [hpq, List.take_left']
theorem val_member {v : Str} {n : Nat} (h : ValP v) (hn : n ≤ 1000) : Whole (memP (v, (n : Int))) ∧ ¬ trim (memP (v, (n : Int))) = [] := by
  constructor
  · by_cases hk : (n : Int) = 1000
    · have e : memP (v, (n : Int)) = v := by unfold memP; rw [if_pos hk]
      rw [e]; exact val_whole h
    · rw [mem_q hk]
      have ht := q_text hn hk
      have e : v ++ 59 :: ([113, 61] ++ fmtQ (n : Int)) = v ++ ([59, 113, 61] ++ fmtQ (n : Int)) := rfl
      rw [e]
      refine (val_whole h).app (clean_whole fun x hx => ?_)
      rcases List.mem_append.1 hx with hx | hx
      · simp at hx; rcases hx with rfl | rfl | rfl <;> decide
      · exact tok_clean44 ht x hx
  · intro e
    have h9 := val_q h hn
    have hb := trim_nil e
    have hc : cutF (memP (v, (n : Int))) 59 = [memP (v, (n : Int))] := by
      have := cut_run (c := 59) (memP (v, (n : Int))) [] [] (fun x hx => by have := blank_no x (hb x hx); exact ⟨this.1, this.2.2⟩)
      rw [List.append_nil, List.nil_append] at this
      unfold cutF; rw [this]; simp [cutGo]
    rw [parse_blank (by rw [hc]; exact e)] at h9
    have h8 := congrArg (fun t : Str × List Prm × Bool => t.2.2) h9
    cases h8
/-! ### Blanks around a member -/
theorem cut_front {w : UInt8} (hw : blankB w = true) {c : UInt8} : ∀ (s : Str) (st : Nat) (cur : Str), (cutGo c st (w :: cur) s).map trim = (cutGo c st cur s).map trim
  | [], st, cur => by rw [cutGo, cutGo]; simp only [List.map_cons, List.map_nil, trim_front cur hw]
  | b :: s, st, cur => by
    have e : (w :: cur) ++ [b] = w :: (cur ++ [b]) := rfl
    rw [cutGo, cutGo]
    split
    · rw [e]; exact cut_front hw s 1 _
    · split
      · split
        · rw [e]; exact cut_front hw s 2 _
        · split
          · rw [e]; exact cut_front hw s 0 _
          · rw [e]; exact cut_front hw s 1 _
      · split
        · rw [e]; exact cut_front hw s 1 _
        · split
          · rw [List.map_cons, List.map_cons, trim_front cur hw]
          · rw [e]; exact cut_front hw s 0 _
theorem cut_back {w : UInt8} (hw : blankB w = true) {c : UInt8} (hc : w ≠ c) : ∀ (s : Str) (st : Nat) (cur : Str), (cutGo c st cur (s ++ [w])).map trim = (cutGo c st cur s).map trim
  | [], st, cur => by
    have hn := blank_no w hw
    have h92 : w ≠ 92 := fun e => by subst e; exact absurd hw (by decide)
    have e : cutGo c st cur ([] ++ [w]) = [cur ++ [w]] := by
      rw [List.nil_append, cutGo]
      (repeat' split) <;> first | rfl | exact absurd (by assumption) h92 | exact absurd (by assumption) hn.1 | exact absurd (by assumption) hc
    rw [e, cutGo]
    simp only [List.map_cons, List.map_nil, trim_back cur hw]
  | b :: s, st, cur => by
    rw [List.cons_append, cutGo, cutGo]
    split
    · exact cut_back hw hc s 1 _
    · split
      · split
        · exact cut_back hw hc s 2 _
        · split
          · exact cut_back hw hc s 0 _
          · exact cut_back hw hc s 1 _
      · split
        · exact cut_back hw hc s 1 _
        · split
          · rw [List.map_cons, List.map_cons, cut_back hw hc s 0 []]
          · exact cut_back hw hc s 0 _
theorem cut_blanks : ∀ (a t : Str), (∀ x ∈ a, blankB x = true) → (cutF (a ++ t) 59).map trim = (cutF t 59).map trim
  | [], t, _ => rfl
  | w :: a, t, h => by
    have hw := h w (by simp)
    have hn := blank_no w hw
    have e : cutF (w :: a ++ t) 59 = cutGo 59 0 [w] (a ++ t) := by
      unfold cutF
      rw [List.cons_append, cutGo, if_neg (by decide), if_neg (by decide), if_neg hn.1, if_neg hn.2.2]; rfl
    rw [e, cut_front hw]
    exact cut_blanks a t (fun x hx => h x (by simp [hx]))
theorem cut_blanks2 (t : Str) : ∀ (b : Str), (∀ x ∈ b, blankB x = true) → (cutF (t ++ b) 59).map trim = (cutF t 59).map trim := by
  intro b
  induction hb : b.length generalizing b with
  | zero => intro _; rw [List.length_eq_zero_iff.1 hb, List.append_nil]
  | succ n ih =>
    intro h
    rcases List.eq_nil_or_concat b with rfl | ⟨b', w, rfl⟩
    · simp at hb
    · rw [List.concat_eq_append] at hb h ⊢
      have hw := h w (by simp)
      rw [← List.append_assoc]
      unfold cutF
      rw [cut_back hw (blank_no w hw).2.2]
      exact ih b' (by simpa using hb) (fun x hx => h x (by simp [hx]))
theorem trim_twice (s : Str) : trim (trim s) = trim s := by
  obtain ⟨a, b, ha, hb, e⟩ := trim_parts s
  have hf : ∀ (a t : Str), (∀ x ∈ a, blankB x = true) → trim (a ++ t) = trim t := by
    intro a
    induction a with
    | nil => intro t _; rfl
    | cons w a ih => intro t h; rw [List.cons_append, trim_front _ (h w (by simp))]; exact ih t (fun x hx => h x (by simp [hx]))
  have hbk : ∀ (b t : Str), (∀ x ∈ b, blankB x = true) → trim (t ++ b) = trim t := by
    intro b
    induction b with
    | nil => intro t _; rw [List.append_nil]
    | cons w b ih =>
      intro t h
      have := ih (t ++ [w]) (fun x hx => h x (by simp [hx]))
      rw [List.append_assoc, List.singleton_append] at this
      rw [this, trim_back _ (h w (by simp))]
  have := hbk b (a ++ trim s) hb
  rw [← e, hf a _ ha] at this
  exact this.symm
theorem parsGo_trim : ∀ (L : List Str) (acc : List Prm), parsGo acc (L.map trim) = parsGo acc L
  | [], _ => rfl
  | p :: L, acc => by
    rw [List.map_cons, parsGo, parsGo, trim_twice]
    split
    · exact parsGo_trim L acc
    · split
      · exact parsGo_trim L _
      · rfl
theorem getD_trim (L : List Str) : trim (L.getD 0 []) = (L.map trim).getD 0 [] := by cases L <;> rfl
theorem parse_trims {s t : Str} (h : (cutF s 59).map trim = (cutF t 59).map trim) : parseP s = parseP t := by
  unfold parseP
  rw [getD_trim, getD_trim, ← parsGo_trim ((cutF s 59).drop 1), ← parsGo_trim ((cutF t 59).drop 1), List.map_drop, List.map_drop, h]
theorem parse_trim (s : Str) : parseP (trim s) = parseP s := by
  obtain ⟨a, b, ha, hb, e⟩ := trim_parts s
  refine parse_trims ?_
  conv => rhs; rw [e]
  rw [cut_blanks2 _ b hb, cut_blanks a _ ha]
theorem pref_trim (kind : Int) (s : Str) : prefF kind (trim s) = prefF kind s := by unfold prefF; rw [parse_trim]
theorem memG_all {X : List Str} (h : ∀ x ∈ X, ¬ trim x = []) : memG X = X.map trim := by
  unfold memG
  rw [List.filter_eq_self]
  intro x hx
  obtain ⟨y, hy, rfl⟩ := List.mem_map.1 hx
  unfold neB
  rw [decide_eq_false (h y hy)]; rfl
theorem split_trims {X : List Str} (hw : ∀ x ∈ X, Whole x) (hn : ∀ x ∈ X, ¬ trim x = []) (hl : X.length ≤ 64) : splitF (joinS [44, 32] X) = X.map trim := by
  cases X with
  | nil => rfl
  | cons x r =>
    have e : cutF (joinS [44, 32] (x :: r)) 44 = x :: r.map (fun y => 32 :: y) := by
      unfold cutF
      rw [joinS_flat, hw x (by simp), List.nil_append, cut_joined r x (fun y hy => hw y (by simp [hy]))]
    have e2 : (x :: r.map (fun y => 32 :: y)).map trim = (x :: r).map trim := by
      rw [List.map_cons, List.map_cons, List.map_map]
      congr 1
      exact List.map_congr_left fun y _ => trim_space y
    unfold splitF
    rw [e, memG_all, e2]
    · exact take_over (by rw [List.length_map]; exact hl)
    · intro y hy
      rcases List.mem_cons.1 hy with rfl | hy
      · exact hn y (by simp)
      · obtain ⟨z, hz, rfl⟩ := List.mem_map.1 hy
        rw [trim_space]; exact hn z (by simp [hz])
/-- A field that was written of values and their qualities. -/
theorem prefs_values {kind : Int} {E : List Prf} (hl : E.length ≤ 64) (h : ∀ p ∈ E, ValP p.1 ∧ (rangedF kind (parseP p.1).1 (parseP p.1).2.1).2 = true ∧ ∃ n : Nat, n ≤ 1000 ∧ p.2 = (n : Int)) :
    prefsM kind (splitF (fmtP E)) = E.map fun p => ((rangedF kind (parseP p.1).1 (parseP p.1).2.1).1, p.2) := by
  have hm : ∀ p ∈ E, (Whole (memP p) ∧ ¬ trim (memP p) = []) ∧ prefF kind (trim (memP p)) = (((rangedF kind (parseP p.1).1 (parseP p.1).2.1).1, p.2), true) := fun p hp => by
    obtain ⟨h1, h2, n, hn, e⟩ := h p hp
    have ep : p = (p.1, (n : Int)) := by rw [← e]
    have hv := val_pref (kind := kind) h1 hn
    have hmm := val_member h1 hn
    rw [← ep] at hv hmm
    exact ⟨hmm, by rw [pref_trim, hv, h2, e]⟩
  unfold fmtP
  rw [split_trims (fun x hx => by obtain ⟨p, hp, rfl⟩ := List.mem_map.1 hx; exact (hm p hp).1.1) (fun x hx => by obtain ⟨p, hp, rfl⟩ := List.mem_map.1 hx; exact (hm p hp).1.2) (by rw [List.length_map]; exact hl), List.map_map]
  clear hl h
  induction E with
  | nil => rfl
  | cons p E ih =>
    have ih' := ih (fun q hq => hm q (by simp [hq]))
    unfold prefsM at ih' ⊢
    rw [List.map_cons, List.map_cons, Function.comp_apply, (hm p (by simp)).2, List.filter_cons, if_pos rfl, List.map_cons, ih', List.map_cons]
end Go.Plain
