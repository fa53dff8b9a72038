/-
  Plain law: preferences, written as a field, are read back. No program in sight.
-/
import Derived.Test.YtikllmfjgpmcnaaDoorLaw13B
import Derived.Test.YtikllmfjgpmcnaaDoorLaw11B
import Derived.Test.YtikllmfjgpmcnaaDoorLaw08
namespace Go.Plain
open Go
set_option linter.unusedSimpArgs false
set_option linter.unusedVariables false

/-! ### Cutting at commas what was written -/
/-- A text that is one whole between commas. -/
def Whole (m : Str) : Prop := ∀ cur r, cutGo 44 0 cur (m ++ r) = cutGo 44 0 (cur ++ m) r
theorem Whole.app {a b : Str} (ha : Whole a) (hb : Whole b) : Whole (a ++ b) := fun cur r => by
  rw [List.append_assoc, ha, hb, List.append_assoc]
theorem Whole.nil : Whole [] := fun cur r => by simp
theorem clean_whole {a : Str} (h : ∀ x ∈ a, x ≠ 34 ∧ x ≠ 44) : Whole a := fun cur r => cut_run a cur r h
theorem quote_whole (s : Str) : Whole (quote s) := fun cur r => cut_quote_run s cur r
theorem tok_clean44 {s : Str} (h : token s = true) : ∀ x ∈ s, x ≠ 34 ∧ x ≠ 44 := fun x hx => ⟨token_no h (by decide) x hx, token_no h (by decide) x hx⟩
theorem wr_whole (v : Str) : Whole (wr v) := by
  unfold wr
  split
  · rename_i h; exact clean_whole (tok_clean44 h)
  · exact quote_whole v
theorem piece_whole {p : Prm} (h : token p.1 = true) : Whole (pieceP p) := by
  unfold pieceP
  have e : p.1 ++ 61 :: wr p.2 = p.1 ++ ([61] ++ wr p.2) := rfl
  rw [e]
  exact (clean_whole (tok_clean44 h)).app ((clean_whole (by decide)).app (wr_whole p.2))
theorem format_whole {v : Str} (hv : ∀ x ∈ v, x ≠ 34 ∧ x ≠ 44) : ∀ {l : List Prm}, (∀ p ∈ l, token p.1 = true) → Whole (formatP v l) := by
  intro l hl
  unfold formatP
  refine (clean_whole hv).app ?_
  induction l with
  | nil => exact Whole.nil
  | cons p l ih =>
    rw [List.flatMap_cons]
    have e : (59 :: pieceP p) = [59] ++ pieceP p := rfl
    rw [e]
    exact ((clean_whole (by decide)).app (piece_whole (hl p (by simp)))).app (ih (fun q hq => hl q (by simp [hq])))
theorem format_firm {v : Str} (hv : Firm v) : ∀ {l : List Prm}, (∀ p ∈ l, token p.1 = true) → Firm (formatP v l) := by
  intro l hl
  unfold formatP
  rcases List.eq_nil_or_concat l with rfl | ⟨l', p, rfl⟩
  · simpa using hv
  · rw [List.concat_eq_append, List.flatMap_append, List.flatMap_singleton]
    have := hv.append (w := l'.flatMap (fun p => 59 :: pieceP p) ++ [59]) (piece_firm (hl p (by simp)))
    simpa using this
theorem joinS_flat (sep x : Str) : ∀ (r : List Str), joinS sep (x :: r) = x ++ r.flatMap (fun y => sep ++ y) := by
  intro r
  unfold joinS
  simp only
  induction r generalizing x with
  | nil => simp
  | cons y r ih => rw [List.foldl_cons, ih, List.flatMap_cons]; simp
theorem cut_joined : ∀ (r : List Str) (cur : Str), (∀ y ∈ r, Whole y) → cutGo 44 0 cur (r.flatMap (fun y => [44, 32] ++ y)) = cur :: r.map (fun y => 32 :: y)
  | [], cur, _ => by simp [cutGo]
  | y :: r, cur, h => by
    have e0 : ∀ t, cutGo 44 0 cur (44 :: t) = cur :: cutGo 44 0 [] t := fun t => by rw [cutGo, if_neg (by decide), if_neg (by decide), if_neg (by decide), if_pos rfl]
    rw [List.flatMap_cons, List.cons_append, List.cons_append, List.cons_append, e0]
    have hw : Whole (32 :: y) := by
      have e : (32 :: y) = [32] ++ y := rfl
      rw [e]; exact (clean_whole (by decide)).app (h y (by simp))
    have := hw [] (r.flatMap (fun y => [44, 32] ++ y))
    simp only [List.nil_append, List.cons_append] at this ⊢
    rw [this]
    have ih := cut_joined r (32 :: y) (fun z hz => h z (by simp [hz]))
    simp only [List.nil_append, List.cons_append] at ih
    rw [ih]
    rfl
theorem memG_firm : ∀ {X : List Str}, (∀ x ∈ X, Firm x) → memG X = X
  | [], _ => rfl
  | x :: X, h => by rw [memG_cons, (h x (by simp)).trim, if_neg (h x (by simp)).ne, memG_firm (fun y hy => h y (by simp [hy]))]
theorem memG_space : ∀ {X : List Str}, (∀ x ∈ X, Firm x) → memG (X.map (fun y => 32 :: y)) = X
  | [], _ => rfl
  | x :: X, h => by rw [List.map_cons, memG_cons, trim_space, (h x (by simp)).trim, if_neg (h x (by simp)).ne, memG_space (fun y hy => h y (by simp [hy]))]
theorem split_join {X : List Str} (hw : ∀ x ∈ X, Whole x) (hf : ∀ x ∈ X, Firm x) (hl : X.length ≤ 64) : splitF (joinS [44, 32] X) = X := by
  cases X with
  | nil => rfl
  | cons x r =>
    have e : cutF (joinS [44, 32] (x :: r)) 44 = x :: r.map (fun y => 32 :: y) := by
      unfold cutF
      rw [joinS_flat, hw x (by simp), List.nil_append, cut_joined r x (fun y hy => hw y (by simp [hy]))]
    unfold splitF
    rw [e, memG_cons, (hf x (by simp)).trim, if_neg (hf x (by simp)).ne, memG_space (fun y hy => hf y (by simp [hy]))]
    exact take_over hl

/-! ### One preference -/
def qName : Str := [113]
def extra (q : Int) : List Prm := if q = 1000 then [] else [(qName, fmtQ q)]
theorem q_all : (List.range 1001).all (fun n => decide (parseQ (fmtQ (n : Int)) = (n, true)) && (decide (n = 1000) || token (fmtQ (n : Int)))) = true := by decide +kernel
theorem q_back {n : Nat} (h : n ≤ 1000) : parseQ (fmtQ (n : Int)) = (n, true) := by
  have := List.all_eq_true.1 q_all n (List.mem_range.2 (by omega))
  simp only [Bool.and_eq_true, decide_eq_true_eq] at this
  exact this.1
theorem q_token {n : Nat} (h : n ≤ 1000) (h2 : n ≠ 1000) : token (fmtQ (n : Int)) = true := by
  have := List.all_eq_true.1 q_all n (List.mem_range.2 (by omega))
  simp only [Bool.and_eq_true, Bool.or_eq_true, decide_eq_true_eq] at this
  exact this.2.resolve_left h2
/-- What can be read back. -/
structure OkP (kind : Int) (p : Prf) : Prop where
  ex : ∃ (v : Str) (ps : List Prm) (n : Nat), Firm v ∧ (∀ x ∈ v, x ≠ 34 ∧ x ≠ 59) ∧ (∀ x ∈ v, x ≠ 34 ∧ x ≠ 44) ∧ (∀ q ∈ ps, Good q) ∧ (∀ q ∈ ps, q.1 ≠ qName) ∧ p.1 = formatP v ps ∧ n ≤ 1000 ∧ p.2 = (n : Int) ∧ rangedF kind v ps = (p.1, true)
theorem memP_format {v : Str} {ps : List Prm} {n : Nat} (hn : n ≤ 1000) {p : Prf} (h1 : p.1 = formatP v ps) (h2 : p.2 = (n : Int)) : memP p = formatP v (ps ++ extra p.2) := by
  unfold memP extra
  split
  · rw [List.append_nil, h1]
  · rename_i h
    have e : (59 :: pieceP (qName, fmtQ (n : Int))) = [59, 113, 61] ++ fmtQ (n : Int) := by
      unfold pieceP wr
      rw [if_pos (q_token hn (by intro e; apply h; rw [h2, e]; rfl))]; rfl
    rw [h1, h2]
    unfold formatP
    rw [List.flatMap_append, List.flatMap_singleton, e]
    simp only [List.append_assoc]
theorem extra_good {n : Nat} (hn : n ≤ 1000) : ∀ q ∈ extra (n : Int), Good q := by
  intro q hq
  unfold extra at hq
  split at hq
  · simp at hq
  · rename_i h
    obtain rfl := List.mem_singleton.1 hq
    exact ⟨show token qName = true by decide, show lower qName = qName by decide, token_text (q_token hn (by intro e; apply h; rw [e]; rfl))⟩
theorem qAt_none {ps : List Prm} (h : ∀ q ∈ ps, q.1 ≠ qName) : qAt ps = ps.length := by
  unfold qAt
  rw [List.findIdx_eq_length]
  intro x hx
  exact decide_eq_false (h x hx)
theorem qAt_app {ps : List Prm} {x : Str} (h : ∀ q ∈ ps, q.1 ≠ qName) : qAt (ps ++ [(qName, x)]) = ps.length := by
  have e := qAt_none h
  unfold qAt at e ⊢
  rw [List.findIdx_append, e, if_neg (by omega)]
  simp [qName]
theorem pref_again {kind : Int} {p : Prf} (h : OkP kind p) : prefF kind (memP p) = (p, true) ∧ Whole (memP p) ∧ Firm (memP p) := by
  obtain ⟨v, ps, n, hf, hc, hc2, hg, hq, h1, hn, h2, hr⟩ := h.ex
  have e := memP_format hn h1 h2
  have hgood : ∀ q ∈ ps ++ extra p.2, Good q := fun q hx => by
    rcases List.mem_append.1 hx with hx | hx
    · exact hg q hx
    · rw [h2] at hx; exact extra_good hn q hx
  have hp : parseP (memP p) = (v, ps ++ extra p.2, true) := by rw [e]; exact parse_back hf hc hgood
  refine ⟨?_, by rw [e]; exact format_whole hc2 (fun q hx => (hgood q hx).1), by rw [e]; exact format_firm hf (fun q hx => (hgood q hx).1)⟩
  by_cases hk : p.2 = 1000
  · have ex : extra p.2 = [] := if_pos hk
    rw [ex, List.append_nil] at hp
    have := pref_plain (kind := kind) (s := memP p) (by rw [hp]; simp) (by rw [hp]; simp only; rw [qAt_none hq]; omega)
    rw [this, hp]
    simp only [hr]
    rw [← hk]
  · have ex : extra p.2 = [(qName, fmtQ p.2)] := if_neg hk
    rw [ex] at hp
    have hqa : qAt (parseP (memP p)).2.1 = ps.length := by rw [hp]; exact qAt_app hq
    have hlt : qAt (parseP (memP p)).2.1 < (parseP (memP p)).2.1.length := by rw [hqa, hp]; simp
    have hget : (parseP (memP p)).2.1.getD (qAt (parseP (memP p)).2.1) ([], []) = (qName, fmtQ p.2) := by rw [hqa, hp]; simp
    have hpq : parseQ (fmtQ p.2) = (n, true) := by rw [h2]; exact q_back hn
    have := pref_q (kind := kind) (s := memP p) (by rw [hp]; simp) hlt (by rw [hget]; simp only; rw [hpq]; simp)
    rw [this, hget, hqa, hp]
    simp only [hpq, List.take_left', hr, ← h2]
/-! ### What is read is such -/
theorem range_norm {V : Str} (h : (parseR V).2 = true) : Firm (((parseR V).1.1 ++ [47]) ++ (parseR V).1.2.1) ∧ (∀ x ∈ ((parseR V).1.1 ++ [47]) ++ (parseR V).1.2.1, x ≠ 34 ∧ x ≠ 59) ∧ (∀ x ∈ ((parseR V).1.1 ++ [47]) ++ (parseR V).1.2.1, x ≠ 34 ∧ x ≠ 44)
    ∧ parseR (((parseR V).1.1 ++ [47]) ++ (parseR V).1.2.1) = (((parseR V).1.1, (parseR V).1.2.1, []), true) := by
  have hc : (parseP V).2.2 = true ∧ okRange (parseP V).1 = true := by
    by_cases hc : (parseP V).2.2 = true ∧ okRange (parseP V).1 = true
    · exact hc
    · rw [parseR, if_neg hc] at h; cases h
  have e := parseR_yes hc.1 hc.2
  have hok := hc.2
  rw [e]
  generalize (parseP V).1 = v at hok ⊢
  unfold okRange at hok
  revert hok
  simp only
  generalize v.take (pos v 47) = a
  generalize v.drop (pos v 47 + 1) = b
  intro hok
  simp only [Bool.and_eq_true] at hok
  obtain ⟨⟨ha, hb⟩, hst⟩ := hok
  have hla : token (lower a) = true := by rw [token_lower]; exact ha
  have hlb : token (lower b) = true := by rw [token_lower]; exact hb
  have hv : Firm ((lower a ++ [47]) ++ lower b) := (token_firm hla).append (token_firm hlb)
  have hcl : ∀ x ∈ (lower a ++ [47]) ++ lower b, x ≠ 34 ∧ x ≠ 59 := fun x hx => by
    rcases List.mem_append.1 hx with hx | hx
    · rcases List.mem_append.1 hx with hx | hx
      · exact tok_clean hla x hx
      · obtain rfl := List.mem_singleton.1 hx; decide
    · exact tok_clean hlb x hx
  have hcl2 : ∀ x ∈ (lower a ++ [47]) ++ lower b, x ≠ 34 ∧ x ≠ 44 := fun x hx => by
    rcases List.mem_append.1 hx with hx | hx
    · rcases List.mem_append.1 hx with hx | hx
      · exact tok_clean44 hla x hx
      · obtain rfl := List.mem_singleton.1 hx; decide
    · exact tok_clean44 hlb x hx
  have hb2 : parseP ((lower a ++ [47]) ++ lower b) = ((lower a ++ [47]) ++ lower b, [], true) := by
    have := parse_back (l := []) hv hcl (by simp)
    simpa [formatP] using this
  have hpos : pos ((lower a ++ [47]) ++ lower b) 47 = (lower a).length := by
    have := pos_append (r := lower b) (token_no hla (c := 47) (by decide))
    simpa using this
  have ht : ((lower a ++ [47]) ++ lower b).take (pos ((lower a ++ [47]) ++ lower b) 47) = lower a := by rw [hpos]; simp
  have hd : ((lower a ++ [47]) ++ lower b).drop (pos ((lower a ++ [47]) ++ lower b) 47 + 1) = lower b := by rw [hpos, ← List.drop_drop]; simp
  have hok2 : okRange ((lower a ++ [47]) ++ lower b) = true := by
    unfold okRange
    have e1 : decide (lower a = [42]) = decide (a = [42]) := decide_eq_decide.2 (lower_eq_star a)
    have e2 : decide (lower b = [42]) = decide (b = [42]) := decide_eq_decide.2 (lower_eq_star b)
    rw [ht, hd, hla, hlb, e1, e2]
    simpa using hst
  refine ⟨hv, hcl, hcl2, ?_⟩
  rw [parseR_yes (by rw [hb2]) (by rw [hb2]; exact hok2), hb2]
  simp only
  rw [ht, hd, lower_idem, lower_idem]
def langB (c : UInt8) : Bool := (alphaB c || digB c) || decide (c = 45)
theorem sub_bytes {d : Bool} {m : Str} (h : subOk d m = true) : ∀ x ∈ m, langB x = true := fun x hx => by
  unfold subOk at h
  simp only [Bool.and_eq_true] at h
  have := List.all_eq_true.1 h.1.1 x hx
  unfold langB
  cases ha : alphaB x
  · rw [ha] at this; simp only [Bool.false_or, Bool.and_eq_true] at this; rw [this.2]; rfl
  · rfl
theorem tag_bytes {s : Str} (h : tagF s = true) : s ≠ [] ∧ ∀ x ∈ s, langB x = true := by
  have hb := subt_back s
  unfold tagF at h
  constructor
  · rintro rfl
    revert h
    decide
  · intro x hx
    have hx2 : x ∈ (subt s).flatMap (fun x => x ++ [45]) := by rw [hb]; simp [hx]
    obtain ⟨m, hm, hx3⟩ := List.mem_flatMap.1 hx2
    rcases List.mem_append.1 hx3 with hx3 | hx3
    · generalize subt s = X at h hm
      cases X with
      | nil => simp at hm
      | cons y r =>
        simp only [Bool.and_eq_true] at h
        rcases List.mem_cons.1 hm with rfl | hm
        · exact sub_bytes h.1 x hx3
        · exact sub_bytes (List.all_eq_true.1 h.2 m hm) x hx3
    · obtain rfl := List.mem_singleton.1 hx3; decide
theorem lang_fine (c : UInt8) (h : langB c = true) : blankB c = false ∧ c ≠ 34 ∧ c ≠ 59 ∧ c ≠ 44 := by
  have := all_u8 (fun c => !langB c || (!blankB c && decide (c ≠ 34) && decide (c ≠ 59) && decide (c ≠ 44))) (by decide +kernel) c
  rw [h] at this
  simpa [and_assoc] using this
theorem bytes_firm {s : Str} (h0 : s ≠ []) (h : ∀ x ∈ s, blankB x = false) : Firm s := by
  obtain ⟨x, m, h1, hx⟩ := first_of h0
  obtain ⟨m', z, h2, hz⟩ := last_of h0
  exact ⟨x, m, m', z, h1, h2, h x hx, h z hz⟩
theorem alpha_lower (c : UInt8) : alphaB (lowerB c) = alphaB c := by
  have := all_u8 (fun c => decide (alphaB (lowerB c) = alphaB c)) (by decide +kernel) c
  simpa using this
theorem dig_lower (c : UInt8) : digB (lowerB c) = digB c := by
  have := all_u8 (fun c => decide (digB (lowerB c) = digB c)) (by decide +kernel) c
  simpa using this
theorem sub_lower (d : Bool) (m : Str) : subOk d (lower m) = subOk d m := by
  unfold subOk
  rw [lower_length]
  have e1 : (lower m).all (fun c => alphaB c || (d && digB c)) = m.all (fun c => alphaB c || (d && digB c)) := by
    unfold lower
    rw [List.all_map]
    congr 1
    funext c
    simp [alpha_lower, dig_lower]
  have e2 : decide (lower m = []) = decide (m = []) := decide_eq_decide.2 (by unfold lower; simp)
  rw [e1, e2]
theorem tag_lower (s : Str) : tagF (lower s) = tagF s := by
  unfold tagF
  rw [subt_lower]
  cases subt s with
  | nil => rfl
  | cons x r =>
    simp only [List.map_cons, sub_lower, List.all_map]
    congr 2
    funext y
    exact sub_lower true y
theorem range_lower (s : Str) : rangeL (lower s) = rangeL s := by
  unfold rangeL
  rw [tag_lower, decide_eq_decide.2 (lower_eq_star s)]
theorem rangeL_fine {s : Str} (h : rangeL s = true) : s ≠ [] ∧ ∀ x ∈ s, blankB x = false ∧ x ≠ 34 ∧ x ≠ 59 ∧ x ≠ 44 := by
  unfold rangeL at h
  rw [Bool.or_eq_true, decide_eq_true_eq] at h
  rcases h with rfl | h
  · exact ⟨by simp, by decide⟩
  · obtain ⟨a, b⟩ := tag_bytes h
    exact ⟨a, fun x hx => lang_fine x (b x hx)⟩
theorem token_canon {kind : Int} {s : Str} (h : token s = true) : token (canonical kind s) = true := by
  unfold canonical
  have hl : token (lower s) = true := by rw [token_lower]; exact h
  split
  · split
    · decide
    · split
      · decide
      · exact hl
  · exact hl
theorem canon2 (s : Str) : canonical 2 s = lower s := by unfold canonical; rw [if_neg (by decide)]
theorem format_nil (v : Str) : formatP v [] = v := by simp [formatP]
theorem ranged_ok {kind : Int} {V : Str} {ps : List Prm} {n : Nat} (hn : n ≤ 1000) (hg : ∀ q ∈ ps, Good q) (hq : ∀ q ∈ ps, q.1 ≠ qName) (h : (rangedF kind V ps).2 = true) : OkP kind ((rangedF kind V ps).1, (n : Int)) := by
  by_cases h1 : kind = 1
  · subst h1
    have e : rangedF 1 V ps = (formatT ((parseR V).1.1, (parseR V).1.2.1, ps), (parseR V).2) := if_pos rfl
    rw [e] at h ⊢
    obtain ⟨a, b, c, d⟩ := range_norm h
    refine ⟨_, ps, n, a, b, c, hg, hq, rfl, hn, rfl, ?_⟩
    unfold rangedF
    rw [if_pos rfl, d]
  · by_cases h2 : kind = 2
    · subst h2
      have e : rangedF 2 V ps = (canonical 2 V, rangeL V && decide (ps.length = 0)) := by unfold rangedF; rw [if_neg h1, if_pos rfl]
      rw [e] at h ⊢
      simp only [Bool.and_eq_true, decide_eq_true_eq] at h
      obtain rfl := List.length_eq_zero_iff.1 h.2
      have hr : rangeL (canonical 2 V) = true := by rw [canon2, range_lower]; exact h.1
      obtain ⟨a, b⟩ := rangeL_fine hr
      refine ⟨canonical 2 V, [], n, bytes_firm a (fun x hx => (b x hx).1), fun x hx => ⟨(b x hx).2.1, (b x hx).2.2.1⟩, fun x hx => ⟨(b x hx).2.1, (b x hx).2.2.2⟩, by simp, by simp, (format_nil _).symm, hn, rfl, ?_⟩
      unfold rangedF
      rw [if_neg h1, if_pos rfl, canonical_idem, hr]; rfl
    · have e : rangedF kind V ps = (canonical kind V, token V && decide (ps.length = 0)) := by unfold rangedF; rw [if_neg h1, if_neg h2]
      rw [e] at h ⊢
      simp only [Bool.and_eq_true, decide_eq_true_eq] at h
      obtain rfl := List.length_eq_zero_iff.1 h.2
      have ht : token (canonical kind V) = true := token_canon h.1
      refine ⟨canonical kind V, [], n, token_firm ht, tok_clean ht, tok_clean44 ht, by simp, by simp, (format_nil _).symm, hn, rfl, ?_⟩
      unfold rangedF
      rw [if_neg h1, if_neg h2, canonical_idem, ht]; rfl
theorem before_q {ps : List Prm} : ∀ q ∈ ps.take (qAt ps), q.1 ≠ qName := fun q hq e => by
  obtain ⟨i, hi, rfl⟩ := List.getElem_of_mem hq
  rw [List.length_take] at hi
  have hi2 : i < ps.findIdx (fun p => decide (p.1 = [113])) := by unfold qAt at hi; omega
  have := List.not_of_lt_findIdx hi2
  rw [List.getElem_take] at e
  have e2 : ps[i].1 = [113] := e
  rw [decide_eq_true e2] at this
  cases this
theorem pref_ok {kind : Int} {s : Str} (h : (prefF kind s).2 = true) : OkP kind (prefF kind s).1 := by
  have hg := parse_goodness s
  by_cases h1 : (parseP s).2.2 = false
  · rw [pref_bad h1] at h; cases h
  · by_cases hq : qAt (parseP s).2.1 < (parseP s).2.1.length
    · by_cases h2 : (parseQ ((parseP s).2.1.getD (qAt (parseP s).2.1) ([], [])).2).2 = false
      · rw [pref_badq h1 hq h2] at h; cases h
      · rw [pref_q h1 hq h2] at h ⊢
        exact ranged_ok (parseQ_le _) (fun q hx => hg q (List.mem_of_mem_take hx)) before_q h
    · rw [pref_plain h1 hq] at h ⊢
      refine ranged_ok (n := 1000) (by omega) hg (fun q hx => ?_) h
      have := before_q (ps := (parseP s).2.1) q
      rw [take_over (s := (parseP s).2.1) (by omega)] at this
      exact this hx
theorem prefsM_mem {kind : Int} {m : List Str} : ∀ p ∈ prefsM kind m, OkP kind p := fun p hp => by
  unfold prefsM at hp
  obtain ⟨x, hx, rfl⟩ := List.mem_map.1 hp
  obtain ⟨hx, h2⟩ := List.mem_filter.1 hx
  obtain ⟨s, _, rfl⟩ := List.mem_map.1 hx
  exact pref_ok h2
theorem prefsM_again {kind : Int} : ∀ {X : List Prf}, (∀ p ∈ X, OkP kind p) → prefsM kind (X.map memP) = X
  | [], _ => rfl
  | p :: X, h => by
    have ih := prefsM_again (X := X) (fun q hq => h q (by simp [hq]))
    unfold prefsM at ih ⊢
    rw [List.map_cons, List.map_cons, (pref_again (h p (by simp))).1, List.filter_cons, if_pos rfl, List.map_cons, ih]
theorem back_law {kind : Int} {l : List Fld} (h : (prefsF kind l).2 = true) : prefsF kind [(nameK kind, fmtP (prefsF kind l).1)] = prefsF kind l := by
  have hb : (decide (nameK kind = []) || !decide (0 < (getF l (nameK kind)).length)) = false := by
    cases hb : (decide (nameK kind = []) || !decide (0 < (getF l (nameK kind)).length))
    · rfl
    · rw [prefsF_no hb] at h; cases h
  have hn : nameK kind ≠ [] := by
    simp only [Bool.or_eq_false_iff, decide_eq_false_iff_not] at hb
    exact hb.1
  have hlen := prefsF_length kind l
  rw [prefsF_yes hb] at hlen ⊢
  simp only at hlen ⊢
  have hok : ∀ p ∈ prefsM kind (allF l (nameK kind)), OkP kind p := prefsM_mem
  generalize prefsM kind (allF l (nameK kind)) = X at hlen hok
  have g2 : ∀ v, getF [(nameK kind, v)] (nameK kind) = [v] := fun v => by rw [getF_cons, fold_self]; rfl
  have hs : allF [(nameK kind, fmtP X)] (nameK kind) = X.map memP := by
    unfold allF allV fmtP
    rw [g2, List.flatMap_cons, List.flatMap_nil, List.append_nil, split_join (fun x hx => ?_) (fun x hx => ?_) (by rw [List.length_map]; exact hlen), take_over (by rw [List.length_map]; exact hlen)]
    · obtain ⟨p, hp, rfl⟩ := List.mem_map.1 hx; exact (pref_again (hok p hp)).2.1
    · obtain ⟨p, hp, rfl⟩ := List.mem_map.1 hx; exact (pref_again (hok p hp)).2.2
  rw [prefsF_yes (by rw [g2, decide_eq_false hn]; rfl), hs, prefsM_again hok]
theorem back_no {kind : Int} {l : List Fld} (h : (prefsF kind l).2 = false) : (kind < 1 ∨ 4 < kind) ∨ ((prefsF kind l).1 = [] ∧ (getF l (nameK kind)).length = 0) := by
  by_cases hk : kind < 1 ∨ 4 < kind
  · exact .inl hk
  · refine .inr ?_
    by_cases hg : 0 < (getF l (nameK kind)).length
    · rw [prefs_of (by omega) (by omega) hg] at h; cases h
    · have hb : (decide (nameK kind = []) || !decide (0 < (getF l (nameK kind)).length)) = true := by rw [decide_eq_false hg]; simp
      rw [prefsF_no hb]
      exact ⟨rfl, by omega⟩
/-! ### How long it gets -/
theorem sumP_take (i : Nat) : ∀ l : List Prm, sumP (l.take i) ≤ sumP l := fun l => by
  have : sumP l = sumP (l.take i) + sumP (l.drop i) := by
    conv => lhs; rw [← List.take_append_drop i l]
    unfold sumP
    rw [List.map_append, List.sum_append]
  omega
theorem ranged_length {kind : Int} {V : Str} {ps : List Prm} : (rangedF kind V ps).1.length ≤ 2 * V.length + 8 + 2 * sumP ps + 4 * ps.length := by
  unfold rangedF
  split
  · have h1 := formatP_length (((parseR V).1.1 ++ [47]) ++ (parseR V).1.2.1) ps
    have h2 := parseR_len V
    simp only [List.length_append, List.length_cons, List.length_nil] at h1
    show (formatP (((parseR V).1.1 ++ [47]) ++ (parseR V).1.2.1) ps).length ≤ _
    omega
  · split
    · have := canonical_length kind V; show (canonical kind V).length ≤ _; omega
    · have := canonical_length kind V; show (canonical kind V).length ≤ _; omega
theorem pref_length (kind : Int) (s : Str) : (prefF kind s).1.1.length ≤ 8 * s.length + 8 := by
  have a1 := parseP_len1 s
  have a2 := parseP_length s
  have a3 := parseP_sum s
  unfold prefF
  split
  · simp
  · split
    · split
      · simp
      · have h1 := ranged_length (kind := kind) (V := (parseP s).1) (ps := (parseP s).2.1.take (qAt (parseP s).2.1))
        have h2 := sumP_take (qAt (parseP s).2.1) (parseP s).2.1
        have h3 : ((parseP s).2.1.take (qAt (parseP s).2.1)).length ≤ (parseP s).2.1.length := by rw [List.length_take]; omega
        show (rangedF kind (parseP s).1 ((parseP s).2.1.take (qAt (parseP s).2.1))).1.length ≤ _
        omega
    · have h1 := ranged_length (kind := kind) (V := (parseP s).1) (ps := (parseP s).2.1)
      show (rangedF kind (parseP s).1 (parseP s).2.1).1.length ≤ _
      omega
theorem prefsF_short {kind : Int} {l : List Fld} {n : Nat} (h : ∀ y ∈ l, y.1.length ≤ n ∧ y.2.length ≤ n) : ∀ x ∈ (prefsF kind l).1, x.1.length ≤ 8 * n + 8 := fun x hx => by
  unfold prefsF at hx
  split at hx
  · simp at hx
  · simp only at hx
    unfold prefsM at hx
    obtain ⟨y, hy, rfl⟩ := List.mem_map.1 hx
    obtain ⟨hy, _⟩ := List.mem_filter.1 hy
    obtain ⟨s, hs, rfl⟩ := List.mem_map.1 hy
    have h1 := pref_length kind s
    have h2 := allV_mem (getF_mem h (name := nameK kind)) s hs
    omega
theorem joinS_short {n : Nat} : ∀ {X : List Str}, (∀ y ∈ X, y.length ≤ n) → (joinS [44, 32] X).length ≤ X.length * (n + 2)
  | [], _ => by simp [joinS]
  | x :: r, h => by
    rw [joinS_flat]
    have hx := h x (by simp)
    have hr : ∀ (r : List Str), (∀ y ∈ r, y.length ≤ n) → (r.flatMap (fun y => [44, 32] ++ y)).length ≤ r.length * (n + 2) := by
      intro r
      induction r with
      | nil => intro _; simp
      | cons y r ih =>
        intro h
        have h1 := ih (fun z hz => h z (by simp [hz]))
        have h2 := h y (by simp)
        rw [List.flatMap_cons, List.length_append, List.length_cons (as := r), Nat.succ_mul]
        simp only [List.length_append, List.length_cons, List.length_nil] at h1 ⊢
        omega
    have h3 := hr r (fun y hy => h y (by simp [hy]))
    rw [List.length_append, List.length_cons, Nat.succ_mul]
    omega
theorem fmtP_short {n : Nat} {X : List Prf} (hl : X.length ≤ 64) (h : ∀ y ∈ X, y.1.length ≤ n) (hn : 64 * (n + 10) ≤ 300000) : (fmtP X).length ≤ 300000 := by
  unfold fmtP
  have h1 := joinS_short (n := n + 8) (X := X.map memP) (fun y hy => by
    obtain ⟨p, hp, rfl⟩ := List.mem_map.1 hy
    have := memP_length p
    have := h p hp
    omega)
  rw [List.length_map] at h1
  have h2 := Nat.mul_le_mul_right (n + 8 + 2) hl
  omega
end Go.Plain
