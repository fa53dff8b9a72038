/-
  Plain laws: what is written is read back; blanks do not matter; a media type matches itself. No program in sight.
-/
import Derived.Test.YtikllmfjgpmcnaaDoorLaw10
namespace Go.Plain
set_option linter.unusedSimpArgs false
set_option linter.unusedVariables false

/-! ### Bytes -/
theorem tok_blank (c : UInt8) (h : tokB c = true) : blankB c = false := by
  have := all_u8 (fun c => !tokB c || !blankB c) (by decide +kernel) c
  simp only [h, Bool.not_true, Bool.false_or] at this; simpa using this
theorem tok_text (c : UInt8) (h : tokB c = true) : textB c = true := by
  have := all_u8 (fun c => !tokB c || textB c) (by decide +kernel) c
  simpa [h] using this
theorem tok_lower (c : UInt8) : tokB (lowerB c) = tokB c := by
  have := all_u8 (fun c => decide (tokB (lowerB c) = tokB c)) (by decide +kernel) c
  simpa using this
theorem lower_star (c : UInt8) : lowerB c = 42 ↔ c = 42 := by
  have := all_u8 (fun c => decide (lowerB c = 42 ↔ c = 42)) (by decide +kernel) c
  simpa using this
theorem token_lower (s : Str) : token (lower s) = token s := by
  unfold token lower
  rw [List.all_map]
  have e : (tokB ∘ lowerB) = tokB := funext fun c => tok_lower c
  rw [e]
  cases s <;> simp
theorem lower_eq_star (s : Str) : lower s = [42] ↔ s = [42] := by
  unfold lower
  cases s with
  | nil => simp
  | cons c r => cases r <;> simp [lower_star]
theorem token_text {s : Str} (h : token s = true) : text s = true := by
  unfold text
  rw [List.all_eq_true]
  exact fun x hx => tok_text x (token_bytes h x hx)
theorem token_ne {s : Str} (h : token s = true) : s ≠ [] := by
  intro e; subst e; simp [token] at h

/-! ### Ends -/
theorem getD_last (m : Str) (z : UInt8) : (m ++ [z]).getD ((m ++ [z]).length - 1) 0 = z := by simp
theorem pad_trim {a s b m m' : Str} {x z : UInt8} (ha : a.all blankB = true) (hb : b.all blankB = true) (h1 : s = x :: m) (h2 : s = m' ++ [z]) (hx : blankB x = false) (hz : blankB z = false) : trim (a ++ s ++ b) = s := by
  unfold trim
  have e1 : trimR blankB ((a ++ s) ++ b) = a ++ s := trimR_eq hb (.inr (by rw [h2, ← List.append_assoc, getD_last]; exact hz))
  rw [e1, trimL_append_all ha]
  exact trimL_end (.inr (by rw [h1]; exact hx))
theorem ends_trim {s m m' : Str} {x z : UInt8} (h1 : s = x :: m) (h2 : s = m' ++ [z]) (hx : blankB x = false) (hz : blankB z = false) : trim s = s := by
  have := pad_trim (a := []) (b := []) rfl rfl h1 h2 hx hz
  simpa using this
theorem last_of {s : Str} (h : s ≠ []) : ∃ m z, s = m ++ [z] ∧ z ∈ s := ⟨s.dropLast, s.getLast h, (List.dropLast_concat_getLast h).symm, List.getLast_mem h⟩
theorem first_of {s : Str} (h : s ≠ []) : ∃ x m, s = x :: m ∧ x ∈ s := by cases s with
  | nil => exact absurd rfl h
  | cons x m => exact ⟨x, m, rfl, List.mem_cons_self⟩
/-- A text whose ends are no blanks. -/
def Firm (s : Str) : Prop := ∃ x m m' z, s = x :: m ∧ s = m' ++ [z] ∧ blankB x = false ∧ blankB z = false
theorem Firm.trim {s : Str} (h : Firm s) : trim s = s := by obtain ⟨x, m, m', z, h1, h2, h3, h4⟩ := h; exact ends_trim h1 h2 h3 h4
theorem Firm.pad {a s b : Str} (h : Firm s) (ha : a.all blankB = true) (hb : b.all blankB = true) : Plain.trim (a ++ s ++ b) = s := by obtain ⟨x, m, m', z, h1, h2, h3, h4⟩ := h; exact pad_trim ha hb h1 h2 h3 h4
theorem Firm.ne {s : Str} (h : Firm s) : s ≠ [] := by obtain ⟨x, m, m', z, h1, _⟩ := h; rw [h1]; simp
theorem token_firm {s : Str} (h : token s = true) : Firm s := by
  obtain ⟨x, m, h1, hx⟩ := first_of (token_ne h)
  obtain ⟨m', z, h2, hz⟩ := last_of (token_ne h)
  exact ⟨x, m, m', z, h1, h2, tok_blank x (token_bytes h x hx), tok_blank z (token_bytes h z hz)⟩
theorem Firm.append {a b w : Str} (ha : Firm a) (hb : Firm b) : Firm (a ++ w ++ b) := by
  obtain ⟨x, m, _, _, h1, _, h3, _⟩ := ha
  obtain ⟨_, _, m', z, _, h2, _, h4⟩ := hb
  exact ⟨x, m ++ w ++ b, a ++ w ++ m', z, by rw [h1]; rfl, by rw [h2]; simp, h3, h4⟩
theorem quote_firm (s : Str) : Firm (quote s) := ⟨34, s.flatMap qc ++ [34], 34 :: s.flatMap qc, 34, rfl, rfl, rfl, rfl⟩
theorem wr_firm (v : Str) : Firm (wr v) := by
  unfold wr
  split
  · rename_i h; exact token_firm h
  · exact quote_firm v

/-! ### Cutting what was written -/
theorem cut_run {c : UInt8} : ∀ (a cur r : Str), (∀ x ∈ a, x ≠ 34 ∧ x ≠ c) → cutGo c 0 cur (a ++ r) = cutGo c 0 (cur ++ a) r
  | [], cur, r, _ => by simp
  | x :: a, cur, r, h => by
    have hx := h x List.mem_cons_self
    have ih := cut_run a (cur ++ [x]) r (fun y hy => h y (List.mem_cons_of_mem _ hy))
    rw [List.cons_append, cutGo, if_neg (by decide), if_neg (by decide), if_neg hx.1, if_neg hx.2, ih]
    simp
theorem cut_quoted {c : UInt8} : ∀ (s cur r : Str), cutGo c 1 cur (s.flatMap qc ++ 34 :: r) = cutGo c 0 (cur ++ s.flatMap qc ++ [34]) r
  | [], cur, r => by
    simp [cutGo]
  | x :: s, cur, r => by
    rw [List.flatMap_cons, List.append_assoc]
    by_cases h : x = 34 ∨ x = 92
    · have e : qc x = [92, x] := by rcases h with rfl | rfl <;> rfl
      have ih := cut_quoted (c := c) s (cur ++ [92] ++ [x]) r
      rw [e]
      simp only [List.cons_append, List.nil_append]
      rw [cutGo, if_neg (by decide), if_pos rfl, if_pos rfl, cutGo, if_pos rfl, ih]
      simp
    · have h1 : ¬ x = 34 := fun e => h (.inl e)
      have h2 : ¬ x = 92 := fun e => h (.inr e)
      have e : qc x = [x] := by simp [qc, h1, h2]
      have ih := cut_quoted (c := c) s (cur ++ [x]) r
      rw [e]
      simp only [List.cons_append, List.nil_append]
      rw [cutGo, if_neg (by decide), if_pos rfl, if_neg h2, if_neg h1, ih]
      simp
theorem cut_quote_run {c : UInt8} (s cur r : Str) : cutGo c 0 cur (quote s ++ r) = cutGo c 0 (cur ++ quote s) r := by
  unfold quote
  rw [List.append_assoc, List.cons_append]
  rw [cutGo, if_neg (by decide), if_neg (by decide), if_pos rfl]
  have := cut_quoted (c := c) s (cur ++ [34]) r
  simp only [List.cons_append, List.nil_append] at this ⊢
  rw [this]
  simp
theorem tok_clean {s : Str} (h : token s = true) : ∀ x ∈ s, x ≠ 34 ∧ x ≠ 59 := fun x hx => ⟨token_no h (by decide) x hx, token_no h (by decide) x hx⟩
theorem cut_wr (v cur r : Str) : cutGo 59 0 cur (wr v ++ r) = cutGo 59 0 (cur ++ wr v) r := by
  unfold wr
  split
  · rename_i h; exact cut_run v cur r (tok_clean h)
  · exact cut_quote_run v cur r
theorem cut_piece {n w : Str} (hn : token n = true) (hw : ∀ cur r, cutGo 59 0 cur (w ++ r) = cutGo 59 0 (cur ++ w) r) (cur r : Str) : cutGo 59 0 cur ((n ++ 61 :: w) ++ r) = cutGo 59 0 (cur ++ (n ++ 61 :: w)) r := by
  have e : (n ++ 61 :: w) ++ r = (n ++ [61]) ++ (w ++ r) := by simp
  rw [e, cut_run (n ++ [61]) cur (w ++ r) (fun x hx => by
    rcases List.mem_append.1 hx with h | h
    · exact tok_clean hn x h
    · obtain rfl := List.mem_singleton.1 h; decide), hw]
  simp
theorem cut_sep1 (cur r : Str) : cutGo 59 0 cur (59 :: r) = cur :: cutGo 59 0 [] r := by
  rw [cutGo, if_neg (by decide), if_neg (by decide), if_neg (by decide), if_pos rfl]
theorem cut_list : ∀ (l : List Prm) (cur : Str), (∀ p ∈ l, token p.1 = true) → cutGo 59 0 cur (l.flatMap fun p => 59 :: pieceP p) = cur :: l.map pieceP
  | [], cur, _ => by simp [cutGo]
  | p :: l, cur, h => by
    have ih := cut_list l (pieceP p) (fun q hq => h q (List.mem_cons_of_mem _ hq))
    rw [List.flatMap_cons, List.cons_append, cut_sep1]
    have := cut_piece (h p List.mem_cons_self) (cut_wr p.2) [] (l.flatMap fun p => 59 :: pieceP p)
    unfold pieceP at this ih ⊢
    rw [this]
    simp only [List.nil_append]
    rw [ih]
    rfl

/-! ### Reading a parameter -/
theorem quote_no_token (s : Str) : token (quote s) = false := by
  unfold token quote
  have : tokB 34 = false := by decide
  simp [this]
theorem unq_step {acc r : Str} {x : UInt8} (h1 : ¬ x = 34) (h2 : ¬ x = 92) (h3 : textB x = true) : unqGo acc (x :: r) = unqGo (acc ++ [x]) r := by
  cases r <;> simp [unqGo, h1, h2, h3]
theorem unq_flat : ∀ (s acc : Str), s.all textB = true → unqGo acc (s.flatMap qc) = some (acc ++ s)
  | [], acc, _ => by simp [unqGo]
  | x :: s, acc, h => by
    have h' : textB x = true ∧ s.all textB = true := by simpa using h
    have ih := unq_flat s (acc ++ [x]) h'.2
    rw [List.flatMap_cons]
    by_cases hx : x = 34 ∨ x = 92
    · have e : qc x = [92, x] := by rcases hx with rfl | rfl <;> rfl
      rw [e]
      simp only [List.cons_append, List.nil_append]
      have e2 : unqGo acc (92 :: x :: s.flatMap qc) = unqGo (acc ++ [x]) (s.flatMap qc) := by simp [unqGo, h'.1]
      rw [e2, ih]; simp
    · have h1 : ¬ x = 34 := fun e => hx (.inl e)
      have h2 : ¬ x = 92 := fun e => hx (.inr e)
      have e : qc x = [x] := by simp [qc, h1, h2]
      rw [e, List.cons_append, List.nil_append, unq_step h1 h2 h'.1, ih]; simp
theorem unq_of_quote {s : Str} (h : text s = true) : unq (quote s) = (s, true) := by
  have hl : (quote s).length = (s.flatMap qc).length + 2 := by simp only [quote, List.length_append, List.length_cons, List.length_nil]
  have hi : inner (quote s) = s.flatMap qc := by
    unfold inner
    rw [hl]
    simp [quote]
  have e := unq_yes (s := quote s) (by omega) (by simp [quote]) (by unfold quote; rw [getD_last]) (X := some s) (by rw [hi, unq_flat s [] h]; rfl)
  rw [e]; rfl
theorem pos_name {n w : Str} (hn : token n = true) : pos (n ++ 61 :: w) 61 = n.length := pos_append (token_no hn (by decide))
theorem one_piece {n w : Str} (hn : token n = true) : oneP (n ++ 61 :: w) = if token w = true then (lower n, w, true) else (lower n, unq w) := by
  have hp := pos_name (w := w) hn
  have ht : (n ++ 61 :: w).take (pos (n ++ 61 :: w) 61) = n := by rw [hp]; simp
  have hd : (n ++ 61 :: w).drop (pos (n ++ 61 :: w) 61 + 1) = w := by rw [hp, ← List.drop_drop]; simp
  have hlt : pos (n ++ 61 :: w) 61 < (n ++ 61 :: w).length := by rw [hp]; simp
  cases hw : token w
  · rw [one_unq hlt (by rw [ht]; exact hn) (by rw [hd]; exact hw), ht, hd]; simp
  · rw [one_tok hlt (by rw [ht]; exact hn) (by rw [hd]; exact hw), ht, hd]; simp
/-- A parameter that is written so that it is read back. -/
def Good (p : Prm) : Prop := token p.1 = true ∧ lower p.1 = p.1 ∧ text p.2 = true
theorem one_good {p : Prm} (h : Good p) : oneP (pieceP p) = (p.1, p.2, true) := by
  unfold pieceP
  rw [one_piece h.1]
  cases hv : token p.2
  · have hw : wr p.2 = quote p.2 := by unfold wr; rw [if_neg (by rw [hv]; simp)]
    rw [hw, quote_no_token, if_neg (by simp), unq_of_quote h.2.2, h.2.1]
  · have hw : wr p.2 = p.2 := by unfold wr; rw [if_pos hv]
    rw [hw, hv, if_pos rfl, h.2.1]
theorem piece_firm {p : Prm} (h : token p.1 = true) : Firm (pieceP p) := by
  have := (token_firm h).append (w := [61]) (wr_firm p.2)
  unfold pieceP; simpa using this
theorem pars_good : ∀ (l acc : List Prm), (∀ p ∈ l, Good p) → parsGo acc (l.map pieceP) = some (acc ++ l)
  | [], acc, _ => by simp [parsGo]
  | p :: l, acc, h => by
    have hp := h p List.mem_cons_self
    have hf := piece_firm hp.1
    have ih := pars_good l (acc ++ [p]) (fun q hq => h q (List.mem_cons_of_mem _ hq))
    rw [List.map_cons, parsGo, hf.trim, if_neg hf.ne, one_good hp, if_pos rfl]
    have e : ((p.1, p.2, true).1, (p.1, p.2, true).2.1) = p := rfl
    rw [e, ih]; simp
theorem parse_back {v : Str} {l : List Prm} (hv : Firm v) (hc : ∀ x ∈ v, x ≠ 34 ∧ x ≠ 59) (hl : ∀ p ∈ l, Good p) : parseP (formatP v l) = (v, l, true) := by
  have hcut : cutF (formatP v l) 59 = v :: l.map pieceP := by
    unfold cutF formatP
    rw [cut_run v [] _ hc, List.nil_append, cut_list l v (fun p hp => (hl p hp).1)]
  have h0 : (cutF (formatP v l) 59).getD 0 [] = v := by rw [hcut]; rfl
  have h1 : (cutF (formatP v l) 59).drop 1 = l.map pieceP := by rw [hcut]; rfl
  have hp := parse_some (s := formatP v l) (l := l) (by rw [h0, hv.trim]; exact hv.ne) (by rw [h1, pars_good l [] hl]; rfl)
  rw [hp, h0, hv.trim]
theorem param_back {v : Str} {l : List Prm} (hv : token v = true) (hl : ∀ p ∈ l, token p.1 = true ∧ lower p.1 = p.1 ∧ text p.2 = true) : parseP (formatP v l) = (v, l, true) := parse_back (token_firm hv) (tok_clean hv) hl

/-! ### Blanks -/
theorem blank_firm {a : Str} (h : a.all blankB = true) : trim a = [] := by
  unfold trim; rw [trimR_all h]; rfl
section
variable {v n t : Str}
theorem blanks_pieces (hn : token n = true) (ht : text t = true) : parsGo [] [n ++ 61 :: quote t, n ++ 61 :: quote t] = some [(lower n, t), (lower n, t)] ∧ parsGo [] [[32], [9] ++ (n ++ 61 :: quote t) ++ [32], [], n ++ 61 :: quote t, [32]] = some [(lower n, t), (lower n, t)] := by
  have hf : Firm (n ++ 61 :: quote t) := by have := (token_firm hn).append (w := [61]) (quote_firm t); simpa using this
  have h1 : oneP (n ++ 61 :: quote t) = (lower n, t, true) := by rw [one_piece hn, quote_no_token, if_neg (by simp), unq_of_quote ht]
  have h2 : trim (9 :: ((n ++ 61 :: quote t) ++ [32])) = n ++ 61 :: quote t := hf.pad (a := [9]) (b := [32]) (by decide) (by decide)
  have h3 : trim [32] = [] := by decide
  have h4 : trim [] = [] := by decide
  constructor
  · simp only [parsGo, hf.trim, h1, if_neg hf.ne, if_true, List.nil_append, List.cons_append]
  · simp only [parsGo, h2, h3, h4, hf.trim, h1, if_neg hf.ne, if_true, List.nil_append, List.cons_append]
theorem blanks_first (hv : token v = true) (hn : token n = true) (ht : text t = true) : parseP ((((v ++ [59]) ++ ((n ++ [61]) ++ quote t)) ++ [59]) ++ ((n ++ [61]) ++ quote t)) = (v, [(lower n, t), (lower n, t)], true) := by
  have hq := cut_piece (w := quote t) hn (fun cur r => cut_quote_run t cur r)
  have e : (((v ++ [59]) ++ ((n ++ [61]) ++ quote t)) ++ [59]) ++ ((n ++ [61]) ++ quote t) = v ++ (59 :: ((n ++ 61 :: quote t) ++ (59 :: ((n ++ 61 :: quote t) ++ [])))) := by simp
  have hcut : cutF ((((v ++ [59]) ++ ((n ++ [61]) ++ quote t)) ++ [59]) ++ ((n ++ [61]) ++ quote t)) 59 = [v, n ++ 61 :: quote t, n ++ 61 :: quote t] := by
    rw [e]
    unfold cutF
    rw [cut_run v [] _ (tok_clean hv), cut_sep1, hq, cut_sep1, hq]
    simp [cutGo]
  have hf := token_firm hv
  rw [parse_some (s := _) (l := [(lower n, t), (lower n, t)]) (by rw [hcut]; show ¬ trim v = []; rw [hf.trim]; exact hf.ne) (by rw [hcut]; exact (blanks_pieces hn ht).1), hcut]
  show (trim v, _, _) = _
  rw [hf.trim]
theorem blanks_second (hv : token v = true) (hn : token n = true) (ht : text t = true) : parseP (((((([32] ++ v) ++ [9, 59, 32, 59, 9]) ++ ((n ++ [61]) ++ quote t)) ++ [32, 59, 59]) ++ ((n ++ [61]) ++ quote t)) ++ [59, 32]) = (v, [(lower n, t), (lower n, t)], true) := by
  have hq := cut_piece (w := quote t) hn (fun cur r => cut_quote_run t cur r)
  have e : ((((([32] ++ v) ++ [9, 59, 32, 59, 9]) ++ ((n ++ [61]) ++ quote t)) ++ [32, 59, 59]) ++ ((n ++ [61]) ++ quote t)) ++ [59, 32] = (([32] ++ v ++ [9]) ++ (59 :: ([32] ++ (59 :: ([9] ++ ((n ++ 61 :: quote t) ++ ([32] ++ (59 :: (59 :: ((n ++ 61 :: quote t) ++ (59 :: ([32] ++ [])))))))))))) := by simp
  have hb : ∀ x ∈ ([32] : Str), x ≠ 34 ∧ x ≠ 59 := by decide
  have hb9 : ∀ x ∈ ([9] : Str), x ≠ 34 ∧ x ≠ 59 := by decide
  have hcut : cutF (((((([32] ++ v) ++ [9, 59, 32, 59, 9]) ++ ((n ++ [61]) ++ quote t)) ++ [32, 59, 59]) ++ ((n ++ [61]) ++ quote t)) ++ [59, 32]) 59 = [[32] ++ v ++ [9], [32], [9] ++ (n ++ 61 :: quote t) ++ [32], [], n ++ 61 :: quote t, [32]] := by
    rw [e]
    unfold cutF
    rw [cut_run ([32] ++ v ++ [9]) [] _ (fun x hx => by
      rcases List.mem_append.1 hx with hx | hx
      · rcases List.mem_append.1 hx with hx | hx
        · exact hb x hx
        · exact tok_clean hv x hx
      · exact hb9 x hx), cut_sep1, cut_run [32] [] _ hb, cut_sep1, cut_run [9] [] _ hb9, hq, cut_run [32] _ _ hb, cut_sep1, cut_sep1, hq, cut_sep1, cut_run [32] [] _ hb]
    simp [cutGo]
  have hf := token_firm hv
  have hp : trim ([32] ++ v ++ [9]) = v := hf.pad (by decide) (by decide)
  rw [parse_some (s := _) (l := [(lower n, t), (lower n, t)]) (by rw [hcut]; show ¬ trim ([32] ++ v ++ [9]) = []; rw [hp]; exact hf.ne) (by rw [hcut]; exact (blanks_pieces hn ht).2), hcut]
  show (trim ([32] ++ v ++ [9]), _, _) = _
  rw [hp]
end

/-! ### Media types -/
theorem unqGo_all : ∀ (t acc u : Str), unqGo acc t = some u → acc.all textB = true → u.all textB = true
  | [], acc, u, h, ha => by simp [unqGo] at h; subst h; exact ha
  | [b], acc, u, h, ha => by
    unfold unqGo at h
    split at h
    · cases h
    · split at h
      · cases h
      · split at h
        · rename_i hb; cases h; simp [ha, hb]
        · cases h
  | b :: x :: r, acc, u, h, ha => by
    unfold unqGo at h
    split at h
    · cases h
    · split at h
      · split at h
        · rename_i hx
          exact unqGo_all r _ _ h (by simp [ha, hx])
        · cases h
      · split at h
        · rename_i hb
          exact unqGo_all (x :: r) _ _ h (by simp [ha, hb])
        · cases h
  termination_by t => t.length
theorem unq_text {s : Str} (h : (unq s).2 = true) : text (unq s).1 = true := by
  unfold unq at h ⊢
  split
  · rename_i hc
    rw [if_pos hc] at h
    cases e : unqGo [] (inner s) with
    | none => rw [e] at h; cases h
    | some u => exact unqGo_all _ _ _ e rfl
  · rename_i hc; rw [if_neg hc] at h; cases h
theorem one_goodness {x : Str} (h : (oneP x).2.2 = true) : Good ((oneP x).1, (oneP x).2.1) := by
  unfold oneP at h ⊢
  split
  · rename_i hc; rw [if_pos hc] at h; cases h
  · rename_i hc
    rw [if_neg hc] at h
    have ht : token (x.take (pos x 61)) = true := by
      cases e : token (x.take (pos x 61))
      · exact absurd (.inr e) hc
      · rfl
    split
    · rename_i hv
      exact ⟨by simp only; rw [token_lower]; exact ht, by simp only; rw [lower_idem], token_text hv⟩
    · rename_i hv
      rw [if_neg hv] at h
      exact ⟨by simp only; rw [token_lower]; exact ht, by simp only; rw [lower_idem], unq_text h⟩
theorem pars_goodness : ∀ (X : List Str) (acc l : List Prm), parsGo acc X = some l → (∀ p ∈ acc, Good p) → ∀ p ∈ l, Good p
  | [], acc, l, h, ha => by simp [parsGo] at h; subst h; exact ha
  | x :: X, acc, l, h, ha => by
    unfold parsGo at h
    split at h
    · exact pars_goodness X _ _ h ha
    · split at h
      · rename_i ho
        refine pars_goodness X _ _ h fun p hp => ?_
        rcases List.mem_append.1 hp with hp | hp
        · exact ha p hp
        · obtain rfl := List.mem_singleton.1 hp; exact one_goodness ho
      · cases h
theorem parse_goodness (s : Str) : ∀ p ∈ (parseP s).2.1, Good p := by
  unfold parseP
  split
  · simp
  · split
    · simp
    · rename_i l h; exact pars_goodness _ _ _ h (by simp)
theorem parse_range_back {s : Str} (h : (parseR s).2 = true) : parseR (formatT (parseR s).1) = parseR s := by
  have hc : (parseP s).2.2 = true ∧ okRange (parseP s).1 = true := by
    by_cases hc : (parseP s).2.2 = true ∧ okRange (parseP s).1 = true
    · exact hc
    · rw [parseR, if_neg hc] at h; cases h
  have e := parseR_yes hc.1 hc.2
  have hok := hc.2
  have hg := parse_goodness s
  rw [e]
  generalize (parseP s).1 = v at hok ⊢
  generalize (parseP s).2.1 = l at hg ⊢
  unfold okRange at hok
  revert hok
  generalize v.take (pos v 47) = a
  generalize v.drop (pos v 47 + 1) = b
  intro hok
  simp only [Bool.and_eq_true] at hok
  obtain ⟨⟨ha, hb⟩, hst⟩ := hok
  have hla : token (lower a) = true := by rw [token_lower]; exact ha
  have hlb : token (lower b) = true := by rw [token_lower]; exact hb
  have hv : Firm ((lower a ++ [47]) ++ lower b) := (token_firm hla).append (token_firm hlb)
  have hcl : ∀ x ∈ (lower a ++ [47]) ++ lower b, x ≠ 34 ∧ x ≠ 59 := fun x hx => by
    rcases List.mem_append.1 hx with hx | hx
    · rcases List.mem_append.1 hx with hx | hx
      · exact tok_clean hla x hx
      · obtain rfl := List.mem_singleton.1 hx; decide
    · exact tok_clean hlb x hx
  have hb2 : parseP (formatT (lower a, lower b, l)) = ((lower a ++ [47]) ++ lower b, l, true) := parse_back hv hcl hg
  have hpos : pos ((lower a ++ [47]) ++ lower b) 47 = (lower a).length := by
    have := pos_append (r := lower b) (token_no hla (c := 47) (by decide))
    simpa using this
  have ht : ((lower a ++ [47]) ++ lower b).take (pos ((lower a ++ [47]) ++ lower b) 47) = lower a := by rw [hpos]; simp
  have hd : ((lower a ++ [47]) ++ lower b).drop (pos ((lower a ++ [47]) ++ lower b) 47 + 1) = lower b := by rw [hpos, ← List.drop_drop]; simp
  have hok2 : okRange ((lower a ++ [47]) ++ lower b) = true := by
    unfold okRange
    have e1 : decide (lower a = [42]) = decide (a = [42]) := decide_eq_decide.2 (lower_eq_star a)
    have e2 : decide (lower b = [42]) = decide (b = [42]) := decide_eq_decide.2 (lower_eq_star b)
    rw [ht, hd, hla, hlb, e1, e2]
    simpa using hst
  rw [parseR_yes (by rw [hb2]) (by rw [hb2]; exact hok2), hb2]
  simp only
  rw [ht, hd, lower_idem, lower_idem]
theorem match_self {t : Med} (h1 : ¬ t.1 = [42]) (h2 : ¬ t.2.1 = [42]) : matchT t t = ((2 + t.2.2.length : Nat) : Int) := by
  unfold matchT
  rw [if_neg (fun e => h1 e.1), if_neg (not_not.2 rfl), if_neg h2, if_neg (not_not.2 rfl), if_pos]
  rw [List.all_eq_true]
  intro p hp
  rw [List.any_eq_true]
  exact ⟨p, hp, by unfold matchB; rw [fold_self]; simp⟩
theorem match_type {t : Med} (h1 : ¬ t.1 = [42]) : matchT (t.1, [42], []) t = 1 := by
  unfold matchT
  rw [if_neg (fun e => h1 e.1), if_neg (not_not.2 rfl), if_pos rfl]
theorem match_all (t : Med) : matchT ([42], [42], []) t = 0 := by
  unfold matchT
  rw [if_pos ⟨rfl, rfl⟩]
theorem match_more {t : Med} {n : Str} {q : Prm} (h1 : ¬ t.1 = [42]) (h2 : ¬ t.2.1 = [42]) (hn : ∀ p ∈ t.2.2, p.1 ≠ q.1) : matchT (t.1, t.2.1, t.2.2 ++ [q]) t = -1 := by
  unfold matchT
  rw [if_neg (fun e => h1 e.1), if_neg (not_not.2 rfl), if_neg h2, if_neg (not_not.2 rfl), if_neg]
  intro h
  rw [List.all_eq_true] at h
  have := h q (by simp)
  rw [List.any_eq_true] at this
  obtain ⟨p, hp, hm⟩ := this
  unfold matchB at hm
  simp only [Bool.and_eq_true, decide_eq_true_eq] at hm
  exact hn p hp hm.1
end Go.Plain
