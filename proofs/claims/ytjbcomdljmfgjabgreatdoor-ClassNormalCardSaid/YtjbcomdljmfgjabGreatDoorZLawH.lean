/-
  Plain laws: the field that was written of the values of an axis says of them what the request said. No program in sight.
-/
import Derived.Test.YtjbcomdljmfgjabGreatDoorZLawG
namespace Go.Plain
open Go Go.Sep
set_option linter.unusedSimpArgs false
set_option linter.unusedVariables false
theorem plain_parse {v : Str} (hf : Firm v) (hc : ∀ x ∈ v, x ≠ 34 ∧ x ≠ 59) : parseP v = (v, [], true) := by
  have := parse_back (l := []) hf hc (by simp)
  rwa [format_nil] at this
def NormV (k : Int) (v : Str) : Str := (rangedF k (parseP v).1 (parseP v).2.1).1
theorem range_text {v : Str} (h : okRange v = true) : v = (v.take (pos v 47) ++ [47]) ++ v.drop (pos v 47 + 1) ∧ token (v.take (pos v 47)) = true ∧ token (v.drop (pos v 47 + 1)) = true := by
  unfold okRange at h
  simp only [Bool.and_eq_true] at h
  obtain ⟨⟨ha, hb⟩, _⟩ := h
  have hp : pos v 47 < v.length := by
    rcases Nat.lt_or_ge (pos v 47) v.length with q | q
    · exact q
    · rw [List.drop_eq_nil_of_le (by omega)] at hb; cases hb
  refine ⟨?_, ha, hb⟩
  conv => lhs; rw [← List.take_append_drop (pos v 47) v, drop_step (dd := 0) hp, pos_get hp]
  simp
theorem parOk_names {l : List Prm} (h : parOk l l.length = true) : (∀ q ∈ l, q.1 ≠ qName) ∧ (l.map (·.1)).Nodup := by
  constructor
  · intro q hq e
    obtain ⟨i, hi, rfl⟩ := List.getElem_of_mem hq
    have := (dist_at h hi).1
    rw [getD_get hi] at this
    rw [show l[i].1 = [113] from e] at this
    simp at this
  · rw [List.Nodup, List.pairwise_iff_getElem]
    intro i j hi hj hij e
    rw [List.length_map] at hi hj
    rw [List.getElem_map, List.getElem_map] at e
    have := (dist_at h hj).2
    rw [any_of (p := fun x => decide (x.1 = (l.getD j ([], [])).1)) (dd := ([], [])) hi hij (by rw [getD_get hi, getD_get hj]; exact decide_eq_true e)] at this
    cases this
theorem media_inv {v : Str} (h : (parseT v).2 = true) : parseT v = parseR v ∧ (parseR v).2 = true ∧ (parseP v).2.2 = true ∧ okRange (parseP v).1 = true := by
  have hb : badT v = false := by
    cases hb : badT v with
    | false => rfl
    | true => rw [parseT_no hb] at h; cases h
  obtain ⟨e, h1⟩ := parseT_yes hb
  have hc : (parseP v).2.2 = true ∧ okRange (parseP v).1 = true := by
    by_cases hc : (parseP v).2.2 = true ∧ okRange (parseP v).1 = true
    · exact hc
    · rw [parseR, if_neg hc] at h1; cases h1
  exact ⟨e, h1, hc.1, hc.2⟩
theorem val_media {v : Str} (h : (formF 1 v).2 = true) : ValP v ∧ (rangedF 1 (parseP v).1 (parseP v).2.1).2 = true ∧ readB 1 v = true ∧ ∀ w, matchK 1 (NormV 1 v) w = matchK 1 v w := by
  rw [form1 rfl] at h
  simp only [Bool.and_eq_true] at h
  obtain ⟨hT, hpar⟩ := h
  obtain ⟨e1, h1, hok, hr⟩ := media_inv hT
  have eR := parseR_yes hok hr
  have eps : (parseT v).1.2.2 = (parseP v).2.1 := by rw [e1, eR]
  rw [eps] at hpar
  obtain ⟨ev, ha, hb⟩ := range_text hr
  have hf : Firm (parseP v).1 := by
    rw [ev]; exact (token_firm ha).append (token_firm hb)
  have hcl : ∀ x ∈ (parseP v).1, x ≠ 34 ∧ x ≠ 44 ∧ x ≠ 59 := fun x hx => by
    rw [ev] at hx
    rcases List.mem_append.1 hx with hx | hx
    · rcases List.mem_append.1 hx with hx | hx
      · exact ⟨token_no ha (by decide) x hx, token_no ha (by decide) x hx, token_no ha (by decide) x hx⟩
      · rw [List.mem_singleton.1 hx]; decide
    · exact ⟨token_no hb (by decide) x hx, token_no hb (by decide) x hx, token_no hb (by decide) x hx⟩
  have hp0 := plain_parse hf (fun x hx => ⟨(hcl x hx).1, (hcl x hx).2.2⟩)
  have eR0 : parseR (parseP v).1 = ((lower ((parseP v).1.take (pos (parseP v).1 47)), lower ((parseP v).1.drop (pos (parseP v).1 47 + 1)), []), true) := by
    rw [parseR_yes (by rw [hp0]) (by rw [hp0]; exact hr), hp0]
  have er : rangedF 1 (parseP v).1 (parseP v).2.1 = (formatT (parseR v).1, true) := by
    unfold rangedF
    rw [if_pos rfl, eR0, eR]
  refine ⟨⟨hok, hcl, (parOk_names hpar).1⟩, by rw [er], by rw [read_1 rfl]; exact hT, fun w => ?_⟩
  unfold NormV
  rw [er]
  unfold matchK
  rw [if_pos rfl, if_pos rfl, parse_range_back h1]
theorem val_tag {v : Str} (h : (formF 2 v).2 = true) : ValP v ∧ (rangedF 2 (parseP v).1 (parseP v).2.1).2 = true ∧ readB 2 v = true ∧ ∀ w, matchK 2 (NormV 2 v) w = matchK 2 v w := by
  rw [form2 (by decide) rfl] at h
  have h' : tagF v = true := h
  obtain ⟨hne, hb⟩ := tag_bytes h'
  have hfine := fun x hx => lang_fine x (hb x hx)
  have hp := plain_parse (bytes_firm hne (fun x hx => (hfine x hx).1)) (fun x hx => ⟨(hfine x hx).2.1, (hfine x hx).2.2.1⟩)
  have er : rangedF 2 (parseP v).1 (parseP v).2.1 = (canonical 2 v, true) := by
    rw [hp]
    unfold rangedF
    rw [if_neg (by decide), if_pos rfl]
    have : rangeL v = true := by unfold rangeL; rw [h', Bool.or_true]
    rw [this]; rfl
  refine ⟨⟨by rw [hp], fun x hx => by rw [hp] at hx; exact ⟨(hfine x hx).2.1, (hfine x hx).2.2.2, (hfine x hx).2.2.1⟩, fun q hq => by rw [hp] at hq; cases hq⟩, by rw [er], by rw [read_2 (by decide) rfl]; exact h', fun w => ?_⟩
  unfold NormV
  rw [er, canon2, match_lower]
theorem val_word {k : Int} (hk : k = 3 ∨ k = 4) {v : Str} (h : (formF k v).2 = true) : ValP v ∧ (rangedF k (parseP v).1 (parseP v).2.1).2 = true ∧ readB k v = true ∧ ∀ w, matchK k (NormV k v) w = matchK k v w := by
  have k1 : ¬ k = 1 := by omega
  have k2 : ¬ k = 2 := by omega
  rw [form3 k1 k2 hk] at h
  simp only [Bool.and_eq_true] at h
  obtain ⟨ht, hs⟩ := h
  have hstar : ¬ v = [42] := by simpa using hs
  have hp := plain_parse (token_firm ht) (tok_clean ht)
  have er : rangedF k (parseP v).1 (parseP v).2.1 = (canonical k v, true) := by
    rw [hp]
    unfold rangedF
    rw [if_neg k1, if_neg k2, ht]; rfl
  refine ⟨⟨by rw [hp], fun x hx => by rw [hp] at hx; exact ⟨token_no ht (by decide) x hx, token_no ht (by decide) x hx, token_no ht (by decide) x hx⟩, fun q hq => by rw [hp] at hq; cases hq⟩, by rw [er], by rw [read_3 k1 k2, ht, decide_eq_false hstar]; rfl, fun w => ?_⟩
  unfold NormV
  rw [er]
  unfold matchK
  rw [if_neg k1, if_neg k1, if_neg k2, if_neg k2, if_pos hk, if_pos hk, token_canon ht, ht]
  unfold matchCoding
  rw [if_neg (canonical_star k v hstar), if_neg hstar, canonical_idem]
theorem val_of {k : Int} (hk : 1 ≤ k ∧ k ≤ 4) {v : Str} (h : (formF k v).2 = true) : ValP v ∧ (rangedF k (parseP v).1 (parseP v).2.1).2 = true ∧ readB k v = true ∧ ∀ w, matchK k (NormV k v) w = matchK k v w := by
  have : k = 1 ∨ k = 2 ∨ k = 3 ∨ k = 4 := by omega
  rcases this with rfl | rfl | rfl | rfl
  · exact val_media h
  · exact val_tag h
  · exact val_word (.inl rfl) h
  · exact val_word (.inr rfl) h
/-! ### A value matches itself best -/
theorem names_sub {a b : List Prm} (h : a.all (fun p => b.any (matchB p)) = true) : ∀ p ∈ a, ∃ x ∈ b, x.1 = p.1 ∧ fold x.2 p.2 = true := fun p hp => by
  have := List.all_eq_true.1 h p hp
  obtain ⟨x, hx, h2⟩ := List.any_eq_true.1 this
  unfold matchB at h2
  simp only [Bool.and_eq_true, decide_eq_true_eq] at h2
  exact ⟨x, hx, h2⟩
theorem names_len {a b : List Prm} (ha : (a.map (·.1)).Nodup) (h : a.all (fun p => b.any (matchB p)) = true) : a.length ≤ b.length := by
  have := ha.length_le_of_subset (l₂ := b.map (·.1)) (fun n hn => by
    obtain ⟨p, hp, rfl⟩ := List.mem_map.1 hn
    obtain ⟨x, hx, e, _⟩ := names_sub h p hp
    exact List.mem_map.2 ⟨x, hx, e⟩)
  simpa using this
theorem names_back {a b : List Prm} (ha : (a.map (·.1)).Nodup) (hb : (b.map (·.1)).Nodup) (h : a.all (fun p => b.any (matchB p)) = true) (hl : a.length = b.length) : ∀ x ∈ b, ∃ p ∈ a, p.1 = x.1 ∧ fold x.2 p.2 = true := fun x hx => by
  have hin : x.1 ∈ a.map (·.1) := by
    apply Classical.byContradiction
    intro hno
    have hsub : ∀ n ∈ a.map (·.1), n ∈ (b.map (·.1)).filter (fun n => decide (n ≠ x.1)) := fun n hn => by
      obtain ⟨p, hp, rfl⟩ := List.mem_map.1 hn
      obtain ⟨y, hy, e, _⟩ := names_sub h p hp
      refine List.mem_filter.2 ⟨List.mem_map.2 ⟨y, hy, e⟩, ?_⟩
      rw [decide_eq_true_eq]
      intro e2
      exact hno (e2 ▸ hn)
    have h1 := ha.length_le_of_subset hsub
    have h2 : ((b.map (·.1)).filter (fun n => decide (n ≠ x.1))).length < (b.map (·.1)).length := by
      rw [List.length_filter_lt_length_iff_exists]
      exact ⟨x.1, List.mem_map.2 ⟨x, hx, rfl⟩, by simp⟩
    rw [List.length_map] at h1 h2
    omega
  obtain ⟨p, hp, e⟩ := List.mem_map.1 hin
  obtain ⟨y, hy, e1, e2⟩ := names_sub h p hp
  have : y = x := by
    obtain ⟨i, hi, rfl⟩ := List.getElem_of_mem hy
    obtain ⟨j, hj, rfl⟩ := List.getElem_of_mem hx
    have hn : b[i].1 = b[j].1 := e1.trans e
    have hinj := (List.pairwise_iff_getElem.1 hb)
    rcases Nat.lt_trichotomy i j with q | q | q
    · exact absurd (by simpa using hn) (by have := hinj i j (by simpa using hi) (by simpa using hj) q; simpa using this)
    · subst q; rfl
    · exact absurd (by simpa using hn.symm) (by have := hinj j i (by simpa using hj) (by simpa using hi) q; simpa using this)
  subst this
  exact ⟨p, hp, e, e2⟩
def Same2 (k : Int) (v w : Str) : Prop := (∀ r, matchK k r v = matchK k r w) ∧ (k = 4 → fold v sIdent = fold w sIdent)
theorem dom_media {v w : Str} (hv : (formF 1 v).2 = true) (hw : (formF 1 w).2 = true) : 0 ≤ matchK 1 w w ∧ matchK 1 v w ≤ matchK 1 w w ∧ (matchK 1 v w = matchK 1 w w → Same2 1 v w) := by
  rw [form1 rfl] at hv hw
  simp only [Bool.and_eq_true] at hv hw
  obtain ⟨hTv, hpv⟩ := hv
  obtain ⟨hTw, hpw⟩ := hw
  obtain ⟨ev, hRv, _, _⟩ := media_inv hTv
  obtain ⟨ew, hRw, _, _⟩ := media_inv hTw
  have nv := (parOk_names hpv).2
  have nw := (parOk_names hpw).2
  have okv := parseT_ok hTv
  have okw := parseT_ok hTw
  have eww : matchK 1 w w = ((2 + (parseT w).1.2.2.length : Nat) : Int) := by
    rw [mK1_yes rfl ⟨hRw, hTw⟩, ← ew]; exact match_self okw.1 okw.2
  have evw : matchK 1 v w = matchT (parseT v).1 (parseT w).1 := by rw [mK1_yes rfl ⟨hRv, hTw⟩, ← ev]
  have hr : ∀ r, matchK 1 r v = if (parseR r).2 = false then -1 else matchT (parseR r).1 (parseT v).1 := fun r => by
    unfold matchK; rw [if_pos rfl, hTv]; simp
  have hr2 : ∀ r, matchK 1 r w = if (parseR r).2 = false then -1 else matchT (parseR r).1 (parseT w).1 := fun r => by
    unfold matchK; rw [if_pos rfl, hTw]; simp
  rw [eww, evw]
  generalize (parseT v).1 = tv at *
  generalize (parseT w).1 = tw at *
  refine ⟨by omega, ?_⟩
  unfold matchT
  rw [if_neg (fun e => okv.1 e.1)]
  by_cases h1 : tv.1 = tw.1
  · rw [if_neg (not_not.2 h1), if_neg okv.2]
    by_cases h2 : tv.2.1 = tw.2.1
    · rw [if_neg (not_not.2 h2)]
      by_cases h3 : tv.2.2.all (fun p => tw.2.2.any (matchB p)) = true
      · rw [if_pos h3]
        have hlen := names_len nv h3
        refine ⟨by omega, fun e => ?_⟩
        have hleq : tv.2.2.length = tw.2.2.length := by omega
        have hfw := names_sub h3
        have hbk := names_back nv nw h3 hleq
        refine ⟨fun r => ?_, fun e => by cases e⟩
        rw [hr, hr2]
        split
        · rfl
        · unfold matchT
          rw [h1, h2]
          have hall : (parseR r).1.2.2.all (fun p => tv.2.2.any (matchB p)) = (parseR r).1.2.2.all (fun p => tw.2.2.any (matchB p)) := by
            congr 1
            funext p
            rw [Bool.eq_iff_iff, List.any_eq_true, List.any_eq_true]
            unfold matchB
            simp only [Bool.and_eq_true, decide_eq_true_eq]
            constructor
            · rintro ⟨y, hy, e1, e2⟩
              obtain ⟨x, hx, e3, e4⟩ := hfw y hy
              exact ⟨x, hx, e3.trans e1, fold_iff.2 ((fold_iff.1 e4).trans (fold_iff.1 e2))⟩
            · rintro ⟨x, hx, e1, e2⟩
              obtain ⟨y, hy, e3, e4⟩ := hbk x hx
              exact ⟨y, hy, e3.trans e1, fold_iff.2 ((fold_iff.1 e4).symm.trans (fold_iff.1 e2))⟩
          rw [hall]
      · rw [if_neg h3]; exact ⟨by omega, fun e => by omega⟩
    · rw [if_pos h2]; exact ⟨by omega, fun e => by omega⟩
  · rw [if_pos h1]; exact ⟨by omega, fun e => by omega⟩
theorem tag_star {v : Str} (h : tagF v = true) : ¬ v = [42] := fun e => by rw [e] at h; revert h; decide
theorem dom_tag {v w : Str} (hv : (formF 2 v).2 = true) (hw : (formF 2 w).2 = true) : 0 ≤ matchK 2 w w ∧ matchK 2 v w ≤ matchK 2 w w ∧ (matchK 2 v w = matchK 2 w w → Same2 2 v w) := by
  rw [form2 (by decide) rfl] at hv hw
  have tv : tagF v = true := hv
  have tw : tagF w = true := hw
  have rv : rangeL v = true := by unfold rangeL; rw [tv, Bool.or_true]
  have rw' : rangeL w = true := by unfold rangeL; rw [tw, Bool.or_true]
  have m2 : ∀ r x, matchK 2 r x = matchL r x := fun r x => mK2 (by decide) rfl
  have eww : matchL w w = ((subt w).length : Int) := by
    unfold matchL
    rw [if_neg (by rw [rw', tw]; simp), if_neg (tag_star tw), if_pos (List.isPrefixOf_iff_prefix.2 (List.prefix_refl _))]
  rw [m2, m2, eww]
  refine ⟨by omega, ?_⟩
  unfold matchL
  rw [if_neg (by rw [rv, tw]; simp), if_neg (tag_star tv)]
  by_cases hp : (subt (lower v)).isPrefixOf (subt (lower w)) = true
  · rw [if_pos hp]
    have hpre := List.isPrefixOf_iff_prefix.1 hp
    have hl := hpre.length_le
    rw [subt_lower, subt_lower, List.length_map, List.length_map] at hl
    refine ⟨by omega, fun e => ?_⟩
    have heq : subt (lower v) = subt (lower w) := hpre.eq_of_length (by rw [subt_lower, subt_lower, List.length_map, List.length_map]; omega)
    refine ⟨fun r => ?_, fun e => by cases e⟩
    rw [m2, m2]
    unfold matchL
    rw [tv, tw, heq]
  · rw [if_neg hp]; exact ⟨by omega, fun e => by omega⟩
theorem ident_canon {v : Str} : canonical 4 v = sIdent ↔ lower v = sIdent := by
  unfold canonical
  rw [if_pos rfl]
  split
  · rename_i h; rw [h]; decide
  · split
    · rename_i h; rw [h]; decide
    · exact Iff.rfl
theorem dom_word {k : Int} (hk : k = 3 ∨ k = 4) {v w : Str} (hv : (formF k v).2 = true) (hw : (formF k w).2 = true) : 0 ≤ matchK k w w ∧ matchK k v w ≤ matchK k w w ∧ (matchK k v w = matchK k w w → Same2 k v w) := by
  have k1 : ¬ k = 1 := by omega
  have k2 : ¬ k = 2 := by omega
  rw [form3 k1 k2 hk] at hv hw
  simp only [Bool.and_eq_true] at hv hw
  obtain ⟨tv, sv⟩ := hv
  obtain ⟨tw, sw⟩ := hw
  have nv : ¬ v = [42] := by simpa using sv
  have nw : ¬ w = [42] := by simpa using sw
  have eww : matchK k w w = 1 := by
    rw [mK3_yes k1 k2 hk ⟨⟨tw, tw⟩, nw⟩]; unfold matchCoding; rw [if_neg nw, if_pos rfl]
  have evw : matchK k v w = if canonical k v = canonical k w then 1 else -1 := by
    rw [mK3_yes k1 k2 hk ⟨⟨tv, tw⟩, nw⟩]; unfold matchCoding; rw [if_neg nv]
  rw [eww, evw]
  refine ⟨by omega, ?_⟩
  by_cases he : canonical k v = canonical k w
  · rw [if_pos he]
    refine ⟨Int.le_refl _, fun _ => ⟨fun r => ?_, fun e4 => ?_⟩⟩
    · unfold matchK
      rw [if_neg k1, if_neg k1, if_neg k2, if_neg k2, if_pos hk, if_pos hk, tv, tw]
      unfold matchCoding
      rw [he]
      by_cases hr : token r = false
      · rw [if_pos (.inl (.inl hr)), if_pos (.inl (.inl hr))]
      · rw [if_neg (show ¬ ((token r = false ∨ true = false) ∨ v = [42]) by simp [hr, nv]), if_neg (show ¬ ((token r = false ∨ true = false) ∨ w = [42]) by simp [hr, nw])]
    · subst e4
      rw [Bool.eq_iff_iff, fold_iff, fold_iff, show lower sIdent = sIdent from by decide, ← ident_canon, ← ident_canon, he]
  · rw [if_neg he]; exact ⟨by omega, fun e => by omega⟩
theorem dom_of {k : Int} (hk : 1 ≤ k ∧ k ≤ 4) {v w : Str} (hv : (formF k v).2 = true) (hw : (formF k w).2 = true) : 0 ≤ matchK k w w ∧ matchK k v w ≤ matchK k w w ∧ (matchK k v w = matchK k w w → Same2 k v w) := by
  have : k = 1 ∨ k = 2 ∨ k = 3 ∨ k = 4 := by omega
  rcases this with rfl | rfl | rfl | rfl
  · exact dom_media hv hw
  · exact dom_tag hv hw
  · exact dom_word (.inl rfl) hv hw
  · exact dom_word (.inr rfl) hv hw
/-! ### Qualities -/
theorem qual_same2 {k : Int} {v w : Str} (h : Same2 k v w) (P : List Prf) (present : Bool) : qualF k P present v = qualF k P present w := by
  have hb : ∀ (P : List Prf) (s : Int × Int), P.foldl (bestS k v) s = P.foldl (bestS k w) s := by
    intro P
    induction P with
    | nil => intro s; rfl
    | cons p P ih =>
      intro s
      rw [List.foldl_cons, List.foldl_cons, show bestS k v s p = bestS k w s p by unfold bestS; rw [h.1]]
      exact ih _
  unfold qualF bestF
  rw [hb]
  by_cases hk : k = 4
  · rw [h.2 hk]
  · rw [if_neg (show ¬ (((P.foldl (bestS k w) (-1, 0)).1 < 0 ∧ k = 4) ∧ fold v sIdent = true) from fun e => hk e.1.2), if_neg (show ¬ (((P.foldl (bestS k w) (-1, 0)).1 < 0 ∧ k = 4) ∧ fold w sIdent = true) from fun e => hk e.1.2)]
theorem qual_range {k : Int} {P : List Prf} (hP : ∀ p ∈ P, OkP k p) (v : Str) : ∃ n : Nat, n ≤ 1000 ∧ qualF k P true v = (n : Int) := by
  unfold qualF
  rw [if_neg (by simp)]
  split
  · exact ⟨1, by omega, rfl⟩
  · unfold bestF
    rcases best_char (kind := k) (v := v) P (-1, 0) with ⟨e, _⟩ | ⟨p, hp, e, _⟩
    · rw [e]; exact ⟨0, by omega, rfl⟩
    · rw [e]
      obtain ⟨_, _, n, _, _, _, _, _, _, hn, e2, _⟩ := (hP p hp).ex
      exact ⟨n, hn, e2⟩
theorem qual_best {k : Int} {L : List Prf} {w : Str} {M q : Int} (h0 : 0 ≤ M) (h : bestF k w L 0 = (M, q)) : qualF k L true w = q := by
  unfold qualF
  rw [if_neg (by simp), h, if_neg (by simp only; omega)]
theorem qual_values {k : Int} (hk : 1 ≤ k ∧ k ≤ 4) {vs : List Str} (hf : ∀ v ∈ vs, (formF k v).2 = true) {P : List Prf} {w : Str} (hw : w ∈ vs) :
    qualF k (vs.map fun v => (NormV k v, qualF k P true v)) true w = qualF k P true w := by
  have hD := fun v hv => dom_of hk (hf v hv) (hf w hw)
  have h0 := (hD w hw).1
  have hbest : (bestF k w (vs.map fun v => (NormV k v, qualF k P true v)) 0) = (matchK k w w, qualF k P true w) := by
    unfold bestF
    rcases best_char (kind := k) (v := w) (vs.map fun v => (NormV k v, qualF k P true v)) (-1, 0) with ⟨_, hall⟩ | ⟨p, hp, e, _, hmax⟩
    · have := hall _ (List.mem_map.2 ⟨w, hw, rfl⟩)
      simp only at this
      rw [(val_of hk (hf w hw)).2.2.2] at this
      omega
    · rw [e]
      obtain ⟨v, hv, rfl⟩ := List.mem_map.1 hp
      have h1 := hmax _ (List.mem_map.2 ⟨w, hw, rfl⟩)
      simp only at h1 ⊢
      rw [(val_of hk (hf w hw)).2.2.2, (val_of hk (hf v hv)).2.2.2] at h1
      rw [(val_of hk (hf v hv)).2.2.2]
      have h2 := hD v hv
      have h3 : matchK k v w = matchK k w w := by omega
      rw [h3, qual_same2 (h2.2.2 h3) P true]
  exact qual_best h0 hbest
theorem normal_class {axes : List Axs} {l : List Fld} {strict : Bool} {i : Nat} (hv : validL axes = true) (hi : i < axes.length) : sameC axes l (normF (kindF (axes.getD i ([], [])).1) l (axes.getD i ([], [])).2) strict = true := by
  generalize ha : axes.getD i ([], []) = a
  by_cases hs : nameK (kindF a.1) = [] ∨ (getF l (nameK (kindF a.1))).length = 0
  · rw [norm_same hs]; exact sameC_of hv fun _ _ => rfl
  · have hn : ¬ nameK (kindF a.1) = [] := fun e => hs (.inl e)
    have hg : 0 < (getF l (nameK (kindF a.1))).length := Nat.pos_of_ne_zero fun e => hs (.inr e)
    have hk0 : ¬ kindF a.1 = 0 := fun e => hn (by rw [e]; rfl)
    have hkr := kind_range hk0
    have hpres : (prefsF (kindF a.1) l).2 = true := by rw [prefs_present hn]; exact decide_eq_true hg
    rw [norm_yes hn hpres]
    have hva : validA a = true := by rw [← ha]; exact valid_all hv _ (getD_mem hi)
    have hvl := values_len hva
    have hf : ∀ v ∈ a.2, (formF (kindF a.1) v).2 = true := fun v hv2 => by
      obtain ⟨j, hj, rfl⟩ := List.getElem_of_mem hv2
      unfold validA validV at hva
      simp only [Bool.and_eq_true] at hva
      have := (dist_at hva.2.2 hj).1
      rw [getD_get hj] at this
      exact this
    have hP : ∀ p ∈ (prefsF (kindF a.1) l).1, OkP (kindF a.1) p := by rw [prefs_of hkr.1 hkr.2 hg]; exact prefsM_mem
    obtain ⟨P, hPe⟩ : ∃ P, P = (prefsF (kindF a.1) l).1 := ⟨_, rfl⟩
    rw [← hPe] at hP ⊢
    have hex : exactF (kindF a.1) P a.2 = a.2.map fun v => (v, qualF (kindF a.1) P true v) := by
      unfold exactF
      rw [List.filter_eq_self.2 fun v hv2 => (val_of hkr (hf v hv2)).2.2.1]
    refine sameC_of hv fun b hb => ?_
    have hab : a = b ∨ fold a.1 b.1 = false := by
      have := at_or hv hi hb
      rw [ha] at this
      exact this.imp (fun e => e.symm) id
    rcases hab with rfl | e
    · refine rankO_qual hk0 fun w hw => ?_
      have hgm : getF (removeF l (nameK (kindF a.1)) ++ [(nameK (kindF a.1), fmtP (exactF (kindF a.1) P a.2))]) (nameK (kindF a.1)) = [fmtP (exactF (kindF a.1) P a.2)] := by
        rw [getF_app, get_remove, getF_one, if_pos (fold_self _)]; rfl
      have hpm : prefsF (kindF a.1) (removeF l (nameK (kindF a.1)) ++ [(nameK (kindF a.1), fmtP (exactF (kindF a.1) P a.2))]) = (a.2.map (fun v => (NormV (kindF a.1) v, qualF (kindF a.1) P true v)), true) := by
        rw [prefs_of hkr.1 hkr.2 (by rw [hgm]; simp)]
        unfold allF allV
        rw [hgm, List.flatMap_cons, List.flatMap_nil, List.append_nil, List.take_of_length_le (splitF_length _), prefs_values, hex, List.map_map]
        · rfl
        · rw [hex, List.length_map]; omega
        · intro p hp
          rw [hex] at hp
          obtain ⟨v, hv2, rfl⟩ := List.mem_map.1 hp
          have := val_of hkr (hf v hv2)
          exact ⟨this.1, this.2.1, qual_range hP v⟩
      rw [hpm, ← hPe, hpres]
      exact (qual_values hkr hf hw).symm
    · have h3 := other_axis e (kind_fold hk0)
      refine rankO_congr ?_
      rw [getF_app, get_remove_other h3, getF_one, if_neg (by simp only; rw [h3]; simp), List.append_nil]
theorem norm_mem {k : Int} {l : List Fld} {vs : List Str} (hl : ∀ z ∈ l, z.1.length ≤ 20000 ∧ z.2.length ≤ 20000) (hv : vs.length ≤ 20) (hm : ∀ v ∈ vs, v.length ≤ 100) : ∀ z ∈ normF k l vs, z.1.length ≤ 20000 ∧ z.2.length ≤ 20000 := fun z hz => by
  have hr := removeF_mem (p := fun z => z.1.length ≤ 20000 ∧ z.2.length ≤ 20000) (name := nameK k) hl
  unfold normF at hz
  split at hz
  · exact hl z hz
  · split at hz
    · exact hr z hz
    · rcases List.mem_append.1 hz with hz | hz
      · exact hr z hz
      · obtain rfl := List.mem_singleton.1 hz
        refine ⟨by have := nameK_length k; simp only; omega, ?_⟩
        have hE := exact_mem (kind := k) (P := (prefsF k l).1) hm
        have hEl := exact_len (kind := k) (P := (prefsF k l).1) (vs := vs)
        have h1 : ∀ y ∈ (exactF k (prefsF k l).1 vs).map memP, y.length ≤ 200 := fun y hy => by
          obtain ⟨p, hp, rfl⟩ := List.mem_map.1 hy
          have := memP_length p
          have := hE p hp
          omega
        have h2 := joinS_short h1
        rw [List.length_map] at h2
        have h3 := Nat.mul_le_mul (show (exactF k (prefsF k l).1 vs).length ≤ 20 by omega) (Nat.le_refl (200 + 2))
        show (fmtP (exactF k (prefsF k l).1 vs)).length ≤ 20000
        unfold fmtP
        omega
end Go.Plain
