/-
  The rules of the calculus for slices that nobody writes any more, and for appending to one's own: indexing, slicing, literals, append, fields, struct values. No program in sight. No conditions.
-/
import Derived.Test.YtikllmfjgpmcnaaDoorSepF
namespace Go.Sep
open Go

/-! ### Publishing -/

theorem rowIs.rep {w : World} {I : Blocks} {g cap : Nat} {E : TypeId} {t : Ty} {xs : List t.den} (hg : I g) (h : rowIs w I false g cap E t xs) : repC w I (.list t) [.slice (some ⟨g, 0, none⟩) xs.length cap] xs := by
  obtain ⟨C, h1, h2, h3, h4, h5⟩ := h
  refine ⟨_, _, _, rfl, rfl, h2, .inr ⟨g, 0, C, E, _, rfl, hg, h1, ?_, fun i hi => ?_⟩⟩
  · rw [Nat.zero_add, h4]; exact Nat.mul_le_mul_right _ h2
  · rw [Nat.zero_add]; exact h5 i hi

section ops
variable {c : Cx} {L : List (Nat × Value)} {As R : List Asn} {Q : Exit → Act → World → Prop} {K : Act → World → Prop} {ops : Array Oper} {rest : List Oper} {T : TypeId} {pos : String} {aft : Array Edge} {gd : Option (Nat × Bool)}

theorem Eff.publish {w : World} {I : Blocks} {m : List Nat} (ho : Okw w I m) : Eff w I m w (fun b => I b ∨ b ∈ m) [] :=
  ⟨rfl, rfl, rfl, Nat.le_refl _, fun _ _ _ => rfl, fun _ hb => .inl hb, fun _ hb => hb.elim .inl (fun h => .inr (.inl h)), fun b hb => hb.elim (ho.lt b) (ho.own b), List.nodup_nil, fun _ hb => (List.not_mem_nil hb).elim, fun _ hb => (List.not_mem_nil hb).elim⟩

theorem j_pub_row {v : Value} {E : TypeId} {t : Ty} {xs : List t.den} (h : J c L (.imm (.list t) v xs :: R) K) : J c L (.row v E t xs :: R) K :=
  j_map (fun w hw => Mem.step (Ps := [_]) (Bs := [_]) hw fun I m1 ho hs => by
    obtain ⟨m1, m2, rfl, hr, rfl⟩ := hs
    refine ⟨_, [], Eff.publish ho, [], [], rfl, ⟨rfl, ?_⟩, rfl⟩
    rcases hr with ⟨rfl, rfl, _⟩ | ⟨g, cap, rfl, rfl, hr⟩
    · exact ⟨[_], rfl, none, 0, 0, rfl, rfl, Nat.le_refl _, .inl rfl⟩
    · exact ⟨[_], rfl, (rowIs_mono (w := w) (I := I) rfl (fun _ _ => rfl) (fun _ h => .inl h) hr).rep (.inr (by simp))⟩) h
theorem j_pub_rowg {g cap : Nat} {E : TypeId} {t : Ty} {xs : List t.den} (h : J c L (.imm (.list t) (.slice (some ⟨g, 0, none⟩) xs.length cap) xs :: R) K) : J c L (.rowg g cap E t xs :: R) K :=
  j_map (fun w hw => Mem.step (Ps := [_]) (Bs := [_]) hw fun I m1 ho hs => by
    obtain ⟨m1, m2, rfl, ⟨rfl, hr⟩, rfl⟩ := hs
    exact ⟨_, [], Eff.publish ho, [], [], rfl, ⟨rfl, [_], rfl, (rowIs_mono (w := w) (I := I) rfl (fun _ _ => rfl) (fun _ h => .inl h) hr).rep (.inr (by simp))⟩, rfl⟩) h
theorem j_pub_box {b : Nat} {E : TypeId} {cs : List Value} (h : J c L (.ibox b E cs :: R) K) : J c L (.box b E cs :: R) K :=
  j_map (fun w hw => Mem.step (Ps := [_]) (Bs := [_]) hw fun I m1 ho hs => by
    obtain ⟨m1, m2, rfl, ⟨rfl, hr⟩, rfl⟩ := hs
    exact ⟨_, [], Eff.publish ho, [], [], rfl, ⟨rfl, .inr (by simp), hr⟩, rfl⟩) h
/-- nil, as an own slice; as a slice that nobody writes. -/
theorem j_nil_row (E : TypeId) (t : Ty) (h : J c L (.row (.slice none 0 0) E t [] :: R) K) : J c L R K :=
  j_map (fun w hw => by
    obtain ⟨I, m, he, hs⟩ := hw
    exact ⟨I, m, he, [], m, rfl, .inl ⟨rfl, rfl, rfl⟩, hs⟩) h
theorem j_nil_imm (t : Ty) (h : J c L (.imm (.list t) (.slice none 0 0) [] :: R) K) : J c L R K :=
  j_map (fun w hw => by
    obtain ⟨I, m, he, hs⟩ := hw
    exact ⟨I, m, he, [], m, rfl, ⟨rfl, [_], rfl, none, 0, 0, rfl, rfl, Nat.le_refl _, .inl rfl⟩, hs⟩) h
/-- An own row with its address hidden. -/
theorem j_row_of_rowg {g cap : Nat} {E : TypeId} {t : Ty} {xs : List t.den} (h : J c L (.row (.slice (some ⟨g, 0, none⟩) xs.length cap) E t xs :: R) K) : J c L (.rowg g cap E t xs :: R) K :=
  j_map (fun w hw => Mem.step (Ps := [_]) (Bs := [_]) hw fun I m1 ho hs => by
    obtain ⟨m1, m2, rfl, ⟨rfl, hr⟩, rfl⟩ := hs
    exact ⟨I, [g], ho.eff, [g], [], rfl, .inr ⟨g, cap, rfl, rfl, hr⟩, rfl⟩) h
theorem j_eq {A B : Asn} (e : A = B) (h : J c L (B :: R) K) : J c L (A :: R) K := by rw [e]; exact h

/-! ### Elements -/

/-- Where element i of a slice lies. -/
def elemPtr (v : Value) (i n : Nat) : Value :=
  match v with
  | .slice (some a) _ _ => .pointer (some (a.add (i * n)))
  | _ => .pointer none

theorem run_idx_slice {x y : Operand} {ty E : TypeId} {a : Act} {w : World} {b off n cap i k : Nat} {K : IntKind} {agg : Bool} {by_ : Nat} {z : Option Value} {nn : Nat} (hf : Fits nn L a) {v : Value} (hx : ev L x = some v) (hv : v = .slice (some ⟨b, off, none⟩) n cap) (hy : ev L y = some (.int K i)) (ht : c.P.underlying ty = some (.slice E)) (he : TyF c.P E agg k by_ z) (hi : i < n) {d : Option Tmp} :
    (execOp a.eval ⟨d, .indexAddr ty x y, T, pos, aft, gd⟩).run c.P w = .ok (.value (elemPtr v i k)) w := by
  subst hv
  simp [execOp, Instr.indexAt, hf.ev hx, hf.ev hy, asIntOf, run_underlying ht, he.sizeOf, hi, elemPtr]

theorem pr_idx_imm {x y : Operand} {ty E : TypeId} {v : Value} {t : Ty} {xs : List t.den} {i k : Nat} {K : IntKind} {agg : Bool} {by_ : Nat} {z : Option Value} (hx : ev L x = some v) (hA : Asn.imm (.list t) v xs ∈ As) (hy : ev L y = some (.int K i)) (ht : c.P.underlying ty = some (.slice E)) (he : TyF c.P E agg k by_ z) (hi : i < xs.length) :
    PR c (.indexAddr ty x y) T L As (elemPtr v i k) := fun a w hf hm d pos aft gd => by
  obtain ⟨I, m, ho, rfl, cs, hv, hr⟩ := hm.get hA
  obtain ⟨ad, len, cap, rfl, hl, _, hr⟩ := hr
  rcases hr with h | ⟨b, off, C, E', fz, rfl, _⟩
  · subst h; simp at hi
  · exact run_idx_slice (c := c) hf hx (by rw [hv, hl]; rfl) hy ht he hi
theorem pr_idx_row {x y : Operand} {ty E E' : TypeId} {v : Value} {t : Ty} {xs : List t.den} {i k : Nat} {K : IntKind} {agg : Bool} {by_ : Nat} {z : Option Value} (hx : ev L x = some v) (hA : Asn.row v E' t xs ∈ As) (hy : ev L y = some (.int K i)) (ht : c.P.underlying ty = some (.slice E)) (he : TyF c.P E agg k by_ z) (hi : i < xs.length) :
    PR c (.indexAddr ty x y) T L As (elemPtr v i k) := fun a w hf hm d pos aft gd => by
  obtain ⟨I, m, ho, hr⟩ := hm.get hA
  rcases hr with ⟨_, h, _⟩ | ⟨g, cap, rfl, _, hr⟩
  · subst h; simp at hi
  · exact run_idx_slice (c := c) hf hx rfl hy ht he hi

/-- What lies at an element's place. -/
theorem imm_cell {w : World} {I : Blocks} {v : Value} {t : Ty} {xs : List t.den} {i : Nat} (h : repV w I (.list t) v xs) (hi : i < xs.length) :
    ∃ b off C E fz, elemPtr v i t.n = .pointer (some ⟨b, off, none⟩) ∧ I b ∧ w.heap[b]? = some (.cells C E fz) ∧ off + t.n ≤ C.size ∧ repC w I t ((C.toList.drop off).take t.n) xs[i] := by
  obtain ⟨cs, hv, hr⟩ := h
  obtain ⟨ad, len, cap, rfl, hl, _, hr⟩ := hr
  rcases hr with h | ⟨b, off, C, E', fz, rfl, h1, h2, h3, h4⟩
  · subst h; simp at hi
  · subst hv
    refine ⟨b, off + i * t.n, C, E', fz, by simp [toV, Ty.isPair, elemPtr, Addr.add_mk], h1, h2, ?_, h4 i hi⟩
    have := mul_lt_of (k := t.n) hi (Nat.le_refl _)
    rw [hl] at h3; omega
theorem row_cell {w : World} {I : Blocks} {v : Value} {E : TypeId} {t : Ty} {xs : List t.den} {m : List Nat} {i : Nat} (h : (Asn.row v E t xs).sat w I m) (hi : i < xs.length) :
    ∃ b off C fz, elemPtr v i t.n = .pointer (some ⟨b, off, none⟩) ∧ w.heap[b]? = some (.cells C E fz) ∧ off + t.n ≤ C.size ∧ repC w I t ((C.toList.drop off).take t.n) xs[i] := by
  rcases h with ⟨_, h, _⟩ | ⟨g, cap, rfl, _, C, h1, h2, h3, h4, h5⟩
  · subst h; simp at hi
  · refine ⟨g, i * t.n, C, _, by simp [elemPtr, Addr.add_mk], h1, ?_, h5 i hi⟩
    rw [h4]; exact mul_lt_of hi h2

theorem load_at {w : World} {ty : TypeId} {agg : Bool} {by_ : Nat} {z : Option Value} {b off : Nat} {C : Array Value} {E : TypeId} {fz : Nat × Nat} {t : Ty} {I : Blocks} {x : t.den} (ht : TyF c.P ty agg t.n by_ z) (hag : t.isPair = agg) (hh : w.heap[b]? = some (.cells C E fz)) (hr : repC w I t ((C.toList.drop off).take t.n) x) :
    (loadVar ty ⟨b, off, none⟩).run c.P w = .ok (toV t ((C.toList.drop off).take t.n)) w := by
  rw [toV_ofCells, hag]
  refine run_loadVar_cells ht w ⟨b, off, none⟩ _ (repC_len hr) (fun h => by subst hag; cases t <;> simp_all [Ty.isPair, Ty.n]) (fun j u hu => ?_)
  rw [Addr.add_mk, cell_of_heap hh]
  rw [List.getElem?_take] at hu
  split at hu
  · simpa using hu
  · cases hu

theorem getD_eq {α : Type} {xs : List α} {i : Nat} {dd : α} (hi : i < xs.length) : xs.getD i dd = xs[i] := by rw [List.getD_eq_getElem?_getD, List.getElem?_eq_getElem hi]; rfl

/-- A load of an element without slices. -/
theorem pr_load_elem_imm {ty : TypeId} {agg : Bool} {by_ : Nat} {z : Option Value} {x : Operand} {v : Value} {t : Ty} {xs : List t.den} {i : Nat} {dd : t.den} (u : Value) (hx : ev L x = some (elemPtr v i t.n)) (hA : Asn.imm (.list t) v xs ∈ As) (ht : TyF c.P ty agg t.n by_ z) (hfl : t.flat = true) (hag : t.isPair = agg) (hi : i < xs.length)
    (hu : toV t (enc t (xs.getD i dd)) = u) : PR c (.load ty x) T L As u := fun a w hf hm d pos aft gd => by
  obtain ⟨I, m, ho, rfl, hr⟩ := hm.get hA
  obtain ⟨b, off, C, E, fz, e, _, h2, _, h4⟩ := imm_cell hr hi
  have := load_at (c := c) ht hag h2 h4
  have h4' := (repC_flat hfl).1 h4
  rw [h4', ← getD_eq (dd := dd) hi, hu] at this
  rw [e] at hx
  simp only [execOp, hf.ev hx, Instr.loadAt, Instr.sureAddr, Sem.run_bind, Sem.run_pure, Result.andThen_ok, this]
theorem pr_load_elem_row {ty E : TypeId} {agg : Bool} {by_ : Nat} {z : Option Value} {x : Operand} {v : Value} {t : Ty} {xs : List t.den} {i : Nat} {dd : t.den} (u : Value) (hx : ev L x = some (elemPtr v i t.n)) (hA : Asn.row v E t xs ∈ As) (ht : TyF c.P ty agg t.n by_ z) (hfl : t.flat = true) (hag : t.isPair = agg) (hi : i < xs.length)
    (hu : toV t (enc t (xs.getD i dd)) = u) : PR c (.load ty x) T L As u := fun a w hf hm d pos aft gd => by
  obtain ⟨I, m, ho, hr⟩ := hm.get hA
  obtain ⟨b, off, C, fz, e, h2, _, h4⟩ := row_cell hr hi
  have := load_at (c := c) ht hag h2 h4
  have h4' := (repC_flat hfl).1 h4
  rw [h4', ← getD_eq (dd := dd) hi, hu] at this
  rw [e] at hx
  simp only [execOp, hf.ev hx, Instr.loadAt, Instr.sureAddr, Sem.run_bind, Sem.run_pure, Result.andThen_ok, this]

/-- A load of an element that leads on to memory. -/
theorem jo_load_elem {ty : TypeId} {agg : Bool} {by_ : Nat} {z : Option Value} {x : Operand} {v : Value} {t : Ty} {xs : List t.den} {i d : Nat} {dd : t.den} (hx : ev L x = some (elemPtr v i t.n)) (hA : Asn.imm (.list t) v xs ∈ As) (ht : TyF c.P ty agg t.n by_ z) (hag : t.isPair = agg) (hi : i < xs.length) (hd : Nat.blt d c.n = true)
    (h : ∀ cs, J c ((d, toV t cs) :: L) (.fact (fun w I => repC w I t cs (xs.getD i dd)) :: As) (wpList c.P ops Q rest)) : J c L As (wpList c.P ops Q (⟨some d, .load ty x, T, pos, aft, none⟩ :: rest)) := jo_step rfl fun a w hf hm => by
  have hm0 := hm
  obtain ⟨I, m, he, hs⟩ := hm
  have hp := hs.pers hA rfl
  obtain ⟨_, hr⟩ := hp
  obtain ⟨b, off, C, E, fz, e, h1, h2, _, h4⟩ := imm_cell hr hi
  have := load_at (c := c) ht hag h2 h4
  rw [e] at hx
  show Oper.upon _ _ _ _ _ ((execOp a.eval _).run c.P w)
  have hrun : (execOp a.eval ⟨some d, .load ty x, T, pos, aft, none⟩).run c.P w = .ok (.value (toV t ((C.toList.drop off).take t.n))) w := by
    simp only [execOp, hf.ev hx, Instr.loadAt, Instr.sureAddr, Sem.run_bind, Sem.run_pure, Result.andThen_ok, this]
  rw [hrun]
  refine h _ _ _ (hf.put (by rw [Nat.blt_eq] at hd; exact hd) _) ⟨I, m, he, [], m, rfl, ⟨rfl, fun w' I' _ hb hI => ?_⟩, hs⟩
  rw [getD_eq hi]
  exact repC_mono hb hI h4

/-! ### Slicing what nobody writes -/

def resl (v : Value) (lo hi n : Nat) : Value :=
  match v with
  | .slice a _ cap => .slice (if cap = lo then a else a.map (·.add (lo * n))) (hi - lo) (cap - lo)
  | _ => v

theorem repC_resl {w : World} {I : Blocks} {t : Ty} {a : Option Addr} {len cap : Nat} {xs : List t.den} (h : repC w I (.list t) [.slice a len cap] xs) {lo hi : Nat} (h1 : lo ≤ hi) (h2 : hi ≤ xs.length) :
    repC w I (.list t) [.slice (if cap = lo then a else a.map (·.add (lo * t.n))) (hi - lo) (cap - lo)] ((xs.take hi).drop lo) := by
  obtain ⟨a', len', cap', e, hl, hc, hr⟩ := h
  simp only [List.cons.injEq, Value.slice.injEq, and_true] at e
  obtain ⟨rfl, rfl, rfl⟩ := e
  have hlen : ((xs.take hi).drop lo).length = hi - lo := by simp; omega
  refine ⟨_, _, _, rfl, hlen.symm, by omega, ?_⟩
  rcases hr with rfl | ⟨b, off, C, E, fz, rfl, i1, i2, i3, i4⟩
  · left
    simp
  · right
    by_cases hcl : cap = lo
    · have : hi = lo := by omega
      subst this
      rw [if_pos hcl]
      refine ⟨b, off, C, E, fz, rfl, i1, i2, by rw [Nat.sub_self, Nat.zero_mul, Nat.add_zero]; omega, fun i hi => ?_⟩
      rw [hlen] at hi; omega
    · rw [if_neg hcl]
      refine ⟨b, off + lo * t.n, C, E, fz, by simp [Addr.add_mk], i1, i2, ?_, fun i hi' => ?_⟩
      · have : (hi - lo) * t.n + lo * t.n ≤ len * t.n := by rw [← Nat.add_mul]; exact Nat.mul_le_mul_right _ (by omega)
        omega
      · rw [hlen] at hi'
        have := i4 (lo + i) (by omega)
        rw [Nat.add_mul, ← Nat.add_assoc] at this
        simpa using this

theorem pr_slice_imm {x : Operand} {lo hi : Option Operand} {ty E : TypeId} {v : Value} {t : Ty} {xs : List t.den} {l h : Nat} {agg : Bool} {by_ : Nat} {z : Option Value} (hx : ev L x = some v) (hA : Asn.imm (.list t) v xs ∈ As) (ht : c.P.underlying ty = some (.slice E)) (he : TyF c.P E agg t.n by_ z)
    (hlo : match lo with | some o => ∃ k, ev L o = some (.int k (l : Nat)) | none => l = 0) (hhi : match hi with | some o => ∃ k, ev L o = some (.int k (h : Nat)) | none => h = xs.length) (h1 : l ≤ h) (h2 : h ≤ xs.length) :
    PR c (.slice ty x lo hi none) T L As (resl v l h t.n) := fun a w hf hm d pos aft gd => by
  obtain ⟨I, m, ho, rfl, cs, hv, hr⟩ := hm.get hA
  obtain ⟨ad, len, cap, rfl, hl, hc, hr⟩ := hr
  have hv' : v = .slice ad len cap := hv
  subst hv'
  subst hl
  have hb : (Instr.sliceBounds true xs.length cap (lo.map a.eval) (hi.map a.eval) none).run c.P w = .ok (l, h, cap) w := by
    cases lo with
    | none =>
      simp only at hlo
      cases hi with
      | none => simp only at hhi; subst hhi; subst hlo; simp [Instr.sliceBounds]
      | some o => obtain ⟨k, hk⟩ := hhi; subst hlo; simp [Instr.sliceBounds, hf.ev hk, run_sliceBound (show h ≤ cap by omega)]
    | some p =>
      obtain ⟨k', hk'⟩ := hlo
      cases hi with
      | none => simp only at hhi; subst hhi; simp [Instr.sliceBounds, hf.ev hk', run_sliceBound h1]
      | some o => obtain ⟨k, hk⟩ := hhi; simp [Instr.sliceBounds, hf.ev hk', hf.ev hk, run_sliceBound (show h ≤ cap by omega), run_sliceBound h1]
  have hu := run_underlying ht w
  simp only [execOp, Instr.sliceAt, Instr.slice, hf.ev hx, Sem.run_bind, hu, Result.andThen_ok, show (none : Option Operand).map a.eval = none from rfl, hb, he.sizeOf, Sem.run_pure, resl]
theorem j_resl {v : Value} {t : Ty} {xs : List t.den} {l h : Nat} (hA : Asn.imm (.list t) v xs ∈ As) (h1 : l ≤ h) (h2 : h ≤ xs.length) (hJ : J c L (.imm (.list t) (resl v l h t.n) ((xs.take h).drop l) :: As) K) : J c L As K :=
  j_map (fun w hw => by
    obtain ⟨I, m, he, hs⟩ := hw
    obtain ⟨_, cs, hv, hr⟩ := hs.pers hA rfl
    have hr0 := hr
    obtain ⟨ad, len, cap, rfl, hl, hc, _⟩ := hr
    have hv' : v = .slice ad len cap := hv
    subst hv'
    exact ⟨I, m, he, [], m, rfl, ⟨rfl, [_], rfl, repC_resl hr0 h1 h2⟩, hs⟩) hJ

/-! ### Literals -/

theorem fill_parts {t : Ty} : ∀ (vs : List Value) (css : List (List Value)) (j : Nat) (C : Array Value), vs.map Value.cells = css.map List.toArray → (∀ cs ∈ css, cs.length = t.n) → C.size = (j + css.length) * t.n →
    Instr.fill (fun i => some (i * t.n, t.n)) C ((vs.zipIdx j).map fun x => (x.2, x.1)) = some (C.toList.take (j * t.n) ++ css.flatten).toArray
  | [], [], j, C, _, _, hC => by
    simp only [List.zipIdx_nil, List.map_nil, Instr.fill, List.flatten_nil, List.append_nil, Option.some.injEq]
    rw [List.take_of_length_le (by rw [Array.length_toList, hC]; simp)]
  | v :: vs, cs :: css, j, C, hv, hl, hC => by
    simp only [List.map_cons, List.cons.injEq] at hv
    obtain ⟨hv1, hv2⟩ := hv
    have hcs := hl cs (by simp)
    have hsz : j * t.n + t.n ≤ C.size := by rw [hC, List.length_cons, Nat.add_mul, Nat.add_mul]; omega
    simp only [List.zipIdx_cons, List.map_cons, Instr.fill, hv1, List.size_toArray, hcs]
    rw [if_neg (by simp; omega)]
    have hfold : ∀ (l : List Value) (k : Nat) (D : Array Value), j * t.n + k + l.length ≤ D.size → (l.zipIdx k).foldl (fun cs (x : Value × Nat) => cs.setIfInBounds (j * t.n + x.2) x.1) D = (setL D.toList (j * t.n + k) l).toArray := by
      intro l
      induction l with
      | nil => intro k D _; simp [setL]
      | cons u l ih =>
        intro k D hD
        have := ih (k + 1) (D.setIfInBounds (j * t.n + k) u) (by simp at hD ⊢; omega)
        simp only [List.zipIdx_cons, List.foldl_cons, this]
        simp [setL, Nat.add_assoc]
    have hf0 := hfold cs 0 C (by rw [hcs]; omega)
    simp only [Nat.add_zero] at hf0
    rw [← Array.foldl_toList, Array.toList_zipIdx, hf0, fill_parts vs css (j + 1) _ hv2 (fun x hx => hl x (by simp [hx])) (by simp [setL_length, hC]; rw [Nat.add_right_comm, Nat.add_assoc])]
    simp only [List.flatten_cons, Option.some.injEq]
    congr 1
    rw [← List.append_assoc]
    congr 1
    apply List.ext_getElem?
    intro k
    rw [List.getElem?_take]
    by_cases hk : k < (j + 1) * t.n
    · rw [if_pos hk]
      rw [Nat.add_mul, Nat.one_mul] at hk
      by_cases hk2 : k < j * t.n
      · rw [setL_out _ _ _ _ (.inl hk2), List.getElem?_append_left (by simp; omega), List.getElem?_take, if_pos hk2]
      · rw [setL_in _ _ _ _ (by simp [hcs]; omega) (by omega) (by omega), List.getElem?_append_right (by simp; omega)]
        congr 1
        simp; omega
    · rw [if_neg hk, List.getElem?_eq_none (by simp [hcs]; rw [Nat.add_mul] at hk; omega)]
  | [], _ :: _, _, _, h, _, _ => by simp at h
  | _ :: _, [], _, _, h, _, _ => by simp at h
end ops
end Go.Sep
