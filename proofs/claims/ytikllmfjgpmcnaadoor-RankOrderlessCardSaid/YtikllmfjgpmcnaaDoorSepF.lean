/-
  The rules of the calculus for regions that draw their order, for arrays, and for entries without a Go body. No program in sight. No conditions.
-/
import Derived.Test.YtikllmfjgpmcnaaDoorSepE
import Derived.Deep.Quiet
import Derived.Laws.Externs
import Derived.Lib.Bytealg
namespace Go.Sep
open Go

/-! ### Regions that draw their order: operations that leave the world alone, and calls that hand back no memory -/

def JD (c : Cx) (L : List (Nat × Value)) (As : List Asn) (ops : Array Oper) (Q : Exit → Act → World → Prop) (rest : List Oper) : Prop :=
  ∀ a, Fits c.n L a → wpQuiet c.P ops (Mem c As) (fun a' => ∀ w', Mem c As w' → Q .normal a' w') rest a

section draws
variable {c : Cx} {L : List (Nat × Value)} {As : List Asn} {Q : Exit → Act → World → Prop} {ops : Array Oper} {rest : List Oper} {T : TypeId} {pos : String} {aft : Array Edge}

theorem jc_draws {id : Nat} {l : List Oper} (hm : c.P.follows .mixedOrders = true) (hB : Region.lexB .any l.toArray = true) (h : JD c L As l.toArray Q l) : J c L As ((Code.region id l.toArray true).wp c.P Q) := fun a w hf hw =>
  wp_region_quiet (C := Mem c As) hm hB (hw.drawn _) (by simpa using h a hf)
theorem jd_nil (h : J c L As (Q .normal)) : JD c L As ops Q [] := fun a hf => wpQuiet_nil fun w hw => h a w hf hw

theorem jd_pure {op : Op} {d : Nat} {v : Value} (hd : Nat.blt d c.n = true) (hp : PR c op T L As v) (h : JD c ((d, v) :: L) As ops Q rest) : JD c L As ops Q (⟨some d, op, T, pos, aft, none⟩ :: rest) := fun a hf => by
  show (if Region.wanted _ _ then _ else _)
  rw [if_pos (by simp [Region.wanted])]
  refine ⟨v, fun w hw => ?_, h _ (hf.put (by rw [Nat.blt_eq] at hd; exact hd) v)⟩
  unfold Oper.quietAt
  rw [hp a w hf hw]
  exact ⟨rfl, rfl⟩

theorem jd_callp {os : List Operand} {vs : List Value} {f : FuncId} {tys : Array TypeId} {Bs : List Asn} {val : Unit → Value} {d : Nat} (hc : Cal c.P f) (con : Con c.P f vs.toArray Bs val (fun _ => [])) (hv : EvL L os vs) (hd : Nat.blt d c.n = true) (hB : HasP As Bs)
    (h : JD c ((d, val ()) :: L) As ops Q rest) : JD c L As ops Q (⟨some d, .call { callee := .value (.func f), args := os.toArray, argTypes := tys }, T, pos, aft, none⟩ :: rest) := fun a hf => by
  show (if Region.wanted _ _ then _ else _)
  rw [if_pos (by simp [Region.wanted])]
  refine ⟨val (), fun w hw => ?_, h _ (hf.put (by rw [Nat.blt_eq] at hd; exact hd) _)⟩
  unfold Oper.quietAt
  rw [run_call hf hc hv w]
  refine ⟨rfl, ?_⟩
  obtain ⟨I, m, he, hs⟩ := hw
  have ho := he.okw
  refine (con w I [] ho.nil (hB.sats hs)).mono fun e w' hE => ?_
  obtain ⟨i, I', m1', rfl, h3, h4⟩ := hE
  have h4' : m1' = [] := h4
  subst h4'
  exact ⟨rfl, I', m, he.trans (Eff.frame (m1 := []) ho h3), Sats.frame (m1 := []) ho h3 hs⟩

theorem jd_gpure {op : Op} {d j t : Nat} {b b' want : Bool} {v : Value} (hj : (ops[j]?).bind (·.dst) = some t) (hl : lk L t = some (.bool b)) (hd : Nat.blt d c.n = true) (hw : (b == want) = b')
    (hp : b' = true → PR c op T L As v) (h : JD c ((d, gv b' v) :: L) As ops Q rest) : JD c L As ops Q (⟨some d, op, T, pos, aft, some (j, want)⟩ :: rest) := fun a hf => by
  have hd' : d < c.n := by rw [Nat.blt_eq] at hd; exact hd
  have hy : yielded ops a.tmps j = some b := by
    have := hf.2.2 t _ hl
    simp [yielded, hj, this]
  show (if Region.wanted _ _ then _ else _)
  cases hb : b' with
  | true =>
    have e : b = want := by rw [hb] at hw; simpa using hw
    rw [if_pos (by simp [Region.wanted, hy, e])]
    refine ⟨v, fun w hw => ?_, ?_⟩
    · unfold Oper.quietAt
      rw [hp hb a w hf hw]
      exact ⟨rfl, rfl⟩
    · have := hf.put hd' (gv b' v)
      rw [hb] at this h
      exact h _ this
  | false =>
    have e : ¬ b = want := by rw [hb] at hw; simpa using hw
    rw [if_neg (by simp [Region.wanted, hy, e])]
    have := hf.put hd' (gv b' v)
    rw [hb] at this h
    exact h _ this

theorem jd_run {d : Option Tmp} {op : Op} {j : Nat} {want b : Bool} {t : Nat} (hj : (ops[j]?).bind (·.dst) = some t) (hl : lk L t = some (.bool b)) (hb : b = want)
    (h : JD c L As ops Q (⟨d, op, T, pos, aft, none⟩ :: rest)) : JD c L As ops Q (⟨d, op, T, pos, aft, some (j, want)⟩ :: rest) := fun a hf => by
  have hy : yielded ops a.tmps j = some want := by
    have := hf.2.2 t _ hl
    simp [yielded, hj, this, hb]
  have := h a hf
  unfold wpQuiet at this ⊢
  rw [if_pos (by simp [Region.wanted])] at this
  rw [if_pos (by simp [Region.wanted, hy])]
  exact this
theorem jd_skip {d : Option Tmp} {op : Op} {j : Nat} {want b : Bool} {t : Nat} (hj : (ops[j]?).bind (·.dst) = some t) (hl : lk L t = some (.bool b)) (hb : b = !want) (L' : List (Nat × Value))
    (hL : SubL L' L) (hd : ∀ k, d = some k → lk L' k = none) (h : JD c L' As ops Q rest) : JD c L As ops Q (⟨d, op, T, pos, aft, some (j, want)⟩ :: rest) := fun a hf => by
  have hy : yielded ops a.tmps j = some (!want) := by
    have := hf.2.2 t _ hl
    simp [yielded, hj, this, hb]
  unfold wpQuiet
  rw [if_neg (by simp [Region.wanted, hy])]
  refine h _ ?_
  cases d with
  | none => exact hf.sub hL
  | some k =>
    refine ⟨by simp [Act.put, hf.1], hf.2.1, fun t v hv => ?_⟩
    have hne : k ≠ t := fun e => by subst e; rw [hd k rfl] at hv; cases hv
    simp only [Act.put]
    rw [Array.getElem?_setIfInBounds_ne hne]
    exact (hf.sub hL).2.2 t v hv

theorem jd_gcall {os : List Operand} {vs : List Value} {f : FuncId} {tys : Array TypeId} {Bs : List Asn} {val : Unit → Value} {d j t : Nat} {b b' want : Bool} (hj : (ops[j]?).bind (·.dst) = some t) (hl : lk L t = some (.bool b)) (hw : (b == want) = b')
    (hc : Cal c.P f) (con : b' = true → Con c.P f vs.toArray Bs val (fun _ => [])) (hv : b' = true → EvL L os vs) (hd : Nat.blt d c.n = true) (hB : b' = true → HasP As Bs)
    (h : JD c ((d, gv b' (val ())) :: L) As ops Q rest) : JD c L As ops Q (⟨some d, .call { callee := .value (.func f), args := os.toArray, argTypes := tys }, T, pos, aft, some (j, want)⟩ :: rest) := by
  cases hb : b' with
  | true =>
    have e : b = want := by rw [hb] at hw; simpa using hw
    rw [hb] at h
    exact jd_run hj hl e (jd_callp hc (con hb) (hv hb) hd (hB hb) h)
  | false =>
    intro a hf
    have hy : yielded ops a.tmps j = some b := by
      have := hf.2.2 t _ hl
      simp [yielded, hj, this]
    have e : ¬ b = want := by rw [hb] at hw; simpa using hw
    unfold wpQuiet
    rw [if_neg (by simp [Region.wanted, hy, e])]
    rw [hb] at h
    exact h _ (hf.put (by rw [Nat.blt_eq] at hd; exact hd) _)
end draws

/-! ### Cells of a list of data without slices -/

theorem flat_part {t : Ty} : ∀ (xs : List t.den) (i : Nat) (hi : i < xs.length), ((xs.flatMap (enc t)).drop (i * t.n)).take t.n = enc t xs[i]
  | x :: xs, 0, _ => by
    simp only [List.flatMap_cons, Nat.zero_mul, List.drop_zero, List.getElem_cons_zero]
    rw [← enc_len x, List.take_left]
  | x :: xs, i + 1, hi => by
    simp only [List.flatMap_cons, List.getElem_cons_succ]
    rw [Nat.add_mul, Nat.one_mul, Nat.add_comm, ← List.drop_drop]
    have : (enc t x ++ xs.flatMap (enc t)).drop t.n = xs.flatMap (enc t) := by rw [← enc_len x, List.drop_left]
    rw [this]
    exact flat_part xs i (by simpa using hi)

theorem flat_length {t : Ty} : ∀ (xs : List t.den), (xs.flatMap (enc t)).length = xs.length * t.n
  | [] => by simp
  | x :: xs => by rw [List.flatMap_cons, List.length_append, enc_len, flat_length xs, List.length_cons, Nat.add_mul]; omega

theorem rowIs_flat {w : World} {I : Blocks} {g : Nat} {E : TypeId} {t : Ty} {xs : List t.den} (hfl : t.flat = true) (hm : xs.length ≤ maxLen) (h : w.heap[g]? = some (.cells (xs.flatMap (enc t)).toArray E (0, 0))) : rowIs w I false g xs.length E t xs :=
  ⟨_, h, Nat.le_refl _, hm, by simp only [List.size_toArray, flat_length], fun i hi => by rw [List.toList_toArray, flat_part xs i hi]; exact (repC_flat hfl).2 rfl⟩

theorem list_of_parts {t : Ty} : ∀ (xs : List t.den) (l : List Value), l.length = xs.length * t.n → (∀ i (h : i < xs.length), (l.drop (i * t.n)).take t.n = enc t xs[i]) → l = xs.flatMap (enc t)
  | [], l, hl, _ => by simpa using hl
  | x :: xs, l, hl, h => by
    have h0 := h 0 (by simp)
    simp only [Nat.zero_mul, List.drop_zero, List.getElem_cons_zero] at h0
    have ih := list_of_parts xs (l.drop t.n) (by rw [List.length_drop, hl, List.length_cons, Nat.add_mul]; omega) (fun i hi => by
      have := h (i + 1) (by simpa using hi)
      rw [Nat.add_mul, Nat.one_mul, Nat.add_comm, ← List.drop_drop] at this
      simpa using this)
    rw [List.flatMap_cons, ← ih, ← h0, List.take_append_drop]

theorem rowIs.whole {w : World} {I : Blocks} {mk : Bool} {g cap : Nat} {E : TypeId} {t : Ty} {xs : List t.den} (hfl : t.flat = true) (hc : xs.length = cap) (h : rowIs w I mk g cap E t xs) :
    w.heap[g]? = some (.cells (xs.flatMap (enc t)).toArray E (bif mk then (cap * t.n, cap * t.n + 1) else (0, 0))) := by
  obtain ⟨C, h1, h2, h3, h4, h5⟩ := h
  have e : C.toList = xs.flatMap (enc t) := list_of_parts xs C.toList (by rw [Array.length_toList, h4, hc]) fun i hi => (repC_flat hfl).1 (h5 i hi)
  rw [h1, ← e, Array.toArray_toList, h4]

section ops
variable {c : Cx} {L : List (Nat × Value)} {As R : List Asn} {Q : Exit → Act → World → Prop} {K : Act → World → Prop} {ops : Array Oper} {rest : List Oper} {T : TypeId} {pos : String} {aft : Array Edge} {gd : Option (Nat × Bool)}

/-! ### Arrays in variables of one's own -/

theorem jo_alloc_arr {E : TypeId} {agg : Bool} {n by_ : Nat} {z : Value} {d : Nat} (ht : TyF c.P E agg n by_ (some z)) {t : Ty} (xs : List t.den) (hz : z.cells = (xs.flatMap (enc t)).toArray) (hfl : t.flat = true) (hm : xs.length ≤ maxLen) (hd : Nat.blt d c.n = true)
    (h : ∀ b, J c ((d, .pointer (some ⟨b, 0, none⟩)) :: L) (.rowg b xs.length E t xs :: As) (wpList c.P ops Q rest)) : J c L As (wpList c.P ops Q (⟨some d, .alloc E, T, pos, aft, none⟩ :: rest)) :=
  jo_alloc ht _ hz hd fun b => j_map (fun w hw => Mem.step (Ps := [_]) (Bs := [_]) hw fun I m1 ho hs => by
    obtain ⟨m1, m2, rfl, ⟨rfl, h1⟩, rfl⟩ := hs
    exact ⟨I, [b], ho.eff, [b], [], rfl, ⟨rfl, rowIs_flat hfl hm h1⟩, rfl⟩) (h b)

/-- The index of an element of an array in a variable. -/
theorem pr_idx_arr {x y : Operand} {ty E : TypeId} {g off n i k : Nat} {K : IntKind} {agg : Bool} {by_ : Nat} {z : Option Value} (o : Nat) (hx : ev L x = some (.pointer (some ⟨g, off, none⟩))) (hy : ev L y = some (.int K i)) (ht : c.P.underlying ty = some (.array n E)) (he : TyF c.P E agg k by_ z) (hi : i < n) (ho : off + i * k = o) :
    PR c (.indexAddr ty x y) T L As (.pointer (some ⟨g, o, none⟩)) := fun a w hf _ d pos aft gd => by
  subst ho
  simp [execOp, Instr.indexAt, Instr.sureAddr, hf.ev hx, hf.ev hy, asIntOf, run_underlying ht, he.sizeOf, hi, Addr.add_mk]

theorem pr_nilCheck {x : Operand} {ad : Addr} (hx : ev L x = some (.pointer (some ad))) : PR c (.nilCheck x) T L As (.pointer (some ad)) := fun a w hf _ d pos aft gd => by
  simp [execOp, hf.ev hx]

/-- The whole array, by value. -/
theorem run_load_arr {w : World} {ty E : TypeId} {n by_ : Nat} {z : Option Value} {g cap : Nat} {t : Ty} {xs : List t.den} {I : Blocks} (ht : TyF c.P ty true n by_ z) (hfl : t.flat = true) (hc : xs.length = cap) (hn : xs.length * t.n = n) (h : rowIs w I false g cap E t xs) :
    (loadVar ty ⟨g, 0, none⟩).run c.P w = .ok (.agg (xs.flatMap (enc t)).toArray) w := by
  have hh := h.whole hfl hc
  exact run_loadVar_cells ht w ⟨g, 0, none⟩ _ (by rw [flat_length, hn]) (by simp) (fun j u hu => by rw [Addr.add_mk, cell_of_heap hh]; simpa using hu)
theorem pr_load_arr {ty E : TypeId} {n by_ : Nat} {z : Option Value} {x : Operand} {g cap : Nat} {t : Ty} {xs : List t.den} (hx : ev L x = some (.pointer (some ⟨g, 0, none⟩))) (ht : TyF c.P ty true n by_ z) (hfl : t.flat = true)
    (hA : Asn.rowg g cap E t xs ∈ As) (hc : xs.length = cap) (hn : xs.length * t.n = n) : PR c (.load ty x) T L As (.agg (xs.flatMap (enc t)).toArray) := fun a w hf hm d pos aft gd => by
  obtain ⟨I, m, ho, rfl, hr⟩ := hm.get hA
  have := run_load_arr (c := c) ht hfl hc hn hr
  simp only [execOp, hf.ev hx, Instr.loadAt, Instr.sureAddr, Sem.run_bind, Sem.run_pure, Result.andThen_ok, this]

theorem setL_whole : ∀ (vs cs : List Value) (k : Nat), (cs.drop k).length = vs.length → setL cs k vs = cs.take k ++ vs
  | [], cs, k, h => by
    have : cs.drop k = [] := List.eq_nil_of_length_eq_zero (by simpa using h)
    have := List.take_append_drop k cs
    rw [‹cs.drop k = []›] at this
    simp only [setL]
    exact this.symm
  | v :: r, cs, k, h => by
    have hk : k < cs.length := by simp at h; omega
    rw [setL, setL_whole r (cs.set k v) (k + 1) (by simp at h ⊢; omega), List.take_succ_eq_append_getElem (by simpa using hk)]
    simp [List.take_set_of_le]

theorem jo_store_arr {ty E : TypeId} {n by_ : Nat} {z : Option Value} {x y : Operand} {g cap : Nat} {t : Ty} {xs ys : List t.den} (hx : ev L x = some (.pointer (some ⟨g, 0, none⟩))) (hy : ev L y = some (.agg (ys.flatMap (enc t)).toArray)) (ht : TyF c.P ty true n by_ z) (hfl : t.flat = true)
    (hc : xs.length = cap) (hc' : ys.length = cap) (hn : cap * t.n = n)
    (h : J c L (.rowg g cap E t ys :: R) (wpList c.P ops Q rest)) : J c L (.rowg g cap E t xs :: R) (wpList c.P ops Q (⟨none, .store ty x y, T, pos, aft, none⟩ :: rest)) := jo_step rfl fun a w hf hm => by
  obtain ⟨I, m, ho, rfl, hr⟩ := hm.get (A := .rowg g cap E t xs) (by simp)
  have hh := hr.whole hfl hc
  simp only [cond_false] at hh
  have hl : (ys.flatMap (enc t)).length = n := by rw [flat_length, hc', hn]
  have hl' : (xs.flatMap (enc t)).length = n := by rw [flat_length, hc, hn]
  have hst := run_storeVar_cells ht w g 0 (.agg (ys.flatMap (enc t)).toArray) (ys.flatMap (enc t)) rfl hl (fun u hu => by
    obtain ⟨y, _, hy⟩ := List.mem_flatMap.1 hu
    exact repC_one ((repC_flat (w := w) (I := I) hfl).2 rfl) u hy) (fun j hj => by rw [cell_of_heap hh, List.getElem?_toArray, Nat.zero_add, List.getElem?_eq_getElem (by omega)]; rfl) (fun j hj => by simp [World.frozen?, hh])
  show Oper.upon _ _ _ _ _ ((execOp a.eval _).run c.P w)
  have hrun : (execOp a.eval ⟨none, .store ty x y, T, pos, aft, none⟩).run c.P w = .ok .skip (w.setCells g 0 (ys.flatMap (enc t))) := by
    simp only [execOp, hf.ev hx, hf.ev hy, Instr.storeAt, Instr.sureAddr, Sem.run_bind, Sem.run_pure, Result.andThen_ok, hst]
  rw [hrun]
  obtain ⟨i1, i2, i3, i4, i5, i6⟩ := heap_setCells g E (0, 0) (ys.flatMap (enc t)) 0 w _ hh
  have e : setL (xs.flatMap (enc t)) 0 (ys.flatMap (enc t)) = ys.flatMap (enc t) := by rw [setL_whole _ _ _ (by simp only [List.drop_zero]; omega)]; simp
  rw [e] at i1
  have hcm : cap ≤ maxLen := by obtain ⟨C, _, _, h3, _⟩ := hr; exact h3
  exact h _ _ (hf.none _) (Mem.step (Ps := [_]) (Bs := [_]) hm fun I m1 ho hs => by
    obtain ⟨m1, m2, rfl, ⟨rfl, _⟩, rfl⟩ := hs
    exact ⟨I, [g], Eff.write ho i4 i5 i6 i3 i2, [g], [], rfl, ⟨rfl, by subst hc'; exact rowIs_flat hfl hcm i1⟩, rfl⟩)

/-- An array that nobody writes any more. -/
theorem j_pub_arr {g cap : Nat} {E : TypeId} {t : Ty} {xs : List t.den} (hfl : t.flat = true) (hc : xs.length = cap) (h : J c L (.ibox g E (xs.flatMap (enc t)) :: R) K) : J c L (.rowg g cap E t xs :: R) K :=
  j_map (fun w hw => Mem.step (Ps := [_]) (Bs := [_]) hw fun I m1 ho hs => by
    obtain ⟨m1, m2, rfl, ⟨rfl, h1⟩, rfl⟩ := hs
    have hh := h1.whole hfl hc
    refine ⟨fun b => I b ∨ b = g, [], ⟨rfl, rfl, rfl, Nat.le_refl _, fun _ _ _ => rfl, fun b hb => .inl hb, fun b hb => ?_, fun b hb => ?_, List.nodup_nil, fun b hb => (List.not_mem_nil hb).elim, fun b hb => (List.not_mem_nil hb).elim⟩, [], [], rfl, ⟨rfl, .inr rfl, hh⟩, rfl⟩
    · rcases hb with hb | rfl
      · exact .inl hb
      · exact .inr (.inl (by simp))
    · rcases hb with hb | rfl
      · exact ho.lt b hb
      · exact ho.own b (by simp)) h

/-- An element of such an array. -/
theorem pr_load_iarr {ty E : TypeId} {agg : Bool} {by_ : Nat} {z : Option Value} {x : Operand} {g o i : Nat} {t : Ty} {xs : List t.den} {dd : t.den} (v : Value) (hx : ev L x = some (.pointer (some ⟨g, o, none⟩))) (ht : TyF c.P ty agg t.n by_ z) (hag : t.isPair = agg)
    (hA : Asn.ibox g E (xs.flatMap (enc t)) ∈ As) (hi : i < xs.length) (ho : i * t.n = o) (hv : toV t (enc t (xs.getD i dd)) = v) : PR c (.load ty x) T L As v := by
  have hp := flat_part xs i hi
  have e : xs.getD i dd = xs[i] := by rw [List.getD_eq_getElem?_getD, List.getElem?_eq_getElem hi]; rfl
  refine pr_load_ibox v hx ht hA ?_ ?_ ?_
  · rw [← ho, hp, enc_len]
  · intro h; subst hag; cases t <;> simp_all [Ty.isPair, Ty.n]
  · rw [← ho, hp, ← hv, e, toV_ofCells, hag]

/-- The results' array. -/
theorem resV_arr {ad : Tmp} {ty E : TypeId} {n by_ : Nat} {z : Option Value} {g cap : Nat} {t : Ty} {xs : List t.den} (hx : lk L ad = some (.pointer (some ⟨g, 0, none⟩))) (ht : TyF c.P ty true n by_ z) (hfl : t.flat = true)
    (hA : Asn.rowg g cap E t xs ∈ As) (hc : xs.length = cap) (hn : xs.length * t.n = n) : ResV c L As (.cell ad ty) (.agg (xs.flatMap (enc t)).toArray) := fun a w hf hm => by
  obtain ⟨I, m, ho, rfl, hr⟩ := hm.get hA
  have := run_load_arr (c := c) ht hfl hc hn hr
  simp only [resOf, hf.getD hx, asAddr, Sem.run_bind, Sem.run_pure, Result.andThen_ok, this]
/-- A result in a variable. -/
theorem resV_box {ad : Tmp} {ty E : TypeId} {agg : Bool} {n by_ : Nat} {z : Option Value} {b : Nat} {cs : List Value} (v : Value) (hx : lk L ad = some (.pointer (some ⟨b, 0, none⟩))) (ht : TyF c.P ty agg n by_ z)
    (hA : Asn.box b E cs ∈ As) (hl : cs.length = n) (h1 : agg = false → n = 1) (hv : ofCells agg cs = v) : ResV c L As (.cell ad ty) v := fun a w hf hm => by
  obtain ⟨I, m, ho, rfl, hh⟩ := hm.get hA
  have := run_loadVar_cells ht w ⟨b, 0, none⟩ cs hl h1 (fun j u hu => by rw [Addr.add_mk, cell_of_heap hh]; simpa using hu)
  simp only [resOf, hf.getD hx, asAddr, Sem.run_bind, Sem.run_pure, Result.andThen_ok, this, hv]

/-! ### Entries without a Go body -/

theorem pr_ext {os : List Operand} {vs : List Value} {f : FuncId} {fn : Func} {tys : Array TypeId} {e : Array Value → Sem Value} {v : Value} (hfn : c.P.funcs[f]? = some fn) (hname : (fn.name == "runtime.NumGoroutine") = false) (hb : fn.body.isNone = true) (hn : Extern.findNext fn = none) (he : Extern.find fn = some e)
    (hv : EvL L os vs) (hr : ∀ w, (e vs.toArray).run c.P w = .ok v w) : PR c (.call { callee := .value (.func f), args := os.toArray, argTypes := tys }) T L As v := fun a w hf _ d pos aft gd => by
  have hm := hv.map hf
  have h := run_callFunc_extern hfn hname hb hn he vs.toArray w
  rw [hr w, Result.andThen_ok] at h
  simp only [execOp, resolve, invoke, Deferred.ofValue, Act.eval, Sem.run_bind, Sem.run_pure, Result.andThen_ok, List.map_toArray, hm]
  simpa using h
end ops
end Go.Sep
