/-
  The rules of the calculus for maps that one has made, for making slices, for the least of two numbers, for division, and for what strings.Builder's Grow does. No program in sight. No conditions.
-/
import Derived.Test.YtikllmfjgpmcnaaDoorSepM
import Derived.Lib.MakeNoZero
import Derived.Lib.Bytealg
namespace Go.Sep
open Go
set_option linter.unusedSimpArgs false
set_option linter.unusedVariables false

section ops
variable {c : Cx} {L : List (Nat × Value)} {As R : List Asn} {Q : Exit → Act → World → Prop} {K : Act → World → Prop} {ops : Array Oper} {rest : List Oper} {T : TypeId} {pos : String} {aft : Array Edge} {gd : Option (Nat × Bool)}

/-! ### Numbers -/
theorem pr_minN {x y : Operand} {m n : Nat} {tys : Array TypeId} (hx : ev L x = some (.int .i64 m)) (hy : ev L y = some (.int .i64 n)) : PR c (.call { callee := .builtin .min, args := #[x, y], argTypes := tys }) T L As (.int .i64 ((min m n : Nat) : Int)) := fun a w hf _ d pos aft gd => by
  have e : (if n < m then (n : Int) else (m : Int)) = ((min m n : Nat) : Int) := by
    split <;> (congr 1; omega)
  simp [execOp, resolve, invoke, builtin, Builtin.min_, Builtin.min2, hf.ev hx, hf.ev hy, e]
theorem pr_maxN {x y : Operand} {m n : Nat} {tys : Array TypeId} (hx : ev L x = some (.int .i64 m)) (hy : ev L y = some (.int .i64 n)) : PR c (.call { callee := .builtin .max, args := #[x, y], argTypes := tys }) T L As (.int .i64 ((max m n : Nat) : Int)) := fun a w hf _ d pos aft gd => by
  have e : (if m < n then (n : Int) else (m : Int)) = ((max m n : Nat) : Int) := by
    split <;> (congr 1; omega)
  simp [execOp, resolve, invoke, builtin, Builtin.max_, Builtin.max2, hf.ev hx, hf.ev hy, e]
theorem pr_mulN {t t' : TypeId} {x y : Operand} {m n : Nat} (hx : ev L x = some (.int .i64 m)) (hy : ev L y = some (.int .i64 n)) (h : m * n ≤ 9223372036854775807) : PR c (.binOp .mul t x y t') T L As (.int .i64 ((m * n : Nat) : Int)) := by
  have := pr_mul (c := c) (As := As) (T := T) (t := t) (t' := t') hx hy (by rw [← Int.natCast_mul]; omega)
  rwa [← Int.natCast_mul] at this
theorem pr_quoN {t t' : TypeId} {x y : Operand} {m n : Nat} (hx : ev L x = some (.int .i64 m)) (hy : ev L y = some (.int .i64 n)) (h0 : n ≠ 0) (h : m ≤ 9223372036854775807) : PR c (.binOp .quo t x y t') T L As (.int .i64 ((m / n : Nat) : Int)) := fun a w hf _ d pos aft gd => by
  have hz : ¬ (n : Int) = 0 := by omega
  have e : IntKind.i64.wrap ((m : Int) / (n : Int)) = (m : Int) / (n : Int) := by
    rw [show (m : Int) / (n : Int) = ((m / n : Nat) : Int) from rfl]
    have h2 := Nat.div_le_self m n
    generalize m / n = q at h2 ⊢
    exact wrap_i64 (by omega)
  simp [execOp, hf.ev hx, hf.ev hy, eqGuard, binOp, Op.intDiv, h0, e]
theorem pr_remN {t t' : TypeId} {x y : Operand} {m n : Nat} (hx : ev L x = some (.int .i64 m)) (hy : ev L y = some (.int .i64 n)) (h0 : n ≠ 0) : PR c (.binOp .rem t x y t') T L As (.int .i64 ((m % n : Nat) : Int)) := fun a w hf _ d pos aft gd => by
  have e : (m : Int).tmod n = ((m % n : Nat) : Int) := by rw [Int.tmod_eq_emod_of_nonneg (by omega)]; rfl
  simp [execOp, hf.ev hx, hf.ev hy, eqGuard, binOp, Op.intDiv, h0, e]
theorem pr_quoI {t t' : TypeId} {x y : Operand} {m n : Int} (hx : ev L x = some (.int .i64 m)) (hy : ev L y = some (.int .i64 n)) (hm : 0 ≤ m) (h0 : 0 < n) (h : m ≤ 9223372036854775807) : PR c (.binOp .quo t x y t') T L As (.int .i64 (m / n)) := fun a w hf _ d pos aft gd => by
  have hz : ¬ n = 0 := by omega
  have e : IntKind.i64.wrap (m.tdiv n) = m / n := by
    rw [Int.tdiv_eq_ediv_of_nonneg hm]
    have h1 := Int.ediv_nonneg hm (Int.le_of_lt h0)
    have h2 := Int.ediv_le_self n hm
    exact wrap_i64 (by omega)
  simp [execOp, hf.ev hx, hf.ev hy, eqGuard, binOp, Op.intDiv, hz, e]
theorem pr_remI {t t' : TypeId} {x y : Operand} {m n : Int} (hx : ev L x = some (.int .i64 m)) (hy : ev L y = some (.int .i64 n)) (hm : 0 ≤ m) (h0 : 0 < n) : PR c (.binOp .rem t x y t') T L As (.int .i64 (m % n)) := fun a w hf _ d pos aft gd => by
  have hz : ¬ n = 0 := by omega
  have e : m.tmod n = m % n := Int.tmod_eq_emod_of_nonneg hm
  simp [execOp, hf.ev hx, hf.ev hy, eqGuard, binOp, Op.intDiv, hz, e]
theorem pr_intI_u8 {src dst : TypeId} {x : Operand} {m : Int} (hx : ev L x = some (.int .i64 m)) (hs : c.P.underlying src = some (.int .i64)) (hd : c.P.underlying dst = some (.int .u8)) (hm : 0 ≤ m) (hn : m < 256) : PR c (.convert src dst x) T L As (byte (UInt8.ofNat m.toNat)) := fun a w hf _ d pos aft gd => by
  have e : IntKind.u8.wrap m = ((UInt8.ofNat m.toNat).toNat : Int) := by
    rw [UInt8.toNat_ofNat']
    obtain ⟨k, rfl⟩ := Int.eq_ofNat_of_zero_le hm
    rw [wrap_u8]; rfl
  simp [execOp, hf.ev hx, byte, convert, run_underlying hs, run_underlying hd, Conv.intToInt, e]
theorem pr_u8_int {src dst : TypeId} {x : Operand} {b : UInt8} (hx : ev L x = some (byte b)) (hs : c.P.underlying src = some (.int .u8)) (hd : c.P.underlying dst = some (.int .i64)) : PR c (.convert src dst x) T L As (.int .i64 ((b.toNat : Nat) : Int)) := fun a w hf _ d pos aft gd => by
  have hb := b.toNat_lt
  have e : IntKind.i64.wrap (b.toNat : Int) = b.toNat := wrap_i64 (by omega)
  simp [execOp, hf.ev hx, byte, convert, run_underlying hs, run_underlying hd, Conv.intToInt, e]
theorem pr_int_u8 {src dst : TypeId} {x : Operand} {n : Nat} (hx : ev L x = some (.int .i64 n)) (hs : c.P.underlying src = some (.int .i64)) (hd : c.P.underlying dst = some (.int .u8)) (hn : n < 256) : PR c (.convert src dst x) T L As (byte (UInt8.ofNat n)) := fun a w hf _ d pos aft gd => by
  have e : IntKind.u8.wrap (n : Int) = ((UInt8.ofNat n).toNat : Int) := by rw [wrap_u8, UInt8.toNat_ofNat']
  simp [execOp, hf.ev hx, byte, convert, run_underlying hs, run_underlying hd, Conv.intToInt, e]

/-! ### Slices of one's own -/
theorem pr_slice_arr {ty E : TypeId} {x y : Operand} {g n h : Nat} {K : IntKind} {agg : Bool} {k by_ : Nat} {z : Option Value} (hx : ev L x = some (.pointer (some ⟨g, 0, none⟩))) (hy : ev L y = some (.int K h)) (ht : c.P.underlying ty = some (.array n E)) (he : TyF c.P E agg k by_ z) (hh : h ≤ n) :
    PR c (.slice ty x none (some y) none) T L As (.slice (some ⟨g, 0, none⟩) h n) := fun a w hf _ d pos aft gd => by
  have hz : (⟨g, 0, none⟩ : Addr).add (0 * k) = ⟨g, 0, none⟩ := by rw [Addr.add_mk]; simp
  simp [execOp, Instr.sliceAt, Instr.sureAddr, Instr.sliceBounds, hf.ev hx, hf.ev hy, run_underlying ht, run_sliceBound hh, he.sizeOf, Addr.add_mk]
theorem pr_slice_own {ty E : TypeId} {x y : Operand} {g len cap h : Nat} {K : IntKind} {agg : Bool} {k by_ : Nat} {z : Option Value} (hx : ev L x = some (.slice (some ⟨g, 0, none⟩) len cap)) (hy : ev L y = some (.int K h)) (ht : c.P.underlying ty = some (.slice E)) (he : TyF c.P E agg k by_ z) (hh : h ≤ cap) :
    PR c (.slice ty x none (some y) none) T L As (.slice (some ⟨g, 0, none⟩) h cap) := fun a w hf _ d pos aft gd => by
  simp [execOp, Instr.sliceAt, Instr.slice, Instr.sliceBounds, hf.ev hx, hf.ev hy, run_underlying ht, run_sliceBound hh, he.sizeOf, Addr.add_mk]
/-- Fewer elements of an own slice. -/
theorem j_own_take {g cap : Nat} {E : TypeId} {t : Ty} {xs : List t.den} (k : Nat) (h : J c L (.rowg g cap E t (xs.take k) :: R) K) : J c L (.rowg g cap E t xs :: R) K :=
  j_map (fun w hw => Mem.step (Ps := [_]) (Bs := [_]) hw fun I m1 ho hs => by
    obtain ⟨m1, m2, rfl, ⟨rfl, C, h1, h2, h3, h4, h5⟩, rfl⟩ := hs
    refine ⟨I, [g], ho.eff, [g], [], rfl, ⟨rfl, C, h1, by rw [List.length_take]; omega, h3, h4, fun i hi => ?_⟩, rfl⟩
    rw [List.length_take] at hi
    rw [List.getElem_take]
    exact h5 i (by omega)) h

/-- Slicing a row of one's own. -/
theorem jo_slice_own {ty E : TypeId} {x y : Operand} {g len cap h d : Nat} {K : IntKind} {agg : Bool} {k by_ : Nat} {z : Option Value} {t : Ty} {E' : TypeId} {xs : List t.den} (hx : ev L x = some (.slice (some ⟨g, 0, none⟩) len cap)) (hy : ev L y = some (.int K h)) (ht : c.P.underlying ty = some (.slice E)) (he : TyF c.P E agg k by_ z) (hc : h ≤ cap) (hl : h ≤ xs.length) (hd : Nat.blt d c.n = true)
    (hh : J c ((d, .slice (some ⟨g, 0, none⟩) (xs.take h).length cap) :: L) (.rowg g cap E' t (xs.take h) :: R) (wpList c.P ops Q rest)) : J c L (.rowg g cap E' t xs :: R) (wpList c.P ops Q (⟨some d, .slice ty x none (some y) none, T, pos, aft, none⟩ :: rest)) := by
  have e : (xs.take h).length = h := by rw [List.length_take]; omega
  rw [e] at hh
  exact jo_pure hd (pr_slice_own hx hy ht he hc) (j_own_take h hh)
/-- A variable that holds a slice from the start. -/
theorem jo_boxV {E : TypeId} {x : Operand} {v : Value} {d : Nat} (hx : ev L x = some v) (cs : List Value) (hz : ∀ w I m, Sats w I As m → v.cells = cs.toArray) (hd : Nat.blt d c.n = true)
    (h : ∀ b, J c ((d, .pointer (some ⟨b, 0, none⟩)) :: L) (.box b E cs :: As) (wpList c.P ops Q rest)) : J c L As (wpList c.P ops Q (⟨some d, .box E x, T, pos, aft, none⟩ :: rest)) := fun a w hf hm => by
  obtain ⟨I, m, he, hs⟩ := id hm
  exact jo_box hx cs (hz w I m hs) hd h a w hf hm
/-! ### Equality of structs of a string and a number -/
theorem run_eq_si {P : Program} {w : World} {t : TypeId} {f1 f2 : Field} {a1 b1 : List UInt8} {a2 b2 : Int} {k : IntKind} (hu : P.underlying t = some (.struct #[f1, f2])) (hp : P.stoodInHeld t = false)
    (n1 : (f1.name == "_") = false) (n2 : (f2.name == "_") = false) (o1 : f1.offset = 0) (o2 : f2.offset = 1) (u1 : P.underlying f1.type = some .string) (u2 : P.underlying f2.type = some (.int k))
    {by1 by2 : Nat} {z1 z2 : Option Value} (t1 : TyF P f1.type false 1 by1 z1) (t2 : TyF P f2.type false 1 by2 z2) :
    (Op.equalIn 10000 t (.agg #[str a1, .int k a2]) (.agg #[str b1, .int k b2])).run P w = .ok (decide (a1 = b1) && decide (a2 = b2)) w := by
  have hfs : P.fieldsOf t = #[f1, f2] := by simp [Program.fieldsOf, hu]
  have n1' : f1.name ≠ "_" := by simpa using n1
  have n2' : f2.name ≠ "_" := by simpa using n2
  have p1 : ∀ (x y : Value) , (part f1.type #[x, y] 0).run P w = .ok x w := fun x y => by simp [part, t1.isAgg]
  have p2 : ∀ (x y : Value) , (part f2.type #[x, y] 1).run P w = .ok y w := fun x y => by simp [part, t2.isAgg]
  have e1 : ∀ d t (a b : List UInt8), P.underlying t = some .string → (Op.equalIn (d + 1) t (str a) (str b)).run P w = .ok (decide (a = b)) w := fun d t a b h => by
    show (Op.equalIn (d + 1) t (.string _) (.string _)).run P w = _
    rw [run_equalIn_string w d t _ _ h, bytes_toList, bytes_toList]
    congr 1
    by_cases hab : a = b <;> simp [hab]
  have e2 : ∀ d t (a b : Int), P.underlying t = some (.int k) → (Op.equalIn (d + 1) t (.int k a) (.int k b)).run P w = .ok (decide (a = b)) w := fun d t a b h => by
    unfold Op.equalIn
    by_cases hab : a = b <;> simp [run_underlying h, hab]
  rw [show (10000 : Nat) = 9999 + 1 from rfl, run_equalIn_agg w 9999 t _ _ (by rw [hfs]; exact hu) hp, hfs]
  simp only [Op.eqFields, if_pos n1', if_pos n2', Sem.run_bind, o1, o2, p1, p2, Result.andThen_ok, e1 9998 _ _ _ u1, Sem.run_ite]
  by_cases h1 : a1 = b1
  · simp only [h1, decide_true, Bool.not_true, Bool.false_eq_true, if_false, Sem.run_bind, o1, o2, p1, p2, Result.andThen_ok, e2 9998 _ _ _ u2, Sem.run_ite, Bool.true_and]
    by_cases h2 : a2 = b2 <;> simp [h2]
  · simp [h1]
theorem pr_eql_si {t t' : TypeId} {x y : Operand} {f1 f2 : Field} {a1 b1 : List UInt8} {a2 b2 : Int} {k : IntKind} (hx : ev L x = some (.agg #[str a1, .int k a2])) (hy : ev L y = some (.agg #[str b1, .int k b2])) (hu : c.P.underlying t = some (.struct #[f1, f2])) (hp : c.P.stoodInHeld t = false) (hm : c.P.eqGuardType c.P.depth t = false)
    (n1 : (f1.name == "_") = false) (n2 : (f2.name == "_") = false) (o1 : f1.offset = 0) (o2 : f2.offset = 1) (u1 : c.P.underlying f1.type = some .string) (u2 : c.P.underlying f2.type = some (.int k))
    {by1 by2 : Nat} {z1 z2 : Option Value} (t1 : TyF c.P f1.type false 1 by1 z1) (t2 : TyF c.P f2.type false 1 by2 z2) : PR c (.binOp .eql t x y t') T L As (.bool (decide (a1 = b1) && decide (a2 = b2))) := fun a w hf _ d pos aft gd => by
  simp only [execOp, hf.ev hx, hf.ev hy, Sem.run_bind, run_eqGuard_agg w _ _ _ _ _ _ hm, Result.andThen_ok, run_eql_struct, run_eq_si hu hp n1 n2 o1 o2 u1 u2 t1 t2, Sem.run_pure]
theorem pr_neq_si {t t' : TypeId} {x y : Operand} {f1 f2 : Field} {a1 b1 : List UInt8} {a2 b2 : Int} {k : IntKind} (hx : ev L x = some (.agg #[str a1, .int k a2])) (hy : ev L y = some (.agg #[str b1, .int k b2])) (hu : c.P.underlying t = some (.struct #[f1, f2])) (hp : c.P.stoodInHeld t = false) (hm : c.P.eqGuardType c.P.depth t = false)
    (n1 : (f1.name == "_") = false) (n2 : (f2.name == "_") = false) (o1 : f1.offset = 0) (o2 : f2.offset = 1) (u1 : c.P.underlying f1.type = some .string) (u2 : c.P.underlying f2.type = some (.int k))
    {by1 by2 : Nat} {z1 z2 : Option Value} (t1 : TyF c.P f1.type false 1 by1 z1) (t2 : TyF c.P f2.type false 1 by2 z2) : PR c (.binOp .neq t x y t') T L As (.bool (!(decide (a1 = b1) && decide (a2 = b2)))) := fun a w hf _ d pos aft gd => by
  simp only [execOp, hf.ev hx, hf.ev hy, Sem.run_bind, run_eqGuard_agg w _ _ _ _ _ _ hm, Result.andThen_ok, run_neq_struct, run_eq_si hu hp n1 n2 o1 o2 u1 u2 t1 t2, Sem.run_pure]

theorem map_range_mod {α : Type} [Inhabited α] (z : Array α) (k n : Nat) (hk : z.size = k) (h0 : 0 < k) : ((Array.range (n * k)).map (z[· % z.size]!)).toList = (List.replicate n z.toList).flatten := by
  subst hk
  apply List.ext_getElem?
  intro i
  simp only [Array.toList_map, Array.toList_range, List.getElem?_map]
  by_cases hi : i < n * z.size
  · rw [List.getElem?_range hi]
    simp only [Option.map_some]
    have hm : i % z.size < z.size := Nat.mod_lt _ h0
    have hl : ((List.replicate n z.toList).flatten).length = n * z.size := by rw [flatten_len _ z.size (fun cs hcs => by rw [List.eq_of_mem_replicate hcs, Array.length_toList]), List.length_replicate]
    have hi2 : i < ((List.replicate n z.toList).flatten).length := by omega
    rw [List.getElem?_eq_getElem hi2, getElem!_pos z _ hm]
    congr 1
    have key : ∀ (n i : Nat) (hi : i < ((List.replicate n z.toList).flatten).length), ((List.replicate n z.toList).flatten)[i] = z[i % z.size]'(Nat.mod_lt _ h0) := by
      intro n
      induction n with
      | zero => intro i hi; simp at hi
      | succ n ih =>
        intro i hi
        simp only [List.replicate_succ, List.flatten_cons] at hi ⊢
        by_cases h : i < z.toList.length
        · rw [List.getElem_append_left h]
          have : i % z.size = i := Nat.mod_eq_of_lt (by simpa using h)
          simp [this]
        · have hge : z.size ≤ i := by simpa using h
          rw [List.getElem_append_right (by omega), ih]
          congr 1
          rw [Array.length_toList, ← Nat.mod_eq_sub_mod hge]
    exact (key n i hi2).symm
  · have hl : ((List.replicate n z.toList).flatten).length = n * z.size := by rw [flatten_len _ z.size (fun cs hcs => by rw [List.eq_of_mem_replicate hcs, Array.length_toList]), List.length_replicate]
    rw [List.getElem?_eq_none (by simp; omega), List.getElem?_eq_none (by omega)]; rfl

/-- 'make([]T, n)'. -/
theorem jo_makeSlice {ty E : TypeId} {x : Operand} {n d : Nat} {t : Ty} {agg : Bool} {by_ : Nat} {z : Value} (dd : t.den) (hx : ev L x = some (.int .i64 (n : Nat))) (hu : c.P.underlying ty = some (.slice E)) (he : TyF c.P E agg t.n by_ (some z)) (hz : z.cells = (enc t dd).toArray) (hfl : t.flat = true)
    (hn : n ≤ maxLen) (hb : by_ * n ≤ 281474976710656) (hd : Nat.blt d c.n = true)
    (h : ∀ g, J c ((d, .slice (some ⟨g, 0, none⟩) n n) :: L) (.rowg g n E t (List.replicate n dd) :: As) (wpList c.P ops Q rest)) :
    J c L As (wpList c.P ops Q (⟨some d, .makeSlice ty x x, T, pos, aft, none⟩ :: rest)) := jo_step rfl fun a w hf hm => by
  obtain ⟨i, hi1, hi2, hi3, hi4⟩ := he.get
  have hmx : n ≤ 9223372036854775807 := by simp only [maxLen] at hn; omega
  have hw : IntKind.i64.wrap (n : Int) = n := wrap_i64 (by omega)
  have hcs : z.cells.size = t.n := by rw [hz]; simp [enc_len]
  show Oper.upon _ _ _ _ _ ((execOp a.eval _).run c.P w)
  have hcells : ((Array.range (n * t.n)).map (z.cells[· % z.cells.size]!)) = ((List.replicate n dd).flatMap (enc t)).toArray := by
    apply Array.ext'
    rw [map_range_mod z.cells t.n n hcs t.n_pos, hz, List.flatMap_def, List.map_replicate]
  have hr : (execOp a.eval ⟨some d, .makeSlice ty x x, T, pos, aft, none⟩).run c.P w = .ok (.value (.slice (some ⟨w.heap.size, 0, none⟩) n n)) (w.alloc (.cells ((List.replicate n dd).flatMap (enc t)).toArray E)) := by
    have h1 : ¬ ((by_ : Int) * (n : Int) > 281474976710656) := by rw [← Int.natCast_mul]; omega
    by_cases h0 : n = 0
    · subst h0
      have hw0 : IntKind.i64.wrap 0 = 0 := rfl
      simp [execOp, Instr.makeSlice, hf.ev hx, run_underlying hu, asInt, asIntOf, typeInfo, hi1, hi3, hw0, sizeOf, hi2, newRow]
      exact congrArg (fun x => w.alloc (Obj.cells x E)) (Array.eq_empty_of_size_eq_zero (by rw [Array.size_map, Array.size_range]))
    · have h2 : ¬ n * t.n = 0 := by have := t.n_pos; rw [Nat.mul_eq_zero]; omega
      have h3 : ¬ (n : Int) < 0 := by omega
      have h4 : ¬ 281474976710656 < (by_ : Int) * (n : Int) := h1
      simp [execOp, Instr.makeSlice, hf.ev hx, run_underlying hu, asInt, asIntOf, typeInfo, hi1, hi3, hi4, hw, sizeOf, hi2, newRow, zeroValue, h4, h3, h0, Nat.ne_of_gt t.n_pos]
      rw [← hcells, hcs, if_neg h2]
  rw [hr]
  refine h _ _ _ (hf.put (by rw [Nat.blt_eq] at hd; exact hd) _) (Mem.new (Bs := [.rowg w.heap.size n E t (List.replicate n dd)]) hm fun I _ => ⟨[w.heap.size], [], rfl, ⟨rfl, ?_⟩, rfl⟩)
  have := rowIs_flat (w := w.alloc (.cells ((List.replicate n dd).flatMap (enc t)).toArray E)) (I := I) (E := E) (xs := List.replicate n dd) hfl (by rw [List.length_replicate]; exact hn) (heap_alloc_new w _)
  rwa [List.length_replicate] at this

/-! ### Maps of one's own -/
theorem jo_makeMap {t : TypeId} {d : Nat} (hd : Nat.blt d c.n = true) (h : ∀ r, J c ((d, .map (some r)) :: L) (.mp r [] 0 :: As) (wpList c.P ops Q rest)) : J c L As (wpList c.P ops Q (⟨some d, .makeMap t none, T, pos, aft, none⟩ :: rest)) := jo_step rfl fun a w hf hm => by
  show Oper.upon _ _ _ _ _ ((execOp a.eval _).run c.P w)
  have hr : (execOp a.eval ⟨some d, .makeMap t none, T, pos, aft, none⟩).run c.P w = .ok (.value (.map (some w.heap.size))) (w.alloc (.map #[] 0)) := by
    have : (Instr.makeMap t none).run c.P w = .ok (.map (some w.heap.size)) (w.alloc (.map #[] 0)) := rfl
    simp [execOp, this]
  rw [hr]
  exact h _ _ _ (hf.put (by rw [Nat.blt_eq] at hd; exact hd) _) (Mem.new (Bs := [.mp w.heap.size [] 0]) hm fun I _ => ⟨[w.heap.size], [], rfl, ⟨rfl, heap_alloc_new w _⟩, rfl⟩)

theorem run_checkKeyS {P : Program} {w : World} {b : Bool} {n : Nat} {t : TypeId} {v : Value} {k : IntKind} (ht : P.underlying t = some (.int k) ∨ P.underlying t = some .string) : (Instr.checkKey b (n + 1) t v).run P w = .ok () w := by
  rcases ht with ht | ht <;> (unfold Instr.checkKey; simp [run_underlying ht])
theorem run_checkKey {P : Program} {w : World} {b : Bool} {t : TypeId} {v : Value} {k : IntKind} (ht : P.underlying t = some (.int k) ∨ P.underlying t = some .string) : (Instr.checkKey b 10000 t v).run P w = .ok () w := run_checkKeyS (n := 9999) ht
theorem run_findKey {P : Program} {w : World} {t : TypeId} {td : TypeDesc} {v : Value} {es : List MapEntry} {r : Option (Nat × Value)} (ht : P.underlying t = some td) (h : Instr.findNow td v es 0 = some r) : (Instr.findKey t v es).run P w = .ok r w := by
  simp [Instr.findKey, run_underlying ht, h]
theorem run_getMap {P : Program} {w : World} {r : Nat} {es : Array MapEntry} {clk : Nat} (h : w.heap[r]? = some (.map es clk)) : (getObj r).run P w = .ok (.map es clk) w := by
  simp [getObj, Sem.run, h]

/-- A new key. -/
theorem jo_insert {t kt et : TypeId} {x y v : Operand} {r clk : Nat} {es : List MapEntry} {kv vv : Value} {k : IntKind} {td : TypeDesc} (hx : ev L x = some (.map (some r))) (hy : ev L y = some kv) (hv : ev L v = some vv) (ht : c.P.underlying t = some (.map kt et)) (hk : c.P.underlying kt = some td) (htd : td = .int k ∨ td = .string) (hn : Instr.findNow td kv es 0 = some none)
    (h : J c L (.mp r (es ++ [{ key := kv, val := vv, born := clk }]) (clk + 1) :: R) (wpList c.P ops Q rest)) : J c L (.mp r es clk :: R) (wpList c.P ops Q (⟨none, .insert t x y v, T, pos, aft, none⟩ :: rest)) := jo_step rfl fun a w hf hm => by
  obtain ⟨I, m, ho, rfl, hh⟩ := hm.get (A := .mp r es clk) (by simp)
  show Oper.upon _ _ _ _ _ ((execOp a.eval _).run c.P w)
  have hck : (Instr.checkKey false 10000 kt kv).run c.P w = .ok () w := run_checkKey (k := k) (by rcases htd with rfl | rfl; exact .inl hk; exact .inr hk)
  have hfk : (Instr.findKey kt kv es).run c.P w = .ok none w := run_findKey hk hn
  have hset : ∀ o, (setObj r o).run c.P w = .ok () { w with heap := w.heap.set! r o } := fun o => by simp [setObj, Sem.run, hh]
  have hr : (execOp a.eval ⟨none, .insert t x y v, T, pos, aft, none⟩).run c.P w = .ok .skip { w with heap := w.heap.set! r (.map (es ++ [({ key := kv, val := vv, born := clk } : MapEntry)]).toArray (clk + 1)) } := by
    simp only [execOp, hf.ev hx, hf.ev hy, hf.ev hv, Instr.mapUpdate, Sem.run_bind, run_underlying ht, Result.andThen_ok, run_getMap hh, hck, List.toList_toArray, hfk, hset, Sem.run_pure]
    simp
  rw [hr]
  have hlt : r < w.heap.size := by
    rcases Nat.lt_or_ge r w.heap.size with h | h
    · exact h
    · rw [Array.getElem?_eq_none h] at hh; cases hh
  refine h _ _ (hf.none _) (Mem.step (Ps := [.mp r es clk]) (Bs := [.mp r _ _]) hm fun I m1 ho hs => ?_)
  obtain ⟨m1, m2, rfl, ⟨rfl, _⟩, rfl⟩ := hs
  refine ⟨I, [r], Eff.write ho rfl rfl rfl (by simp) (fun k hk => by simp [Array.getElem?_setIfInBounds, Ne.symm hk]), [r], [], rfl, ⟨rfl, ?_⟩, rfl⟩
  simp [hlt]

theorem pr_lookup_hit {t kt et : TypeId} {x y : Operand} {r clk i : Nat} {es : List MapEntry} {kv vv : Value} {k : IntKind} {td : TypeDesc} (hx : ev L x = some (.map (some r))) (hy : ev L y = some kv) (hA : Asn.mp r es clk ∈ As) (ht : c.P.underlying t = some (.map kt et)) (hk : c.P.underlying kt = some td) (htd : td = .int k ∨ td = .string) (hn : Instr.findNow td kv es 0 = some (some (i, vv))) :
    PR c (.lookup t x y true) T L As (.tuple #[vv, .bool true]) := fun a w hf hm d pos aft gd => by
  obtain ⟨I, m, ho, rfl, hh⟩ := hm.get hA
  have hck : ∀ b, (Instr.checkKey b 10000 kt kv).run c.P w = .ok () w := fun b => run_checkKey (k := k) (by rcases htd with rfl | rfl; exact .inl hk; exact .inr hk)
  have hfk : (Instr.findKey kt kv es).run c.P w = .ok (some (i, vv)) w := run_findKey hk hn
  simp [execOp, hf.ev hx, hf.ev hy, Instr.lookup, run_underlying ht, run_getMap hh, hck, hfk]
theorem pr_lookup_miss {t kt et : TypeId} {x y : Operand} {r clk : Nat} {es : List MapEntry} {kv z : Value} {k : IntKind} {td : TypeDesc} {agg : Bool} {n by_ : Nat} (hx : ev L x = some (.map (some r))) (hy : ev L y = some kv) (hA : Asn.mp r es clk ∈ As) (ht : c.P.underlying t = some (.map kt et)) (hk : c.P.underlying kt = some td) (htd : td = .int k ∨ td = .string) (hz : TyF c.P et agg n by_ (some z)) (hn : Instr.findNow td kv es 0 = some none) :
    PR c (.lookup t x y true) T L As (.tuple #[z, .bool false]) := fun a w hf hm d pos aft gd => by
  obtain ⟨I, m, ho, rfl, hh⟩ := hm.get hA
  obtain ⟨i, hi1, _, _, hi4⟩ := hz.get
  have hck : ∀ b, (Instr.checkKey b 10000 kt kv).run c.P w = .ok () w := fun b => run_checkKey (k := k) (by rcases htd with rfl | rfl; exact .inl hk; exact .inr hk)
  have hfk : (Instr.findKey kt kv es).run c.P w = .ok none w := run_findKey hk hn
  simp [execOp, hf.ev hx, hf.ev hy, Instr.lookup, run_underlying ht, run_getMap hh, hck, hfk, zeroValue, typeInfo, hi1, hi4]

/-! ### Growing a builder -/
theorem pr_cap_nil {x : Operand} {ty E : TypeId} (hx : ev L x = some (.slice none 0 0)) (ht : c.P.underlying ty = some (.slice E)) : PR c (.call { callee := .builtin .cap, args := #[x], argTypes := #[ty] }) T L As (.int .i64 ((0 : Nat) : Int)) := fun a w hf _ d pos aft gd => by
  simp [execOp, resolve, invoke, builtin, Builtin.cap_, hf.ev hx, run_underlying ht, goInt]
theorem pr_copy_nil {x y : Operand} {ty ty2 E : TypeId} {g cap : Nat} {agg : Bool} {n by_ : Nat} {z : Option Value} (hx : ev L x = some (.slice (some ⟨g, 0, none⟩) 0 cap)) (hy : ev L y = some (.slice none 0 0)) (ht : c.P.underlying ty = some (.slice E)) (he : TyF c.P E agg n by_ z) :
    PR c (.call { callee := .builtin .copy, args := #[x, y], argTypes := #[ty, ty2] }) T L As (.int .i64 ((0 : Nat) : Int)) := fun a w hf _ d pos aft gd => by
  simp [execOp, resolve, invoke, builtin, Builtin.copy_, hf.ev hx, hf.ev hy, run_underlying ht, he.sizeOf, Builtin.lenOf, Builtin.firstCells, storeCells, goInt]

/-- bytealg.MakeNoZero: a row of bytes that nobody has said anything of. -/
theorem jo_makeNoZero {x : Operand} {f : FuncId} {fn : Func} {tys ps : Array TypeId} {t E : TypeId} {n d : Nat} (hfn : c.P.funcs[f]? = some fn) (hname : (fn.name == "runtime.NumGoroutine") = false) (hb : fn.body.isNone = true) (hnx : Extern.findNext fn = none) (he : Extern.find fn = some (Extern.BytealgMakeNoZero.makeNoZero ps #[t]))
    (hx : ev L x = some (.int .i64 (n : Nat))) (hu : c.P.underlying t = some (.slice E)) (hn : n ≤ 140737488355328) (hd : Nat.blt d c.n = true)
    (h : ∀ g cap, n ≤ cap → J c ((d, .slice (some ⟨g, 0, none⟩) n cap) :: L) (.rowg g cap E .u8 [] :: As) (wpList c.P ops Q rest)) : J c L As (wpList c.P ops Q (⟨some d, .call { callee := .value (.func f), args := #[x], argTypes := tys }, T, pos, aft, none⟩ :: rest)) := jo_step rfl fun a w hf hm => by
  obtain ⟨cs, hr, h1, h2⟩ := Lib.run_makeNoZero (P := c.P) w ps t E hu n (by omega)
  have hc := run_callFunc_extern hfn hname hb hnx he #[.int .i64 n] w
  rw [hr, Result.andThen_ok] at hc
  have hr' : (execOp a.eval ⟨some d, .call { callee := .value (.func f), args := #[x], argTypes := tys }, T, pos, aft, none⟩).run c.P w = .ok (.value (.slice (some ⟨w.heap.size, 0, none⟩) n cs.size)) (w.drew.drew.alloc (.cells cs E)) := by
    have hx' := hf.ev hx
    simp only [execOp, resolve, invoke, Deferred.ofValue, Sem.run_bind, Sem.run_pure, Result.andThen_ok, List.map_toArray, List.map_cons, List.map_nil, hx']
    simpa [Act.eval] using hc
  show Oper.upon _ _ _ _ _ ((execOp a.eval _).run c.P w)
  rw [hr']
  exact h w.heap.size cs.size h1 _ _ (hf.put (by rw [Nat.blt_eq] at hd; exact hd) _) (Mem.new (w := w.drew.drew) (Bs := [.rowg w.heap.size cs.size E .u8 []]) hm.drew.drew fun I _ => ⟨[w.heap.size], [], rfl, ⟨rfl, cs, heap_alloc_new w.drew.drew _, Nat.zero_le _, h2 (by simp only [maxLen]; omega), by simp [Ty.n], fun i hi => by simp at hi⟩, rfl⟩)
end ops
end Go.Sep
