/-
  The rules of the calculus for slice literals and for appending to one's own slice. No program in sight. No conditions.
-/
import Derived.Test.YtikllmfjgpmcnaaDoorSepI
import Derived.Maps.AppendAt
import Derived.Great.BuildSlice
namespace Go.Sep
open Go
set_option linter.unusedSimpArgs false

theorem part_take {α : Type} (l : List α) {i n k : Nat} (hi : i < n) : ((l.take (n * k)).drop (i * k)).take k = (l.drop (i * k)).take k := by
  have h := mul_lt_of (k := k) hi (Nat.le_refl _)
  rw [List.drop_take, List.take_take, Nat.min_eq_left (by omega)]
theorem part_left {α : Type} {a b : List α} {i n k : Nat} (ha : a.length = n * k) (hi : i < n) : ((a ++ b).drop (i * k)).take k = (a.drop (i * k)).take k := by
  have h := mul_lt_of (k := k) hi (Nat.le_refl _)
  rw [List.drop_append_of_le_length (by omega), List.take_append_of_le_length (by simp; omega)]
theorem part_right {α : Type} {a b : List α} {i n k : Nat} (ha : a.length = n * k) (hi : n ≤ i) : ((a ++ b).drop (i * k)).take k = (b.drop ((i - n) * k)).take k := by
  have h : n * k ≤ i * k := Nat.mul_le_mul_right _ hi
  rw [List.drop_append, List.drop_of_length_le (by omega), List.nil_append, ha, Nat.sub_mul]
theorem all_parts {α : Type} {p : α → Prop} (l : List α) (k : Nat) : ∀ n, (∀ i, i < n → ∀ u ∈ (l.drop (i * k)).take k, p u) → ∀ u ∈ l.take (n * k), p u
  | 0, _, u, hu => by simp at hu
  | n + 1, h, u, hu => by
    rw [Nat.add_mul, Nat.one_mul, List.take_add] at hu
    rcases List.mem_append.1 hu with hu | hu
    · exact all_parts l k n (fun i hi => h i (by omega)) u hu
    · exact h n (by omega) u hu

section ops
variable {c : Cx} {L : List (Nat × Value)} {As R : List Asn} {Q : Exit → Act → World → Prop} {K : Act → World → Prop} {ops : Array Oper} {rest : List Oper} {T : TypeId} {pos : String} {aft : Array Edge} {gd : Option (Nat × Bool)}

/-- A slice literal of data without slices. -/
theorem jo_buildSlice {ty E : TypeId} {len d : Nat} {parts : Array (Nat × Operand)} {t : Ty} {agg : Bool} {by_ : Nat} {z : Value} (xs : List t.den) (vs : List Value) (hp : ∀ a, Fits c.n L a → (parts.map fun (i, x) => (i, a.eval x)).toList = (vs.zipIdx 0).map fun x => (x.2, x.1)) (hv : vs.map Value.cells = (xs.map (enc t)).map List.toArray)
    (hu : c.P.underlying ty = some (.slice E)) (he : TyF c.P E agg t.n by_ (some z)) (hfl : t.flat = true) (hlen : xs.length = len) (hpos : Nat.blt 0 len = true) (hsm : Nat.ble (len * t.n) 16777216 = true) (hd : Nat.blt d c.n = true)
    (h : ∀ g, J c ((d, .slice (some ⟨g, 0, none⟩) xs.length xs.length) :: L) (.rowg g xs.length E t xs :: As) (wpList c.P ops Q rest)) :
    J c L As (wpList c.P ops Q (⟨some d, .buildSlice ty len parts, T, pos, aft, none⟩ :: rest)) := jo_step rfl fun a w hf hm => by
  obtain ⟨i, hi1, hi2, _, hi4⟩ := he.get
  have hn := t.n_pos
  rw [Nat.blt_eq] at hpos
  have hsm' := Nat.le_of_ble_eq_true hsm
  have hmul : 0 < len * t.n := Nat.mul_pos hpos hn
  have hfill := fill_parts (t := t) vs (xs.map (enc t)) 0 ((Array.range (len * i.size)).map (z.cells[· % z.cells.size]!)) hv (fun cs hcs => by obtain ⟨y, _, rfl⟩ := List.mem_map.1 hcs; exact enc_len y) (by simp [hi2, hlen])
  simp only [Nat.zero_mul, List.take_zero, List.nil_append] at hfill
  have hr := run_buildSlice (P := c.P) w ty E len (parts.map fun (i, x) => (i, a.eval x)) (xs.map (enc t)).flatten.toArray i z hu hi1 hi4 (by rw [hi2]; omega) (by rw [hi2]; omega) (by rw [hp a hf, hi2]; rw [hi2] at hfill; exact hfill)
  have hr' : (execOp a.eval ⟨some d, .buildSlice ty len parts, T, pos, aft, none⟩).run c.P w = .ok (.value (.slice (some ⟨w.heap.size, 0, none⟩) len len)) (w.alloc (.cells (xs.map (enc t)).flatten.toArray E)) := by
    simp only [execOp, Sem.run_bind, hr, Result.andThen_ok, Sem.run_pure]
  show Oper.upon _ _ _ _ _ ((execOp a.eval _).run c.P w)
  rw [hr']
  subst hlen
  have hml : xs.length ≤ maxLen := by
    have : xs.length ≤ xs.length * t.n := Nat.le_mul_of_pos_right _ hn
    simp only [maxLen]; omega
  refine h _ _ _ (hf.put (by rw [Nat.blt_eq] at hd; exact hd) _) (Mem.new (Bs := [.rowg w.heap.size xs.length E t xs]) hm fun I _ => ⟨[w.heap.size], [], rfl, ⟨rfl, ?_⟩, rfl⟩)
  refine rowIs_flat hfl hml ?_
  rw [List.flatMap_def]
  exact heap_alloc_new w _

/-- What an own row's cells are. -/
theorem row_owns {w : World} {I : Blocks} {v : Value} {E : TypeId} {t : Ty} {xs : List t.den} {m : List Nat} (h : (Asn.row v E t xs).sat w I m) :
    ∃ cs, w.ownsRow 0 E t.n v xs.length cs ∧ (∀ i (hi : i < xs.length), repC w I t ((cs.drop (i * t.n)).take t.n) xs[i]) ∧ (∀ b, v.ownBlock = some b ↔ b ∈ m) := by
  rcases h with ⟨rfl, rfl, rfl⟩ | ⟨g, cap, rfl, rfl, C, h1, h2, h3, h4, h5⟩
  · exact ⟨[], ⟨by simp, .inl ⟨rfl, rfl⟩⟩, fun i hi => by simp at hi, fun b => by simp [Value.ownBlock]⟩
  · have hle : xs.length * t.n ≤ C.size := by rw [h4]; exact Nat.mul_le_mul_right _ h2
    refine ⟨C.toList.take (xs.length * t.n), ⟨by simp; omega, .inr ⟨g, cap, C, rfl, Nat.zero_le _, h1, h2, h3, h4, rfl⟩⟩, fun i hi => ?_, fun b => by simp [Value.ownBlock, eq_comm]⟩
    rw [part_take _ hi]; exact h5 i hi

/-- 'append(s, xs...)' to an own slice, out of one's own. -/
theorem jo_append {ty E E' : TypeId} {x y : Operand} {v : Value} {g cap d : Nat} {t : Ty} {xs ys : List t.den} {agg : Bool} {by_ : Nat} {z : Value} (hx : ev L x = some v) (hy : ev L y = some (.slice (some ⟨g, 0, none⟩) ys.length cap)) (hu : c.P.underlying ty = some (.slice E)) (he : TyF c.P E agg t.n by_ (some z)) (hzs : z.cells.size = t.n)
    (hml : xs.length + ys.length ≤ maxLen) (hb : (xs.length + ys.length) * by_ ≤ 140737488355328) (hd : Nat.blt d c.n = true)
    (h : ∀ v', J c ((d, v') :: L) (.row v' E t (xs ++ ys) :: R) (wpList c.P ops Q rest)) :
    J c L (.row v E t xs :: .rowg g cap E' t ys :: R) (wpList c.P ops Q (⟨some d, .call { callee := .builtin .append, args := #[x, y], argTypes := #[ty, ty] }, T, pos, aft, none⟩ :: rest)) := jo_step rfl fun a w hf hm => by
  obtain ⟨i, hi1, hi2, hi3, hi4⟩ := he.get
  obtain ⟨I, m, hE, hs⟩ := hm
  obtain ⟨m1, mr, rfl, h1, m2, m3, rfl, h2, h3⟩ := hs
  obtain ⟨rfl, C2, c1, c2, c3, c4, c5⟩ := h2
  have ho := hE.okw
  obtain ⟨cs, o1, p1, q1⟩ := row_owns h1
  have hle : ys.length * t.n ≤ C2.size := by rw [c4]; exact Nat.mul_le_mul_right _ c2
  have hone : ∀ u ∈ C2.toList.take (ys.length * t.n), u.oneCell' = true := all_parts C2.toList t.n ys.length (fun i hi u hu => repC_one (c5 i hi) u hu)
  obtain ⟨v', w', hr, o2, g1, _, b1⟩ := run_append_own_at (P := c.P) w 0 ty T E i z t.n by_ hu hi1 hi4 hi2 hi3 hzs t.n_pos v xs.length cs o1 ⟨g, 0, none⟩ ys.length cap (C2.toList.take (ys.length * t.n)) (by simp; omega)
    (fun j u hj => by
      rw [List.getElem?_take] at hj
      rw [Addr.add_mk, Nat.zero_add, cell_of_heap c1]
      split at hj
      · simpa using hj
      · cases hj) hone hml hb (Nat.zero_le _)
  have hr' : (execOp a.eval ⟨some d, .call { callee := .builtin .append, args := #[x, y], argTypes := #[ty, ty] }, T, pos, aft, none⟩).run c.P w = .ok (.value v') w' := by
    simp only [execOp, resolve, invoke, builtin, Sem.run_bind, Sem.run_pure, Result.andThen_ok, List.map_toArray, List.map_cons, List.map_nil, hf.ev hx, hf.ev hy, hr]
  show Oper.upon _ _ _ _ _ ((execOp a.eval _).run c.P w)
  rw [hr']
  have hI : ∀ b, I b → w'.heap[b]? = w.heap[b]? := fun b hb' => g1.block b (ho.lt b hb') (fun e => ho.apart b (by simp [(q1 b).1 e.symm]) hb')
  have hrep : ∀ k (hk : k < (xs ++ ys).length), repC w' I t (((cs ++ C2.toList.take (ys.length * t.n)).drop (k * t.n)).take t.n) (xs ++ ys)[k] := fun k hk => by
    rw [List.length_append] at hk
    by_cases hkx : k < xs.length
    · rw [part_left o1.1 hkx, List.getElem_append_left hkx]
      exact repC_mono hI (fun _ h => h) (p1 k hkx)
    · have hk2 : k - xs.length < ys.length := by omega
      rw [part_right o1.1 (by omega), part_take _ hk2, List.getElem_append_right (by omega)]
      exact repC_mono hI (fun _ h => h) (c5 _ hk2)
  -- the new row
  obtain ⟨m1', hsat, hm1⟩ : ∃ m1', (Asn.row v' E t (xs ++ ys)).sat w' I m1' ∧ ((m1' = []) ∨ ∃ g', m1' = [g'] ∧ v'.ownBlock = some g' ∧ g' < w'.heap.size) := by
    obtain ⟨l2, o2⟩ := o2
    rcases o2 with ⟨rfl, hz⟩ | ⟨g', cap', cur, rfl, _, e1, e2, e3, e4, e5⟩
    · refine ⟨[], .inl ⟨rfl, ?_, rfl⟩, .inl rfl⟩
      rw [← List.length_eq_zero_iff, List.length_append]; exact hz
    · refine ⟨[g'], .inr ⟨g', cap', by rw [List.length_append], rfl, cur, e1, by rw [List.length_append]; exact e2, e3, e4, fun k hk => ?_⟩, .inr ⟨g', rfl, rfl, ?_⟩⟩
      · have := hrep k hk
        rw [← e5, part_take _ (by rw [List.length_append] at hk; exact hk)] at this
        exact this
      · rcases Nat.lt_or_ge g' w'.heap.size with h | h
        · exact h
        · rw [Array.getElem?_eq_none h] at e1; cases e1
  have eff : Eff w I (m1 ++ [g]) w' I m1' := by
    refine ⟨g1.os, g1.tape, g1.output, g1.size, fun k hk hkm => g1.block k hk (fun e => hkm (by simp [(q1 k).1 e.symm])), fun _ h => h, fun _ h => .inl h, fun b hb' => Nat.lt_of_lt_of_le (ho.lt b hb') g1.size, ?_, fun b hb' => ?_, fun b hb' => ?_⟩
    · rcases hm1 with rfl | ⟨g', rfl, _⟩ <;> simp
    · rcases hm1 with rfl | ⟨g', rfl, e, _⟩
      · cases hb'
      · obtain rfl := List.mem_singleton.1 hb'
        rcases b1 with b1 | b1
        · exact ho.apart b (by simp [(q1 b).1 (b1 ▸ e)])
        · intro hI'
          have := ho.lt b hI'
          rw [e] at b1
          have := Option.some.inj b1
          omega
    · rcases hm1 with rfl | ⟨g', rfl, e, hlt⟩
      · cases hb'
      · obtain rfl := List.mem_singleton.1 hb'
        refine ⟨?_, hlt⟩
        rcases b1 with b1 | b1
        · exact .inl (by simp [(q1 b).1 (b1 ▸ e)])
        · rw [e] at b1
          have := Option.some.inj b1
          exact .inr (by omega)
  have ho' : Okw w I ((m1 ++ [g]) ++ m3) := by simpa using ho
  have hE' : Eff c.w0 c.I0 c.m0 w I ((m1 ++ [g]) ++ m3) := by simpa using hE
  exact h v' _ _ (hf.put (by rw [Nat.blt_eq] at hd; exact hd) _) ⟨I, m1' ++ m3, hE'.trans (eff.frame ho'), m1', m3, rfl, hsat, Sats.frame ho' eff h3⟩
end ops
end Go.Sep
