/-
  The rules of the calculus for guarded operations and for slices: conversion, length, indexing, stores, append, make, slicing. No program in sight. No conditions.
-/
import Derived.Test.YtikllmfjgpmcnaaDoorSepD
import Derived.Laws.AppendOwnNone
import Derived.Laws.OwnMore
namespace Go.Sep
open Go

/-! ### Guarded operations that leave the world alone: no parting -/

/-- A value that is there under b alone. -/
def gv (b : Bool) (v : Value) : Value := bif b then v else undef

theorem evg {L : List (Nat × Value)} {x : Operand} {b : Bool} {v : Value} (h : ev L x = some (gv b v)) (hb : b = true) : ev L x = some v := by subst hb; exact h

section guarded
variable {c : Cx} {L : List (Nat × Value)} {As R : List Asn} {Q : Exit → Act → World → Prop} {K : Act → World → Prop} {ops : Array Oper} {rest : List Oper} {T : TypeId} {pos : String} {aft : Array Edge}

theorem jo_gpure {op : Op} {d j t : Nat} {b b' want : Bool} {v : Value} (hj : (ops[j]?).bind (·.dst) = some t) (hl : lk L t = some (.bool b)) (hd : Nat.blt d c.n = true) (hw : (b == want) = b')
    (hp : b' = true → PR c op T L As v) (h : J c ((d, gv b' v) :: L) As (wpList c.P ops Q rest)) : J c L As (wpList c.P ops Q (⟨some d, op, T, pos, aft, some (j, want)⟩ :: rest)) := fun a w hf hm => by
  have hd' : d < c.n := by rw [Nat.blt_eq] at hd; exact hd
  have hy : yielded ops a.tmps j = some b := by
    have := hf.2.2 t _ hl
    simp [yielded, hj, this]
  unfold wpList
  cases hb : b' with
  | true =>
    have e : b = want := by rw [hb] at hw; simpa using hw
    rw [if_pos (by simp [Region.wanted, hy, e])]
    refine .inl ?_
    show Oper.upon _ _ _ _ _ ((execOp a.eval _).run c.P w)
    rw [hp hb a w hf hm]
    have := hf.put hd' (gv b' v)
    rw [hb] at this h
    exact h _ w this hm
  | false =>
    have e : ¬ b = want := by rw [hb] at hw; simpa using hw
    rw [if_neg (by simp [Region.wanted, hy, e])]
    have := hf.put hd' (gv b' v)
    rw [hb] at this h
    exact h _ w this hm

theorem pr_pick_and {x y z : Operand} {b b2 : Bool} (hx : ev L x = some (.bool b)) (hy : ev L y = some (gv (b == true) (.bool b2))) (hz : ev L z = some (.bool false)) : PR c (.pick x y z) T L As (.bool (b && b2)) := fun a w hf _ d pos aft gd => by
  cases b <;> simp [execOp, hf.ev hx, hf.ev hy, hf.ev hz, asBool, gv]
theorem pr_pick_or {x y z : Operand} {b b2 : Bool} (hx : ev L x = some (.bool b)) (hy : ev L y = some (.bool true)) (hz : ev L z = some (gv (b == false) (.bool b2))) : PR c (.pick x y z) T L As (.bool (b || b2)) := fun a w hf _ d pos aft gd => by
  cases b <;> simp [execOp, hf.ev hx, hf.ev hy, hf.ev hz, asBool, gv]

/-- A guarded call that hands back no memory. -/
theorem jo_gcall {os : List Operand} {vs : List Value} {f : FuncId} {tys : Array TypeId} {Bs : List Asn} {val : Unit → Value} {d j t : Nat} {b b' want : Bool} (hj : (ops[j]?).bind (·.dst) = some t) (hl : lk L t = some (.bool b)) (hw : (b == want) = b')
    (hc : Cal c.P f) (con : b' = true → Con c.P f vs.toArray Bs val (fun _ => [])) (hv : b' = true → EvL L os vs) (hd : Nat.blt d c.n = true) (hB : b' = true → HasP As Bs)
    (h : J c ((d, gv b' (val ())) :: L) As (wpList c.P ops Q rest)) : J c L As (wpList c.P ops Q (⟨some d, .call { callee := .value (.func f), args := os.toArray, argTypes := tys }, T, pos, aft, some (j, want)⟩ :: rest)) := by
  cases hb : b' with
  | true =>
    have e : b = want := by rw [hb] at hw; simpa using hw
    refine jo_run hj hl e (jo_callp hc (con hb) (hv hb) hd (hB hb) fun i => ?_)
    rw [hb] at h
    exact h
  | false =>
    intro a w hf hm
    have hy : yielded ops a.tmps j = some b := by
      have := hf.2.2 t _ hl
      simp [yielded, hj, this]
    have e : ¬ b = want := by rw [hb] at hw; simpa using hw
    unfold wpList
    rw [if_neg (by simp [Region.wanted, hy, e])]
    rw [hb] at h
    exact h _ w (hf.put (by rw [Nat.blt_eq] at hd; exact hd) _) hm
end guarded

/-! ### Data without slices: the cells are known -/

def Ty.flat : Ty → Bool
  | .list _ => false
  | .pair a b => a.flat && b.flat
  | _ => true

def enc : (t : Ty) → t.den → List Value
  | .bool, x => [.bool x]
  | .int k, x => [.int k x]
  | .u8, x => [byte x]
  | .str, x => [str x]
  | .list _, _ => [.tuple #[]]
  | .pair a b, x => enc a x.1 ++ enc b x.2

theorem enc_len : ∀ {t : Ty} (x : t.den), (enc t x).length = t.n
  | .bool, _ | .int _, _ | .u8, _ | .str, _ | .list _, _ => rfl
  | .pair a b, x => by simp only [enc, List.length_append, enc_len, Ty.n]

theorem repC_flat {w : World} {I : Blocks} : ∀ {t : Ty} {cs : List Value} {x : t.den}, t.flat = true → (repC w I t cs x ↔ cs = enc t x)
  | .bool, _, _, _ | .int _, _, _, _ | .u8, _, _, _ | .str, _, _, _ => by simp only [repC, enc]
  | .list _, _, _, h => by cases h
  | .pair a b, cs, x, h => by
    have h' : a.flat = true ∧ b.flat = true := by simpa [Ty.flat] using h
    simp only [repC, enc]
    constructor
    · rintro ⟨c1, c2, rfl, h1, h2⟩
      rw [(repC_flat h'.1).1 h1, (repC_flat h'.2).1 h2]
    · rintro rfl
      exact ⟨_, _, rfl, (repC_flat h'.1).2 rfl, (repC_flat h'.2).2 rfl⟩

theorem toV_ofCells (t : Ty) (cs : List Value) : toV t cs = ofCells t.isPair cs := by unfold toV ofCells; cases t.isPair <;> rfl

/-! ### Rows -/

theorem rowIs.cell {w : World} {I : Blocks} {mk : Bool} {g cap : Nat} {E : TypeId} {t : Ty} {xs : List t.den} (h : rowIs w I mk g cap E t xs) {i : Nat} (hi : i < xs.length) :
    ∃ cs, repC w I t cs xs[i] ∧ cs.length = t.n ∧ ∀ j v, cs[j]? = some v → w.cell? ⟨g, i * t.n + j, none⟩ = some v := by
  obtain ⟨C, h1, h2, h3, h4, h5⟩ := h
  refine ⟨_, h5 i hi, repC_len (h5 i hi), fun j v hj => ?_⟩
  rw [cell_of_heap h1]
  rw [List.getElem?_take] at hj
  split at hj
  · simpa using hj
  · cases hj

theorem mul_lt_of {i n k cap : Nat} (hi : i < n) (hn : n ≤ cap) : i * k + k ≤ cap * k := by
  have : (i + 1) * k ≤ cap * k := Nat.mul_le_mul_right k (by omega)
  rw [Nat.add_mul, Nat.one_mul] at this
  exact this

/-- Element i is written. -/
theorem rowIs.write {w : World} {I : Blocks} {mk : Bool} {g cap : Nat} {E : TypeId} {t : Ty} {xs : List t.den} (ho : Okw w I [g]) (h : rowIs w I mk g cap E t xs) {i : Nat} (hi : i < xs.length) {vs : List Value} {y : t.den} (hy : repC w I t vs y) :
    Eff w I [g] (w.setCells g (i * t.n) vs) I [g] ∧ rowIs (w.setCells g (i * t.n) vs) I mk g cap E t (xs.set i y) := by
  obtain ⟨C, h1, h2, h3, h4, h5⟩ := h
  have h1' : w.heap[g]? = some (.cells C.toList.toArray E (bif mk then (C.size, C.size + 1) else (0, 0))) := by simpa using h1
  obtain ⟨i1, i2, i3, i4, i5, i6⟩ := heap_setCells g E _ vs (i * t.n) w C.toList h1'
  have hb : ∀ b, I b → (w.setCells g (i * t.n) vs).heap[b]? = w.heap[b]? := fun b hb => i2 b (fun e => ho.apart g (by simp) (e ▸ hb))
  have hl := repC_len hy
  have hs : (setL C.toList (i * t.n) vs).toArray.size = C.size := by simp [setL_length]
  refine ⟨Eff.write ho i4 i5 i6 i3 i2, (setL C.toList (i * t.n) vs).toArray, by rw [i1, hs], by simpa using h2, h3, by rw [hs, h4], fun j hj => ?_⟩
  have hj' : j < xs.length := by simpa using hj
  have hc : ∀ k, k < xs.length → k * t.n + t.n ≤ C.size := fun k hk => by rw [h4]; exact mul_lt_of hk h2
  have hci := hc i hi
  by_cases hij : i = j
  · subst hij
    have e : ((setL C.toList (i * t.n) vs).toArray.toList.drop (i * t.n)).take t.n = vs := by
      apply List.ext_getElem?
      intro k
      rw [List.getElem?_take]
      split
      · rw [List.getElem?_drop, setL_in _ _ _ _ (by simp; omega) (by omega) (by omega), Nat.add_sub_cancel_left]
      · rw [List.getElem?_eq_none (by omega)]
    rw [e]
    simp only [List.getElem_set_self]
    exact repC_mono hb (fun _ h => h) hy
  · have e : ((setL C.toList (i * t.n) vs).toArray.toList.drop (j * t.n)).take t.n = (C.toList.drop (j * t.n)).take t.n := by
      apply List.ext_getElem?
      intro k
      rw [List.getElem?_take, List.getElem?_take]
      split
      · rename_i hk
        rw [List.getElem?_drop, List.getElem?_drop, setL_out]
        rcases Nat.lt_or_gt_of_ne hij with h | h
        · right
          have := mul_lt_of (k := t.n) (Nat.lt_of_lt_of_le (Nat.lt_succ_self i) h) (Nat.le_refl _)
          rw [hl]; omega
        · left
          have := mul_lt_of (k := t.n) (Nat.lt_of_lt_of_le (Nat.lt_succ_self j) h) (Nat.le_refl _)
          omega
      · rfl
    rw [e]
    simp only [List.getElem_set_ne hij]
    exact repC_mono hb (fun _ h => h) (h5 j hj')

section ops
variable {c : Cx} {L : List (Nat × Value)} {As R : List Asn} {Q : Exit → Act → World → Prop} {K : Act → World → Prop} {ops : Array Oper} {rest : List Oper} {T : TypeId} {pos : String} {aft : Array Edge} {gd : Option (Nat × Bool)}

/-! ### Bytes of a string and back -/

theorem bytesRow_get (m : List UInt8) (cap i : Nat) (hi : i < m.length) : (bytesRow ⟨m.toArray⟩ cap)[i]? = some (byte m[i]) := by
  unfold bytesRow
  rw [Array.getElem?_append_left (by simpa using hi)]
  simp [byte, List.getElem?_eq_getElem hi]

theorem jo_s2b {src dst E : TypeId} {x : Operand} {m : List UInt8} {d : Nat} (hx : ev L x = some (str m)) (hs : c.P.underlying src = some .string) (hds : c.P.underlying dst = some (.slice E)) (he : c.P.underlying E = some (.int .u8)) (hd : Nat.blt d c.n = true) (hml : m.length ≤ 9223372036854775807)
    (h : ∀ g cap, J c ((d, .slice (some ⟨g, 0, none⟩) m.length cap) :: L) (.rowm g cap E .u8 m :: As) (wpList c.P ops Q rest)) :
    J c L As (wpList c.P ops Q (⟨some d, .convert src dst x, T, pos, aft, none⟩ :: rest)) := jo_step rfl fun a w hf hm => by
  show Oper.upon _ _ _ _ _ ((execOp a.eval _).run c.P w)
  have hr := run_bytes_of_string (P := c.P) w src dst E ⟨m.toArray⟩ hs hds he
  have hr' : (execOp a.eval ⟨some d, .convert src dst x, T, pos, aft, none⟩).run c.P w = .ok (.value (.slice (some ⟨w.heap.size, 0, none⟩) m.length (grownCap w m.length 0 E)))
      (w.drew.alloc (.cells (bytesRow ⟨m.toArray⟩ (grownCap w m.length 0 E)) E ((bytesRow ⟨m.toArray⟩ (grownCap w m.length 0 E)).size, (bytesRow ⟨m.toArray⟩ (grownCap w m.length 0 E)).size + 1))) := by
    simp only [execOp, hf.ev hx, str, Sem.run_bind, hr, Result.andThen_ok, mk_size, Sem.run_pure]
  rw [hr']
  refine h w.heap.size (grownCap w m.length 0 E) _ _ (hf.put (by rw [Nat.blt_eq] at hd; exact hd) _) (Mem.new (Bs := [.rowm w.heap.size _ E .u8 m]) (w := w.drew) hm.drew fun I _ => ⟨[w.heap.size], [], rfl, ⟨rfl, ?_⟩, rfl⟩)
  have hge := grownCap_ge w m.length 0 E
  refine ⟨_, heap_alloc_new w.drew _, hge, grownCap_le_maxLen w m.length 0 E (by unfold maxLen; omega), ?_, fun i hi => ?_⟩
  · simp [bytesRow, mk_size, Ty.n]; omega
  · have e : ((bytesRow ⟨m.toArray⟩ (grownCap w m.length 0 E)).toList.drop (i * Ty.u8.n)).take Ty.u8.n = [byte m[i]] := by
      have := bytesRow_get m (grownCap w m.length 0 E) i hi
      simp only [Ty.n, Nat.mul_one]
      rw [← Array.getElem?_toList] at this
      rw [List.take_one, List.head?_drop, this]; rfl
    rw [e]; rfl

theorem rowIs.bytes {w : World} {I : Blocks} {mk : Bool} {g cap : Nat} {E : TypeId} {xs : List UInt8} (h : rowIs w I mk g cap E .u8 xs) : ∀ j (hj : j < xs.length), w.cell? ((⟨g, 0, none⟩ : Addr).add j) = some (.int .u8 (xs[j].toNat : Int)) := fun j hj => by
  obtain ⟨cs, h1, _, h3⟩ := h.cell hj
  simp only [repC] at h1
  subst h1
  have := h3 0 _ rfl
  rw [Addr.add_mk]
  simpa [Ty.n, byte] using this

theorem run_b2s {src dst : TypeId} {x : Operand} {v : Value} {a : Act} {w : World} {n : Nat} {m : List UInt8} (hf : Fits n L a) (hx : ev L x = some v)
    (hr : (convert src dst v).run c.P w = .ok (.string ⟨m.toArray⟩) w) {d : Option Tmp} : (execOp a.eval ⟨d, .convert src dst x, T, pos, aft, gd⟩).run c.P w = .ok (.value (str m)) w := by
  simp only [execOp, hf.ev hx, Sem.run_bind, hr, Result.andThen_ok, Sem.run_pure, str]

theorem pr_b2s_m {src dst E E' : TypeId} {x : Operand} {g cap : Nat} {n : Nat} {xs : List UInt8} (hx : ev L x = some (.slice (some ⟨g, 0, none⟩) n cap)) (hn : xs.length = n) (hA : Asn.rowm g cap E' .u8 xs ∈ As) (hs : c.P.underlying src = some (.slice E)) (he : c.P.underlying E = some (.int .u8)) (hds : c.P.underlying dst = some .string) :
    PR c (.convert src dst x) T L As (str xs) := fun a w hf hm d pos aft gd => by
  obtain ⟨I, m, ho, rfl, hr⟩ := hm.get hA
  subst hn
  exact run_b2s (c := c) hf hx (run_convert_bytes_back w src dst E ⟨g, 0, none⟩ cap xs hs he hds hr.bytes)
theorem pr_b2s_row {src dst E E' : TypeId} {x : Operand} {v : Value} {xs : List UInt8} (hx : ev L x = some v) (hA : Asn.row v E' .u8 xs ∈ As) (hs : c.P.underlying src = some (.slice E)) (he : c.P.underlying E = some (.int .u8)) (hds : c.P.underlying dst = some .string) :
    PR c (.convert src dst x) T L As (str xs) := fun a w hf hm d pos aft gd => by
  obtain ⟨I, m, ho, hr⟩ := hm.get hA
  rcases hr with ⟨rfl, rfl, _⟩ | ⟨g, cap, rfl, _, hr⟩
  · refine run_b2s (c := c) hf hx ?_
    simp [convert, run_underlying hs, run_underlying hds, run_underlying he, Conv.bytesToString]; rfl
  · exact run_b2s (c := c) hf hx (run_convert_bytes_back w src dst E ⟨g, 0, none⟩ cap xs hs he hds hr.bytes)

/-! ### Lengths -/
theorem run_len {x : Operand} {ty E : TypeId} {v : Value} {b : Option Addr} {n cap : Nat} {a : Act} {w : World} {k : Nat} (hf : Fits k L a) (hx : ev L x = some v) (hv : v = .slice b n cap) (ht : c.P.underlying ty = some (.slice E)) {d : Option Tmp} :
    (execOp a.eval ⟨d, .call { callee := .builtin .len, args := #[x], argTypes := #[ty] }, T, pos, aft, gd⟩).run c.P w = .ok (.value (.int .i64 n)) w := by
  subst hv
  simp [execOp, resolve, invoke, builtin, Builtin.len_, hf.ev hx, run_underlying ht, goInt]
theorem pr_len {x : Operand} {ty E : TypeId} {b : Option Addr} {n cap : Nat} (hx : ev L x = some (.slice b n cap)) (ht : c.P.underlying ty = some (.slice E)) : PR c (.call { callee := .builtin .len, args := #[x], argTypes := #[ty] }) T L As (.int .i64 n) :=
  fun _ _ hf _ _ _ _ _ => run_len (c := c) hf hx rfl ht
theorem pr_len_row {x : Operand} {ty E E' : TypeId} {v : Value} {t : Ty} {xs : List t.den} (hx : ev L x = some v) (hA : Asn.row v E' t xs ∈ As) (ht : c.P.underlying ty = some (.slice E)) : PR c (.call { callee := .builtin .len, args := #[x], argTypes := #[ty] }) T L As (.int .i64 xs.length) :=
  fun _ _ hf hm _ _ _ _ => by
    obtain ⟨I, m, ho, hr⟩ := hm.get hA
    rcases hr with ⟨rfl, rfl, _⟩ | ⟨g, cap, rfl, _, hr⟩
    · exact run_len (c := c) hf hx rfl ht
    · exact run_len (c := c) hf hx rfl ht
theorem pr_len_imm {x : Operand} {ty E : TypeId} {v : Value} {t : Ty} {xs : List t.den} (hx : ev L x = some v) (hA : Asn.imm (.list t) v xs ∈ As) (ht : c.P.underlying ty = some (.slice E)) : PR c (.call { callee := .builtin .len, args := #[x], argTypes := #[ty] }) T L As (.int .i64 xs.length) :=
  fun _ _ hf hm _ _ _ _ => by
    obtain ⟨I, m, ho, rfl, cs, hv, hr⟩ := hm.get hA
    obtain ⟨a, len, cap, rfl, rfl, _⟩ := hr
    exact run_len (c := c) hf hx hv ht

/-! ### Indexing: own rows -/
theorem pr_idx {x y : Operand} {ty E : TypeId} {g off n cap i k : Nat} {K : IntKind} {agg : Bool} {by_ : Nat} {z : Option Value} (o : Nat) (hx : ev L x = some (.slice (some ⟨g, off, none⟩) n cap)) (hy : ev L y = some (.int K i)) (ht : c.P.underlying ty = some (.slice E)) (he : TyF c.P E agg k by_ z) (hi : i < n) (ho : off + i * k = o) :
    PR c (.indexAddr ty x y) T L As (.pointer (some ⟨g, o, none⟩)) := fun a w hf _ d pos aft gd => by
  subst ho
  have hi' : (0 : Int) ≤ (i : Int) ∧ (i : Int) < (n : Int) := ⟨by omega, by omega⟩
  simp [execOp, Instr.indexAt, hf.ev hx, hf.ev hy, asIntOf, run_underlying ht, he.sizeOf, hi, Addr.add_mk]

theorem pr_load_row {ty E : TypeId} {agg : Bool} {by_ : Nat} {z : Option Value} {x : Operand} {g o i cap : Nat} {t : Ty} {xs : List t.den} (v : Value) (mk : Bool) (hx : ev L x = some (.pointer (some ⟨g, o, none⟩))) (ht : TyF c.P ty agg t.n by_ z) (hfl : t.flat = true) (hag : t.isPair = agg)
    (hA : (bif mk then Asn.rowm g cap E t xs else Asn.rowg g cap E t xs) ∈ As) (hi : i < xs.length) (ho : i * t.n = o) (hv : toV t (enc t xs[i]) = v) : PR c (.load ty x) T L As v := fun a w hf hm d pos aft gd => by
  have : ∃ I m, Okw w I m ∧ rowIs w I mk g cap E t xs := by
    obtain ⟨I, m, h1, h2⟩ := hm.get hA
    cases mk
    · exact ⟨I, m, h1, h2.2⟩
    · exact ⟨I, m, h1, h2.2⟩
  obtain ⟨I, m, _, hr⟩ := this
  obtain ⟨cs, h1, h2, h3⟩ := hr.cell hi
  have := run_loadVar_cells ht w ⟨g, o, none⟩ cs h2 (fun h => by subst hag; cases t <;> simp_all [Ty.isPair, Ty.n]) (fun j u hu => by rw [Addr.add_mk, ← ho]; exact h3 j u hu)
  rw [repC_flat hfl] at h1
  subst h1
  rw [toV_ofCells, hag] at hv
  simp only [execOp, hf.ev hx, Instr.loadAt, Instr.sureAddr, Sem.run_bind, Sem.run_pure, Result.andThen_ok, this, hv]

theorem pr_load_rowD {ty E : TypeId} {agg : Bool} {by_ : Nat} {z : Option Value} {x : Operand} {g o i cap : Nat} {t : Ty} {xs : List t.den} {dd : t.den} (v : Value) (mk : Bool) (hx : ev L x = some (.pointer (some ⟨g, o, none⟩))) (ht : TyF c.P ty agg t.n by_ z) (hfl : t.flat = true) (hag : t.isPair = agg)
    (hA : (bif mk then Asn.rowm g cap E t xs else Asn.rowg g cap E t xs) ∈ As) (hi : i < xs.length) (ho : i * t.n = o) (hv : toV t (enc t (xs.getD i dd)) = v) : PR c (.load ty x) T L As v :=
  pr_load_row v mk hx ht hfl hag hA hi ho (by rw [← hv, List.getD_eq_getElem?_getD, List.getElem?_eq_getElem hi]; rfl)

/-- A store into an own row; the datum is without slices. -/
theorem jo_store_row {ty E : TypeId} {agg : Bool} {by_ : Nat} {z : Option Value} {x y : Operand} {g o i cap : Nat} {t : Ty} {xs : List t.den} {v : Value} (mk : Bool) (u : t.den) (hx : ev L x = some (.pointer (some ⟨g, o, none⟩))) (hy : ev L y = some v) (ht : TyF c.P ty agg t.n by_ z) (hfl : t.flat = true)
    (hi : i < xs.length) (ho : i * t.n = o) (hv : v.cells = (enc t u).toArray)
    (h : J c L ((bif mk then Asn.rowm g cap E t (xs.set i u) else Asn.rowg g cap E t (xs.set i u)) :: R) (wpList c.P ops Q rest)) : J c L ((bif mk then Asn.rowm g cap E t xs else Asn.rowg g cap E t xs) :: R) (wpList c.P ops Q (⟨none, .store ty x y, T, pos, aft, none⟩ :: rest)) := jo_step rfl fun a w hf hm => by
  have key : ∀ I m, (bif mk then Asn.rowm g cap E t xs else Asn.rowg g cap E t xs).sat w I m → m = [g] ∧ rowIs w I mk g cap E t xs := fun I m h => by cases mk <;> exact h
  obtain ⟨I, m, _, hr0⟩ := hm.get (A := bif mk then Asn.rowm g cap E t xs else Asn.rowg g cap E t xs) (by simp)
  have hr := (key _ _ hr0).2
  have hh := hr
  obtain ⟨C, h1, h2, h3, h4, _⟩ := hh
  have hc : i * t.n + t.n ≤ C.size := by rw [h4]; exact mul_lt_of hi h2
  subst ho
  have hst := run_storeVar_cells ht w g (i * t.n) v (enc t u) hv (enc_len u) (fun x hx => repC_one ((repC_flat (w := w) (I := I) hfl).2 rfl) x hx) (fun j hj => by rw [enc_len] at hj; rw [cell_of_heap h1]; simp; omega) (fun j hj => by
    rw [enc_len] at hj
    cases mk
    · simp [World.frozen?, h1]
    · simp [World.frozen?, h1]; omega)
  show Oper.upon _ _ _ _ _ ((execOp a.eval _).run c.P w)
  have hrun : (execOp a.eval ⟨none, .store ty x y, T, pos, aft, none⟩).run c.P w = .ok .skip (w.setCells g (i * t.n) (enc t u)) := by
    simp only [execOp, hf.ev hx, hf.ev hy, Instr.storeAt, Instr.sureAddr, Sem.run_bind, Sem.run_pure, Result.andThen_ok, hst]
  rw [hrun]
  refine h _ _ (hf.none _) (Mem.step (Ps := [_]) (Bs := [_]) hm fun I m1 ho hs => ?_)
  obtain ⟨m1, m2, rfl, hs, rfl⟩ := hs
  obtain ⟨rfl, hr⟩ := key _ _ hs
  obtain ⟨e1, e2⟩ := hr.write ho hi ((repC_flat hfl).2 rfl : repC w I t (enc t u) u)
  exact ⟨I, [g], e1, [g], [], rfl, by cases mk <;> exact ⟨rfl, e2⟩, rfl⟩
/-- The same, the kind of row said. -/
theorem jo_store_m {ty E : TypeId} {agg : Bool} {by_ : Nat} {z : Option Value} {x y : Operand} {g o i cap : Nat} {t : Ty} {xs : List t.den} {v : Value} (u : t.den) (hx : ev L x = some (.pointer (some ⟨g, o, none⟩))) (hy : ev L y = some v) (ht : TyF c.P ty agg t.n by_ z) (hfl : t.flat = true)
    (hi : i < xs.length) (ho : i * t.n = o) (hv : v.cells = (enc t u).toArray)
    (h : J c L (.rowm g cap E t (xs.set i u) :: R) (wpList c.P ops Q rest)) : J c L (.rowm g cap E t xs :: R) (wpList c.P ops Q (⟨none, .store ty x y, T, pos, aft, none⟩ :: rest)) :=
  jo_store_row true u hx hy ht hfl hi ho hv h
theorem jo_store_g {ty E : TypeId} {agg : Bool} {by_ : Nat} {z : Option Value} {x y : Operand} {g o i cap : Nat} {t : Ty} {xs : List t.den} {v : Value} (u : t.den) (hx : ev L x = some (.pointer (some ⟨g, o, none⟩))) (hy : ev L y = some v) (ht : TyF c.P ty agg t.n by_ z) (hfl : t.flat = true)
    (hi : i < xs.length) (ho : i * t.n = o) (hv : v.cells = (enc t u).toArray)
    (h : J c L (.rowg g cap E t (xs.set i u) :: R) (wpList c.P ops Q rest)) : J c L (.rowg g cap E t xs :: R) (wpList c.P ops Q (⟨none, .store ty x y, T, pos, aft, none⟩ :: rest)) :=
  jo_store_row false u hx hy ht hfl hi ho hv h
end ops
end Go.Sep
