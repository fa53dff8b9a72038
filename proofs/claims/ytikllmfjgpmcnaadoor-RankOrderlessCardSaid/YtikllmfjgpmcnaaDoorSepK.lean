/-
  The rules of the calculus for fields of elements, and for calls through function values. No program in sight. No conditions.
-/
import Derived.Test.YtikllmfjgpmcnaaDoorSepJ
import Derived.Deep.Slices
namespace Go.Sep
open Go
set_option linter.unusedSimpArgs false

/-- Where a part of element i of a slice lies. -/
def elemOff (v : Value) (i n o : Nat) : Value :=
  match v with
  | .slice (some a) _ _ => .pointer (some (a.add (i * n + o)))
  | _ => .pointer none

section ops
variable {c : Cx} {L : List (Nat × Value)} {As R : List Asn} {Q : Exit → Act → World → Prop} {K : Act → World → Prop} {ops : Array Oper} {rest : List Oper} {T : TypeId} {pos : String} {aft : Array Edge} {gd : Option (Nat × Bool)}

theorem run_fieldAddr_elem {s : TypeId} {x : Operand} {k b off n cap i m : Nat} {fs : Array Field} {f : Field} {agg : Bool} {n' by_ : Nat} {z : Option Value} {a : Act} {w : World} {nn : Nat} {v : Value} (hf' : Fits nn L a) (hv : v = .slice (some ⟨b, off, none⟩) n cap) (hx : ev L x = some (elemPtr v i m)) (hu : c.P.underlying s = some (.struct fs)) (hf : fs[k]? = some f)
    (ht : TyF c.P f.type agg n' by_ z) (hn : Nat.blt 0 n' = true) {d : Option Tmp} : (execOp a.eval ⟨d, .fieldAddr s x k, T, pos, aft, gd⟩).run c.P w = .ok (.value (elemOff v i m f.offset)) w := by
  subst hv
  have hn' : n' ≠ 0 := by rw [Nat.blt_eq] at hn; omega
  simp [execOp, Instr.fieldAt, hf'.ev hx, run_underlying hu, hf, Instr.sureAddr, fieldPlace, ht.sizeOf, hn', Addr.add_mk, elemPtr, elemOff, Nat.add_assoc]

theorem pr_fieldAddr_imm {s : TypeId} {x : Operand} {k i o : Nat} {fs : Array Field} {f : Field} {agg : Bool} {n by_ : Nat} {z : Option Value} {v : Value} {t : Ty} {xs : List t.den} (hx : ev L x = some (elemPtr v i t.n)) (hA : Asn.imm (.list t) v xs ∈ As) (hu : c.P.underlying s = some (.struct fs)) (hf : fs[k]? = some f)
    (ht : TyF c.P f.type agg n by_ z) (hn : Nat.blt 0 n = true) (ho : f.offset = o) (hi : i < xs.length) : PR c (.fieldAddr s x k) T L As (elemOff v i t.n o) := fun a w hf' hm d pos aft gd => by
  obtain ⟨I, m, _, rfl, cs, hv, hr⟩ := hm.get hA
  obtain ⟨ad, len, cap, rfl, hl, _, hr⟩ := hr
  rcases hr with h | ⟨b, off, C, E', fz, rfl, _⟩
  · subst h; simp at hi
  · rw [← ho]; exact run_fieldAddr_elem (c := c) hf' hv hx hu hf ht hn
theorem pr_fieldAddr_row {s E : TypeId} {x : Operand} {k i o : Nat} {fs : Array Field} {f : Field} {agg : Bool} {n by_ : Nat} {z : Option Value} {v : Value} {t : Ty} {xs : List t.den} (hx : ev L x = some (elemPtr v i t.n)) (hA : Asn.row v E t xs ∈ As) (hu : c.P.underlying s = some (.struct fs)) (hf : fs[k]? = some f)
    (ht : TyF c.P f.type agg n by_ z) (hn : Nat.blt 0 n = true) (ho : f.offset = o) (hi : i < xs.length) : PR c (.fieldAddr s x k) T L As (elemOff v i t.n o) := fun a w hf' hm d pos aft gd => by
  obtain ⟨I, m, _, hr⟩ := hm.get hA
  rcases hr with ⟨_, h, _⟩ | ⟨g, cap, rfl, _, hr⟩
  · subst h; simp at hi
  · rw [← ho]; exact run_fieldAddr_elem (c := c) hf' rfl hx hu hf ht hn

theorem load_off {w : World} {ty : TypeId} {agg : Bool} {m by_ : Nat} {z : Option Value} {b off o : Nat} {C : Array Value} {E : TypeId} {fz : Nat × Nat} {t : Ty} {I : Blocks} {x : t.den} (ht : TyF c.P ty agg m by_ z) (h1 : agg = false → m = 1) (hfl : t.flat = true) (hom : o + m ≤ t.n) (hh : w.heap[b]? = some (.cells C E fz)) (hr : repC w I t ((C.toList.drop off).take t.n) x) :
    (loadVar ty ⟨b, off + o, none⟩).run c.P w = .ok (ofCells agg (((enc t x).drop o).take m)) w := by
  have hr' := (repC_flat hfl).1 hr
  have hl := enc_len x
  refine run_loadVar_cells ht w ⟨b, off + o, none⟩ _ (by simp; omega) h1 (fun j u hu => ?_)
  rw [Addr.add_mk, cell_of_heap hh]
  rw [← hr', List.getElem?_take] at hu
  split at hu
  · rw [List.getElem?_drop, List.getElem?_take] at hu
    split at hu
    · rw [List.getElem?_drop, ← Nat.add_assoc] at hu; simpa using hu
    · cases hu
  · cases hu

theorem pr_load_off_imm {ty : TypeId} {agg : Bool} {m by_ : Nat} {z : Option Value} {x : Operand} {v : Value} {t : Ty} {xs : List t.den} {i o : Nat} {dd : t.den} (u : Value) (hx : ev L x = some (elemOff v i t.n o)) (hA : Asn.imm (.list t) v xs ∈ As) (ht : TyF c.P ty agg m by_ z) (hfl : t.flat = true) (h1 : agg = false → m = 1) (hom : Nat.ble (o + m) t.n = true) (hi : i < xs.length)
    (hu : ofCells agg (((enc t (xs.getD i dd)).drop o).take m) = u) : PR c (.load ty x) T L As u := fun a w hf hm d pos aft gd => by
  obtain ⟨I, m', _, rfl, hr⟩ := hm.get hA
  obtain ⟨b, off, C, E, fz, e, _, h2, _, h4⟩ := imm_cell hr hi
  have := load_off (c := c) ht h1 hfl (Nat.le_of_ble_eq_true hom) h2 h4
  rw [← getD_eq (dd := dd) hi, hu] at this
  have e' : elemOff v i t.n o = .pointer (some ⟨b, off + o, none⟩) := by
    unfold elemPtr at e
    unfold elemOff
    split at e
    · rename_i a' _ _
      simp only [Value.pointer.injEq, Option.some.injEq] at e ⊢
      rw [← Deep.add_add, e, Addr.add_mk]
    · cases e
  rw [e'] at hx
  simp only [execOp, hf.ev hx, Instr.loadAt, Instr.sureAddr, Sem.run_bind, Sem.run_pure, Result.andThen_ok, this]
theorem pr_load_off_row {ty E : TypeId} {agg : Bool} {m by_ : Nat} {z : Option Value} {x : Operand} {v : Value} {t : Ty} {xs : List t.den} {i o : Nat} {dd : t.den} (u : Value) (hx : ev L x = some (elemOff v i t.n o)) (hA : Asn.row v E t xs ∈ As) (ht : TyF c.P ty agg m by_ z) (hfl : t.flat = true) (h1 : agg = false → m = 1) (hom : Nat.ble (o + m) t.n = true) (hi : i < xs.length)
    (hu : ofCells agg (((enc t (xs.getD i dd)).drop o).take m) = u) : PR c (.load ty x) T L As u := fun a w hf hm d pos aft gd => by
  obtain ⟨I, m', _, hr⟩ := hm.get hA
  obtain ⟨b, off, C, fz, e, h2, _, h4⟩ := row_cell hr hi
  have := load_off (c := c) ht h1 hfl (Nat.le_of_ble_eq_true hom) h2 h4
  rw [← getD_eq (dd := dd) hi, hu] at this
  have e' : elemOff v i t.n o = .pointer (some ⟨b, off + o, none⟩) := by
    unfold elemPtr at e
    unfold elemOff
    split at e
    · rename_i a' _ _
      simp only [Value.pointer.injEq, Option.some.injEq] at e ⊢
      rw [← Deep.add_add, e, Addr.add_mk]
    · cases e
  rw [e'] at hx
  simp only [execOp, hf.ev hx, Instr.loadAt, Instr.sureAddr, Sem.run_bind, Sem.run_pure, Result.andThen_ok, this]

/-! ### Calls through function values -/

theorem run_callv {x : Operand} {os : List Operand} {vs fi ca : List Value} {f : FuncId} {tys : Array TypeId} {P : Program} {a : Act} {n : Nat} (hf : Fits n L a) (hx : ev L x = some (.func (.func f) fi.toArray ca.toArray)) (hc : Cal P f) (hv : EvL L os vs) {d : Option Tmp} (w : World) :
    (execOp a.eval ⟨d, .call { callee := .value x, args := os.toArray, argTypes := tys }, T, pos, aft, gd⟩).run P w = .ok (.enter f (fi ++ vs ++ ca).toArray) w := by
  have hm := hv.map hf
  have := hc (fi ++ vs ++ ca).toArray w
  simp only [execOp, resolve, invoke, Deferred.ofValue, hf.ev hx, Sem.run_bind, Sem.run_pure, Result.andThen_ok, List.map_toArray, hm]
  simpa using this

/-- A call through a function value, by a contract that asks only what lasts. -/
theorem jo_callvp {x : Operand} {os : List Operand} {vs fi ca : List Value} {f : FuncId} {tys : Array TypeId} {Bs : List Asn} {ι : Type} {val : ι → Value} {asn : ι → List Asn} {d : Nat} (hx : ev L x = some (.func (.func f) fi.toArray ca.toArray)) (hc : Cal c.P f) (con : Con c.P f (fi ++ vs ++ ca).toArray Bs val asn) (hv : EvL L os vs) (hd : Nat.blt d c.n = true) (hB : HasP As Bs)
    (h : ∀ i, J c ((d, val i) :: L) (asn i ++ As) (wpList c.P ops Q rest)) : J c L As (wpList c.P ops Q (⟨some d, .call { callee := .value x, args := os.toArray, argTypes := tys }, T, pos, aft, none⟩ :: rest)) := jo_step rfl fun a w hf hm => by
  show Oper.upon _ _ _ _ _ ((execOp a.eval _).run c.P w)
  rw [run_callv hf hx hc hv w]
  obtain ⟨I, m, he, hs⟩ := hm
  have ho := he.okw
  refine (con w I [] ho.nil (hB.sats hs)).mono fun e w' hE => ?_
  obtain ⟨i, I', m1', rfl, h3, h4⟩ := hE
  exact h i _ _ (hf.put (by rw [Nat.blt_eq] at hd; exact hd) _) ⟨I', m1' ++ m, he.trans (Eff.frame (m1 := []) ho h3), Sats_append.2 ⟨m1', m, rfl, h4, Sats.frame (m1 := []) ho h3 hs⟩⟩
end ops
end Go.Sep
