/-
  The rules of the calculus for memory: calls by contract, own variables, reading what nobody writes any more. No program in sight. No conditions.
-/
import Derived.Test.YtikllmfjgpmcnaaDoorSepC
import Derived.Laws.IdiomStrings
import Derived.Laws.BytesString
namespace Go.Sep
open Go

/-! ### A step that touches the first assertions alone -/

theorem Okw.left {w : World} {I : Blocks} {m1 m2 : List Nat} (h : Okw w I (m1 ++ m2)) : Okw w I m1 :=
  ⟨h.lt, (List.nodup_append.1 h.nodup).1, fun b hb => h.apart b (by simp [hb]), fun b hb => h.own b (by simp [hb])⟩

theorem Mem.step {c : Cx} {Ps R Bs : List Asn} {w w' : World} (h : Mem c (Ps ++ R) w)
    (hk : ∀ I m1, Okw w I m1 → Sats w I Ps m1 → ∃ I' m1', Eff w I m1 w' I' m1' ∧ Sats w' I' Bs m1') : Mem c (Bs ++ R) w' := by
  obtain ⟨I, m, he, hs⟩ := h
  obtain ⟨m1, m2, rfl, h1, h2⟩ := Sats_append.1 hs
  have ho := he.okw
  obtain ⟨I', m1', h3, h4⟩ := hk I m1 ho.left h1
  exact ⟨I', m1' ++ m2, he.trans (h3.frame ho), Sats_append.2 ⟨m1', m2, rfl, h4, h2.frame ho h3⟩⟩

theorem Mem.get {c : Cx} {As : List Asn} {A : Asn} {w : World} (h : Mem c As w) (hA : A ∈ As) : ∃ I m, Okw w I m ∧ A.sat w I m := by
  obtain ⟨I, m, he, hs⟩ := h
  have ho := he.okw
  clear he
  induction As generalizing m with
  | nil => cases hA
  | cons B As ih =>
    obtain ⟨m1, m2, rfl, h1, h2⟩ := hs
    rcases List.mem_cons.1 hA with rfl | hA
    · exact ⟨I, m1, ho.left, h1⟩
    · exact ih hA m2 h2 ⟨ho.lt, (List.nodup_append.1 ho.nodup).2.1, fun b hb => ho.apart b (by simp [hb]), fun b hb => ho.own b (by simp [hb])⟩

theorem Mem.drawn {c : Cx} {As : List Asn} {w : World} (h : Mem c As w) (n : Nat) : Mem c As { w with drawn := n } := by
  obtain ⟨I, m, he, hs⟩ := h
  refine ⟨I, m, ⟨he.os, he.tape, he.output, he.size, he.block, he.sub, he.new, he.lt, he.nodup, he.apart, he.own⟩, ?_⟩
  exact Sats_mono (w := w) (w' := { w with drawn := n }) (Nat.le_refl _) (fun _ h => h) (fun _ _ => rfl) hs
theorem Mem.drew {c : Cx} {As : List Asn} {w : World} (h : Mem c As w) : Mem c As w.drew := h.drawn _

theorem size_alloc (w : World) (o : Obj) : (w.alloc o).heap.size = w.heap.size + 1 := by
  show (w.heap.push o).size = _
  simp

/-- A new block. -/
theorem Mem.new {c : Cx} {As Bs : List Asn} {w : World} {o : Obj} (h : Mem c As w)
    (hB : ∀ I, Okw w I [] → Sats (w.alloc o) I Bs [w.heap.size]) : Mem c (Bs ++ As) (w.alloc o) :=
  Mem.step (Ps := []) h fun I m ho hs => by
    simp only [Sats] at hs
    subst hs
    refine ⟨I, [w.heap.size], ⟨rfl, rfl, rfl, by rw [size_alloc]; omega, fun k hk _ => heap_alloc_old w o hk, fun _ h => h, fun _ h => .inl h, fun b hb => ?_, by simp, fun b hb hI => ?_, fun b hb => ?_⟩, hB I ho⟩
    · have := ho.lt b hb; rw [size_alloc]; omega
    · simp at hb; subst hb; exact Nat.lt_irrefl _ (ho.lt _ hI)
    · simp at hb; subst hb; exact ⟨.inr (Nat.le_refl _), by rw [size_alloc]; omega⟩

/-- A block of one's own is written. -/
theorem Eff.write {w w' : World} {I : Blocks} {b : Nat} (ho : Okw w I [b]) (h1 : w'.os = w.os) (h2 : w'.tape = w.tape) (h3 : w'.output = w.output) (h4 : w'.heap.size = w.heap.size)
    (h5 : ∀ k, k ≠ b → w'.heap[k]? = w.heap[k]?) : Eff w I [b] w' I [b] :=
  ⟨h1, h2, h3, Nat.le_of_eq h4.symm, fun k _ hk => h5 k (by simpa using hk), fun _ h => h, fun _ h => .inl h, fun k hk => by have := ho.lt k hk; omega, ho.nodup, ho.apart, fun k hk => ⟨.inl hk, by have := ho.own k hk; omega⟩⟩

/-! ### Own blocks, told by their cells -/

def setL : List Value → Nat → List Value → List Value
  | cs, _, [] => cs
  | cs, o, v :: r => setL (cs.set o v) (o + 1) r

theorem setL_length : ∀ (vs cs : List Value) (o : Nat), (setL cs o vs).length = cs.length
  | [], _, _ => rfl
  | v :: r, cs, o => by rw [setL, setL_length r]; simp

theorem setL_out : ∀ (vs cs : List Value) (o j : Nat), j < o ∨ o + vs.length ≤ j → (setL cs o vs)[j]? = cs[j]?
  | [], _, _, _, _ => rfl
  | v :: r, cs, o, j, h => by
    rw [setL, setL_out r _ _ _ (by simp at h; omega), List.getElem?_set_ne (by simp at h; omega)]
theorem setL_in : ∀ (vs cs : List Value) (o j : Nat), o + vs.length ≤ cs.length → o ≤ j → j < o + vs.length → (setL cs o vs)[j]? = vs[j - o]?
  | [], _, _, _, _, h1, h2 => by simp at h2; omega
  | v :: r, cs, o, j, h0, h1, h2 => by
    rw [setL]
    simp only [List.length_cons] at h0 h2
    by_cases hj : j = o
    · subst hj
      rw [setL_out r _ _ _ (by omega), List.getElem?_set_self (by omega)]
      simp
    · rw [setL_in r _ _ _ (by simp; omega) (by omega) (by omega)]
      rw [show j - o = (j - (o + 1)) + 1 from by omega]
      simp

theorem heap_setCells (b : Nat) (T : TypeId) (fz : Nat × Nat) : ∀ (vs : List Value) (o : Nat) (w : World) (cs : List Value), w.heap[b]? = some (.cells cs.toArray T fz) →
    (w.setCells b o vs).heap[b]? = some (.cells (setL cs o vs).toArray T fz) ∧ (∀ k, k ≠ b → (w.setCells b o vs).heap[k]? = w.heap[k]?) ∧ (w.setCells b o vs).heap.size = w.heap.size ∧ (w.setCells b o vs).os = w.os ∧ (w.setCells b o vs).tape = w.tape ∧ (w.setCells b o vs).output = w.output
  | [], _, _, _, h => ⟨h, fun _ _ => rfl, rfl, rfl, rfl, rfl⟩
  | v :: r, o, w, cs, h => by
    have h1 : (w.setCell ⟨b, o, none⟩ v).heap[b]? = some (.cells (cs.set o v).toArray T fz) := by
      have hlt := (Array.getElem?_eq_some_iff.1 h).1
      have hb : w.heap[b] = .cells cs.toArray T fz := (Array.getElem?_eq_some_iff.1 h).2
      simp [World.setCell, Array.getElem?_modify, h]
    obtain ⟨i1, i2, i3, i4, i5, i6⟩ := heap_setCells b T fz r (o + 1) _ _ h1
    refine ⟨i1, fun k hk => (i2 k hk).trans (heap_setCell_other w ⟨b, o, none⟩ k v hk), i3.trans (by simp [World.setCell]), i4, i5, i6⟩

theorem cell_of_heap {w : World} {b o : Nat} {C : Array Value} {T : TypeId} {fz : Nat × Nat} (h : w.heap[b]? = some (.cells C T fz)) : w.cell? ⟨b, o, none⟩ = C[o]? := by
  simp [World.cell?, h]

theorem Addr.add_mk (b o k : Nat) : (⟨b, o, none⟩ : Addr).add k = ⟨b, o + k, none⟩ := by unfold Addr.add; split <;> simp_all

/-- Facts of the table of types, closed for each program. -/
def kindB (P : Program) (T : TypeId) : Option Bool := (P.underlying T).map fun d => match d with | .struct _ | .array _ _ => true | _ => false
structure TyF (P : Program) (T : TypeId) (agg : Bool) (n by_ : Nat) (z : Option Value) : Prop where
  kind : kindB P T = some agg
  info : (P.info? T).map (fun i => (i.size, i.bytes, i.zero)) = some (n, by_, z)

theorem TyF.get {P : Program} {T : TypeId} {agg : Bool} {n by_ : Nat} {z : Option Value} (h : TyF P T agg n by_ z) : ∃ i, P.info? T = some i ∧ i.size = n ∧ i.bytes = by_ ∧ i.zero = z := by
  have := h.info
  cases hi : P.info? T with
  | none => simp [hi] at this
  | some i => simp [hi] at this; exact ⟨i, rfl, this.1, this.2.1, this.2.2⟩

theorem TyF.isAgg {P : Program} {T : TypeId} {agg : Bool} {n by_ : Nat} {z : Option Value} (h : TyF P T agg n by_ z) (w : World) : (isAgg T).run P w = .ok agg w := by
  have := h.kind
  unfold kindB at this
  cases hu : P.underlying T with
  | none => simp [hu] at this
  | some d =>
    simp only [hu, Option.map_some, Option.some.injEq] at this
    simp only [Go.isAgg, Sem.run_bind, run_underlying hu, Result.andThen_ok]
    subst this
    cases d <;> rfl
theorem TyF.sizeOf {P : Program} {T : TypeId} {agg : Bool} {n by_ : Nat} {z : Option Value} (h : TyF P T agg n by_ z) (w : World) : (sizeOf T).run P w = .ok n w := by
  obtain ⟨i, h1, h2, _⟩ := h.get
  simp [Go.sizeOf, typeInfo, h1, h2]

/-- What a variable of a type holds, out of cells. -/
def ofCells (agg : Bool) (cs : List Value) : Value := bif agg then .agg cs.toArray else cs.headD (.tuple #[])

theorem run_loadVar_cells {P : Program} {T : TypeId} {agg : Bool} {n by_ : Nat} {z : Option Value} (ht : TyF P T agg n by_ z) (w : World) (a : Addr) (cs : List Value) (hl : cs.length = n) (h1 : agg = false → n = 1)
    (hc : ∀ j v, cs[j]? = some v → w.cell? (a.add j) = some v) : (loadVar T a).run P w = .ok (ofCells agg cs) w := by
  subst hl
  cases agg with
  | true =>
    simp [loadVar, ht.isAgg, ht.sizeOf, run_loadCells_list w a cs hc, ofCells]
  | false =>
    have h1 := h1 rfl
    match cs, h1 with
    | [v], _ =>
      have := hc 0 v rfl
      have e : a.add 0 = a := rfl
      rw [e] at this
      simp [loadVar, ht.isAgg, ofCells, load, Sem.run, this]

theorem run_storeVar_cells {P : Program} {T : TypeId} {agg : Bool} {n by_ : Nat} {z : Option Value} (ht : TyF P T agg n by_ z) (w : World) (b o : Nat) (v : Value) (vs : List Value) (hv : v.cells = vs.toArray) (hl : vs.length = n)
    (h1 : ∀ u ∈ vs, u.oneCell' = true) (hc : ∀ j, j < vs.length → (w.cell? ⟨b, o + j, none⟩).isSome = true) (hf : ∀ j, j < vs.length → w.frozen? ⟨b, o + j, none⟩ = false) :
    (storeVar T ⟨b, o, none⟩ v).run P w = .ok () (w.setCells b o vs) := by
  have := run_storeCells_cells (P := P) b o vs 0 w (by simpa using hc) (by simpa using hf) h1
  simp [storeVar, hv, ht.sizeOf, hl, this]

section ops
variable {c : Cx} {L : List (Nat × Value)} {As R : List Asn} {Q : Exit → Act → World → Prop} {K : Act → World → Prop} {ops : Array Oper} {rest : List Oper} {T : TypeId} {pos : String} {aft : Array Edge} {gd : Option (Nat × Bool)}

/-! ### Own variables -/

/-- 'var x T': a new variable of zeroes. -/
theorem jo_alloc {E : TypeId} {agg : Bool} {n by_ : Nat} {z : Value} {d : Nat} (ht : TyF c.P E agg n by_ (some z)) (cs : List Value) (hz : z.cells = cs.toArray) (hd : Nat.blt d c.n = true)
    (h : ∀ b, J c ((d, .pointer (some ⟨b, 0, none⟩)) :: L) (.box b E cs :: As) (wpList c.P ops Q rest)) : J c L As (wpList c.P ops Q (⟨some d, .alloc E, T, pos, aft, none⟩ :: rest)) := jo_step rfl fun a w hf hm => by
  obtain ⟨i, h1, _, _, h2⟩ := ht.get
  show Oper.upon _ _ _ _ _ ((execOp a.eval _).run c.P w)
  have hr : (execOp a.eval ⟨some d, .alloc E, T, pos, aft, none⟩).run c.P w = .ok (.value (.pointer (some ⟨w.heap.size, 0, none⟩))) (w.alloc (.cells cs.toArray E)) := by
    simp [execOp, Instr.alloc, zeroValue, typeInfo, h1, h2, newVar, newRow, hz, newObj, Sem.run]
  rw [hr]
  exact h _ _ _ (hf.put (by rw [Nat.blt_eq] at hd; exact hd) _) (Mem.new (Bs := [.box w.heap.size E cs]) hm fun I _ => ⟨[w.heap.size], [], rfl, ⟨rfl, heap_alloc_new w _⟩, rfl⟩)

/-- A parameter gets a variable. -/
theorem jo_box {E : TypeId} {x : Operand} {v : Value} {d : Nat} (hx : ev L x = some v) (cs : List Value) (hz : v.cells = cs.toArray) (hd : Nat.blt d c.n = true)
    (h : ∀ b, J c ((d, .pointer (some ⟨b, 0, none⟩)) :: L) (.box b E cs :: As) (wpList c.P ops Q rest)) : J c L As (wpList c.P ops Q (⟨some d, .box E x, T, pos, aft, none⟩ :: rest)) := jo_step rfl fun a w hf hm => by
  show Oper.upon _ _ _ _ _ ((execOp a.eval _).run c.P w)
  have hr : (execOp a.eval ⟨some d, .box E x, T, pos, aft, none⟩).run c.P w = .ok (.value (.pointer (some ⟨w.heap.size, 0, none⟩))) (w.alloc (.cells cs.toArray E)) := by
    simp [execOp, Instr.box, hf.ev hx, newVar, newRow, hz, newObj, Sem.run]
  rw [hr]
  exact h _ _ _ (hf.put (by rw [Nat.blt_eq] at hd; exact hd) _) (Mem.new (Bs := [.box w.heap.size E cs]) hm fun I _ => ⟨[w.heap.size], [], rfl, ⟨rfl, heap_alloc_new w _⟩, rfl⟩)

/-- A load out of an own variable. -/
theorem pr_load_box {ty E : TypeId} {agg : Bool} {n by_ : Nat} {z : Option Value} {x : Operand} {b o : Nat} {cs : List Value} (v : Value) (hx : ev L x = some (.pointer (some ⟨b, o, none⟩))) (ht : TyF c.P ty agg n by_ z)
    (hA : Asn.box b E cs ∈ As) (hl : ((cs.drop o).take n).length = n) (h1 : agg = false → n = 1) (hv : ofCells agg ((cs.drop o).take n) = v) : PR c (.load ty x) T L As v := fun a w hf hm d pos aft gd => by
  obtain ⟨I, m, ho, rfl, hh⟩ := hm.get hA
  have := run_loadVar_cells ht w ⟨b, o, none⟩ _ hl h1 (fun j u hu => by
    rw [Addr.add_mk, cell_of_heap hh]
    rw [List.getElem?_take] at hu
    split at hu
    · simpa using hu
    · cases hu)
  simp only [execOp, hf.ev hx, Instr.loadAt, Instr.sureAddr, Sem.run_bind, Sem.run_pure, Result.andThen_ok, this, hv]
/-- A load out of a variable that nobody writes any more. -/
theorem pr_load_ibox {ty E : TypeId} {agg : Bool} {n by_ : Nat} {z : Option Value} {x : Operand} {b o : Nat} {cs : List Value} (v : Value) (hx : ev L x = some (.pointer (some ⟨b, o, none⟩))) (ht : TyF c.P ty agg n by_ z)
    (hA : Asn.ibox b E cs ∈ As) (hl : ((cs.drop o).take n).length = n) (h1 : agg = false → n = 1) (hv : ofCells agg ((cs.drop o).take n) = v) : PR c (.load ty x) T L As v := fun a w hf hm d pos aft gd => by
  obtain ⟨I, m, ho, rfl, _, hh⟩ := hm.get hA
  have := run_loadVar_cells ht w ⟨b, o, none⟩ _ hl h1 (fun j u hu => by
    rw [Addr.add_mk, cell_of_heap hh]
    rw [List.getElem?_take] at hu
    split at hu
    · simpa using hu
    · cases hu)
  simp only [execOp, hf.ev hx, Instr.loadAt, Instr.sureAddr, Sem.run_bind, Sem.run_pure, Result.andThen_ok, this, hv]

/-- A store into an own variable. -/
theorem jo_store {ty E : TypeId} {agg : Bool} {n by_ : Nat} {z : Option Value} {x y : Operand} {b o : Nat} {cs : List Value} {v : Value} (hx : ev L x = some (.pointer (some ⟨b, o, none⟩))) (hy : ev L y = some v) (ht : TyF c.P ty agg n by_ z)
    (vs : List Value) (hv : v.cells = vs.toArray) (hl : vs.length = n) (h1 : vs.all (·.oneCell') = true) (cs' : List Value) (hfit : Nat.ble (o + vs.length) cs.length = true) (hcs : setL cs o vs = cs')
    (h : J c L (.box b E cs' :: R) (wpList c.P ops Q rest)) : J c L (.box b E cs :: R) (wpList c.P ops Q (⟨none, .store ty x y, T, pos, aft, none⟩ :: rest)) := jo_step rfl fun a w hf hm => by
  obtain ⟨I, m, ho, rfl, hh⟩ := hm.get (A := .box b E cs) (by simp)
  have hfit' : o + vs.length ≤ cs.length := Nat.le_of_ble_eq_true hfit
  have hst := run_storeVar_cells ht w b o v vs hv hl (by simpa using h1) (fun j hj => by rw [cell_of_heap hh]; simp; omega) (fun j hj => by simp [World.frozen?, hh])
  show Oper.upon _ _ _ _ _ ((execOp a.eval _).run c.P w)
  have hr : (execOp a.eval ⟨none, .store ty x y, T, pos, aft, none⟩).run c.P w = .ok .skip (w.setCells b o vs) := by
    simp only [execOp, hf.ev hx, hf.ev hy, Instr.storeAt, Instr.sureAddr, Sem.run_bind, Sem.run_pure, Result.andThen_ok, hst]
  rw [hr]
  obtain ⟨i1, i2, i3, i4, i5, i6⟩ := heap_setCells b E (0, 0) vs o w cs hh
  exact h _ _ (hf.none _) (Mem.step (Ps := [.box b E cs]) (Bs := [.box b E cs']) hm fun I m1 ho hs => by
    obtain ⟨m1, m2, rfl, ⟨rfl, _⟩, rfl⟩ := hs
    exact ⟨I, [b], Eff.write ho i4 i5 i6 i3 i2, [b], [], rfl, ⟨rfl, by rw [← hcs]; exact i1⟩, rfl⟩)

/-! ### Calls -/

def Cal (P : Program) (f : FuncId) : Prop := ∀ args w, (callFunc f args).run P w = .ok (.enter f args) w

theorem cal_of {P : Program} {f : FuncId} {fn : Func} (hf : P.funcs[f]? = some fn) (h1 : (fn.name == "runtime.NumGoroutine") = false) (h2 : fn.body.isNone = false) : Cal P f := fun args w => by
  have h1' : fn.name ≠ "runtime.NumGoroutine" := by simpa using h1
  have h2' : fn.body ≠ none := by intro e; rw [e] at h2; cases h2
  simp [callFunc, hf, h1', h2']

def EvL (L : List (Nat × Value)) : List Operand → List Value → Prop
  | [], [] => True
  | o :: os, v :: vs => ev L o = some v ∧ EvL L os vs
  | _, _ => False

theorem EvL.map {n : Nat} {a : Act} (hf : Fits n L a) : ∀ {os : List Operand} {vs : List Value}, EvL L os vs → os.map a.eval = vs
  | [], [], _ => rfl
  | o :: os, v :: vs, h => by rw [List.map_cons, hf.ev h.1, EvL.map hf h.2]
  | [], _ :: _, h => h.elim
  | _ :: _, [], h => h.elim

theorem run_call {os : List Operand} {vs : List Value} {f : FuncId} {tys : Array TypeId} {P : Program} {a : Act} {n : Nat} (hf : Fits n L a) (hc : Cal P f) (hv : EvL L os vs) {d : Option Tmp} (w : World) :
    (execOp a.eval ⟨d, .call { callee := .value (.func f), args := os.toArray, argTypes := tys }, T, pos, aft, gd⟩).run P w = .ok (.enter f vs.toArray) w := by
  have hm := hv.map hf
  have h := hc vs.toArray w
  simp only [execOp, resolve, invoke, Deferred.ofValue, Act.eval, Sem.run_bind, Sem.run_pure, Result.andThen_ok, List.map_toArray, hm]
  simpa using h

/-- A call by contract: what the contract asks stands first. -/
theorem jo_call {os : List Operand} {vs : List Value} {f : FuncId} {tys : Array TypeId} {Bs : List Asn} {ι : Type} {val : ι → Value} {asn : ι → List Asn} {d : Nat} (hc : Cal c.P f) (con : Con c.P f vs.toArray Bs val asn) (hv : EvL L os vs) (hd : Nat.blt d c.n = true)
    (h : ∀ i, J c ((d, val i) :: L) (asn i ++ R) (wpList c.P ops Q rest)) : J c L (Bs ++ R) (wpList c.P ops Q (⟨some d, .call { callee := .value (.func f), args := os.toArray, argTypes := tys }, T, pos, aft, none⟩ :: rest)) := jo_step rfl fun a w hf hm => by
  show Oper.upon _ _ _ _ _ ((execOp a.eval _).run c.P w)
  rw [run_call hf hc hv w]
  obtain ⟨I, m, he, hs⟩ := hm
  obtain ⟨m1, m2, rfl, h1, h2⟩ := Sats_append.1 hs
  refine (con w I m1 he.okw.left h1).mono fun e w' hE => ?_
  obtain ⟨i, I', m1', rfl, h3, h4⟩ := hE
  exact h i _ _ (hf.put (by rw [Nat.blt_eq] at hd; exact hd) _) ⟨I', m1' ++ m2, he.trans (h3.frame he.okw), Sats_append.2 ⟨m1', m2, rfl, h4, h2.frame he.okw h3⟩⟩

/-- What lasts is there. -/
def HasP (As : List Asn) : List Asn → Prop
  | [] => True
  | B :: Bs => (B.pers = true ∧ B ∈ As) ∧ HasP As Bs

theorem Sats.pers {w : World} {I : Blocks} : ∀ {As : List Asn} {m : List Nat} {A : Asn}, Sats w I As m → A ∈ As → A.pers = true → A.sat w I []
  | [], _, _, _, h, _ => by cases h
  | B :: As, m, A, hs, hA, hp => by
    obtain ⟨m1, m2, rfl, h1, h2⟩ := hs
    rcases List.mem_cons.1 hA with rfl | hA
    · have := Asn.sat_pers hp h1; subst this; exact h1
    · exact Sats.pers h2 hA hp

theorem HasP.sats {w : World} {I : Blocks} {m : List Nat} (hs : Sats w I As m) : ∀ {Bs : List Asn}, HasP As Bs → Sats w I Bs []
  | [], _ => rfl
  | _ :: _, h => ⟨[], [], rfl, hs.pers h.1.2 h.1.1, HasP.sats hs h.2⟩

theorem Okw.nil {w : World} {I : Blocks} {m : List Nat} (h : Okw w I m) : Okw w I [] := ⟨h.lt, by simp, fun _ hb => by simp at hb, fun _ hb => by simp at hb⟩

/-- A call by contract that asks only what lasts. -/
theorem jo_callp {os : List Operand} {vs : List Value} {f : FuncId} {tys : Array TypeId} {Bs : List Asn} {ι : Type} {val : ι → Value} {asn : ι → List Asn} {d : Nat} (hc : Cal c.P f) (con : Con c.P f vs.toArray Bs val asn) (hv : EvL L os vs) (hd : Nat.blt d c.n = true) (hB : HasP As Bs)
    (h : ∀ i, J c ((d, val i) :: L) (asn i ++ As) (wpList c.P ops Q rest)) : J c L As (wpList c.P ops Q (⟨some d, .call { callee := .value (.func f), args := os.toArray, argTypes := tys }, T, pos, aft, none⟩ :: rest)) := jo_step rfl fun a w hf hm => by
  show Oper.upon _ _ _ _ _ ((execOp a.eval _).run c.P w)
  rw [run_call hf hc hv w]
  obtain ⟨I, m, he, hs⟩ := hm
  have ho := he.okw
  refine (con w I [] ho.nil (hB.sats hs)).mono fun e w' hE => ?_
  obtain ⟨i, I', m1', rfl, h3, h4⟩ := hE
  exact h i _ _ (hf.put (by rw [Nat.blt_eq] at hd; exact hd) _) ⟨I', m1' ++ m, he.trans (Eff.frame (m1 := []) ho h3), Sats_append.2 ⟨m1', m, rfl, h4, Sats.frame (m1 := []) ho h3 hs⟩⟩
end ops
end Go.Sep
