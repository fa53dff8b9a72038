/-
  The rules of the calculus for pointers held against each other and for what a strings.Builder does. No program in sight. No conditions.
-/
import Derived.Test.YtikllmfjgpmcnaaDoorSepL
import Derived.Lib.Builder
import Derived.Lib.UnsafeStr
namespace Go.Sep
open Go
set_option linter.unusedSimpArgs false
set_option linter.unusedVariables false

section ops
variable {c : Cx} {L : List (Nat × Value)} {As R : List Asn} {Q : Exit → Act → World → Prop} {K : Act → World → Prop} {ops : Array Oper} {rest : List Oper} {T : TypeId} {pos : String} {aft : Array Edge} {gd : Option (Nat × Bool)}

theorem run_eq_nilptr {P : Program} {w : World} {t te : TypeId} (hu : P.underlying t = some (.pointer te)) : (Op.equal t (.pointer none) (.pointer none)).run P w = .ok true w := by
  have h : ∀ d : Nat, (Op.equalIn (d + 1) t (.pointer none) (.pointer none)).run P w = .ok true w := fun d => by simp [Op.equalIn, run_underlying hu]
  simp [Op.equal, Op.maxDepth, h 9999]
theorem run_eq_ptrnil {P : Program} {w : World} {t te : TypeId} {p : Addr} (hu : P.underlying t = some (.pointer te)) : (Op.equal t (.pointer (some p)) (.pointer none)).run P w = .ok false w := by
  have h : ∀ d : Nat, (Op.equalIn (d + 1) t (.pointer (some p)) (.pointer none)).run P w = .ok false w := fun d => by simp [Op.equalIn, run_underlying hu]
  simp [Op.equal, Op.maxDepth, h 9999]
theorem pr_eql_nilptr {t t' te : TypeId} {x y : Operand} (hx : ev L x = some (.pointer none)) (hy : ev L y = some (.pointer none)) (hu : c.P.underlying t = some (.pointer te)) : PR c (.binOp .eql t x y t') T L As (.bool true) := fun a w hf _ d pos aft gd => by
  have h := run_eq_nilptr (P := c.P) (w := w) hu
  simp only [execOp, hf.ev hx, hf.ev hy, eqGuard, binOp, Sem.run_bind, Sem.run_pure, Result.andThen_ok, h]
  simp [h]
theorem pr_eql_ptrnil {t t' te : TypeId} {x y : Operand} {p : Addr} (hx : ev L x = some (.pointer (some p))) (hy : ev L y = some (.pointer none)) (hu : c.P.underlying t = some (.pointer te)) : PR c (.binOp .eql t x y t') T L As (.bool false) := fun a w hf _ d pos aft gd => by
  have h := run_eq_ptrnil (P := c.P) (w := w) (p := p) hu
  simp only [execOp, hf.ev hx, hf.ev hy, eqGuard, binOp, Sem.run_bind, Sem.run_pure, Result.andThen_ok, h]
  simp [h]
theorem pr_neq_nilptr {t t' te : TypeId} {x y : Operand} (hx : ev L x = some (.pointer none)) (hy : ev L y = some (.pointer none)) (hu : c.P.underlying t = some (.pointer te)) : PR c (.binOp .neq t x y t') T L As (.bool false) := fun a w hf _ d pos aft gd => by
  have h := run_eq_nilptr (P := c.P) (w := w) hu
  simp only [execOp, hf.ev hx, hf.ev hy, eqGuard, binOp, Sem.run_bind, Sem.run_pure, Result.andThen_ok, h]
  simp [h]
theorem pr_neq_ptrnil {t t' te : TypeId} {x y : Operand} {p : Addr} (hx : ev L x = some (.pointer (some p))) (hy : ev L y = some (.pointer none)) (hu : c.P.underlying t = some (.pointer te)) : PR c (.binOp .neq t x y t') T L As (.bool true) := fun a w hf _ d pos aft gd => by
  have h := run_eq_ptrnil (P := c.P) (w := w) (p := p) hu
  simp only [execOp, hf.ev hx, hf.ev hy, eqGuard, binOp, Sem.run_bind, Sem.run_pure, Result.andThen_ok, h]
  simp [h]
theorem pr_neq_ptrsame {t t' te : TypeId} {x y : Operand} {p : Addr} {agg : Bool} {n by_ : Nat} {z : Option Value} (hx : ev L x = some (.pointer (some p))) (hy : ev L y = some (.pointer (some p))) (hu : c.P.underlying t = some (.pointer te)) (ht : TyF c.P te agg n by_ z) : PR c (.binOp .neq t x y t') T L As (.bool false) := fun a w hf _ d pos aft gd => by
  obtain ⟨i, hi, _⟩ := ht.get
  have := Lib.run_neq_ptr_same (P := c.P) w p hu hi
  simp only [execOp, hf.ev hx, hf.ev hy, eqGuard, Sem.run_bind, Sem.run_pure, Result.andThen_ok]
  simp [this]

/-! ### What is passed over -/
theorem jo_skipu {op : Op} {d j : Nat} {want b : Bool} {t : Nat} (hj : (ops[j]?).bind (·.dst) = some t) (hl : lk L t = some (.bool b)) (hb : b = !want) (hd : Nat.blt d c.n = true) (h : J c ((d, undef) :: L) As (wpList c.P ops Q rest)) : J c L As (wpList c.P ops Q (⟨some d, op, T, pos, aft, some (j, want)⟩ :: rest)) := fun a w hf hm => by
  have hy : yielded ops a.tmps j = some (!want) := by
    have := hf.2.2 t _ hl
    simp [yielded, hj, this, hb]
  unfold wpList
  rw [if_neg (by simp [Region.wanted, hy])]
  exact h _ w (hf.put (by rw [Nat.blt_eq] at hd; exact hd) _) hm
theorem jo_skipn {op : Op} {d j : Nat} {want : Bool} {t : Nat} (hj : (ops[j]?).bind (·.dst) = some t) (hl : lk L t = some undef) (hd : Nat.blt d c.n = true) (h : J c ((d, undef) :: L) As (wpList c.P ops Q rest)) : J c L As (wpList c.P ops Q (⟨some d, op, T, pos, aft, some (j, want)⟩ :: rest)) := fun a w hf hm => by
  have hy : Region.wanted ⟨some d, op, T, pos, aft, some (j, want)⟩ (yielded ops a.tmps) = false := by
    have := hf.2.2 t _ hl
    simp [Region.wanted, yielded, hj, this, undef]
  unfold wpList
  rw [if_neg (by rw [hy]; simp)]
  exact h _ w (hf.put (by rw [Nat.blt_eq] at hd; exact hd) _) hm
theorem jd_skipu {op : Op} {d j : Nat} {want b : Bool} {t : Nat} (hj : (ops[j]?).bind (·.dst) = some t) (hl : lk L t = some (.bool b)) (hb : b = !want) (hd : Nat.blt d c.n = true) (h : JD c ((d, undef) :: L) As ops Q rest) : JD c L As ops Q (⟨some d, op, T, pos, aft, some (j, want)⟩ :: rest) := fun a hf => by
  have hy : yielded ops a.tmps j = some (!want) := by
    have := hf.2.2 t _ hl
    simp [yielded, hj, this, hb]
  unfold wpQuiet
  rw [if_neg (by simp [Region.wanted, hy])]
  exact h _ (hf.put (by rw [Nat.blt_eq] at hd; exact hd) _)
theorem jd_skipn {op : Op} {d j : Nat} {want : Bool} {t : Nat} (hj : (ops[j]?).bind (·.dst) = some t) (hl : lk L t = some undef) (hd : Nat.blt d c.n = true) (h : JD c ((d, undef) :: L) As ops Q rest) : JD c L As ops Q (⟨some d, op, T, pos, aft, some (j, want)⟩ :: rest) := fun a hf => by
  have hy : Region.wanted ⟨some d, op, T, pos, aft, some (j, want)⟩ (yielded ops a.tmps) = false := by
    have := hf.2.2 t _ hl
    simp [Region.wanted, yielded, hj, this, undef]
  unfold wpQuiet
  rw [if_neg (by rw [hy]; simp)]
  exact h _ (hf.put (by rw [Nat.blt_eq] at hd; exact hd) _)

/-! ### Storing slices whose address is hidden -/
def SliceV (v : Value) : Prop := ∃ a n k, v = .slice a n k
theorem SliceV.one {v : Value} (h : SliceV v) : v.oneCell' = true := by obtain ⟨a, n, k, rfl⟩ := h; rfl
theorem SliceV.cells {v : Value} (h : SliceV v) : v.cells = [v].toArray := by obtain ⟨a, n, k, rfl⟩ := h; rfl
theorem slice_mem {w : World} {I : Blocks} : ∀ {As : List Asn} {m : List Nat} {A : Asn}, Sats w I As m → A ∈ As → ∃ m', A.sat w I m'
  | [], _, _, _, h => by cases h
  | B :: As, m, A, hs, hA => by
    obtain ⟨m1, m2, rfl, h1, h2⟩ := hs
    rcases List.mem_cons.1 hA with rfl | hA
    · exact ⟨_, h1⟩
    · exact slice_mem h2 hA
theorem row_slice {w : World} {I : Blocks} {m : List Nat} {v : Value} {E : TypeId} {t : Ty} {xs : List t.den} (hA : Asn.row v E t xs ∈ As) (hs : Sats w I As m) : SliceV v := by
  obtain ⟨m', h⟩ := slice_mem hs hA
  rcases h with ⟨rfl, _⟩ | ⟨g, cap, rfl, _⟩
  · exact ⟨_, _, _, rfl⟩
  · exact ⟨_, _, _, rfl⟩
theorem imm_slice {w : World} {I : Blocks} {m : List Nat} {v : Value} {t : Ty} {xs : List t.den} (hA : Asn.imm (.list t) v xs ∈ As) (hs : Sats w I As m) : SliceV v := by
  obtain ⟨m', _, cs, hv, hr⟩ := slice_mem hs hA
  obtain ⟨a, len, cap, rfl, _⟩ := hr
  exact ⟨_, _, _, hv⟩

theorem jo_storeV {ty E : TypeId} {agg : Bool} {n by_ : Nat} {z : Option Value} {x y : Operand} {b o : Nat} {cs : List Value} {v : Value} (hx : ev L x = some (.pointer (some ⟨b, o, none⟩))) (hy : ev L y = some v) (ht : TyF c.P ty agg n by_ z)
    (vs : List Value) (hv : ∀ w I m, Sats w I (.box b E cs :: R) m → v.cells = vs.toArray) (hl : vs.length = n) (h1 : ∀ w I m, Sats w I (.box b E cs :: R) m → vs.all (·.oneCell') = true) (cs' : List Value) (hfit : Nat.ble (o + vs.length) cs.length = true) (hcs : setL cs o vs = cs')
    (h : J c L (.box b E cs' :: R) (wpList c.P ops Q rest)) : J c L (.box b E cs :: R) (wpList c.P ops Q (⟨none, .store ty x y, T, pos, aft, none⟩ :: rest)) := fun a w hf hm => by
  obtain ⟨I, m, he, hs⟩ := id hm
  exact jo_store hx hy ht vs (hv w I m hs) hl (h1 w I m hs) cs' hfit hcs h a w hf hm

theorem pr_buildV {t : TypeId} {parts : Array (Nat × Operand)} (vs : List (Nat × Value)) (cs : List Value) (hp : ∀ a, Fits c.n L a → (parts.map fun (i, x) => (i, a.eval x)).toList = vs) (hb : ∀ w I m, Sats w I As m → c.P.built t vs = some cs.toArray) :
    PR c (.build t parts) T L As (.agg cs.toArray) := fun a w hf hm => by
  obtain ⟨I, m, he, hs⟩ := id hm
  exact pr_build vs cs hp (hb w I m hs) a w hf hm

/-- A call that takes what it asks for. -/
theorem jo_callm {os : List Operand} {vs : List Value} {f : FuncId} {tys : Array TypeId} {Bs : List Asn} {ι : Type} {val : ι → Value} {asn : ι → List Asn} {d : Nat} (R : List Asn) (hAs : As = Bs ++ R) (hc : Cal c.P f) (con : Con c.P f vs.toArray Bs val asn) (hv : EvL L os vs) (hd : Nat.blt d c.n = true)
    (h : ∀ i, J c ((d, val i) :: L) (asn i ++ R) (wpList c.P ops Q rest)) : J c L As (wpList c.P ops Q (⟨some d, .call { callee := .value (.func f), args := os.toArray, argTypes := tys }, T, pos, aft, none⟩ :: rest)) := by
  subst hAs
  exact jo_call hc con hv hd h

theorem box_shape {w : World} {b : Nat} {E : TypeId} {cs : List Value} (h : w.heap[b]? = some (.cells cs.toArray E (0, 0))) : w.shape? b = some (E, cs.length) := by simp [World.shape?, h]

theorem pr_to_unsafe {src dst te E : TypeId} {x : Operand} {b : Nat} {cs : List Value} {agg : Bool} {n by_ : Nat} {z : Option Value} (hx : ev L x = some (.pointer (some ⟨b, 0, none⟩))) (hA : Asn.box b E cs ∈ As) (hs : c.P.underlying src = some (.pointer te)) (hd : c.P.underlying dst = some .unsafePointer) (ht : TyF c.P te agg n by_ z) (hn : Nat.blt 0 n = true) (hc : Nat.blt 0 cs.length = true) :
    PR c (.convert src dst x) T L As (.pointer (some ⟨b, 0, none⟩)) := fun a w hf hm d pos aft gd => by
  obtain ⟨I, m, ho, rfl, hh⟩ := hm.get hA
  obtain ⟨i, hi, hi2, _⟩ := ht.get
  rw [Nat.blt_eq] at hn hc
  have := Lib.run_to_unsafe (P := c.P) w ⟨b, 0, none⟩ hs hd hi (by omega) (box_shape hh) hc
  simp only [execOp, hf.ev hx, Sem.run_bind, this, Result.andThen_ok, Sem.run_pure]
theorem pr_from_unsafe {src dst u E : TypeId} {x : Operand} {b : Nat} {cs : List Value} {agg : Bool} {n by_ : Nat} {z : Option Value} (hx : ev L x = some (.pointer (some ⟨b, 0, none⟩))) (hA : Asn.box b E cs ∈ As) (hs : c.P.underlying src = some .unsafePointer) (hd : c.P.underlying dst = some (.pointer u)) (ht : TyF c.P u agg n by_ z) (hl : liesAt c.P c.P.depth E (cs.length / c.P.cellsOf E) 0 u 1 = true) :
    PR c (.convert src dst x) T L As (.pointer (some ⟨b, 0, none⟩)) := fun a w hf hm d pos aft gd => by
  obtain ⟨I, m, ho, rfl, hh⟩ := hm.get hA
  obtain ⟨i, hi, _⟩ := ht.get
  have := Lib.run_from_unsafe (P := c.P) w ⟨b, 0, none⟩ hs hd hi (box_shape hh) hl
  simp only [execOp, hf.ev hx, Sem.run_bind, this, Result.andThen_ok, Sem.run_pure]

/-! ### The bytes of a row as a string, without a copy -/

def LenF (v : Value) (n : Nat) (_ : World) (_ : Blocks) : Prop := ∃ a cap, v = .slice a n cap
def Ssd (v : Value) (xs : List UInt8) (p : Value) (_ : World) (_ : Blocks) : Prop := (xs = [] ∧ ∃ o, p = .pointer o) ∨ ∃ g cap, v = .slice (some ⟨g, 0, none⟩) xs.length cap ∧ p = .pointer (some ⟨g, 0, none⟩)

theorem Mem.addFact {w : World} {p : World → Blocks → Prop} (h : Mem c As w) (hp : ∀ w I, p w I) : Mem c (.fact p :: As) w := by
  obtain ⟨I, m, he, hs⟩ := h
  exact ⟨I, m, he, [], m, rfl, ⟨rfl, fun w' I' _ _ _ => hp w' I'⟩, hs⟩
theorem Mem.swap {w : World} {A B : Asn} (h : Mem c (A :: B :: As) w) : Mem c (B :: A :: As) w := Mem.pull (As := [A]) h

theorem j_len_row {v : Value} {E : TypeId} {t : Ty} {xs : List t.den} (h : J c L (.row v E t xs :: .fact (LenF v xs.length) :: R) K) : J c L (.row v E t xs :: R) K := fun a w hf hm => by
  obtain ⟨I, m, ho, hr⟩ := hm.get (A := .row v E t xs) (by simp)
  have hl : ∀ w I, LenF v xs.length w I := by
    rcases hr with ⟨rfl, rfl, _⟩ | ⟨g, cap, rfl, _, _⟩
    · exact fun _ _ => ⟨_, _, rfl⟩
    · exact fun _ _ => ⟨_, _, rfl⟩
  exact h a w hf (hm.addFact hl).swap
theorem pr_len_fact {x : Operand} {ty E : TypeId} {v : Value} {n : Nat} (hx : ev L x = some v) (hA : Asn.fact (LenF v n) ∈ As) (ht : c.P.underlying ty = some (.slice E)) : PR c (.call { callee := .builtin .len, args := #[x], argTypes := #[ty] }) T L As (.int .i64 n) :=
  fun _ w hf hm _ _ _ _ => by
    obtain ⟨I, m, ho, _, hr⟩ := hm.get hA
    obtain ⟨a, cap, rfl⟩ := hr w I (Nat.le_refl _) (fun _ _ => rfl) (fun _ h => h)
    exact run_len (c := c) hf hx rfl ht

theorem Mem.grow {w : World} (h : Mem c As w) (o : Obj) : Mem c As (w.alloc o) :=
  Mem.step (Ps := []) (Bs := []) h fun I m ho hs => by
    simp only [Sats] at hs
    subst hs
    exact ⟨I, [], ⟨rfl, rfl, rfl, by rw [size_alloc]; omega, fun k hk _ => heap_alloc_old w o hk, fun _ h => h, fun _ h => .inl h, fun b hb => by have := ho.lt b hb; rw [size_alloc]; omega, by simp, by simp, by simp⟩, rfl⟩

theorem jo_ssd {ty e E : TypeId} {x : Operand} {v : Value} {d : Nat} {xs : List UInt8} (hx : ev L x = some v) (hT : c.P.underlying T = some (.pointer e)) (hd : Nat.blt d c.n = true)
    (h : ∀ p, J c ((d, p) :: L) (.row v E .u8 xs :: .fact (Ssd v xs p) :: R) (wpList c.P ops Q rest)) :
    J c L (.row v E .u8 xs :: R) (wpList c.P ops Q (⟨some d, .call { callee := .builtin .unsafeSliceData, args := #[x], argTypes := #[ty] }, T, pos, aft, none⟩ :: rest)) := jo_step rfl fun a w hf hm => by
  obtain ⟨I, m, ho, hr⟩ := hm.get (A := .row v E .u8 xs) (by simp)
  show Oper.upon _ _ _ _ _ ((execOp a.eval _).run c.P w)
  have fin : ∀ p w', (Builtin.unsafeSliceData_ #[ty] T #[v]).run c.P w = .ok p w' → Mem c (.row v E .u8 xs :: R) w' → (∀ w I, Ssd v xs p w I) → Oper.upon c.P ⟨some d, .call { callee := .builtin .unsafeSliceData, args := #[x], argTypes := #[ty] }, T, pos, aft, none⟩ a (wpList c.P ops Q rest) Q ((execOp a.eval ⟨some d, .call { callee := .builtin .unsafeSliceData, args := #[x], argTypes := #[ty] }, T, pos, aft, none⟩).run c.P w) := fun p w' hrun hm' hp => by
    have hr' : (execOp a.eval ⟨some d, .call { callee := .builtin .unsafeSliceData, args := #[x], argTypes := #[ty] }, T, pos, aft, none⟩).run c.P w = .ok (.value p) w' := by
      simp only [execOp, resolve, invoke, builtin, Sem.run_bind, Sem.run_pure, Result.andThen_ok, List.map_toArray, List.map_cons, List.map_nil, hf.ev hx, hrun]
    rw [hr']
    exact h p _ _ (hf.put (by rw [Nat.blt_eq] at hd; exact hd) _) (hm'.addFact hp).swap
  rcases hr with ⟨rfl, rfl, _⟩ | ⟨g, cap, rfl, _, C, h1, h2, h3, h4, h5⟩
  · exact fin _ _ (Lib.run_unsafeSliceData_nil w #[ty] T 0 0) hm fun _ _ => .inl ⟨rfl, _, rfl⟩
  · by_cases hc : cap = 0
    · subst hc
      have hx0 : xs = [] := List.eq_nil_of_length_eq_zero (by omega)
      subst hx0
      exact fin _ _ (Lib.run_unsafeSliceData_zero w #[ty] T e hT ⟨g, 0, none⟩ 0 (E, C.size) (by simp [World.shape?, h1])) (hm.grow _) fun _ _ => .inl ⟨rfl, _, rfl⟩
    · exact fin _ _ (Lib.run_unsafeSliceData_row w #[ty] T ⟨g, 0, none⟩ _ cap hc) hm fun _ _ => .inr ⟨g, cap, rfl, rfl⟩

theorem jo_ustr {pt it E : TypeId} {x y : Operand} {v p : Value} {d : Nat} {xs : List UInt8} (hx : ev L x = some p) (hy : ev L y = some (.int .i64 xs.length)) (hA : Asn.fact (Ssd v xs p) ∈ R) (hp : c.P.underlying pt = some (.pointer E)) (hc : c.P.cellsOf E = 1) (hd : Nat.blt d c.n = true)
    (h : J c ((d, str xs) :: L) R (wpList c.P ops Q rest)) :
    J c L (.row v E .u8 xs :: R) (wpList c.P ops Q (⟨some d, .call { callee := .builtin .unsafeString, args := #[x, y], argTypes := #[pt, it] }, T, pos, aft, none⟩ :: rest)) := jo_step rfl fun a w hf hm => by
  obtain ⟨I, m, ho, hr⟩ := hm.get (A := .row v E .u8 xs) (by simp)
  obtain ⟨I2, m2, ho2, _, hss⟩ := hm.get (A := .fact (Ssd v xs p)) (by simp [hA])
  have hss := hss w I2 (Nat.le_refl _) (fun _ _ => rfl) (fun _ h => h)
  show Oper.upon _ _ _ _ _ ((execOp a.eval _).run c.P w)
  have fin : ∀ w', (Builtin.unsafeString_ #[pt, it] T #[p, .int .i64 xs.length]).run c.P w = .ok (str xs) w' → Mem c R w' → Oper.upon c.P ⟨some d, .call { callee := .builtin .unsafeString, args := #[x, y], argTypes := #[pt, it] }, T, pos, aft, none⟩ a (wpList c.P ops Q rest) Q ((execOp a.eval ⟨some d, .call { callee := .builtin .unsafeString, args := #[x, y], argTypes := #[pt, it] }, T, pos, aft, none⟩).run c.P w) := fun w' hrun hm' => by
    have hr' : (execOp a.eval ⟨some d, .call { callee := .builtin .unsafeString, args := #[x, y], argTypes := #[pt, it] }, T, pos, aft, none⟩).run c.P w = .ok (.value (str xs)) w' := by
      simp only [execOp, resolve, invoke, builtin, Sem.run_bind, Sem.run_pure, Result.andThen_ok, List.map_toArray, List.map_cons, List.map_nil, hf.ev hx, hf.ev hy, hrun]
    rw [hr']
    exact h _ _ (hf.put (by rw [Nat.blt_eq] at hd; exact hd) _) hm'
  by_cases hne : xs = []
  · subst hne
    rcases hss with ⟨_, o, rfl⟩ | ⟨g, cap, _, rfl⟩
    · exact fin w (Lib.run_unsafeString_none w pt it T o) hm.drop1
    · exact fin w (Lib.run_unsafeString_none w pt it T _) hm.drop1
  · rcases hss with ⟨h0, _⟩ | ⟨g, cap, hv, rfl⟩
    · exact absurd h0 hne
    · rcases hr with ⟨_, h0, _⟩ | ⟨g', cap', hv', _, hrow⟩
      · exact absurd h0 hne
      · rw [hv] at hv'
        simp only [Value.slice.injEq, Option.some.injEq, Addr.mk.injEq, and_true, true_and] at hv'
        obtain ⟨rfl, rfl⟩ := hv'
        have hb := hrow.bytes
        obtain ⟨C, h1, h2, h3, h4, h5⟩ := hrow
        have hrun := Lib.run_unsafeString_row (P := c.P) w pt it T E hp hc g C.size (by simp [World.shape?, h1]) xs hne (by rw [h4]; simpa [Ty.n] using h2) (by simp only [maxLen] at h3; omega)
          (fun j x hj => by
            obtain ⟨hj', rfl⟩ := List.getElem?_eq_some_iff.1 hj
            exact hb j hj')
        refine fin _ hrun ?_
        have hfz : ∀ k, k ≠ g → (w.freeze ⟨g, 0, none⟩ xs.length).heap[k]? = w.heap[k]? := fun k hk => by
          unfold World.freeze
          split
          · rfl
          · simp only [Array.getElem?_modify]; rw [if_neg (by simpa using fun e => hk e.symm)]
        have hsz : (w.freeze ⟨g, 0, none⟩ xs.length).heap.size = w.heap.size := by
          unfold World.freeze
          split
          · rfl
          · simp
        have hos : (w.freeze ⟨g, 0, none⟩ xs.length).os = w.os ∧ (w.freeze ⟨g, 0, none⟩ xs.length).tape = w.tape ∧ (w.freeze ⟨g, 0, none⟩ xs.length).output = w.output := by
          unfold World.freeze
          split <;> exact ⟨rfl, rfl, rfl⟩
        refine Mem.step (Ps := [.row v E .u8 xs]) (Bs := []) hm fun I m1 ho hs => ?_
        obtain ⟨m1, m2, rfl, hs, rfl⟩ := hs
        have hm1 : m1 = [g] := by
          rcases hs with ⟨_, h0, _⟩ | ⟨g2, cap2, hv2, rfl, _⟩
          · exact absurd h0 hne
          · rw [hv] at hv2
            simp only [Value.slice.injEq, Option.some.injEq, Addr.mk.injEq, and_true, true_and] at hv2
            rw [hv2.1]
        subst hm1
        exact ⟨I, [], ⟨hos.1, hos.2.1, hos.2.2, Nat.le_of_eq hsz.symm, fun k _ hk => hfz k (by simpa using hk), fun _ h => h, fun _ h => .inl h, fun k hk => by have := ho.lt k hk; omega, by simp, by simp, by simp⟩, rfl⟩
end ops
end Go.Sep
