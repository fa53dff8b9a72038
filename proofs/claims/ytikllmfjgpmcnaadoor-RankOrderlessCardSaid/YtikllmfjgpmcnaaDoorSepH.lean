/-
  The rules of the calculus for struct values, and for regions that draw their order and change memory: every order that may come up, one by one. No program in sight. No conditions.
-/
import Derived.Test.YtikllmfjgpmcnaaDoorSepG
import Derived.Laws.StructEq
import Derived.Laws.Tables
import Derived.OrdersHeld
namespace Go.Sep
open Go
set_option linter.unusedSimpArgs false

section ops
variable {c : Cx} {L : List (Nat × Value)} {As R : List Asn} {Q : Exit → Act → World → Prop} {K : Act → World → Prop} {ops : Array Oper} {rest : List Oper} {T : TypeId} {pos : String} {aft : Array Edge} {gd : Option (Nat × Bool)}

/-! ### Struct values -/

theorem pr_build {t : TypeId} {parts : Array (Nat × Operand)} (vs : List (Nat × Value)) (cs : List Value) (hp : ∀ a, Fits c.n L a → (parts.map fun (i, x) => (i, a.eval x)).toList = vs) (hb : c.P.built t vs = some cs.toArray) :
    PR c (.build t parts) T L As (.agg cs.toArray) := fun a w hf _ d pos aft gd => by
  have := run_build w t (parts.map fun (i, x) => (i, a.eval x)) cs.toArray (by rw [hp a hf]; exact hb)
  simp only [execOp, Sem.run_bind, this, Result.andThen_ok, Sem.run_pure]

theorem pr_fieldAddr {s : TypeId} {x : Operand} {k b o : Nat} {fs : Array Field} {f : Field} {agg : Bool} {n by_ : Nat} {z : Option Value} (o' : Nat) (hx : ev L x = some (.pointer (some ⟨b, o, none⟩))) (hu : c.P.underlying s = some (.struct fs)) (hf : fs[k]? = some f)
    (ht : TyF c.P f.type agg n by_ z) (hn : Nat.blt 0 n = true) (ho : o + f.offset = o') : PR c (.fieldAddr s x k) T L As (.pointer (some ⟨b, o', none⟩)) := fun a w hf' _ d pos aft gd => by
  have hn' : n ≠ 0 := by rw [Nat.blt_eq] at hn; omega
  simp [execOp, Instr.fieldAt, hf'.ev hx, run_underlying hu, hf, Instr.sureAddr, fieldPlace, ht.sizeOf, hn', Addr.add_mk, ho]

theorem pr_field {s : TypeId} {x : Operand} {k : Nat} {fs : Array Field} {f : Field} {agg : Bool} {n by_ : Nat} {z : Option Value} {cs : List Value} (v : Value) (hx : ev L x = some (.agg cs.toArray)) (hu : c.P.underlying s = some (.struct fs)) (hf : fs[k]? = some f)
    (ht : TyF c.P f.type agg n by_ z) (hv : (bif agg then some (.agg ((cs.drop f.offset).take n).toArray) else cs[f.offset]?) = some v) : PR c (.field s x k) T L As v := fun a w hf' _ d pos aft gd => by
  cases agg with
  | true =>
    simp only [cond_true, Option.some.injEq] at hv
    simp [execOp, Instr.field, hf'.ev hx, run_underlying hu, hf, part, asAgg, ht.isAgg, ht.sizeOf, ← hv, List.take_drop, Nat.add_comm]
  | false =>
    simp only [cond_false] at hv
    simp [execOp, Instr.field, hf'.ev hx, run_underlying hu, hf, part, asAgg, ht.isAgg, hv]

theorem bytes_toList (l : List UInt8) : (⟨l.toArray⟩ : ByteArray).toList = l := by rw [ByteArray.toList_eq]

theorem run_eq_ss {P : Program} {w : World} {t : TypeId} {f1 f2 : Field} {a1 a2 b1 b2 : List UInt8} (hu : P.underlying t = some (.struct #[f1, f2])) (hp : P.stoodInHeld t = false)
    (n1 : (f1.name == "_") = false) (n2 : (f2.name == "_") = false) (o1 : f1.offset = 0) (o2 : f2.offset = 1) (u1 : P.underlying f1.type = some .string) (u2 : P.underlying f2.type = some .string)
    {by1 by2 : Nat} {z1 z2 : Option Value} (t1 : TyF P f1.type false 1 by1 z1) (t2 : TyF P f2.type false 1 by2 z2) :
    (Op.equalIn 10000 t (.agg #[str a1, str a2]) (.agg #[str b1, str b2])).run P w = .ok (decide (a1 = b1) && decide (a2 = b2)) w := by
  have hfs : P.fieldsOf t = #[f1, f2] := by simp [Program.fieldsOf, hu]
  have n1' : f1.name ≠ "_" := by simpa using n1
  have n2' : f2.name ≠ "_" := by simpa using n2
  have p1 : ∀ (x y : Value) , (part f1.type #[x, y] 0).run P w = .ok x w := fun x y => by simp [part, t1.isAgg]
  have p2 : ∀ (x y : Value) , (part f2.type #[x, y] 1).run P w = .ok y w := fun x y => by simp [part, t2.isAgg]
  have e1 : ∀ d t (a b : List UInt8), P.underlying t = some .string → (Op.equalIn (d + 1) t (str a) (str b)).run P w = .ok (decide (a = b)) w := fun d t a b h => by
    show (Op.equalIn (d + 1) t (.string _) (.string _)).run P w = _
    rw [run_equalIn_string w d t _ _ h, bytes_toList, bytes_toList]
    congr 1
    by_cases hab : a = b <;> simp [hab]
  rw [show (10000 : Nat) = 9999 + 1 from rfl, run_equalIn_agg w 9999 t _ _ (by rw [hfs]; exact hu) hp, hfs]
  simp only [Op.eqFields, if_pos n1', if_pos n2', Sem.run_bind, o1, o2, p1, p2, Result.andThen_ok, e1 9998 _ _ _ u1, Sem.run_ite]
  by_cases h1 : a1 = b1
  · simp only [h1, decide_true, Bool.not_true, Bool.false_eq_true, if_false, Sem.run_bind, o1, o2, p1, p2, Result.andThen_ok, e1 9998 _ _ _ u2, Sem.run_ite, Bool.true_and]
    by_cases h2 : a2 = b2 <;> simp [h2]
  · simp [h1]

theorem pr_eql_ss {t t' : TypeId} {x y : Operand} {f1 f2 : Field} {a1 a2 b1 b2 : List UInt8} (hx : ev L x = some (.agg #[str a1, str a2])) (hy : ev L y = some (.agg #[str b1, str b2])) (hu : c.P.underlying t = some (.struct #[f1, f2])) (hp : c.P.stoodInHeld t = false) (hm : c.P.eqGuardType c.P.depth t = false)
    (n1 : (f1.name == "_") = false) (n2 : (f2.name == "_") = false) (o1 : f1.offset = 0) (o2 : f2.offset = 1) (u1 : c.P.underlying f1.type = some .string) (u2 : c.P.underlying f2.type = some .string)
    {by1 by2 : Nat} {z1 z2 : Option Value} (t1 : TyF c.P f1.type false 1 by1 z1) (t2 : TyF c.P f2.type false 1 by2 z2) : PR c (.binOp .eql t x y t') T L As (.bool (decide (a1 = b1) && decide (a2 = b2))) := fun a w hf _ d pos aft gd => by
  simp only [execOp, hf.ev hx, hf.ev hy, Sem.run_bind, run_eqGuard_agg w _ _ _ _ _ _ hm, Result.andThen_ok, run_eql_struct, run_eq_ss hu hp n1 n2 o1 o2 u1 u2 t1 t2, Sem.run_pure]
theorem pr_neq_ss {t t' : TypeId} {x y : Operand} {f1 f2 : Field} {a1 a2 b1 b2 : List UInt8} (hx : ev L x = some (.agg #[str a1, str a2])) (hy : ev L y = some (.agg #[str b1, str b2])) (hu : c.P.underlying t = some (.struct #[f1, f2])) (hp : c.P.stoodInHeld t = false) (hm : c.P.eqGuardType c.P.depth t = false)
    (n1 : (f1.name == "_") = false) (n2 : (f2.name == "_") = false) (o1 : f1.offset = 0) (o2 : f2.offset = 1) (u1 : c.P.underlying f1.type = some .string) (u2 : c.P.underlying f2.type = some .string)
    {by1 by2 : Nat} {z1 z2 : Option Value} (t1 : TyF c.P f1.type false 1 by1 z1) (t2 : TyF c.P f2.type false 1 by2 z2) : PR c (.binOp .neq t x y t') T L As (.bool (!(decide (a1 = b1) && decide (a2 = b2)))) := fun a w hf _ d pos aft gd => by
  simp only [execOp, hf.ev hx, hf.ev hy, Sem.run_bind, run_eqGuard_agg w _ _ _ _ _ _ hm, Result.andThen_ok, run_neq_struct, run_eq_ss hu hp n1 n2 o1 o2 u1 u2 t1 t2, Sem.run_pure]

/-! ### Regions that draw their order, order by order -/

def only (K : Act → World → Prop) : Exit → Act → World → Prop := fun e a w => e = .normal ∧ K a w

/-- Where a region stands: 'listed' have come up; S holds throughout. -/
def JH (c : Cx) (As0 : List Asn) (ops : Array Oper) (F : Act → World → Prop) (fuel : Nat) (listed : Array Bool) (L : List (Nat × Value)) (As : List Asn) : Prop :=
  J c L As (fun a w => wpAnyH c.P .any ops (only F) (Mem c As0) fuel listed a w)

variable {As0 : List Asn} {F : Act → World → Prop} {fuel : Nat} {listed listed' : Array Bool}

theorem jc_held {id : Nat} {l : List Oper} {ι : Type} (LF : ι → List (Nat × Value)) (AF : ι → List Asn) (As0 : List Asn) (hm : c.P.follows .mixedOrders = true)
    (h : ∀ listed, listed = Array.replicate l.toArray.size false → JH c As0 l.toArray (fun a w => ∃ i, Fits c.n (LF i) a ∧ Mem c (AF i) w) l.toArray.size listed L As) (k : ∀ i, J c (LF i) (AF i) (Q .normal)) :
    J c L As ((Code.region id l.toArray true).wp c.P Q) := fun a w hf hw => by
  refine wp_mono (Q := only (fun a w => ∃ i, Fits c.n (LF i) a ∧ Mem c (AF i) w)) (wp_region_held (S := Mem c As0) hm (h _ rfl a _ hf (hw.drawn _))) ?_
  rintro e a' w' ⟨rfl, i, h1, h2⟩
  exact k i a' w' h1 h2

/-- An operation that leaves the world alone is taken first. -/
theorem jh_take (i : Nat) {op : Op} {d : Nat} {v : Value} (hi : ops[i]? = some ⟨some d, op, T, pos, aft, none⟩) (hs : Region.noSelect ops = true) (hf : Region.free .any ops listed i = true) (hr : (Region.ready .any ops listed).contains i = true)
    (hd : Nat.blt d c.n = true) (hp : PR c op T L As0 v) (hS : ∀ w, Mem c As w → Mem c As0 w) (hl : listed.setIfInBounds i true = listed') (h : JH c As0 ops F fuel listed' ((d, v) :: L) As) : JH c As0 ops F (fuel + 1) listed L As := fun a w hf' hw => by
  refine wpAnyH_take hi hs hf hr (fun c a w h => absurd h.1 (by simp)) (.inl ⟨by simp [Region.wanted], fun w hw => hp a w hf' hw _ _ _ _⟩) (hS w hw) ?_
  rw [hl]
  exact h _ w (hf'.put (by rw [Nat.blt_eq] at hd; exact hd) v) hw

theorem jh_all (rs : List Nat) (hr : Region.ready .any ops listed = rs) (hne : rs ≠ [])
    (h : ∀ i ∈ rs, J c L As (fun a w => wpOp c.P ops (only F) i (fun a' w' => Mem c As0 w' ∧ wpAnyH c.P .any ops (only F) (Mem c As0) fuel (listed.setIfInBounds i true) a' w') a w)) : JH c As0 ops F (fuel + 1) listed L As := fun a w hf hw =>
  wpAnyH_all hr hne fun i hi => h i hi a w hf hw

/-- One operation, by the rules of a plain region. -/
theorem jh_op {i : Nat} {o : Oper} (hi : ops[i]? = some o) (h : J c L As (wpList c.P ops (only K) [o])) : J c L As (fun a w => wpOp c.P ops (only F) i K a w) := fun a w hf hw => by
  have := h a w hf hw
  unfold wpOp
  simp only [hi]
  unfold wpList at this
  split
  · rename_i hw'
    rw [if_pos hw'] at this
    rcases this with this | ⟨_, h⟩
    · left
      unfold Oper.wp at this ⊢
      revert this
      generalize (execOp a.eval o).run c.P w = r
      intro this
      cases r with
      | ok n w' => cases n with
        | value v => exact this.2
        | skip => exact this.2
        | defer d => exact this.2
        | enter f args => exact Calls.mono this fun e w'' he => by cases e with
          | returned v => exact he.2
          | panicked ch => exact absurd he.1 (by simp)
          | outgrown => obtain ⟨_, _, h, _⟩ := (he : LetsOut (only K)); exact absurd h (by simp)
        | row r args => exact Rows.mono this fun v w'' he => he.2
        | _ => exact this
      | halt h w' => cases h <;> first | exact this | exact absurd this.1 (by simp)
    · obtain ⟨_, _, h, _⟩ := h
      exact absurd h (by simp)
  · rename_i hw'
    rw [if_neg hw'] at this
    exact this.2

theorem jh_in {i : Nat} (hS : ∀ w, Mem c As w → Mem c As0 w) (hl : listed.setIfInBounds i true = listed') (h : JH c As0 ops F fuel listed' L As) :
    J c L As (wpList c.P ops (only (fun a' w' => Mem c As0 w' ∧ wpAnyH c.P .any ops (only F) (Mem c As0) fuel (listed.setIfInBounds i true) a' w')) []) := fun a w hf hw => by
  refine ⟨rfl, hS w hw, ?_⟩
  rw [hl]
  exact h a w hf hw

theorem jh_done {ι : Type} {LF : ι → List (Nat × Value)} {AF : ι → List Asn} (i : ι) (hr : Region.ready .any ops listed = []) (hL : SubL (LF i) L) (hA : ∀ w, Mem c As w → Mem c (AF i) w) :
    JH c As0 ops (fun a w => ∃ i, Fits c.n (LF i) a ∧ Mem c (AF i) w) fuel listed L As := fun _ w hf hw =>
  wpAnyH_done hr ⟨rfl, i, hf.sub hL, hA w hw⟩ _
end ops
end Go.Sep
