/-
  The rules of the calculus for operations on numbers, bytes, strings and booleans. No program in sight. No conditions.
-/
import Derived.Test.YtikllmfjgpmcnaaDoorSepB
import Derived.Lib.Strings
namespace Go.Sep
open Go

theorem beq_dec {α : Type} [DecidableEq α] (a b : α) : (a == b) = decide (a = b) := rfl
theorem mk_size (l : List UInt8) : (⟨l.toArray⟩ : ByteArray).size = l.length := rfl

section ops
variable {c : Cx} {L : List (Nat × Value)} {As : List Asn} {T t t' : TypeId}

/-! ### Numbers -/
theorem pr_lss {x y : Operand} {k : IntKind} {m n : Int} (hx : ev L x = some (.int k m)) (hy : ev L y = some (.int k n)) : PR c (.binOp .lss t x y t') T L As (.bool (decide (m < n))) := fun a w hf _ d pos aft gd => by
  simp [execOp, hf.ev hx, hf.ev hy, eqGuard, binOp, Op.intCmp]
theorem pr_leq {x y : Operand} {k : IntKind} {m n : Int} (hx : ev L x = some (.int k m)) (hy : ev L y = some (.int k n)) : PR c (.binOp .leq t x y t') T L As (.bool (decide (m ≤ n))) := fun a w hf _ d pos aft gd => by
  simp [execOp, hf.ev hx, hf.ev hy, eqGuard, binOp, Op.intCmp]
theorem pr_gtr {x y : Operand} {k : IntKind} {m n : Int} (hx : ev L x = some (.int k m)) (hy : ev L y = some (.int k n)) : PR c (.binOp .gtr t x y t') T L As (.bool (decide (n < m))) := fun a w hf _ d pos aft gd => by
  simp [execOp, hf.ev hx, hf.ev hy, eqGuard, binOp, Op.intCmp]
theorem pr_geq {x y : Operand} {k : IntKind} {m n : Int} (hx : ev L x = some (.int k m)) (hy : ev L y = some (.int k n)) : PR c (.binOp .geq t x y t') T L As (.bool (decide (n ≤ m))) := fun a w hf _ d pos aft gd => by
  simp [execOp, hf.ev hx, hf.ev hy, eqGuard, binOp, Op.intCmp]
theorem pr_eql {x y : Operand} {k : IntKind} {m n : Int} (hx : ev L x = some (.int k m)) (hy : ev L y = some (.int k n)) : PR c (.binOp .eql t x y t') T L As (.bool (decide (m = n))) := fun a w hf _ d pos aft gd => by
  simp [execOp, hf.ev hx, hf.ev hy, eqGuard, binOp, Op.intCmp]; exact beq_dec _ _
theorem pr_neq {x y : Operand} {k : IntKind} {m n : Int} (hx : ev L x = some (.int k m)) (hy : ev L y = some (.int k n)) : PR c (.binOp .neq t x y t') T L As (.bool (!decide (m = n))) := fun a w hf _ d pos aft gd => by
  simp [execOp, hf.ev hx, hf.ev hy, eqGuard, binOp, Op.intCmp, bne]; exact beq_dec _ _

theorem wrap_i64 {n : Int} (h : -9223372036854775808 ≤ n ∧ n ≤ 9223372036854775807) : IntKind.i64.wrap n = n := IntWalk.i64_in _ h

theorem pr_add {x y : Operand} {m n : Int} (hx : ev L x = some (.int .i64 m)) (hy : ev L y = some (.int .i64 n)) (h : -9223372036854775808 ≤ m + n ∧ m + n ≤ 9223372036854775807) : PR c (.binOp .add t x y t') T L As (.int .i64 (m + n)) := fun a w hf _ d pos aft gd => by
  simp only [execOp, hf.ev hx, hf.ev hy, eqGuard, binOp, Op.intArith]
  rw [wrap_i64 h]; simp
theorem pr_sub {x y : Operand} {m n : Int} (hx : ev L x = some (.int .i64 m)) (hy : ev L y = some (.int .i64 n)) (h : -9223372036854775808 ≤ m - n ∧ m - n ≤ 9223372036854775807) : PR c (.binOp .sub t x y t') T L As (.int .i64 (m - n)) := fun a w hf _ d pos aft gd => by
  simp only [execOp, hf.ev hx, hf.ev hy, eqGuard, binOp, Op.intArith]
  rw [wrap_i64 h]; simp
theorem pr_mul {x y : Operand} {m n : Int} (hx : ev L x = some (.int .i64 m)) (hy : ev L y = some (.int .i64 n)) (h : -9223372036854775808 ≤ m * n ∧ m * n ≤ 9223372036854775807) : PR c (.binOp .mul t x y t') T L As (.int .i64 (m * n)) := fun a w hf _ d pos aft gd => by
  simp only [execOp, hf.ev hx, hf.ev hy, eqGuard, binOp, Op.intArith]
  rw [wrap_i64 h]; simp

/-! #### Natural numbers -/
theorem pr_lssN {x y : Operand} {k : IntKind} {m n : Nat} (hx : ev L x = some (.int k m)) (hy : ev L y = some (.int k n)) : PR c (.binOp .lss t x y t') T L As (.bool (decide (m < n))) := by
  have := pr_lss (c := c) (As := As) (T := T) (t := t) (t' := t') hx hy
  simpa using this
theorem pr_leqN {x y : Operand} {k : IntKind} {m n : Nat} (hx : ev L x = some (.int k m)) (hy : ev L y = some (.int k n)) : PR c (.binOp .leq t x y t') T L As (.bool (decide (m ≤ n))) := by
  have := pr_leq (c := c) (As := As) (T := T) (t := t) (t' := t') hx hy
  simpa using this
theorem pr_gtrN {x y : Operand} {k : IntKind} {m n : Nat} (hx : ev L x = some (.int k m)) (hy : ev L y = some (.int k n)) : PR c (.binOp .gtr t x y t') T L As (.bool (decide (n < m))) := by
  have := pr_gtr (c := c) (As := As) (T := T) (t := t) (t' := t') hx hy
  simpa using this
theorem pr_geqN {x y : Operand} {k : IntKind} {m n : Nat} (hx : ev L x = some (.int k m)) (hy : ev L y = some (.int k n)) : PR c (.binOp .geq t x y t') T L As (.bool (decide (n ≤ m))) := by
  have := pr_geq (c := c) (As := As) (T := T) (t := t) (t' := t') hx hy
  simpa using this
theorem pr_eqlN {x y : Operand} {k : IntKind} {m n : Nat} (hx : ev L x = some (.int k m)) (hy : ev L y = some (.int k n)) : PR c (.binOp .eql t x y t') T L As (.bool (decide (m = n))) := by
  have := pr_eql (c := c) (As := As) (T := T) (t := t) (t' := t') hx hy
  rwa [decide_eq_decide.2 (Int.natCast_inj (m := m) (n := n))] at this
theorem pr_neqN {x y : Operand} {k : IntKind} {m n : Nat} (hx : ev L x = some (.int k m)) (hy : ev L y = some (.int k n)) : PR c (.binOp .neq t x y t') T L As (.bool (!decide (m = n))) := by
  have := pr_neq (c := c) (As := As) (T := T) (t := t) (t' := t') hx hy
  rwa [decide_eq_decide.2 (Int.natCast_inj (m := m) (n := n))] at this
theorem pr_addN {x y : Operand} {m n : Nat} (hx : ev L x = some (.int .i64 m)) (hy : ev L y = some (.int .i64 n)) (h : m + n ≤ 9223372036854775807) : PR c (.binOp .add t x y t') T L As (.int .i64 ((m + n : Nat) : Int)) := by
  have := pr_add (c := c) (As := As) (T := T) (t := t) (t' := t') hx hy (by omega)
  rwa [← Int.natCast_add] at this
theorem pr_subN {x y : Operand} {m n : Nat} (hx : ev L x = some (.int .i64 m)) (hy : ev L y = some (.int .i64 n)) (h : n ≤ m) (h' : m ≤ 9223372036854775807) : PR c (.binOp .sub t x y t') T L As (.int .i64 ((m - n : Nat) : Int)) := by
  have := pr_sub (c := c) (As := As) (T := T) (t := t) (t' := t') hx hy (by omega)
  rwa [← Int.ofNat_sub h] at this

/-! ### Bytes -/
theorem byte_inj {a b : UInt8} : ((a.toNat : Int) = b.toNat) ↔ a = b := by
  rw [Int.natCast_inj, UInt8.toNat_inj]
theorem wrap_u8 (n : Nat) : IntKind.u8.wrap (n : Int) = ((n % 256 : Nat) : Int) := by
  simp [IntKind.wrap, IntKind.signed, IntKind.bits]
theorem pr_blss {x y : Operand} {m n : UInt8} (hx : ev L x = some (byte m)) (hy : ev L y = some (byte n)) : PR c (.binOp .lss t x y t') T L As (.bool (decide (m < n))) := fun a w hf _ d pos aft gd => by
  simp [execOp, hf.ev hx, hf.ev hy, byte, eqGuard, binOp, Op.intCmp, UInt8.lt_iff_toNat_lt]
theorem pr_bleq {x y : Operand} {m n : UInt8} (hx : ev L x = some (byte m)) (hy : ev L y = some (byte n)) : PR c (.binOp .leq t x y t') T L As (.bool (decide (m ≤ n))) := fun a w hf _ d pos aft gd => by
  simp [execOp, hf.ev hx, hf.ev hy, byte, eqGuard, binOp, Op.intCmp, UInt8.le_iff_toNat_le]
theorem pr_bgtr {x y : Operand} {m n : UInt8} (hx : ev L x = some (byte m)) (hy : ev L y = some (byte n)) : PR c (.binOp .gtr t x y t') T L As (.bool (decide (n < m))) := fun a w hf _ d pos aft gd => by
  simp [execOp, hf.ev hx, hf.ev hy, byte, eqGuard, binOp, Op.intCmp, UInt8.lt_iff_toNat_lt]
theorem pr_bgeq {x y : Operand} {m n : UInt8} (hx : ev L x = some (byte m)) (hy : ev L y = some (byte n)) : PR c (.binOp .geq t x y t') T L As (.bool (decide (n ≤ m))) := fun a w hf _ d pos aft gd => by
  simp [execOp, hf.ev hx, hf.ev hy, byte, eqGuard, binOp, Op.intCmp, UInt8.le_iff_toNat_le]
theorem pr_beql {x y : Operand} {m n : UInt8} (hx : ev L x = some (byte m)) (hy : ev L y = some (byte n)) : PR c (.binOp .eql t x y t') T L As (.bool (decide (m = n))) := fun a w hf _ d pos aft gd => by
  have : ((m.toNat : Int) == n.toNat) = decide (m = n) := by rw [beq_dec]; simp only [byte_inj]
  simp [execOp, hf.ev hx, hf.ev hy, byte, eqGuard, binOp, Op.intCmp, this]
theorem pr_bneq {x y : Operand} {m n : UInt8} (hx : ev L x = some (byte m)) (hy : ev L y = some (byte n)) : PR c (.binOp .neq t x y t') T L As (.bool (!decide (m = n))) := fun a w hf _ d pos aft gd => by
  have : ((m.toNat : Int) == n.toNat) = decide (m = n) := by rw [beq_dec]; simp only [byte_inj]
  simp [execOp, hf.ev hx, hf.ev hy, byte, eqGuard, binOp, Op.intCmp, bne, this]
theorem pr_badd {x y : Operand} {m n : UInt8} (hx : ev L x = some (byte m)) (hy : ev L y = some (byte n)) : PR c (.binOp .add t x y t') T L As (byte (m + n)) := fun a w hf _ d pos aft gd => by
  have : IntKind.u8.wrap ((m.toNat : Int) + n.toNat) = (m + n).toNat := by
    rw [← Int.natCast_add, wrap_u8, UInt8.toNat_add]
  simp [execOp, hf.ev hx, hf.ev hy, byte, eqGuard, binOp, Op.intArith, this]
theorem pr_bsub {x y : Operand} {m n : UInt8} (hx : ev L x = some (byte m)) (hy : ev L y = some (byte n)) : PR c (.binOp .sub t x y t') T L As (byte (m - n)) := fun a w hf _ d pos aft gd => by
  have : IntKind.u8.wrap ((m.toNat : Int) - n.toNat) = (m - n).toNat := by
    have h1 := m.toNat_lt
    have h2 := n.toNat_lt
    simp only [IntKind.wrap, IntKind.signed, IntKind.bits, UInt8.toNat_sub]
    simp
    omega
  simp [execOp, hf.ev hx, hf.ev hy, byte, eqGuard, binOp, Op.intArith, this]

/-! ### Strings -/
theorem str_data (s : ByteArray) : str s.data.toList = .string s := by unfold str; rw [Lib.mk_data]
theorem str_inj {a b : List UInt8} : str a = str b ↔ a = b := by simp [str]
theorem pr_seql {x y : Operand} {m n : List UInt8} (hx : ev L x = some (str m)) (hy : ev L y = some (str n)) : PR c (.binOp .eql t x y t') T L As (.bool (decide (m = n))) := fun a w hf _ d pos aft gd => by
  simp [execOp, hf.ev hx, hf.ev hy, str, eqGuard, binOp, Op.stringOp]; by_cases h : m = n <;> simp [h]
theorem pr_sneq {x y : Operand} {m n : List UInt8} (hx : ev L x = some (str m)) (hy : ev L y = some (str n)) : PR c (.binOp .neq t x y t') T L As (.bool (!decide (m = n))) := fun a w hf _ d pos aft gd => by
  simp [execOp, hf.ev hx, hf.ev hy, str, eqGuard, binOp, Op.stringOp]; by_cases h : m = n <;> simp [h]
theorem pr_sadd {x y : Operand} {m n : List UInt8} (hx : ev L x = some (str m)) (hy : ev L y = some (str n)) (h : m.length + n.length ≤ 9223372036854775807) : PR c (.binOp .add t x y t') T L As (str (m ++ n)) := fun a w hf _ d pos aft gd => by
  have e : (⟨m.toArray⟩ ++ ⟨n.toArray⟩ : ByteArray) = ⟨(m ++ n).toArray⟩ := by
    apply ByteArray.ext
    show (ByteArray.append _ _).data = _
    simp [ByteArray.append]
  have h2 : ¬ (((⟨m.toArray⟩ : ByteArray).size + (⟨n.toArray⟩ : ByteArray).size : Nat) : Int) > IntKind.i64.max := by
    simp [mk_size, IntKind.max, IntKind.signed, IntKind.bits]; omega
  simp only [execOp, hf.ev hx, hf.ev hy, str, eqGuard, binOp, Op.stringOp, if_neg h2, e]
  simp
theorem pr_slen {x : Operand} {m : List UInt8} {ty : TypeId} (hx : ev L x = some (str m)) (ht : c.P.underlying ty = some .string) : PR c (.call { callee := .builtin .len, args := #[x], argTypes := #[ty] }) T L As (.int .i64 m.length) := fun a w hf _ d pos aft gd => by
  simp [execOp, resolve, invoke, builtin, Builtin.len_, hf.ev hx, str, run_underlying ht, goInt, mk_size]
theorem pr_sindex {x y : Operand} {m : List UInt8} {i : Nat} {k : IntKind} {ty : TypeId} (hx : ev L x = some (str m)) (hy : ev L y = some (.int k i)) (ht : c.P.underlying ty = some .string) (hi : i < m.length) :
    PR c (.index ty x y) T L As (byte (m.getD i 0)) := fun a w hf _ d pos aft gd => by
  have : (⟨m.toArray⟩ : ByteArray)[i]? = some (m.getD i 0) := by
    have hs : i < (⟨m.toArray⟩ : ByteArray).size := by simpa [mk_size] using hi
    rw [getElem?_pos _ i hs]
    simp only [Option.some.injEq]
    show m.toArray[i] = _
    simp [List.getD, List.getElem?_eq_getElem hi]
  simp [execOp, Instr.index, hf.ev hx, hf.ev hy, asIntOf, run_underlying ht, str, this, byte]

theorem extract_mk (m : List UInt8) (i j : Nat) : (⟨m.toArray⟩ : ByteArray).extract i j = ⟨((m.take j).drop i).toArray⟩ := by
  rw [Lib.extract_eq]; simp [List.drop_take]
theorem run_sliceBound {P : Program} {w : World} {k : IntKind} {i y : Nat} (h : i ≤ y) (code : BoundsCode) : (Instr.sliceBound (.int k i) y code).run P w = .ok i w := by
  simp [Instr.sliceBound, asIntOf, h]
theorem pr_sslice {x lo hi : Operand} {m : List UInt8} {i j : Nat} {k k' : IntKind} {ty : TypeId} (hx : ev L x = some (str m)) (hlo : ev L lo = some (.int k i)) (hhi : ev L hi = some (.int k' j)) (ht : c.P.underlying ty = some .string)
    (hij : i ≤ j) (hj : j ≤ m.length) : PR c (.slice ty x (some lo) (some hi) none) T L As (str ((m.take j).drop i)) := fun a w hf _ d pos aft gd => by
  simp [execOp, Instr.sliceAt, Instr.slice, Instr.sliceBounds, hf.ev hx, hf.ev hlo, hf.ev hhi, run_underlying ht, str, run_sliceBound hij, run_sliceBound (show j ≤ (⟨m.toArray⟩ : ByteArray).size by simpa [mk_size] using hj), extract_mk]
theorem pr_sslice_lo {x lo : Operand} {m : List UInt8} {i : Nat} {k : IntKind} {ty : TypeId} (hx : ev L x = some (str m)) (hlo : ev L lo = some (.int k i)) (ht : c.P.underlying ty = some .string)
    (hi : i ≤ m.length) : PR c (.slice ty x (some lo) none none) T L As (str (m.drop i)) := fun a w hf _ d pos aft gd => by
  have e : (m.take (⟨m.toArray⟩ : ByteArray).size).drop i = m.drop i := by simp [mk_size]
  simp [execOp, Instr.sliceAt, Instr.slice, Instr.sliceBounds, hf.ev hx, hf.ev hlo, run_underlying ht, str, run_sliceBound (show i ≤ (⟨m.toArray⟩ : ByteArray).size by simpa [mk_size] using hi), extract_mk, e]
theorem pr_sslice_hi {x hi : Operand} {m : List UInt8} {j : Nat} {k : IntKind} {ty : TypeId} (hx : ev L x = some (str m)) (hhi : ev L hi = some (.int k j)) (ht : c.P.underlying ty = some .string)
    (hj : j ≤ m.length) : PR c (.slice ty x none (some hi) none) T L As (str (m.take j)) := fun a w hf _ d pos aft gd => by
  simp [execOp, Instr.sliceAt, Instr.slice, Instr.sliceBounds, hf.ev hx, hf.ev hhi, run_underlying ht, str, run_sliceBound (show j ≤ (⟨m.toArray⟩ : ByteArray).size by simpa [mk_size] using hj), extract_mk]
end ops
end Go.Sep
