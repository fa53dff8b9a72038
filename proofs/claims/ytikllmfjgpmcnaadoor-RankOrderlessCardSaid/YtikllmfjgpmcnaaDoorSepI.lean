/-
  The rules of the calculus for guards within guards. No program in sight. No conditions.
-/
import Derived.Test.YtikllmfjgpmcnaaDoorSepH
namespace Go.Sep
open Go
set_option linter.unusedSimpArgs false

theorem evg2 {L : List (Nat × Value)} {x : Operand} {b b2 : Bool} {v : Value} (h : ev L x = some (gv (b && b2) v)) (hb : b = true) : ev L x = some (gv b2 v) := by subst hb; exact h
theorem andl {b b2 : Bool} (h : (b && b2) = true) : b = true := by cases b <;> simp_all
theorem andr {b b2 : Bool} (h : (b && b2) = true) : b2 = true := by cases b <;> simp_all

section bools
variable {c : Cx} {L : List (Nat × Value)} {As : List Asn} {T : TypeId}
theorem pr_eqlb {t t' : TypeId} {x y : Operand} {a b : Bool} (hx : ev L x = some (.bool a)) (hy : ev L y = some (.bool b)) (hu : c.P.underlying t = some .bool) : PR c (.binOp .eql t x y t') T L As (.bool (a == b)) := fun ac w hf _ d pos aft gd => by
  simp [execOp, hf.ev hx, hf.ev hy, eqGuard, binOp, run_equal_bool w t a b hu]
theorem pr_neqb {t t' : TypeId} {x y : Operand} {a b : Bool} (hx : ev L x = some (.bool a)) (hy : ev L y = some (.bool b)) (hu : c.P.underlying t = some .bool) : PR c (.binOp .neq t x y t') T L As (.bool (!(a == b))) := fun ac w hf _ d pos aft gd => by
  simp [execOp, hf.ev hx, hf.ev hy, eqGuard, binOp, run_equal_bool w t a b hu]
end bools

section guarded
variable {c : Cx} {L : List (Nat × Value)} {As R : List Asn} {Q : Exit → Act → World → Prop} {K : Act → World → Prop} {ops : Array Oper} {rest : List Oper} {T : TypeId} {pos : String} {aft : Array Edge}

theorem not_wanted {d : Option Tmp} {op : Op} {a : Act} {n j t : Nat} {want b2 : Bool} (hf : Fits n L a) (hj : (ops[j]?).bind (·.dst) = some t) (hl : lk L t = some (gv false (.bool b2))) :
    Region.wanted ⟨d, op, T, pos, aft, some (j, want)⟩ (yielded ops a.tmps) = false := by
  have := hf.2.2 t _ hl
  simp [Region.wanted, yielded, hj, this, gv, undef]

theorem jo_gpure2 {op : Op} {d j t : Nat} {b1 b2 b' want : Bool} {v : Value} (hj : (ops[j]?).bind (·.dst) = some t) (hl : lk L t = some (gv b1 (.bool b2))) (hd : Nat.blt d c.n = true) (hw : (b1 && (b2 == want)) = b')
    (hp : b' = true → PR c op T L As v) (h : J c ((d, gv b' v) :: L) As (wpList c.P ops Q rest)) : J c L As (wpList c.P ops Q (⟨some d, op, T, pos, aft, some (j, want)⟩ :: rest)) := by
  cases b1 with
  | true => exact jo_gpure hj hl hd (by simpa using hw) hp h
  | false =>
    intro a w hf hm
    unfold wpList
    rw [if_neg (by rw [not_wanted hf hj hl]; simp)]
    rw [← hw] at h
    exact h _ w (hf.put (by rw [Nat.blt_eq] at hd; exact hd) _) hm
theorem jo_gcall2 {os : List Operand} {vs : List Value} {f : FuncId} {tys : Array TypeId} {Bs : List Asn} {val : Unit → Value} {d j t : Nat} {b1 b2 b' want : Bool} (hj : (ops[j]?).bind (·.dst) = some t) (hl : lk L t = some (gv b1 (.bool b2))) (hw : (b1 && (b2 == want)) = b')
    (hc : Cal c.P f) (con : b' = true → Con c.P f vs.toArray Bs val (fun _ => [])) (hv : b' = true → EvL L os vs) (hd : Nat.blt d c.n = true) (hB : b' = true → HasP As Bs)
    (h : J c ((d, gv b' (val ())) :: L) As (wpList c.P ops Q rest)) : J c L As (wpList c.P ops Q (⟨some d, .call { callee := .value (.func f), args := os.toArray, argTypes := tys }, T, pos, aft, some (j, want)⟩ :: rest)) := by
  cases b1 with
  | true => exact jo_gcall hj hl (by simpa using hw) hc con hv hd hB h
  | false =>
    intro a w hf hm
    unfold wpList
    rw [if_neg (by rw [not_wanted hf hj hl]; simp)]
    rw [← hw] at h
    exact h _ w (hf.put (by rw [Nat.blt_eq] at hd; exact hd) _) hm
theorem jd_gpure2 {op : Op} {d j t : Nat} {b1 b2 b' want : Bool} {v : Value} (hj : (ops[j]?).bind (·.dst) = some t) (hl : lk L t = some (gv b1 (.bool b2))) (hd : Nat.blt d c.n = true) (hw : (b1 && (b2 == want)) = b')
    (hp : b' = true → PR c op T L As v) (h : JD c ((d, gv b' v) :: L) As ops Q rest) : JD c L As ops Q (⟨some d, op, T, pos, aft, some (j, want)⟩ :: rest) := by
  cases b1 with
  | true => exact jd_gpure hj hl hd (by simpa using hw) hp h
  | false =>
    intro a hf
    unfold wpQuiet
    rw [if_neg (by rw [not_wanted hf hj hl]; simp)]
    rw [← hw] at h
    exact h _ (hf.put (by rw [Nat.blt_eq] at hd; exact hd) _)
theorem jd_gcall2 {os : List Operand} {vs : List Value} {f : FuncId} {tys : Array TypeId} {Bs : List Asn} {val : Unit → Value} {d j t : Nat} {b1 b2 b' want : Bool} (hj : (ops[j]?).bind (·.dst) = some t) (hl : lk L t = some (gv b1 (.bool b2))) (hw : (b1 && (b2 == want)) = b')
    (hc : Cal c.P f) (con : b' = true → Con c.P f vs.toArray Bs val (fun _ => [])) (hv : b' = true → EvL L os vs) (hd : Nat.blt d c.n = true) (hB : b' = true → HasP As Bs)
    (h : JD c ((d, gv b' (val ())) :: L) As ops Q rest) : JD c L As ops Q (⟨some d, .call { callee := .value (.func f), args := os.toArray, argTypes := tys }, T, pos, aft, some (j, want)⟩ :: rest) := by
  cases b1 with
  | true => exact jd_gcall hj hl (by simpa using hw) hc con hv hd hB h
  | false =>
    intro a hf
    unfold wpQuiet
    rw [if_neg (by rw [not_wanted hf hj hl]; simp)]
    rw [← hw] at h
    exact h _ (hf.put (by rw [Nat.blt_eq] at hd; exact hd) _)
end guarded
end Go.Sep
