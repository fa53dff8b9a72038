/-
  The rules of the calculus for ways that meet again, for data that hold slices, and for appending what nobody writes any more. No program in sight. No conditions.
-/
import Derived.Test.YtikllmfjgpmcnaaDoorSepK
import Derived.Lib.AppendStr
namespace Go.Sep
open Go
set_option linter.unusedSimpArgs false
set_option linter.unusedVariables false

section code
variable {c : Cx} {L : List (Nat × Value)} {As : List Asn} {Q : Exit → Act → World → Prop} {K : Act → World → Prop}

/-- Ways that meet again: what holds there is told once. -/
theorem jc_join {x y : Code} {S : Type} (StL : S → List (Nat × Value)) (StA : S → List Asn) (inv : S → Prop)
    (hx : J c L As (x.wp c.P (Exit.then (fun a w => ∃ s, inv s ∧ Fits c.n (StL s) a ∧ Mem c (StA s) w) Q))) (hy : ∀ s, inv s → J c (StL s) (StA s) (y.wp c.P Q)) : J c L As ((Code.seq x y).wp c.P Q) := fun a w hf hm => by
  refine wp_seq (wp_mono (hx a w hf hm) ?_)
  intro e a' w' h
  cases e with
  | normal => obtain ⟨s, h1, h2, h3⟩ := h; exact hy s h1 a' w' h2 h3
  | _ => exact h
theorem jq_join {S : Type} {StL : S → List (Nat × Value)} {StA : S → List Asn} {inv : S → Prop} (s : S) (h1 : inv s) (hL : SubL (StL s) L) (hA : ∀ w, Mem c As w → Mem c (StA s) w) :
    J c L As (Exit.then (fun a w => ∃ s, inv s ∧ Fits c.n (StL s) a ∧ Mem c (StA s) w) Q .normal) := fun _ w hf hm => ⟨s, h1, hf.sub hL, hA w hm⟩
theorem jc_join0 {x y : Code} (StL : Unit → List (Nat × Value)) (StA : Unit → List Asn) (inv : Unit → Prop)
    (hx : J c L As (x.wp c.P (Exit.then (fun a w => ∃ s : Unit, inv s ∧ Fits c.n (StL s) a ∧ Mem c (StA s) w) Q))) (hy : ∀ u, inv u → J c (StL u) (StA u) (y.wp c.P Q)) : J c L As ((Code.seq x y).wp c.P Q) :=
  jc_join (S := Unit) (fun s => StL s) (fun s => StA s) (fun s => inv s) hx fun s h => hy s h
theorem jc_join1 {x y : Code} {S0 : Type} (StL : S0 → List (Nat × Value)) (StA : S0 → List Asn) (inv : S0 → Prop)
    (hx : J c L As (x.wp c.P (Exit.then (fun a w => ∃ s : S0, inv s ∧ Fits c.n (StL s) a ∧ Mem c (StA s) w) Q))) (hy : ∀ x0, inv x0 → J c (StL x0) (StA x0) (y.wp c.P Q)) : J c L As ((Code.seq x y).wp c.P Q) :=
  jc_join (S := S0) (fun s => StL s) (fun s => StA s) (fun s => inv s) hx fun s h => hy s h
theorem jc_join2 {x y : Code} {S0 S1 : Type} (StL : S0 → S1 → List (Nat × Value)) (StA : S0 → S1 → List Asn) (inv : S0 → S1 → Prop)
    (hx : J c L As (x.wp c.P (Exit.then (fun a w => ∃ s : S0 × S1, inv s.1 s.2 ∧ Fits c.n (StL s.1 s.2) a ∧ Mem c (StA s.1 s.2) w) Q))) (hy : ∀ x0 x1, inv x0 x1 → J c (StL x0 x1) (StA x0 x1) (y.wp c.P Q)) : J c L As ((Code.seq x y).wp c.P Q) :=
  jc_join (S := S0 × S1) (fun s => StL s.1 s.2) (fun s => StA s.1 s.2) (fun s => inv s.1 s.2) hx fun s h => hy s.1 s.2 h
theorem jc_join3 {x y : Code} {S0 S1 S2 : Type} (StL : S0 → S1 → S2 → List (Nat × Value)) (StA : S0 → S1 → S2 → List Asn) (inv : S0 → S1 → S2 → Prop)
    (hx : J c L As (x.wp c.P (Exit.then (fun a w => ∃ s : S0 × S1 × S2, inv s.1 s.2.1 s.2.2 ∧ Fits c.n (StL s.1 s.2.1 s.2.2) a ∧ Mem c (StA s.1 s.2.1 s.2.2) w) Q))) (hy : ∀ x0 x1 x2, inv x0 x1 x2 → J c (StL x0 x1 x2) (StA x0 x1 x2) (y.wp c.P Q)) : J c L As ((Code.seq x y).wp c.P Q) :=
  jc_join (S := S0 × S1 × S2) (fun s => StL s.1 s.2.1 s.2.2) (fun s => StA s.1 s.2.1 s.2.2) (fun s => inv s.1 s.2.1 s.2.2) hx fun s h => hy s.1 s.2.1 s.2.2 h
theorem jc_join4 {x y : Code} {S0 S1 S2 S3 : Type} (StL : S0 → S1 → S2 → S3 → List (Nat × Value)) (StA : S0 → S1 → S2 → S3 → List Asn) (inv : S0 → S1 → S2 → S3 → Prop)
    (hx : J c L As (x.wp c.P (Exit.then (fun a w => ∃ s : S0 × S1 × S2 × S3, inv s.1 s.2.1 s.2.2.1 s.2.2.2 ∧ Fits c.n (StL s.1 s.2.1 s.2.2.1 s.2.2.2) a ∧ Mem c (StA s.1 s.2.1 s.2.2.1 s.2.2.2) w) Q))) (hy : ∀ x0 x1 x2 x3, inv x0 x1 x2 x3 → J c (StL x0 x1 x2 x3) (StA x0 x1 x2 x3) (y.wp c.P Q)) : J c L As ((Code.seq x y).wp c.P Q) :=
  jc_join (S := S0 × S1 × S2 × S3) (fun s => StL s.1 s.2.1 s.2.2.1 s.2.2.2) (fun s => StA s.1 s.2.1 s.2.2.1 s.2.2.2) (fun s => inv s.1 s.2.1 s.2.2.1 s.2.2.2) hx fun s h => hy s.1 s.2.1 s.2.2.1 s.2.2.2 h
theorem jc_join5 {x y : Code} {S0 S1 S2 S3 S4 : Type} (StL : S0 → S1 → S2 → S3 → S4 → List (Nat × Value)) (StA : S0 → S1 → S2 → S3 → S4 → List Asn) (inv : S0 → S1 → S2 → S3 → S4 → Prop)
    (hx : J c L As (x.wp c.P (Exit.then (fun a w => ∃ s : S0 × S1 × S2 × S3 × S4, inv s.1 s.2.1 s.2.2.1 s.2.2.2.1 s.2.2.2.2 ∧ Fits c.n (StL s.1 s.2.1 s.2.2.1 s.2.2.2.1 s.2.2.2.2) a ∧ Mem c (StA s.1 s.2.1 s.2.2.1 s.2.2.2.1 s.2.2.2.2) w) Q))) (hy : ∀ x0 x1 x2 x3 x4, inv x0 x1 x2 x3 x4 → J c (StL x0 x1 x2 x3 x4) (StA x0 x1 x2 x3 x4) (y.wp c.P Q)) : J c L As ((Code.seq x y).wp c.P Q) :=
  jc_join (S := S0 × S1 × S2 × S3 × S4) (fun s => StL s.1 s.2.1 s.2.2.1 s.2.2.2.1 s.2.2.2.2) (fun s => StA s.1 s.2.1 s.2.2.1 s.2.2.2.1 s.2.2.2.2) (fun s => inv s.1 s.2.1 s.2.2.1 s.2.2.2.1 s.2.2.2.2) hx fun s h => hy s.1 s.2.1 s.2.2.1 s.2.2.2.1 s.2.2.2.2 h
theorem jc_join6 {x y : Code} {S0 S1 S2 S3 S4 S5 : Type} (StL : S0 → S1 → S2 → S3 → S4 → S5 → List (Nat × Value)) (StA : S0 → S1 → S2 → S3 → S4 → S5 → List Asn) (inv : S0 → S1 → S2 → S3 → S4 → S5 → Prop)
    (hx : J c L As (x.wp c.P (Exit.then (fun a w => ∃ s : S0 × S1 × S2 × S3 × S4 × S5, inv s.1 s.2.1 s.2.2.1 s.2.2.2.1 s.2.2.2.2.1 s.2.2.2.2.2 ∧ Fits c.n (StL s.1 s.2.1 s.2.2.1 s.2.2.2.1 s.2.2.2.2.1 s.2.2.2.2.2) a ∧ Mem c (StA s.1 s.2.1 s.2.2.1 s.2.2.2.1 s.2.2.2.2.1 s.2.2.2.2.2) w) Q))) (hy : ∀ x0 x1 x2 x3 x4 x5, inv x0 x1 x2 x3 x4 x5 → J c (StL x0 x1 x2 x3 x4 x5) (StA x0 x1 x2 x3 x4 x5) (y.wp c.P Q)) : J c L As ((Code.seq x y).wp c.P Q) :=
  jc_join (S := S0 × S1 × S2 × S3 × S4 × S5) (fun s => StL s.1 s.2.1 s.2.2.1 s.2.2.2.1 s.2.2.2.2.1 s.2.2.2.2.2) (fun s => StA s.1 s.2.1 s.2.2.1 s.2.2.2.1 s.2.2.2.2.1 s.2.2.2.2.2) (fun s => inv s.1 s.2.1 s.2.2.1 s.2.2.2.1 s.2.2.2.2.1 s.2.2.2.2.2) hx fun s h => hy s.1 s.2.1 s.2.2.1 s.2.2.2.1 s.2.2.2.2.1 s.2.2.2.2.2 h
theorem jc_join7 {x y : Code} {S0 S1 S2 S3 S4 S5 S6 : Type} (StL : S0 → S1 → S2 → S3 → S4 → S5 → S6 → List (Nat × Value)) (StA : S0 → S1 → S2 → S3 → S4 → S5 → S6 → List Asn) (inv : S0 → S1 → S2 → S3 → S4 → S5 → S6 → Prop)
    (hx : J c L As (x.wp c.P (Exit.then (fun a w => ∃ s : S0 × S1 × S2 × S3 × S4 × S5 × S6, inv s.1 s.2.1 s.2.2.1 s.2.2.2.1 s.2.2.2.2.1 s.2.2.2.2.2.1 s.2.2.2.2.2.2 ∧ Fits c.n (StL s.1 s.2.1 s.2.2.1 s.2.2.2.1 s.2.2.2.2.1 s.2.2.2.2.2.1 s.2.2.2.2.2.2) a ∧ Mem c (StA s.1 s.2.1 s.2.2.1 s.2.2.2.1 s.2.2.2.2.1 s.2.2.2.2.2.1 s.2.2.2.2.2.2) w) Q))) (hy : ∀ x0 x1 x2 x3 x4 x5 x6, inv x0 x1 x2 x3 x4 x5 x6 → J c (StL x0 x1 x2 x3 x4 x5 x6) (StA x0 x1 x2 x3 x4 x5 x6) (y.wp c.P Q)) : J c L As ((Code.seq x y).wp c.P Q) :=
  jc_join (S := S0 × S1 × S2 × S3 × S4 × S5 × S6) (fun s => StL s.1 s.2.1 s.2.2.1 s.2.2.2.1 s.2.2.2.2.1 s.2.2.2.2.2.1 s.2.2.2.2.2.2) (fun s => StA s.1 s.2.1 s.2.2.1 s.2.2.2.1 s.2.2.2.2.1 s.2.2.2.2.2.1 s.2.2.2.2.2.2) (fun s => inv s.1 s.2.1 s.2.2.1 s.2.2.2.1 s.2.2.2.2.1 s.2.2.2.2.2.1 s.2.2.2.2.2.2) hx fun s h => hy s.1 s.2.1 s.2.2.1 s.2.2.2.1 s.2.2.2.2.1 s.2.2.2.2.2.1 s.2.2.2.2.2.2 h
theorem jc_join8 {x y : Code} {S0 S1 S2 S3 S4 S5 S6 S7 : Type} (StL : S0 → S1 → S2 → S3 → S4 → S5 → S6 → S7 → List (Nat × Value)) (StA : S0 → S1 → S2 → S3 → S4 → S5 → S6 → S7 → List Asn) (inv : S0 → S1 → S2 → S3 → S4 → S5 → S6 → S7 → Prop)
    (hx : J c L As (x.wp c.P (Exit.then (fun a w => ∃ s : S0 × S1 × S2 × S3 × S4 × S5 × S6 × S7, inv s.1 s.2.1 s.2.2.1 s.2.2.2.1 s.2.2.2.2.1 s.2.2.2.2.2.1 s.2.2.2.2.2.2.1 s.2.2.2.2.2.2.2 ∧ Fits c.n (StL s.1 s.2.1 s.2.2.1 s.2.2.2.1 s.2.2.2.2.1 s.2.2.2.2.2.1 s.2.2.2.2.2.2.1 s.2.2.2.2.2.2.2) a ∧ Mem c (StA s.1 s.2.1 s.2.2.1 s.2.2.2.1 s.2.2.2.2.1 s.2.2.2.2.2.1 s.2.2.2.2.2.2.1 s.2.2.2.2.2.2.2) w) Q))) (hy : ∀ x0 x1 x2 x3 x4 x5 x6 x7, inv x0 x1 x2 x3 x4 x5 x6 x7 → J c (StL x0 x1 x2 x3 x4 x5 x6 x7) (StA x0 x1 x2 x3 x4 x5 x6 x7) (y.wp c.P Q)) : J c L As ((Code.seq x y).wp c.P Q) :=
  jc_join (S := S0 × S1 × S2 × S3 × S4 × S5 × S6 × S7) (fun s => StL s.1 s.2.1 s.2.2.1 s.2.2.2.1 s.2.2.2.2.1 s.2.2.2.2.2.1 s.2.2.2.2.2.2.1 s.2.2.2.2.2.2.2) (fun s => StA s.1 s.2.1 s.2.2.1 s.2.2.2.1 s.2.2.2.2.1 s.2.2.2.2.2.1 s.2.2.2.2.2.2.1 s.2.2.2.2.2.2.2) (fun s => inv s.1 s.2.1 s.2.2.1 s.2.2.2.1 s.2.2.2.2.1 s.2.2.2.2.2.1 s.2.2.2.2.2.2.1 s.2.2.2.2.2.2.2) hx fun s h => hy s.1 s.2.1 s.2.2.1 s.2.2.2.1 s.2.2.2.2.1 s.2.2.2.2.2.1 s.2.2.2.2.2.2.1 s.2.2.2.2.2.2.2 h
theorem jc_loop5 {x : Code} {S0 S1 S2 S3 S4 : Type} (StL : S0 → S1 → S2 → S3 → S4 → List (Nat × Value)) (StA : S0 → S1 → S2 → S3 → S4 → List Asn) (inv : S0 → S1 → S2 → S3 → S4 → Prop) (meas : S0 → S1 → S2 → S3 → S4 → Nat) (a0 : S0) (a1 : S1) (a2 : S2) (a3 : S3) (a4 : S4) (h0 : inv a0 a1 a2 a3 a4)
    (hL : SubL (StL a0 a1 a2 a3 a4) L) (hA : ∀ w, Mem c As w → Mem c (StA a0 a1 a2 a3 a4) w)
    (round : ∀ x0 x1 x2 x3 x4, inv x0 x1 x2 x3 x4 → J c (StL x0 x1 x2 x3 x4) (StA x0 x1 x2 x3 x4) (x.wp c.P (Exit.then (fun a w => ∃ s' : S0 × S1 × S2 × S3 × S4, inv s'.1 s'.2.1 s'.2.2.1 s'.2.2.2.1 s'.2.2.2.2 ∧ meas s'.1 s'.2.1 s'.2.2.1 s'.2.2.2.1 s'.2.2.2.2 < meas x0 x1 x2 x3 x4 ∧ Fits c.n (StL s'.1 s'.2.1 s'.2.2.1 s'.2.2.2.1 s'.2.2.2.2) a ∧ Mem c (StA s'.1 s'.2.1 s'.2.2.1 s'.2.2.2.1 s'.2.2.2.2) w) Q))) :
    J c L As ((Code.loop x).wp c.P Q) :=
  jc_loop (S := S0 × S1 × S2 × S3 × S4) (fun s => StL s.1 s.2.1 s.2.2.1 s.2.2.2.1 s.2.2.2.2) (fun s => StA s.1 s.2.1 s.2.2.1 s.2.2.2.1 s.2.2.2.2) (fun s => inv s.1 s.2.1 s.2.2.1 s.2.2.2.1 s.2.2.2.2) (fun s => meas s.1 s.2.1 s.2.2.1 s.2.2.2.1 s.2.2.2.2) (a0, a1, a2, a3, a4) h0 hL hA fun s h => round s.1 s.2.1 s.2.2.1 s.2.2.2.1 s.2.2.2.2 h
theorem jc_loop6 {x : Code} {S0 S1 S2 S3 S4 S5 : Type} (StL : S0 → S1 → S2 → S3 → S4 → S5 → List (Nat × Value)) (StA : S0 → S1 → S2 → S3 → S4 → S5 → List Asn) (inv : S0 → S1 → S2 → S3 → S4 → S5 → Prop) (meas : S0 → S1 → S2 → S3 → S4 → S5 → Nat) (a0 : S0) (a1 : S1) (a2 : S2) (a3 : S3) (a4 : S4) (a5 : S5) (h0 : inv a0 a1 a2 a3 a4 a5)
    (hL : SubL (StL a0 a1 a2 a3 a4 a5) L) (hA : ∀ w, Mem c As w → Mem c (StA a0 a1 a2 a3 a4 a5) w)
    (round : ∀ x0 x1 x2 x3 x4 x5, inv x0 x1 x2 x3 x4 x5 → J c (StL x0 x1 x2 x3 x4 x5) (StA x0 x1 x2 x3 x4 x5) (x.wp c.P (Exit.then (fun a w => ∃ s' : S0 × S1 × S2 × S3 × S4 × S5, inv s'.1 s'.2.1 s'.2.2.1 s'.2.2.2.1 s'.2.2.2.2.1 s'.2.2.2.2.2 ∧ meas s'.1 s'.2.1 s'.2.2.1 s'.2.2.2.1 s'.2.2.2.2.1 s'.2.2.2.2.2 < meas x0 x1 x2 x3 x4 x5 ∧ Fits c.n (StL s'.1 s'.2.1 s'.2.2.1 s'.2.2.2.1 s'.2.2.2.2.1 s'.2.2.2.2.2) a ∧ Mem c (StA s'.1 s'.2.1 s'.2.2.1 s'.2.2.2.1 s'.2.2.2.2.1 s'.2.2.2.2.2) w) Q))) :
    J c L As ((Code.loop x).wp c.P Q) :=
  jc_loop (S := S0 × S1 × S2 × S3 × S4 × S5) (fun s => StL s.1 s.2.1 s.2.2.1 s.2.2.2.1 s.2.2.2.2.1 s.2.2.2.2.2) (fun s => StA s.1 s.2.1 s.2.2.1 s.2.2.2.1 s.2.2.2.2.1 s.2.2.2.2.2) (fun s => inv s.1 s.2.1 s.2.2.1 s.2.2.2.1 s.2.2.2.2.1 s.2.2.2.2.2) (fun s => meas s.1 s.2.1 s.2.2.1 s.2.2.2.1 s.2.2.2.2.1 s.2.2.2.2.2) (a0, a1, a2, a3, a4, a5) h0 hL hA fun s h => round s.1 s.2.1 s.2.2.1 s.2.2.2.1 s.2.2.2.2.1 s.2.2.2.2.2 h
theorem jc_loop7 {x : Code} {S0 S1 S2 S3 S4 S5 S6 : Type} (StL : S0 → S1 → S2 → S3 → S4 → S5 → S6 → List (Nat × Value)) (StA : S0 → S1 → S2 → S3 → S4 → S5 → S6 → List Asn) (inv : S0 → S1 → S2 → S3 → S4 → S5 → S6 → Prop) (meas : S0 → S1 → S2 → S3 → S4 → S5 → S6 → Nat) (a0 : S0) (a1 : S1) (a2 : S2) (a3 : S3) (a4 : S4) (a5 : S5) (a6 : S6) (h0 : inv a0 a1 a2 a3 a4 a5 a6)
    (hL : SubL (StL a0 a1 a2 a3 a4 a5 a6) L) (hA : ∀ w, Mem c As w → Mem c (StA a0 a1 a2 a3 a4 a5 a6) w)
    (round : ∀ x0 x1 x2 x3 x4 x5 x6, inv x0 x1 x2 x3 x4 x5 x6 → J c (StL x0 x1 x2 x3 x4 x5 x6) (StA x0 x1 x2 x3 x4 x5 x6) (x.wp c.P (Exit.then (fun a w => ∃ s' : S0 × S1 × S2 × S3 × S4 × S5 × S6, inv s'.1 s'.2.1 s'.2.2.1 s'.2.2.2.1 s'.2.2.2.2.1 s'.2.2.2.2.2.1 s'.2.2.2.2.2.2 ∧ meas s'.1 s'.2.1 s'.2.2.1 s'.2.2.2.1 s'.2.2.2.2.1 s'.2.2.2.2.2.1 s'.2.2.2.2.2.2 < meas x0 x1 x2 x3 x4 x5 x6 ∧ Fits c.n (StL s'.1 s'.2.1 s'.2.2.1 s'.2.2.2.1 s'.2.2.2.2.1 s'.2.2.2.2.2.1 s'.2.2.2.2.2.2) a ∧ Mem c (StA s'.1 s'.2.1 s'.2.2.1 s'.2.2.2.1 s'.2.2.2.2.1 s'.2.2.2.2.2.1 s'.2.2.2.2.2.2) w) Q))) :
    J c L As ((Code.loop x).wp c.P Q) :=
  jc_loop (S := S0 × S1 × S2 × S3 × S4 × S5 × S6) (fun s => StL s.1 s.2.1 s.2.2.1 s.2.2.2.1 s.2.2.2.2.1 s.2.2.2.2.2.1 s.2.2.2.2.2.2) (fun s => StA s.1 s.2.1 s.2.2.1 s.2.2.2.1 s.2.2.2.2.1 s.2.2.2.2.2.1 s.2.2.2.2.2.2) (fun s => inv s.1 s.2.1 s.2.2.1 s.2.2.2.1 s.2.2.2.2.1 s.2.2.2.2.2.1 s.2.2.2.2.2.2) (fun s => meas s.1 s.2.1 s.2.2.1 s.2.2.2.1 s.2.2.2.2.1 s.2.2.2.2.2.1 s.2.2.2.2.2.2) (a0, a1, a2, a3, a4, a5, a6) h0 hL hA fun s h => round s.1 s.2.1 s.2.2.1 s.2.2.2.1 s.2.2.2.2.1 s.2.2.2.2.2.1 s.2.2.2.2.2.2 h
theorem jc_loop8 {x : Code} {S0 S1 S2 S3 S4 S5 S6 S7 : Type} (StL : S0 → S1 → S2 → S3 → S4 → S5 → S6 → S7 → List (Nat × Value)) (StA : S0 → S1 → S2 → S3 → S4 → S5 → S6 → S7 → List Asn) (inv : S0 → S1 → S2 → S3 → S4 → S5 → S6 → S7 → Prop) (meas : S0 → S1 → S2 → S3 → S4 → S5 → S6 → S7 → Nat) (a0 : S0) (a1 : S1) (a2 : S2) (a3 : S3) (a4 : S4) (a5 : S5) (a6 : S6) (a7 : S7) (h0 : inv a0 a1 a2 a3 a4 a5 a6 a7)
    (hL : SubL (StL a0 a1 a2 a3 a4 a5 a6 a7) L) (hA : ∀ w, Mem c As w → Mem c (StA a0 a1 a2 a3 a4 a5 a6 a7) w)
    (round : ∀ x0 x1 x2 x3 x4 x5 x6 x7, inv x0 x1 x2 x3 x4 x5 x6 x7 → J c (StL x0 x1 x2 x3 x4 x5 x6 x7) (StA x0 x1 x2 x3 x4 x5 x6 x7) (x.wp c.P (Exit.then (fun a w => ∃ s' : S0 × S1 × S2 × S3 × S4 × S5 × S6 × S7, inv s'.1 s'.2.1 s'.2.2.1 s'.2.2.2.1 s'.2.2.2.2.1 s'.2.2.2.2.2.1 s'.2.2.2.2.2.2.1 s'.2.2.2.2.2.2.2 ∧ meas s'.1 s'.2.1 s'.2.2.1 s'.2.2.2.1 s'.2.2.2.2.1 s'.2.2.2.2.2.1 s'.2.2.2.2.2.2.1 s'.2.2.2.2.2.2.2 < meas x0 x1 x2 x3 x4 x5 x6 x7 ∧ Fits c.n (StL s'.1 s'.2.1 s'.2.2.1 s'.2.2.2.1 s'.2.2.2.2.1 s'.2.2.2.2.2.1 s'.2.2.2.2.2.2.1 s'.2.2.2.2.2.2.2) a ∧ Mem c (StA s'.1 s'.2.1 s'.2.2.1 s'.2.2.2.1 s'.2.2.2.2.1 s'.2.2.2.2.2.1 s'.2.2.2.2.2.2.1 s'.2.2.2.2.2.2.2) w) Q))) :
    J c L As ((Code.loop x).wp c.P Q) :=
  jc_loop (S := S0 × S1 × S2 × S3 × S4 × S5 × S6 × S7) (fun s => StL s.1 s.2.1 s.2.2.1 s.2.2.2.1 s.2.2.2.2.1 s.2.2.2.2.2.1 s.2.2.2.2.2.2.1 s.2.2.2.2.2.2.2) (fun s => StA s.1 s.2.1 s.2.2.1 s.2.2.2.1 s.2.2.2.2.1 s.2.2.2.2.2.1 s.2.2.2.2.2.2.1 s.2.2.2.2.2.2.2) (fun s => inv s.1 s.2.1 s.2.2.1 s.2.2.2.1 s.2.2.2.2.1 s.2.2.2.2.2.1 s.2.2.2.2.2.2.1 s.2.2.2.2.2.2.2) (fun s => meas s.1 s.2.1 s.2.2.1 s.2.2.2.1 s.2.2.2.2.1 s.2.2.2.2.2.1 s.2.2.2.2.2.2.1 s.2.2.2.2.2.2.2) (a0, a1, a2, a3, a4, a5, a6, a7) h0 hL hA fun s h => round s.1 s.2.1 s.2.2.1 s.2.2.2.1 s.2.2.2.2.1 s.2.2.2.2.2.1 s.2.2.2.2.2.2.1 s.2.2.2.2.2.2.2 h
theorem j_fact {p : World → Blocks → Prop} (hp : ∀ w I m, Okw w I m → Sats w I As m → p w I) (hmono : ∀ w I w' I', p w I → w.heap.size ≤ w'.heap.size → (∀ b, I b → w'.heap[b]? = w.heap[b]?) → (∀ b, I b → I' b) → p w' I')
    (h : J c L (.fact p :: As) K) : J c L As K := j_map (fun w hw => by
  obtain ⟨I, m, he, hs⟩ := hw
  exact ⟨I, m, he, [], m, rfl, ⟨rfl, fun w' I' h1 h2 h3 => hmono w I w' I' (hp w I m he.okw hs) h1 h2 h3⟩, hs⟩) h
end code

/-! ### Data that hold slices -/

/-- The slices within a datum. -/
@[reducible] def LV : Ty → Type
  | .list _ => Value
  | .pair a b => LV a × LV b
  | _ => Unit
def encL : (t : Ty) → t.den → LV t → List Value
  | .bool, x, _ => [.bool x]
  | .int k, x, _ => [.int k x]
  | .u8, x, _ => [byte x]
  | .str, x, _ => [str x]
  | .list _, _, v => [v]
  | .pair a b, x, v => encL a x.1 v.1 ++ encL b x.2 v.2
def immsL : (t : Ty) → t.den → LV t → List Asn
  | .list t, x, v => [.imm (.list t) v x]
  | .pair a b, x, v => immsL a x.1 v.1 ++ immsL b x.2 v.2
  | .bool, _, _ => []
  | .int _, _, _ => []
  | .u8, _, _ => []
  | .str, _, _ => []

theorem encL_len : ∀ {t : Ty} (x : t.den) (v : LV t), (encL t x v).length = t.n
  | .bool, _, _ | .int _, _, _ | .u8, _, _ | .str, _, _ | .list _, _, _ => rfl
  | .pair a b, x, v => by simp only [encL, List.length_append, encL_len, Ty.n]

theorem Sats.nil_append {w : World} {I : Blocks} {As Bs : List Asn} {m : List Nat} (h1 : Sats w I As []) (h2 : Sats w I Bs m) : Sats w I (As ++ Bs) m := Sats_append.2 ⟨[], m, rfl, h1, h2⟩

theorem repC_encL {w : World} {I : Blocks} : ∀ {t : Ty} {cs : List Value} {x : t.den}, repC w I t cs x → ∃ v : LV t, cs = encL t x v ∧ Sats w I (immsL t x v) []
  | .bool, _, _, h => ⟨(), (by simp only [repC] at h; exact h), rfl⟩
  | .int _, _, _, h => ⟨(), (by simp only [repC] at h; exact h), rfl⟩
  | .u8, _, _, h => ⟨(), (by simp only [repC] at h; exact h), rfl⟩
  | .str, _, _, h => ⟨(), (by simp only [repC] at h; exact h), rfl⟩
  | .list t, cs, x, h => by
    have h' := h
    simp only [repC] at h'
    obtain ⟨a, len, cap, rfl, _⟩ := h'
    exact ⟨.slice a len cap, rfl, [], [], rfl, ⟨rfl, [_], rfl, h⟩, rfl⟩
  | .pair a b, cs, x, h => by
    simp only [repC] at h
    obtain ⟨c1, c2, rfl, h1, h2⟩ := h
    obtain ⟨v1, e1, s1⟩ := repC_encL h1
    obtain ⟨v2, e2, s2⟩ := repC_encL h2
    exact ⟨(v1, v2), by rw [e1, e2]; rfl, Sats.nil_append s1 s2⟩

/-- Element i of a slice holds just these cells. -/
def ElemAt (w : World) (I : Blocks) (v : Value) (i : Nat) (n : Nat) (cs : List Value) : Prop :=
  ∃ b off C E fz, elemPtr v i n = .pointer (some ⟨b, off, none⟩) ∧ I b ∧ w.heap[b]? = some (.cells C E fz) ∧ (C.toList.drop off).take n = cs ∧ cs.length = n

section ops
variable {c : Cx} {L : List (Nat × Value)} {As R : List Asn} {Q : Exit → Act → World → Prop} {K : Act → World → Prop} {ops : Array Oper} {rest : List Oper} {T : TypeId} {pos : String} {aft : Array Edge} {gd : Option (Nat × Bool)}

/-- An element of a slice that nobody writes any more, opened. -/
theorem j_open_elem {v : Value} {t : Ty} {xs : List t.den} {i : Nat} (dd : t.den) (hA : Asn.imm (.list t) v xs ∈ As) (hi : i < xs.length)
    (h : ∀ lv : LV t, J c L (immsL t (xs.getD i dd) lv ++ .fact (fun w I => ElemAt w I v i t.n (encL t (xs.getD i dd) lv)) :: As) K) : J c L As K := fun a w hf hm => by
  obtain ⟨I, m, he, hs⟩ := hm
  obtain ⟨_, hr⟩ := hs.pers hA rfl
  obtain ⟨b, off, C, E, fz, e, h1, h2, _, h4⟩ := imm_cell hr hi
  rw [← getD_eq (dd := dd) hi] at h4
  obtain ⟨lv, e4, s4⟩ := repC_encL h4
  refine h lv a w hf ⟨I, m, he, Sats.nil_append s4 ⟨[], m, rfl, ⟨rfl, fun w' I' _ hb hI => ⟨b, off, C, E, fz, e, hI b h1, (hb b h1).trans h2, e4, encL_len _ _⟩⟩, hs⟩⟩

theorem pr_load_at {ty : TypeId} {agg : Bool} {n by_ : Nat} {z : Option Value} {x : Operand} {v : Value} {i : Nat} {cs : List Value} (u : Value) (hx : ev L x = some (elemPtr v i n)) (hA : Asn.fact (fun w I => ElemAt w I v i n cs) ∈ As) (ht : TyF c.P ty agg n by_ z) (h1 : agg = false → n = 1)
    (hu : ofCells agg cs = u) : PR c (.load ty x) T L As u := fun a w hf hm d pos aft gd => by
  obtain ⟨I, m, ho, _, hr⟩ := hm.get hA
  obtain ⟨b, off, C, E, fz, e, _, h2, h4, h5⟩ := hr w I (Nat.le_refl _) (fun _ _ => rfl) (fun _ h => h)
  rw [e] at hx
  have := run_loadVar_cells ht w ⟨b, off, none⟩ cs h5 h1 (fun j u hu => by
    rw [Addr.add_mk, cell_of_heap h2]
    rw [← h4, List.getElem?_take] at hu
    split at hu
    · simpa using hu
    · cases hu)
  simp only [execOp, hf.ev hx, Instr.loadAt, Instr.sureAddr, Sem.run_bind, Sem.run_pure, Result.andThen_ok, this, hu]

theorem pr_load_off_at {ty : TypeId} {agg : Bool} {n m by_ : Nat} {z : Option Value} {x : Operand} {v : Value} {i o : Nat} {cs : List Value} (u : Value) (hx : ev L x = some (elemOff v i n o)) (hA : Asn.fact (fun w I => ElemAt w I v i n cs) ∈ As) (ht : TyF c.P ty agg m by_ z) (h1 : agg = false → m = 1) (hom : Nat.ble (o + m) n = true)
    (hu : ofCells agg ((cs.drop o).take m) = u) : PR c (.load ty x) T L As u := fun a w hf hm d pos aft gd => by
  obtain ⟨I, m', ho, _, hr⟩ := hm.get hA
  obtain ⟨b, off, C, E, fz, e, _, h2, h4, h5⟩ := hr w I (Nat.le_refl _) (fun _ _ => rfl) (fun _ h => h)
  have hom' := Nat.le_of_ble_eq_true hom
  have e' : elemOff v i n o = .pointer (some ⟨b, off + o, none⟩) := by
    unfold elemPtr at e
    unfold elemOff
    split at e
    · rename_i a' _ _
      simp only [Value.pointer.injEq, Option.some.injEq] at e ⊢
      rw [← Deep.add_add, e, Addr.add_mk]
    · cases e
  rw [e'] at hx
  have := run_loadVar_cells ht w ⟨b, off + o, none⟩ ((cs.drop o).take m) (by simp; omega) h1 (fun j u hu => by
    rw [Addr.add_mk, cell_of_heap h2]
    rw [← h4, List.getElem?_take] at hu
    split at hu
    · rw [List.getElem?_drop, List.getElem?_take] at hu
      split at hu
      · rw [List.getElem?_drop, ← Nat.add_assoc] at hu; simpa using hu
      · cases hu
    · cases hu)
  simp only [execOp, hf.ev hx, Instr.loadAt, Instr.sureAddr, Sem.run_bind, Sem.run_pure, Result.andThen_ok, this, hu]

/-- Cells that stand for a datum, by what lasts. -/
def HasRep (As : List Asn) : (t : Ty) → List Value → t.den → Prop
  | .list t, cs, x => ∃ v, cs = [v] ∧ Asn.imm (.list t) v x ∈ As
  | .pair a b, cs, x => ∃ c1 c2, cs = c1 ++ c2 ∧ HasRep As a c1 x.1 ∧ HasRep As b c2 x.2
  | .bool, cs, x => cs = [.bool x]
  | .int k, cs, x => cs = [.int k x]
  | .u8, cs, x => cs = [byte x]
  | .str, cs, x => cs = [str x]

theorem HasRep.rep {w : World} {I : Blocks} (hs : ∀ A ∈ As, A.pers = true → A.sat w I []) : ∀ {t : Ty} {cs : List Value} {x : t.den}, HasRep As t cs x → repC w I t cs x
  | .bool, _, _, h => by simp only [repC]; exact h
  | .int _, _, _, h => by simp only [repC]; exact h
  | .u8, _, _, h => by simp only [repC]; exact h
  | .str, _, _, h => by simp only [repC]; exact h
  | .list t, _, x, h => by
    obtain ⟨v, rfl, hA⟩ := h
    obtain ⟨_, cs, hv, hr⟩ := hs _ hA rfl
    have hr' := hr
    simp only [repC] at hr'
    obtain ⟨a, len, cap, rfl, _⟩ := hr'
    have hv' : v = .slice a len cap := hv
    subst hv'
    exact hr
  | .pair a b, _, _, h => by
    obtain ⟨c1, c2, rfl, h1, h2⟩ := h
    exact ⟨c1, c2, rfl, h1.rep hs, h2.rep hs⟩

def HasReps (As : List Asn) (t : Ty) : List (List Value) → List t.den → Prop
  | [], [] => True
  | cs :: css, x :: xs => HasRep As t cs x ∧ HasReps As t css xs
  | _, _ => False

theorem HasReps.all {w : World} {I : Blocks} {t : Ty} (hs : ∀ A ∈ As, A.pers = true → A.sat w I []) : ∀ {css : List (List Value)} {xs : List t.den}, HasReps As t css xs →
    css.length = xs.length ∧ (∀ cs ∈ css, cs.length = t.n) ∧ ∀ i (h : i < xs.length), repC w I t ((css.flatten.drop (i * t.n)).take t.n) xs[i]
  | [], [], _ => ⟨rfl, by simp, fun i h => by simp at h⟩
  | cs :: css, x :: xs, h => by
    obtain ⟨h1, h2⟩ := h
    have r1 := h1.rep hs
    have hl := repC_len r1
    obtain ⟨i1, i2, i3⟩ := HasReps.all hs h2
    refine ⟨by simp [i1], fun c hc => by rcases List.mem_cons.1 hc with rfl | hc; exact hl; exact i2 c hc, fun i hi => ?_⟩
    cases i with
    | zero => simp only [Nat.zero_mul, List.drop_zero, List.flatten_cons, List.getElem_cons_zero]; rw [List.take_append_of_le_length (by omega), List.take_of_length_le (by omega)]; exact r1
    | succ i =>
      simp only [List.flatten_cons, List.getElem_cons_succ]
      rw [Nat.add_mul, Nat.one_mul, Nat.add_comm, ← List.drop_drop, ← hl, List.drop_left, hl]
      exact i3 i (by simpa using hi)
  | [], _ :: _, h => h.elim
  | _ :: _, [], h => h.elim

theorem flatten_len {α : Type} : ∀ (css : List (List α)) (k : Nat), (∀ cs ∈ css, cs.length = k) → css.flatten.length = css.length * k
  | [], k, _ => by simp
  | x :: r, k, h => by rw [List.flatten_cons, List.length_append, h x (by simp), flatten_len r k (fun cs hcs => h cs (by simp [hcs])), List.length_cons, Nat.add_mul]; omega

/-- A new block that leads on to memory. -/
theorem Mem.newP {c : Cx} {As Bs : List Asn} {w : World} {o : Obj} (h : Mem c As w)
    (hB : ∀ I, Okw w I [] → (∀ A ∈ As, A.pers = true → A.sat (w.alloc o) I []) → Sats (w.alloc o) I Bs [w.heap.size]) : Mem c (Bs ++ As) (w.alloc o) := by
  obtain ⟨I, m, he, hs⟩ := h
  have ho := he.okw
  have eff : Eff w I [] (w.alloc o) I [w.heap.size] := ⟨rfl, rfl, rfl, by rw [size_alloc]; omega, fun k hk _ => heap_alloc_old w o hk, fun _ h => h, fun _ h => .inl h, fun b hb => by have := ho.lt b hb; rw [size_alloc]; omega,
    by simp, fun b hb hI => by simp at hb; subst hb; exact Nat.lt_irrefl _ (ho.lt _ hI), fun b hb => by simp at hb; subst hb; exact ⟨.inr (Nat.le_refl _), by rw [size_alloc]; omega⟩⟩
  have hs' := Sats.frame (m1 := []) ho eff hs
  exact ⟨I, [w.heap.size] ++ m, he.trans (Eff.frame (m1 := []) ho eff), Sats_append.2 ⟨[w.heap.size], m, rfl, hB I ho.nil (fun A hA hp => hs'.pers hA hp), hs'⟩⟩

/-- A slice literal, whatever the data. -/
theorem jo_buildSliceL {ty E : TypeId} {len d : Nat} {parts : Array (Nat × Operand)} {t : Ty} {agg : Bool} {by_ : Nat} {z : Value} (xs : List t.den) (vs : List Value) (css : List (List Value)) (hp : ∀ a, Fits c.n L a → (parts.map fun (i, x) => (i, a.eval x)).toList = (vs.zipIdx 0).map fun x => (x.2, x.1)) (hv : vs.map Value.cells = css.map List.toArray)
    (hrep : HasReps As t css xs) (hu : c.P.underlying ty = some (.slice E)) (he : TyF c.P E agg t.n by_ (some z)) (hlen : xs.length = len) (hpos : Nat.blt 0 len = true) (hsm : Nat.ble (len * t.n) 16777216 = true) (hd : Nat.blt d c.n = true)
    (h : ∀ g, J c ((d, .slice (some ⟨g, 0, none⟩) xs.length xs.length) :: L) (.rowg g xs.length E t xs :: As) (wpList c.P ops Q rest)) :
    J c L As (wpList c.P ops Q (⟨some d, .buildSlice ty len parts, T, pos, aft, none⟩ :: rest)) := jo_step rfl fun a w hf hm => by
  obtain ⟨i, hi1, hi2, _, hi4⟩ := he.get
  have hn := t.n_pos
  rw [Nat.blt_eq] at hpos
  have hsm' := Nat.le_of_ble_eq_true hsm
  have hmul : 0 < len * t.n := Nat.mul_pos hpos hn
  obtain ⟨I0, m0, he0, hs0⟩ := id hm
  obtain ⟨a1, a2, _⟩ := hrep.all (w := w) (I := I0) (fun A hA hp => hs0.pers hA hp)
  have hfill := fill_parts (t := t) vs css 0 ((Array.range (len * i.size)).map (z.cells[· % z.cells.size]!)) hv a2 (by simp [hi2, hlen, a1])
  simp only [Nat.zero_mul, List.take_zero, List.nil_append] at hfill
  have hr := run_buildSlice (P := c.P) w ty E len (parts.map fun (i, x) => (i, a.eval x)) css.flatten.toArray i z hu hi1 hi4 (by rw [hi2]; omega) (by rw [hi2]; omega) (by rw [hp a hf, hi2]; rw [hi2] at hfill; exact hfill)
  have hr' : (execOp a.eval ⟨some d, .buildSlice ty len parts, T, pos, aft, none⟩).run c.P w = .ok (.value (.slice (some ⟨w.heap.size, 0, none⟩) len len)) (w.alloc (.cells css.flatten.toArray E)) := by
    simp only [execOp, Sem.run_bind, hr, Result.andThen_ok, Sem.run_pure]
  show Oper.upon _ _ _ _ _ ((execOp a.eval _).run c.P w)
  rw [hr']
  subst hlen
  have hml : xs.length ≤ maxLen := by
    have : xs.length ≤ xs.length * t.n := Nat.le_mul_of_pos_right _ hn
    simp only [maxLen]; omega
  have hfl : css.flatten.length = xs.length * t.n := by rw [← a1]; exact flatten_len css t.n a2
  refine h _ _ _ (hf.put (by rw [Nat.blt_eq] at hd; exact hd) _) (Mem.newP (Bs := [.rowg w.heap.size xs.length E t xs]) hm fun I ho hs => ⟨[w.heap.size], [], rfl, ⟨rfl, ?_⟩, rfl⟩)
  obtain ⟨_, _, a3⟩ := hrep.all (w := w.alloc (.cells css.flatten.toArray E)) (I := I) hs
  exact ⟨_, heap_alloc_new w _, Nat.le_refl _, hml, by simpa using hfl, fun i hi => by simpa using a3 i hi⟩

/-- The cells of a slice that nobody writes. -/
theorem imm_src {w : World} {I : Blocks} {t : Ty} {a : Option Addr} {len cap : Nat} {xs : List t.den} (h : repC w I (.list t) [.slice a len cap] xs) (hne : xs ≠ []) :
    ∃ b off C E fz, a = some ⟨b, off, none⟩ ∧ len = xs.length ∧ len ≤ cap ∧ I b ∧ w.heap[b]? = some (.cells C E fz) ∧ off + len * t.n ≤ C.size ∧ ∀ i (h : i < xs.length), repC w I t ((C.toList.drop (off + i * t.n)).take t.n) xs[i] := by
  obtain ⟨a', len', cap', e, hl, hc, hr⟩ := h
  simp only [List.cons.injEq, Value.slice.injEq, and_true] at e
  obtain ⟨rfl, rfl, rfl⟩ := e
  rcases hr with rfl | ⟨b, off, C, E, fz, rfl, h1, h2, h3, h4⟩
  · exact absurd rfl hne
  · exact ⟨b, off, C, E, fz, rfl, hl, hc, h1, h2, h3, h4⟩

/-- What an append leaves. -/
theorem grown_mem {w w' : World} {v v' : Value} {E : TypeId} {t : Ty} {zs : List t.den} {cs : List Value} {I : Blocks} {m1 m3 : List Nat} (hE : Eff c.w0 c.I0 c.m0 w I (m1 ++ m3)) (q1 : ∀ b, v.ownBlock = some b ↔ b ∈ m1) (h3 : Sats w I R m3)
    (o2 : w'.ownsRow 0 E t.n v' zs.length cs) (g1 : w.grownBy w' v.ownBlock) (b1 : v'.ownBlock = v.ownBlock ∨ ∃ g', v'.ownBlock = some g' ∧ w.heap.size ≤ g')
    (hrep : (∀ b, I b → w'.heap[b]? = w.heap[b]?) → ∀ k (hk : k < zs.length), repC w' I t ((cs.drop (k * t.n)).take t.n) zs[k]) : Mem c (.row v' E t zs :: R) w' := by
  have ho := hE.okw
  have hI : ∀ b, I b → w'.heap[b]? = w.heap[b]? := fun b hb' => g1.block b (ho.lt b hb') (fun e => ho.apart b (by simp [(q1 b).1 e.symm]) hb')
  have hrep := hrep hI
  obtain ⟨m1', hsat, hm1⟩ : ∃ m1', (Asn.row v' E t zs).sat w' I m1' ∧ ((m1' = []) ∨ ∃ g', m1' = [g'] ∧ v'.ownBlock = some g' ∧ g' < w'.heap.size) := by
    obtain ⟨l2, o2⟩ := o2
    rcases o2 with ⟨rfl, hz⟩ | ⟨g', cap', cur, rfl, _, e1, e2, e3, e4, e5⟩
    · exact ⟨[], .inl ⟨rfl, List.length_eq_zero_iff.1 hz, rfl⟩, .inl rfl⟩
    · refine ⟨[g'], .inr ⟨g', cap', rfl, rfl, cur, e1, e2, e3, e4, fun k hk => ?_⟩, .inr ⟨g', rfl, rfl, ?_⟩⟩
      · have := hrep k hk
        rw [← e5, part_take _ hk] at this
        exact this
      · rcases Nat.lt_or_ge g' w'.heap.size with h | h
        · exact h
        · rw [Array.getElem?_eq_none h] at e1; cases e1
  have eff : Eff w I m1 w' I m1' := by
    refine ⟨g1.os, g1.tape, g1.output, g1.size, fun k hk hkm => g1.block k hk (fun e => hkm (by simp [(q1 k).1 e.symm])), fun _ h => h, fun _ h => .inl h, fun b hb' => Nat.lt_of_lt_of_le (ho.lt b hb') g1.size, ?_, fun b hb' => ?_, fun b hb' => ?_⟩
    · rcases hm1 with rfl | ⟨g', rfl, _⟩ <;> simp
    · rcases hm1 with rfl | ⟨g', rfl, e, _⟩
      · cases hb'
      · obtain rfl := List.mem_singleton.1 hb'
        rcases b1 with b1 | ⟨g2, b1, b2⟩
        · exact ho.apart b (by simp [(q1 b).1 (b1 ▸ e)])
        · intro hI'
          have := ho.lt b hI'
          rw [e] at b1
          have := Option.some.inj b1
          omega
    · rcases hm1 with rfl | ⟨g', rfl, e, hlt⟩
      · cases hb'
      · obtain rfl := List.mem_singleton.1 hb'
        refine ⟨?_, hlt⟩
        rcases b1 with b1 | ⟨g2, b1, b2⟩
        · exact .inl (by simp [(q1 b).1 (b1 ▸ e)])
        · rw [e] at b1
          have := Option.some.inj b1
          exact .inr (by omega)
  exact ⟨I, m1' ++ m3, hE.trans (eff.frame ho), m1', m3, rfl, hsat, Sats.frame ho eff h3⟩

/-- 'append(s, xs...)' to an own slice, out of a slice that nobody writes. -/
theorem jo_append_imm {ty E : TypeId} {x y : Operand} {v u : Value} {d : Nat} {t : Ty} {xs ys : List t.den} {agg : Bool} {by_ : Nat} {z : Value} (hx : ev L x = some v) (hy : ev L y = some u) (hA : Asn.imm (.list t) u ys ∈ R) (hu : c.P.underlying ty = some (.slice E)) (he : TyF c.P E agg t.n by_ (some z)) (hzs : z.cells.size = t.n)
    (hml : xs.length + ys.length ≤ maxLen) (hb : (xs.length + ys.length) * by_ ≤ 140737488355328) (hd : Nat.blt d c.n = true)
    (h : ∀ v', J c ((d, v') :: L) (.row v' E t (xs ++ ys) :: R) (wpList c.P ops Q rest)) :
    J c L (.row v E t xs :: R) (wpList c.P ops Q (⟨some d, .call { callee := .builtin .append, args := #[x, y], argTypes := #[ty, ty] }, T, pos, aft, none⟩ :: rest)) := jo_step rfl fun a w hf hm => by
  obtain ⟨i, hi1, hi2, hi3, hi4⟩ := he.get
  obtain ⟨I, m, hE, hs⟩ := hm
  obtain ⟨m1, m3, rfl, h1, h3⟩ := hs
  have ho := hE.okw
  obtain ⟨_, cs0, hv0, hr0⟩ := h3.pers hA rfl
  have hr0' := hr0
  simp only [repC] at hr0'
  obtain ⟨ua, ulen, ucap, rfl, hul, huc, _⟩ := hr0'
  have hu' : u = .slice ua ulen ucap := hv0
  subst hu'
  obtain ⟨cs, o1, p1, q1⟩ := row_owns h1
  show Oper.upon _ _ _ _ _ ((execOp a.eval _).run c.P w)
  by_cases hys : ys = []
  · subst hys
    simp only [List.length_nil] at hul
    subst hul
    obtain ⟨va, vl, vc, hvv, hvle⟩ : ∃ va vl vc, v = .slice va vl vc ∧ vl ≤ vc := by
      rcases h1 with ⟨rfl, _, _⟩ | ⟨g, cap, rfl, _, C, _, h2, _⟩
      · exact ⟨none, 0, 0, rfl, Nat.le_refl _⟩
      · exact ⟨_, _, _, rfl, h2⟩
    have hr : (Builtin.append_ #[ty, ty] T #[v, .slice ua 0 ucap]).run c.P w = .ok v w := by
      subst hvv
      cases va <;> cases ua <;> simp [Builtin.append_, run_underlying hu, sizeOf, typeInfo, hi1, Builtin.lenOf, hvle, storeCells, Builtin.firstCells, loadCells, loadCellsFrom]
    have hr' : (execOp a.eval ⟨some d, .call { callee := .builtin .append, args := #[x, y], argTypes := #[ty, ty] }, T, pos, aft, none⟩).run c.P w = .ok (.value v) w := by
      simp only [execOp, resolve, invoke, builtin, Sem.run_bind, Sem.run_pure, Result.andThen_ok, List.map_toArray, List.map_cons, List.map_nil, hf.ev hx, hf.ev hy, hr]
    rw [hr']
    exact h v _ _ (hf.put (by rw [Nat.blt_eq] at hd; exact hd) _) ⟨I, m1 ++ m3, hE, m1, m3, rfl, by simpa using h1, h3⟩
  obtain ⟨b, off, C2, E2, fz2, rfl, _, _, hIb, c1, c4, c5⟩ := imm_src hr0 hys
  subst hul
  have hone : ∀ u ∈ (C2.toList.drop off).take (ys.length * t.n), u.oneCell' = true := all_parts (C2.toList.drop off) t.n ys.length (fun i hi u hu => repC_one (c5 i hi) u (by simpa [List.drop_drop] using hu))
  obtain ⟨v', w', hr, o2, g1, _, b1⟩ := run_append_own_at (P := c.P) w 0 ty T E i z t.n by_ hu hi1 hi4 hi2 hi3 hzs t.n_pos v xs.length cs o1 ⟨b, off, none⟩ ys.length ucap ((C2.toList.drop off).take (ys.length * t.n)) (by simp; omega)
    (fun j u hj => by
      rw [List.getElem?_take] at hj
      rw [Addr.add_mk, cell_of_heap c1]
      split at hj
      · simpa using hj
      · cases hj) hone hml hb (Nat.zero_le _)
  have hr' : (execOp a.eval ⟨some d, .call { callee := .builtin .append, args := #[x, y], argTypes := #[ty, ty] }, T, pos, aft, none⟩).run c.P w = .ok (.value v') w' := by
    simp only [execOp, resolve, invoke, builtin, Sem.run_bind, Sem.run_pure, Result.andThen_ok, List.map_toArray, List.map_cons, List.map_nil, hf.ev hx, hf.ev hy, hr]
  rw [hr']
  refine h v' _ _ (hf.put (by rw [Nat.blt_eq] at hd; exact hd) _) (grown_mem hE q1 h3 (by rw [List.length_append]; exact o2) g1 (b1.imp id fun h => ⟨_, h, Nat.le_refl _⟩) fun hI k hk => ?_)
  rw [List.length_append] at hk
  by_cases hkx : k < xs.length
  · rw [part_left o1.1 hkx, List.getElem_append_left hkx]
    exact repC_mono hI (fun _ h => h) (p1 k hkx)
  · have hk2 : k - xs.length < ys.length := by omega
    rw [part_right o1.1 (by omega), part_take _ hk2, List.getElem_append_right (by omega), List.drop_drop]
    exact repC_mono hI (fun _ h => h) (c5 _ hk2)

theorem strCells_mk (l : List UInt8) : Lib.strCells ⟨l.toArray⟩ = l.map byte := by simp [Lib.strCells, byte]

/-- 'append(b, s...)' of a string's bytes. -/
theorem jo_append_str {ty ts E : TypeId} {x y : Operand} {v : Value} {d : Nat} {xs ys : List UInt8} {z : Value} (hx : ev L x = some v) (hy : ev L y = some (str ys)) (hu : c.P.underlying ty = some (.slice E)) (hus : c.P.underlying ts = some .string) (he : TyF c.P E false 1 1 (some z)) (hz : z = .int .u8 0)
    (hml : xs.length + ys.length ≤ 140737488355328) (hd : Nat.blt d c.n = true)
    (h : ∀ v', J c ((d, v') :: L) (.row v' E .u8 (xs ++ ys) :: R) (wpList c.P ops Q rest)) :
    J c L (.row v E .u8 xs :: R) (wpList c.P ops Q (⟨some d, .call { callee := .builtin .append, args := #[x, y], argTypes := #[ty, ts] }, T, pos, aft, none⟩ :: rest)) := jo_step rfl fun a w hf hm => by
  obtain ⟨i, hi1, hi2, hi3, hi4⟩ := he.get
  subst hz
  obtain ⟨I, m, hE, hs⟩ := hm
  obtain ⟨m1, m3, rfl, h1, h3⟩ := hs
  have ho := hE.okw
  obtain ⟨cs, o1, p1, q1⟩ := row_owns h1
  have o1' : w.ownsRow 0 E 1 v xs.length cs := o1
  have hm1 : xs.length + (⟨ys.toArray⟩ : ByteArray).size ≤ maxLen := by simp [mk_size, maxLen]; omega
  have hm2 : xs.length + (⟨ys.toArray⟩ : ByteArray).size ≤ 140737488355328 := by simpa [mk_size] using hml
  obtain ⟨v', w', hr, o2, g1, _⟩ := Lib.run_append_own_string (P := c.P) (w := w) 0 ty ts T E i hu hus hi1 hi4 hi2 hi3 v xs.length cs o1' ⟨ys.toArray⟩ hm1 hm2 (Nat.zero_le _)
  have b1 : v'.ownBlock = v.ownBlock ∨ ∃ g', v'.ownBlock = some g' ∧ w.heap.size ≤ g' := by
    rcases o1'.2 with ⟨rfl, hn⟩ | ⟨g, cap, cur, rfl, _, hg, hnc, hcm, hcs, _⟩
    · obtain ⟨v2, w2, hr2, o3, _⟩ := Lib.run_append_own_string (P := c.P) (w := w) w.heap.size ty ts T E i hu hus hi1 hi4 hi2 hi3 (.slice none 0 0) xs.length cs ⟨o1'.1, .inl ⟨rfl, hn⟩⟩ ⟨ys.toArray⟩ hm1 hm2 (Nat.le_refl _)
      have e := hr.symm.trans hr2
      simp only [Result.ok.injEq] at e
      obtain ⟨rfl, rfl⟩ := e
      rcases o3.2 with ⟨rfl, _⟩ | ⟨g', cap', cur', rfl, hle, _⟩
      · exact .inl rfl
      · exact .inr ⟨g', rfl, hle⟩
    · by_cases hroom : xs.length + (⟨ys.toArray⟩ : ByteArray).size ≤ cap
      · have hr2 := Lib.run_append_room_string (P := c.P) w ty ts T E i hu hus hi1 hi2 g xs.length cap cur hg ⟨ys.toArray⟩ hroom (by simp only [maxLen] at hcm; omega)
        have e := hr.symm.trans hr2
        simp only [Result.ok.injEq] at e
        exact .inl (by rw [e.1]; rfl)
      · have holds : ∀ j u, cs[j]? = some u → w.cell? ((⟨g, 0, none⟩ : Addr).add j) = some u := o1'.cells (g := g) rfl
        have hr2 := Lib.run_append_grow_string (P := c.P) w ty ts T E i (.int .u8 0) hu hus hi1 hi4 ⟨g, 0, none⟩ xs.length cap cs (by rw [hi2]; simpa using o1'.1) holds ⟨ys.toArray⟩ (by omega) (by omega) (by rw [hi3]; exact growslice_fits (by omega) (by omega))
        have e := hr.symm.trans hr2
        simp only [Result.ok.injEq] at e
        exact .inr ⟨w.heap.size, by rw [e.1]; rfl, Nat.le_refl _⟩
  have hr' : (execOp a.eval ⟨some d, .call { callee := .builtin .append, args := #[x, y], argTypes := #[ty, ts] }, T, pos, aft, none⟩).run c.P w = .ok (.value v') w' := by
    have hr3 : (Builtin.append_ #[ty, ts] T #[v, str ys]).run c.P w = .ok v' w' := hr
    simp only [execOp, resolve, invoke, builtin, Sem.run_bind, Sem.run_pure, Result.andThen_ok, List.map_toArray, List.map_cons, List.map_nil, hf.ev hx, hf.ev hy, hr3]
  show Oper.upon _ _ _ _ _ ((execOp a.eval _).run c.P w)
  rw [hr']
  have o2' : w'.ownsRow 0 E 1 v' (xs ++ ys).length (cs ++ ys.map byte) := by rw [← strCells_mk, List.length_append]; simpa only [mk_size] using o2
  refine h v' _ _ (hf.put (by rw [Nat.blt_eq] at hd; exact hd) _) (grown_mem (t := .u8) hE q1 h3 o2' g1 b1 fun hI k hk => ?_)
  rw [List.length_append] at hk
  by_cases hkx : k < xs.length
  · rw [part_left o1.1 hkx, List.getElem_append_left hkx]
    exact repC_mono hI (fun _ h => h) (p1 k hkx)
  · have hk2 : k - xs.length < ys.length := by omega
    rw [part_right o1.1 (by omega), List.getElem_append_right (by omega)]
    simp only [Ty.n, Nat.mul_one, repC]
    rw [List.take_one, List.head?_drop, List.getElem?_map, List.getElem?_eq_getElem hk2]; rfl
end ops
end Go.Sep
