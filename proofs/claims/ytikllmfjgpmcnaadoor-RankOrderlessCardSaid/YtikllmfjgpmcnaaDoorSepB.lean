/-
  The rules of the calculus for code: sequences, branches, blocks, loops, the end of a function; contracts and calls. No program in sight. No conditions.
-/
import Derived.Test.YtikllmfjgpmcnaaDoorSepA
import Derived.Deep.LoopGhost
namespace Go.Sep
open Go

theorem bt_and {a b : Bool} (h : (a && b) = true) : a = true ∧ b = true := by simpa using h
theorem bf_and {a b : Bool} (h : (a && b) = false) : a = false ∨ b = false := by cases a <;> simp_all
theorem bt_or {a b : Bool} (h : (a || b) = true) : a = true ∨ b = true := by simpa using h
theorem bf_or {a b : Bool} (h : (a || b) = false) : a = false ∧ b = false := by simpa using h
theorem bt_not {a : Bool} (h : (!a) = true) : a = false := by simpa using h
theorem bf_not {a : Bool} (h : (!a) = false) : a = true := by simpa using h

/-! ### Code -/

section code
variable {c : Cx} {L : List (Nat × Value)} {As : List Asn} {Q : Exit → Act → World → Prop} {K : Act → World → Prop}

theorem jc_seq {x y : Code} (h : J c L As (x.wp c.P (Exit.then (y.wp c.P Q) Q))) : J c L As ((Code.seq x y).wp c.P Q) := h.mono fun _ _ h => wp_seq h
theorem jc_skip (h : J c L As (Q .normal)) : J c L As (Code.skip.wp c.P Q) := h.mono fun _ _ h => wp_skip h
theorem jc_label {l : Nat} (h : J c L As (Q .normal)) : J c L As ((Code.label l).wp c.P Q) := h.mono fun _ _ h => wp_label h
theorem jc_exit {id : Nat} (h : J c L As (Q (.exit id))) : J c L As ((Code.exit id).wp c.P Q) := h.mono fun _ _ h => wp_exit h
theorem jc_ret (h : J c L As (Q .ret)) : J c L As (Code.ret.wp c.P Q) := h.mono fun _ _ h => wp_ret h
theorem jc_block {id : Nat} {x : Code} (h : J c L As (x.wp c.P (Exit.inBlock id Q))) : J c L As ((Code.block id x).wp c.P Q) := h.mono fun _ _ h => wp_block h
theorem jc_cond {x : Operand} {th el : Code} {b : Bool} (hv : ev L x = some (.bool b)) (ht : b = true → J c L As (th.wp c.P Q)) (hf : b = false → J c L As (el.wp c.P Q)) :
    J c L As ((Code.cond x th el).wp c.P Q) := fun a w hfit hm => by
  cases b with
  | true => exact wp_cond_true (hfit.ev hv) (ht rfl a w hfit hm)
  | false => exact wp_cond_false (hfit.ev hv) (hf rfl a w hfit hm)
theorem jc_true {x : Operand} {th el : Code} {b : Bool} (hv : ev L x = some (.bool b)) (hb : b = true) (ht : J c L As (th.wp c.P Q)) : J c L As ((Code.cond x th el).wp c.P Q) :=
  jc_cond hv (fun _ => ht) (fun h => by rw [hb] at h; cases h)
theorem jc_false {x : Operand} {th el : Code} {b : Bool} (hv : ev L x = some (.bool b)) (hb : b = false) (ht : J c L As (el.wp c.P Q)) : J c L As ((Code.cond x th el).wp c.P Q) :=
  jc_cond hv (fun h => by rw [hb] at h; cases h) (fun _ => ht)

/-! The exits pass what lies around them. -/
theorem jq_then {K : Act → World → Prop} (h : J c L As K) : J c L As (Exit.then K Q .normal) := h
theorem jq_then_exit {id : Nat} (h : J c L As (Q (.exit id))) : J c L As (Exit.then K Q (.exit id)) := h
theorem jq_then_ret (h : J c L As (Q .ret)) : J c L As (Exit.then K Q .ret) := h
theorem jq_in_normal {id : Nat} (h : J c L As (Q .normal)) : J c L As (Exit.inBlock id Q .normal) := h
theorem jq_in_ret {id : Nat} (h : J c L As (Q .ret)) : J c L As (Exit.inBlock id Q .ret) := h
theorem jq_in_hit {id : Nat} (h : J c L As (Q .normal)) : J c L As (Exit.inBlock id Q (.exit id)) := h.mono fun a w h => by simp only [Exit.inBlock, if_true]; exact h
theorem jq_in_miss {id id' : Nat} (hne : Nat.beq id' id = false) (h : J c L As (Q (.exit id'))) : J c L As (Exit.inBlock id Q (.exit id')) := h.mono fun a w h => by
  have : id' ≠ id := fun e => by subst e; simp at hne
  simp only [Exit.inBlock, this, if_false]; exact h

theorem jc_region {id : Nat} {l : List Oper} (h : J c L As (wpList c.P l.toArray Q l)) : J c L As ((Code.region id l.toArray false).wp c.P Q) := h.mono fun _ _ h => wp_region_lit h

/-- A loop: 'St s' tells slots and memory at a round's head. -/
theorem jc_loop {x : Code} {S : Type} (StL : S → List (Nat × Value)) (StA : S → List Asn) (inv : S → Prop) (meas : S → Nat) (s0 : S) (h0 : inv s0)
    (hL : SubL (StL s0) L) (hA : ∀ w, Mem c As w → Mem c (StA s0) w)
    (round : ∀ s, inv s → J c (StL s) (StA s) (x.wp c.P (Exit.then (fun a w => ∃ s', inv s' ∧ meas s' < meas s ∧ Fits c.n (StL s') a ∧ Mem c (StA s') w) Q))) :
    J c L As ((Code.loop x).wp c.P Q) := fun a w hf hm => by
  refine wp_loop_ghost (fun n a w => ∃ s, inv s ∧ meas s = n ∧ Fits c.n (StL s) a ∧ Mem c (StA s) w) (meas s0) ⟨s0, h0, rfl, hf.sub hL, hA w hm⟩ ?_
  rintro n a w ⟨s, hs, rfl, hf, hm⟩
  refine wp_mono (round s hs a w hf hm) ?_
  intro e a' w' hq
  cases e with
  | normal => obtain ⟨s', h1, h2, h3, h4⟩ := hq; exact ⟨meas s', h2, s', h1, rfl, h3, h4⟩
  | _ => exact hq
/-- The end of a round. -/
theorem jq_round {S : Type} {StL : S → List (Nat × Value)} {StA : S → List Asn} {inv : S → Prop} {meas : S → Nat} {s : S} (s' : S) (h1 : inv s') (h2 : meas s' < meas s)
    (hL : SubL (StL s') L) (hA : ∀ w, Mem c As w → Mem c (StA s') w) :
    J c L As (Exit.then (fun a w => ∃ s', inv s' ∧ meas s' < meas s ∧ Fits c.n (StL s') a ∧ Mem c (StA s') w) Q .normal) := fun _ w hf hm => ⟨s', h1, h2, hf.sub hL, hA w hm⟩
section curried
variable {x : Code} {S1 S2 S3 S4 : Type}
theorem jc_loop2 (StL : S1 → S2 → List (Nat × Value)) (StA : S1 → S2 → List Asn) (inv : S1 → S2 → Prop) (meas : S1 → S2 → Nat) (a0 : S1) (b0 : S2) (h0 : inv a0 b0)
    (hL : SubL (StL a0 b0) L) (hA : ∀ w, Mem c As w → Mem c (StA a0 b0) w)
    (round : ∀ s t, inv s t → J c (StL s t) (StA s t) (x.wp c.P (Exit.then (fun a w => ∃ s' : S1 × S2, inv s'.1 s'.2 ∧ meas s'.1 s'.2 < meas s t ∧ Fits c.n (StL s'.1 s'.2) a ∧ Mem c (StA s'.1 s'.2) w) Q))) :
    J c L As ((Code.loop x).wp c.P Q) :=
  jc_loop (S := S1 × S2) (fun s => StL s.1 s.2) (fun s => StA s.1 s.2) (fun s => inv s.1 s.2) (fun s => meas s.1 s.2) (a0, b0) h0 hL hA fun s h => round s.1 s.2 h
theorem jc_loop3 (StL : S1 → S2 → S3 → List (Nat × Value)) (StA : S1 → S2 → S3 → List Asn) (inv : S1 → S2 → S3 → Prop) (meas : S1 → S2 → S3 → Nat) (a0 : S1) (b0 : S2) (c0 : S3) (h0 : inv a0 b0 c0)
    (hL : SubL (StL a0 b0 c0) L) (hA : ∀ w, Mem c As w → Mem c (StA a0 b0 c0) w)
    (round : ∀ s t u, inv s t u → J c (StL s t u) (StA s t u) (x.wp c.P (Exit.then (fun a w => ∃ s' : S1 × S2 × S3, inv s'.1 s'.2.1 s'.2.2 ∧ meas s'.1 s'.2.1 s'.2.2 < meas s t u ∧ Fits c.n (StL s'.1 s'.2.1 s'.2.2) a ∧ Mem c (StA s'.1 s'.2.1 s'.2.2) w) Q))) :
    J c L As ((Code.loop x).wp c.P Q) :=
  jc_loop (S := S1 × S2 × S3) (fun s => StL s.1 s.2.1 s.2.2) (fun s => StA s.1 s.2.1 s.2.2) (fun s => inv s.1 s.2.1 s.2.2) (fun s => meas s.1 s.2.1 s.2.2) (a0, b0, c0) h0 hL hA fun s h => round s.1 s.2.1 s.2.2 h
theorem jc_loop4 (StL : S1 → S2 → S3 → S4 → List (Nat × Value)) (StA : S1 → S2 → S3 → S4 → List Asn) (inv : S1 → S2 → S3 → S4 → Prop) (meas : S1 → S2 → S3 → S4 → Nat) (a0 : S1) (b0 : S2) (c0 : S3) (d0 : S4) (h0 : inv a0 b0 c0 d0)
    (hL : SubL (StL a0 b0 c0 d0) L) (hA : ∀ w, Mem c As w → Mem c (StA a0 b0 c0 d0) w)
    (round : ∀ s t u v, inv s t u v → J c (StL s t u v) (StA s t u v) (x.wp c.P (Exit.then (fun a w => ∃ s' : S1 × S2 × S3 × S4, inv s'.1 s'.2.1 s'.2.2.1 s'.2.2.2 ∧ meas s'.1 s'.2.1 s'.2.2.1 s'.2.2.2 < meas s t u v ∧ Fits c.n (StL s'.1 s'.2.1 s'.2.2.1 s'.2.2.2) a ∧ Mem c (StA s'.1 s'.2.1 s'.2.2.1 s'.2.2.2) w) Q))) :
    J c L As ((Code.loop x).wp c.P Q) :=
  jc_loop (S := S1 × S2 × S3 × S4) (fun s => StL s.1 s.2.1 s.2.2.1 s.2.2.2) (fun s => StA s.1 s.2.1 s.2.2.1 s.2.2.2) (fun s => inv s.1 s.2.1 s.2.2.1 s.2.2.2) (fun s => meas s.1 s.2.1 s.2.2.1 s.2.2.2) (a0, b0, c0, d0) h0 hL hA fun s h => round s.1 s.2.1 s.2.2.1 s.2.2.2 h
/-- The end of a round, whatever the number of variables. -/
theorem jq_round' {S : Type} {P1 : S → Prop} {P2 : S → Prop} {StL : S → List (Nat × Value)} {StA : S → List Asn} (s' : S) (h1 : P1 s') (h2 : P2 s')
    (hL : SubL (StL s') L) (hA : ∀ w, Mem c As w → Mem c (StA s') w) :
    J c L As (Exit.then (fun a w => ∃ s', P1 s' ∧ P2 s' ∧ Fits c.n (StL s') a ∧ Mem c (StA s') w) Q .normal) := fun _ w hf hm => ⟨s', h1, h2, hf.sub hL, hA w hm⟩
end curried
/-- A cut: what holds here is all that is known behind it. -/
theorem j_cut (L' : List (Nat × Value)) (As' : List Asn) (hL : SubL L' L) (hA : ∀ w, Mem c As w → Mem c As' w) (h : J c L' As' K) : J c L As K := fun a w hf hm => h a w (hf.sub hL) (hA w hm)
end code

/-! ### The end of a function -/

/-- What a call comes to. -/
def Ends (w0 : World) (I0 : Blocks) (m0 : List Nat) {ι : Type} (val : ι → Value) (asn : ι → List Asn) (e : Ending) (w' : World) : Prop :=
  ∃ i I' m', e = .returned (val i) ∧ Eff w0 I0 m0 w' I' m' ∧ Sats w' I' (asn i) m'

/-- **A contract**: called with 'args', where 'As' hold, it returns 'val i' for some i, and 'asn i' hold. -/
def Con (P : Program) (f : FuncId) (args : Array Value) (As : List Asn) {ι : Type} (val : ι → Value) (asn : ι → List Asn) : Prop :=
  ∀ w I m, Okw w I m → Sats w I As m → Calls P f args w (Ends w I m val asn)

theorem con_of_J {P : Program} {f : FuncId} {fn : Func} {code : Code} {args : List Value} {As : List Asn} {ι : Type} {val : ι → Value} {asn : ι → List Asn} (hf : P.funcs[f]? = some fn) (hb : fn.body = some code)
    (hn : args.length ≤ fn.ntmps) {n : Nat} (hn' : fn.ntmps = n)
    (h : ∀ w0 I0 m0, J ⟨P, n, w0, I0, m0⟩ (args.zipIdx.map fun x => (x.2, x.1)) As (code.wp P (bodyPost P fn (Ends w0 I0 m0 val asn)))) : Con P f args.toArray As val asn := fun w I m ho hs => by
  subst hn'
  refine calls_of_wp hf hb (h w I m _ w ⟨by simp; omega, rfl, ?_⟩ ⟨I, m, ho.eff, hs⟩)
  have key : ∀ (l : List Value) (k t : Nat) (v : Value), lk ((l.zipIdx k).map fun x => (x.2, x.1)) t = some v → k ≤ t ∧ l[t - k]? = some v := by
    intro l
    induction l with
    | nil => intro k t v h; simp [lk] at h
    | cons u l ih =>
      intro k t v h
      simp only [List.zipIdx_cons, List.map_cons, lk] at h
      cases hb : Nat.beq k t with
      | true =>
        rw [hb] at h
        simp only [cond_true, Option.some.injEq] at h
        have := Nat.eq_of_beq_eq_true hb
        subst this
        exact ⟨Nat.le_refl _, by simp [h]⟩
      | false =>
        rw [hb] at h
        obtain ⟨h1, h2⟩ := ih (k + 1) t v h
        refine ⟨by omega, ?_⟩
        rw [show t - k = (t - (k + 1)) + 1 from by omega]
        simpa using h2
  intro t v hv
  have := (key args 0 t v hv).2
  have hlt : t < args.length := by rcases Nat.lt_or_ge t args.length with h | h; exact h; simp [List.getElem?_eq_none h] at this
  simp only [Nat.sub_zero] at this
  rw [Array.getElem?_append_left (by simpa using hlt)]
  simpa using this

section ends
variable {c : Cx} {L : List (Nat × Value)} {As : List Asn} {fn : Func} {ι : Type} {val : ι → Value} {asn : ι → List Asn}

/-- What the results read as, and that what the contract promises is there. -/
theorem jq_end (i : ι) (hr : ∀ a w, Fits c.n L a → Mem c As w → (results fn a.tmps).run c.P w = .ok (val i) w) (hA : ∀ w, Mem c As w → Mem c (asn i) w) :
    J c L As (bodyPost c.P fn (Ends c.w0 c.I0 c.m0 val asn) .ret) := fun a w hf hm => by
  obtain ⟨I, m, he, hs⟩ := hA w hm
  exact ⟨hf.2.1, val i, hr a w hf hm, i, I, m, rfl, he, hs⟩
theorem jq_fall (h : J c L As (bodyPost c.P fn (Ends c.w0 c.I0 c.m0 val asn) .ret)) : J c L As (bodyPost c.P fn (Ends c.w0 c.I0 c.m0 val asn) .normal) := h

theorem Fits.getD {n : Nat} {L : List (Nat × Value)} {a : Act} (h : Fits n L a) {t : Nat} {v : Value} (hv : lk L t = some v) : a.tmps.getD t undef = v := by
  have := h.2.2 t v hv
  simp [this]

/-- One result. -/
theorem jq_ret1 {t : Tmp} {x : Value} (hres : fn.results = #[.tmp t]) (i : ι) (hx : lk L t = some x) (hv : val i = x) (hA : ∀ w, Mem c As w → Mem c (asn i) w) :
    J c L As (bodyPost c.P fn (Ends c.w0 c.I0 c.m0 val asn) .ret) :=
  jq_end i (fun a w hf _ => by rw [results_tmp hres, hf.getD hx, hv]) hA
theorem jq_ret0 (hres : fn.results = #[]) (i : ι) (hv : val i = .tuple #[]) (hA : ∀ w, Mem c As w → Mem c (asn i) w) :
    J c L As (bodyPost c.P fn (Ends c.w0 c.I0 c.m0 val asn) .ret) :=
  jq_end i (fun a w _ _ => by rw [results_none hres, hv]) hA

/-- Results one by one: a slot, or a variable. -/
def resOf (tmps : Array Value) : ResultVar → Sem Value
  | .tmp t => pure (tmps.getD t undef)
  | .cell ad T => do loadVar T (← asAddr (tmps.getD ad undef))

theorem results_eq (fn : Func) (tmps : Array Value) : results fn tmps = (do let vs ← fn.results.mapM (resOf tmps); pure (if h : vs.size = 1 then vs[0] else .tuple vs)) := by
  unfold results
  congr 2

def ResV (c : Cx) (L : List (Nat × Value)) (As : List Asn) (r : ResultVar) (v : Value) : Prop :=
  ∀ a w, Fits c.n L a → Mem c As w → (resOf a.tmps r).run c.P w = .ok v w
theorem resV_tmp {t : Tmp} {v : Value} (h : lk L t = some v) : ResV c L As (.tmp t) v := fun a w hf _ => by simp only [resOf, hf.getD h, Sem.run_pure]

def ResVs (c : Cx) (L : List (Nat × Value)) (As : List Asn) : List ResultVar → List Value → Prop
  | [], [] => True
  | r :: rs, v :: vs => ResV c L As r v ∧ ResVs c L As rs vs
  | _, _ => False

theorem ResVs.run {a : Act} {w : World} (hf : Fits c.n L a) (hm : Mem c As w) : ∀ {rs : List ResultVar} {vs : List Value}, ResVs c L As rs vs →
    (rs.mapM (resOf a.tmps)).run c.P w = .ok vs w
  | [], [], _ => by simp
  | r :: rs, v :: vs, h => by
    rw [List.mapM_cons]
    simp only [Sem.run_bind, h.1 a w hf hm, Result.andThen_ok, ResVs.run hf hm h.2, Sem.run_pure]
  | [], _ :: _, h => h.elim
  | _ :: _, [], h => h.elim

theorem run_results {a : Act} {w : World} (hf : Fits c.n L a) (hm : Mem c As w) {rs : List ResultVar} {vs : List Value} (hres : fn.results = rs.toArray) (hx : ResVs c L As rs vs) :
    (results fn a.tmps).run c.P w = .ok (if h : vs.length = 1 then vs[0] else .tuple vs.toArray) w := by
  have h := ResVs.run hf hm hx
  rw [results_eq, hres]
  simp [List.mapM_toArray, h]

theorem jq_rets {rs : List ResultVar} {vs : List Value} (hres : fn.results = rs.toArray) (i : ι) (hx : ResVs c L As rs vs) (hn : Nat.beq vs.length 1 = false) (hv : val i = .tuple vs.toArray) (hA : ∀ w, Mem c As w → Mem c (asn i) w) :
    J c L As (bodyPost c.P fn (Ends c.w0 c.I0 c.m0 val asn) .ret) :=
  jq_end i (fun a w hf hm => by
    have hn' : vs.length ≠ 1 := fun e => by rw [e] at hn; cases hn
    rw [run_results hf hm hres hx, hv, dif_neg hn']) hA
theorem jq_retc {r : ResultVar} {v : Value} (hres : fn.results = #[r]) (i : ι) (hx : ResV c L As r v) (hv : val i = v) (hA : ∀ w, Mem c As w → Mem c (asn i) w) :
    J c L As (bodyPost c.P fn (Ends c.w0 c.I0 c.m0 val asn) .ret) :=
  jq_end i (fun a w hf hm => by
    rw [run_results (rs := [r]) (vs := [v]) hf hm hres ⟨hx, trivial⟩, hv]; rfl) hA
end ends

/-! ### Operations: those that leave the world alone -/

/-- The operation yields v and leaves the world as it is. -/
def PR (c : Cx) (op : Op) (T : TypeId) (L : List (Nat × Value)) (As : List Asn) (v : Value) : Prop :=
  ∀ a w, Fits c.n L a → Mem c As w → ∀ d pos aft gd, (execOp a.eval ⟨d, op, T, pos, aft, gd⟩).run c.P w = .ok (.value v) w

section ops
variable {c : Cx} {L : List (Nat × Value)} {As : List Asn} {Q : Exit → Act → World → Prop} {K : Act → World → Prop} {ops : Array Oper} {rest : List Oper} {T : TypeId} {pos : String} {aft : Array Edge}

/-- One operation of a region, no guard. -/
theorem jo_step {o : Oper} (hg : o.guard = none) (h : J c L As (fun a w => o.wp c.P a w (wpList c.P ops Q rest) Q)) : J c L As (wpList c.P ops Q (o :: rest)) := fun a w hf hm =>
  wpList_plain hg fun _ hK => by
    have := h a w hf hm
    unfold Oper.wp at this ⊢
    revert this
    generalize (execOp a.eval o).run c.P w = r
    intro this
    cases r with
    | ok n w' => cases n with
      | value v => exact hK _ _ this
      | skip => exact hK _ _ this
      | defer d => exact hK _ _ this
      | enter f args => exact Calls.mono this fun e w'' he => by cases e with
        | returned v => exact hK _ _ he
        | panicked ch => exact he
        | outgrown => exact he
      | row r args => exact Rows.mono this fun v w'' he => hK _ _ he
      | _ => exact this
    | halt h w' => cases h <;> exact this
theorem jo_nil (h : J c L As (Q .normal)) : J c L As (wpList c.P ops Q []) := h

theorem jo_pure {op : Op} {d : Nat} {v : Value} (hd : Nat.blt d c.n = true) (hp : PR c op T L As v) (h : J c ((d, v) :: L) As (wpList c.P ops Q rest)) :
    J c L As (wpList c.P ops Q (⟨some d, op, T, pos, aft, none⟩ :: rest)) := jo_step rfl fun a w hf hm => by
  show Oper.upon _ _ _ _ _ ((execOp a.eval _).run c.P w)
  rw [hp a w hf hm]
  exact h _ w (hf.put (by rw [Nat.blt_eq] at hd; exact hd) v) hm

/-- What an operation does does not hang on its guard. -/
theorem wp_guard {d : Option Tmp} {op : Op} {g g' : Option (Nat × Bool)} {P : Program} {a : Act} {w : World} : (Oper.mk d op T pos aft g).wp P a w K Q ↔ (Oper.mk d op T pos aft g').wp P a w K Q := Iff.rfl

/-- A guard that is met. -/
theorem jo_run {d : Option Tmp} {op : Op} {j : Nat} {want b : Bool} {t : Nat} (hj : (ops[j]?).bind (·.dst) = some t) (hl : lk L t = some (.bool b)) (hb : b = want)
    (h : J c L As (wpList c.P ops Q (⟨d, op, T, pos, aft, none⟩ :: rest))) : J c L As (wpList c.P ops Q (⟨d, op, T, pos, aft, some (j, want)⟩ :: rest)) := fun a w hf hm => by
  have hy : yielded ops a.tmps j = some want := by
    have := hf.2.2 t _ hl
    simp [yielded, hj, this, hb]
  have := h a w hf hm
  unfold wpList at this ⊢
  rw [if_pos (by simp [Region.wanted])] at this
  rw [if_pos (by simp [Region.wanted, hy])]
  exact this
/-- A guard that is not met. -/
theorem jo_skip {d : Option Tmp} {op : Op} {j : Nat} {want b : Bool} {t : Nat} (hj : (ops[j]?).bind (·.dst) = some t) (hl : lk L t = some (.bool b)) (hb : b = !want) (L' : List (Nat × Value))
    (hL : SubL L' L) (hd : ∀ k, d = some k → lk L' k = none) (h : J c L' As (wpList c.P ops Q rest)) : J c L As (wpList c.P ops Q (⟨d, op, T, pos, aft, some (j, want)⟩ :: rest)) := fun a w hf hm => by
  have hy : yielded ops a.tmps j = some (!want) := by
    have := hf.2.2 t _ hl
    simp [yielded, hj, this, hb]
  unfold wpList
  rw [if_neg (by simp [Region.wanted, hy])]
  refine h _ w ?_ hm
  cases d with
  | none => exact hf.sub hL
  | some k =>
    refine ⟨by simp [Act.put, hf.1], hf.2.1, fun t v hv => ?_⟩
    have hne : k ≠ t := fun e => by subst e; rw [hd k rfl] at hv; cases hv
    simp only [Act.put]
    rw [Array.getElem?_setIfInBounds_ne hne]
    exact (hf.sub hL).2.2 t v hv

/-! The plain ones. -/
theorem pr_move {x : Operand} {v : Value} (hv : ev L x = some v) : PR c (.move x) T L As v := fun a w hf _ d pos aft gd => by simp [execOp, hf.ev hv]
theorem pr_assign {x : Operand} {v : Value} (hv : ev L x = some v) : PR c (.assign x) T L As v := fun a w hf _ d pos aft gd => by simp [execOp, hf.ev hv]
theorem pr_pick_t {x y z : Operand} {v : Value} {b : Bool} (hx : ev L x = some (.bool b)) (hb : b = true) (hv : ev L y = some v) : PR c (.pick x y z) T L As v := fun a w hf _ d pos aft gd => by
  simp [execOp, hf.ev hx, hf.ev hv, asBool, hb]
theorem pr_pick_f {x y z : Operand} {v : Value} {b : Bool} (hx : ev L x = some (.bool b)) (hb : b = false) (hv : ev L z = some v) : PR c (.pick x y z) T L As v := fun a w hf _ d pos aft gd => by
  simp [execOp, hf.ev hx, hf.ev hv, asBool, hb]
theorem pr_extract {x : Operand} {vs : Array Value} {k : Nat} {v : Value} (hx : ev L x = some (.tuple vs)) (hk : vs[k]? = some v) : PR c (.extract x k) T L As v := fun a w hf _ d pos aft gd => by
  simp [execOp, hf.ev hx, Instr.extract, hk]
theorem pr_not {x : Operand} {b : Bool} {t : TypeId} (hx : ev L x = some (.bool b)) : PR c (.unOp .not t x) T L As (.bool (!b)) := fun a w hf _ d pos aft gd => by
  simp [execOp, hf.ev hx, Op.unary]
theorem pr_neg {x : Operand} {k : IntKind} {n : Int} {t : TypeId} (hx : ev L x = some (.int k n)) : PR c (.unOp .neg t x) T L As (.int k (k.wrap (0 - n))) := fun a w hf _ d pos aft gd => by
  simp [execOp, hf.ev hx, Op.unary, Op.intArith]
theorem pr_makeFunc {f : Fn} {first capt : Array Operand} {fs cs : Array Value} (hf1 : ∀ a, Fits c.n L a → first.map a.eval = fs) (hf2 : ∀ a, Fits c.n L a → capt.map a.eval = cs) : PR c (.makeFunc f first capt) T L As (.func f fs cs) := fun a w hf _ d pos aft gd => by
  simp [execOp, Instr.makeFunc, hf1 a hf, hf2 a hf]
end ops
end Go.Sep
