/-
 Contracts of functions of the program: each returns what a plain function says, for every input within the bounds named. Conditions: the bounds.
-/
import Derived.Test.YtjbcomdljmfgjabGreatDoorRows
import Derived.Test.YtjbcomdljmfgjabGreatDoorZK2b
import Derived.Test.YtjbcomdljmfgjabGreatDoorZShelf
namespace Go.Proofs.YtjbcomdljmfgjabGreatDoor
open Go Go.Sep
set_option linter.unusedSimpArgs false
set_option linter.unusedVariables false

open Go.Plain

theorem cal_18 : Cal Tryz.prog 18 := cal_of Tryz.func18 (by kernel_rfl) rfl
theorem cal_38 : Cal Tryz.prog 38 := cal_of Tryz.func38 (by kernel_rfl) rfl
theorem cal_105 : Cal Tryz.prog 105 := cal_of Tryz.func105 (by kernel_rfl) rfl
theorem cal_106 : Cal Tryz.prog 106 := cal_of Tryz.func106 (by kernel_rfl) rfl

theorem c_rank_Quality (kind : Int) (l : List ((List UInt8) × Int)) (lv : Value) (present : Bool) (v : List UInt8) (hl : l.length ≤ 1000000) (hm : ∀ x ∈ l, x.1.length ≤ 1000000) (hv : v.length ≤ 1000000) : Con Tryz.prog 18 #[.int .i64 (kind), lv, .bool (present), str (v)] [.imm (.list (.pair .str (.int .i64))) (lv) (l)] (fun _ : Unit => .int .i64 (qualF kind l present v)) (fun _ => []) := by
 refine con_of_J (args := [.int .i64 (kind), lv, .bool (present), str (v)]) (n := 45) Tryz.func18 rfl (Nat.le_of_ble_eq_true rfl) rfl (fun w0 I0 m0 => ?_)
 show J _ [(0, .int .i64 (kind)), (1, lv), (2, .bool (present)), (3, str (v))] [.imm (.list (.pair .str (.int .i64))) (lv) (l)] _
 refine jc_seq (jc_region (jo_pure rfl (pr_assign rfl) (jo_nil (jq_then (jc_seq ?_)))))
 refine jc_seq (jc_region (jo_pure rfl (pr_move rfl) (jo_pure rfl (pr_not rfl) ?_)))
 refine jo_nil (jq_then ?_)
 refine jc_cond rfl (fun h1b => ?_) (fun h1b => ?_)
 ·have h1 := (fun q => id (bt_not q)) h1b
  refine jc_seq (jc_region (jo_pure rfl (pr_assign rfl) (jo_nil (jq_then (jc_ret ?_)))))
  refine jq_then_ret (j_drop ?_)
  exact jq_ret1 rfl () rfl (show (.int .i64 (qualF kind l present v) : Value) = (.int .i64 ((1000 : Nat) : Int)) from congrArg (Value.int .i64) (by rw [qual_no h1]; rfl)) (fun _ h => h)
 ·have h1 := (fun q => id (bf_not q)) h1b
  refine jc_skip (jq_then (jc_seq (jc_region (jo_pure rfl (pr_assign rfl) (jo_pure rfl (pr_assign rfl) ?_)))))
  refine jo_nil (jq_then (jc_seq (jc_seq (jc_region (jo_pure rfl (pr_move rfl) ?_)))))
  refine jo_pure rfl (pr_len_imm rfl (.head _) Tryz.underlying40) ?_
  refine jo_pure rfl (pr_move rfl) (jo_nil (jq_then (jc_block ?_)))
  refine jc_loop3 (fun (i : Nat) (best : Int) (q : Int) => [(0, .int .i64 (kind)), (3, str (v)), (9, .int .i64 (best)), (10, .int .i64 (q)), (16, lv), (17, .int .i64 ((l.length : Nat) : Int)), (18, .int .i64 ((i : Nat) : Int))]) (fun (i : Nat) (best : Int) (q : Int) => [.imm (.list (.pair .str (.int .i64))) (lv) (l)]) (fun (i : Nat) (best : Int) (q : Int) => i ≤ l.length ∧ (best, q) = bestF kind v (l.take i) 0) (fun (i : Nat) (best : Int) (q : Int) => l.length - i) 0 (-1) ((0 : Nat) : Int) (⟨Nat.zero_le _, rfl⟩) (⟨rfl, rfl, rfl, rfl, rfl, rfl, rfl, trivial⟩) (fun _ h => h) (fun i best q hinv => ?_)
  refine jc_seq (jc_region (jo_pure rfl (pr_lssN (m := i) (n := l.length) rfl rfl) ?_))
  refine jo_nil (jq_then (jc_seq ?_))
  refine jc_cond rfl (fun h2b => ?_) (fun h2b => ?_)
  ·have h2 := of_decide_eq_true h2b
   refine jc_skip (jq_then (jc_seq (jc_block (jc_seq (jc_region ?_)))))
   refine jo_pure rfl (pr_idx_imm (i := i) rfl (.head _) rfl Tryz.underlying40 ty_47 (by omega)) ?_
   refine jo_pure rfl (pr_load_elem_imm (i := i) (.agg #[str ((l.getD i ([], 0)).1), .int .i64 ((l.getD i ([], 0)).2)]) rfl (.head _) ty_47 rfl rfl (by omega) rfl) ?_
   refine jo_alloc ty_47 [str ([]), .int .i64 ((0 : Nat) : Int)] rfl rfl (fun b1 => ?_)
   refine jo_store rfl rfl ty_47 [str ((l.getD i ([], 0)).1), .int .i64 ((l.getD i ([], 0)).2)] rfl rfl rfl [str ((l.getD i ([], 0)).1), .int .i64 ((l.getD i ([], 0)).2)] rfl rfl ?_
   refine jo_nil (jq_then (jc_seq (jc_region (jo_pure rfl (pr_move rfl) (jo_pure rfl (pr_fieldAddr 0 rfl Tryz.underlying47 rfl ty_9 rfl rfl) ?_)))))
   refine jo_pure rfl (pr_load_box (str ((l.getD i ([], 0)).1)) rfl ty_9 (.head _) rfl (by decide) rfl) ?_
   refine jo_pure rfl (pr_move rfl) ?_
   refine jo_callp cal_38 (c_accept_Match kind ((l.getD i ([], 0)).1) v (by first | omega | exact hm _ (getD_mem h2) | decide) (by first | omega | exact hm _ (getD_mem h2) | decide)) ⟨rfl, rfl, rfl, trivial⟩ rfl (trivial) (fun _ => ?_)
   refine jo_pure rfl (pr_assign rfl) (jo_nil (jq_then (jc_seq (jc_region (jo_pure rfl (pr_move rfl) ?_)))))
   refine jo_pure rfl (pr_move rfl) (jo_pure rfl (pr_gtr rfl rfl) ?_)
   refine jo_nil (jq_then ?_)
   refine jc_cond rfl (fun h3b => ?_) (fun h3b => ?_)
   ·have h3 := of_decide_eq_true h3b
    refine jc_draws mixed (by kernel_rfl) (jd_pure rfl (pr_move rfl) ?_)
    refine jd_pure rfl (pr_fieldAddr 1 rfl Tryz.underlying47 rfl ty_3 rfl rfl) ?_
    refine jd_pure rfl (pr_load_box (.int .i64 ((l.getD i ([], 0)).2)) rfl ty_3 (.head _) rfl (by decide) rfl) ?_
    refine jd_pure rfl (pr_assign rfl) ?_
    refine jd_pure rfl (pr_assign rfl) ?_
    refine jd_nil ?_
    refine jq_in_normal (jq_then (jc_region (jo_pure rfl (pr_addN (m := i) (n := 1) rfl rfl (by omega)) ?_)))
    refine jo_pure rfl (pr_move rfl) (jo_nil (j_drop ?_))
    refine jq_round' ((i + 1), (matchK kind ((l.getD i ([], 0)).1) v), ((l.getD i ([], 0)).2)) (by (try dsimp only); exact (⟨by omega, best_hit h2 hinv.2 h3⟩)) (by (try dsimp only); exact (by omega)) ⟨rfl, rfl, rfl, rfl, rfl, rfl, rfl, trivial⟩ (fun _ h => h)
   ·have h3 := of_decide_eq_false h3b
    refine jc_skip (jq_in_normal (jq_then (jc_region (jo_pure rfl (pr_addN (m := i) (n := 1) rfl rfl (by omega)) ?_))))
    refine jo_pure rfl (pr_move rfl) (jo_nil (j_drop ?_))
    refine jq_round' ((i + 1), best, q) (by (try dsimp only); exact (⟨by omega, best_miss h2 hinv.2 h3⟩)) (by (try dsimp only); exact (by omega)) ⟨rfl, rfl, rfl, rfl, rfl, rfl, rfl, trivial⟩ (fun _ h => h)
  ·have h2 := of_decide_eq_false h2b
   refine jc_exit ?_
   refine jq_then_exit ?_
   refine jq_then_exit ?_
   refine jq_in_hit ?_
   refine jq_then (jc_seq (jc_seq (jc_region (jo_pure rfl (pr_move rfl) (jo_pure rfl (pr_lss (n := 0) rfl rfl) ?_)))))
   refine jo_pure rfl (pr_move rfl) (jo_gpure (j := 2) (want := true) rfl rfl rfl rfl (fun hg => pr_move rfl) ?_)
   refine jo_gpure (j := 2) (want := true) rfl rfl rfl rfl (fun hg => pr_eql (n := 4) (evg rfl hg) rfl) ?_
   refine jo_pure rfl (pr_pick_and rfl rfl rfl) ?_
   refine jo_pure rfl (pr_move rfl) (jo_gpure (j := 6) (want := true) rfl rfl rfl rfl (fun hg => pr_move rfl) ?_)
   refine jo_gcall (j := 6) (want := true) rfl rfl rfl cal_39 (fun hg => c_ascii_Fold v [105, 100, 101, 110, 116, 105, 116, 121] (by first | omega | exact hm _ (getD_mem h2) | decide) (by first | omega | exact hm _ (getD_mem h2) | decide)) (fun hg => ⟨evg rfl hg, rfl, trivial⟩) rfl (fun _ => trivial) ?_
   refine jo_pure rfl (pr_pick_and rfl rfl rfl) ?_
   refine jo_nil (jq_then ?_)
   refine jc_cond rfl (fun h4b => ?_) (fun h4b => ?_)
   ·have h4 := (fun q => And.imp (fun q => And.imp of_decide_eq_true of_decide_eq_true (bt_and q)) id (bt_and q)) h4b
    refine jc_seq (jc_region (jo_pure rfl (pr_assign rfl) (jo_nil (jq_then (jc_ret ?_)))))
    refine jq_then_ret (j_drop ?_)
    exact jq_ret1 rfl () rfl (show (.int .i64 (qualF kind l present v) : Value) = (.int .i64 ((1 : Nat) : Int)) from congrArg (Value.int .i64) (by rw [qual_one h1 (best_end h2 hinv.2) h4]; rfl)) (fun _ h => h)
   ·have h4 := (fun q => Or.imp (fun q => Or.imp of_decide_eq_false of_decide_eq_false (bf_and q)) id (bf_and q)) h4b
    refine jc_skip (jq_then (jc_seq (jc_region (jo_pure rfl (pr_move rfl) (jo_pure rfl (pr_assign rfl) ?_)))))
    refine jo_nil (jq_then (jc_ret (j_drop ?_)))
    exact jq_ret1 rfl () rfl (show (.int .i64 (qualF kind l present v) : Value) = (.int .i64 (q)) from congrArg (Value.int .i64) (by rw [qual_q h1 (best_end h2 hinv.2) (fun e => h4.elim (fun q => q.elim (fun a => a e.1.1) (fun a => a e.1.2)) (fun q => by have e2 := e.2; rw [show fold v sIdent = false from q] at e2; cases e2))])) (fun _ h => h)

theorem c_rank_Rank (kind : Int) (l : List ((List UInt8) × Int)) (lv : Value) (present : Bool) (vs : List (List UInt8)) (vsv : Value) (hl : l.length ≤ 1000000) (hm : ∀ x ∈ l, x.1.length ≤ 1000000) (hvl : vs.length ≤ 100000) (hvm : ∀ x ∈ vs, x.length ≤ 1000000) : Con Tryz.prog 76 #[.int .i64 (kind), lv, .bool (present), vsv] [.imm (.list (.pair .str (.int .i64))) (lv) (l), .imm (.list .str) (vsv) (vs)] (fun r1 : Value => r1) (fun r1 => [.row r1 9 .str ((rankG kind l present vs).1)]) := by
 refine con_of_J (args := [.int .i64 (kind), lv, .bool (present), vsv]) (n := 55) Tryz.func76 rfl (Nat.le_of_ble_eq_true rfl) rfl (fun w0 I0 m0 => ?_)
 show J _ [(0, .int .i64 (kind)), (1, lv), (2, .bool (present)), (3, vsv)] [.imm (.list (.pair .str (.int .i64))) (lv) (l), .imm (.list .str) (vsv) (vs)] _
 refine jc_seq (jc_region (jo_pure rfl (pr_assign rfl) (jo_nil (jq_then (jc_seq ?_)))))
 refine jc_region (jo_pure rfl (pr_assign rfl) (jo_nil (jq_then (jc_seq (jc_region ?_)))))
 refine jo_pure rfl (pr_assign rfl) (jo_nil (jq_then (jc_seq (jc_seq (jc_region ?_)))))
 refine jo_pure rfl (pr_move rfl) (jo_pure rfl (pr_len_imm rfl (.tail _ (.head _)) Tryz.underlying28) ?_)
 refine jo_pure rfl (pr_move rfl) (jo_nil (jq_then (jc_block (j_nil_row 9 .str ?_))))
 refine j_nil_row 3 (.int .i64) ?_
 refine jc_loop5 (fun (i : Nat) (ov : Value) (out : List (List UInt8)) (qv : Value) (qs : List Int) => [(0, .int .i64 (kind)), (1, lv), (2, .bool (present)), (9, ov), (10, qv), (15, vsv), (16, .int .i64 ((vs.length : Nat) : Int)), (17, .int .i64 ((i : Nat) : Int))]) (fun (i : Nat) (ov : Value) (out : List (List UInt8)) (qv : Value) (qs : List Int) => [.row (qv) 3 (.int .i64) (qs), .row (ov) 9 .str (out), .imm (.list (.pair .str (.int .i64))) (lv) (l), .imm (.list .str) (vsv) (vs)]) (fun (i : Nat) (ov : Value) (out : List (List UInt8)) (qv : Value) (qs : List Int) => i ≤ vs.length ∧ out.length ≤ i ∧ qs.length = out.length ∧ (out, qs) = rankG kind l present (vs.take i)) (fun (i : Nat) (ov : Value) (out : List (List UInt8)) (qv : Value) (qs : List Int) => vs.length - i) 0 (.slice none 0 0) [] (.slice none 0 0) [] (⟨Nat.zero_le _, Nat.le_refl _, rfl, rfl⟩) (⟨rfl, rfl, rfl, rfl, rfl, rfl, rfl, rfl, trivial⟩) (fun _ h => h) (fun i ov out qv qs hinv => ?_)
 refine jc_seq (jc_region (jo_pure rfl (pr_lssN (m := i) (n := vs.length) rfl rfl) ?_))
 refine jo_nil (jq_then (jc_seq ?_))
 refine jc_cond rfl (fun h1b => ?_) (fun h1b => ?_)
 ·have h1 := of_decide_eq_true h1b
  refine jc_skip (jq_then (jc_seq (jc_block (jc_seq (jc_region ?_)))))
  refine jo_pure rfl (pr_idx_imm (i := i) rfl (.tail _ (.tail _ (.tail _ (.head _)))) rfl Tryz.underlying28 ty_9 (by first | omega | (have := of_decide_eq_true (eq_of_beq hg); omega) | (simp at hg; omega))) ?_
  refine jo_pure rfl (pr_load_elem_imm (i := i) (str (vs.getD i [])) rfl (.tail _ (.tail _ (.tail _ (.head _)))) ty_9 rfl rfl (by first | omega | (have := of_decide_eq_true (eq_of_beq hg); omega) | (simp at hg; omega)) rfl) ?_
  refine jo_pure rfl (pr_assign rfl) (jo_nil (jq_then (jc_seq (jc_region (jo_pure rfl (pr_move rfl) ?_)))))
  refine jo_pure rfl (pr_move rfl) (jo_pure rfl (pr_move rfl) (jo_pure rfl (pr_move rfl) ?_))
  refine jo_callp cal_18 (c_rank_Quality kind l lv present (vs.getD i []) (by first | omega | exact hm | exact hvm _ (getD_mem h1)) (by first | omega | exact hm | exact hvm _ (getD_mem h1)) (by first | omega | exact hm | exact hvm _ (getD_mem h1))) ⟨rfl, rfl, rfl, rfl, trivial⟩ rfl (⟨⟨rfl, .tail _ (.tail _ (.head _))⟩, trivial⟩) (fun _ => ?_)
  refine jo_pure rfl (pr_assign rfl) (jo_nil (jq_then (jc_seq (jc_seq (jc_region ?_)))))
  refine jo_pure rfl (pr_move rfl) (jo_pure rfl (pr_leq (n := 0) rfl rfl) ?_)
  refine jo_nil (jq_then ?_)
  refine jc_cond rfl (fun h2b => ?_) (fun h2b => ?_)
  ·have h2 := of_decide_eq_true h2b
   refine jc_exit ?_
   refine jq_then_exit ?_
   refine jq_in_hit ?_
   refine jq_then (jc_region (jo_pure rfl (pr_addN (m := i) (n := 1) rfl rfl (by omega)) ?_))
   refine jo_pure rfl (pr_move rfl) (jo_nil (j_pull3 (j_pull3 (j_pull3 (j_pull3 ?_)))))
   refine jq_round' ((i + 1), ov, out, qv, qs) (by (try dsimp only); exact (⟨by omega, by omega, hinv.2.2.1, rank_skip h1 hinv.2.2.2 h2⟩)) (by (try dsimp only); exact (by omega)) ⟨rfl, rfl, rfl, rfl, rfl, rfl, rfl, rfl, trivial⟩ (fun _ h => h)
  ·have h2 := of_decide_eq_false h2b
   refine jc_skip (jq_then (jc_seq (jc_region (jo_pure rfl (pr_move rfl) (jo_pure rfl (pr_len_row rfl (.head _) Tryz.underlying110) ?_)))))
   refine jo_pure rfl (pr_assign rfl) (jo_nil (jq_then (jc_seq (jc_block ?_))))
   refine jc_loop (fun (k : Nat) => [(0, .int .i64 (kind)), (1, lv), (2, .bool (present)), (9, ov), (10, qv), (12, str (vs.getD i [])), (13, .int .i64 (qualF kind l present (vs.getD i []))), (14, .int .i64 ((k : Nat) : Int)), (15, vsv), (16, .int .i64 ((vs.length : Nat) : Int)), (17, .int .i64 ((i : Nat) : Int))]) (fun (k : Nat) => [.row (qv) 3 (.int .i64) (qs), .row (ov) 9 .str (out), .imm (.list (.pair .str (.int .i64))) (lv) (l), .imm (.list .str) (vsv) (vs)]) (fun (k : Nat) => k ≤ qs.length ∧ insPos (qs.take k) (qualF kind l present (vs.getD i [])) = insPos qs (qualF kind l present (vs.getD i []))) (fun (k : Nat) => k) qs.length (⟨Nat.le_refl _, by rw [List.take_length]⟩) (⟨rfl, rfl, rfl, rfl, rfl, rfl, rfl, rfl, rfl, rfl, rfl, trivial⟩) (fun _ h => h) (fun k hink => ?_)
   refine jc_seq (jc_seq (jc_region (jo_pure rfl (pr_move rfl) (jo_pure rfl (pr_gtrN (m := k) (n := 0) rfl rfl) ?_))))
   refine jo_pure rfl (pr_move rfl) (jo_gpure (j := 2) (want := true) rfl rfl rfl rfl (fun hg => pr_move rfl) ?_)
   refine jo_gpure (j := 2) (want := true) rfl rfl rfl rfl (fun hg => pr_move rfl) ?_
   refine jo_gpure (j := 2) (want := true) rfl rfl rfl rfl (fun hg => pr_subN (m := k) (n := 1) (evg rfl hg) rfl (by first | omega | (have := of_decide_eq_true (eq_of_beq hg); omega) | (simp at hg; omega)) (by first | omega | (have := of_decide_eq_true (eq_of_beq hg); omega) | (simp at hg; omega))) ?_
   refine jo_gpure (j := 2) (want := true) rfl rfl rfl rfl (fun hg => pr_idx_row (i := k - 1) (evg rfl hg) (.head _) (evg rfl hg) Tryz.underlying110 ty_3 (by first | omega | (have := of_decide_eq_true (eq_of_beq hg); omega) | (simp at hg; omega))) ?_
   refine jo_gpure (j := 2) (want := true) rfl rfl rfl rfl (fun hg => pr_load_elem_row (i := k - 1) (.int .i64 (qs.getD (k - 1) 0)) (evg rfl hg) (.head _) ty_3 rfl rfl (by first | omega | (have := of_decide_eq_true (eq_of_beq hg); omega) | (simp at hg; omega)) rfl) ?_
   refine jo_gpure (j := 2) (want := true) rfl rfl rfl rfl (fun hg => pr_move rfl) ?_
   refine jo_gpure (j := 2) (want := true) rfl rfl rfl rfl (fun hg => pr_lss (evg rfl hg) (evg rfl hg)) ?_
   refine jo_pure rfl (pr_pick_and rfl rfl rfl) ?_
   refine jo_nil (jq_then ?_)
   refine jc_cond rfl (fun h3b => ?_) (fun h3b => ?_)
   ·have h3 := (fun q => And.imp of_decide_eq_true of_decide_eq_true (bt_and q)) h3b
    refine jc_skip (jq_then (jc_block (jc_region (jo_pure rfl (pr_move rfl) (jo_pure rfl (pr_subN (m := k) (n := 1) rfl rfl (by first | omega | (have := of_decide_eq_true (eq_of_beq hg); omega) | (simp at hg; omega)) (by first | omega | (have := of_decide_eq_true (eq_of_beq hg); omega) | (simp at hg; omega))) ?_)))))
    refine jo_pure rfl (pr_assign rfl) (jo_nil (jq_in_normal (j_pull3 (j_pull3 (j_pull3 ?_)))))
    refine j_pull3 ?_
    refine jq_round' (k - 1) (by (try dsimp only); exact (⟨by omega, (insPos_back h3.1 hink.1 h3.2).trans hink.2⟩)) (by (try dsimp only); exact (by omega)) ⟨rfl, rfl, rfl, rfl, rfl, rfl, rfl, rfl, rfl, rfl, rfl, trivial⟩ (fun _ h => h)
   ·have h3 := (fun q => Or.imp of_decide_eq_false of_decide_eq_false (bf_and q)) h3b
    refine jc_exit ?_
    refine jq_then_exit ?_
    refine jq_then_exit ?_
    refine jq_in_hit ?_
    refine jq_then (jc_region (jo_pure rfl (pr_move rfl) (jo_pure rfl (pr_move rfl) (jo_pure rfl (pr_move rfl) ?_))))
    refine jo_buildSlice (t := .str) [vs.getD i []] [str (vs.getD i [])] (fun a hf => by simp only [List.zipIdx_cons, List.zipIdx_nil, List.map_toArray, List.map_cons, List.map_nil, hf.ev (show ev _ (.tmp 45) = some (str (vs.getD i [])) from rfl)] <;> rfl) rfl Tryz.underlying28 ty_9 rfl rfl rfl rfl rfl (fun g1 => ?_)
    refine j_pull2 ?_
    refine jo_callm [.row (qv) 3 (.int .i64) (qs), .imm (.list (.pair .str (.int .i64))) (lv) (l), .imm (.list .str) (vsv) (vs)] rfl cal_105 (c_insert_str out ov (vs.getD i []) k g1 (by omega) (by omega)) ⟨rfl, rfl, rfl, trivial⟩ rfl (fun r1 => ?_)
    show J _ _ [.row (r1) 9 .str (out.take k ++ [vs.getD i []] ++ out.drop k), .row (qv) 3 (.int .i64) (qs), .imm (.list (.pair .str (.int .i64))) (lv) (l), .imm (.list .str) (vsv) (vs)] _
    refine jo_pure rfl (pr_move rfl) (jo_pure rfl (pr_move rfl) (jo_pure rfl (pr_move rfl) ?_))
    refine jo_buildSlice (t := (.int .i64)) [qualF kind l present (vs.getD i [])] [.int .i64 (qualF kind l present (vs.getD i []))] (fun a hf => by simp only [List.zipIdx_cons, List.zipIdx_nil, List.map_toArray, List.map_cons, List.map_nil, hf.ev (show ev _ (.tmp 50) = some (.int .i64 (qualF kind l present (vs.getD i []))) from rfl)] <;> rfl) rfl Tryz.underlying110 ty_3 rfl rfl rfl rfl rfl (fun g2 => ?_)
    refine j_pull2 ?_
    refine jo_callm [.row (r1) 9 .str (out.take k ++ [vs.getD i []] ++ out.drop k), .imm (.list (.pair .str (.int .i64))) (lv) (l), .imm (.list .str) (vsv) (vs)] rfl cal_106 (c_insert_int qs qv (qualF kind l present (vs.getD i [])) k g2 (by omega) (by omega)) ⟨rfl, rfl, rfl, trivial⟩ rfl (fun r2 => ?_)
    show J _ _ [.row (r2) 3 (.int .i64) (qs.take k ++ [qualF kind l present (vs.getD i [])] ++ qs.drop k), .row (r1) 9 .str (out.take k ++ [vs.getD i []] ++ out.drop k), .imm (.list (.pair .str (.int .i64))) (lv) (l), .imm (.list .str) (vsv) (vs)] _
    refine jo_pure rfl (pr_assign rfl) (jo_pure rfl (pr_assign rfl) (jo_nil (jq_in_normal (jq_then (jc_region ?_)))))
    refine jo_pure rfl (pr_addN (m := i) (n := 1) rfl rfl (by omega)) ?_
    refine jo_pure rfl (pr_move rfl) (jo_nil (j_pull3 (j_pull3 (j_pull3 (j_pull3 ?_)))))
    refine jq_round' ((i + 1), r1, (out.take k ++ [vs.getD i []] ++ out.drop k), r2, (qs.take k ++ [qualF kind l present (vs.getD i [])] ++ qs.drop k)) (by (try dsimp only); exact (⟨by omega, by simp only [List.length_append, List.length_take, List.length_drop, List.length_cons, List.length_nil]; omega, by simp only [List.length_append, List.length_take, List.length_drop, List.length_cons, List.length_nil]; omega, rank_put h1 hinv.2.2.2 h2 (by rw [← hink.2]; exact insPos_stop hink.1 h3)⟩)) (by (try dsimp only); exact (by omega)) ⟨rfl, rfl, rfl, rfl, rfl, rfl, rfl, rfl, trivial⟩ (fun _ h => h)
 ·have h1 := of_decide_eq_false h1b
  refine jc_exit ?_
  refine jq_then_exit ?_
  refine jq_then_exit ?_
  refine jq_in_hit ?_
  refine jq_then (jc_seq (jc_region (jo_pure rfl (pr_move rfl) (jo_pure rfl (pr_assign rfl) (jo_nil ?_)))))
  refine jq_then (jc_ret (j_drop (j_pull1 (j_drop (j_pull1 ?_)))))
  refine j_drop ?_
  exact jq_ret1 rfl ov rfl (show (ov : Value) = (ov) from rfl) (fun _ h => by rw [rank_end h1 hinv.2.2.2] at h; exact h)

theorem c_keep_Strings (l : List (List UInt8)) (lv : Value) (hl : l.length ≤ 9223372036854775807) : Con Tryz.prog 11 #[lv] [.imm (.list .str) (lv) (l)] (fun _ : Unit => .bool (keepS l)) (fun _ => []) := by
 refine con_of_J (args := [lv]) (n := 23) Tryz.func11 rfl (Nat.le_of_ble_eq_true rfl) rfl (fun w0 I0 m0 => ?_)
 show J _ [(0, lv)] [.imm (.list .str) (lv) (l)] _
 refine jc_seq (jc_region (jo_pure rfl (pr_assign rfl) (jo_nil (jq_then (jc_seq ?_)))))
 refine jc_seq (jc_region (jo_pure rfl (pr_assign rfl) (jo_nil (jq_then (jc_block ?_)))))
 refine jc_loop (fun (i : Nat) => [(0, lv), (3, .int .i64 ((i : Nat) : Int))]) (fun (i : Nat) => [.imm (.list .str) (lv) (l)]) (fun (i : Nat) => i ≤ 21 ∧ (l.take i).all okS = true) (fun (i : Nat) => 21 - i) 0 (⟨Nat.zero_le _, rfl⟩) (⟨rfl, rfl, trivial⟩) (fun _ h => h) (fun i hinv => ?_)
 refine jc_seq (jc_seq (jc_region (jo_pure rfl (pr_move rfl) (jo_pure rfl (pr_move rfl) (jo_pure rfl (pr_len_imm rfl (.head _) Tryz.underlying28) ?_)))))
 refine jo_pure rfl (pr_lssN (m := i) (n := l.length) rfl rfl) ?_
 refine jo_pure rfl (pr_move rfl) (jo_gpure (j := 4) (want := true) rfl rfl rfl rfl (fun hg => pr_move rfl) ?_)
 refine jo_gpure (j := 4) (want := true) rfl rfl rfl rfl (fun hg => pr_lssN (m := i) (n := 21) (evg rfl hg) rfl) ?_
 refine jo_pure rfl (pr_pick_and rfl rfl rfl) ?_
 refine jo_nil (jq_then ?_)
 refine jc_cond rfl (fun h1b => ?_) (fun h1b => ?_)
 ·have h1 := (fun q => And.imp of_decide_eq_true of_decide_eq_true (bt_and q)) h1b
  refine jc_skip (jq_then (jc_seq (jc_block (jc_seq (jc_region ?_)))))
  refine jo_pure rfl (pr_move rfl) (jo_pure rfl (pr_move rfl) (jo_pure rfl (pr_idx_imm (i := i) rfl (.head _) rfl Tryz.underlying28 ty_9 (by omega)) ?_))
  refine jo_pure rfl (pr_load_elem_imm (i := i) (str (l.getD i [])) rfl (.head _) ty_9 rfl rfl (by omega) rfl) ?_
  refine jo_pure rfl (pr_slen rfl Tryz.underlying9) ?_
  refine jo_pure rfl (pr_gtrN (m := (l.getD i []).length) (n := 100) rfl rfl) ?_
  refine jo_nil (jq_then ?_)
  refine jc_cond rfl (fun h2b => ?_) (fun h2b => ?_)
  ·have h2 := of_decide_eq_true h2b
   refine jc_seq (jc_region (jo_pure rfl (pr_assign rfl) (jo_nil (jq_then (jc_ret ?_)))))
   refine jq_in_ret ?_
   refine jq_then_ret (jq_then_ret (jq_in_ret ?_))
   refine jq_then_ret (j_drop ?_)
   exact jq_ret1 rfl () rfl (show (.bool (keepS l) : Value) = (.bool (false)) from congrArg Value.bool (by rw [keepS, keep_miss (dd := []) h1.2 h1.1 (by unfold okS; rw [h2b]; rfl)]; rfl)) (fun _ h => h)
  ·have h2 := of_decide_eq_false h2b
   refine jc_skip (jq_in_normal (jq_then (jc_region (jo_pure rfl (pr_move rfl) (jo_pure rfl (pr_addN (m := i) (n := 1) rfl rfl (by omega)) ?_)))))
   refine jo_pure rfl (pr_assign rfl) (jo_nil ?_)
   refine jq_round' (i + 1) (by (try dsimp only); exact (⟨by omega, all_step (dd := []) h1.1 hinv.2 (by unfold okS; rw [h2b]; rfl)⟩)) (by (try dsimp only); exact (by omega)) ⟨rfl, rfl, trivial⟩ (fun _ h => h)
 ·have h1 := (fun q => Or.imp of_decide_eq_false of_decide_eq_false (bf_and q)) h1b
  refine jc_exit ?_
  refine jq_then_exit ?_
  refine jq_then_exit ?_
  refine jq_in_hit ?_
  refine jq_then (jc_seq (jc_region (jo_pure rfl (pr_move rfl) (jo_pure rfl (pr_len_imm rfl (.head _) Tryz.underlying28) ?_))))
  refine jo_pure rfl (pr_leqN (m := l.length) (n := 20) rfl rfl) ?_
  refine jo_pure rfl (pr_assign rfl) (jo_nil (jq_then (jc_ret (j_drop ?_))))
  exact jq_ret1 rfl () rfl (show (.bool (keepS l) : Value) = (.bool (decide ((l.length : Nat) ≤ 20))) from congrArg Value.bool (by rw [keepS, keep_end hinv.1 h1 hinv.2]; rfl)) (fun _ h => h)
end Go.Proofs.YtjbcomdljmfgjabGreatDoor
