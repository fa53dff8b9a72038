/-
  Contracts of functions of the program: each returns what a plain function says, for every input within the bounds named. Conditions: the bounds.
-/
import Derived.Test.YtikllmfjgpmcnaaDoorRows
import Derived.Test.YtikllmfjgpmcnaaDoorL16
import Derived.Test.YtikllmfjgpmcnaaDoorLaw14C
namespace Go.Proofs.YtikllmfjgpmcnaaDoor
open Go Go.Sep
set_option linter.unusedSimpArgs false
set_option linter.unusedVariables false

open Go.Plain

theorem cal_23 : Cal Tryd.prog 23 := cal_of Tryd.func23 (by kernel_rfl) rfl

theorem c_law14_RankSorted (kind : Int) (l : List ((List UInt8) × Int)) (lv : Value) (present : Bool) (vs : List (List UInt8)) (vsv : Value) (hl : l.length ≤ 9223372036854775807) (hvl : vs.length ≤ 9223372036854775807) : Con Tryd.prog 6 #[.int .i64 (kind), lv, .bool (present), vsv] [.imm (.list (.pair .str (.int .i64))) (lv) (l), .imm (.list .str) (vsv) (vs)] (fun _ : Unit => .bool (true)) (fun _ => []) := by
  refine con_of_J (args := [.int .i64 (kind), lv, .bool (present), vsv]) (n := 98) Tryd.func6 rfl (Nat.le_of_ble_eq_true rfl) rfl (fun w0 I0 m0 => ?_)
  show J _ [(0, .int .i64 (kind)), (1, lv), (2, .bool (present)), (3, vsv)] [.imm (.list (.pair .str (.int .i64))) (lv) (l), .imm (.list .str) (vsv) (vs)] _
  refine jc_seq ?_
  refine jc_region ?_
  refine jo_pure rfl (pr_assign rfl) ?_
  refine jo_nil ?_
  refine jq_then ?_
  refine jc_seq ?_
  refine jc_seq ?_
  refine jc_region ?_
  refine jo_pure rfl (pr_move rfl) ?_
  refine jo_callp cal_19 (c_keep_Prefs l lv (by first | omega | exact hml | exact hmv | exact hmv _ (getD_mem h2) | exact hmv _ (getD_mem h4))) ⟨rfl, trivial⟩ rfl (⟨⟨rfl, .head _⟩, trivial⟩) (fun _ => ?_)
  refine jo_pure rfl (pr_not rfl) ?_
  refine jo_pure rfl (pr_move rfl) ?_
  refine jo_gpure (j := 3) (want := false) rfl rfl rfl rfl (fun hg => pr_move rfl) ?_
  refine jo_gcall (j := 3) (want := false) rfl rfl rfl cal_23 (fun hg => c_keep_Strings vs vsv (by first | omega | exact hml | exact hmv | exact hmv _ (getD_mem h2) | exact hmv _ (getD_mem h4))) (fun hg => ⟨evg rfl hg, trivial⟩) rfl (fun _ => ⟨⟨rfl, .tail _ (.head _)⟩, trivial⟩) ?_
  refine jo_gpure (j := 3) (want := false) rfl rfl rfl rfl (fun hg => pr_not (evg rfl hg)) ?_
  refine jo_pure rfl (pr_pick_or rfl rfl rfl) ?_
  refine jo_nil ?_
  refine jq_then ?_
  refine jc_cond rfl (fun h1b => ?_) (fun h1b => ?_)
  · have h1 := (fun q => Or.imp (fun q => id (bt_not q)) (fun q => id (bt_not q)) (bt_or q)) h1b
    refine jc_seq ?_
    refine jc_region ?_
    refine jo_pure rfl (pr_assign rfl) ?_
    refine jo_nil ?_
    refine jq_then ?_
    refine jc_ret ?_
    refine jq_then_ret ?_
    refine j_drop ?_
    refine j_drop ?_
    exact jq_ret1 rfl () rfl (show (.bool (true) : Value) = (.bool (true)) from rfl) (fun _ h => h)
  · have h1 := (fun q => And.imp (fun q => id (bf_not q)) (fun q => id (bf_not q)) (bf_or q)) h1b
    have hkeep : keepR l = true := h1.1
    have hks : keepS vs = true := h1.2
    have hlen := keepR_len hkeep
    have hvn := keepS_len hks
    have hml : ∀ x ∈ l, x.1.length ≤ 1000000 := fun x hx => by have := keepR_mem hkeep x hx; omega
    have hmv : ∀ x ∈ vs, x.length ≤ 1000000 := fun x hx => by have := keepS_mem hks x hx; omega
    refine jc_skip ?_
    refine jq_then ?_
    refine jc_seq ?_
    refine jc_region ?_
    refine jo_pure rfl (pr_move rfl) ?_
    refine jo_pure rfl (pr_move rfl) ?_
    refine jo_pure rfl (pr_move rfl) ?_
    refine jo_pure rfl (pr_move rfl) ?_
    refine jo_callp cal_24 (c_rank_Rank kind l lv present vs vsv (by first | omega | exact hml | exact hmv | exact hmv _ (getD_mem h2) | exact hmv _ (getD_mem h4)) (by first | omega | exact hml | exact hmv | exact hmv _ (getD_mem h2) | exact hmv _ (getD_mem h4)) (by first | omega | exact hml | exact hmv | exact hmv _ (getD_mem h2) | exact hmv _ (getD_mem h4)) (by first | omega | exact hml | exact hmv | exact hmv _ (getD_mem h2) | exact hmv _ (getD_mem h4))) ⟨rfl, rfl, rfl, rfl, trivial⟩ rfl (⟨⟨rfl, .head _⟩, ⟨⟨rfl, .tail _ (.head _)⟩, trivial⟩⟩) (fun r1 => ?_)
    show J _ _ [.row (r1) 9 .str ((rankG kind l present vs).1), .imm (.list (.pair .str (.int .i64))) (lv) (l), .imm (.list .str) (vsv) (vs)] _
    refine jo_pure rfl (pr_assign rfl) ?_
    refine jo_nil ?_
    refine jq_then ?_
    refine jc_seq ?_
    refine j_pub_row ?_
    refine jc_region ?_
    refine jo_pure rfl (pr_assign rfl) ?_
    refine jo_nil ?_
    refine jq_then ?_
    refine jc_seq ?_
    refine jc_seq ?_
    refine jc_region ?_
    refine jo_pure rfl (pr_assign rfl) ?_
    refine jo_nil ?_
    refine jq_then ?_
    refine jc_block ?_
    refine jc_loop2 (fun (i : Nat) (n : Nat) => [(0, .int .i64 (kind)), (1, lv), (2, .bool (present)), (3, vsv), (9, r1), (10, .int .i64 ((n : Nat) : Int)), (11, .int .i64 ((i : Nat) : Int))]) (fun (i : Nat) (n : Nat) => [.imm (.list .str) (r1) ((rankG kind l present vs).1), .imm (.list (.pair .str (.int .i64))) (lv) (l), .imm (.list .str) (vsv) (vs)]) (fun (i : Nat) (n : Nat) => i ≤ vs.length ∧ n ≤ i ∧ n = (List.range i).countP (fun j => decide (0 < qAtV kind l present vs j))) (fun (i : Nat) (n : Nat) => vs.length - i) 0 0 (⟨Nat.zero_le _, Nat.le_refl _, rfl⟩) (⟨rfl, rfl, rfl, rfl, rfl, rfl, rfl, trivial⟩) (fun _ h => h) (fun i n hinv => ?_)
    refine jc_seq ?_
    refine jc_seq ?_
    refine jc_region ?_
    refine jo_pure rfl (pr_move rfl) ?_
    refine jo_pure rfl (pr_move rfl) ?_
    refine jo_pure rfl (pr_len_imm rfl (.tail _ (.tail _ (.head _))) Tryd.underlying22) ?_
    refine jo_pure rfl (pr_lssN (m := i) (n := vs.length) rfl rfl) ?_
    refine jo_nil ?_
    refine jq_then ?_
    refine jc_cond rfl (fun h2b => ?_) (fun h2b => ?_)
    · have h2 := of_decide_eq_true h2b
      refine jc_skip ?_
      refine jq_then ?_
      refine jc_seq ?_
      refine jc_block ?_
      refine jc_seq ?_
      refine jc_region ?_
      refine jo_pure rfl (pr_move rfl) ?_
      refine jo_pure rfl (pr_move rfl) ?_
      refine jo_pure rfl (pr_move rfl) ?_
      refine jo_pure rfl (pr_move rfl) ?_
      refine jo_pure rfl (pr_move rfl) ?_
      refine jo_pure rfl (pr_idx_imm (i := i) rfl (.tail _ (.tail _ (.head _))) rfl Tryd.underlying22 ty_9 (by first | omega | (simp at hg; omega))) ?_
      refine jo_pure rfl (pr_load_elem_imm (i := i) (str (vs.getD i [])) rfl (.tail _ (.tail _ (.head _))) ty_9 rfl rfl (by first | omega | (simp at hg; omega)) rfl) ?_
      refine jo_callp cal_20 (c_rank_Quality kind l lv present (vs.getD i []) (by first | omega | exact hml | exact hmv | exact hmv _ (getD_mem h2) | exact hmv _ (getD_mem h4)) (by first | omega | exact hml | exact hmv | exact hmv _ (getD_mem h2) | exact hmv _ (getD_mem h4)) (by first | omega | exact hml | exact hmv | exact hmv _ (getD_mem h2) | exact hmv _ (getD_mem h4))) ⟨rfl, rfl, rfl, rfl, trivial⟩ rfl (⟨⟨rfl, .tail _ (.head _)⟩, trivial⟩) (fun _ => ?_)
      refine jo_pure rfl (pr_assign rfl) ?_
      refine jo_nil ?_
      refine jq_then ?_
      refine jc_seq ?_
      refine jc_seq ?_
      refine jc_region ?_
      refine jo_pure rfl (pr_move rfl) ?_
      refine jo_pure rfl (pr_leq (n := 0) rfl rfl) ?_
      refine jo_nil ?_
      refine jq_then ?_
      refine jc_cond rfl (fun h3b => ?_) (fun h3b => ?_)
      · have h3 := of_decide_eq_true h3b
        refine jc_exit ?_
        refine jq_then_exit ?_
        refine jq_in_hit ?_
        refine jq_then ?_
        refine jc_region ?_
        refine jo_pure rfl (pr_move rfl) ?_
        refine jo_pure rfl (pr_addN (m := i) (n := 1) rfl rfl (by omega)) ?_
        refine jo_pure rfl (pr_assign rfl) ?_
        refine jo_nil ?_
        refine j_pull2 ?_
        refine j_pull2 ?_
        refine j_pull2 ?_
        refine jq_round' ((i + 1), n) (by (try dsimp only); exact (⟨by omega, by omega, by rw [List.range_succ, List.countP_append, List.countP_singleton, if_neg (by have h9 : qAtV kind l present vs i ≤ 0 := h3; simp; omega), Nat.add_zero]; exact hinv.2.2⟩)) (by (try dsimp only); exact (by omega)) ⟨rfl, rfl, rfl, rfl, rfl, rfl, rfl, trivial⟩ (fun _ h => h)
      · have h3 := of_decide_eq_false h3b
        refine jc_skip ?_
        refine jq_then ?_
        refine jc_seq ?_
        refine jc_region ?_
        refine jo_pure rfl (pr_assign rfl) ?_
        refine jo_nil ?_
        refine jq_then ?_
        refine jc_seq ?_
        refine jc_seq ?_
        refine jc_region ?_
        refine jo_pure rfl (pr_assign rfl) ?_
        refine jo_nil ?_
        refine jq_then ?_
        refine jc_block ?_
        refine jc_loop2 (fun (k : Nat) (at_ : Nat) => [(0, .int .i64 (kind)), (1, lv), (2, .bool (present)), (3, vsv), (9, r1), (10, .int .i64 ((n : Nat) : Int)), (11, .int .i64 ((i : Nat) : Int)), (12, .int .i64 (qualF kind l present (vs.getD i []))), (13, .int .i64 ((at_ : Nat) : Int)), (14, .int .i64 ((k : Nat) : Int))]) (fun (k : Nat) (at_ : Nat) => [.imm (.list .str) (r1) ((rankG kind l present vs).1), .imm (.list (.pair .str (.int .i64))) (lv) (l), .imm (.list .str) (vsv) (vs)]) (fun (k : Nat) (at_ : Nat) => k ≤ vs.length ∧ at_ = cntI kind l present vs i k ∧ at_ ≤ k) (fun (k : Nat) (at_ : Nat) => vs.length - k) 0 0 (⟨Nat.zero_le _, rfl, Nat.le_refl _⟩) (⟨rfl, rfl, rfl, rfl, rfl, rfl, rfl, rfl, rfl, rfl, trivial⟩) (fun _ h => h) (fun k at_ hink => ?_)
        refine jc_seq ?_
        refine jc_seq ?_
        refine jc_region ?_
        refine jo_pure rfl (pr_move rfl) ?_
        refine jo_pure rfl (pr_move rfl) ?_
        refine jo_pure rfl (pr_len_imm rfl (.tail _ (.tail _ (.head _))) Tryd.underlying22) ?_
        refine jo_pure rfl (pr_lssN (m := k) (n := vs.length) rfl rfl) ?_
        refine jo_nil ?_
        refine jq_then ?_
        refine jc_cond rfl (fun h4b => ?_) (fun h4b => ?_)
        · have h4 := of_decide_eq_true h4b
          refine jc_skip ?_
          refine jq_then ?_
          refine jc_seq ?_
          refine jc_block ?_
          refine jc_seq ?_
          refine jc_region ?_
          refine jo_pure rfl (pr_move rfl) ?_
          refine jo_pure rfl (pr_move rfl) ?_
          refine jo_pure rfl (pr_move rfl) ?_
          refine jo_pure rfl (pr_move rfl) ?_
          refine jo_pure rfl (pr_move rfl) ?_
          refine jo_pure rfl (pr_idx_imm (i := k) rfl (.tail _ (.tail _ (.head _))) rfl Tryd.underlying22 ty_9 (by first | omega | (simp at hg; omega))) ?_
          refine jo_pure rfl (pr_load_elem_imm (i := k) (str (vs.getD k [])) rfl (.tail _ (.tail _ (.head _))) ty_9 rfl rfl (by first | omega | (simp at hg; omega)) rfl) ?_
          refine jo_callp cal_20 (c_rank_Quality kind l lv present (vs.getD k []) (by first | omega | exact hml | exact hmv | exact hmv _ (getD_mem h2) | exact hmv _ (getD_mem h4)) (by first | omega | exact hml | exact hmv | exact hmv _ (getD_mem h2) | exact hmv _ (getD_mem h4)) (by first | omega | exact hml | exact hmv | exact hmv _ (getD_mem h2) | exact hmv _ (getD_mem h4))) ⟨rfl, rfl, rfl, rfl, trivial⟩ rfl (⟨⟨rfl, .tail _ (.head _)⟩, trivial⟩) (fun _ => ?_)
          refine jo_pure rfl (pr_assign rfl) ?_
          refine jo_nil ?_
          refine jq_then ?_
          refine jc_seq ?_
          refine jc_region ?_
          refine jo_pure rfl (pr_move rfl) ?_
          refine jo_pure rfl (pr_move rfl) ?_
          refine jo_pure rfl (pr_gtr rfl rfl) ?_
          refine jo_pure rfl (pr_move rfl) ?_
          refine jo_gpure (j := 3) (want := false) rfl rfl rfl rfl (fun hg => pr_move rfl) ?_
          refine jo_gpure (j := 3) (want := false) rfl rfl rfl rfl (fun hg => pr_move rfl) ?_
          refine jo_gpure (j := 3) (want := false) rfl rfl rfl rfl (fun hg => pr_eql (evg rfl hg) (evg rfl hg)) ?_
          refine jo_gpure (j := 3) (want := false) rfl rfl rfl rfl (fun hg => pr_move (evg rfl hg)) ?_
          refine jo_gpure2 (j := 7) (want := true) rfl rfl rfl rfl (fun hg => pr_move rfl) ?_
          refine jo_gpure2 (j := 7) (want := true) rfl rfl rfl rfl (fun hg => pr_move rfl) ?_
          refine jo_gpure2 (j := 7) (want := true) rfl rfl rfl rfl (fun hg => pr_lssN (m := k) (n := i) (evg rfl hg) (evg rfl hg)) ?_
          refine jo_gpure (j := 3) (want := false) rfl rfl rfl rfl (fun hg => pr_pick_and (evg rfl hg) (evg2 rfl hg) rfl) ?_
          refine jo_pure rfl (pr_pick_or rfl rfl rfl) ?_
          refine jo_nil ?_
          refine jq_then ?_
          refine jc_cond rfl (fun h5b => ?_) (fun h5b => ?_)
          · have h5 := (fun q => Or.imp of_decide_eq_true (fun q => And.imp of_decide_eq_true of_decide_eq_true (bt_and q)) (bt_or q)) h5b
            refine jc_region ?_
            refine jo_pure rfl (pr_move rfl) ?_
            refine jo_pure rfl (pr_addN (m := at_) (n := 1) rfl rfl (by omega)) ?_
            refine jo_pure rfl (pr_assign rfl) ?_
            refine jo_nil ?_
            refine jq_in_normal ?_
            refine jq_then ?_
            refine jc_region ?_
            refine jo_pure rfl (pr_move rfl) ?_
            refine jo_pure rfl (pr_addN (m := k) (n := 1) rfl rfl (by omega)) ?_
            refine jo_pure rfl (pr_assign rfl) ?_
            refine jo_nil ?_
            refine j_pull2 ?_
            refine j_pull2 ?_
            refine j_pull2 ?_
            refine jq_round' ((k + 1), (at_ + 1)) (by (try dsimp only); exact (⟨by omega, by rw [cnt_step, if_pos (show betB kind l present vs i k = true from h5b), hink.2.1], by omega⟩)) (by (try dsimp only); exact (by omega)) ⟨rfl, rfl, rfl, rfl, rfl, rfl, rfl, rfl, rfl, rfl, trivial⟩ (fun _ h => h)
          · have h5 := (fun q => And.imp of_decide_eq_false (fun q => Or.imp of_decide_eq_false of_decide_eq_false (bf_and q)) (bf_or q)) h5b
            refine jc_skip ?_
            refine jq_in_normal ?_
            refine jq_then ?_
            refine jc_region ?_
            refine jo_pure rfl (pr_move rfl) ?_
            refine jo_pure rfl (pr_addN (m := k) (n := 1) rfl rfl (by omega)) ?_
            refine jo_pure rfl (pr_assign rfl) ?_
            refine jo_nil ?_
            refine j_pull2 ?_
            refine j_pull2 ?_
            refine j_pull2 ?_
            refine jq_round' ((k + 1), at_) (by (try dsimp only); exact (⟨by omega, by rw [cnt_step, if_neg (by rw [show betB kind l present vs i k = false from h5b]; simp), Nat.add_zero, hink.2.1], by omega⟩)) (by (try dsimp only); exact (by omega)) ⟨rfl, rfl, rfl, rfl, rfl, rfl, rfl, rfl, rfl, rfl, trivial⟩ (fun _ h => h)
        · have h4 := of_decide_eq_false h4b
          refine jc_exit ?_
          refine jq_then_exit ?_
          refine jq_then_exit ?_
          refine jq_in_hit ?_
          refine jq_then ?_
          refine jc_seq ?_
          refine jc_seq ?_
          refine jc_draws mixed (by kernel_rfl) ?_
          refine jd_pure rfl (pr_move rfl) ?_
          refine jd_pure rfl (pr_move rfl) ?_
          refine jd_pure rfl (pr_len_imm rfl (.head _) Tryd.underlying22) ?_
          refine jd_pure rfl (pr_geqN (m := at_) (n := ((rankG kind l present vs).1).length) rfl rfl) ?_
          refine jd_pure rfl (pr_move rfl) ?_
          refine jd_gpure (j := 4) (want := false) rfl rfl rfl rfl (fun hg => pr_move rfl) ?_
          refine jd_gpure (j := 4) (want := false) rfl rfl rfl rfl (fun hg => pr_move rfl) ?_
          refine jd_gpure (j := 4) (want := false) rfl rfl rfl rfl (fun hg => pr_idx_imm (i := at_) (evg rfl hg) (.head _) (evg rfl hg) Tryd.underlying22 ty_9 (by first | omega | (simp at hg; omega))) ?_
          refine jd_gpure (j := 4) (want := false) rfl rfl rfl rfl (fun hg => pr_load_elem_imm (i := at_) (str (((rankG kind l present vs).1).getD at_ [])) (evg rfl hg) (.head _) ty_9 rfl rfl (by first | omega | (simp at hg; omega)) rfl) ?_
          refine jd_gpure (j := 4) (want := false) rfl rfl rfl rfl (fun hg => pr_move rfl) ?_
          refine jd_gpure (j := 4) (want := false) rfl rfl rfl rfl (fun hg => pr_move rfl) ?_
          refine jd_gpure (j := 4) (want := false) rfl rfl rfl rfl (fun hg => pr_idx_imm (i := i) (evg rfl hg) (.tail _ (.tail _ (.head _))) (evg rfl hg) Tryd.underlying22 ty_9 (by first | omega | (simp at hg; omega))) ?_
          refine jd_gpure (j := 4) (want := false) rfl rfl rfl rfl (fun hg => pr_load_elem_imm (i := i) (str (vs.getD i [])) (evg rfl hg) (.tail _ (.tail _ (.head _))) ty_9 rfl rfl (by first | omega | (simp at hg; omega)) rfl) ?_
          refine jd_gpure (j := 4) (want := false) rfl rfl rfl rfl (fun hg => pr_sneq (evg rfl hg) (evg rfl hg)) ?_
          refine jd_pure rfl (pr_pick_or rfl rfl rfl) ?_
          refine jd_nil ?_
          refine jq_then ?_
          refine jc_cond rfl (fun h6b => ?_) (fun h6b => ?_)
          · have h6 := (fun q => Or.imp of_decide_eq_true (fun q => of_decide_eq_false (bt_not q)) (bt_or q)) h6b
            have hat := sorted_at (kind := kind) (l := l) (present := present) (vs := vs) (i := i) h2 h3
            rw [hink.2.1, show k = vs.length by omega] at h6
            exact absurd hat (by rcases h6 with h6 | h6; (rw [List.getElem?_eq_none h6]; simp); (intro e; apply h6; rw [List.getD_eq_getElem?_getD, e]; rfl))
          · have h6 := (fun q => And.imp of_decide_eq_false (fun q => of_decide_eq_true (bf_not q)) (bf_or q)) h6b
            refine jc_skip ?_
            refine jq_then ?_
            refine jc_region ?_
            refine jo_pure rfl (pr_move rfl) ?_
            refine jo_pure rfl (pr_addN (m := n) (n := 1) rfl rfl (by omega)) ?_
            refine jo_pure rfl (pr_assign rfl) ?_
            refine jo_nil ?_
            refine jq_in_normal ?_
            refine jq_then ?_
            refine jc_region ?_
            refine jo_pure rfl (pr_move rfl) ?_
            refine jo_pure rfl (pr_addN (m := i) (n := 1) rfl rfl (by omega)) ?_
            refine jo_pure rfl (pr_assign rfl) ?_
            refine jo_nil ?_
            refine j_pull2 ?_
            refine j_pull2 ?_
            refine j_pull2 ?_
            refine jq_round' ((i + 1), (n + 1)) (by (try dsimp only); exact (⟨by omega, by omega, by rw [List.range_succ, List.countP_append, List.countP_singleton, if_pos (by have h9 : ¬ qAtV kind l present vs i ≤ 0 := h3; simp; omega), hinv.2.2]⟩)) (by (try dsimp only); exact (by omega)) ⟨rfl, rfl, rfl, rfl, rfl, rfl, rfl, trivial⟩ (fun _ h => h)
    · have h2 := of_decide_eq_false h2b
      refine jc_exit ?_
      refine jq_then_exit ?_
      refine jq_then_exit ?_
      refine jq_in_hit ?_
      refine jq_then ?_
      refine jc_seq ?_
      refine jc_region ?_
      refine jo_pure rfl (pr_move rfl) ?_
      refine jo_pure rfl (pr_move rfl) ?_
      refine jo_pure rfl (pr_len_imm rfl (.head _) Tryd.underlying22) ?_
      refine jo_pure rfl (pr_eqlN (m := n) (n := ((rankG kind l present vs).1).length) rfl rfl) ?_
      refine jo_pure rfl (pr_move rfl) ?_
      refine jo_gcall (j := 4) (want := true) rfl rfl rfl cal_22 (fun hg => c_law14_awake) (fun hg => trivial) rfl (fun _ => trivial) ?_
      refine jo_pure rfl (pr_pick_and rfl rfl rfl) ?_
      refine jo_pure rfl (pr_assign rfl) ?_
      refine jo_nil ?_
      refine jq_then ?_
      refine jc_ret ?_
      refine j_drop ?_
      refine j_drop ?_
      refine j_drop ?_
      exact jq_ret1 rfl () rfl (show (.bool (true) : Value) = (.bool ((decide ((n : Nat) = ((rankG kind l present vs).1).length) && true))) from by rw [hinv.2.2, show i = vs.length by omega, sorted_len]; simp) (fun _ h => h)
end Go.Proofs.YtikllmfjgpmcnaaDoor
