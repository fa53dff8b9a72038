/-
  Contracts of functions of the program: each returns what a plain function says, for every input within the bounds named. Conditions: the bounds.
-/
import Derived.Test.YtaicfjchbhnegaaDoorRows
import Derived.Test.YtaicfjchbhnegaaDoorC9
import Derived.Test.YtaicfjchbhnegaaDoorLaw10C
namespace Go.Proofs.YtaicfjchbhnegaaDoor
open Go Go.Sep
set_option linter.unusedSimpArgs false
set_option linter.unusedVariables false

open Go.Plain



theorem c_law09_ParamBlanks (v : List UInt8) (n : List UInt8) (tx : List UInt8)  : Con Tryd.prog 10 #[str (v), str (n), str (tx)] [] (fun _ : Unit => .bool (true)) (fun _ => []) := by
  refine con_of_J (args := [str (v), str (n), str (tx)]) (n := 95) Tryd.func10 rfl (Nat.le_of_ble_eq_true rfl) rfl (fun w0 I0 m0 => ?_)
  show J _ [(0, str (v)), (1, str (n)), (2, str (tx))] [] _
  refine jc_seq ?_
  refine jc_region ?_
  refine jo_pure rfl (pr_assign rfl) ?_
  refine jo_nil ?_
  refine jq_then ?_
  refine jc_seq ?_
  refine jc_seq ?_
  refine jc_region ?_
  refine jo_pure rfl (pr_move rfl) ?_
  refine jo_pure rfl (pr_slen rfl Tryd.underlying9) ?_
  refine jo_pure rfl (pr_gtrN (m := v.length) (n := 100) rfl rfl) ?_
  refine jo_pure rfl (pr_move rfl) ?_
  refine jo_gpure (j := 3) (want := false) rfl rfl rfl rfl (fun hg => pr_move rfl) ?_
  refine jo_gpure (j := 3) (want := false) rfl rfl rfl rfl (fun hg => pr_slen (evg rfl hg) Tryd.underlying9) ?_
  refine jo_gpure (j := 3) (want := false) rfl rfl rfl rfl (fun hg => pr_gtrN (m := n.length) (n := 100) (evg rfl hg) rfl) ?_
  refine jo_pure rfl (pr_pick_or rfl rfl rfl) ?_
  refine jo_pure rfl (pr_move rfl) ?_
  refine jo_gpure (j := 8) (want := false) rfl rfl rfl rfl (fun hg => pr_move rfl) ?_
  refine jo_gpure (j := 8) (want := false) rfl rfl rfl rfl (fun hg => pr_slen (evg rfl hg) Tryd.underlying9) ?_
  refine jo_gpure (j := 8) (want := false) rfl rfl rfl rfl (fun hg => pr_gtrN (m := tx.length) (n := 100) (evg rfl hg) rfl) ?_
  refine jo_pure rfl (pr_pick_or rfl rfl rfl) ?_
  refine jo_pure rfl (pr_move rfl) ?_
  refine jo_gpure (j := 13) (want := false) rfl rfl rfl rfl (fun hg => pr_move rfl) ?_
  refine jo_gcall (j := 13) (want := false) rfl rfl rfl cal_42 (fun hg => c_ref01_Token v (by first | omega | (simp at hg; omega) | (simp only [List.length_append, List.length_cons, List.length_nil]; omega) | (rw [blanks_first hv hn ht]; decide))) (fun hg => ⟨evg rfl hg, trivial⟩) rfl (fun _ => trivial) ?_
  refine jo_gpure (j := 13) (want := false) rfl rfl rfl rfl (fun hg => pr_not (evg rfl hg)) ?_
  refine jo_pure rfl (pr_pick_or rfl rfl rfl) ?_
  refine jo_pure rfl (pr_move rfl) ?_
  refine jo_gpure (j := 18) (want := false) rfl rfl rfl rfl (fun hg => pr_move rfl) ?_
  refine jo_gcall (j := 18) (want := false) rfl rfl rfl cal_42 (fun hg => c_ref01_Token n (by first | omega | (simp at hg; omega) | (simp only [List.length_append, List.length_cons, List.length_nil]; omega) | (rw [blanks_first hv hn ht]; decide))) (fun hg => ⟨evg rfl hg, trivial⟩) rfl (fun _ => trivial) ?_
  refine jo_gpure (j := 18) (want := false) rfl rfl rfl rfl (fun hg => pr_not (evg rfl hg)) ?_
  refine jo_pure rfl (pr_pick_or rfl rfl rfl) ?_
  refine jo_pure rfl (pr_move rfl) ?_
  refine jo_gpure (j := 23) (want := false) rfl rfl rfl rfl (fun hg => pr_move rfl) ?_
  refine jo_gcall (j := 23) (want := false) rfl rfl rfl cal_43 (fun hg => c_ref01_Text tx (by first | omega | (simp at hg; omega) | (simp only [List.length_append, List.length_cons, List.length_nil]; omega) | (rw [blanks_first hv hn ht]; decide))) (fun hg => ⟨evg rfl hg, trivial⟩) rfl (fun _ => trivial) ?_
  refine jo_gpure (j := 23) (want := false) rfl rfl rfl rfl (fun hg => pr_not (evg rfl hg)) ?_
  refine jo_pure rfl (pr_pick_or rfl rfl rfl) ?_
  refine jo_nil ?_
  refine jq_then ?_
  refine jc_cond rfl (fun h1b => ?_) (fun h1b => ?_)
  · have h1 := (fun q => Or.imp (fun q => Or.imp (fun q => Or.imp (fun q => Or.imp (fun q => Or.imp of_decide_eq_true of_decide_eq_true (bt_or q)) of_decide_eq_true (bt_or q)) (fun q => id (bt_not q)) (bt_or q)) (fun q => id (bt_not q)) (bt_or q)) (fun q => id (bt_not q)) (bt_or q)) h1b
    refine jc_seq ?_
    refine jc_region ?_
    refine jo_pure rfl (pr_assign rfl) ?_
    refine jo_nil ?_
    refine jq_then ?_
    refine jc_ret ?_
    refine jq_then_ret ?_
    exact jq_ret1 rfl () rfl (show (.bool (true) : Value) = (.bool (true)) from rfl) (fun _ h => h)
  · have h1 := (fun q => And.imp (fun q => And.imp (fun q => And.imp (fun q => And.imp (fun q => And.imp of_decide_eq_false of_decide_eq_false (bf_or q)) of_decide_eq_false (bf_or q)) (fun q => id (bf_not q)) (bf_or q)) (fun q => id (bf_not q)) (bf_or q)) (fun q => id (bf_not q)) (bf_or q)) h1b
    have hv : token v = true := h1.1.1.2
    have hn : token n = true := h1.1.2
    have ht : text tx = true := h1.2
    have hq := quote_length tx
    have hl1 := h1.1.1.1.1.1
    have hl2 := h1.1.1.1.1.2
    have hl3 := h1.1.1.1.2
    refine jc_skip ?_
    refine jq_then ?_
    refine jc_seq ?_
    refine jc_region ?_
    refine jo_pure rfl (pr_move rfl) ?_
    refine jo_pure rfl (pr_sadd rfl rfl (by simp only [List.length_append, List.length_cons, List.length_nil]; omega)) ?_
    refine jo_pure rfl (pr_move rfl) ?_
    refine jo_callp cal_44 (c_ref01_Quote tx (by first | omega | (simp at hg; omega) | (simp only [List.length_append, List.length_cons, List.length_nil]; omega) | (rw [blanks_first hv hn ht]; decide))) ⟨rfl, trivial⟩ rfl (trivial) (fun _ => ?_)
    refine jo_pure rfl (pr_sadd rfl rfl (by simp only [List.length_append, List.length_cons, List.length_nil]; omega)) ?_
    refine jo_pure rfl (pr_assign rfl) ?_
    refine jo_nil ?_
    refine jq_then ?_
    refine jc_seq ?_
    refine jc_region ?_
    refine jo_pure rfl (pr_move rfl) ?_
    refine jo_pure rfl (pr_sadd rfl rfl (by simp only [List.length_append, List.length_cons, List.length_nil]; omega)) ?_
    refine jo_pure rfl (pr_move rfl) ?_
    refine jo_pure rfl (pr_sadd rfl rfl (by simp only [List.length_append, List.length_cons, List.length_nil]; omega)) ?_
    refine jo_pure rfl (pr_sadd rfl rfl (by simp only [List.length_append, List.length_cons, List.length_nil]; omega)) ?_
    refine jo_pure rfl (pr_move rfl) ?_
    refine jo_pure rfl (pr_sadd rfl rfl (by simp only [List.length_append, List.length_cons, List.length_nil]; omega)) ?_
    refine jo_callp cal_38 (c_param_Parse ((((v ++ [59]) ++ ((n ++ [61]) ++ (quote tx))) ++ [59]) ++ ((n ++ [61]) ++ (quote tx))) (by first | omega | (simp at hg; omega) | (simp only [List.length_append, List.length_cons, List.length_nil]; omega) | (rw [blanks_first hv hn ht]; decide))) ⟨rfl, trivial⟩ rfl (trivial) (fun r1 => ?_)
    show J _ _ [.row (r1) 52 (.pair .str .str) ((parseP ((((v ++ [59]) ++ ((n ++ [61]) ++ (quote tx))) ++ [59]) ++ ((n ++ [61]) ++ (quote tx)))).2.1)] _
    refine jo_pure rfl (pr_move rfl) ?_
    refine jo_pure rfl (pr_extract rfl rfl) ?_
    refine jo_pure rfl (pr_extract rfl rfl) ?_
    refine jo_pure rfl (pr_extract rfl rfl) ?_
    refine jo_pure rfl (pr_assign rfl) ?_
    refine jo_pure rfl (pr_assign rfl) ?_
    refine jo_pure rfl (pr_assign rfl) ?_
    refine jo_nil ?_
    refine jq_then ?_
    refine jc_seq ?_
    refine jc_region ?_
    refine jo_pure rfl (pr_move rfl) ?_
    refine jo_pure rfl (pr_sadd rfl rfl (by simp only [List.length_append, List.length_cons, List.length_nil]; omega)) ?_
    refine jo_pure rfl (pr_sadd rfl rfl (by simp only [List.length_append, List.length_cons, List.length_nil]; omega)) ?_
    refine jo_pure rfl (pr_move rfl) ?_
    refine jo_pure rfl (pr_sadd rfl rfl (by simp only [List.length_append, List.length_cons, List.length_nil]; omega)) ?_
    refine jo_pure rfl (pr_sadd rfl rfl (by simp only [List.length_append, List.length_cons, List.length_nil]; omega)) ?_
    refine jo_pure rfl (pr_move rfl) ?_
    refine jo_pure rfl (pr_sadd rfl rfl (by simp only [List.length_append, List.length_cons, List.length_nil]; omega)) ?_
    refine jo_pure rfl (pr_sadd rfl rfl (by simp only [List.length_append, List.length_cons, List.length_nil]; omega)) ?_
    refine jo_callp cal_38 (c_param_Parse (((((([32] ++ v) ++ [9, 59, 32, 59, 9]) ++ ((n ++ [61]) ++ (quote tx))) ++ [32, 59, 59]) ++ ((n ++ [61]) ++ (quote tx))) ++ [59, 32]) (by first | omega | (simp at hg; omega) | (simp only [List.length_append, List.length_cons, List.length_nil]; omega) | (rw [blanks_first hv hn ht]; decide))) ⟨rfl, trivial⟩ rfl (trivial) (fun r2 => ?_)
    show J _ _ [.row (r2) 52 (.pair .str .str) ((parseP (((((([32] ++ v) ++ [9, 59, 32, 59, 9]) ++ ((n ++ [61]) ++ (quote tx))) ++ [32, 59, 59]) ++ ((n ++ [61]) ++ (quote tx))) ++ [59, 32])).2.1), .row (r1) 52 (.pair .str .str) ((parseP ((((v ++ [59]) ++ ((n ++ [61]) ++ (quote tx))) ++ [59]) ++ ((n ++ [61]) ++ (quote tx)))).2.1)] _
    refine jo_pure rfl (pr_move rfl) ?_
    refine jo_pure rfl (pr_extract rfl rfl) ?_
    refine jo_pure rfl (pr_extract rfl rfl) ?_
    refine jo_pure rfl (pr_extract rfl rfl) ?_
    refine jo_pure rfl (pr_assign rfl) ?_
    refine jo_pure rfl (pr_assign rfl) ?_
    refine jo_pure rfl (pr_assign rfl) ?_
    refine jo_nil ?_
    refine jq_then ?_
    refine jc_seq ?_
    refine jc_region ?_
    refine jo_pure rfl (pr_move rfl) ?_
    refine jo_pure rfl (pr_move rfl) ?_
    refine jo_gpure (j := 1) (want := true) rfl rfl rfl rfl (fun hg => pr_move rfl) ?_
    refine jo_pure rfl (pr_pick_and rfl rfl rfl) ?_
    refine jo_pure rfl (pr_move rfl) ?_
    refine jo_gpure (j := 4) (want := true) rfl rfl rfl rfl (fun hg => pr_move rfl) ?_
    refine jo_gpure (j := 4) (want := true) rfl rfl rfl rfl (fun hg => pr_move rfl) ?_
    refine jo_gpure (j := 4) (want := true) rfl rfl rfl rfl (fun hg => pr_seql (evg rfl hg) (evg rfl hg)) ?_
    refine jo_pure rfl (pr_pick_and rfl rfl rfl) ?_
    refine jo_pure rfl (pr_move rfl) ?_
    refine jo_gpure (j := 9) (want := true) rfl rfl rfl rfl (fun hg => pr_move rfl) ?_
    refine jo_gpure (j := 9) (want := true) rfl rfl rfl rfl (fun hg => pr_move rfl) ?_
    refine j_pull1 ?_
    refine j_pub_row ?_
    refine j_pull1 ?_
    refine j_pub_row ?_
    refine jo_gcall (j := 9) (want := true) rfl rfl rfl cal_40 (fun hg => c_keep_SameParams ((parseP ((((v ++ [59]) ++ ((n ++ [61]) ++ (quote tx))) ++ [59]) ++ ((n ++ [61]) ++ (quote tx)))).2.1) r1 ((parseP (((((([32] ++ v) ++ [9, 59, 32, 59, 9]) ++ ((n ++ [61]) ++ (quote tx))) ++ [32, 59, 59]) ++ ((n ++ [61]) ++ (quote tx))) ++ [59, 32])).2.1) r2 (by rw [blanks_first hv hn ht]; simp)) (fun hg => ⟨evg rfl hg, evg rfl hg, trivial⟩) rfl (fun _ => ⟨⟨rfl, .tail _ (.head _)⟩, ⟨⟨rfl, .head _⟩, trivial⟩⟩) ?_
    refine jo_pure rfl (pr_pick_and rfl rfl rfl) ?_
    refine jo_pure rfl (pr_move rfl) ?_
    refine jo_gpure (j := 14) (want := true) rfl rfl rfl rfl (fun hg => pr_move rfl) ?_
    refine jo_gpure (j := 14) (want := true) rfl rfl rfl rfl (fun hg => pr_len_imm (evg rfl hg) (.tail _ (.head _)) Tryd.underlying45) ?_
    refine jo_gpure (j := 14) (want := true) rfl rfl rfl rfl (fun hg => pr_eqlN (m := ((parseP ((((v ++ [59]) ++ ((n ++ [61]) ++ (quote tx))) ++ [59]) ++ ((n ++ [61]) ++ (quote tx)))).2.1).length) (n := 2) (evg rfl hg) rfl) ?_
    refine jo_pure rfl (pr_pick_and rfl rfl rfl) ?_
    refine jo_pure rfl (pr_move rfl) ?_
    refine jo_gcall (j := 19) (want := true) rfl rfl rfl cal_41 (fun hg => c_law09_awake) (fun hg => trivial) rfl (fun _ => trivial) ?_
    refine jo_pure rfl (pr_pick_and rfl rfl rfl) ?_
    refine jo_pure rfl (pr_assign rfl) ?_
    refine jo_nil ?_
    refine jq_then ?_
    refine jc_ret ?_
    refine j_drop ?_
    refine j_drop ?_
    exact jq_ret1 rfl () rfl (show (.bool (true) : Value) = (.bool (((((((parseP ((((v ++ [59]) ++ ((n ++ [61]) ++ (quote tx))) ++ [59]) ++ ((n ++ [61]) ++ (quote tx)))).2.2 && (parseP (((((([32] ++ v) ++ [9, 59, 32, 59, 9]) ++ ((n ++ [61]) ++ (quote tx))) ++ [32, 59, 59]) ++ ((n ++ [61]) ++ (quote tx))) ++ [59, 32])).2.2) && decide (((parseP ((((v ++ [59]) ++ ((n ++ [61]) ++ (quote tx))) ++ [59]) ++ ((n ++ [61]) ++ (quote tx)))).1 : List UInt8) = (parseP (((((([32] ++ v) ++ [9, 59, 32, 59, 9]) ++ ((n ++ [61]) ++ (quote tx))) ++ [32, 59, 59]) ++ ((n ++ [61]) ++ (quote tx))) ++ [59, 32])).1)) && decide (((parseP ((((v ++ [59]) ++ ((n ++ [61]) ++ (quote tx))) ++ [59]) ++ ((n ++ [61]) ++ (quote tx)))).2.1) = ((parseP (((((([32] ++ v) ++ [9, 59, 32, 59, 9]) ++ ((n ++ [61]) ++ (quote tx))) ++ [32, 59, 59]) ++ ((n ++ [61]) ++ (quote tx))) ++ [59, 32])).2.1))) && decide ((((parseP ((((v ++ [59]) ++ ((n ++ [61]) ++ (quote tx))) ++ [59]) ++ ((n ++ [61]) ++ (quote tx)))).2.1).length : Nat) = 2)) && true))) from by rw [blanks_first hv hn ht, blanks_second hv hn ht]; simp) (fun _ h => h)

theorem c_law09_ParamBack (value : List UInt8) (l : List ((List UInt8) × (List UInt8))) (lv : Value) (hl : l.length ≤ 9223372036854775807) : Con Tryd.prog 11 #[str (value), lv] [.imm (.list (.pair .str .str)) (lv) (l)] (fun _ : Unit => .bool (true)) (fun _ => []) := by
  refine con_of_J (args := [str (value), lv]) (n := 80) Tryd.func11 rfl (Nat.le_of_ble_eq_true rfl) rfl (fun w0 I0 m0 => ?_)
  show J _ [(0, str (value)), (1, lv)] [.imm (.list (.pair .str .str)) (lv) (l)] _
  refine jc_seq ?_
  refine jc_region ?_
  refine jo_pure rfl (pr_assign rfl) ?_
  refine jo_nil ?_
  refine jq_then ?_
  refine jc_seq ?_
  refine jc_seq ?_
  refine jc_region ?_
  refine jo_pure rfl (pr_move rfl) ?_
  refine jo_pure rfl (pr_slen rfl Tryd.underlying9) ?_
  refine jo_pure rfl (pr_gtrN (m := value.length) (n := 300) rfl rfl) ?_
  refine jo_pure rfl (pr_move rfl) ?_
  refine jo_gpure (j := 3) (want := false) rfl rfl rfl rfl (fun hg => pr_move rfl) ?_
  refine jo_gcall (j := 3) (want := false) rfl rfl rfl cal_45 (fun hg => c_keep_Params l lv (by first | omega | (simp at hg; omega) | exact (hm _ (getD_mem h2)).1 | exact (hm _ (getD_mem h2)).2 | exact hm | (have := formatP_length value l; have := sumP_le hk8; omega))) (fun hg => ⟨evg rfl hg, trivial⟩) rfl (fun _ => ⟨⟨rfl, .head _⟩, trivial⟩) ?_
  refine jo_gpure (j := 3) (want := false) rfl rfl rfl rfl (fun hg => pr_not (evg rfl hg)) ?_
  refine jo_pure rfl (pr_pick_or rfl rfl rfl) ?_
  refine jo_pure rfl (pr_move rfl) ?_
  refine jo_gpure (j := 8) (want := false) rfl rfl rfl rfl (fun hg => pr_move rfl) ?_
  refine jo_gcall (j := 8) (want := false) rfl rfl rfl cal_42 (fun hg => c_ref01_Token value (by first | omega | (simp at hg; omega) | exact (hm _ (getD_mem h2)).1 | exact (hm _ (getD_mem h2)).2 | exact hm | (have := formatP_length value l; have := sumP_le hk8; omega))) (fun hg => ⟨evg rfl hg, trivial⟩) rfl (fun _ => trivial) ?_
  refine jo_gpure (j := 8) (want := false) rfl rfl rfl rfl (fun hg => pr_not (evg rfl hg)) ?_
  refine jo_pure rfl (pr_pick_or rfl rfl rfl) ?_
  refine jo_nil ?_
  refine jq_then ?_
  refine jc_cond rfl (fun h1b => ?_) (fun h1b => ?_)
  · have h1 := (fun q => Or.imp (fun q => Or.imp of_decide_eq_true (fun q => id (bt_not q)) (bt_or q)) (fun q => id (bt_not q)) (bt_or q)) h1b
    refine jc_seq ?_
    refine jc_region ?_
    refine jo_pure rfl (pr_assign rfl) ?_
    refine jo_nil ?_
    refine jq_then ?_
    refine jc_ret ?_
    refine jq_then_ret ?_
    refine j_drop ?_
    exact jq_ret1 rfl () rfl (show (.bool (true) : Value) = (.bool (true)) from rfl) (fun _ h => h)
  · have h1 := (fun q => And.imp (fun q => And.imp of_decide_eq_false (fun q => id (bf_not q)) (bf_or q)) (fun q => id (bf_not q)) (bf_or q)) h1b
    have hkeep : keepP l = true := h1.1.2
    have hlen := keepP_len hkeep
    have hk8 := keepP_mem hkeep
    have htok : token value = true := h1.2
    have hvl := h1.1.1
    have hm : ∀ x ∈ l, x.1.length ≤ 1000000 ∧ x.2.length ≤ 1000000 := fun x hx => by have := hk8 x hx; omega
    refine jc_skip ?_
    refine jq_then ?_
    refine jc_seq ?_
    refine jc_seq ?_
    refine jc_region ?_
    refine jo_pure rfl (pr_assign rfl) ?_
    refine jo_nil ?_
    refine jq_then ?_
    refine jc_block ?_
    refine jc_loop (fun (i : Nat) => [(0, str (value)), (1, lv), (5, .int .i64 ((i : Nat) : Int))]) (fun (i : Nat) => [.imm (.list (.pair .str .str)) (lv) (l)]) (fun (i : Nat) => i ≤ l.length ∧ (l.take i).all goodB = true) (fun (i : Nat) => l.length - i) 0 (⟨Nat.zero_le _, rfl⟩) (⟨rfl, rfl, rfl, trivial⟩) (fun _ h => h) (fun i hinv => ?_)
    refine jc_seq ?_
    refine jc_seq ?_
    refine jc_region ?_
    refine jo_pure rfl (pr_move rfl) ?_
    refine jo_pure rfl (pr_move rfl) ?_
    refine jo_pure rfl (pr_len_imm rfl (.head _) Tryd.underlying45) ?_
    refine jo_pure rfl (pr_lssN (m := i) (n := l.length) rfl rfl) ?_
    refine jo_nil ?_
    refine jq_then ?_
    refine jc_cond rfl (fun h2b => ?_) (fun h2b => ?_)
    · have h2 := of_decide_eq_true h2b
      refine jc_skip ?_
      refine jq_then ?_
      refine jc_seq ?_
      refine jc_block ?_
      refine jc_seq ?_
      refine jc_draws mixed (by kernel_rfl) ?_
      refine jd_pure rfl (pr_move rfl) ?_
      refine jd_pure rfl (pr_move rfl) ?_
      refine jd_pure rfl (pr_idx_imm (i := i) rfl (.head _) rfl Tryd.underlying45 ty_52 (by omega)) ?_
      refine jd_pure rfl (pr_fieldAddr_imm (i := i) rfl (.head _) Tryd.underlying52 rfl ty_9 rfl rfl (by omega)) ?_
      refine jd_pure rfl (pr_load_off_imm (i := i) (o := 0) (dd := ([], [])) (str ((l.getD i ([], [])).1)) rfl (.head _) ty_9 rfl (by decide) rfl (by omega) rfl) ?_
      refine jd_callp cal_42 (c_ref01_Token ((l.getD i ([], [])).1) (by first | omega | (simp at hg; omega) | exact (hm _ (getD_mem h2)).1 | exact (hm _ (getD_mem h2)).2 | exact hm | (have := formatP_length value l; have := sumP_le hk8; omega))) ⟨rfl, trivial⟩ rfl (trivial) ?_
      refine jd_pure rfl (pr_not rfl) ?_
      refine jd_pure rfl (pr_move rfl) ?_
      refine jd_gpure (j := 7) (want := false) rfl rfl rfl rfl (fun hg => pr_move rfl) ?_
      refine jd_gpure (j := 7) (want := false) rfl rfl rfl rfl (fun hg => pr_move rfl) ?_
      refine jd_gpure (j := 7) (want := false) rfl rfl rfl rfl (fun hg => pr_idx_imm (i := i) (evg rfl hg) (.head _) (evg rfl hg) Tryd.underlying45 ty_52 (by omega)) ?_
      refine jd_gpure (j := 7) (want := false) rfl rfl rfl rfl (fun hg => pr_fieldAddr_imm (i := i) (evg rfl hg) (.head _) Tryd.underlying52 rfl ty_9 rfl rfl (by omega)) ?_
      refine jd_gpure (j := 7) (want := false) rfl rfl rfl rfl (fun hg => pr_load_off_imm (i := i) (o := 0) (dd := ([], [])) (str ((l.getD i ([], [])).1)) (evg rfl hg) (.head _) ty_9 rfl (by decide) rfl (by omega) rfl) ?_
      refine jd_gcall (j := 7) (want := false) rfl rfl rfl cal_46 (fun hg => c_ref01_Lower ((l.getD i ([], [])).1) (by first | omega | (simp at hg; omega) | exact (hm _ (getD_mem h2)).1 | exact (hm _ (getD_mem h2)).2 | exact hm | (have := formatP_length value l; have := sumP_le hk8; omega))) (fun hg => ⟨evg rfl hg, trivial⟩) rfl (fun _ => trivial) ?_
      refine jd_gpure (j := 7) (want := false) rfl rfl rfl rfl (fun hg => pr_move rfl) ?_
      refine jd_gpure (j := 7) (want := false) rfl rfl rfl rfl (fun hg => pr_move rfl) ?_
      refine jd_gpure (j := 7) (want := false) rfl rfl rfl rfl (fun hg => pr_idx_imm (i := i) (evg rfl hg) (.head _) (evg rfl hg) Tryd.underlying45 ty_52 (by omega)) ?_
      refine jd_gpure (j := 7) (want := false) rfl rfl rfl rfl (fun hg => pr_fieldAddr_imm (i := i) (evg rfl hg) (.head _) Tryd.underlying52 rfl ty_9 rfl rfl (by omega)) ?_
      refine jd_gpure (j := 7) (want := false) rfl rfl rfl rfl (fun hg => pr_load_off_imm (i := i) (o := 0) (dd := ([], [])) (str ((l.getD i ([], [])).1)) (evg rfl hg) (.head _) ty_9 rfl (by decide) rfl (by omega) rfl) ?_
      refine jd_gpure (j := 7) (want := false) rfl rfl rfl rfl (fun hg => pr_sneq (evg rfl hg) (evg rfl hg)) ?_
      refine jd_pure rfl (pr_pick_or rfl rfl rfl) ?_
      refine jd_pure rfl (pr_move rfl) ?_
      refine jd_gpure (j := 21) (want := false) rfl rfl rfl rfl (fun hg => pr_move rfl) ?_
      refine jd_gpure (j := 21) (want := false) rfl rfl rfl rfl (fun hg => pr_move rfl) ?_
      refine jd_gpure (j := 21) (want := false) rfl rfl rfl rfl (fun hg => pr_idx_imm (i := i) (evg rfl hg) (.head _) (evg rfl hg) Tryd.underlying45 ty_52 (by omega)) ?_
      refine jd_gpure (j := 21) (want := false) rfl rfl rfl rfl (fun hg => pr_fieldAddr_imm (i := i) (evg rfl hg) (.head _) Tryd.underlying52 rfl ty_9 rfl rfl (by omega)) ?_
      refine jd_gpure (j := 21) (want := false) rfl rfl rfl rfl (fun hg => pr_load_off_imm (i := i) (o := 1) (dd := ([], [])) (str ((l.getD i ([], [])).2)) (evg rfl hg) (.head _) ty_9 rfl (by decide) rfl (by omega) rfl) ?_
      refine jd_gcall (j := 21) (want := false) rfl rfl rfl cal_43 (fun hg => c_ref01_Text ((l.getD i ([], [])).2) (by first | omega | (simp at hg; omega) | exact (hm _ (getD_mem h2)).1 | exact (hm _ (getD_mem h2)).2 | exact hm | (have := formatP_length value l; have := sumP_le hk8; omega))) (fun hg => ⟨evg rfl hg, trivial⟩) rfl (fun _ => trivial) ?_
      refine jd_gpure (j := 21) (want := false) rfl rfl rfl rfl (fun hg => pr_not (evg rfl hg)) ?_
      refine jd_pure rfl (pr_pick_or rfl rfl rfl) ?_
      refine jd_nil ?_
      refine jq_then ?_
      refine jc_cond rfl (fun h3b => ?_) (fun h3b => ?_)
      · have h3 := (fun q => Or.imp (fun q => Or.imp (fun q => id (bt_not q)) (fun q => of_decide_eq_false (bt_not q)) (bt_or q)) (fun q => id (bt_not q)) (bt_or q)) h3b
        refine jc_seq ?_
        refine jc_region ?_
        refine jo_pure rfl (pr_assign rfl) ?_
        refine jo_nil ?_
        refine jq_then ?_
        refine jc_ret ?_
        refine jq_in_ret ?_
        refine jq_then_ret ?_
        refine jq_then_ret ?_
        refine jq_in_ret ?_
        refine jq_then_ret ?_
        refine j_drop ?_
        exact jq_ret1 rfl () rfl (show (.bool (true) : Value) = (.bool (true)) from rfl) (fun _ h => h)
      · have h3 := (fun q => And.imp (fun q => And.imp (fun q => id (bf_not q)) (fun q => of_decide_eq_true (bf_not q)) (bf_or q)) (fun q => id (bf_not q)) (bf_or q)) h3b
        refine jc_skip ?_
        refine jq_in_normal ?_
        refine jq_then ?_
        refine jc_region ?_
        refine jo_pure rfl (pr_move rfl) ?_
        refine jo_pure rfl (pr_addN (m := i) (n := 1) rfl rfl (by omega)) ?_
        refine jo_pure rfl (pr_assign rfl) ?_
        refine jo_nil ?_
        refine jq_round' (i + 1) (by (try dsimp only); exact (⟨by omega, all_step (dd := ([], [])) h2 hinv.2 (by unfold goodB; rw [h3.1.1, decide_eq_true h3.1.2, h3.2]; rfl)⟩)) (by (try dsimp only); exact (by omega)) ⟨rfl, rfl, rfl, trivial⟩ (fun _ h => h)
    · have h2 := of_decide_eq_false h2b
      have hgood := good_all (all_end (p := goodB) (by omega) hinv.2)
      refine jc_exit ?_
      refine jq_then_exit ?_
      refine jq_then_exit ?_
      refine jq_in_hit ?_
      refine jq_then ?_
      refine jc_seq ?_
      refine jc_region ?_
      refine jo_pure rfl (pr_move rfl) ?_
      refine jo_pure rfl (pr_move rfl) ?_
      refine jo_callp cal_47 (c_param_Format value l lv (by first | omega | (simp at hg; omega) | exact (hm _ (getD_mem h2)).1 | exact (hm _ (getD_mem h2)).2 | exact hm | (have := formatP_length value l; have := sumP_le hk8; omega)) (by first | omega | (simp at hg; omega) | exact (hm _ (getD_mem h2)).1 | exact (hm _ (getD_mem h2)).2 | exact hm | (have := formatP_length value l; have := sumP_le hk8; omega)) (by first | omega | (simp at hg; omega) | exact (hm _ (getD_mem h2)).1 | exact (hm _ (getD_mem h2)).2 | exact hm | (have := formatP_length value l; have := sumP_le hk8; omega))) ⟨rfl, rfl, trivial⟩ rfl (⟨⟨rfl, .head _⟩, trivial⟩) (fun _ => ?_)
      refine jo_callp cal_38 (c_param_Parse (formatP value l) (by first | omega | (simp at hg; omega) | exact (hm _ (getD_mem h2)).1 | exact (hm _ (getD_mem h2)).2 | exact hm | (have := formatP_length value l; have := sumP_le hk8; omega))) ⟨rfl, trivial⟩ rfl (trivial) (fun r1 => ?_)
      show J _ _ [.row (r1) 52 (.pair .str .str) ((parseP (formatP value l)).2.1), .imm (.list (.pair .str .str)) (lv) (l)] _
      refine jo_pure rfl (pr_move rfl) ?_
      refine jo_pure rfl (pr_extract rfl rfl) ?_
      refine jo_pure rfl (pr_extract rfl rfl) ?_
      refine jo_pure rfl (pr_extract rfl rfl) ?_
      refine jo_pure rfl (pr_assign rfl) ?_
      refine jo_pure rfl (pr_assign rfl) ?_
      refine jo_pure rfl (pr_assign rfl) ?_
      refine jo_nil ?_
      refine jq_then ?_
      refine jc_seq ?_
      refine jc_region ?_
      refine jo_pure rfl (pr_move rfl) ?_
      refine jo_pure rfl (pr_move rfl) ?_
      refine jo_gpure (j := 1) (want := true) rfl rfl rfl rfl (fun hg => pr_move rfl) ?_
      refine jo_gpure (j := 1) (want := true) rfl rfl rfl rfl (fun hg => pr_move rfl) ?_
      refine jo_gpure (j := 1) (want := true) rfl rfl rfl rfl (fun hg => pr_seql (evg rfl hg) (evg rfl hg)) ?_
      refine jo_pure rfl (pr_pick_and rfl rfl rfl) ?_
      refine jo_pure rfl (pr_move rfl) ?_
      refine jo_gpure (j := 6) (want := true) rfl rfl rfl rfl (fun hg => pr_move rfl) ?_
      refine jo_gpure (j := 6) (want := true) rfl rfl rfl rfl (fun hg => pr_move rfl) ?_
      refine j_pub_row ?_
      refine jo_gcall (j := 6) (want := true) rfl rfl rfl cal_40 (fun hg => c_keep_SameParams l lv ((parseP (formatP value l)).2.1) r1 (by first | omega | (simp at hg; omega) | exact (hm _ (getD_mem h2)).1 | exact (hm _ (getD_mem h2)).2 | exact hm | (have := formatP_length value l; have := sumP_le hk8; omega))) (fun hg => ⟨evg rfl hg, evg rfl hg, trivial⟩) rfl (fun _ => ⟨⟨rfl, .tail _ (.head _)⟩, ⟨⟨rfl, .head _⟩, trivial⟩⟩) ?_
      refine jo_pure rfl (pr_pick_and rfl rfl rfl) ?_
      refine jo_pure rfl (pr_move rfl) ?_
      refine jo_gcall (j := 11) (want := true) rfl rfl rfl cal_41 (fun hg => c_law09_awake) (fun hg => trivial) rfl (fun _ => trivial) ?_
      refine jo_pure rfl (pr_pick_and rfl rfl rfl) ?_
      refine jo_pure rfl (pr_assign rfl) ?_
      refine jo_nil ?_
      refine jq_then ?_
      refine jc_ret ?_
      refine j_drop ?_
      refine j_drop ?_
      exact jq_ret1 rfl () rfl (show (.bool (true) : Value) = (.bool (((((parseP (formatP value l)).2.2 && decide (((parseP (formatP value l)).1 : List UInt8) = value)) && decide (l = ((parseP (formatP value l)).2.1))) && true))) from by rw [param_back htok hgood]; simp) (fun _ h => h)

set_option maxHeartbeats 2000000 in
theorem c_law10_MediatypeBack (s : List UInt8)  : Con Tryd.prog 16 #[str (s)] [] (fun _ : Unit => .bool (true)) (fun _ => []) := by
  refine con_of_J (args := [str (s)]) (n := 33) Tryd.func16 rfl (Nat.le_of_ble_eq_true rfl) rfl (fun w0 I0 m0 => ?_)
  show J _ [(0, str (s))] [] _
  refine jc_seq ?_
  refine jc_region ?_
  refine jo_pure rfl (pr_assign rfl) ?_
  refine jo_nil ?_
  refine jq_then ?_
  refine jc_seq ?_
  refine jc_seq ?_
  refine jc_region ?_
  refine jo_pure rfl (pr_move rfl) ?_
  refine jo_pure rfl (pr_slen rfl Tryd.underlying9) ?_
  refine jo_pure rfl (pr_gtrN (m := s.length) (n := 1000) rfl rfl) ?_
  refine jo_nil ?_
  refine jq_then ?_
  refine jc_cond rfl (fun h1b => ?_) (fun h1b => ?_)
  · have h1 := of_decide_eq_true h1b
    refine jc_seq ?_
    refine jc_region ?_
    refine jo_pure rfl (pr_assign rfl) ?_
    refine jo_nil ?_
    refine jq_then ?_
    refine jc_ret ?_
    refine jq_then_ret ?_
    exact jq_ret1 rfl () rfl (show (.bool (true) : Value) = (.bool (true)) from rfl) (fun _ h => h)
  · have h1 := of_decide_eq_false h1b
    refine jc_skip ?_
    refine jq_then ?_
    refine jc_seq ?_
    refine jc_region ?_
    refine jo_pure rfl (pr_move rfl) ?_
    refine jo_callp cal_50 (c_mediatype_ParseRange s (by first | omega | (have := parseR_len s; omega) | (have := parseR_len s; exact fun x hx => by have := this.2.2.2 x hx; omega) | (have := formatT_len s; omega))) ⟨rfl, trivial⟩ rfl (trivial) (fun r1 => ?_)
    show J _ _ [.row (r1) 52 (.pair .str .str) ((parseR s).1.2.2)] _
    refine jo_pure rfl (pr_move rfl) ?_
    refine jo_pure rfl (pr_extract rfl rfl) ?_
    refine jo_pure rfl (pr_extract rfl rfl) ?_
    refine jo_alloc ty_56 [str ([]), str ([]), .slice none 0 0] rfl rfl (fun b1 => ?_)
    refine jo_storeV rfl rfl ty_56 [str ((parseR s).1.1), str ((parseR s).1.2.1), r1] (fun _ _ _ _ => rfl) rfl (fun w I m hs => by simp only [List.all_cons, List.all_nil, Bool.and_true, Bool.and_eq_true]; exact ⟨rfl, rfl, (SliceV.one (row_slice (.tail _ (.head _)) hs))⟩) [str ((parseR s).1.1), str ((parseR s).1.2.1), r1] rfl rfl ?_
    refine jo_pure rfl (pr_assign rfl) ?_
    refine jo_nil ?_
    refine jq_then ?_
    refine jc_seq ?_
    refine jc_seq ?_
    refine jc_region ?_
    refine jo_pure rfl (pr_move rfl) ?_
    refine jo_pure rfl (pr_not rfl) ?_
    refine jo_nil ?_
    refine jq_then ?_
    refine jc_cond rfl (fun h2b => ?_) (fun h2b => ?_)
    · have h2 := (fun q => id (bt_not q)) h2b
      refine jc_seq ?_
      refine jc_region ?_
      refine jo_callp cal_53 (c_law10_awake) trivial rfl (trivial) (fun _ => ?_)
      refine jo_pure rfl (pr_assign rfl) ?_
      refine jo_nil ?_
      refine jq_then ?_
      refine jc_ret ?_
      refine jq_then_ret ?_
      refine j_drop ?_
      refine j_drop ?_
      exact jq_ret1 rfl () rfl (show (.bool (true) : Value) = (.bool (true)) from rfl) (fun _ h => h)
    · have h2 := (fun q => id (bf_not q)) h2b
      refine jc_skip ?_
      refine jq_then ?_
      refine jc_seq ?_
      refine jc_region ?_
      refine jo_pure rfl (pr_load_box (.agg #[str ((parseR s).1.1), str ((parseR s).1.2.1), r1]) rfl ty_56 (.head _) rfl (by decide) rfl) ?_
      refine j_pull1 ?_
      refine j_pub_row ?_
      have con1 := c_mediatype_Format ((parseR s).1) r1 (by first | omega | (have := parseR_len s; omega) | (have := parseR_len s; exact fun x hx => by have := this.2.2.2 x hx; omega) | (have := formatT_len s; omega)) (by first | omega | (have := parseR_len s; omega) | (have := parseR_len s; exact fun x hx => by have := this.2.2.2 x hx; omega) | (have := formatT_len s; omega)) (by first | omega | (have := parseR_len s; omega) | (have := parseR_len s; exact fun x hx => by have := this.2.2.2 x hx; omega) | (have := formatT_len s; omega)) (by first | omega | (have := parseR_len s; omega) | (have := parseR_len s; exact fun x hx => by have := this.2.2.2 x hx; omega) | (have := formatT_len s; omega))
      refine jo_callp cal_60 con1 (by exact ⟨rfl, trivial⟩) rfl (by exact ⟨⟨rfl, .head _⟩, trivial⟩) (fun _ => ?_)
      clear con1
      refine jo_callp cal_50 (c_mediatype_ParseRange (formatT ((parseR s).1)) (by first | omega | (have := parseR_len s; omega) | (have := parseR_len s; exact fun x hx => by have := this.2.2.2 x hx; omega) | (have := formatT_len s; omega))) ⟨rfl, trivial⟩ rfl (trivial) (fun r2 => ?_)
      show J _ _ [.row (r2) 52 (.pair .str .str) ((parseR (formatT ((parseR s).1))).1.2.2), .imm (.list (.pair .str .str)) (r1) ((parseR s).1.2.2), .box b1 56 [str ((parseR s).1.1), str ((parseR s).1.2.1), r1]] _
      refine jo_pure rfl (pr_move rfl) ?_
      refine jo_pure rfl (pr_extract rfl rfl) ?_
      refine jo_pure rfl (pr_extract rfl rfl) ?_
      refine jo_alloc ty_56 [str ([]), str ([]), .slice none 0 0] rfl rfl (fun b2 => ?_)
      refine jo_storeV rfl rfl ty_56 [str ((parseR (formatT ((parseR s).1))).1.1), str ((parseR (formatT ((parseR s).1))).1.2.1), r2] (fun _ _ _ _ => rfl) rfl (fun w I m hs => by simp only [List.all_cons, List.all_nil, Bool.and_true, Bool.and_eq_true]; exact ⟨rfl, rfl, (SliceV.one (row_slice (.tail _ (.head _)) hs))⟩) [str ((parseR (formatT ((parseR s).1))).1.1), str ((parseR (formatT ((parseR s).1))).1.2.1), r2] rfl rfl ?_
      refine jo_pure rfl (pr_assign rfl) ?_
      refine jo_nil ?_
      refine jq_then ?_
      refine jc_seq ?_
      refine jc_region ?_
      refine jo_pure rfl (pr_move rfl) ?_
      refine jo_pure rfl (pr_move rfl) ?_
      have ht1 : ((parseR (formatT ((parseR s).1))).2) = true := by rw [parse_range_back h2]; exact h2
      refine jo_run (j := 1) (want := true) rfl rfl (ht1) ?_
      refine jo_pure rfl (pr_load_box (.agg #[str ((parseR s).1.1), str ((parseR s).1.2.1), r1]) rfl ty_56 (.tail _ (.tail _ (.tail _ (.head _)))) rfl (by decide) rfl) ?_
      refine jo_run (j := 1) (want := true) rfl rfl (ht1) ?_
      refine jo_pure rfl (pr_load_box (.agg #[str ((parseR (formatT ((parseR s).1))).1.1), str ((parseR (formatT ((parseR s).1))).1.2.1), r2]) rfl ty_56 (.head _) rfl (by decide) rfl) ?_
      refine jo_run (j := 1) (want := true) rfl rfl (ht1) ?_
      refine j_pull1 ?_
      refine j_pub_row ?_
      have con2 := c_keep_SameMedia ((parseR s).1) r1 ((parseR (formatT ((parseR s).1))).1) r2 (by have h9 := (parseR_len s).2.2.1; omega)
      refine jo_callp cal_52 con2 (by exact ⟨rfl, rfl, trivial⟩) rfl (by exact ⟨⟨rfl, .tail _ (.tail _ (.head _))⟩, ⟨⟨rfl, .head _⟩, trivial⟩⟩) (fun _ => ?_)
      clear con2
      refine jo_pure rfl (pr_pick_t rfl (ht1) rfl) ?_
      refine jo_pure rfl (pr_move rfl) ?_
      have ht2 : (sameM ((parseR s).1) ((parseR (formatT ((parseR s).1))).1)) = true := by rw [parse_range_back h2, sameM_self]
      refine jo_run (j := 6) (want := true) rfl rfl (ht2) ?_
      refine jo_callp cal_53 (c_law10_awake) trivial rfl (trivial) (fun _ => ?_)
      refine jo_pure rfl (pr_pick_t rfl (ht2) rfl) ?_
      refine jo_pure rfl (pr_assign rfl) ?_
      refine jo_nil ?_
      refine jq_then ?_
      refine jc_ret ?_
      refine j_drop ?_
      refine j_drop ?_
      refine j_drop ?_
      refine j_drop ?_
      exact jq_ret1 rfl () rfl (show (.bool (true) : Value) = (.bool (true)) from rfl) (fun _ h => h)

theorem c_law10_MediatypeItself (s : List UInt8) (name : List UInt8)  : Con Tryd.prog 13 #[str (s), str (name)] [] (fun _ : Unit => .bool (true)) (fun _ => []) := by
  refine con_of_J (args := [str (s), str (name)]) (n := 68) Tryd.func13 rfl (Nat.le_of_ble_eq_true rfl) rfl (fun w0 I0 m0 => ?_)
  show J _ [(0, str (s)), (1, str (name))] [] _
  refine jc_seq ?_
  refine jc_region ?_
  refine jo_pure rfl (pr_assign rfl) ?_
  refine jo_nil ?_
  refine jq_then ?_
  refine jc_seq ?_
  refine jc_seq ?_
  refine jc_region ?_
  refine jo_pure rfl (pr_move rfl) ?_
  refine jo_pure rfl (pr_slen rfl Tryd.underlying9) ?_
  refine jo_pure rfl (pr_gtrN (m := s.length) (n := 1000) rfl rfl) ?_
  refine jo_pure rfl (pr_move rfl) ?_
  refine jo_gpure (j := 3) (want := false) rfl rfl rfl rfl (fun hg => pr_move rfl) ?_
  refine jo_gpure (j := 3) (want := false) rfl rfl rfl rfl (fun hg => pr_slen (evg rfl hg) Tryd.underlying9) ?_
  refine jo_gpure (j := 3) (want := false) rfl rfl rfl rfl (fun hg => pr_gtrN (m := name.length) (n := 50) (evg rfl hg) rfl) ?_
  refine jo_pure rfl (pr_pick_or rfl rfl rfl) ?_
  refine jo_nil ?_
  refine jq_then ?_
  refine jc_cond rfl (fun h1b => ?_) (fun h1b => ?_)
  · have h1 := (fun q => Or.imp of_decide_eq_true of_decide_eq_true (bt_or q)) h1b
    refine jc_seq ?_
    refine jc_region ?_
    refine jo_pure rfl (pr_assign rfl) ?_
    refine jo_nil ?_
    refine jq_then ?_
    refine jc_ret ?_
    refine jq_then_ret ?_
    exact jq_ret1 rfl () rfl (show (.bool (true) : Value) = (.bool (true)) from rfl) (fun _ h => h)
  · have h1 := (fun q => And.imp of_decide_eq_false of_decide_eq_false (bf_or q)) h1b
    refine jc_skip ?_
    refine jq_then ?_
    refine jc_seq ?_
    refine jc_region ?_
    refine jo_pure rfl (pr_move rfl) ?_
    refine jo_callp cal_48 (c_mediatype_Parse s (by first | omega | (have := parseT_len s; omega) | (have := parseT_len s; exact fun x hx => by have := this.2.2.2 x hx; omega) | (have := parseT_len s; simp only [List.length_append, List.length_cons, List.length_nil]; omega) | (have h9 := parseT_len s; intro x hx; rcases List.mem_append.1 hx with hx | hx; (· have := h9.2.2.2 x (by simpa using hx); omega); (· obtain rfl := List.mem_singleton.1 hx; simp only [List.length_append, List.length_cons, List.length_nil, lower_length]; omega)) | (intro x hx; cases hx) | exact Nat.zero_le _)) ⟨rfl, trivial⟩ rfl (trivial) (fun r1 => ?_)
    show J _ _ [.row (r1) 52 (.pair .str .str) ((parseT s).1.2.2)] _
    refine jo_pure rfl (pr_move rfl) ?_
    refine jo_pure rfl (pr_extract rfl rfl) ?_
    refine jo_pure rfl (pr_extract rfl rfl) ?_
    refine jo_alloc ty_56 [str ([]), str ([]), .slice none 0 0] rfl rfl (fun b1 => ?_)
    refine jo_storeV rfl rfl ty_56 [str ((parseT s).1.1), str ((parseT s).1.2.1), r1] (fun _ _ _ _ => rfl) rfl (fun w I m hs => by simp only [List.all_cons, List.all_nil, Bool.and_true, Bool.and_eq_true]; exact ⟨rfl, rfl, (SliceV.one (row_slice (.tail _ (.head _)) hs))⟩) [str ((parseT s).1.1), str ((parseT s).1.2.1), r1] rfl rfl ?_
    refine jo_pure rfl (pr_assign rfl) ?_
    refine jo_nil ?_
    refine jq_then ?_
    refine jc_seq ?_
    refine jc_seq ?_
    refine jc_region ?_
    refine jo_pure rfl (pr_move rfl) ?_
    refine jo_pure rfl (pr_not rfl) ?_
    refine jo_nil ?_
    refine jq_then ?_
    refine jc_cond rfl (fun h2b => ?_) (fun h2b => ?_)
    · have h2 := (fun q => id (bt_not q)) h2b
      refine jc_seq ?_
      refine jc_region ?_
      refine jo_callp cal_53 (c_law10_awake) trivial rfl (trivial) (fun _ => ?_)
      refine jo_pure rfl (pr_assign rfl) ?_
      refine jo_nil ?_
      refine jq_then ?_
      refine jc_ret ?_
      refine jq_then_ret ?_
      refine j_drop ?_
      refine j_drop ?_
      exact jq_ret1 rfl () rfl (show (.bool (true) : Value) = (.bool (true)) from rfl) (fun _ h => h)
    · have h2 := (fun q => id (bf_not q)) h2b
      have hok := parseT_ok h2
      refine jc_skip ?_
      refine jq_then ?_
      refine jc_seq ?_
      refine jc_region ?_
      refine jo_pure rfl (pr_load_box (.agg #[str ((parseT s).1.1), str ((parseT s).1.2.1), r1]) rfl ty_56 (.head _) rfl (by decide) rfl) ?_
      refine jo_alloc ty_56 [str ([]), str ([]), .slice none 0 0] rfl rfl (fun b2 => ?_)
      refine jo_storeV rfl rfl ty_56 [str ((parseT s).1.1), str ((parseT s).1.2.1), r1] (fun _ _ _ _ => rfl) rfl (fun w I m hs => by simp only [List.all_cons, List.all_nil, Bool.and_true, Bool.and_eq_true]; exact ⟨rfl, rfl, (SliceV.one (row_slice (.tail _ (.tail _ (.head _))) hs))⟩) [str ((parseT s).1.1), str ((parseT s).1.2.1), r1] rfl rfl ?_
      refine jo_nil ?_
      refine jq_then ?_
      refine jc_seq ?_
      refine jc_region ?_
      refine jo_pure rfl (pr_fieldAddr 2 rfl Tryd.underlying56 rfl ty_45 rfl rfl) ?_
      refine jo_pure rfl (pr_load_box (r1) rfl ty_45 (.tail _ (.head _)) rfl (by decide) rfl) ?_
      refine j_nil_row 52 (.pair .str .str) ?_
      refine j_pull3 ?_
      refine j_pub_row ?_
      refine j_pull1 ?_
      refine jo_append_imm rfl rfl (.head _) Tryd.underlying45 ty_52 rfl (by have := parseT_len s; simp only [List.length_append, List.length_cons, List.length_nil, maxLen]; omega) (by have := parseT_len s; simp only [List.length_append, List.length_cons, List.length_nil]; omega) rfl (fun v1 => ?_)
      refine jo_pure rfl (pr_move rfl) ?_
      refine jo_callp cal_46 (c_ref01_Lower name (by first | omega | (have := parseT_len s; omega) | (have := parseT_len s; exact fun x hx => by have := this.2.2.2 x hx; omega) | (have := parseT_len s; simp only [List.length_append, List.length_cons, List.length_nil]; omega) | (have h9 := parseT_len s; intro x hx; rcases List.mem_append.1 hx with hx | hx; (· have := h9.2.2.2 x (by simpa using hx); omega); (· obtain rfl := List.mem_singleton.1 hx; simp only [List.length_append, List.length_cons, List.length_nil, lower_length]; omega)) | (intro x hx; cases hx) | exact Nat.zero_le _)) ⟨rfl, trivial⟩ rfl (trivial) (fun _ => ?_)
      refine jo_pure rfl (pr_sadd rfl rfl (by simp only [List.length_append, List.length_cons, List.length_nil, lower_length]; omega)) ?_
      refine jo_pure rfl (pr_move rfl) ?_
      refine jo_pure rfl (pr_sadd rfl rfl (by simp only [List.length_append, List.length_cons, List.length_nil, lower_length]; omega)) ?_
      refine jo_pure rfl (pr_build [(0, str (([120] ++ (lower name)) ++ s)), (1, str ([49]))] [str (([120] ++ (lower name)) ++ s), str ([49])] (fun a hf => by simp only [List.map_toArray, List.map_cons, List.map_nil, hf.ev (show ev _ (.tmp 32) = some (str (([120] ++ (lower name)) ++ s)) from rfl)] <;> rfl) (by kernel_rfl)) ?_
      refine jo_buildSlice (t := (.pair .str .str)) [(([120] ++ (lower name)) ++ s, [49])] [.agg #[str (([120] ++ (lower name)) ++ s), str ([49])]] (fun a hf => by simp only [List.zipIdx_cons, List.zipIdx_nil, List.map_toArray, List.map_cons, List.map_nil, hf.ev (show ev _ (.tmp 33) = some (.agg #[str (([120] ++ (lower name)) ++ s), str ([49])]) from rfl)]) rfl Tryd.underlying45 ty_52 rfl rfl rfl rfl rfl (fun g1 => ?_)
      refine j_pull1 ?_
      refine jo_append rfl rfl Tryd.underlying45 ty_52 rfl (by have := parseT_len s; simp only [List.length_append, List.length_cons, List.length_nil, maxLen]; omega) (by have := parseT_len s; simp only [List.length_append, List.length_cons, List.length_nil]; omega) rfl (fun v2 => ?_)
      refine jo_pure rfl (pr_fieldAddr 2 rfl Tryd.underlying56 rfl ty_45 rfl rfl) ?_
      refine j_pull2 ?_
      refine jo_storeV rfl rfl ty_45 [v2] (fun w I m hs => (SliceV.cells (row_slice (.tail _ (.head _)) hs))) rfl (fun w I m hs => by simp only [List.all_cons, List.all_nil, Bool.and_true, Bool.and_eq_true]; exact (SliceV.one (row_slice (.tail _ (.head _)) hs))) [str ((parseT s).1.1), str ((parseT s).1.2.1), v2] rfl rfl ?_
      refine jo_nil ?_
      refine jq_then ?_
      refine jc_seq ?_
      refine j_pull1 ?_
      refine j_pub_row ?_
      refine j_nil_imm (.pair .str .str) ?_
      refine jc_draws mixed (by kernel_rfl) ?_
      refine jd_pure rfl (pr_load_box (.agg #[str ((parseT s).1.1), str ((parseT s).1.2.1), r1]) rfl ty_56 (.tail _ (.tail _ (.tail _ (.tail _ (.head _))))) rfl (by decide) rfl) ?_
      refine jd_pure rfl (pr_load_box (.agg #[str ((parseT s).1.1), str ((parseT s).1.2.1), r1]) rfl ty_56 (.tail _ (.tail _ (.tail _ (.tail _ (.head _))))) rfl (by decide) rfl) ?_
      refine jd_callp cal_54 (c_mediatype_Match ((parseT s).1) r1 ((parseT s).1) r1 (by first | omega | (have := parseT_len s; omega) | (have := parseT_len s; exact fun x hx => by have := this.2.2.2 x hx; omega) | (have := parseT_len s; simp only [List.length_append, List.length_cons, List.length_nil]; omega) | (have h9 := parseT_len s; intro x hx; rcases List.mem_append.1 hx with hx | hx; (· have := h9.2.2.2 x (by simpa using hx); omega); (· obtain rfl := List.mem_singleton.1 hx; simp only [List.length_append, List.length_cons, List.length_nil, lower_length]; omega)) | (intro x hx; cases hx) | exact Nat.zero_le _) (by first | omega | (have := parseT_len s; omega) | (have := parseT_len s; exact fun x hx => by have := this.2.2.2 x hx; omega) | (have := parseT_len s; simp only [List.length_append, List.length_cons, List.length_nil]; omega) | (have h9 := parseT_len s; intro x hx; rcases List.mem_append.1 hx with hx | hx; (· have := h9.2.2.2 x (by simpa using hx); omega); (· obtain rfl := List.mem_singleton.1 hx; simp only [List.length_append, List.length_cons, List.length_nil, lower_length]; omega)) | (intro x hx; cases hx) | exact Nat.zero_le _) (by first | omega | (have := parseT_len s; omega) | (have := parseT_len s; exact fun x hx => by have := this.2.2.2 x hx; omega) | (have := parseT_len s; simp only [List.length_append, List.length_cons, List.length_nil]; omega) | (have h9 := parseT_len s; intro x hx; rcases List.mem_append.1 hx with hx | hx; (· have := h9.2.2.2 x (by simpa using hx); omega); (· obtain rfl := List.mem_singleton.1 hx; simp only [List.length_append, List.length_cons, List.length_nil, lower_length]; omega)) | (intro x hx; cases hx) | exact Nat.zero_le _) (by first | omega | (have := parseT_len s; omega) | (have := parseT_len s; exact fun x hx => by have := this.2.2.2 x hx; omega) | (have := parseT_len s; simp only [List.length_append, List.length_cons, List.length_nil]; omega) | (have h9 := parseT_len s; intro x hx; rcases List.mem_append.1 hx with hx | hx; (· have := h9.2.2.2 x (by simpa using hx); omega); (· obtain rfl := List.mem_singleton.1 hx; simp only [List.length_append, List.length_cons, List.length_nil, lower_length]; omega)) | (intro x hx; cases hx) | exact Nat.zero_le _)) ⟨rfl, rfl, trivial⟩ rfl (⟨⟨rfl, .tail _ (.tail _ (.tail _ (.head _)))⟩, ⟨⟨rfl, .tail _ (.tail _ (.tail _ (.head _)))⟩, trivial⟩⟩) ?_
      refine jd_pure rfl (pr_fieldAddr 2 rfl Tryd.underlying56 rfl ty_45 rfl rfl) ?_
      refine jd_pure rfl (pr_load_box (r1) rfl ty_45 (.tail _ (.tail _ (.tail _ (.tail _ (.head _))))) rfl (by decide) rfl) ?_
      refine jd_pure rfl (pr_len_imm rfl (.tail _ (.tail _ (.tail _ (.head _)))) Tryd.underlying45) ?_
      refine jd_pure rfl (pr_addN (m := 2) (n := ((parseT s).1.2.2).length) rfl rfl (by have := parseT_len s; omega)) ?_
      refine jd_pure rfl (pr_eql (n := ((2 + (((parseT s).1.2.2).length) : Nat) : Int)) rfl rfl) ?_
      refine jd_pure rfl (pr_move rfl) ?_
      refine jd_gpure (j := 8) (want := true) rfl rfl rfl rfl (fun hg => pr_fieldAddr 0 rfl Tryd.underlying56 rfl ty_9 rfl rfl) ?_
      refine jd_gpure (j := 8) (want := true) rfl rfl rfl rfl (fun hg => pr_load_box (str ((parseT s).1.1)) (evg rfl hg) ty_9 (.tail _ (.tail _ (.tail _ (.tail _ (.head _))))) rfl (by decide) rfl) ?_
      refine jd_gpure (j := 8) (want := true) rfl rfl rfl rfl (fun hg => pr_build [(0, str ((parseT s).1.1)), (1, str ([42]))] [str ((parseT s).1.1), str ([42]), .slice none 0 0] (fun a hf => by simp only [List.map_toArray, List.map_cons, List.map_nil, hf.ev (show ev _ (.tmp 47) = some (str ((parseT s).1.1)) from (evg rfl hg))] <;> rfl) (by kernel_rfl)) ?_
      refine jd_gpure (j := 8) (want := true) rfl rfl rfl rfl (fun hg => pr_load_box (.agg #[str ((parseT s).1.1), str ((parseT s).1.2.1), r1]) rfl ty_56 (.tail _ (.tail _ (.tail _ (.tail _ (.head _))))) rfl (by decide) rfl) ?_
      refine jd_gcall (j := 8) (want := true) rfl rfl rfl cal_54 (fun hg => c_mediatype_Match ((parseT s).1.1, ([42], [])) (.slice none 0 0) ((parseT s).1) r1 (by first | omega | (have := parseT_len s; omega) | (have := parseT_len s; exact fun x hx => by have := this.2.2.2 x hx; omega) | (have := parseT_len s; simp only [List.length_append, List.length_cons, List.length_nil]; omega) | (have h9 := parseT_len s; intro x hx; rcases List.mem_append.1 hx with hx | hx; (· have := h9.2.2.2 x (by simpa using hx); omega); (· obtain rfl := List.mem_singleton.1 hx; simp only [List.length_append, List.length_cons, List.length_nil, lower_length]; omega)) | (intro x hx; cases hx) | exact Nat.zero_le _) (by first | omega | (have := parseT_len s; omega) | (have := parseT_len s; exact fun x hx => by have := this.2.2.2 x hx; omega) | (have := parseT_len s; simp only [List.length_append, List.length_cons, List.length_nil]; omega) | (have h9 := parseT_len s; intro x hx; rcases List.mem_append.1 hx with hx | hx; (· have := h9.2.2.2 x (by simpa using hx); omega); (· obtain rfl := List.mem_singleton.1 hx; simp only [List.length_append, List.length_cons, List.length_nil, lower_length]; omega)) | (intro x hx; cases hx) | exact Nat.zero_le _) (by first | omega | (have := parseT_len s; omega) | (have := parseT_len s; exact fun x hx => by have := this.2.2.2 x hx; omega) | (have := parseT_len s; simp only [List.length_append, List.length_cons, List.length_nil]; omega) | (have h9 := parseT_len s; intro x hx; rcases List.mem_append.1 hx with hx | hx; (· have := h9.2.2.2 x (by simpa using hx); omega); (· obtain rfl := List.mem_singleton.1 hx; simp only [List.length_append, List.length_cons, List.length_nil, lower_length]; omega)) | (intro x hx; cases hx) | exact Nat.zero_le _) (by first | omega | (have := parseT_len s; omega) | (have := parseT_len s; exact fun x hx => by have := this.2.2.2 x hx; omega) | (have := parseT_len s; simp only [List.length_append, List.length_cons, List.length_nil]; omega) | (have h9 := parseT_len s; intro x hx; rcases List.mem_append.1 hx with hx | hx; (· have := h9.2.2.2 x (by simpa using hx); omega); (· obtain rfl := List.mem_singleton.1 hx; simp only [List.length_append, List.length_cons, List.length_nil, lower_length]; omega)) | (intro x hx; cases hx) | exact Nat.zero_le _)) (fun hg => ⟨evg rfl hg, evg rfl hg, trivial⟩) rfl (fun _ => ⟨⟨rfl, .head _⟩, ⟨⟨rfl, .tail _ (.tail _ (.tail _ (.head _)))⟩, trivial⟩⟩) ?_
      refine jd_gpure (j := 8) (want := true) rfl rfl rfl rfl (fun hg => pr_eql (n := 1) (evg rfl hg) rfl) ?_
      refine jd_pure rfl (pr_pick_and rfl rfl rfl) ?_
      refine jd_pure rfl (pr_move rfl) ?_
      refine jd_gpure (j := 16) (want := true) rfl rfl rfl rfl (fun hg => pr_build [(0, str ([42])), (1, str ([42]))] [str ([42]), str ([42]), .slice none 0 0] (fun a hf => by simp only [List.map_toArray, List.map_cons, List.map_nil] <;> rfl) (by kernel_rfl)) ?_
      refine jd_gpure (j := 16) (want := true) rfl rfl rfl rfl (fun hg => pr_load_box (.agg #[str ((parseT s).1.1), str ((parseT s).1.2.1), r1]) rfl ty_56 (.tail _ (.tail _ (.tail _ (.tail _ (.head _))))) rfl (by decide) rfl) ?_
      refine jd_gcall (j := 16) (want := true) rfl rfl rfl cal_54 (fun hg => c_mediatype_Match ([42], ([42], [])) (.slice none 0 0) ((parseT s).1) r1 (by first | omega | (have := parseT_len s; omega) | (have := parseT_len s; exact fun x hx => by have := this.2.2.2 x hx; omega) | (have := parseT_len s; simp only [List.length_append, List.length_cons, List.length_nil]; omega) | (have h9 := parseT_len s; intro x hx; rcases List.mem_append.1 hx with hx | hx; (· have := h9.2.2.2 x (by simpa using hx); omega); (· obtain rfl := List.mem_singleton.1 hx; simp only [List.length_append, List.length_cons, List.length_nil, lower_length]; omega)) | (intro x hx; cases hx) | exact Nat.zero_le _) (by first | omega | (have := parseT_len s; omega) | (have := parseT_len s; exact fun x hx => by have := this.2.2.2 x hx; omega) | (have := parseT_len s; simp only [List.length_append, List.length_cons, List.length_nil]; omega) | (have h9 := parseT_len s; intro x hx; rcases List.mem_append.1 hx with hx | hx; (· have := h9.2.2.2 x (by simpa using hx); omega); (· obtain rfl := List.mem_singleton.1 hx; simp only [List.length_append, List.length_cons, List.length_nil, lower_length]; omega)) | (intro x hx; cases hx) | exact Nat.zero_le _) (by first | omega | (have := parseT_len s; omega) | (have := parseT_len s; exact fun x hx => by have := this.2.2.2 x hx; omega) | (have := parseT_len s; simp only [List.length_append, List.length_cons, List.length_nil]; omega) | (have h9 := parseT_len s; intro x hx; rcases List.mem_append.1 hx with hx | hx; (· have := h9.2.2.2 x (by simpa using hx); omega); (· obtain rfl := List.mem_singleton.1 hx; simp only [List.length_append, List.length_cons, List.length_nil, lower_length]; omega)) | (intro x hx; cases hx) | exact Nat.zero_le _) (by first | omega | (have := parseT_len s; omega) | (have := parseT_len s; exact fun x hx => by have := this.2.2.2 x hx; omega) | (have := parseT_len s; simp only [List.length_append, List.length_cons, List.length_nil]; omega) | (have h9 := parseT_len s; intro x hx; rcases List.mem_append.1 hx with hx | hx; (· have := h9.2.2.2 x (by simpa using hx); omega); (· obtain rfl := List.mem_singleton.1 hx; simp only [List.length_append, List.length_cons, List.length_nil, lower_length]; omega)) | (intro x hx; cases hx) | exact Nat.zero_le _)) (fun hg => ⟨evg rfl hg, evg rfl hg, trivial⟩) rfl (fun _ => ⟨⟨rfl, .head _⟩, ⟨⟨rfl, .tail _ (.tail _ (.tail _ (.head _)))⟩, trivial⟩⟩) ?_
      refine jd_gpure (j := 16) (want := true) rfl rfl rfl rfl (fun hg => pr_eql (n := 0) (evg rfl hg) rfl) ?_
      refine jd_pure rfl (pr_pick_and rfl rfl rfl) ?_
      refine jd_pure rfl (pr_move rfl) ?_
      refine jd_gpure (j := 22) (want := true) rfl rfl rfl rfl (fun hg => pr_load_box (.agg #[str ((parseT s).1.1), str ((parseT s).1.2.1), v2]) rfl ty_56 (.tail _ (.tail _ (.head _))) rfl (by decide) rfl) ?_
      refine jd_gpure (j := 22) (want := true) rfl rfl rfl rfl (fun hg => pr_load_box (.agg #[str ((parseT s).1.1), str ((parseT s).1.2.1), r1]) rfl ty_56 (.tail _ (.tail _ (.tail _ (.tail _ (.head _))))) rfl (by decide) rfl) ?_
      refine jd_gcall (j := 22) (want := true) rfl rfl rfl cal_54 (fun hg => c_mediatype_Match ((parseT s).1.1, ((parseT s).1.2.1, ([] ++ ((parseT s).1.2.2)) ++ [(([120] ++ (lower name)) ++ s, [49])])) v2 ((parseT s).1) r1 (by first | omega | (have := parseT_len s; omega) | (have := parseT_len s; exact fun x hx => by have := this.2.2.2 x hx; omega) | (have := parseT_len s; simp only [List.length_append, List.length_cons, List.length_nil]; omega) | (have h9 := parseT_len s; intro x hx; rcases List.mem_append.1 hx with hx | hx; (· have := h9.2.2.2 x (by simpa using hx); omega); (· obtain rfl := List.mem_singleton.1 hx; simp only [List.length_append, List.length_cons, List.length_nil, lower_length]; omega)) | (intro x hx; cases hx) | exact Nat.zero_le _) (by first | omega | (have := parseT_len s; omega) | (have := parseT_len s; exact fun x hx => by have := this.2.2.2 x hx; omega) | (have := parseT_len s; simp only [List.length_append, List.length_cons, List.length_nil]; omega) | (have h9 := parseT_len s; intro x hx; rcases List.mem_append.1 hx with hx | hx; (· have := h9.2.2.2 x (by simpa using hx); omega); (· obtain rfl := List.mem_singleton.1 hx; simp only [List.length_append, List.length_cons, List.length_nil, lower_length]; omega)) | (intro x hx; cases hx) | exact Nat.zero_le _) (by first | omega | (have := parseT_len s; omega) | (have := parseT_len s; exact fun x hx => by have := this.2.2.2 x hx; omega) | (have := parseT_len s; simp only [List.length_append, List.length_cons, List.length_nil]; omega) | (have h9 := parseT_len s; intro x hx; rcases List.mem_append.1 hx with hx | hx; (· have := h9.2.2.2 x (by simpa using hx); omega); (· obtain rfl := List.mem_singleton.1 hx; simp only [List.length_append, List.length_cons, List.length_nil, lower_length]; omega)) | (intro x hx; cases hx) | exact Nat.zero_le _) (by first | omega | (have := parseT_len s; omega) | (have := parseT_len s; exact fun x hx => by have := this.2.2.2 x hx; omega) | (have := parseT_len s; simp only [List.length_append, List.length_cons, List.length_nil]; omega) | (have h9 := parseT_len s; intro x hx; rcases List.mem_append.1 hx with hx | hx; (· have := h9.2.2.2 x (by simpa using hx); omega); (· obtain rfl := List.mem_singleton.1 hx; simp only [List.length_append, List.length_cons, List.length_nil, lower_length]; omega)) | (intro x hx; cases hx) | exact Nat.zero_le _)) (fun hg => ⟨evg rfl hg, evg rfl hg, trivial⟩) rfl (fun _ => ⟨⟨rfl, .tail _ (.head _)⟩, ⟨⟨rfl, .tail _ (.tail _ (.tail _ (.head _)))⟩, trivial⟩⟩) ?_
      refine jd_gpure (j := 22) (want := true) rfl rfl rfl rfl (fun hg => pr_eql (n := -1) (evg rfl hg) rfl) ?_
      refine jd_pure rfl (pr_pick_and rfl rfl rfl) ?_
      refine jd_pure rfl (pr_move rfl) ?_
      refine jd_gcall (j := 28) (want := true) rfl rfl rfl cal_53 (fun hg => c_law10_awake) (fun hg => trivial) rfl (fun _ => trivial) ?_
      refine jd_pure rfl (pr_pick_and rfl rfl rfl) ?_
      refine jd_pure rfl (pr_assign rfl) ?_
      refine jd_nil ?_
      refine jq_then ?_
      refine jc_ret ?_
      refine j_drop ?_
      refine j_drop ?_
      refine j_drop ?_
      refine j_drop ?_
      refine j_drop ?_
      exact jq_ret1 rfl () rfl (show (.bool (true) : Value) = (.bool (((((decide ((matchT ((parseT s).1) ((parseT s).1) : Int) = ((2 + (((parseT s).1.2.2).length) : Nat) : Int)) && decide ((matchT ((parseT s).1.1, ([42], [])) ((parseT s).1) : Int) = 1)) && decide ((matchT ([42], ([42], [])) ((parseT s).1) : Int) = 0)) && decide ((matchT ((parseT s).1.1, ((parseT s).1.2.1, ([] ++ ((parseT s).1.2.2)) ++ [(([120] ++ (lower name)) ++ s, [49])])) ((parseT s).1) : Int) = -1)) && true))) from by rw [match_self hok.1 hok.2, match_type hok.1, match_all, match_more2 hok.1 hok.2 more_new]; simp) (fun _ h => h)
end Go.Proofs.YtaicfjchbhnegaaDoor
