/-
 Contracts of functions of the program: each returns what a plain function says, for every input within the bounds named. Conditions: the bounds.
-/
import Derived.Test.YtlniaacdjllonaaGreatRows
import Derived.Test.YtlniaacdjllonaaGreatWK3
namespace Go.Proofs.YtlniaacdjllonaaGreat
open Go Go.Sep
set_option linter.unusedSimpArgs false
set_option linter.unusedVariables false

open Go.Plain

theorem cal_57 : Cal Tryz.prog 57 := cal_of Tryz.func57 (by kernel_rfl) rfl
theorem c_keep_Strings (l : List Str) (lv : Value) (hl : l.length ≤ 9223372036854775807) : Con Tryz.prog 57 #[lv] [.imm (.list .str) (lv) (l)] (fun _ : Unit => .bool (keepS l)) (fun _ => []) := by
 refine con_of_J (args := [lv]) (n := 23) Tryz.func57 rfl (Nat.le_of_ble_eq_true rfl) rfl (fun w0 I0 m0 => ?_)
 refine jc_seq (jc_region (jo_pure rfl (pr_assign rfl) (jo_nil (jq_then (jc_seq (jc_seq (jc_region (jo_pure rfl (pr_assign rfl) (jo_nil (jq_then (jc_block ?_)))))))))))
 refine jc_loop (fun (i : Nat) => [(0, lv), (3, .int .i64 ((i : Nat) : Int))]) (fun (i : Nat) => [.imm (.list .str) (lv) (l)]) (fun (i : Nat) => i ≤ 21 ∧ (l.take i).all okS = true) (fun (i : Nat) => 21 - i) 0 (⟨Nat.zero_le _, rfl⟩) (⟨rfl, rfl, trivial⟩) (fun _ h => h) (fun i hinv => ?_)
 refine jc_seq (jc_seq (jc_region (jo_pure rfl (pr_move rfl) (jo_pure rfl (pr_move rfl) (jo_pure rfl (pr_len_imm rfl (.head _) Tryz.underlying28) ?_)))))
 refine jo_pure rfl (pr_lssN (m := i) (n := l.length) rfl rfl) ?_
 refine jo_pure rfl (pr_move rfl) (jo_gpure (j := 4) (want := true) rfl rfl rfl rfl (fun hg=>pr_move rfl) (jo_gpure (j := 4) (want := true) rfl rfl rfl rfl (fun hg=>pr_lssN (m := i) (n := 21) (evg rfl hg) rfl) ?_))
 refine jo_pure rfl (pr_pick_and rfl rfl rfl) ?_
 refine jo_nil (jq_then ?_)
 refine jc_cond rfl (fun h1b => ?_) (fun h1b => ?_)
 ·have h1 := (fun q => And.imp of_decide_eq_true of_decide_eq_true (bt_and q)) h1b
  refine jc_skip (jq_then (jc_seq (jc_block (jc_seq (jc_region (jo_pure rfl (pr_move rfl) (jo_pure rfl (pr_move rfl) (jo_pure rfl (pr_idx_imm (i := i) rfl (.head _) rfl Tryz.underlying28 ty_9 (by omega)) ?_))))))))
  refine jo_pure rfl (pr_load_elem_imm (i := i) (str (l.getD i [])) rfl (.head _) ty_9 rfl rfl (by omega) rfl) ?_
  refine jo_pure rfl (pr_slen rfl Tryz.underlying9) ?_
  refine jo_pure rfl (pr_gtrN (m := (l.getD i []).length) (n := 100) rfl rfl) ?_
  refine jo_nil (jq_then ?_)
  refine jc_cond rfl (fun h2b => ?_) (fun h2b => ?_)
  ·have h2 := of_decide_eq_true h2b
   refine jc_seq (jc_region (jo_pure rfl (pr_assign rfl) (jo_nil (jq_then (jc_ret (jq_in_ret ?_))))))
   refine jq_then_ret (jq_then_ret (jq_in_ret ?_))
   refine jq_then_ret (j_drop ?_)
   exact jq_ret1 rfl () rfl (show (.bool (keepS l) : Value) = (.bool (false)) from congrArg Value.bool (by rw [keepS, keep_miss (dd := []) h1.2 h1.1 (by unfold okS; rw [h2b]; rfl)]; rfl)) (fun _ h => h)
  ·have h2 := of_decide_eq_false h2b
   refine jc_skip (jq_in_normal (jq_then (jc_region (jo_pure rfl (pr_move rfl) (jo_pure rfl (pr_addN (m := i) (n := 1) rfl rfl (by omega)) ?_)))))
   refine jo_pure rfl (pr_assign rfl) (jo_nil ?_)
   refine jq_round' (i + 1) (by (try dsimp only); exact (⟨by omega, all_step (dd := []) h1.1 hinv.2 (by unfold okS; rw [h2b]; rfl)⟩)) (by (try dsimp only); exact (by omega)) ⟨rfl, rfl, trivial⟩ (fun _ h => h)
 ·have h1 := (fun q => Or.imp of_decide_eq_false of_decide_eq_false (bf_and q)) h1b
  refine jc_exit ?_
  refine jq_then_exit ?_
  refine jq_then_exit ?_
  refine jq_in_hit ?_
  refine jq_then (jc_seq (jc_region (jo_pure rfl (pr_move rfl) (jo_pure rfl (pr_len_imm rfl (.head _) Tryz.underlying28) ?_))))
  refine jo_pure rfl (pr_leqN (m := l.length) (n := 20) rfl rfl) ?_
  refine jo_pure rfl (pr_assign rfl) (jo_nil (jq_then (jc_ret (j_drop ?_))))
  exact jq_ret1 rfl () rfl (show (.bool (keepS l) : Value) = (.bool (decide ((l.length : Nat) ≤ 20))) from congrArg Value.bool (by rw [keepS, keep_end hinv.1 h1 hinv.2]; rfl)) (fun _ h => h)

theorem c_keep_Axes (l : List (Axs)) (lv : Value) (hl : l.length ≤ 9223372036854775807) (hm : ∀ a ∈ l, a.2.length ≤ 9223372036854775807) : Con Tryz.prog 34 #[lv] [.imm (.list (.pair .str (.list .str))) (lv) (l)] (fun _ : Unit => .bool (keepA l)) (fun _ => []) := by
 refine con_of_J (args := [lv]) (n := 33) Tryz.func34 rfl (Nat.le_of_ble_eq_true rfl) rfl (fun w0 I0 m0 => ?_)
 refine jc_seq (jc_region (jo_pure rfl (pr_assign rfl) (jo_nil (jq_then (jc_seq (jc_seq (jc_region (jo_pure rfl (pr_assign rfl) (jo_nil (jq_then (jc_block ?_)))))))))))
 refine jc_loop (fun (i : Nat) => [(0, lv), (3, .int .i64 ((i : Nat) : Int))]) (fun (i : Nat) => [.imm (.list (.pair .str (.list .str))) (lv) (l)]) (fun (i : Nat) => i ≤ 7 ∧ (l.take i).all okA = true) (fun (i : Nat) => 7 - i) 0 (⟨Nat.zero_le _, rfl⟩) (⟨rfl, rfl, trivial⟩) (fun _ h => h) (fun i hinv => ?_)
 refine jc_seq (jc_seq (jc_region (jo_pure rfl (pr_move rfl) (jo_pure rfl (pr_move rfl) (jo_pure rfl (pr_len_imm rfl (.head _) Tryz.underlying41) ?_)))))
 refine jo_pure rfl (pr_lssN (m := i) (n := l.length) rfl rfl) ?_
 refine jo_pure rfl (pr_move rfl) (jo_gpure (j := 4) (want := true) rfl rfl rfl rfl (fun hg=>pr_move rfl) (jo_gpure (j := 4) (want := true) rfl rfl rfl rfl (fun hg=>pr_lssN (m := i) (n := 7) (evg rfl hg) rfl) ?_))
 refine jo_pure rfl (pr_pick_and rfl rfl rfl) ?_
 refine jo_nil (jq_then ?_)
 refine jc_cond rfl (fun h1b => ?_) (fun h1b => ?_)
 ·have h1 := (fun q => And.imp of_decide_eq_true of_decide_eq_true (bt_and q)) h1b
  refine jc_skip (jq_then (jc_seq (jc_block (jc_seq (jc_region (jo_pure rfl (pr_move rfl) (jo_pure rfl (pr_move rfl) ?_)))))))
  refine j_open_elem (t := (.pair .str (.list .str))) (i := i) ([], []) (.head _) (by first | omega | (simp at hg; omega)) (fun ⟨_, e1⟩ => ?_)
  refine jo_pure rfl (pr_idx_imm (i := i) rfl (.tail _ (.tail _ (.head _))) rfl Tryz.underlying41 ty_83 (by first | omega | (simp at hg; omega))) ?_
  refine jo_pure rfl (pr_fieldAddr_imm (i := i) rfl (.tail _ (.tail _ (.head _))) Tryz.underlying83 rfl ty_9 rfl rfl (by first | omega | (simp at hg; omega))) ?_
  refine jo_pure rfl (pr_load_off_at (o := 0) (str (((l.getD i ([], []))).1)) rfl (.tail _ (.head _)) ty_9 (by decide) rfl rfl) ?_
  refine jo_pure rfl (pr_slen rfl Tryz.underlying9) ?_
  refine jo_pure rfl (pr_gtrN (m := (((l.getD i ([], []))).1).length) (n := 100) rfl rfl) ?_
  refine jo_pure rfl (pr_move rfl) (jo_gpure (j := 7) (want := false) rfl rfl rfl rfl (fun hg=>pr_move rfl) (jo_gpure (j := 7) (want := false) rfl rfl rfl rfl (fun hg=>pr_move rfl) (jo_gpure (j := 7) (want := false) rfl rfl rfl rfl (fun hg=>pr_idx_imm (i := i) (evg rfl hg) (.tail _ (.tail _ (.head _))) (evg rfl hg) Tryz.underlying41 ty_83 (by first | omega | (simp at hg; omega))) ?_)))
  refine jo_gpure (j := 7) (want := false) rfl rfl rfl rfl (fun hg=>pr_fieldAddr_imm (i := i) (evg rfl hg) (.tail _ (.tail _ (.head _))) Tryz.underlying83 rfl ty_28 rfl rfl (by first | omega | (simp at hg; omega))) ?_
  refine jo_gpure (j := 7) (want := false) rfl rfl rfl rfl (fun hg=>pr_load_off_at (o := 1) (e1) (evg rfl hg) (.tail _ (.head _)) ty_28 (by decide) rfl rfl) ?_
  refine jo_gcall (j := 7) (want := false) rfl rfl rfl cal_57 (fun hg => c_keep_Strings (((l.getD i ([], []))).2) e1 (by exact hm _ (getD_mem (dd := ([], [])) h1.1))) (fun hg => ⟨evg rfl hg, trivial⟩) rfl (fun _ => ⟨⟨rfl, .head _⟩, trivial⟩) ?_
  refine jo_gpure (j := 7) (want := false) rfl rfl rfl rfl (fun hg=>pr_not (evg rfl hg)) ?_
  refine jo_pure rfl (pr_pick_or rfl rfl rfl) ?_
  refine jo_nil (jq_then ?_)
  refine jc_cond rfl (fun h2b => ?_) (fun h2b => ?_)
  ·have h2 := (fun q => Or.imp of_decide_eq_true (fun q => id (bt_not q)) (bt_or q)) h2b
   refine jc_seq (jc_region (jo_pure rfl (pr_assign rfl) (jo_nil (jq_then (jc_ret (jq_in_ret ?_))))))
   refine jq_then_ret (jq_then_ret (jq_in_ret ?_))
   refine jq_then_ret (j_drop (j_drop (j_drop ?_)))
   exact jq_ret1 rfl () rfl (show (.bool (keepA l) : Value) = (.bool (false)) from congrArg Value.bool (by rw [keepA, keep_miss (dd := ([], [])) h1.2 h1.1 (by unfold okA; rw [h2b]; rfl)]; rfl)) (fun _ h => h)
  ·have h2 := (fun q => And.imp of_decide_eq_false (fun q => id (bf_not q)) (bf_or q)) h2b
   refine jc_skip (jq_in_normal (jq_then (jc_region (jo_pure rfl (pr_move rfl) (jo_pure rfl (pr_addN (m := i) (n := 1) rfl rfl (by omega)) ?_)))))
   refine jo_pure rfl (pr_assign rfl) (jo_nil (j_drop (j_drop ?_)))
   refine jq_round' (i + 1) (by (try dsimp only); exact (⟨by omega, all_step (dd := ([], [])) h1.1 hinv.2 (by unfold okA; rw [h2b]; rfl)⟩)) (by (try dsimp only); exact (by omega)) ⟨rfl, rfl, trivial⟩ (fun _ h => h)
 ·have h1 := (fun q => Or.imp of_decide_eq_false of_decide_eq_false (bf_and q)) h1b
  refine jc_exit ?_
  refine jq_then_exit ?_
  refine jq_then_exit ?_
  refine jq_in_hit ?_
  refine jq_then (jc_seq (jc_region (jo_pure rfl (pr_move rfl) (jo_pure rfl (pr_len_imm rfl (.head _) Tryz.underlying41) ?_))))
  refine jo_pure rfl (pr_leqN (m := l.length) (n := 6) rfl rfl) ?_
  refine jo_pure rfl (pr_assign rfl) (jo_nil (jq_then (jc_ret (j_drop ?_))))
  exact jq_ret1 rfl () rfl (show (.bool (keepA l) : Value) = (.bool (decide ((l.length : Nat) ≤ 6))) from congrArg Value.bool (by rw [keepA, keep_end hinv.1 h1 hinv.2]; rfl)) (fun _ h => h)
end Go.Proofs.YtlniaacdjllonaaGreat
