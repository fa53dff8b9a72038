/-
  Contracts of functions of the program: each returns what a plain function says, for every input within the bounds named. Conditions: the bounds.
-/
import Derived.Test.YtikllmfjgpmcnaaDoorRows
import Derived.Test.YtikllmfjgpmcnaaDoorC10
import Derived.Test.YtikllmfjgpmcnaaDoorSepN
import Derived.Test.YtikllmfjgpmcnaaDoorLaw11
namespace Go.Proofs.YtikllmfjgpmcnaaDoor
open Go Go.Sep
set_option linter.unusedSimpArgs false
set_option linter.unusedVariables false

open Go.Plain

theorem cal_52 : Cal Tryd.prog 52 := cal_of Tryd.func52 (by kernel_rfl) rfl
theorem cal_53 : Cal Tryd.prog 53 := cal_of Tryd.func53 (by kernel_rfl) rfl
theorem cal_83 : Cal Tryd.prog 83 := cal_of Tryd.func83 (by kernel_rfl) rfl
theorem cal_96 : Cal Tryd.prog 96 := cal_of Tryd.func96 (by kernel_rfl) rfl
theorem cal_117 : Cal Tryd.prog 117 := cal_of Tryd.func117 (by kernel_rfl) rfl
theorem cal_132 : Cal Tryd.prog 132 := cal_of Tryd.func132 (by kernel_rfl) rfl

theorem c_list_step (st : Nat) (c : UInt8) (hst : st ≤ 2) : Con Tryd.prog 83 #[.int .i64 ((st : Nat) : Int), byte (c)] [] (fun _ : Unit => .int .i64 ((stepF st c : Nat) : Int)) (fun _ => []) := by
  refine con_of_J (args := [.int .i64 ((st : Nat) : Int), byte (c)]) (n := 21) Tryd.func83 rfl (Nat.le_of_ble_eq_true rfl) rfl (fun w0 I0 m0 => ?_)
  show J _ [(0, .int .i64 ((st : Nat) : Int)), (1, byte (c))] [] _
  refine jc_seq ?_
  refine jc_region ?_
  refine jo_pure rfl (pr_assign rfl) ?_
  refine jo_nil ?_
  refine jq_then ?_
  refine jc_seq ?_
  refine jc_block ?_
  refine jc_seq ?_
  refine jc_region ?_
  refine jo_pure rfl (pr_move rfl) ?_
  refine jo_pure rfl (pr_eqlN (m := st) (n := 2) rfl rfl) ?_
  refine jo_pure rfl (pr_assign rfl) ?_
  refine jo_nil ?_
  refine jq_then ?_
  refine jc_cond rfl (fun h1b => ?_) (fun h1b => ?_)
  · have h1 := of_decide_eq_true h1b
    refine jc_seq ?_
    refine jc_region ?_
    refine jo_pure rfl (pr_assign rfl) ?_
    refine jo_nil ?_
    refine jq_then ?_
    refine jc_ret ?_
    refine jq_in_ret ?_
    refine jq_then_ret ?_
    exact jq_ret1 rfl () rfl (show (.int .i64 ((stepF st c : Nat) : Int) : Value) = (.int .i64 ((1 : Nat) : Int)) from congrArg (fun n : Nat => Value.int .i64 (n : Int)) (by rw [stepF, if_pos h1])) (fun _ h => h)
  · have h1 := of_decide_eq_false h1b
    refine jc_seq ?_
    refine jc_region ?_
    refine jo_pure rfl (pr_move rfl) ?_
    refine jo_pure rfl (pr_eqlN (m := st) (n := 1) rfl rfl) ?_
    refine jo_pure rfl (pr_move rfl) ?_
    refine jo_gpure (j := 2) (want := true) rfl rfl rfl rfl (fun hg => pr_move rfl) ?_
    refine jo_gpure (j := 2) (want := true) rfl rfl rfl rfl (fun hg => pr_beql (n := 92) (evg rfl hg) rfl) ?_
    refine jo_pure rfl (pr_pick_and rfl rfl rfl) ?_
    refine jo_pure rfl (pr_assign rfl) ?_
    refine jo_nil ?_
    refine jq_then ?_
    refine jc_cond rfl (fun h2b => ?_) (fun h2b => ?_)
    · have h2 := (fun q => And.imp of_decide_eq_true of_decide_eq_true (bt_and q)) h2b
      refine jc_seq ?_
      refine jc_region ?_
      refine jo_pure rfl (pr_assign rfl) ?_
      refine jo_nil ?_
      refine jq_then ?_
      refine jc_ret ?_
      refine jq_in_ret ?_
      refine jq_then_ret ?_
      exact jq_ret1 rfl () rfl (show (.int .i64 ((stepF st c : Nat) : Int) : Value) = (.int .i64 ((2 : Nat) : Int)) from congrArg (fun n : Nat => Value.int .i64 (n : Int)) (by rw [stepF, if_neg h1, if_pos h2])) (fun _ h => h)
    · have h2 := (fun q => Or.imp of_decide_eq_false of_decide_eq_false (bf_and q)) h2b
      refine jc_seq ?_
      refine jc_region ?_
      refine jo_pure rfl (pr_move rfl) ?_
      refine jo_pure rfl (pr_beql (n := 34) rfl rfl) ?_
      refine jo_pure rfl (pr_assign rfl) ?_
      refine jo_nil ?_
      refine jq_then ?_
      refine jc_cond rfl (fun h3b => ?_) (fun h3b => ?_)
      · have h3 := of_decide_eq_true h3b
        refine jc_seq ?_
        refine jc_region ?_
        refine jo_pure rfl (pr_move rfl) ?_
        refine jo_pure rfl (pr_subN (m := 1) (n := st) rfl rfl (by omega) (by omega)) ?_
        refine jo_pure rfl (pr_assign rfl) ?_
        refine jo_nil ?_
        refine jq_then ?_
        refine jc_ret ?_
        refine jq_in_ret ?_
        refine jq_then_ret ?_
        exact jq_ret1 rfl () rfl (show (.int .i64 ((stepF st c : Nat) : Int) : Value) = (.int .i64 ((1 - st : Nat) : Int)) from congrArg (fun n : Nat => Value.int .i64 (n : Int)) (by rw [stepF, if_neg h1, if_neg (fun e => h2.elim (fun q => q e.1) (fun q => q e.2)), if_pos h3])) (fun _ h => h)
      · have h3 := of_decide_eq_false h3b
        refine jc_skip ?_
        refine jq_in_normal ?_
        refine jq_then ?_
        refine jc_seq ?_
        refine jc_region ?_
        refine jo_pure rfl (pr_move rfl) ?_
        refine jo_pure rfl (pr_assign rfl) ?_
        refine jo_nil ?_
        refine jq_then ?_
        refine jc_ret ?_
        exact jq_ret1 rfl () rfl (show (.int .i64 ((stepF st c : Nat) : Int) : Value) = (.int .i64 ((st : Nat) : Int)) from congrArg (fun n : Nat => Value.int .i64 (n : Int)) (by rw [stepF, if_neg h1, if_neg (fun e => h2.elim (fun q => q e.1) (fun q => q e.2)), if_neg h3])) (fun _ h => h)

theorem c_list_Split (v : List UInt8) (hs : v.length ≤ 1000000) : Con Tryd.prog 53 #[str (v)] [] (fun r1 : Value => r1) (fun r1 => [.row r1 9 .str (splitF v)]) := by
  refine con_of_J (args := [str (v)]) (n := 52) Tryd.func53 rfl (Nat.le_of_ble_eq_true rfl) rfl (fun w0 I0 m0 => ?_)
  show J _ [(0, str (v))] [] _
  refine jc_seq ?_
  refine jc_region ?_
  refine jo_pure rfl (pr_assign rfl) ?_
  refine jo_nil ?_
  refine jq_then ?_
  refine jc_seq ?_
  refine jc_region ?_
  refine jo_pure rfl (pr_assign rfl) ?_
  refine jo_nil ?_
  refine jq_then ?_
  refine jc_seq ?_
  refine jc_region ?_
  refine jo_pure rfl (pr_assign rfl) ?_
  refine jo_pure rfl (pr_assign rfl) ?_
  refine jo_nil ?_
  refine jq_then ?_
  refine jc_seq ?_
  refine jc_seq ?_
  refine jc_region ?_
  refine jo_pure rfl (pr_assign rfl) ?_
  refine jo_nil ?_
  refine jq_then ?_
  refine jc_block ?_
  refine j_nil_row 9 .str ?_
  refine jc_loop5 (fun (i : Nat) (st : Nat) (fr : Nat) (w : Value) (acc : List (List UInt8)) => [(0, str (v)), (3, w), (4, .int .i64 ((st : Nat) : Int)), (5, .int .i64 ((fr : Nat) : Int)), (6, .int .i64 ((i : Nat) : Int))]) (fun (i : Nat) (st : Nat) (fr : Nat) (w : Value) (acc : List (List UInt8)) => [.row (w) 9 .str (acc)]) (fun (i : Nat) (st : Nat) (fr : Nat) (w : Value) (acc : List (List UInt8)) => i ≤ v.length + 1 ∧ fr ≤ i ∧ st ≤ 2 ∧ acc.length ≤ 64 ∧ acc ++ rest7 v i fr st = memG (cutF v 44)) (fun (i : Nat) (st : Nat) (fr : Nat) (w : Value) (acc : List (List UInt8)) => v.length + 1 - i) 0 0 0 (.slice none 0 0) [] (⟨by omega, Nat.le_refl _, by omega, by simp, rest7_zero⟩) (⟨rfl, rfl, rfl, rfl, rfl, trivial⟩) (fun _ h => h) (fun i st fr w acc hinv => ?_)
  refine jc_seq ?_
  refine jc_seq ?_
  refine jc_region ?_
  refine jo_pure rfl (pr_move rfl) ?_
  refine jo_pure rfl (pr_move rfl) ?_
  refine jo_pure rfl (pr_slen rfl Tryd.underlying9) ?_
  refine jo_pure rfl (pr_leqN (m := i) (n := v.length) rfl rfl) ?_
  refine jo_pure rfl (pr_move rfl) ?_
  refine jo_gpure (j := 4) (want := true) rfl rfl rfl rfl (fun hg => pr_move rfl) ?_
  refine jo_gpure (j := 4) (want := true) rfl rfl rfl rfl (fun hg => pr_len_row (evg rfl hg) (.head _) Tryd.underlying22) ?_
  refine jo_gpure (j := 4) (want := true) rfl rfl rfl rfl (fun hg => pr_lssN (m := acc.length) (n := 64) (evg rfl hg) rfl) ?_
  refine jo_pure rfl (pr_pick_and rfl rfl rfl) ?_
  refine jo_nil ?_
  refine jq_then ?_
  refine jc_cond rfl (fun h1b => ?_) (fun h1b => ?_)
  · have h1 := (fun q => And.imp of_decide_eq_true of_decide_eq_true (bt_and q)) h1b
    refine jc_skip ?_
    refine jq_then ?_
    refine jc_seq ?_
    refine jc_block ?_
    refine jc_seq ?_
    refine jc_seq ?_
    refine jc_region ?_
    refine jo_pure rfl (pr_move rfl) ?_
    refine jo_pure rfl (pr_move rfl) ?_
    refine jo_pure rfl (pr_slen rfl Tryd.underlying9) ?_
    refine jo_pure rfl (pr_lssN (m := i) (n := v.length) rfl rfl) ?_
    refine jo_pure rfl (pr_move rfl) ?_
    refine jo_gpure (j := 4) (want := true) rfl rfl rfl rfl (fun hg => pr_move rfl) ?_
    refine jo_gpure (j := 4) (want := true) rfl rfl rfl rfl (fun hg => pr_neqN (m := st) (n := 0) (evg rfl hg) rfl) ?_
    refine jo_gpure (j := 4) (want := true) rfl rfl rfl rfl (fun hg => pr_move (evg rfl hg)) ?_
    refine jo_gpure2 (j := 7) (want := false) rfl rfl rfl rfl (fun hg => pr_move rfl) ?_
    refine jo_gpure2 (j := 7) (want := false) rfl rfl rfl rfl (fun hg => pr_move rfl) ?_
    refine jo_gpure2 (j := 7) (want := false) rfl rfl rfl rfl (fun hg => pr_sindex (i := i) (evg rfl hg) (evg rfl hg) Tryd.underlying9 (by first | omega | (simp at hg; omega))) ?_
    refine jo_gpure2 (j := 7) (want := false) rfl rfl rfl rfl (fun hg => pr_bneq (n := 44) (evg rfl hg) rfl) ?_
    refine jo_gpure (j := 4) (want := true) rfl rfl rfl rfl (fun hg => pr_pick_or (evg rfl hg) rfl (evg2 rfl hg)) ?_
    refine jo_pure rfl (pr_pick_and rfl rfl rfl) ?_
    refine jo_nil ?_
    refine jq_then ?_
    refine jc_cond rfl (fun h2b => ?_) (fun h2b => ?_)
    · have h2 := (fun q => And.imp of_decide_eq_true (fun q => Or.imp (fun q => of_decide_eq_false (bt_not q)) (fun q => of_decide_eq_false (bt_not q)) (bt_or q)) (bt_and q)) h2b
      refine jc_seq ?_
      refine jc_region ?_
      refine jo_pure rfl (pr_move rfl) ?_
      refine jo_pure rfl (pr_move rfl) ?_
      refine jo_pure rfl (pr_move rfl) ?_
      refine jo_pure rfl (pr_sindex (i := i) rfl rfl Tryd.underlying9 (by first | omega | (simp at hg; omega))) ?_
      refine jo_callp cal_83 (c_list_step st (v.getD i 0) (by first | omega | (simp only [List.length_drop, List.length_take]; omega) | (rw [List.length_drop, List.length_take]; omega))) ⟨rfl, rfl, trivial⟩ rfl (trivial) (fun _ => ?_)
      refine jo_pure rfl (pr_assign rfl) ?_
      refine jo_nil ?_
      refine jq_then ?_
      refine jc_exit ?_
      refine jq_then_exit ?_
      refine jq_in_hit ?_
      refine jq_then ?_
      refine jc_region ?_
      refine jo_pure rfl (pr_move rfl) ?_
      refine jo_pure rfl (pr_addN (m := i) (n := 1) rfl rfl (by omega)) ?_
      refine jo_pure rfl (pr_assign rfl) ?_
      refine jo_nil ?_
      refine jq_round' ((i + 1), (stepF st (v.getD i 0)), fr, w, acc) (by (try dsimp only); exact (⟨by omega, by omega, stepF_le hinv.2.2.1, hinv.2.2.2.1, split_next h2.1 hinv.2.1 hinv.2.2.1 (fun e => h2.2.elim (fun q => q e.1) (fun q => q e.2)) hinv.2.2.2.2⟩)) (by (try dsimp only); exact (by omega)) ⟨rfl, rfl, rfl, rfl, rfl, trivial⟩ (fun _ h => h)
    · have h2 := (fun q => Or.imp of_decide_eq_false (fun q => And.imp (fun q => of_decide_eq_true (bf_not q)) (fun q => of_decide_eq_true (bf_not q)) (bf_or q)) (bf_and q)) h2b
      refine jc_skip ?_
      refine jq_then ?_
      refine jc_seq ?_
      refine jc_seq ?_
      refine jc_region ?_
      refine jo_pure rfl (pr_move rfl) ?_
      refine jo_pure rfl (pr_move rfl) ?_
      refine jo_pure rfl (pr_move rfl) ?_
      refine jo_pure rfl (pr_sslice (i := fr) (j := i) rfl rfl rfl Tryd.underlying9 (by omega) (by omega)) ?_
      refine jo_callp cal_84 (c_ascii_Trim ((v.take i).drop fr) (by first | omega | (simp only [List.length_drop, List.length_take]; omega) | (rw [List.length_drop, List.length_take]; omega))) ⟨rfl, trivial⟩ rfl (trivial) (fun _ => ?_)
      refine jo_pure rfl (pr_assign rfl) ?_
      refine jo_nil ?_
      refine jq_then ?_
      refine jc_seq ?_
      refine jc_region ?_
      refine jo_pure rfl (pr_move rfl) ?_
      refine jo_pure rfl (pr_sneq rfl rfl) ?_
      refine jo_nil ?_
      refine jq_then ?_
      refine jc_cond rfl (fun h3b => ?_) (fun h3b => ?_)
      · have h3 := (fun q => of_decide_eq_false (bt_not q)) h3b
        refine jc_region ?_
        refine jo_pure rfl (pr_move rfl) ?_
        refine jo_pure rfl (pr_move rfl) ?_
        refine jo_buildSlice (t := .str) [trim ((v.take i).drop fr)] [str (trim ((v.take i).drop fr))] (fun a hf => by simp only [List.zipIdx_cons, List.zipIdx_nil, List.map_toArray, List.map_cons, List.map_nil, hf.ev (show ev _ (.tmp 46) = some (str (trim ((v.take i).drop fr))) from rfl)]) rfl Tryd.underlying22 ty_9 rfl rfl rfl rfl rfl (fun g1 => ?_)
        refine j_pull1 ?_
        refine jo_append rfl rfl Tryd.underlying22 ty_9 rfl (by simp only [List.length_append, List.length_cons, List.length_nil, maxLen]; omega) (by simp only [List.length_append, List.length_cons, List.length_nil]; omega) rfl (fun v1 => ?_)
        refine jo_pure rfl (pr_assign rfl) ?_
        refine jo_nil ?_
        refine jq_then ?_
        refine jc_region ?_
        refine jo_pure rfl (pr_move rfl) ?_
        refine jo_pure rfl (pr_addN (m := i) (n := 1) rfl rfl (by omega)) ?_
        refine jo_pure rfl (pr_assign rfl) ?_
        refine jo_nil ?_
        refine jq_in_normal ?_
        refine jq_then ?_
        refine jc_region ?_
        refine jo_pure rfl (pr_move rfl) ?_
        refine jo_pure rfl (pr_addN (m := i) (n := 1) rfl rfl (by omega)) ?_
        refine jo_pure rfl (pr_assign rfl) ?_
        refine jo_nil ?_
        refine jq_round' ((i + 1), st, (i + 1), v1, (acc ++ [trim ((v.take i).drop fr)])) (by (try dsimp only); exact (⟨by omega, Nat.le_refl _, hinv.2.2.1, by simp; omega, split_put h1.1 (h2.imp (fun q => by omega) id) h3 hinv.2.2.2.2⟩)) (by (try dsimp only); exact (by omega)) ⟨rfl, rfl, rfl, rfl, rfl, trivial⟩ (fun _ h => h)
      · have h3 := (fun q => of_decide_eq_true (bf_not q)) h3b
        refine jc_skip ?_
        refine jq_then ?_
        refine jc_region ?_
        refine jo_pure rfl (pr_move rfl) ?_
        refine jo_pure rfl (pr_addN (m := i) (n := 1) rfl rfl (by omega)) ?_
        refine jo_pure rfl (pr_assign rfl) ?_
        refine jo_nil ?_
        refine jq_in_normal ?_
        refine jq_then ?_
        refine jc_region ?_
        refine jo_pure rfl (pr_move rfl) ?_
        refine jo_pure rfl (pr_addN (m := i) (n := 1) rfl rfl (by omega)) ?_
        refine jo_pure rfl (pr_assign rfl) ?_
        refine jo_nil ?_
        refine jq_round' ((i + 1), st, (i + 1), w, acc) (by (try dsimp only); exact (⟨by omega, Nat.le_refl _, hinv.2.2.1, hinv.2.2.2.1, split_skip h1.1 (h2.imp (fun q => by omega) id) h3 hinv.2.2.2.2⟩)) (by (try dsimp only); exact (by omega)) ⟨rfl, rfl, rfl, rfl, rfl, trivial⟩ (fun _ h => h)
  · have h1 := (fun q => Or.imp of_decide_eq_false of_decide_eq_false (bf_and q)) h1b
    refine jc_exit ?_
    refine jq_then_exit ?_
    refine jq_then_exit ?_
    refine jq_in_hit ?_
    refine jq_then ?_
    refine jc_seq ?_
    refine jc_region ?_
    refine jo_pure rfl (pr_move rfl) ?_
    refine jo_pure rfl (pr_assign rfl) ?_
    refine jo_nil ?_
    refine jq_then ?_
    refine jc_ret ?_
    exact jq_ret1 rfl w rfl (show (w : Value) = (w) from rfl) (fun _ h => by rw [split_done (h1.imp (fun q => by omega) (fun q => by omega)) hinv.2.2.2.1 hinv.2.2.2.2] at h; exact h)

theorem c_list_All (l : List ((List UInt8) × (List UInt8))) (lv : Value) (name : List UInt8) (hl : l.length ≤ 1000000) (hm : ∀ x ∈ l, x.1.length ≤ 1000000 ∧ x.2.length ≤ 1000000) (hn : name.length ≤ 1000000) : Con Tryd.prog 32 #[lv, str (name)] [.imm (.list (.pair .str .str)) (lv) (l)] (fun r1 : Value => r1) (fun r1 => [.imm (.list .str) r1 (allF l name)]) := by
  refine con_of_J (args := [lv, str (name)]) (n := 26) Tryd.func32 rfl (Nat.le_of_ble_eq_true rfl) rfl (fun w0 I0 m0 => ?_)
  show J _ [(0, lv), (1, str (name))] [.imm (.list (.pair .str .str)) (lv) (l)] _
  refine jc_seq ?_
  refine jc_region ?_
  refine jo_pure rfl (pr_assign rfl) ?_
  refine jo_nil ?_
  refine jq_then ?_
  refine jc_seq ?_
  refine jc_region ?_
  refine jo_pure rfl (pr_assign rfl) ?_
  refine jo_nil ?_
  refine jq_then ?_
  refine jc_seq ?_
  refine jc_seq ?_
  refine jc_region ?_
  refine jo_pure rfl (pr_move rfl) ?_
  refine jo_pure rfl (pr_move rfl) ?_
  refine jo_callp cal_52 (c_fieldline_Get l lv name (by first | omega | exact hm | (have := getD_len (i := i) (getF_mem (n := 1000000) hm (name := name)); omega)) (by first | omega | exact hm | (have := getD_len (i := i) (getF_mem (n := 1000000) hm (name := name)); omega)) (by first | omega | exact hm | (have := getD_len (i := i) (getF_mem (n := 1000000) hm (name := name)); omega))) ⟨rfl, rfl, trivial⟩ rfl (⟨⟨rfl, .head _⟩, trivial⟩) (fun r1 => ?_)
  show J _ _ [.row (r1) 9 .str (getF l name), .imm (.list (.pair .str .str)) (lv) (l)] _
  refine jo_pure rfl (pr_len_row rfl (.head _) Tryd.underlying22) ?_
  refine jo_pure rfl (pr_move rfl) ?_
  refine jo_nil ?_
  refine jq_then ?_
  refine jc_block ?_
  refine j_nil_row 9 .str ?_
  refine jc_loop3 (fun (i : Nat) (w : Value) (acc : List (List UInt8)) => [(5, w), (10, r1), (11, .int .i64 (((getF l name).length : Nat) : Int)), (12, .int .i64 ((i : Nat) : Int))]) (fun (i : Nat) (w : Value) (acc : List (List UInt8)) => [.row (w) 9 .str (acc), .row (r1) 9 .str (getF l name), .imm (.list (.pair .str .str)) (lv) (l)]) (fun (i : Nat) (w : Value) (acc : List (List UInt8)) => i ≤ (getF l name).length ∧ acc.length ≤ i * 64 ∧ (getF l name).length ≤ 1000000 ∧ acc = ((getF l name).take i).flatMap splitF) (fun (i : Nat) (w : Value) (acc : List (List UInt8)) => (getF l name).length - i) 0 (.slice none 0 0) [] (⟨Nat.zero_le _, by simp, Nat.le_trans (getF_length l name) hl, rfl⟩) (⟨rfl, rfl, rfl, rfl, trivial⟩) (fun _ h => h) (fun i w acc hinv => ?_)
  refine jc_seq ?_
  refine jc_region ?_
  refine jo_pure rfl (pr_lssN (m := i) (n := (getF l name).length) rfl rfl) ?_
  refine jo_nil ?_
  refine jq_then ?_
  refine jc_seq ?_
  refine jc_cond rfl (fun h1b => ?_) (fun h1b => ?_)
  · have h1 := of_decide_eq_true h1b
    refine jc_skip ?_
    refine jq_then ?_
    refine jc_seq ?_
    refine jc_block ?_
    refine jc_seq ?_
    refine jc_region ?_
    refine jo_pure rfl (pr_idx_row (i := i) rfl (.tail _ (.head _)) rfl Tryd.underlying22 ty_9 (by omega)) ?_
    refine jo_pure rfl (pr_load_elem_row (i := i) (str ((getF l name).getD i [])) rfl (.tail _ (.head _)) ty_9 rfl rfl (by omega) rfl) ?_
    refine jo_pure rfl (pr_assign rfl) ?_
    refine jo_nil ?_
    refine jq_then ?_
    refine jc_region ?_
    refine jo_pure rfl (pr_move rfl) ?_
    refine jo_pure rfl (pr_move rfl) ?_
    refine jo_callp cal_53 (c_list_Split ((getF l name).getD i []) (by first | omega | exact hm | (have := getD_len (i := i) (getF_mem (n := 1000000) hm (name := name)); omega))) ⟨rfl, trivial⟩ rfl (trivial) (fun r2 => ?_)
    show J _ _ [.row (r2) 9 .str (splitF ((getF l name).getD i [])), .row (w) 9 .str (acc), .row (r1) 9 .str (getF l name), .imm (.list (.pair .str .str)) (lv) (l)] _
    refine j_pub_row ?_
    refine j_pull1 ?_
    refine jo_append_imm rfl rfl (.head _) Tryd.underlying22 ty_9 rfl (by have := splitF_length ((getF l name).getD i []); simp only [maxLen]; first | omega | (simp only [List.length_append]; omega)) (by have := splitF_length ((getF l name).getD i []); first | omega | (simp only [List.length_append]; omega)) rfl (fun v1 => ?_)
    refine jo_pure rfl (pr_assign rfl) ?_
    refine jo_nil ?_
    refine jq_in_normal ?_
    refine jq_then ?_
    refine jc_region ?_
    refine jo_pure rfl (pr_addN (m := i) (n := 1) rfl rfl (by omega)) ?_
    refine jo_pure rfl (pr_move rfl) ?_
    refine jo_nil ?_
    refine j_pull1 ?_
    refine j_drop ?_
    refine j_pull2 ?_
    refine j_pull2 ?_
    refine j_pull2 ?_
    refine jq_round' ((i + 1), v1, (acc ++ (splitF ((getF l name).getD i [])))) (by (try dsimp only); exact (⟨by omega, by have := splitF_length ((getF l name).getD i []); simp only [List.length_append]; omega, hinv.2.2.1, by rw [hinv.2.2.2]; exact (flat_take_step h1).symm⟩)) (by (try dsimp only); exact (by omega)) ⟨rfl, rfl, rfl, rfl, trivial⟩ (fun _ h => h)
  · have h1 := of_decide_eq_false h1b
    refine jc_exit ?_
    refine jq_then_exit ?_
    refine jq_then_exit ?_
    refine jq_in_hit ?_
    refine jq_then ?_
    refine jc_seq ?_
    refine jc_region ?_
    refine jo_pure rfl (pr_move rfl) ?_
    refine jo_pure rfl (pr_move rfl) ?_
    refine jo_pure rfl (pr_len_row rfl (.head _) Tryd.underlying22) ?_
    refine jo_pure rfl (pr_minN (m := acc.length) (n := 64) rfl rfl) ?_
    refine j_pub_row ?_
    refine j_resl (l := 0) (h := min acc.length 64) (.head _) (by omega) (by omega) ?_
    show J _ _ (.imm (.list .str) (resl (w) (0) (min acc.length 64) 1) ((acc.take (min acc.length 64)).drop 0) :: _) _
    refine jo_pure rfl (pr_slice_imm (l := 0) (h := min acc.length 64) rfl (.tail _ (.head _)) Tryd.underlying22 ty_9 rfl ⟨_, rfl⟩ (by omega) (by omega)) ?_
    refine jo_pure rfl (pr_assign rfl) ?_
    refine jo_nil ?_
    refine jq_then ?_
    refine jc_ret ?_
    refine j_pull1 ?_
    refine j_drop ?_
    refine j_pull1 ?_
    refine j_drop ?_
    refine j_pull1 ?_
    refine j_drop ?_
    exact jq_ret1 rfl (resl (w) (0) (min acc.length 64) 1) rfl (show (resl (w) (0) (min acc.length 64) 1 : Value) = (resl (w) (0) (min acc.length 64) 1) from rfl) (fun _ h => by rw [show allF l name = (acc.take (min acc.length 64)).drop 0 from by rw [take_min, hinv.2.2.2, take_over (s := getF l name) (i := i) (by omega)]; rfl]; exact h)

theorem c_strings_Index (s : List UInt8) (sep : List UInt8) (c : UInt8) (hsep : sep = [c]) (hs : s.length ≤ 1000000) : Con Tryd.prog 117 #[str (s), str (sep)] [] (fun _ : Unit => .int .i64 (idx s c)) (fun _ => []) := by
  refine con_of_J (args := [str (s), str (sep)]) (n := 8) Tryd.func117 rfl (Nat.le_of_ble_eq_true rfl) rfl (fun w0 I0 m0 => ?_)
  show J _ [(0, str (s)), (1, str (sep))] [] _
  refine jc_seq ?_
  refine jc_region ?_
  refine jo_pure rfl (pr_assign rfl) ?_
  refine jo_nil ?_
  refine jq_then ?_
  refine jc_seq ?_
  refine jc_region ?_
  refine jo_pure rfl (pr_move rfl) ?_
  refine jo_pure rfl (pr_move rfl) ?_
  refine jo_callp cal_131 (c_internal_stringslite_Index s sep c (by first | omega | exact hsep | rfl) (by first | omega | exact hsep | rfl)) ⟨rfl, rfl, trivial⟩ rfl (trivial) (fun _ => ?_)
  refine jo_pure rfl (pr_assign rfl) ?_
  refine jo_nil ?_
  refine jq_then ?_
  refine jc_ret ?_
  exact jq_ret1 rfl () rfl (show (.int .i64 (idx s c) : Value) = (.int .i64 (idx s c)) from rfl) (fun _ h => h)

theorem c_strings_Count (s : List UInt8) (sep : List UInt8) (c : UInt8) (hsep : sep = [c]) (hs : s.length ≤ 1000000) : Con Tryd.prog 96 #[str (s), str (sep)] [] (fun _ : Unit => .int .i64 ((List.count c s : Nat) : Int)) (fun _ => []) := by
  refine con_of_J (args := [str (s), str (sep)]) (n := 34) Tryd.func96 rfl (Nat.le_of_ble_eq_true rfl) rfl (fun w0 I0 m0 => ?_)
  show J _ [(0, str (s)), (1, str (sep))] [] _
  refine jc_seq ?_
  refine jc_region ?_
  refine jo_pure rfl (pr_assign rfl) ?_
  refine jo_nil ?_
  refine jq_then ?_
  refine jc_seq ?_
  refine jc_seq ?_
  refine jc_region ?_
  refine jo_pure rfl (pr_move rfl) ?_
  refine jo_pure rfl (pr_slen rfl Tryd.underlying9) ?_
  refine jo_pure rfl (pr_eqlN (m := sep.length) (n := 0) rfl rfl) ?_
  refine jo_nil ?_
  refine jq_then ?_
  refine jc_cond rfl (fun h1b => ?_) (fun h1b => ?_)
  · have h1 := of_decide_eq_true h1b
    exact absurd h1 (by rw [hsep]; simp)
  · have h1 := of_decide_eq_false h1b
    have hl : sep.length = 1 := by rw [hsep]; rfl
    refine jc_skip ?_
    refine jq_then ?_
    refine jc_seq ?_
    refine jc_seq ?_
    refine jc_region ?_
    refine jo_pure rfl (pr_move rfl) ?_
    refine jo_pure rfl (pr_slen rfl Tryd.underlying9) ?_
    refine jo_pure rfl (pr_eqlN (m := sep.length) (n := 1) rfl rfl) ?_
    refine jo_nil ?_
    refine jq_then ?_
    refine jc_cond rfl (fun h2b => ?_) (fun h2b => ?_)
    · have h2 := of_decide_eq_true h2b
      refine jc_seq ?_
      refine jc_region ?_
      refine jo_pure rfl (pr_move rfl) ?_
      refine jo_pure rfl (pr_move rfl) ?_
      refine jo_pure rfl (pr_sindex (i := 0) rfl rfl Tryd.underlying9 (by rw [hsep]; exact Nat.one_pos)) ?_
      refine jo_pure rfl (pr_ext (vs := [str (s), byte (sep.getD 0 0)]) Tryd.func116 (by kernel_rfl) rfl (by kernel_rfl) (by kernel_rfl) ⟨rfl, rfl, trivial⟩ (fun w => run_count s (sep.getD 0 0) w)) ?_
      refine jo_pure rfl (pr_assign rfl) ?_
      refine jo_nil ?_
      refine jq_then ?_
      refine jc_ret ?_
      refine jq_then_ret ?_
      exact jq_ret1 rfl () rfl (show (.int .i64 ((List.count c s : Nat) : Int) : Value) = (.int .i64 ((List.count (sep.getD 0 0) s : Nat) : Int)) from by rw [hsep]; rfl) (fun _ h => h)
    · have h2 := of_decide_eq_false h2b
      exact absurd hl h2

theorem c_strings_genSplit (s : List UInt8) (sep : List UInt8) (ss : Nat) (n : Int) (c : UInt8) (hsep : sep = [c]) (hs : s.length ≤ 1000000) (hss : ss = 0) (hn : n = -1) : Con Tryd.prog 132 #[str (s), str (sep), .int .i64 ((ss : Nat) : Int), .int .i64 (n)] [] (fun r1 : Value => r1) (fun r1 => [.row r1 9 .str (cutAt c [] s)]) := by
  refine con_of_J (args := [str (s), str (sep), .int .i64 ((ss : Nat) : Int), .int .i64 (n)]) (n := 66) Tryd.func132 rfl (Nat.le_of_ble_eq_true rfl) rfl (fun w0 I0 m0 => ?_)
  show J _ [(0, str (s)), (1, str (sep)), (2, .int .i64 ((ss : Nat) : Int)), (3, .int .i64 (n))] [] _
  refine jc_seq ?_
  refine jc_region ?_
  refine jo_pure rfl (pr_assign rfl) ?_
  refine jo_nil ?_
  refine jq_then ?_
  refine jc_seq ?_
  refine jc_seq ?_
  refine jc_region ?_
  refine jo_pure rfl (pr_move rfl) ?_
  refine jo_pure rfl (pr_eql (n := 0) rfl rfl) ?_
  refine jo_nil ?_
  refine jq_then ?_
  refine jc_cond rfl (fun h1b => ?_) (fun h1b => ?_)
  · have h1 := of_decide_eq_true h1b
    exact absurd h1 (by omega)
  · have h1 := of_decide_eq_false h1b
    refine jc_skip ?_
    refine jq_then ?_
    refine jc_seq ?_
    refine jc_seq ?_
    refine jc_region ?_
    refine jo_pure rfl (pr_move rfl) ?_
    refine jo_pure rfl (pr_seql rfl rfl) ?_
    refine jo_nil ?_
    refine jq_then ?_
    refine jc_cond rfl (fun h2b => ?_) (fun h2b => ?_)
    · have h2 := of_decide_eq_true h2b
      exact absurd h2 (by rw [hsep]; simp)
    · have h2 := of_decide_eq_false h2b
      refine jc_skip ?_
      refine jq_then ?_
      refine jc_seq ?_
      refine jc_seq ?_
      refine jc_region ?_
      refine jo_pure rfl (pr_move rfl) ?_
      refine jo_pure rfl (pr_lss (n := 0) rfl rfl) ?_
      refine jo_nil ?_
      refine jq_then ?_
      refine jc_cond rfl (fun h3b => ?_) (fun h3b => ?_)
      · have h3 := of_decide_eq_true h3b
        have hN : min (List.count c s + 1) (s.length + 1) = List.count c s + 1 := by have := count_len c s; omega
        have hcl := count_len c s
        have hl : sep.length = 1 := by rw [hsep]; rfl
        refine jc_region ?_
        refine jo_pure rfl (pr_move rfl) ?_
        refine jo_pure rfl (pr_move rfl) ?_
        refine jo_callp cal_96 (c_strings_Count s sep c (by first | omega | exact hsep | rfl) (by first | omega | exact hsep | rfl)) ⟨rfl, rfl, trivial⟩ rfl (trivial) (fun _ => ?_)
        refine jo_pure rfl (pr_addN (m := List.count c s) (n := 1) rfl rfl (by omega)) ?_
        refine jo_pure rfl (pr_assign rfl) ?_
        refine jo_nil ?_
        refine jq_then ?_
        refine jc_seq ?_
        refine jc_region ?_
        refine jo_pure rfl (pr_move rfl) ?_
        refine jo_pure rfl (pr_move rfl) ?_
        refine jo_pure rfl (pr_slen rfl Tryd.underlying9) ?_
        refine jo_pure rfl (pr_addN (m := s.length) (n := 1) rfl rfl (by omega)) ?_
        refine jo_pure rfl (pr_minN (m := (List.count c s) + 1) (n := s.length + 1) rfl rfl) ?_
        refine jo_pure rfl (pr_assign rfl) ?_
        refine jo_nil ?_
        refine jq_then ?_
        refine jc_seq ?_
        refine jc_region ?_
        refine jo_pure rfl (pr_move rfl) ?_
        refine jo_makeSlice (n := min ((List.count c s) + 1) (s.length + 1)) (t := .str) [] rfl Tryd.underlying22 ty_9 rfl rfl (by simp only [maxLen]; omega) (by omega) rfl (fun g1 => ?_)
        refine jo_pure rfl (pr_assign rfl) ?_
        refine jo_nil ?_
        refine jq_then ?_
        refine jc_seq ?_
        refine jc_region ?_
        refine jo_pure rfl (pr_move rfl) ?_
        refine jo_pure rfl (pr_subN (m := min ((List.count c s) + 1) (s.length + 1)) (n := 1) rfl rfl (by omega) (by omega)) ?_
        refine jo_pure rfl (pr_assign rfl) ?_
        refine jo_nil ?_
        refine jq_then ?_
        refine jc_seq ?_
        refine jc_region ?_
        refine jo_pure rfl (pr_assign rfl) ?_
        refine jo_nil ?_
        refine jq_then ?_
        refine jc_seq ?_
        refine jc_block ?_
        refine jc_loop3 (fun (i : Nat) (t : List UInt8) (xs : List (List UInt8)) => [(0, str (t)), (1, str (sep)), (2, .int .i64 ((ss : Nat) : Int)), (3, .int .i64 (((min ((List.count c s) + 1) (s.length + 1)) - 1 : Nat) : Int)), (9, .slice (some ⟨g1, 0, none⟩) (min ((List.count c s) + 1) (s.length + 1)) (min ((List.count c s) + 1) (s.length + 1))), (10, .int .i64 ((i : Nat) : Int))]) (fun (i : Nat) (t : List UInt8) (xs : List (List UInt8)) => [.rowg g1 (min ((List.count c s) + 1) (s.length + 1)) 9 .str (xs)]) (fun (i : Nat) (t : List UInt8) (xs : List (List UInt8)) => i + List.count c t = List.count c s ∧ xs.length = List.count c s + 1 ∧ t.length ≤ s.length ∧ xs.take i ++ cutAt c [] t = cutAt c [] s) (fun (i : Nat) (t : List UInt8) (xs : List (List UInt8)) => List.count c s - i) 0 s (List.replicate (min ((List.count c s) + 1) (s.length + 1)) []) (⟨by omega, by rw [List.length_replicate]; omega, Nat.le_refl _, rfl⟩) (⟨rfl, rfl, rfl, rfl, rfl, rfl, trivial⟩) (fun _ h => h) (fun i t xs hinv => ?_)
        refine jc_seq ?_
        refine jc_seq ?_
        refine jc_region ?_
        refine jo_pure rfl (pr_move rfl) ?_
        refine jo_pure rfl (pr_move rfl) ?_
        refine jo_pure rfl (pr_lssN (m := i) (n := (min ((List.count c s) + 1) (s.length + 1)) - 1) rfl rfl) ?_
        refine jo_nil ?_
        refine jq_then ?_
        refine jc_cond rfl (fun h4b => ?_) (fun h4b => ?_)
        · have h4 := of_decide_eq_true h4b
          refine jc_skip ?_
          refine jq_then ?_
          refine jc_block ?_
          refine jc_seq ?_
          refine jc_region ?_
          refine jo_pure rfl (pr_move rfl) ?_
          refine jo_pure rfl (pr_move rfl) ?_
          refine jo_callp cal_117 (c_strings_Index t sep c (by first | omega | exact hsep | rfl) (by first | omega | exact hsep | rfl)) ⟨rfl, rfl, trivial⟩ rfl (trivial) (fun _ => ?_)
          refine jo_pure rfl (pr_assign rfl) ?_
          refine jo_nil ?_
          refine jq_then ?_
          refine jc_seq ?_
          refine jc_seq ?_
          refine jc_region ?_
          refine jo_pure rfl (pr_move rfl) ?_
          refine jo_pure rfl (pr_lss (n := 0) rfl rfl) ?_
          refine jo_nil ?_
          refine jq_then ?_
          refine jc_cond rfl (fun h5b => ?_) (fun h5b => ?_)
          · have h5 := of_decide_eq_true h5b
            have hp := idx_neg h5
            refine jc_exit ?_
            refine jq_then_exit ?_
            refine jq_in_miss rfl ?_
            refine jq_then_exit ?_
            refine jq_in_hit ?_
            refine jq_then ?_
            refine jc_seq ?_
            refine jc_region ?_
            refine jo_pure rfl (pr_move rfl) ?_
            refine jo_pure rfl (pr_move rfl) ?_
            refine jo_pure rfl (pr_move rfl) ?_
            refine jo_pure rfl (pr_idx (i := i) (i) rfl rfl Tryd.underlying22 ty_9 (by omega) (by first | rfl | (simp only [Nat.zero_add, Nat.mul_one]))) ?_
            refine jo_store_g (i := i) (t) rfl rfl ty_9 rfl (by omega) (by first | rfl | exact Nat.mul_one _) rfl ?_
            refine jo_nil ?_
            refine jq_then ?_
            refine jc_seq ?_
            refine jc_region ?_
            refine jo_pure rfl (pr_move rfl) ?_
            refine jo_pure rfl (pr_move rfl) ?_
            refine jo_pure rfl (pr_addN (m := i) (n := 1) rfl rfl (by omega)) ?_
            refine jo_slice_own (h := i + 1) rfl rfl Tryd.underlying22 ty_9 (by omega) (by simp only [List.length_set]; omega) rfl ?_
            refine jo_pure rfl (pr_assign rfl) ?_
            refine jo_nil ?_
            refine jq_then ?_
            refine jc_ret ?_
            refine j_row_of_rowg ?_
            exact jq_ret1 rfl (.slice (some ⟨g1, 0, none⟩) ((xs.set i t).take (i + 1)).length (min ((List.count c s) + 1) (s.length + 1))) rfl (show (.slice (some ⟨g1, 0, none⟩) ((xs.set i t).take (i + 1)).length (min ((List.count c s) + 1) (s.length + 1)) : Value) = (.slice (some ⟨g1, 0, none⟩) ((xs.set i t).take (i + 1)).length (min ((List.count c s) + 1) (s.length + 1))) from rfl) (fun _ h => by rw [← gs_end (by omega) hp hinv.2.2.2]; exact h)
          · have h5 := of_decide_eq_false h5b
            have hp := (idx_nonneg (s := t) (c := c) (by omega)).2
            rw [show (idx t c : Int) = ((pos t c : Nat) : Int) from (idx_nonneg (s := t) (c := c) (by omega)).1]
            refine jc_skip ?_
            refine jq_then ?_
            refine jc_seq ?_
            refine jc_region ?_
            refine jo_pure rfl (pr_move rfl) ?_
            refine jo_pure rfl (pr_move rfl) ?_
            refine jo_pure rfl (pr_move rfl) ?_
            refine jo_pure rfl (pr_move rfl) ?_
            refine jo_pure rfl (pr_move rfl) ?_
            refine jo_pure rfl (pr_addN (m := pos t c) (n := ss) rfl rfl (by omega)) ?_
            refine jo_pure rfl (pr_sslice_hi (j := (pos t c) + ss) rfl rfl Tryd.underlying9 (by omega)) ?_
            refine jo_pure rfl (pr_idx (i := i) (i) rfl rfl Tryd.underlying22 ty_9 (by omega) (by first | rfl | (simp only [Nat.zero_add, Nat.mul_one]))) ?_
            refine jo_store_g (i := i) (t.take ((pos t c) + ss)) rfl rfl ty_9 rfl (by omega) (by first | rfl | exact Nat.mul_one _) rfl ?_
            refine jo_nil ?_
            refine jq_then ?_
            refine jc_seq ?_
            refine jc_region ?_
            refine jo_pure rfl (pr_move rfl) ?_
            refine jo_pure rfl (pr_move rfl) ?_
            refine jo_pure rfl (pr_move rfl) ?_
            refine jo_pure rfl (pr_slen rfl Tryd.underlying9) ?_
            refine jo_pure rfl (pr_addN (m := pos t c) (n := sep.length) rfl rfl (by omega)) ?_
            refine jo_pure rfl (pr_sslice_lo (i := (pos t c) + sep.length) rfl rfl Tryd.underlying9 (by omega)) ?_
            refine jo_pure rfl (pr_assign rfl) ?_
            refine jo_nil ?_
            refine jq_then ?_
            refine jc_region ?_
            refine jo_pure rfl (pr_move rfl) ?_
            refine jo_pure rfl (pr_addN (m := i) (n := 1) rfl rfl (by omega)) ?_
            refine jo_pure rfl (pr_assign rfl) ?_
            refine jo_nil ?_
            refine jq_in_normal ?_
            refine jq_round' ((i + 1), (t.drop ((pos t c) + sep.length)), (xs.set i (t.take ((pos t c) + ss)))) (by (try dsimp only); exact (⟨by rw [hl]; have := count_some hp; omega, by simp only [List.length_set]; omega, by simp only [List.length_drop]; omega, by rw [hl, hss, Nat.add_zero]; exact gs_go (by omega) hp hinv.2.2.2⟩)) (by (try dsimp only); exact (by have := count_some hp; omega)) ⟨rfl, rfl, rfl, rfl, rfl, rfl, trivial⟩ (fun _ h => h)
        · have h4 := of_decide_eq_false h4b
          have hp : ¬ pos t c < t.length := fun q => by have := count_some q; omega
          refine jc_exit ?_
          refine jq_then_exit ?_
          refine jq_then_exit ?_
          refine jq_in_hit ?_
          refine jq_then ?_
          refine jc_seq ?_
          refine jc_region ?_
          refine jo_pure rfl (pr_move rfl) ?_
          refine jo_pure rfl (pr_move rfl) ?_
          refine jo_pure rfl (pr_move rfl) ?_
          refine jo_pure rfl (pr_idx (i := i) (i) rfl rfl Tryd.underlying22 ty_9 (by omega) (by first | rfl | (simp only [Nat.zero_add, Nat.mul_one]))) ?_
          refine jo_store_g (i := i) (t) rfl rfl ty_9 rfl (by omega) (by first | rfl | exact Nat.mul_one _) rfl ?_
          refine jo_nil ?_
          refine jq_then ?_
          refine jc_seq ?_
          refine jc_region ?_
          refine jo_pure rfl (pr_move rfl) ?_
          refine jo_pure rfl (pr_move rfl) ?_
          refine jo_pure rfl (pr_addN (m := i) (n := 1) rfl rfl (by omega)) ?_
          refine jo_slice_own (h := i + 1) rfl rfl Tryd.underlying22 ty_9 (by omega) (by simp only [List.length_set]; omega) rfl ?_
          refine jo_pure rfl (pr_assign rfl) ?_
          refine jo_nil ?_
          refine jq_then ?_
          refine jc_ret ?_
          refine j_row_of_rowg ?_
          exact jq_ret1 rfl (.slice (some ⟨g1, 0, none⟩) ((xs.set i t).take (i + 1)).length (min ((List.count c s) + 1) (s.length + 1))) rfl (show (.slice (some ⟨g1, 0, none⟩) ((xs.set i t).take (i + 1)).length (min ((List.count c s) + 1) (s.length + 1)) : Value) = (.slice (some ⟨g1, 0, none⟩) ((xs.set i t).take (i + 1)).length (min ((List.count c s) + 1) (s.length + 1))) from rfl) (fun _ h => by rw [← gs_end (by omega) hp hinv.2.2.2]; exact h)
      · have h3 := of_decide_eq_false h3b
        exact absurd h3 (by omega)

theorem c_strings_Split (s : List UInt8) (sep : List UInt8) (c : UInt8) (hsep : sep = [c]) (hs : s.length ≤ 1000000) : Con Tryd.prog 112 #[str (s), str (sep)] [] (fun r1 : Value => r1) (fun r1 => [.row r1 9 .str (cutAt c [] s)]) := by
  refine con_of_J (args := [str (s), str (sep)]) (n := 8) Tryd.func112 rfl (Nat.le_of_ble_eq_true rfl) rfl (fun w0 I0 m0 => ?_)
  show J _ [(0, str (s)), (1, str (sep))] [] _
  refine jc_seq ?_
  refine jc_region ?_
  refine jo_pure rfl (pr_assign rfl) ?_
  refine jo_nil ?_
  refine jq_then ?_
  refine jc_seq ?_
  refine jc_region ?_
  refine jo_pure rfl (pr_move rfl) ?_
  refine jo_pure rfl (pr_move rfl) ?_
  refine jo_callp cal_132 (c_strings_genSplit s sep 0 (-1) c (by first | omega | exact hsep | rfl) (by first | omega | exact hsep | rfl) (by first | omega | exact hsep | rfl) (by first | omega | exact hsep | rfl)) ⟨rfl, rfl, rfl, rfl, trivial⟩ rfl (trivial) (fun r1 => ?_)
  show J _ _ [.row (r1) 9 .str (cutAt c [] s)] _
  refine jo_pure rfl (pr_assign rfl) ?_
  refine jo_nil ?_
  refine jq_then ?_
  refine jc_ret ?_
  exact jq_ret1 rfl r1 rfl (show (r1 : Value) = (r1) from rfl) (fun _ h => h)
end Go.Proofs.YtikllmfjgpmcnaaDoor
