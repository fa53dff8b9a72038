/-
  Contracts of functions of the program: each returns what a plain function says, for every input within the bounds named. Conditions: the bounds.
-/
import Derived.Test.YtikllmfjgpmcnaaDoorRows
import Derived.Test.YtikllmfjgpmcnaaDoorL11
import Derived.Test.YtikllmfjgpmcnaaDoorLaw11B
namespace Go.Proofs.YtikllmfjgpmcnaaDoor
open Go Go.Sep
set_option linter.unusedSimpArgs false
set_option linter.unusedVariables false

open Go.Plain

theorem cal_41 : Cal Tryd.prog 41 := cal_of Tryd.func41 (by kernel_rfl) rfl
theorem cal_42 : Cal Tryd.prog 42 := cal_of Tryd.func42 (by kernel_rfl) rfl
theorem cal_43 : Cal Tryd.prog 43 := cal_of Tryd.func43 (by kernel_rfl) rfl
theorem cal_45 : Cal Tryd.prog 45 := cal_of Tryd.func45 (by kernel_rfl) rfl
theorem cal_61 : Cal Tryd.prog 61 := cal_of Tryd.func61 (by kernel_rfl) rfl
theorem cal_62 : Cal Tryd.prog 62 := cal_of Tryd.func62 (by kernel_rfl) rfl
theorem cal_63 : Cal Tryd.prog 63 := cal_of Tryd.func63 (by kernel_rfl) rfl
theorem cal_65 : Cal Tryd.prog 65 := cal_of Tryd.func65 (by kernel_rfl) rfl
theorem cal_73 : Cal Tryd.prog 73 := cal_of Tryd.func73 (by kernel_rfl) rfl
theorem cal_95 : Cal Tryd.prog 95 := cal_of Tryd.func95 (by kernel_rfl) rfl
theorem cal_114 : Cal Tryd.prog 114 := cal_of Tryd.func114 (by kernel_rfl) rfl

theorem c_internal_stringslite_HasPrefix (s : List UInt8) (p : List UInt8)  : Con Tryd.prog 114 #[str (s), str (p)] [] (fun _ : Unit => .bool (hasP s p)) (fun _ => []) := by
  refine con_of_J (args := [str (s), str (p)]) (n := 18) Tryd.func114 rfl (Nat.le_of_ble_eq_true rfl) rfl (fun w0 I0 m0 => ?_)
  show J _ [(0, str (s)), (1, str (p))] [] _
  refine jc_seq ?_
  refine jc_region ?_
  refine jo_pure rfl (pr_assign rfl) ?_
  refine jo_nil ?_
  refine jq_then ?_
  refine jc_seq ?_
  refine jc_region ?_
  refine jo_pure rfl (pr_move rfl) ?_
  refine jo_pure rfl (pr_slen rfl Tryd.underlying9) ?_
  refine jo_pure rfl (pr_move rfl) ?_
  refine jo_pure rfl (pr_slen rfl Tryd.underlying9) ?_
  refine jo_pure rfl (pr_geqN (m := s.length) (n := p.length) rfl rfl) ?_
  refine jo_pure rfl (pr_move rfl) ?_
  refine jo_gpure (j := 5) (want := true) rfl rfl rfl rfl (fun hg => pr_move rfl) ?_
  refine jo_gpure (j := 5) (want := true) rfl rfl rfl rfl (fun hg => pr_move rfl) ?_
  refine jo_gpure (j := 5) (want := true) rfl rfl rfl rfl (fun hg => pr_slen (evg rfl hg) Tryd.underlying9) ?_
  refine jo_gpure (j := 5) (want := true) rfl rfl rfl rfl (fun hg => pr_sslice_hi (j := p.length) (evg rfl hg) (evg rfl hg) Tryd.underlying9 (by first | omega | (have := of_decide_eq_true (eq_of_beq hg); omega))) ?_
  refine jo_gpure (j := 5) (want := true) rfl rfl rfl rfl (fun hg => pr_move rfl) ?_
  refine jo_gpure (j := 5) (want := true) rfl rfl rfl rfl (fun hg => pr_seql (evg rfl hg) (evg rfl hg)) ?_
  refine jo_pure rfl (pr_pick_and rfl rfl rfl) ?_
  refine jo_pure rfl (pr_assign rfl) ?_
  refine jo_nil ?_
  refine jq_then ?_
  refine jc_ret ?_
  exact jq_ret1 rfl () rfl (show (.bool (hasP s p) : Value) = (.bool ((decide ((p.length : Nat) ≤ s.length) && decide ((s.take p.length : List UInt8) = p)))) from rfl) (fun _ h => h)

theorem c_strings_HasPrefix (s : List UInt8) (p : List UInt8)  : Con Tryd.prog 95 #[str (s), str (p)] [] (fun _ : Unit => .bool (hasP s p)) (fun _ => []) := by
  refine con_of_J (args := [str (s), str (p)]) (n := 8) Tryd.func95 rfl (Nat.le_of_ble_eq_true rfl) rfl (fun w0 I0 m0 => ?_)
  show J _ [(0, str (s)), (1, str (p))] [] _
  refine jc_seq ?_
  refine jc_region ?_
  refine jo_pure rfl (pr_assign rfl) ?_
  refine jo_nil ?_
  refine jq_then ?_
  refine jc_seq ?_
  refine jc_region ?_
  refine jo_pure rfl (pr_move rfl) ?_
  refine jo_pure rfl (pr_move rfl) ?_
  refine jo_callp cal_114 (c_internal_stringslite_HasPrefix s p) ⟨rfl, rfl, trivial⟩ rfl (trivial) (fun _ => ?_)
  refine jo_pure rfl (pr_assign rfl) ?_
  refine jo_nil ?_
  refine jq_then ?_
  refine jc_ret ?_
  exact jq_ret1 rfl () rfl (show (.bool (hasP s p) : Value) = (.bool (hasP s p)) from rfl) (fun _ h => h)

theorem c_language_Match (r : List UInt8) (t : List UInt8) (hr : r.length ≤ 1000000) (ht : t.length ≤ 1000000) : Con Tryd.prog 63 #[str (r), str (t)] [] (fun _ : Unit => .int .i64 (matchL r t)) (fun _ => []) := by
  refine con_of_J (args := [str (r), str (t)]) (n := 26) Tryd.func63 rfl (Nat.le_of_ble_eq_true rfl) rfl (fun w0 I0 m0 => ?_)
  show J _ [(0, str (r)), (1, str (t))] [] _
  refine jc_seq ?_
  refine jc_region ?_
  refine jo_pure rfl (pr_assign rfl) ?_
  refine jo_nil ?_
  refine jq_then ?_
  refine jc_seq ?_
  refine jc_seq ?_
  refine jc_region ?_
  refine jo_pure rfl (pr_move rfl) ?_
  refine jo_callp cal_91 (c_language_Range r (by first | omega | rfl)) ⟨rfl, trivial⟩ rfl (trivial) (fun _ => ?_)
  refine jo_pure rfl (pr_not rfl) ?_
  refine jo_pure rfl (pr_move rfl) ?_
  refine jo_gpure (j := 3) (want := false) rfl rfl rfl rfl (fun hg => pr_move rfl) ?_
  refine jo_gcall (j := 3) (want := false) rfl rfl rfl cal_94 (fun hg => c_language_Tag t (by first | omega | rfl)) (fun hg => ⟨evg rfl hg, trivial⟩) rfl (fun _ => trivial) ?_
  refine jo_gpure (j := 3) (want := false) rfl rfl rfl rfl (fun hg => pr_not (evg rfl hg)) ?_
  refine jo_pure rfl (pr_pick_or rfl rfl rfl) ?_
  refine jo_nil ?_
  refine jq_then ?_
  refine jc_cond rfl (fun h1b => ?_) (fun h1b => ?_)
  · have h1 := (fun q => Or.imp (fun q => id (bt_not q)) (fun q => id (bt_not q)) (bt_or q)) h1b
    refine jc_seq ?_
    refine jc_region ?_
    refine jo_pure rfl (pr_assign rfl) ?_
    refine jo_nil ?_
    refine jq_then ?_
    refine jc_ret ?_
    refine jq_then_ret ?_
    exact jq_ret1 rfl () rfl (show (.int .i64 (matchL r t) : Value) = (.int .i64 (-1)) from congrArg (Value.int .i64) (by rw [tagM_no h1])) (fun _ h => h)
  · have h1 := (fun q => And.imp (fun q => id (bf_not q)) (fun q => id (bf_not q)) (bf_or q)) h1b
    refine jc_skip ?_
    refine jq_then ?_
    refine jc_seq ?_
    refine jc_seq ?_
    refine jc_region ?_
    refine jo_pure rfl (pr_move rfl) ?_
    refine jo_pure rfl (pr_seql rfl rfl) ?_
    refine jo_nil ?_
    refine jq_then ?_
    refine jc_cond rfl (fun h2b => ?_) (fun h2b => ?_)
    · have h2 := of_decide_eq_true h2b
      refine jc_seq ?_
      refine jc_region ?_
      refine jo_pure rfl (pr_assign rfl) ?_
      refine jo_nil ?_
      refine jq_then ?_
      refine jc_ret ?_
      refine jq_then_ret ?_
      exact jq_ret1 rfl () rfl (show (.int .i64 (matchL r t) : Value) = (.int .i64 ((0 : Nat) : Int)) from congrArg (Value.int .i64) (by rw [tagM_all (by rw [h1.1, h1.2]; simp) h2]; rfl)) (fun _ h => h)
    · have h2 := of_decide_eq_false h2b
      refine jc_skip ?_
      refine jq_then ?_
      refine jc_seq ?_
      refine jc_seq ?_
      refine jc_region ?_
      refine jo_pure rfl (pr_move rfl) ?_
      refine jo_callp cal_59 (c_ascii_Lower t (by first | omega | rfl)) ⟨rfl, trivial⟩ rfl (trivial) (fun _ => ?_)
      refine jo_pure rfl (pr_sadd rfl rfl (by simp only [lower_length, List.length_cons, List.length_nil]; omega)) ?_
      refine jo_pure rfl (pr_move rfl) ?_
      refine jo_callp cal_59 (c_ascii_Lower r (by first | omega | rfl)) ⟨rfl, trivial⟩ rfl (trivial) (fun _ => ?_)
      refine jo_pure rfl (pr_sadd rfl rfl (by simp only [lower_length, List.length_cons, List.length_nil]; omega)) ?_
      refine jo_callp cal_95 (c_strings_HasPrefix ((lower t) ++ [45]) ((lower r) ++ [45])) ⟨rfl, rfl, trivial⟩ rfl (trivial) (fun _ => ?_)
      refine jo_pure rfl (pr_not rfl) ?_
      refine jo_nil ?_
      refine jq_then ?_
      refine jc_cond rfl (fun h3b => ?_) (fun h3b => ?_)
      · have h3 := (fun q => id (bt_not q)) h3b
        refine jc_seq ?_
        refine jc_region ?_
        refine jo_pure rfl (pr_assign rfl) ?_
        refine jo_nil ?_
        refine jq_then ?_
        refine jc_ret ?_
        refine jq_then_ret ?_
        exact jq_ret1 rfl () rfl (show (.int .i64 (matchL r t) : Value) = (.int .i64 (-1)) from congrArg (Value.int .i64) (by rw [tagM_not (by rw [h1.1, h1.2]; simp) h2 h3])) (fun _ h => h)
      · have h3 := (fun q => id (bf_not q)) h3b
        refine jc_skip ?_
        refine jq_then ?_
        refine jc_seq ?_
        refine jc_region ?_
        refine jo_pure rfl (pr_move rfl) ?_
        refine jo_callp cal_96 (c_strings_Count r [45] 45 (by first | omega | rfl) (by first | omega | rfl)) ⟨rfl, rfl, trivial⟩ rfl (trivial) (fun _ => ?_)
        refine jo_pure rfl (pr_addN (m := List.count 45 r) (n := 1) rfl rfl (by have := count_len 45 r; omega)) ?_
        refine jo_pure rfl (pr_assign rfl) ?_
        refine jo_nil ?_
        refine jq_then ?_
        refine jc_ret ?_
        exact jq_ret1 rfl () rfl (show (.int .i64 (matchL r t) : Value) = (.int .i64 (((List.count 45 r) + 1 : Nat) : Int)) from congrArg (Value.int .i64) (by rw [tagM_pre (by rw [h1.1, h1.2]; simp) h2 h3])) (fun _ h => h)

theorem c_ref10_MatchTag (r : List UInt8) (t : List UInt8) (hr : r.length ≤ 1000000) (ht : t.length ≤ 1000000) : Con Tryd.prog 43 #[str (r), str (t)] [] (fun _ : Unit => .int .i64 (matchL r t)) (fun _ => []) := by
  refine con_of_J (args := [str (r), str (t)]) (n := 46) Tryd.func43 rfl (Nat.le_of_ble_eq_true rfl) rfl (fun w0 I0 m0 => ?_)
  show J _ [(0, str (r)), (1, str (t))] [] _
  refine jc_seq ?_
  refine jc_region ?_
  refine jo_pure rfl (pr_assign rfl) ?_
  refine jo_nil ?_
  refine jq_then ?_
  refine jc_seq ?_
  refine jc_seq ?_
  refine jc_region ?_
  refine jo_pure rfl (pr_move rfl) ?_
  refine jo_callp cal_73 (c_ref10_Range r (by first | omega | exact Nat.le_trans (getD_len (i := i) (subt_mem r)) hr | exact Nat.le_trans (getD_len (i := i) (subt_mem t)) ht)) ⟨rfl, trivial⟩ rfl (trivial) (fun _ => ?_)
  refine jo_pure rfl (pr_not rfl) ?_
  refine jo_pure rfl (pr_move rfl) ?_
  refine jo_gpure (j := 3) (want := false) rfl rfl rfl rfl (fun hg => pr_move rfl) ?_
  refine jo_gcall (j := 3) (want := false) rfl rfl rfl cal_74 (fun hg => c_ref10_Tag t (by first | omega | exact Nat.le_trans (getD_len (i := i) (subt_mem r)) hr | exact Nat.le_trans (getD_len (i := i) (subt_mem t)) ht)) (fun hg => ⟨evg rfl hg, trivial⟩) rfl (fun _ => trivial) ?_
  refine jo_gpure (j := 3) (want := false) rfl rfl rfl rfl (fun hg => pr_not (evg rfl hg)) ?_
  refine jo_pure rfl (pr_pick_or rfl rfl rfl) ?_
  refine jo_nil ?_
  refine jq_then ?_
  refine jc_cond rfl (fun h1b => ?_) (fun h1b => ?_)
  · have h1 := (fun q => Or.imp (fun q => id (bt_not q)) (fun q => id (bt_not q)) (bt_or q)) h1b
    refine jc_seq ?_
    refine jc_region ?_
    refine jo_pure rfl (pr_assign rfl) ?_
    refine jo_nil ?_
    refine jq_then ?_
    refine jc_ret ?_
    refine jq_then_ret ?_
    exact jq_ret1 rfl () rfl (show (.int .i64 (matchL r t) : Value) = (.int .i64 (-1)) from congrArg (Value.int .i64) (by rw [tagM_no h1])) (fun _ h => h)
  · have h1 := (fun q => And.imp (fun q => id (bf_not q)) (fun q => id (bf_not q)) (bf_or q)) h1b
    refine jc_skip ?_
    refine jq_then ?_
    refine jc_seq ?_
    refine jc_seq ?_
    refine jc_region ?_
    refine jo_pure rfl (pr_move rfl) ?_
    refine jo_pure rfl (pr_seql rfl rfl) ?_
    refine jo_nil ?_
    refine jq_then ?_
    refine jc_cond rfl (fun h2b => ?_) (fun h2b => ?_)
    · have h2 := of_decide_eq_true h2b
      refine jc_seq ?_
      refine jc_region ?_
      refine jo_pure rfl (pr_assign rfl) ?_
      refine jo_nil ?_
      refine jq_then ?_
      refine jc_ret ?_
      refine jq_then_ret ?_
      exact jq_ret1 rfl () rfl (show (.int .i64 (matchL r t) : Value) = (.int .i64 ((0 : Nat) : Int)) from congrArg (Value.int .i64) (by rw [tagM_all (by rw [h1.1, h1.2]; simp) h2]; rfl)) (fun _ h => h)
    · have h2 := of_decide_eq_false h2b
      refine jc_skip ?_
      refine jq_then ?_
      refine jc_seq ?_
      refine jc_region ?_
      refine jo_pure rfl (pr_move rfl) ?_
      refine jo_callp cal_75 (c_ref10_subtags r (by first | omega | exact Nat.le_trans (getD_len (i := i) (subt_mem r)) hr | exact Nat.le_trans (getD_len (i := i) (subt_mem t)) ht)) ⟨rfl, trivial⟩ rfl (trivial) (fun r1 => ?_)
      show J _ _ [.imm (.list .str) (r1) (cutAt 45 [] r)] _
      refine jo_pure rfl (pr_move rfl) ?_
      refine jo_callp cal_75 (c_ref10_subtags t (by first | omega | exact Nat.le_trans (getD_len (i := i) (subt_mem r)) hr | exact Nat.le_trans (getD_len (i := i) (subt_mem t)) ht)) ⟨rfl, trivial⟩ rfl (trivial) (fun r2 => ?_)
      show J _ _ [.imm (.list .str) (r2) (cutAt 45 [] t), .imm (.list .str) (r1) (cutAt 45 [] r)] _
      refine jo_pure rfl (pr_assign rfl) ?_
      refine jo_pure rfl (pr_assign rfl) ?_
      refine jo_nil ?_
      refine jq_then ?_
      refine jc_seq ?_
      refine jc_seq ?_
      refine jc_region ?_
      refine jo_pure rfl (pr_assign rfl) ?_
      refine jo_nil ?_
      refine jq_then ?_
      refine jc_block ?_
      refine jc_loop (fun (i : Nat) => [(5, r1), (6, r2), (7, .int .i64 ((i : Nat) : Int))]) (fun (i : Nat) => [.imm (.list .str) (r2) (cutAt 45 [] t), .imm (.list .str) (r1) (cutAt 45 [] r)]) (fun (i : Nat) => i ≤ (cutAt 45 [] r).length ∧ i ≤ (cutAt 45 [] t).length ∧ (cutAt 45 [] r).length ≤ r.length + 1 ∧ ((cutAt 45 [] r).take i).map lower = ((cutAt 45 [] t).take i).map lower) (fun (i : Nat) => (cutAt 45 [] r).length - i) 0 (⟨Nat.zero_le _, Nat.zero_le _, subt_length r, rfl⟩) (⟨rfl, rfl, rfl, trivial⟩) (fun _ h => h) (fun i hinv => ?_)
      refine jc_seq ?_
      refine jc_seq ?_
      refine jc_region ?_
      refine jo_pure rfl (pr_move rfl) ?_
      refine jo_pure rfl (pr_move rfl) ?_
      refine jo_pure rfl (pr_len_imm rfl (.tail _ (.head _)) Tryd.underlying22) ?_
      refine jo_pure rfl (pr_lssN (m := i) (n := (cutAt 45 [] r).length) rfl rfl) ?_
      refine jo_nil ?_
      refine jq_then ?_
      refine jc_cond rfl (fun h3b => ?_) (fun h3b => ?_)
      · have h3 := of_decide_eq_true h3b
        refine jc_skip ?_
        refine jq_then ?_
        refine jc_seq ?_
        refine jc_block ?_
        refine jc_seq ?_
        refine jc_draws mixed (by kernel_rfl) ?_
        refine jd_pure rfl (pr_move rfl) ?_
        refine jd_pure rfl (pr_move rfl) ?_
        refine jd_pure rfl (pr_len_imm rfl (.head _) Tryd.underlying22) ?_
        refine jd_pure rfl (pr_eqlN (m := i) (n := (cutAt 45 [] t).length) rfl rfl) ?_
        refine jd_pure rfl (pr_move rfl) ?_
        refine jd_gpure (j := 4) (want := false) rfl rfl rfl rfl (fun hg => pr_move rfl) ?_
        refine jd_gpure (j := 4) (want := false) rfl rfl rfl rfl (fun hg => pr_move rfl) ?_
        refine jd_gpure (j := 4) (want := false) rfl rfl rfl rfl (fun hg => pr_idx_imm (i := i) (evg rfl hg) (.tail _ (.head _)) (evg rfl hg) Tryd.underlying22 ty_9 (by first | omega | (simp at hg; omega))) ?_
        refine jd_gpure (j := 4) (want := false) rfl rfl rfl rfl (fun hg => pr_load_elem_imm (i := i) (str ((cutAt 45 [] r).getD i [])) (evg rfl hg) (.tail _ (.head _)) ty_9 rfl rfl (by first | omega | (simp at hg; omega)) rfl) ?_
        refine jd_gpure (j := 4) (want := false) rfl rfl rfl rfl (fun hg => pr_move rfl) ?_
        refine jd_gpure (j := 4) (want := false) rfl rfl rfl rfl (fun hg => pr_move rfl) ?_
        refine jd_gpure (j := 4) (want := false) rfl rfl rfl rfl (fun hg => pr_idx_imm (i := i) (evg rfl hg) (.head _) (evg rfl hg) Tryd.underlying22 ty_9 (by first | omega | (simp at hg; omega))) ?_
        refine jd_gpure (j := 4) (want := false) rfl rfl rfl rfl (fun hg => pr_load_elem_imm (i := i) (str ((cutAt 45 [] t).getD i [])) (evg rfl hg) (.head _) ty_9 rfl rfl (by first | omega | (simp at hg; omega)) rfl) ?_
        refine jd_gcall (j := 4) (want := false) rfl rfl rfl cal_35 (fun hg => c_ref01_Fold ((cutAt 45 [] r).getD i []) ((cutAt 45 [] t).getD i []) (by first | omega | exact Nat.le_trans (getD_len (i := i) (subt_mem r)) hr | exact Nat.le_trans (getD_len (i := i) (subt_mem t)) ht) (by first | omega | exact Nat.le_trans (getD_len (i := i) (subt_mem r)) hr | exact Nat.le_trans (getD_len (i := i) (subt_mem t)) ht)) (fun hg => ⟨evg rfl hg, evg rfl hg, trivial⟩) rfl (fun _ => trivial) ?_
        refine jd_gpure (j := 4) (want := false) rfl rfl rfl rfl (fun hg => pr_not (evg rfl hg)) ?_
        refine jd_pure rfl (pr_pick_or rfl rfl rfl) ?_
        refine jd_nil ?_
        refine jq_then ?_
        refine jc_cond rfl (fun h4b => ?_) (fun h4b => ?_)
        · have h4 := (fun q => Or.imp of_decide_eq_true (fun q => id (bt_not q)) (bt_or q)) h4b
          refine jc_seq ?_
          refine jc_region ?_
          refine jo_pure rfl (pr_assign rfl) ?_
          refine jo_nil ?_
          refine jq_then ?_
          refine jc_ret ?_
          refine jq_in_ret ?_
          refine jq_then_ret ?_
          refine jq_then_ret ?_
          refine jq_in_ret ?_
          refine jq_then_ret ?_
          refine j_drop ?_
          refine j_drop ?_
          exact jq_ret1 rfl () rfl (show (.int .i64 (matchL r t) : Value) = (.int .i64 (-1)) from congrArg (Value.int .i64) (by rw [tagR_not (by rw [h1.1, h1.2]; simp) h2 h3 h4 hinv.2.1])) (fun _ h => h)
        · have h4 := (fun q => And.imp of_decide_eq_false (fun q => id (bf_not q)) (bf_or q)) h4b
          refine jc_skip ?_
          refine jq_in_normal ?_
          refine jq_then ?_
          refine jc_region ?_
          refine jo_pure rfl (pr_move rfl) ?_
          refine jo_pure rfl (pr_addN (m := i) (n := 1) rfl rfl (by omega)) ?_
          refine jo_pure rfl (pr_assign rfl) ?_
          refine jo_nil ?_
          refine j_pull1 ?_
          refine j_pull1 ?_
          refine jq_round' (i + 1) (by (try dsimp only); exact (⟨by omega, by omega, hinv.2.2.1, map_take_step h3 (by omega) h4.2 hinv.2.2.2⟩)) (by (try dsimp only); exact (by omega)) ⟨rfl, rfl, rfl, trivial⟩ (fun _ h => h)
      · have h3 := of_decide_eq_false h3b
        refine jc_exit ?_
        refine jq_then_exit ?_
        refine jq_then_exit ?_
        refine jq_in_hit ?_
        refine jq_then ?_
        refine jc_seq ?_
        refine jc_region ?_
        refine jo_pure rfl (pr_move rfl) ?_
        refine jo_pure rfl (pr_len_imm rfl (.tail _ (.head _)) Tryd.underlying22) ?_
        refine jo_pure rfl (pr_assign rfl) ?_
        refine jo_nil ?_
        refine jq_then ?_
        refine jc_ret ?_
        refine j_drop ?_
        refine j_drop ?_
        exact jq_ret1 rfl () rfl (show (.int .i64 (matchL r t) : Value) = (.int .i64 (((cutAt 45 [] r).length : Nat) : Int)) from congrArg (Value.int .i64) (by rw [tagR_all (i := i) (by rw [h1.1, h1.2]; simp) h2 (Nat.le_of_not_lt h3) hinv.2.1 hinv.2.2.2]; rfl)) (fun _ h => h)

theorem c_accept_Match (kind : Int) (r : List UInt8) (v : List UInt8) (hr : r.length ≤ 1000000) (hv : v.length ≤ 1000000) : Con Tryd.prog 36 #[.int .i64 (kind), str (r), str (v)] [] (fun _ : Unit => .int .i64 (matchK kind r v)) (fun _ => []) := by
  refine con_of_J (args := [.int .i64 (kind), str (r), str (v)]) (n := 57) Tryd.func36 rfl (Nat.le_of_ble_eq_true rfl) rfl (fun w0 I0 m0 => ?_)
  show J _ [(0, .int .i64 (kind)), (1, str (r)), (2, str (v))] [] _
  refine jc_seq ?_
  refine jc_region ?_
  refine jo_pure rfl (pr_assign rfl) ?_
  refine jo_nil ?_
  refine jq_then ?_
  refine jc_seq ?_
  refine jc_seq ?_
  by_cases hk1 : kind = 1
  · skip
    refine jc_region ?_
    refine jo_pure rfl (pr_move rfl) ?_
    refine jo_nil ?_
    refine jq_then ?_
    refine jc_block ?_
    refine jc_seq ?_
    refine jc_region ?_
    refine jo_pure rfl (pr_eql (n := 1) rfl rfl) ?_
    refine jo_pure rfl (pr_assign rfl) ?_
    refine jo_nil ?_
    refine jq_then ?_
    refine jc_true rfl (decide_eq_true hk1) ?_
    refine jc_seq ?_
    refine jc_region ?_
    refine jo_pure rfl (pr_move rfl) ?_
    refine jo_callp cal_60 (c_mediatype_ParseRange r (by omega)) ⟨rfl, trivial⟩ rfl (trivial) (fun r1 => ?_)
    show J _ _ [.row (r1) 78 (.pair .str .str) ((parseR r).1.2.2)] _
    refine jo_pure rfl (pr_move rfl) ?_
    refine jo_pure rfl (pr_extract rfl rfl) ?_
    refine jo_pure rfl (pr_extract rfl rfl) ?_
    refine jo_alloc ty_64 [str ([]), str ([]), .slice none 0 0] rfl rfl (fun b1 => ?_)
    refine jo_storeV rfl rfl ty_64 [str ((parseR r).1.1), str ((parseR r).1.2.1), r1] (fun _ _ _ _ => rfl) rfl (fun w I m hs => by simp only [List.all_cons, List.all_nil, Bool.and_true, Bool.and_eq_true]; exact ⟨rfl, rfl, (SliceV.one (row_slice (.tail _ (.head _)) hs))⟩) [str ((parseR r).1.1), str ((parseR r).1.2.1), r1] rfl rfl ?_
    refine jo_pure rfl (pr_assign rfl) ?_
    refine jo_nil ?_
    refine jq_then ?_
    refine jc_seq ?_
    refine jc_region ?_
    refine jo_pure rfl (pr_move rfl) ?_
    refine jo_callp cal_61 (c_mediatype_Parse v (by omega)) ⟨rfl, trivial⟩ rfl (trivial) (fun r2 => ?_)
    show J _ _ [.row (r2) 78 (.pair .str .str) ((parseT v).1.2.2), .box b1 64 [str ((parseR r).1.1), str ((parseR r).1.2.1), r1], .row (r1) 78 (.pair .str .str) ((parseR r).1.2.2)] _
    refine jo_pure rfl (pr_move rfl) ?_
    refine jo_pure rfl (pr_extract rfl rfl) ?_
    refine jo_pure rfl (pr_extract rfl rfl) ?_
    refine jo_alloc ty_64 [str ([]), str ([]), .slice none 0 0] rfl rfl (fun b2 => ?_)
    refine jo_storeV rfl rfl ty_64 [str ((parseT v).1.1), str ((parseT v).1.2.1), r2] (fun _ _ _ _ => rfl) rfl (fun w I m hs => by simp only [List.all_cons, List.all_nil, Bool.and_true, Bool.and_eq_true]; exact ⟨rfl, rfl, (SliceV.one (row_slice (.tail _ (.head _)) hs))⟩) [str ((parseT v).1.1), str ((parseT v).1.2.1), r2] rfl rfl ?_
    refine jo_pure rfl (pr_assign rfl) ?_
    refine jo_nil ?_
    refine jq_then ?_
    refine jc_seq ?_
    refine jc_seq ?_
    refine jc_region ?_
    refine jo_pure rfl (pr_move rfl) ?_
    refine jo_pure rfl (pr_not rfl) ?_
    refine jo_pure rfl (pr_move rfl) ?_
    refine jo_gpure (j := 2) (want := false) rfl rfl rfl rfl (fun hg => pr_move rfl) ?_
    refine jo_gpure (j := 2) (want := false) rfl rfl rfl rfl (fun hg => pr_not (evg rfl hg)) ?_
    refine jo_pure rfl (pr_pick_or rfl rfl rfl) ?_
    refine jo_nil ?_
    refine jq_then ?_
    refine jc_cond rfl (fun h1b => ?_) (fun h1b => ?_)
    · have h1 := (fun q => Or.imp (fun q => id (bt_not q)) (fun q => id (bt_not q)) (bt_or q)) h1b
      refine jc_seq ?_
      refine jc_region ?_
      refine jo_pure rfl (pr_assign rfl) ?_
      refine jo_nil ?_
      refine jq_then ?_
      refine jc_ret ?_
      refine jq_then_ret ?_
      refine jq_in_ret ?_
      refine jq_then_ret ?_
      refine j_drop ?_
      refine j_drop ?_
      refine j_drop ?_
      refine j_drop ?_
      exact jq_ret1 rfl () rfl (show (.int .i64 (matchK kind r v) : Value) = (.int .i64 (-1)) from congrArg (Value.int .i64) (by first | rw [mK1_no hk1 h1] | rw [mK1_yes hk1 h1])) (fun _ h => h)
    · have h1 := (fun q => And.imp (fun q => id (bf_not q)) (fun q => id (bf_not q)) (bf_or q)) h1b
      refine jc_skip ?_
      refine jq_then ?_
      refine jc_seq ?_
      refine jc_region ?_
      refine jo_pure rfl (pr_load_box (.agg #[str ((parseR r).1.1), str ((parseR r).1.2.1), r1]) rfl ty_64 (.tail _ (.tail _ (.head _))) rfl (by decide) rfl) ?_
      refine jo_pure rfl (pr_load_box (.agg #[str ((parseT v).1.1), str ((parseT v).1.2.1), r2]) rfl ty_64 (.head _) rfl (by decide) rfl) ?_
      refine j_pull3 ?_
      refine j_pub_row ?_
      refine j_pull2 ?_
      refine j_pub_row ?_
      have con1 := c_mediatype_Match ((parseR r).1) r1 ((parseT v).1) r2 (by have := parseR_len r; omega) ((fun x hx => by have := (parseR_len r).2.2.2 x hx; omega)) (by have := parseT_len v; omega) ((fun x hx => by have := (parseT_len v).2.2.2 x hx; omega))
      refine jo_callp cal_62 con1 (by exact ⟨rfl, rfl, trivial⟩) rfl (by exact ⟨⟨rfl, .tail _ (.head _)⟩, ⟨⟨rfl, .head _⟩, trivial⟩⟩) (fun _ => ?_)
      clear con1
      refine jo_pure rfl (pr_assign rfl) ?_
      refine jo_nil ?_
      refine jq_then ?_
      refine jc_ret ?_
      refine jq_in_ret ?_
      refine jq_then_ret ?_
      refine j_drop ?_
      refine j_drop ?_
      refine j_drop ?_
      refine j_drop ?_
      exact jq_ret1 rfl () rfl (show (.int .i64 (matchK kind r v) : Value) = (.int .i64 (matchT ((parseR r).1) ((parseT v).1))) from congrArg (Value.int .i64) (by first | rw [mK1_no hk1 h1] | rw [mK1_yes hk1 h1])) (fun _ h => h)
  · skip
    by_cases hk2 : kind = 2
    · skip
      refine jc_region ?_
      refine jo_pure rfl (pr_move rfl) ?_
      refine jo_nil ?_
      refine jq_then ?_
      refine jc_block ?_
      refine jc_seq ?_
      refine jc_region ?_
      refine jo_pure rfl (pr_eql (n := 1) rfl rfl) ?_
      refine jo_pure rfl (pr_assign rfl) ?_
      refine jo_nil ?_
      refine jq_then ?_
      refine jc_false rfl (decide_eq_false hk1) ?_
      refine jc_seq ?_
      refine jc_region ?_
      refine jo_pure rfl (pr_eql (n := 2) rfl rfl) ?_
      refine jo_pure rfl (pr_assign rfl) ?_
      refine jo_nil ?_
      refine jq_then ?_
      refine jc_true rfl (decide_eq_true hk2) ?_
      refine jc_seq ?_
      refine jc_region ?_
      refine jo_pure rfl (pr_move rfl) ?_
      refine jo_pure rfl (pr_move rfl) ?_
      refine jo_callp cal_63 (c_language_Match r v (by omega) (by omega)) ⟨rfl, rfl, trivial⟩ rfl (trivial) (fun _ => ?_)
      refine jo_pure rfl (pr_assign rfl) ?_
      refine jo_nil ?_
      refine jq_then ?_
      refine jc_ret ?_
      refine jq_in_ret ?_
      refine jq_then_ret ?_
      exact jq_ret1 rfl () rfl (show (.int .i64 (matchK kind r v) : Value) = (.int .i64 (matchL r v)) from congrArg (Value.int .i64) (by rw [mK2 hk1 hk2])) (fun _ h => h)
    · skip
      by_cases hk3 : kind = 3
      · skip
        refine jc_region ?_
        refine jo_pure rfl (pr_move rfl) ?_
        refine jo_nil ?_
        refine jq_then ?_
        refine jc_block ?_
        refine jc_seq ?_
        refine jc_region ?_
        refine jo_pure rfl (pr_eql (n := 1) rfl rfl) ?_
        refine jo_pure rfl (pr_assign rfl) ?_
        refine jo_nil ?_
        refine jq_then ?_
        refine jc_false rfl (decide_eq_false hk1) ?_
        refine jc_seq ?_
        refine jc_region ?_
        refine jo_pure rfl (pr_eql (n := 2) rfl rfl) ?_
        refine jo_pure rfl (pr_assign rfl) ?_
        refine jo_nil ?_
        refine jq_then ?_
        refine jc_false rfl (decide_eq_false hk2) ?_
        refine jc_seq ?_
        refine jc_seq ?_
        refine jc_region ?_
        refine jo_pure rfl (pr_eql (n := 3) rfl rfl) ?_
        refine jo_pure rfl (pr_assign rfl) ?_
        refine jo_nil ?_
        refine jq_then ?_
        refine jc_true rfl (decide_eq_true hk3) ?_
        refine jc_skip ?_
        refine jq_then ?_
        refine jc_true rfl (decide_eq_true hk3) ?_
        refine jc_seq ?_
        refine jc_seq ?_
        refine jc_region ?_
        refine jo_pure rfl (pr_move rfl) ?_
        refine jo_callp cal_64 (c_ascii_Token r (by omega)) ⟨rfl, trivial⟩ rfl (trivial) (fun _ => ?_)
        refine jo_pure rfl (pr_not rfl) ?_
        refine jo_pure rfl (pr_move rfl) ?_
        refine jo_gpure (j := 3) (want := false) rfl rfl rfl rfl (fun hg => pr_move rfl) ?_
        refine jo_gcall (j := 3) (want := false) rfl rfl rfl cal_64 (fun hg => c_ascii_Token v (by omega)) (fun hg => ⟨evg rfl hg, trivial⟩) rfl (fun _ => trivial) ?_
        refine jo_gpure (j := 3) (want := false) rfl rfl rfl rfl (fun hg => pr_not (evg rfl hg)) ?_
        refine jo_pure rfl (pr_pick_or rfl rfl rfl) ?_
        refine jo_pure rfl (pr_move rfl) ?_
        refine jo_gpure (j := 8) (want := false) rfl rfl rfl rfl (fun hg => pr_move rfl) ?_
        refine jo_gpure (j := 8) (want := false) rfl rfl rfl rfl (fun hg => pr_seql (evg rfl hg) rfl) ?_
        refine jo_pure rfl (pr_pick_or rfl rfl rfl) ?_
        refine jo_nil ?_
        refine jq_then ?_
        refine jc_cond rfl (fun h2b => ?_) (fun h2b => ?_)
        · have h2 := (fun q => Or.imp (fun q => Or.imp (fun q => id (bt_not q)) (fun q => id (bt_not q)) (bt_or q)) of_decide_eq_true (bt_or q)) h2b
          refine jc_seq ?_
          refine jc_region ?_
          refine jo_pure rfl (pr_assign rfl) ?_
          refine jo_nil ?_
          refine jq_then ?_
          refine jc_ret ?_
          refine jq_then_ret ?_
          refine jq_in_ret ?_
          refine jq_then_ret ?_
          exact jq_ret1 rfl () rfl (show (.int .i64 (matchK kind r v) : Value) = (.int .i64 (-1)) from congrArg (Value.int .i64) (by first | rw [mK3_no hk1 hk2 (.inl hk3) h2] | rw [mK3_yes hk1 hk2 (.inl hk3) h2])) (fun _ h => h)
        · have h2 := (fun q => And.imp (fun q => And.imp (fun q => id (bf_not q)) (fun q => id (bf_not q)) (bf_or q)) of_decide_eq_false (bf_or q)) h2b
          refine jc_skip ?_
          refine jq_then ?_
          refine jc_seq ?_
          refine jc_region ?_
          refine jo_pure rfl (pr_move rfl) ?_
          refine jo_pure rfl (pr_move rfl) ?_
          refine jo_pure rfl (pr_move rfl) ?_
          refine jo_callp cal_65 (c_coding_Match kind r v (by omega) (by omega)) ⟨rfl, rfl, rfl, trivial⟩ rfl (trivial) (fun _ => ?_)
          refine jo_pure rfl (pr_assign rfl) ?_
          refine jo_nil ?_
          refine jq_then ?_
          refine jc_ret ?_
          refine jq_in_ret ?_
          refine jq_then_ret ?_
          exact jq_ret1 rfl () rfl (show (.int .i64 (matchK kind r v) : Value) = (.int .i64 (matchCoding kind r v)) from congrArg (Value.int .i64) (by first | rw [mK3_no hk1 hk2 (.inl hk3) h2] | rw [mK3_yes hk1 hk2 (.inl hk3) h2])) (fun _ h => h)
      · skip
        by_cases hk4 : kind = 4
        · skip
          refine jc_region ?_
          refine jo_pure rfl (pr_move rfl) ?_
          refine jo_nil ?_
          refine jq_then ?_
          refine jc_block ?_
          refine jc_seq ?_
          refine jc_region ?_
          refine jo_pure rfl (pr_eql (n := 1) rfl rfl) ?_
          refine jo_pure rfl (pr_assign rfl) ?_
          refine jo_nil ?_
          refine jq_then ?_
          refine jc_false rfl (decide_eq_false hk1) ?_
          refine jc_seq ?_
          refine jc_region ?_
          refine jo_pure rfl (pr_eql (n := 2) rfl rfl) ?_
          refine jo_pure rfl (pr_assign rfl) ?_
          refine jo_nil ?_
          refine jq_then ?_
          refine jc_false rfl (decide_eq_false hk2) ?_
          refine jc_seq ?_
          refine jc_seq ?_
          refine jc_region ?_
          refine jo_pure rfl (pr_eql (n := 3) rfl rfl) ?_
          refine jo_pure rfl (pr_assign rfl) ?_
          refine jo_nil ?_
          refine jq_then ?_
          refine jc_false rfl (decide_eq_false hk3) ?_
          refine jc_region ?_
          refine jo_pure rfl (pr_eql (n := 4) rfl rfl) ?_
          refine jo_pure rfl (pr_assign rfl) ?_
          refine jo_nil ?_
          refine jq_then ?_
          refine jc_true rfl (decide_eq_true hk4) ?_
          refine jc_seq ?_
          refine jc_seq ?_
          refine jc_region ?_
          refine jo_pure rfl (pr_move rfl) ?_
          refine jo_callp cal_64 (c_ascii_Token r (by omega)) ⟨rfl, trivial⟩ rfl (trivial) (fun _ => ?_)
          refine jo_pure rfl (pr_not rfl) ?_
          refine jo_pure rfl (pr_move rfl) ?_
          refine jo_gpure (j := 3) (want := false) rfl rfl rfl rfl (fun hg => pr_move rfl) ?_
          refine jo_gcall (j := 3) (want := false) rfl rfl rfl cal_64 (fun hg => c_ascii_Token v (by omega)) (fun hg => ⟨evg rfl hg, trivial⟩) rfl (fun _ => trivial) ?_
          refine jo_gpure (j := 3) (want := false) rfl rfl rfl rfl (fun hg => pr_not (evg rfl hg)) ?_
          refine jo_pure rfl (pr_pick_or rfl rfl rfl) ?_
          refine jo_pure rfl (pr_move rfl) ?_
          refine jo_gpure (j := 8) (want := false) rfl rfl rfl rfl (fun hg => pr_move rfl) ?_
          refine jo_gpure (j := 8) (want := false) rfl rfl rfl rfl (fun hg => pr_seql (evg rfl hg) rfl) ?_
          refine jo_pure rfl (pr_pick_or rfl rfl rfl) ?_
          refine jo_nil ?_
          refine jq_then ?_
          refine jc_cond rfl (fun h3b => ?_) (fun h3b => ?_)
          · have h3 := (fun q => Or.imp (fun q => Or.imp (fun q => id (bt_not q)) (fun q => id (bt_not q)) (bt_or q)) of_decide_eq_true (bt_or q)) h3b
            refine jc_seq ?_
            refine jc_region ?_
            refine jo_pure rfl (pr_assign rfl) ?_
            refine jo_nil ?_
            refine jq_then ?_
            refine jc_ret ?_
            refine jq_then_ret ?_
            refine jq_in_ret ?_
            refine jq_then_ret ?_
            exact jq_ret1 rfl () rfl (show (.int .i64 (matchK kind r v) : Value) = (.int .i64 (-1)) from congrArg (Value.int .i64) (by first | rw [mK3_no hk1 hk2 (.inr hk4) h3] | rw [mK3_yes hk1 hk2 (.inr hk4) h3])) (fun _ h => h)
          · have h3 := (fun q => And.imp (fun q => And.imp (fun q => id (bf_not q)) (fun q => id (bf_not q)) (bf_or q)) of_decide_eq_false (bf_or q)) h3b
            refine jc_skip ?_
            refine jq_then ?_
            refine jc_seq ?_
            refine jc_region ?_
            refine jo_pure rfl (pr_move rfl) ?_
            refine jo_pure rfl (pr_move rfl) ?_
            refine jo_pure rfl (pr_move rfl) ?_
            refine jo_callp cal_65 (c_coding_Match kind r v (by omega) (by omega)) ⟨rfl, rfl, rfl, trivial⟩ rfl (trivial) (fun _ => ?_)
            refine jo_pure rfl (pr_assign rfl) ?_
            refine jo_nil ?_
            refine jq_then ?_
            refine jc_ret ?_
            refine jq_in_ret ?_
            refine jq_then_ret ?_
            exact jq_ret1 rfl () rfl (show (.int .i64 (matchK kind r v) : Value) = (.int .i64 (matchCoding kind r v)) from congrArg (Value.int .i64) (by first | rw [mK3_no hk1 hk2 (.inr hk4) h3] | rw [mK3_yes hk1 hk2 (.inr hk4) h3])) (fun _ h => h)
        · skip
          refine jc_region ?_
          refine jo_pure rfl (pr_move rfl) ?_
          refine jo_nil ?_
          refine jq_then ?_
          refine jc_block ?_
          refine jc_seq ?_
          refine jc_region ?_
          refine jo_pure rfl (pr_eql (n := 1) rfl rfl) ?_
          refine jo_pure rfl (pr_assign rfl) ?_
          refine jo_nil ?_
          refine jq_then ?_
          refine jc_false rfl (decide_eq_false hk1) ?_
          refine jc_seq ?_
          refine jc_region ?_
          refine jo_pure rfl (pr_eql (n := 2) rfl rfl) ?_
          refine jo_pure rfl (pr_assign rfl) ?_
          refine jo_nil ?_
          refine jq_then ?_
          refine jc_false rfl (decide_eq_false hk2) ?_
          refine jc_seq ?_
          refine jc_seq ?_
          refine jc_region ?_
          refine jo_pure rfl (pr_eql (n := 3) rfl rfl) ?_
          refine jo_pure rfl (pr_assign rfl) ?_
          refine jo_nil ?_
          refine jq_then ?_
          refine jc_false rfl (decide_eq_false hk3) ?_
          refine jc_region ?_
          refine jo_pure rfl (pr_eql (n := 4) rfl rfl) ?_
          refine jo_pure rfl (pr_assign rfl) ?_
          refine jo_nil ?_
          refine jq_then ?_
          refine jc_false rfl (decide_eq_false hk4) ?_
          refine jc_skip ?_
          refine jq_in_normal ?_
          refine jq_then ?_
          refine jc_seq ?_
          refine jc_region ?_
          refine jo_pure rfl (pr_assign rfl) ?_
          refine jo_nil ?_
          refine jq_then ?_
          refine jc_ret ?_
          exact jq_ret1 rfl () rfl (show (.int .i64 (matchK kind r v) : Value) = (.int .i64 (-1)) from congrArg (Value.int .i64) (by rw [mK5 hk1 hk2 hk3 hk4])) (fun _ h => h)

theorem c_ref10_Match (kind : Int) (r : List UInt8) (v : List UInt8) (hr : r.length ≤ 1000000) (hv : v.length ≤ 1000000) : Con Tryd.prog 25 #[.int .i64 (kind), str (r), str (v)] [] (fun _ : Unit => .int .i64 (matchK kind r v)) (fun _ => []) := by
  refine con_of_J (args := [.int .i64 (kind), str (r), str (v)]) (n := 53) Tryd.func25 rfl (Nat.le_of_ble_eq_true rfl) rfl (fun w0 I0 m0 => ?_)
  show J _ [(0, .int .i64 (kind)), (1, str (r)), (2, str (v))] [] _
  refine jc_seq ?_
  refine jc_region ?_
  refine jo_pure rfl (pr_assign rfl) ?_
  refine jo_nil ?_
  refine jq_then ?_
  refine jc_seq ?_
  refine jc_seq ?_
  by_cases hk1 : kind = 1
  · skip
    refine jc_region ?_
    refine jo_pure rfl (pr_move rfl) ?_
    refine jo_nil ?_
    refine jq_then ?_
    refine jc_block ?_
    refine jc_seq ?_
    refine jc_region ?_
    refine jo_pure rfl (pr_eql (n := 1) rfl rfl) ?_
    refine jo_pure rfl (pr_assign rfl) ?_
    refine jo_nil ?_
    refine jq_then ?_
    refine jc_true rfl (decide_eq_true hk1) ?_
    refine jc_seq ?_
    refine jc_region ?_
    refine jo_pure rfl (pr_move rfl) ?_
    refine jo_callp cal_40 (c_ref10_ParseRange r (by omega)) ⟨rfl, trivial⟩ rfl (trivial) (fun r1 => ?_)
    show J _ _ [.row (r1) 78 (.pair .str .str) ((parseR r).1.2.2)] _
    refine jo_pure rfl (pr_move rfl) ?_
    refine jo_pure rfl (pr_extract rfl rfl) ?_
    refine jo_pure rfl (pr_extract rfl rfl) ?_
    refine jo_alloc ty_64 [str ([]), str ([]), .slice none 0 0] rfl rfl (fun b1 => ?_)
    refine jo_storeV rfl rfl ty_64 [str ((parseR r).1.1), str ((parseR r).1.2.1), r1] (fun _ _ _ _ => rfl) rfl (fun w I m hs => by simp only [List.all_cons, List.all_nil, Bool.and_true, Bool.and_eq_true]; exact ⟨rfl, rfl, (SliceV.one (row_slice (.tail _ (.head _)) hs))⟩) [str ((parseR r).1.1), str ((parseR r).1.2.1), r1] rfl rfl ?_
    refine jo_pure rfl (pr_assign rfl) ?_
    refine jo_nil ?_
    refine jq_then ?_
    refine jc_seq ?_
    refine jc_region ?_
    refine jo_pure rfl (pr_move rfl) ?_
    refine jo_callp cal_41 (c_ref10_ParseType v (by omega)) ⟨rfl, trivial⟩ rfl (trivial) (fun r2 => ?_)
    show J _ _ [.row (r2) 78 (.pair .str .str) ((parseT v).1.2.2), .box b1 64 [str ((parseR r).1.1), str ((parseR r).1.2.1), r1], .row (r1) 78 (.pair .str .str) ((parseR r).1.2.2)] _
    refine jo_pure rfl (pr_move rfl) ?_
    refine jo_pure rfl (pr_extract rfl rfl) ?_
    refine jo_pure rfl (pr_extract rfl rfl) ?_
    refine jo_alloc ty_64 [str ([]), str ([]), .slice none 0 0] rfl rfl (fun b2 => ?_)
    refine jo_storeV rfl rfl ty_64 [str ((parseT v).1.1), str ((parseT v).1.2.1), r2] (fun _ _ _ _ => rfl) rfl (fun w I m hs => by simp only [List.all_cons, List.all_nil, Bool.and_true, Bool.and_eq_true]; exact ⟨rfl, rfl, (SliceV.one (row_slice (.tail _ (.head _)) hs))⟩) [str ((parseT v).1.1), str ((parseT v).1.2.1), r2] rfl rfl ?_
    refine jo_pure rfl (pr_assign rfl) ?_
    refine jo_nil ?_
    refine jq_then ?_
    refine jc_seq ?_
    refine jc_region ?_
    refine jo_pure rfl (pr_move rfl) ?_
    refine jo_pure rfl (pr_move rfl) ?_
    refine jo_gpure (j := 1) (want := true) rfl rfl rfl rfl (fun hg => pr_move rfl) ?_
    refine jo_pure rfl (pr_pick_and rfl rfl rfl) ?_
    refine jo_nil ?_
    refine jq_then ?_
    refine jc_cond rfl (fun h1b => ?_) (fun h1b => ?_)
    · have h1 := (fun q => And.imp id id (bt_and q)) h1b
      refine jc_seq ?_
      refine jc_region ?_
      refine jo_pure rfl (pr_load_box (.agg #[str ((parseR r).1.1), str ((parseR r).1.2.1), r1]) rfl ty_64 (.tail _ (.tail _ (.head _))) rfl (by decide) rfl) ?_
      refine jo_pure rfl (pr_load_box (.agg #[str ((parseT v).1.1), str ((parseT v).1.2.1), r2]) rfl ty_64 (.head _) rfl (by decide) rfl) ?_
      refine j_pull3 ?_
      refine j_pub_row ?_
      refine j_pull2 ?_
      refine j_pub_row ?_
      have con1 := c_ref10_MatchType ((parseR r).1) r1 ((parseT v).1) r2 (by have := parseR_len r; omega) ((fun x hx => by have := (parseR_len r).2.2.2 x hx; omega)) (by have := parseT_len v; omega) ((fun x hx => by have := (parseT_len v).2.2.2 x hx; omega))
      refine jo_callp cal_42 con1 (by exact ⟨rfl, rfl, trivial⟩) rfl (by exact ⟨⟨rfl, .tail _ (.head _)⟩, ⟨⟨rfl, .head _⟩, trivial⟩⟩) (fun _ => ?_)
      clear con1
      refine jo_pure rfl (pr_assign rfl) ?_
      refine jo_nil ?_
      refine jq_then ?_
      refine jc_ret ?_
      refine jq_in_ret ?_
      refine jq_then_ret ?_
      refine j_drop ?_
      refine j_drop ?_
      refine j_drop ?_
      refine j_drop ?_
      exact jq_ret1 rfl () rfl (show (.int .i64 (matchK kind r v) : Value) = (.int .i64 (matchT ((parseR r).1) ((parseT v).1))) from congrArg (Value.int .i64) (by first | rw [mK1_no hk1 h1] | rw [mK1_yes hk1 h1])) (fun _ h => h)
    · have h1 := (fun q => Or.imp id id (bf_and q)) h1b
      refine jc_skip ?_
      refine jq_in_normal ?_
      refine jq_then ?_
      refine jc_seq ?_
      refine jc_region ?_
      refine jo_pure rfl (pr_assign rfl) ?_
      refine jo_nil ?_
      refine jq_then ?_
      refine jc_ret ?_
      refine j_drop ?_
      refine j_drop ?_
      refine j_drop ?_
      refine j_drop ?_
      exact jq_ret1 rfl () rfl (show (.int .i64 (matchK kind r v) : Value) = (.int .i64 (-1)) from congrArg (Value.int .i64) (by first | rw [mK1_no hk1 h1] | rw [mK1_yes hk1 h1])) (fun _ h => h)
  · skip
    by_cases hk2 : kind = 2
    · skip
      refine jc_region ?_
      refine jo_pure rfl (pr_move rfl) ?_
      refine jo_nil ?_
      refine jq_then ?_
      refine jc_block ?_
      refine jc_seq ?_
      refine jc_region ?_
      refine jo_pure rfl (pr_eql (n := 1) rfl rfl) ?_
      refine jo_pure rfl (pr_assign rfl) ?_
      refine jo_nil ?_
      refine jq_then ?_
      refine jc_false rfl (decide_eq_false hk1) ?_
      refine jc_seq ?_
      refine jc_region ?_
      refine jo_pure rfl (pr_eql (n := 2) rfl rfl) ?_
      refine jo_pure rfl (pr_assign rfl) ?_
      refine jo_nil ?_
      refine jq_then ?_
      refine jc_true rfl (decide_eq_true hk2) ?_
      refine jc_seq ?_
      refine jc_region ?_
      refine jo_pure rfl (pr_move rfl) ?_
      refine jo_pure rfl (pr_move rfl) ?_
      refine jo_callp cal_43 (c_ref10_MatchTag r v (by omega) (by omega)) ⟨rfl, rfl, trivial⟩ rfl (trivial) (fun _ => ?_)
      refine jo_pure rfl (pr_assign rfl) ?_
      refine jo_nil ?_
      refine jq_then ?_
      refine jc_ret ?_
      refine jq_in_ret ?_
      refine jq_then_ret ?_
      exact jq_ret1 rfl () rfl (show (.int .i64 (matchK kind r v) : Value) = (.int .i64 (matchL r v)) from congrArg (Value.int .i64) (by rw [mK2 hk1 hk2])) (fun _ h => h)
    · skip
      by_cases hk3 : kind = 3
      · skip
        refine jc_region ?_
        refine jo_pure rfl (pr_move rfl) ?_
        refine jo_nil ?_
        refine jq_then ?_
        refine jc_block ?_
        refine jc_seq ?_
        refine jc_region ?_
        refine jo_pure rfl (pr_eql (n := 1) rfl rfl) ?_
        refine jo_pure rfl (pr_assign rfl) ?_
        refine jo_nil ?_
        refine jq_then ?_
        refine jc_false rfl (decide_eq_false hk1) ?_
        refine jc_seq ?_
        refine jc_region ?_
        refine jo_pure rfl (pr_eql (n := 2) rfl rfl) ?_
        refine jo_pure rfl (pr_assign rfl) ?_
        refine jo_nil ?_
        refine jq_then ?_
        refine jc_false rfl (decide_eq_false hk2) ?_
        refine jc_seq ?_
        refine jc_seq ?_
        refine jc_region ?_
        refine jo_pure rfl (pr_eql (n := 3) rfl rfl) ?_
        refine jo_pure rfl (pr_assign rfl) ?_
        refine jo_nil ?_
        refine jq_then ?_
        refine jc_true rfl (decide_eq_true hk3) ?_
        refine jc_skip ?_
        refine jq_then ?_
        refine jc_true rfl (decide_eq_true hk3) ?_
        refine jc_seq ?_
        refine jc_region ?_
        refine jo_pure rfl (pr_move rfl) ?_
        refine jo_callp cal_44 (c_ref01_Token r (by omega)) ⟨rfl, trivial⟩ rfl (trivial) (fun _ => ?_)
        refine jo_pure rfl (pr_move rfl) ?_
        refine jo_gpure (j := 2) (want := true) rfl rfl rfl rfl (fun hg => pr_move rfl) ?_
        refine jo_gcall (j := 2) (want := true) rfl rfl rfl cal_44 (fun hg => c_ref01_Token v (by omega)) (fun hg => ⟨evg rfl hg, trivial⟩) rfl (fun _ => trivial) ?_
        refine jo_pure rfl (pr_pick_and rfl rfl rfl) ?_
        refine jo_pure rfl (pr_move rfl) ?_
        refine jo_gpure (j := 6) (want := true) rfl rfl rfl rfl (fun hg => pr_move rfl) ?_
        refine jo_gpure (j := 6) (want := true) rfl rfl rfl rfl (fun hg => pr_sneq (evg rfl hg) rfl) ?_
        refine jo_pure rfl (pr_pick_and rfl rfl rfl) ?_
        refine jo_nil ?_
        refine jq_then ?_
        refine jc_cond rfl (fun h2b => ?_) (fun h2b => ?_)
        · have h2 := (fun q => And.imp (fun q => And.imp id id (bt_and q)) (fun q => of_decide_eq_false (bt_not q)) (bt_and q)) h2b
          refine jc_seq ?_
          refine jc_region ?_
          refine jo_pure rfl (pr_move rfl) ?_
          refine jo_pure rfl (pr_move rfl) ?_
          refine jo_pure rfl (pr_move rfl) ?_
          refine jo_callp cal_45 (c_ref10_MatchCoding kind r v (by omega) (by omega)) ⟨rfl, rfl, rfl, trivial⟩ rfl (trivial) (fun _ => ?_)
          refine jo_pure rfl (pr_assign rfl) ?_
          refine jo_nil ?_
          refine jq_then ?_
          refine jc_ret ?_
          refine jq_in_ret ?_
          refine jq_then_ret ?_
          exact jq_ret1 rfl () rfl (show (.int .i64 (matchK kind r v) : Value) = (.int .i64 (matchCoding kind r v)) from congrArg (Value.int .i64) (by first | rw [mK3_no hk1 hk2 (.inl hk3) h2] | rw [mK3_yes hk1 hk2 (.inl hk3) h2])) (fun _ h => h)
        · have h2 := (fun q => Or.imp (fun q => Or.imp id id (bf_and q)) (fun q => of_decide_eq_true (bf_not q)) (bf_and q)) h2b
          refine jc_skip ?_
          refine jq_in_normal ?_
          refine jq_then ?_
          refine jc_seq ?_
          refine jc_region ?_
          refine jo_pure rfl (pr_assign rfl) ?_
          refine jo_nil ?_
          refine jq_then ?_
          refine jc_ret ?_
          exact jq_ret1 rfl () rfl (show (.int .i64 (matchK kind r v) : Value) = (.int .i64 (-1)) from congrArg (Value.int .i64) (by first | rw [mK3_no hk1 hk2 (.inl hk3) h2] | rw [mK3_yes hk1 hk2 (.inl hk3) h2])) (fun _ h => h)
      · skip
        by_cases hk4 : kind = 4
        · skip
          refine jc_region ?_
          refine jo_pure rfl (pr_move rfl) ?_
          refine jo_nil ?_
          refine jq_then ?_
          refine jc_block ?_
          refine jc_seq ?_
          refine jc_region ?_
          refine jo_pure rfl (pr_eql (n := 1) rfl rfl) ?_
          refine jo_pure rfl (pr_assign rfl) ?_
          refine jo_nil ?_
          refine jq_then ?_
          refine jc_false rfl (decide_eq_false hk1) ?_
          refine jc_seq ?_
          refine jc_region ?_
          refine jo_pure rfl (pr_eql (n := 2) rfl rfl) ?_
          refine jo_pure rfl (pr_assign rfl) ?_
          refine jo_nil ?_
          refine jq_then ?_
          refine jc_false rfl (decide_eq_false hk2) ?_
          refine jc_seq ?_
          refine jc_seq ?_
          refine jc_region ?_
          refine jo_pure rfl (pr_eql (n := 3) rfl rfl) ?_
          refine jo_pure rfl (pr_assign rfl) ?_
          refine jo_nil ?_
          refine jq_then ?_
          refine jc_false rfl (decide_eq_false hk3) ?_
          refine jc_region ?_
          refine jo_pure rfl (pr_eql (n := 4) rfl rfl) ?_
          refine jo_pure rfl (pr_assign rfl) ?_
          refine jo_nil ?_
          refine jq_then ?_
          refine jc_true rfl (decide_eq_true hk4) ?_
          refine jc_seq ?_
          refine jc_region ?_
          refine jo_pure rfl (pr_move rfl) ?_
          refine jo_callp cal_44 (c_ref01_Token r (by omega)) ⟨rfl, trivial⟩ rfl (trivial) (fun _ => ?_)
          refine jo_pure rfl (pr_move rfl) ?_
          refine jo_gpure (j := 2) (want := true) rfl rfl rfl rfl (fun hg => pr_move rfl) ?_
          refine jo_gcall (j := 2) (want := true) rfl rfl rfl cal_44 (fun hg => c_ref01_Token v (by omega)) (fun hg => ⟨evg rfl hg, trivial⟩) rfl (fun _ => trivial) ?_
          refine jo_pure rfl (pr_pick_and rfl rfl rfl) ?_
          refine jo_pure rfl (pr_move rfl) ?_
          refine jo_gpure (j := 6) (want := true) rfl rfl rfl rfl (fun hg => pr_move rfl) ?_
          refine jo_gpure (j := 6) (want := true) rfl rfl rfl rfl (fun hg => pr_sneq (evg rfl hg) rfl) ?_
          refine jo_pure rfl (pr_pick_and rfl rfl rfl) ?_
          refine jo_nil ?_
          refine jq_then ?_
          refine jc_cond rfl (fun h3b => ?_) (fun h3b => ?_)
          · have h3 := (fun q => And.imp (fun q => And.imp id id (bt_and q)) (fun q => of_decide_eq_false (bt_not q)) (bt_and q)) h3b
            refine jc_seq ?_
            refine jc_region ?_
            refine jo_pure rfl (pr_move rfl) ?_
            refine jo_pure rfl (pr_move rfl) ?_
            refine jo_pure rfl (pr_move rfl) ?_
            refine jo_callp cal_45 (c_ref10_MatchCoding kind r v (by omega) (by omega)) ⟨rfl, rfl, rfl, trivial⟩ rfl (trivial) (fun _ => ?_)
            refine jo_pure rfl (pr_assign rfl) ?_
            refine jo_nil ?_
            refine jq_then ?_
            refine jc_ret ?_
            refine jq_in_ret ?_
            refine jq_then_ret ?_
            exact jq_ret1 rfl () rfl (show (.int .i64 (matchK kind r v) : Value) = (.int .i64 (matchCoding kind r v)) from congrArg (Value.int .i64) (by first | rw [mK3_no hk1 hk2 (.inr hk4) h3] | rw [mK3_yes hk1 hk2 (.inr hk4) h3])) (fun _ h => h)
          · have h3 := (fun q => Or.imp (fun q => Or.imp id id (bf_and q)) (fun q => of_decide_eq_true (bf_not q)) (bf_and q)) h3b
            refine jc_skip ?_
            refine jq_in_normal ?_
            refine jq_then ?_
            refine jc_seq ?_
            refine jc_region ?_
            refine jo_pure rfl (pr_assign rfl) ?_
            refine jo_nil ?_
            refine jq_then ?_
            refine jc_ret ?_
            exact jq_ret1 rfl () rfl (show (.int .i64 (matchK kind r v) : Value) = (.int .i64 (-1)) from congrArg (Value.int .i64) (by first | rw [mK3_no hk1 hk2 (.inr hk4) h3] | rw [mK3_yes hk1 hk2 (.inr hk4) h3])) (fun _ h => h)
        · skip
          refine jc_region ?_
          refine jo_pure rfl (pr_move rfl) ?_
          refine jo_nil ?_
          refine jq_then ?_
          refine jc_block ?_
          refine jc_seq ?_
          refine jc_region ?_
          refine jo_pure rfl (pr_eql (n := 1) rfl rfl) ?_
          refine jo_pure rfl (pr_assign rfl) ?_
          refine jo_nil ?_
          refine jq_then ?_
          refine jc_false rfl (decide_eq_false hk1) ?_
          refine jc_seq ?_
          refine jc_region ?_
          refine jo_pure rfl (pr_eql (n := 2) rfl rfl) ?_
          refine jo_pure rfl (pr_assign rfl) ?_
          refine jo_nil ?_
          refine jq_then ?_
          refine jc_false rfl (decide_eq_false hk2) ?_
          refine jc_seq ?_
          refine jc_seq ?_
          refine jc_region ?_
          refine jo_pure rfl (pr_eql (n := 3) rfl rfl) ?_
          refine jo_pure rfl (pr_assign rfl) ?_
          refine jo_nil ?_
          refine jq_then ?_
          refine jc_false rfl (decide_eq_false hk3) ?_
          refine jc_region ?_
          refine jo_pure rfl (pr_eql (n := 4) rfl rfl) ?_
          refine jo_pure rfl (pr_assign rfl) ?_
          refine jo_nil ?_
          refine jq_then ?_
          refine jc_false rfl (decide_eq_false hk4) ?_
          refine jc_skip ?_
          refine jq_in_normal ?_
          refine jq_then ?_
          refine jc_seq ?_
          refine jc_region ?_
          refine jo_pure rfl (pr_assign rfl) ?_
          refine jo_nil ?_
          refine jq_then ?_
          refine jc_ret ?_
          exact jq_ret1 rfl () rfl (show (.int .i64 (matchK kind r v) : Value) = (.int .i64 (-1)) from congrArg (Value.int .i64) (by rw [mK5 hk1 hk2 hk3 hk4])) (fun _ h => h)
end Go.Proofs.YtikllmfjgpmcnaaDoor
