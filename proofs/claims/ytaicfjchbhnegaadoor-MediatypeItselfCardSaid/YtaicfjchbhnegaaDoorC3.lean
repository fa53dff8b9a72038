/-
  Contracts of functions of the program: each returns what a plain function says, for every input within the bounds named. Conditions: the bounds.
-/
import Derived.Test.YtaicfjchbhnegaaDoorRows
import Derived.Test.YtaicfjchbhnegaaDoorC2
namespace Go.Proofs.YtaicfjchbhnegaaDoor
open Go Go.Sep
set_option linter.unusedSimpArgs false
set_option linter.unusedVariables false

open Go.Plain

theorem mixed : Tryd.prog.follows .mixedOrders = true := by kernel_rfl
theorem cal_17 : Cal Tryd.prog 17 := cal_of Tryd.func17 (by kernel_rfl) rfl
theorem cal_18 : Cal Tryd.prog 18 := cal_of Tryd.func18 (by kernel_rfl) rfl
theorem cal_19 : Cal Tryd.prog 19 := cal_of Tryd.func19 (by kernel_rfl) rfl
theorem cal_20 : Cal Tryd.prog 20 := cal_of Tryd.func20 (by kernel_rfl) rfl
theorem cal_21 : Cal Tryd.prog 21 := cal_of Tryd.func21 (by kernel_rfl) rfl
theorem cal_42 : Cal Tryd.prog 42 := cal_of Tryd.func42 (by kernel_rfl) rfl
theorem cal_43 : Cal Tryd.prog 43 := cal_of Tryd.func43 (by kernel_rfl) rfl
theorem cal_62 : Cal Tryd.prog 62 := cal_of Tryd.func62 (by kernel_rfl) rfl
theorem cal_63 : Cal Tryd.prog 63 := cal_of Tryd.func63 (by kernel_rfl) rfl
theorem cal_64 : Cal Tryd.prog 64 := cal_of Tryd.func64 (by kernel_rfl) rfl
theorem cal_65 : Cal Tryd.prog 65 := cal_of Tryd.func65 (by kernel_rfl) rfl
theorem cal_66 : Cal Tryd.prog 66 := cal_of Tryd.func66 (by kernel_rfl) rfl
theorem cal_67 : Cal Tryd.prog 67 := cal_of Tryd.func67 (by kernel_rfl) rfl
theorem cal_68 : Cal Tryd.prog 68 := cal_of Tryd.func68 (by kernel_rfl) rfl
theorem cal_69 : Cal Tryd.prog 69 := cal_of Tryd.func69 (by kernel_rfl) rfl
theorem cal_85 : Cal Tryd.prog 85 := cal_of Tryd.func85 (by kernel_rfl) rfl
theorem cal_93 : Cal Tryd.prog 93 := cal_of Tryd.func93 (by kernel_rfl) rfl
theorem cal_102 : Cal Tryd.prog 102 := cal_of Tryd.func102 (by kernel_rfl) rfl
theorem ty_9 : TyF Tryd.prog 9 false 1 16 (some (str ([]))) := ⟨by kernel_rfl, by kernel_rfl⟩
theorem ty_23 : TyF Tryd.prog 23 true 2 32 (some (.agg #[str ([]), str ([])])) := ⟨by kernel_rfl, by kernel_rfl⟩

theorem c_internal_stringslite_IndexByte (s : List UInt8) (c : UInt8)  : Con Tryd.prog 102 #[str (s), byte (c)] [] (fun _ : Unit => .int .i64 (idx s c)) (fun _ => []) := by
  refine con_of_J (args := [str (s), byte (c)]) (n := 8) Tryd.func102 rfl (Nat.le_of_ble_eq_true rfl) rfl (fun w0 I0 m0 => ?_)
  show J _ [(0, str (s)), (1, byte (c))] [] _
  refine jc_seq ?_
  refine jc_region ?_
  refine jo_pure rfl (pr_assign rfl) ?_
  refine jo_nil ?_
  refine jq_then ?_
  refine jc_seq ?_
  refine jc_region ?_
  refine jo_pure rfl (pr_move rfl) ?_
  refine jo_pure rfl (pr_move rfl) ?_
  refine jo_pure rfl (pr_ext (vs := [str (s), byte (c)]) Tryd.func110 (by kernel_rfl) rfl (by kernel_rfl) (by kernel_rfl) ⟨rfl, rfl, trivial⟩ (fun w => run_indexByte s c w)) ?_
  refine jo_pure rfl (pr_assign rfl) ?_
  refine jo_nil ?_
  refine jq_then ?_
  refine jc_ret ?_
  exact jq_ret1 rfl () rfl (show (_ : Value) = (.int .i64 (idx s c)) from rfl) (fun _ h => h)

theorem c_internal_stringslite_Index (s : List UInt8) (sep : List UInt8) (c : UInt8) (hsep : sep = [c]) (hs : s.length ≤ 1000000) : Con Tryd.prog 93 #[str (s), str (sep)] [] (fun _ : Unit => .int .i64 (idx s c)) (fun _ => []) := by
  refine con_of_J (args := [str (s), str (sep)]) (n := 143) Tryd.func93 rfl (Nat.le_of_ble_eq_true rfl) rfl (fun w0 I0 m0 => ?_)
  show J _ [(0, str (s)), (1, str (sep))] [] _
  refine jc_seq ?_
  refine jc_region ?_
  refine jo_pure rfl (pr_assign rfl) ?_
  refine jo_nil ?_
  refine jq_then ?_
  refine jc_seq ?_
  refine jc_region ?_
  refine jo_pure rfl (pr_move rfl) ?_
  refine jo_pure rfl (pr_slen rfl Tryd.underlying9) ?_
  refine jo_pure rfl (pr_assign rfl) ?_
  refine jo_nil ?_
  refine jq_then ?_
  refine jc_seq ?_
  refine jc_block ?_
  refine jc_seq ?_
  refine jc_region ?_
  refine jo_pure rfl (pr_move rfl) ?_
  refine jo_pure rfl (pr_eqlN (m := sep.length) (n := 0) rfl rfl) ?_
  refine jo_pure rfl (pr_move rfl) ?_
  refine jo_gpure (j := 2) (want := false) rfl rfl rfl rfl (fun hg => pr_move rfl) ?_
  refine jo_gpure (j := 2) (want := false) rfl rfl rfl rfl (fun hg => pr_move rfl) ?_
  refine jo_gpure (j := 2) (want := false) rfl rfl rfl rfl (fun hg => pr_seql (evg rfl hg) (evg rfl hg)) ?_
  refine jo_pure rfl (pr_pick_or rfl rfl rfl) ?_
  refine jo_pure rfl (pr_assign rfl) ?_
  refine jo_nil ?_
  refine jq_then ?_
  refine jc_cond rfl (fun h1b => ?_) (fun h1b => ?_)
  · have h1 := (fun q => Or.imp of_decide_eq_true of_decide_eq_true (bt_or q)) h1b
    refine jc_seq ?_
    refine jc_region ?_
    refine jo_pure rfl (pr_assign rfl) ?_
    refine jo_nil ?_
    refine jq_then ?_
    refine jc_ret ?_
    refine jq_in_ret ?_
    refine jq_then_ret ?_
    exact jq_ret1 rfl () rfl (show (_ : Value) = (.int .i64 ((0 : Nat) : Int)) from congrArg (Value.int .i64) (by rcases h1 with h1 | h1; (rw [hsep] at h1; cases h1); (rw [← h1, hsep, pos_self]; rfl))) (fun _ h => h)
  · have h1 := (fun q => And.imp of_decide_eq_false of_decide_eq_false (bf_or q)) h1b
    refine jc_seq ?_
    refine jc_region ?_
    refine jo_pure rfl (pr_move rfl) ?_
    refine jo_pure rfl (pr_eqlN (m := sep.length) (n := 1) rfl rfl) ?_
    refine jo_pure rfl (pr_assign rfl) ?_
    refine jo_nil ?_
    refine jq_then ?_
    refine jc_cond rfl (fun h2b => ?_) (fun h2b => ?_)
    · have h2 := of_decide_eq_true h2b
      refine jc_seq ?_
      refine jc_region ?_
      refine jo_pure rfl (pr_move rfl) ?_
      refine jo_pure rfl (pr_move rfl) ?_
      refine jo_pure rfl (pr_sindex (i := 0) rfl rfl Tryd.underlying9 (by rw [hsep]; exact Nat.one_pos)) ?_
      refine jo_callp cal_102 (c_internal_stringslite_IndexByte s (sep.getD 0 0)) ⟨rfl, rfl, trivial⟩ rfl (trivial) (fun _ => ?_)
      refine jo_pure rfl (pr_assign rfl) ?_
      refine jo_nil ?_
      refine jq_then ?_
      refine jc_ret ?_
      refine jq_in_ret ?_
      refine jq_then_ret ?_
      exact jq_ret1 rfl () rfl (show (_ : Value) = (.int .i64 (idx s (sep.getD 0 0))) from congrArg (Value.int .i64) (by rw [hsep]; rfl)) (fun _ h => h)
    · have h2 := of_decide_eq_false h2b
      exact absurd (by rw [hsep]; rfl) h2

theorem c_internal_stringslite_Cut (s : List UInt8) (sep : List UInt8) (c : UInt8) (hsep : sep = [c]) (hs : s.length ≤ 1000000) : Con Tryd.prog 85 #[str (s), str (sep)] [] (fun _ : Unit => .tuple #[str (s.take (pos s c)), str (s.drop (pos s c + 1)), .bool (decide (pos s c < s.length))]) (fun _ => []) := by
  refine con_of_J (args := [str (s), str (sep)]) (n := 23) Tryd.func85 rfl (Nat.le_of_ble_eq_true rfl) rfl (fun w0 I0 m0 => ?_)
  show J _ [(0, str (s)), (1, str (sep))] [] _
  refine jc_seq ?_
  refine jc_region ?_
  refine jo_pure rfl (pr_assign rfl) ?_
  refine jo_pure rfl (pr_assign rfl) ?_
  refine jo_pure rfl (pr_assign rfl) ?_
  refine jo_nil ?_
  refine jq_then ?_
  refine jc_seq ?_
  refine jc_seq ?_
  refine jc_region ?_
  refine jo_pure rfl (pr_move rfl) ?_
  refine jo_pure rfl (pr_move rfl) ?_
  refine jo_callp cal_93 (c_internal_stringslite_Index s sep c (hsep) (by omega)) ⟨rfl, rfl, trivial⟩ rfl (trivial) (fun _ => ?_)
  refine jo_pure rfl (pr_assign rfl) ?_
  refine jo_nil ?_
  refine jq_then ?_
  refine jc_seq ?_
  refine jc_region ?_
  refine jo_pure rfl (pr_move rfl) ?_
  refine jo_pure rfl (pr_geq (n := 0) rfl rfl) ?_
  refine jo_nil ?_
  refine jq_then ?_
  refine jc_cond rfl (fun h1b => ?_) (fun h1b => ?_)
  · have h1 := of_decide_eq_true h1b
    have hp := (idx_nonneg h1).2
    have hl : sep.length = 1 := by rw [hsep]; rfl
    rw [show (idx s c : Int) = ((pos s c : Nat) : Int) from (idx_nonneg h1).1]
    refine jc_seq ?_
    refine jc_draws mixed (by kernel_rfl) ?_
    refine jd_pure rfl (pr_move rfl) ?_
    refine jd_pure rfl (pr_move rfl) ?_
    refine jd_pure rfl (pr_sslice_hi (j := pos s c) rfl rfl Tryd.underlying9 (by have := pos_le s c; omega)) ?_
    refine jd_pure rfl (pr_move rfl) ?_
    refine jd_pure rfl (pr_move rfl) ?_
    refine jd_pure rfl (pr_move rfl) ?_
    refine jd_pure rfl (pr_slen rfl Tryd.underlying9) ?_
    refine jd_pure rfl (pr_addN (m := pos s c) (n := sep.length) rfl rfl (by omega)) ?_
    refine jd_pure rfl (pr_sslice_lo (i := (pos s c) + sep.length) rfl rfl Tryd.underlying9 (by have := pos_le s c; omega)) ?_
    refine jd_pure rfl (pr_assign rfl) ?_
    refine jd_pure rfl (pr_assign rfl) ?_
    refine jd_pure rfl (pr_assign rfl) ?_
    refine jd_nil ?_
    refine jq_then ?_
    refine jc_ret ?_
    refine jq_then_ret ?_
    exact jq_rets (rs := [.tmp 4, .tmp 5, .tmp 6]) (vs := [str (s.take (pos s c)), str (s.drop ((pos s c) + sep.length)), .bool (true)]) rfl () ⟨resV_tmp rfl, resV_tmp rfl, resV_tmp rfl, trivial⟩ rfl (show (_ : Value) = (.tuple #[str (s.take (pos s c)), str (s.drop ((pos s c) + sep.length)), .bool (true)]) from by rw [hl, decide_eq_true hp]) (fun _ h => h)
  · have h1 := of_decide_eq_false h1b
    refine jc_skip ?_
    refine jq_then ?_
    refine jc_seq ?_
    refine jc_region ?_
    refine jo_pure rfl (pr_move rfl) ?_
    refine jo_pure rfl (pr_assign rfl) ?_
    refine jo_pure rfl (pr_assign rfl) ?_
    refine jo_pure rfl (pr_assign rfl) ?_
    refine jo_nil ?_
    refine jq_then ?_
    refine jc_ret ?_
    exact jq_rets (rs := [.tmp 4, .tmp 5, .tmp 6]) (vs := [str (s), str ([]), .bool (false)]) rfl () ⟨resV_tmp rfl, resV_tmp rfl, resV_tmp rfl, trivial⟩ rfl (show (_ : Value) = (.tuple #[str (s), str ([]), .bool (false)]) from by rw [pos_none h1, List.take_length, List.drop_of_length_le (by omega), decide_eq_false (by omega)]) (fun _ h => h)

theorem c_strings_Cut (s : List UInt8) (sep : List UInt8) (c : UInt8) (hsep : sep = [c]) (hs : s.length ≤ 1000000) : Con Tryd.prog 62 #[str (s), str (sep)] [] (fun _ : Unit => .tuple #[str (s.take (pos s c)), str (s.drop (pos s c + 1)), .bool (decide (pos s c < s.length))]) (fun _ => []) := by
  refine con_of_J (args := [str (s), str (sep)]) (n := 13) Tryd.func62 rfl (Nat.le_of_ble_eq_true rfl) rfl (fun w0 I0 m0 => ?_)
  show J _ [(0, str (s)), (1, str (sep))] [] _
  refine jc_seq ?_
  refine jc_region ?_
  refine jo_pure rfl (pr_assign rfl) ?_
  refine jo_pure rfl (pr_assign rfl) ?_
  refine jo_pure rfl (pr_assign rfl) ?_
  refine jo_nil ?_
  refine jq_then ?_
  refine jc_seq ?_
  refine jc_region ?_
  refine jo_pure rfl (pr_move rfl) ?_
  refine jo_pure rfl (pr_move rfl) ?_
  refine jo_callp cal_85 (c_internal_stringslite_Cut s sep c (hsep) (by omega)) ⟨rfl, rfl, trivial⟩ rfl (trivial) (fun _ => ?_)
  refine jo_pure rfl (pr_extract rfl rfl) ?_
  refine jo_pure rfl (pr_extract rfl rfl) ?_
  refine jo_pure rfl (pr_extract rfl rfl) ?_
  refine jo_pure rfl (pr_assign rfl) ?_
  refine jo_pure rfl (pr_assign rfl) ?_
  refine jo_pure rfl (pr_assign rfl) ?_
  refine jo_nil ?_
  refine jq_then ?_
  refine jc_ret ?_
  exact jq_rets (rs := [.tmp 4, .tmp 5, .tmp 6]) (vs := [str (s.take (pos s c)), str (s.drop (pos s c + 1)), .bool (decide (pos s c < s.length))]) rfl () ⟨resV_tmp rfl, resV_tmp rfl, resV_tmp rfl, trivial⟩ rfl (show (_ : Value) = (.tuple #[str (s.take (pos s c)), str (s.drop (pos s c + 1)), .bool (decide (pos s c < s.length))]) from rfl) (fun _ h => h)

theorem c_ref01_Index (s : List UInt8) (c : UInt8) (frm : Nat) (hs : s.length ≤ 1000000) : Con Tryd.prog 66 #[str (s), byte (c), .int .i64 ((frm : Nat) : Int)] [] (fun _ : Unit => .int .i64 (idxF s c frm)) (fun _ => []) := by
  refine con_of_J (args := [str (s), byte (c), .int .i64 ((frm : Nat) : Int)]) (n := 21) Tryd.func66 rfl (Nat.le_of_ble_eq_true rfl) rfl (fun w0 I0 m0 => ?_)
  show J _ [(0, str (s)), (1, byte (c)), (2, .int .i64 ((frm : Nat) : Int))] [] _
  refine jc_seq ?_
  refine jc_region ?_
  refine jo_pure rfl (pr_assign rfl) ?_
  refine jo_nil ?_
  refine jq_then ?_
  refine jc_seq ?_
  refine jc_seq ?_
  refine jc_region ?_
  refine jo_pure rfl (pr_move rfl) ?_
  refine jo_pure rfl (pr_assign rfl) ?_
  refine jo_nil ?_
  refine jq_then ?_
  refine jc_block ?_
  refine jc_loop (fun (i : Nat) => [(0, str (s)), (1, byte (c)), (2, .int .i64 ((frm : Nat) : Int)), (8, .int .i64 ((frm : Nat) : Int)), (7, .int .i64 ((i : Nat) : Int))]) (fun (i : Nat) => []) (fun (i : Nat) => posF s c i = posF s c frm) (fun (i : Nat) => s.length - i) frm (rfl) ⟨rfl, rfl, rfl, rfl, rfl, trivial⟩ (fun _ h => h) (fun i hinv => ?_)
  refine jc_seq ?_
  refine jc_seq ?_
  refine jc_region ?_
  refine jo_pure rfl (pr_move rfl) ?_
  refine jo_pure rfl (pr_move rfl) ?_
  refine jo_pure rfl (pr_slen rfl Tryd.underlying9) ?_
  refine jo_pure rfl (pr_lssN (m := i) (n := s.length) rfl rfl) ?_
  refine jo_nil ?_
  refine jq_then ?_
  refine jc_cond rfl (fun h1b => ?_) (fun h1b => ?_)
  · have h1 := of_decide_eq_true h1b
    refine jc_skip ?_
    refine jq_then ?_
    refine jc_seq ?_
    refine jc_block ?_
    refine jc_seq ?_
    refine jc_region ?_
    refine jo_pure rfl (pr_move rfl) ?_
    refine jo_pure rfl (pr_move rfl) ?_
    refine jo_pure rfl (pr_sindex (i := i) rfl rfl Tryd.underlying9 (by omega)) ?_
    refine jo_pure rfl (pr_move rfl) ?_
    refine jo_pure rfl (pr_beql rfl rfl) ?_
    refine jo_nil ?_
    refine jq_then ?_
    refine jc_cond rfl (fun h2b => ?_) (fun h2b => ?_)
    · have h2 := of_decide_eq_true h2b
      refine jc_seq ?_
      refine jc_region ?_
      refine jo_pure rfl (pr_move rfl) ?_
      refine jo_pure rfl (pr_assign rfl) ?_
      refine jo_nil ?_
      refine jq_then ?_
      refine jc_ret ?_
      refine jq_in_ret ?_
      refine jq_then_ret ?_
      refine jq_then_ret ?_
      refine jq_in_ret ?_
      refine jq_then_ret ?_
      exact jq_ret1 rfl () rfl (show (_ : Value) = (.int .i64 ((i : Nat) : Int)) from congrArg (Value.int .i64) (by rw [idxF, ← hinv, posF_hit h1 h2, if_pos h1])) (fun _ h => h)
    · have h2 := of_decide_eq_false h2b
      refine jc_skip ?_
      refine jq_in_normal ?_
      refine jq_then ?_
      refine jc_region ?_
      refine jo_pure rfl (pr_move rfl) ?_
      refine jo_pure rfl (pr_addN (m := i) (n := 1) rfl rfl (by omega)) ?_
      refine jo_pure rfl (pr_assign rfl) ?_
      refine jo_nil ?_
      refine jq_round' (i + 1) ((posF_miss h1 h2).trans hinv) (by omega) ⟨rfl, rfl, rfl, rfl, rfl, trivial⟩ (fun _ h => h)
  · have h1 := of_decide_eq_false h1b
    refine jc_exit ?_
    refine jq_then_exit ?_
    refine jq_then_exit ?_
    refine jq_in_hit ?_
    refine jq_then ?_
    refine jc_seq ?_
    refine jc_region ?_
    refine jo_pure rfl (pr_assign rfl) ?_
    refine jo_nil ?_
    refine jq_then ?_
    refine jc_ret ?_
    exact jq_ret1 rfl () rfl (show (_ : Value) = (.int .i64 (-1)) from congrArg (Value.int .i64) (by rw [idxF, ← hinv, if_neg (posF_end (by omega))])) (fun _ h => h)

theorem c_fieldline_line (f : (List UInt8) × (List UInt8)) (hn : f.1.length ≤ 1000000) (hv : f.2.length ≤ 1000000) : Con Tryd.prog 68 #[.agg #[str (f.1), str (f.2)]] [] (fun _ : Unit => str (lineOf f)) (fun _ => []) := by
  refine con_of_J (args := [.agg #[str (f.1), str (f.2)]]) (n := 15) Tryd.func68 rfl (Nat.le_of_ble_eq_true rfl) rfl (fun w0 I0 m0 => ?_)
  show J _ [(0, .agg #[str (f.1), str (f.2)])] [] _
  refine jc_seq ?_
  refine jc_region ?_
  refine jo_box rfl [str (f.1), str (f.2)] rfl rfl (fun b1 => ?_)
  refine jo_pure rfl (pr_assign rfl) ?_
  refine jo_nil ?_
  refine jq_then ?_
  refine jc_seq ?_
  refine jc_seq ?_
  refine jc_region ?_
  refine jo_pure rfl (pr_fieldAddr 1 rfl Tryd.underlying23 rfl ty_9 rfl rfl) ?_
  refine jo_pure rfl (pr_load_box (str (f.2)) rfl ty_9 (.head _) rfl (by decide) rfl) ?_
  refine jo_pure rfl (pr_seql rfl rfl) ?_
  refine jo_nil ?_
  refine jq_then ?_
  refine jc_cond rfl (fun h1b => ?_) (fun h1b => ?_)
  · have h1 := of_decide_eq_true h1b
    refine jc_seq ?_
    refine jc_region ?_
    refine jo_pure rfl (pr_fieldAddr 0 rfl Tryd.underlying23 rfl ty_9 rfl rfl) ?_
    refine jo_pure rfl (pr_load_box (str (f.1)) rfl ty_9 (.head _) rfl (by decide) rfl) ?_
    refine jo_pure rfl (pr_sadd rfl rfl (by simp only [List.length_append, List.length_cons, List.length_nil]; omega)) ?_
    refine jo_pure rfl (pr_assign rfl) ?_
    refine jo_nil ?_
    refine jq_then ?_
    refine jc_ret ?_
    refine jq_then_ret ?_
    refine j_drop ?_
    exact jq_ret1 rfl () rfl (show (_ : Value) = (str (f.1 ++ [58])) from congrArg str (by rw [lineOf, if_pos h1])) (fun _ h => h)
  · have h1 := of_decide_eq_false h1b
    refine jc_skip ?_
    refine jq_then ?_
    refine jc_seq ?_
    refine jc_region ?_
    refine jo_pure rfl (pr_fieldAddr 0 rfl Tryd.underlying23 rfl ty_9 rfl rfl) ?_
    refine jo_pure rfl (pr_load_box (str (f.1)) rfl ty_9 (.head _) rfl (by decide) rfl) ?_
    refine jo_pure rfl (pr_sadd rfl rfl (by simp only [List.length_append, List.length_cons, List.length_nil]; omega)) ?_
    refine jo_pure rfl (pr_fieldAddr 1 rfl Tryd.underlying23 rfl ty_9 rfl rfl) ?_
    refine jo_pure rfl (pr_load_box (str (f.2)) rfl ty_9 (.head _) rfl (by decide) rfl) ?_
    refine jo_pure rfl (pr_sadd rfl rfl (by simp only [List.length_append, List.length_cons, List.length_nil]; omega)) ?_
    refine jo_pure rfl (pr_assign rfl) ?_
    refine jo_nil ?_
    refine jq_then ?_
    refine jc_ret ?_
    refine j_drop ?_
    exact jq_ret1 rfl () rfl (show (_ : Value) = (str ((f.1 ++ [58, 32]) ++ f.2)) from congrArg str (by rw [lineOf, if_neg h1])) (fun _ h => h)

theorem c_ref01_form (f : (List UInt8) × (List UInt8)) (hn : f.1.length ≤ 1000000) (hv : f.2.length ≤ 1000000) : Con Tryd.prog 69 #[.agg #[str (f.1), str (f.2)]] [] (fun _ : Unit => str (lineOf f)) (fun _ => []) := by
  refine con_of_J (args := [.agg #[str (f.1), str (f.2)]]) (n := 15) Tryd.func69 rfl (Nat.le_of_ble_eq_true rfl) rfl (fun w0 I0 m0 => ?_)
  show J _ [(0, .agg #[str (f.1), str (f.2)])] [] _
  refine jc_seq ?_
  refine jc_region ?_
  refine jo_box rfl [str (f.1), str (f.2)] rfl rfl (fun b1 => ?_)
  refine jo_pure rfl (pr_assign rfl) ?_
  refine jo_nil ?_
  refine jq_then ?_
  refine jc_seq ?_
  refine jc_seq ?_
  refine jc_region ?_
  refine jo_pure rfl (pr_fieldAddr 1 rfl Tryd.underlying23 rfl ty_9 rfl rfl) ?_
  refine jo_pure rfl (pr_load_box (str (f.2)) rfl ty_9 (.head _) rfl (by decide) rfl) ?_
  refine jo_pure rfl (pr_seql rfl rfl) ?_
  refine jo_nil ?_
  refine jq_then ?_
  refine jc_cond rfl (fun h1b => ?_) (fun h1b => ?_)
  · have h1 := of_decide_eq_true h1b
    refine jc_seq ?_
    refine jc_region ?_
    refine jo_pure rfl (pr_fieldAddr 0 rfl Tryd.underlying23 rfl ty_9 rfl rfl) ?_
    refine jo_pure rfl (pr_load_box (str (f.1)) rfl ty_9 (.head _) rfl (by decide) rfl) ?_
    refine jo_pure rfl (pr_sadd rfl rfl (by simp only [List.length_append, List.length_cons, List.length_nil]; omega)) ?_
    refine jo_pure rfl (pr_assign rfl) ?_
    refine jo_nil ?_
    refine jq_then ?_
    refine jc_ret ?_
    refine jq_then_ret ?_
    refine j_drop ?_
    exact jq_ret1 rfl () rfl (show (_ : Value) = (str (f.1 ++ [58])) from congrArg str (by rw [lineOf, if_pos h1])) (fun _ h => h)
  · have h1 := of_decide_eq_false h1b
    refine jc_skip ?_
    refine jq_then ?_
    refine jc_seq ?_
    refine jc_region ?_
    refine jo_pure rfl (pr_fieldAddr 0 rfl Tryd.underlying23 rfl ty_9 rfl rfl) ?_
    refine jo_pure rfl (pr_load_box (str (f.1)) rfl ty_9 (.head _) rfl (by decide) rfl) ?_
    refine jo_pure rfl (pr_sadd rfl rfl (by simp only [List.length_append, List.length_cons, List.length_nil]; omega)) ?_
    refine jo_pure rfl (pr_fieldAddr 1 rfl Tryd.underlying23 rfl ty_9 rfl rfl) ?_
    refine jo_pure rfl (pr_load_box (str (f.2)) rfl ty_9 (.head _) rfl (by decide) rfl) ?_
    refine jo_pure rfl (pr_sadd rfl rfl (by simp only [List.length_append, List.length_cons, List.length_nil]; omega)) ?_
    refine jo_pure rfl (pr_assign rfl) ?_
    refine jo_nil ?_
    refine jq_then ?_
    refine jc_ret ?_
    refine j_drop ?_
    exact jq_ret1 rfl () rfl (show (_ : Value) = (str ((f.1 ++ [58, 32]) ++ f.2)) from congrArg str (by rw [lineOf, if_neg h1])) (fun _ h => h)

theorem c_fieldline_Valid (f : (List UInt8) × (List UInt8)) (hn : f.1.length ≤ 1000000) (hv : f.2.length ≤ 1000000) : Con Tryd.prog 20 #[.agg #[str (f.1), str (f.2)]] [] (fun _ : Unit => .bool (validF f)) (fun _ => []) := by
  refine con_of_J (args := [.agg #[str (f.1), str (f.2)]]) (n := 25) Tryd.func20 rfl (Nat.le_of_ble_eq_true rfl) rfl (fun w0 I0 m0 => ?_)
  show J _ [(0, .agg #[str (f.1), str (f.2)])] [] _
  refine jc_seq ?_
  refine jc_region ?_
  refine jo_box rfl [str (f.1), str (f.2)] rfl rfl (fun b1 => ?_)
  refine jo_pure rfl (pr_assign rfl) ?_
  refine jo_nil ?_
  refine jq_then ?_
  refine jc_seq ?_
  refine jc_draws mixed (by kernel_rfl) ?_
  refine jd_pure rfl (pr_fieldAddr 0 rfl Tryd.underlying23 rfl ty_9 rfl rfl) ?_
  refine jd_pure rfl (pr_load_box (str (f.1)) rfl ty_9 (.head _) rfl (by decide) rfl) ?_
  refine jd_callp cal_63 (c_ascii_Token f.1 (by omega)) ⟨rfl, trivial⟩ rfl (trivial) ?_
  refine jd_pure rfl (pr_move rfl) ?_
  refine jd_gpure (j := 3) (want := true) rfl rfl rfl rfl (fun hg => pr_fieldAddr 1 rfl Tryd.underlying23 rfl ty_9 rfl rfl) ?_
  refine jd_gpure (j := 3) (want := true) rfl rfl rfl rfl (fun hg => pr_load_box (str (f.2)) (evg rfl hg) ty_9 (.head _) rfl (by decide) rfl) ?_
  refine jd_gcall (j := 3) (want := true) rfl rfl rfl cal_64 (fun hg => c_ascii_Text f.2 (by omega)) (fun hg => ⟨evg rfl hg, trivial⟩) rfl (fun _ => trivial) ?_
  refine jd_pure rfl (pr_pick_and rfl rfl rfl) ?_
  refine jd_pure rfl (pr_move rfl) ?_
  refine jd_gpure (j := 8) (want := true) rfl rfl rfl rfl (fun hg => pr_fieldAddr 1 rfl Tryd.underlying23 rfl ty_9 rfl rfl) ?_
  refine jd_gpure (j := 8) (want := true) rfl rfl rfl rfl (fun hg => pr_load_box (str (f.2)) (evg rfl hg) ty_9 (.head _) rfl (by decide) rfl) ?_
  refine jd_gcall (j := 8) (want := true) rfl rfl rfl cal_65 (fun hg => c_ascii_Trim f.2 (by omega)) (fun hg => ⟨evg rfl hg, trivial⟩) rfl (fun _ => trivial) ?_
  refine jd_gpure (j := 8) (want := true) rfl rfl rfl rfl (fun hg => pr_fieldAddr 1 rfl Tryd.underlying23 rfl ty_9 rfl rfl) ?_
  refine jd_gpure (j := 8) (want := true) rfl rfl rfl rfl (fun hg => pr_load_box (str (f.2)) (evg rfl hg) ty_9 (.head _) rfl (by decide) rfl) ?_
  refine jd_gpure (j := 8) (want := true) rfl rfl rfl rfl (fun hg => pr_seql (evg rfl hg) (evg rfl hg)) ?_
  refine jd_pure rfl (pr_pick_and rfl rfl rfl) ?_
  refine jd_pure rfl (pr_move rfl) ?_
  refine jd_gpure (j := 16) (want := true) rfl rfl rfl rfl (fun hg => pr_load_box (.agg #[str (f.1), str (f.2)]) rfl ty_23 (.head _) rfl (by decide) rfl) ?_
  refine jd_gcall (j := 16) (want := true) rfl rfl rfl cal_68 (fun hg => c_fieldline_line f (by omega) (by omega)) (fun hg => ⟨evg rfl hg, trivial⟩) rfl (fun _ => trivial) ?_
  refine jd_gpure (j := 16) (want := true) rfl rfl rfl rfl (fun hg => pr_slen (evg rfl hg) Tryd.underlying9) ?_
  refine jd_gpure (j := 16) (want := true) rfl rfl rfl rfl (fun hg => pr_leqN (m := (lineOf f).length) (n := 2000) (evg rfl hg) rfl) ?_
  refine jd_pure rfl (pr_pick_and rfl rfl rfl) ?_
  refine jd_pure rfl (pr_assign rfl) ?_
  refine jd_nil ?_
  refine jq_then ?_
  refine jc_ret ?_
  refine j_drop ?_
  exact jq_ret1 rfl () rfl (show (_ : Value) = (.bool ((((token f.1 && text f.2) && decide ((trim f.2 : List UInt8) = f.2)) && decide (((lineOf f).length : Nat) ≤ 2000)))) from rfl) (fun _ h => h)

theorem c_ref01_ValidField (f : (List UInt8) × (List UInt8)) (hn : f.1.length ≤ 1000000) (hv : f.2.length ≤ 1000000) : Con Tryd.prog 21 #[.agg #[str (f.1), str (f.2)]] [] (fun _ : Unit => .bool (validF f)) (fun _ => []) := by
  refine con_of_J (args := [.agg #[str (f.1), str (f.2)]]) (n := 25) Tryd.func21 rfl (Nat.le_of_ble_eq_true rfl) rfl (fun w0 I0 m0 => ?_)
  show J _ [(0, .agg #[str (f.1), str (f.2)])] [] _
  refine jc_seq ?_
  refine jc_region ?_
  refine jo_box rfl [str (f.1), str (f.2)] rfl rfl (fun b1 => ?_)
  refine jo_pure rfl (pr_assign rfl) ?_
  refine jo_nil ?_
  refine jq_then ?_
  refine jc_seq ?_
  refine jc_draws mixed (by kernel_rfl) ?_
  refine jd_pure rfl (pr_fieldAddr 0 rfl Tryd.underlying23 rfl ty_9 rfl rfl) ?_
  refine jd_pure rfl (pr_load_box (str (f.1)) rfl ty_9 (.head _) rfl (by decide) rfl) ?_
  refine jd_callp cal_42 (c_ref01_Token f.1 (by omega)) ⟨rfl, trivial⟩ rfl (trivial) ?_
  refine jd_pure rfl (pr_move rfl) ?_
  refine jd_gpure (j := 3) (want := true) rfl rfl rfl rfl (fun hg => pr_fieldAddr 1 rfl Tryd.underlying23 rfl ty_9 rfl rfl) ?_
  refine jd_gpure (j := 3) (want := true) rfl rfl rfl rfl (fun hg => pr_load_box (str (f.2)) (evg rfl hg) ty_9 (.head _) rfl (by decide) rfl) ?_
  refine jd_gcall (j := 3) (want := true) rfl rfl rfl cal_43 (fun hg => c_ref01_Text f.2 (by omega)) (fun hg => ⟨evg rfl hg, trivial⟩) rfl (fun _ => trivial) ?_
  refine jd_pure rfl (pr_pick_and rfl rfl rfl) ?_
  refine jd_pure rfl (pr_move rfl) ?_
  refine jd_gpure (j := 8) (want := true) rfl rfl rfl rfl (fun hg => pr_fieldAddr 1 rfl Tryd.underlying23 rfl ty_9 rfl rfl) ?_
  refine jd_gpure (j := 8) (want := true) rfl rfl rfl rfl (fun hg => pr_load_box (str (f.2)) (evg rfl hg) ty_9 (.head _) rfl (by decide) rfl) ?_
  refine jd_gcall (j := 8) (want := true) rfl rfl rfl cal_67 (fun hg => c_ref01_Trim f.2 (by omega)) (fun hg => ⟨evg rfl hg, trivial⟩) rfl (fun _ => trivial) ?_
  refine jd_gpure (j := 8) (want := true) rfl rfl rfl rfl (fun hg => pr_fieldAddr 1 rfl Tryd.underlying23 rfl ty_9 rfl rfl) ?_
  refine jd_gpure (j := 8) (want := true) rfl rfl rfl rfl (fun hg => pr_load_box (str (f.2)) (evg rfl hg) ty_9 (.head _) rfl (by decide) rfl) ?_
  refine jd_gpure (j := 8) (want := true) rfl rfl rfl rfl (fun hg => pr_seql (evg rfl hg) (evg rfl hg)) ?_
  refine jd_pure rfl (pr_pick_and rfl rfl rfl) ?_
  refine jd_pure rfl (pr_move rfl) ?_
  refine jd_gpure (j := 16) (want := true) rfl rfl rfl rfl (fun hg => pr_load_box (.agg #[str (f.1), str (f.2)]) rfl ty_23 (.head _) rfl (by decide) rfl) ?_
  refine jd_gcall (j := 16) (want := true) rfl rfl rfl cal_69 (fun hg => c_ref01_form f (by omega) (by omega)) (fun hg => ⟨evg rfl hg, trivial⟩) rfl (fun _ => trivial) ?_
  refine jd_gpure (j := 16) (want := true) rfl rfl rfl rfl (fun hg => pr_slen (evg rfl hg) Tryd.underlying9) ?_
  refine jd_gpure (j := 16) (want := true) rfl rfl rfl rfl (fun hg => pr_leqN (m := (lineOf f).length) (n := 2000) (evg rfl hg) rfl) ?_
  refine jd_pure rfl (pr_pick_and rfl rfl rfl) ?_
  refine jd_pure rfl (pr_assign rfl) ?_
  refine jd_nil ?_
  refine jq_then ?_
  refine jc_ret ?_
  refine j_drop ?_
  exact jq_ret1 rfl () rfl (show (_ : Value) = (.bool ((((token f.1 && text f.2) && decide ((trim f.2 : List UInt8) = f.2)) && decide (((lineOf f).length : Nat) ≤ 2000)))) from rfl) (fun _ h => h)

theorem c_fieldline_Format (f : (List UInt8) × (List UInt8)) (hn : f.1.length ≤ 1000000) (hv : f.2.length ≤ 1000000) : Con Tryd.prog 22 #[.agg #[str (f.1), str (f.2)]] [] (fun _ : Unit => str (formatF f)) (fun _ => []) := by
  refine con_of_J (args := [.agg #[str (f.1), str (f.2)]]) (n := 8) Tryd.func22 rfl (Nat.le_of_ble_eq_true rfl) rfl (fun w0 I0 m0 => ?_)
  show J _ [(0, .agg #[str (f.1), str (f.2)])] [] _
  refine jc_seq ?_
  refine jc_region ?_
  refine jo_box rfl [str (f.1), str (f.2)] rfl rfl (fun b1 => ?_)
  refine jo_pure rfl (pr_assign rfl) ?_
  refine jo_nil ?_
  refine jq_then ?_
  refine jc_seq ?_
  refine jc_seq ?_
  refine jc_region ?_
  refine jo_pure rfl (pr_load_box (.agg #[str (f.1), str (f.2)]) rfl ty_23 (.head _) rfl (by decide) rfl) ?_
  refine jo_callp cal_20 (c_fieldline_Valid f (by omega) (by omega)) ⟨rfl, trivial⟩ rfl (trivial) (fun _ => ?_)
  refine jo_pure rfl (pr_not rfl) ?_
  refine jo_nil ?_
  refine jq_then ?_
  refine jc_cond rfl (fun h1b => ?_) (fun h1b => ?_)
  · have h1 := (fun q => id (bt_not q)) h1b
    refine jc_seq ?_
    refine jc_region ?_
    refine jo_pure rfl (pr_assign rfl) ?_
    refine jo_nil ?_
    refine jq_then ?_
    refine jc_ret ?_
    refine jq_then_ret ?_
    refine j_drop ?_
    exact jq_ret1 rfl () rfl (show (_ : Value) = (str ([])) from congrArg str (by rw [formatF, if_neg (by simpa using h1)])) (fun _ h => h)
  · have h1 := (fun q => id (bf_not q)) h1b
    refine jc_skip ?_
    refine jq_then ?_
    refine jc_seq ?_
    refine jc_region ?_
    refine jo_pure rfl (pr_load_box (.agg #[str (f.1), str (f.2)]) rfl ty_23 (.head _) rfl (by decide) rfl) ?_
    refine jo_callp cal_68 (c_fieldline_line f (by omega) (by omega)) ⟨rfl, trivial⟩ rfl (trivial) (fun _ => ?_)
    refine jo_pure rfl (pr_assign rfl) ?_
    refine jo_nil ?_
    refine jq_then ?_
    refine jc_ret ?_
    refine j_drop ?_
    exact jq_ret1 rfl () rfl (show (_ : Value) = (str (lineOf f)) from congrArg str (by rw [formatF, if_pos (by simpa using h1)])) (fun _ h => h)

theorem c_ref01_FormatField (f : (List UInt8) × (List UInt8)) (hn : f.1.length ≤ 1000000) (hv : f.2.length ≤ 1000000) : Con Tryd.prog 23 #[.agg #[str (f.1), str (f.2)]] [] (fun _ : Unit => str (formatF f)) (fun _ => []) := by
  refine con_of_J (args := [.agg #[str (f.1), str (f.2)]]) (n := 8) Tryd.func23 rfl (Nat.le_of_ble_eq_true rfl) rfl (fun w0 I0 m0 => ?_)
  show J _ [(0, .agg #[str (f.1), str (f.2)])] [] _
  refine jc_seq ?_
  refine jc_region ?_
  refine jo_box rfl [str (f.1), str (f.2)] rfl rfl (fun b1 => ?_)
  refine jo_pure rfl (pr_assign rfl) ?_
  refine jo_nil ?_
  refine jq_then ?_
  refine jc_seq ?_
  refine jc_seq ?_
  refine jc_region ?_
  refine jo_pure rfl (pr_load_box (.agg #[str (f.1), str (f.2)]) rfl ty_23 (.head _) rfl (by decide) rfl) ?_
  refine jo_callp cal_21 (c_ref01_ValidField f (by omega) (by omega)) ⟨rfl, trivial⟩ rfl (trivial) (fun _ => ?_)
  refine jo_pure rfl (pr_not rfl) ?_
  refine jo_nil ?_
  refine jq_then ?_
  refine jc_cond rfl (fun h1b => ?_) (fun h1b => ?_)
  · have h1 := (fun q => id (bt_not q)) h1b
    refine jc_seq ?_
    refine jc_region ?_
    refine jo_pure rfl (pr_assign rfl) ?_
    refine jo_nil ?_
    refine jq_then ?_
    refine jc_ret ?_
    refine jq_then_ret ?_
    refine j_drop ?_
    exact jq_ret1 rfl () rfl (show (_ : Value) = (str ([])) from congrArg str (by rw [formatF, if_neg (by simpa using h1)])) (fun _ h => h)
  · have h1 := (fun q => id (bf_not q)) h1b
    refine jc_skip ?_
    refine jq_then ?_
    refine jc_seq ?_
    refine jc_region ?_
    refine jo_pure rfl (pr_load_box (.agg #[str (f.1), str (f.2)]) rfl ty_23 (.head _) rfl (by decide) rfl) ?_
    refine jo_callp cal_69 (c_ref01_form f (by omega) (by omega)) ⟨rfl, trivial⟩ rfl (trivial) (fun _ => ?_)
    refine jo_pure rfl (pr_assign rfl) ?_
    refine jo_nil ?_
    refine jq_then ?_
    refine jc_ret ?_
    refine j_drop ?_
    exact jq_ret1 rfl () rfl (show (_ : Value) = (str (lineOf f)) from congrArg str (by rw [formatF, if_pos (by simpa using h1)])) (fun _ h => h)

theorem c_fieldline_Parse (s : List UInt8) (hs : s.length ≤ 1000000) : Con Tryd.prog 17 #[str (s)] [] (fun _ : Unit => .tuple #[.agg #[str ((parseF s).1.1), str ((parseF s).1.2)], .int .i64 (((parseF s).2 : Nat) : Int)]) (fun _ => []) := by
  refine con_of_J (args := [str (s)]) (n := 40) Tryd.func17 rfl (Nat.le_of_ble_eq_true rfl) rfl (fun w0 I0 m0 => ?_)
  show J _ [(0, str (s))] [] _
  refine jc_seq ?_
  refine jc_region ?_
  refine jo_alloc ty_23 [str ([]), str ([])] rfl rfl (fun b1 => ?_)
  refine jo_pure rfl (pr_assign rfl) ?_
  refine jo_nil ?_
  refine jq_then ?_
  refine jc_seq ?_
  refine jc_seq ?_
  refine jc_region ?_
  refine jo_pure rfl (pr_move rfl) ?_
  refine jo_pure rfl (pr_slen rfl Tryd.underlying9) ?_
  refine jo_pure rfl (pr_gtrN (m := s.length) (n := 2000) rfl rfl) ?_
  refine jo_nil ?_
  refine jq_then ?_
  refine jc_cond rfl (fun h1b => ?_) (fun h1b => ?_)
  · have h1 := of_decide_eq_true h1b
    refine jc_seq ?_
    refine jc_region ?_
    refine jo_pure rfl (pr_build [] [str ([]), str ([])] (fun a hf => by simp) (by kernel_rfl)) ?_
    refine jo_store rfl rfl ty_23 [str ([]), str ([])] rfl rfl rfl [str ([]), str ([])] rfl rfl ?_
    refine jo_pure rfl (pr_assign rfl) ?_
    refine jo_nil ?_
    refine jq_then ?_
    refine jc_ret ?_
    refine jq_then_ret ?_
    exact jq_rets (rs := [.cell 2 23, .tmp 3]) (vs := [.agg #[str ([]), str ([])], .int .i64 ((4 : Nat) : Int)]) rfl () ⟨resV_box (.agg #[str ([]), str ([])]) rfl ty_23 (.head _) rfl (by decide) rfl, resV_tmp rfl, trivial⟩ rfl (show (_ : Value) = (.tuple #[.agg #[str ([]), str ([])], .int .i64 ((4 : Nat) : Int)]) from by rw [parseF, if_pos h1]) (fun w h => (show Mem _ [] w → _ from (fun _ h => h) w) (Mem.front (As := []) h))
  · have h1 := of_decide_eq_false h1b
    refine jc_skip ?_
    refine jq_then ?_
    refine jc_seq ?_
    refine jc_region ?_
    refine jo_pure rfl (pr_move rfl) ?_
    refine jo_callp cal_62 (c_strings_Cut s [58] 58 (rfl) (by first | omega | (have := trim_length (s.drop (pos s 58 + 1)); simp only [List.length_take, List.length_drop] at *; omega))) ⟨rfl, rfl, trivial⟩ rfl (trivial) (fun _ => ?_)
    refine jo_pure rfl (pr_move rfl) ?_
    refine jo_pure rfl (pr_extract rfl rfl) ?_
    refine jo_pure rfl (pr_extract rfl rfl) ?_
    refine jo_pure rfl (pr_extract rfl rfl) ?_
    refine jo_pure rfl (pr_assign rfl) ?_
    refine jo_pure rfl (pr_assign rfl) ?_
    refine jo_pure rfl (pr_assign rfl) ?_
    refine jo_nil ?_
    refine jq_then ?_
    refine jc_seq ?_
    refine jc_seq ?_
    refine jc_region ?_
    refine jo_pure rfl (pr_move rfl) ?_
    refine jo_pure rfl (pr_not rfl) ?_
    refine jo_pure rfl (pr_move rfl) ?_
    refine jo_gpure (j := 2) (want := false) rfl rfl rfl rfl (fun hg => pr_move rfl) ?_
    refine jo_gcall (j := 2) (want := false) rfl rfl rfl cal_63 (fun hg => c_ascii_Token (s.take (pos s 58)) (by first | omega | (have := trim_length (s.drop (pos s 58 + 1)); simp only [List.length_take, List.length_drop] at *; omega))) (fun hg => ⟨evg rfl hg, trivial⟩) rfl (fun _ => trivial) ?_
    refine jo_gpure (j := 2) (want := false) rfl rfl rfl rfl (fun hg => pr_not (evg rfl hg)) ?_
    refine jo_pure rfl (pr_pick_or rfl rfl rfl) ?_
    refine jo_pure rfl (pr_move rfl) ?_
    refine jo_gpure (j := 7) (want := false) rfl rfl rfl rfl (fun hg => pr_move rfl) ?_
    refine jo_gcall (j := 7) (want := false) rfl rfl rfl cal_64 (fun hg => c_ascii_Text (s.drop (pos s 58 + 1)) (by first | omega | (have := trim_length (s.drop (pos s 58 + 1)); simp only [List.length_take, List.length_drop] at *; omega))) (fun hg => ⟨evg rfl hg, trivial⟩) rfl (fun _ => trivial) ?_
    refine jo_gpure (j := 7) (want := false) rfl rfl rfl rfl (fun hg => pr_not (evg rfl hg)) ?_
    refine jo_pure rfl (pr_pick_or rfl rfl rfl) ?_
    refine jo_nil ?_
    refine jq_then ?_
    refine jc_cond rfl (fun h2b => ?_) (fun h2b => ?_)
    · have h2 := (fun q => Or.imp (fun q => Or.imp (fun q => id (bt_not q)) (fun q => id (bt_not q)) (bt_or q)) (fun q => id (bt_not q)) (bt_or q)) h2b
      refine jc_seq ?_
      refine jc_region ?_
      refine jo_pure rfl (pr_build [] [str ([]), str ([])] (fun a hf => by simp) (by kernel_rfl)) ?_
      refine jo_store rfl rfl ty_23 [str ([]), str ([])] rfl rfl rfl [str ([]), str ([])] rfl rfl ?_
      refine jo_pure rfl (pr_assign rfl) ?_
      refine jo_nil ?_
      refine jq_then ?_
      refine jc_ret ?_
      refine jq_then_ret ?_
      exact jq_rets (rs := [.cell 2 23, .tmp 3]) (vs := [.agg #[str ([]), str ([])], .int .i64 ((1 : Nat) : Int)]) rfl () ⟨resV_box (.agg #[str ([]), str ([])]) rfl ty_23 (.head _) rfl (by decide) rfl, resV_tmp rfl, trivial⟩ rfl (show (_ : Value) = (.tuple #[.agg #[str ([]), str ([])], .int .i64 ((1 : Nat) : Int)]) from by rw [parseF, if_neg h1, if_pos (by simpa [or_assoc] using h2)]) (fun w h => (show Mem _ [] w → _ from (fun _ h => h) w) (Mem.front (As := []) h))
    · have h2 := (fun q => And.imp (fun q => And.imp (fun q => id (bf_not q)) (fun q => id (bf_not q)) (bf_or q)) (fun q => id (bf_not q)) (bf_or q)) h2b
      refine jc_skip ?_
      refine jq_then ?_
      refine jc_seq ?_
      refine jc_region ?_
      refine jo_pure rfl (pr_move rfl) ?_
      refine jo_pure rfl (pr_move rfl) ?_
      refine jo_callp cal_65 (c_ascii_Trim (s.drop (pos s 58 + 1)) (by first | omega | (have := trim_length (s.drop (pos s 58 + 1)); simp only [List.length_take, List.length_drop] at *; omega))) ⟨rfl, trivial⟩ rfl (trivial) (fun _ => ?_)
      refine jo_pure rfl (pr_build [(0, str (s.take (pos s 58))), (1, str (trim (s.drop (pos s 58 + 1))))] [str (s.take (pos s 58)), str (trim (s.drop (pos s 58 + 1)))] (fun a hf => by simp only [List.map_toArray, List.map_cons, List.map_nil, hf.ev (show ev _ (.tmp 31) = some (str (s.take (pos s 58))) from rfl), hf.ev (show ev _ (.tmp 33) = some (str (trim (s.drop (pos s 58 + 1)))) from rfl)]) (by kernel_rfl)) ?_
      refine jo_alloc ty_23 [str ([]), str ([])] rfl rfl (fun b2 => ?_)
      refine jo_store rfl rfl ty_23 [str (s.take (pos s 58)), str (trim (s.drop (pos s 58 + 1)))] rfl rfl rfl [str (s.take (pos s 58)), str (trim (s.drop (pos s 58 + 1)))] rfl rfl ?_
      refine jo_nil ?_
      refine jq_then ?_
      refine jc_seq ?_
      refine jc_seq ?_
      refine jc_region ?_
      refine jo_pure rfl (pr_load_box (.agg #[str (s.take (pos s 58)), str (trim (s.drop (pos s 58 + 1)))]) rfl ty_23 (.head _) rfl (by decide) rfl) ?_
      refine jo_callp cal_20 (c_fieldline_Valid (s.take (pos s 58), trim (s.drop (pos s 58 + 1))) (by first | omega | (have := trim_length (s.drop (pos s 58 + 1)); simp only [List.length_take, List.length_drop] at *; omega)) (by first | omega | (have := trim_length (s.drop (pos s 58 + 1)); simp only [List.length_take, List.length_drop] at *; omega))) ⟨rfl, trivial⟩ rfl (trivial) (fun _ => ?_)
      refine jo_pure rfl (pr_not rfl) ?_
      refine jo_nil ?_
      refine jq_then ?_
      refine jc_cond rfl (fun h3b => ?_) (fun h3b => ?_)
      · have h3 := (fun q => id (bt_not q)) h3b
        refine jc_seq ?_
        refine jc_region ?_
        refine jo_pure rfl (pr_build [] [str ([]), str ([])] (fun a hf => by simp) (by kernel_rfl)) ?_
        refine j_pull1 ?_
        refine jo_store rfl rfl ty_23 [str ([]), str ([])] rfl rfl rfl [str ([]), str ([])] rfl rfl ?_
        refine jo_pure rfl (pr_assign rfl) ?_
        refine jo_nil ?_
        refine jq_then ?_
        refine jc_ret ?_
        refine jq_then_ret ?_
        refine j_pull1 ?_
        refine j_drop ?_
        exact jq_rets (rs := [.cell 2 23, .tmp 3]) (vs := [.agg #[str ([]), str ([])], .int .i64 ((4 : Nat) : Int)]) rfl () ⟨resV_box (.agg #[str ([]), str ([])]) rfl ty_23 (.head _) rfl (by decide) rfl, resV_tmp rfl, trivial⟩ rfl (show (_ : Value) = (.tuple #[.agg #[str ([]), str ([])], .int .i64 ((4 : Nat) : Int)]) from by rw [parseF, if_neg h1, if_neg (by simpa [or_assoc, and_assoc] using h2), if_neg (by simpa using h3)]) (fun w h => (show Mem _ [] w → _ from (fun _ h => h) w) (Mem.front (As := []) h))
      · have h3 := (fun q => id (bf_not q)) h3b
        refine jc_skip ?_
        refine jq_then ?_
        refine jc_seq ?_
        refine jc_region ?_
        refine jo_pure rfl (pr_load_box (.agg #[str (s.take (pos s 58)), str (trim (s.drop (pos s 58 + 1)))]) rfl ty_23 (.head _) rfl (by decide) rfl) ?_
        refine j_pull1 ?_
        refine jo_store rfl rfl ty_23 [str (s.take (pos s 58)), str (trim (s.drop (pos s 58 + 1)))] rfl rfl rfl [str (s.take (pos s 58)), str (trim (s.drop (pos s 58 + 1)))] rfl rfl ?_
        refine jo_pure rfl (pr_assign rfl) ?_
        refine jo_nil ?_
        refine jq_then ?_
        refine jc_ret ?_
        refine j_pull1 ?_
        refine j_drop ?_
        exact jq_rets (rs := [.cell 2 23, .tmp 3]) (vs := [.agg #[str (s.take (pos s 58)), str (trim (s.drop (pos s 58 + 1)))], .int .i64 ((0 : Nat) : Int)]) rfl () ⟨resV_box (.agg #[str (s.take (pos s 58)), str (trim (s.drop (pos s 58 + 1)))]) rfl ty_23 (.head _) rfl (by decide) rfl, resV_tmp rfl, trivial⟩ rfl (show (_ : Value) = (.tuple #[.agg #[str (s.take (pos s 58)), str (trim (s.drop (pos s 58 + 1)))], .int .i64 ((0 : Nat) : Int)]) from by rw [parseF, if_neg h1, if_neg (by simpa [or_assoc, and_assoc] using h2), if_pos (by simpa using h3)]) (fun w h => (show Mem _ [] w → _ from (fun _ h => h) w) (Mem.front (As := []) h))

theorem c_ref01_ParseField (s : List UInt8) (hs : s.length ≤ 1000000) : Con Tryd.prog 18 #[str (s)] [] (fun _ : Unit => .tuple #[.agg #[str ((parseF s).1.1), str ((parseF s).1.2)], .int .i64 (((parseF s).2 : Nat) : Int)]) (fun _ => []) := by
  refine con_of_J (args := [str (s)]) (n := 44) Tryd.func18 rfl (Nat.le_of_ble_eq_true rfl) rfl (fun w0 I0 m0 => ?_)
  show J _ [(0, str (s))] [] _
  refine jc_seq ?_
  refine jc_region ?_
  refine jo_alloc ty_23 [str ([]), str ([])] rfl rfl (fun b1 => ?_)
  refine jo_pure rfl (pr_assign rfl) ?_
  refine jo_nil ?_
  refine jq_then ?_
  refine jc_seq ?_
  refine jc_seq ?_
  refine jc_region ?_
  refine jo_pure rfl (pr_move rfl) ?_
  refine jo_pure rfl (pr_slen rfl Tryd.underlying9) ?_
  refine jo_pure rfl (pr_gtrN (m := s.length) (n := 2000) rfl rfl) ?_
  refine jo_nil ?_
  refine jq_then ?_
  refine jc_cond rfl (fun h1b => ?_) (fun h1b => ?_)
  · have h1 := of_decide_eq_true h1b
    refine jc_seq ?_
    refine jc_region ?_
    refine jo_pure rfl (pr_build [] [str ([]), str ([])] (fun a hf => by simp) (by kernel_rfl)) ?_
    refine jo_store rfl rfl ty_23 [str ([]), str ([])] rfl rfl rfl [str ([]), str ([])] rfl rfl ?_
    refine jo_pure rfl (pr_assign rfl) ?_
    refine jo_nil ?_
    refine jq_then ?_
    refine jc_ret ?_
    refine jq_then_ret ?_
    exact jq_rets (rs := [.cell 2 23, .tmp 3]) (vs := [.agg #[str ([]), str ([])], .int .i64 ((4 : Nat) : Int)]) rfl () ⟨resV_box (.agg #[str ([]), str ([])]) rfl ty_23 (.head _) rfl (by decide) rfl, resV_tmp rfl, trivial⟩ rfl (show (_ : Value) = (.tuple #[.agg #[str ([]), str ([])], .int .i64 ((4 : Nat) : Int)]) from by rw [parseF, if_pos h1]) (fun w h => (show Mem _ [] w → _ from (fun _ h => h) w) (Mem.front (As := []) h))
  · have h1 := of_decide_eq_false h1b
    refine jc_skip ?_
    refine jq_then ?_
    refine jc_seq ?_
    refine jc_region ?_
    refine jo_pure rfl (pr_move rfl) ?_
    refine jo_callp cal_66 (c_ref01_Index s 58 0 (by first | omega | (have := trim_length (s.drop (pos s 58 + 1)); simp only [List.length_take, List.length_drop] at *; omega))) ⟨rfl, rfl, rfl, trivial⟩ rfl (trivial) (fun _ => ?_)
    refine jo_pure rfl (pr_assign rfl) ?_
    refine jo_nil ?_
    refine jq_then ?_
    refine jc_seq ?_
    refine jc_seq ?_
    by_cases hc : pos s 58 < s.length
    · skip
      rw [show (idxF s 58 0 : Int) = ((pos s 58 : Nat) : Int) from by rw [idxF_zero, idx_found hc]]
      refine jc_region ?_
      refine jo_pure rfl (pr_move rfl) ?_
      refine jo_pure rfl (pr_lssN (m := pos s 58) (n := 0) rfl rfl) ?_
      refine jo_pure rfl (pr_move rfl) ?_
      refine jo_run (j := 2) (want := false) rfl rfl (by simp) ?_
      refine jo_pure rfl (pr_move rfl) ?_
      refine jo_run (j := 2) (want := false) rfl rfl (by simp) ?_
      refine jo_pure rfl (pr_move rfl) ?_
      refine jo_run (j := 2) (want := false) rfl rfl (by simp) ?_
      refine jo_pure rfl (pr_sslice_hi (j := pos s 58) rfl rfl Tryd.underlying9 (by omega)) ?_
      refine jo_run (j := 2) (want := false) rfl rfl (by simp) ?_
      refine jo_callp cal_42 (c_ref01_Token (s.take (pos s 58)) (by first | omega | (have := trim_length (s.drop (pos s 58 + 1)); simp only [List.length_take, List.length_drop] at *; omega))) ⟨rfl, trivial⟩ rfl (trivial) (fun _ => ?_)
      refine jo_run (j := 2) (want := false) rfl rfl (by simp) ?_
      refine jo_pure rfl (pr_not rfl) ?_
      refine jo_pure rfl (pr_pick_f rfl (by simp) rfl) ?_
      refine jo_pure rfl (pr_move rfl) ?_
      refine jo_gpure (j := 9) (want := false) rfl rfl rfl rfl (fun hg => pr_move rfl) ?_
      refine jo_gpure (j := 9) (want := false) rfl rfl rfl rfl (fun hg => pr_move rfl) ?_
      refine jo_gpure (j := 9) (want := false) rfl rfl rfl rfl (fun hg => pr_addN (m := pos s 58) (n := 1) (evg rfl hg) rfl (by omega)) ?_
      refine jo_gpure (j := 9) (want := false) rfl rfl rfl rfl (fun hg => pr_sslice_lo (i := (pos s 58) + 1) (evg rfl hg) (evg rfl hg) Tryd.underlying9 (by omega)) ?_
      refine jo_gcall (j := 9) (want := false) rfl rfl rfl cal_43 (fun hg => c_ref01_Text (s.drop ((pos s 58) + 1)) (by first | omega | (have := trim_length (s.drop (pos s 58 + 1)); simp only [List.length_take, List.length_drop] at *; omega))) (fun hg => ⟨evg rfl hg, trivial⟩) rfl (fun _ => trivial) ?_
      refine jo_gpure (j := 9) (want := false) rfl rfl rfl rfl (fun hg => pr_not (evg rfl hg)) ?_
      refine jo_pure rfl (pr_pick_or rfl rfl rfl) ?_
      refine jo_nil ?_
      refine jq_then ?_
      refine jc_cond rfl (fun h2b => ?_) (fun h2b => ?_)
      · have h2 := (fun q => Or.imp (fun q => id (bt_not q)) (fun q => id (bt_not q)) (bt_or q)) h2b
        refine jc_seq ?_
        refine jc_region ?_
        refine jo_pure rfl (pr_build [] [str ([]), str ([])] (fun a hf => by simp) (by kernel_rfl)) ?_
        refine jo_store rfl rfl ty_23 [str ([]), str ([])] rfl rfl rfl [str ([]), str ([])] rfl rfl ?_
        refine jo_pure rfl (pr_assign rfl) ?_
        refine jo_nil ?_
        refine jq_then ?_
        refine jc_ret ?_
        refine jq_then_ret ?_
        exact jq_rets (rs := [.cell 2 23, .tmp 3]) (vs := [.agg #[str ([]), str ([])], .int .i64 ((1 : Nat) : Int)]) rfl () ⟨resV_box (.agg #[str ([]), str ([])]) rfl ty_23 (.head _) rfl (by decide) rfl, resV_tmp rfl, trivial⟩ rfl (show (_ : Value) = (.tuple #[.agg #[str ([]), str ([])], .int .i64 ((1 : Nat) : Int)]) from by rw [parseF, if_neg h1, if_pos (.inr (by simpa using h2))]) (fun w h => (show Mem _ [] w → _ from (fun _ h => h) w) (Mem.front (As := []) h))
      · have h2 := (fun q => And.imp (fun q => id (bf_not q)) (fun q => id (bf_not q)) (bf_or q)) h2b
        refine jc_skip ?_
        refine jq_then ?_
        refine jc_seq ?_
        refine jc_held (fun (b2 : Nat) => [(0, str (s)), (2, .pointer (some ⟨b1, 0, none⟩)), (3, .int .i64 ((0 : Nat) : Int)), (6, str (s)), (7, .int .i64 ((s.length : Nat) : Int)), (8, .bool (decide ((2000 : Nat) < s.length))), (10, str (s)), (11, .int .i64 ((pos s 58 : Nat) : Int)), (4, .int .i64 ((pos s 58 : Nat) : Int)), (12, .int .i64 ((pos s 58 : Nat) : Int)), (13, .bool (decide ((pos s 58 : Nat) < 0))), (14, .bool (decide ((pos s 58 : Nat) < 0))), (15, str (s)), (16, .int .i64 ((pos s 58 : Nat) : Int)), (17, str (s.take (pos s 58))), (18, .bool (token (s.take (pos s 58)))), (19, .bool ((!token (s.take (pos s 58))))), (20, .bool ((!token (s.take (pos s 58))))), (21, .bool ((!token (s.take (pos s 58))))), (22, gv (((!token (s.take (pos s 58))) == false)) (str (s))), (23, gv (((!token (s.take (pos s 58))) == false)) (.int .i64 ((pos s 58 : Nat) : Int))), (24, gv (((!token (s.take (pos s 58))) == false)) (.int .i64 (((pos s 58) + 1 : Nat) : Int))), (25, gv (((!token (s.take (pos s 58))) == false)) (str (s.drop ((pos s 58) + 1)))), (26, gv (((!token (s.take (pos s 58))) == false)) (.bool (text (s.drop ((pos s 58) + 1))))), (27, gv (((!token (s.take (pos s 58))) == false)) (.bool ((!text (s.drop ((pos s 58) + 1)))))), (28, .bool (((!token (s.take (pos s 58))) || (!text (s.drop ((pos s 58) + 1)))))), (30, str (s)), (31, .int .i64 ((pos s 58 : Nat) : Int)), (32, str (s.take (pos s 58))), (33, str (s)), (34, .int .i64 ((pos s 58 : Nat) : Int)), (35, .int .i64 (((pos s 58) + 1 : Nat) : Int)), (36, str (s.drop ((pos s 58) + 1))), (37, str (trim (s.drop ((pos s 58) + 1)))), (38, .agg #[str (s.take (pos s 58)), str (trim (s.drop ((pos s 58) + 1)))]), (5, .pointer (some ⟨b2, 0, none⟩))]) (fun b2 => [.box b2 23 [str (s.take (pos s 58)), str (trim (s.drop ((pos s 58) + 1)))], .box b1 23 [str ([]), str ([])]]) [.box b1 23 [str ([]), str ([])]] mixed (fun lst hlst => ?_) (fun b2 => ?_)
        · subst hlst
          refine jh_take (listed' := #[true, false, false, false, false, false, false, false, false, false, false]) 0 rfl (by kernel_rfl) (by kernel_rfl) (by kernel_rfl) rfl (pr_move rfl) (fun _ h => h) rfl ?_
          refine jh_take (listed' := #[true, true, false, false, false, false, false, false, false, false, false]) 1 rfl (by kernel_rfl) (by kernel_rfl) (by kernel_rfl) rfl (pr_move rfl) (fun _ h => h) rfl ?_
          refine jh_take (listed' := #[true, true, true, false, false, false, false, false, false, false, false]) 2 rfl (by kernel_rfl) (by kernel_rfl) (by kernel_rfl) rfl (pr_sslice_hi (j := pos s 58) rfl rfl Tryd.underlying9 (by omega)) (fun _ h => h) rfl ?_
          refine jh_take (listed' := #[true, true, true, true, false, false, false, false, false, false, false]) 3 rfl (by kernel_rfl) (by kernel_rfl) (by kernel_rfl) rfl (pr_move rfl) (fun _ h => h) rfl ?_
          refine jh_take (listed' := #[true, true, true, true, true, false, false, false, false, false, false]) 4 rfl (by kernel_rfl) (by kernel_rfl) (by kernel_rfl) rfl (pr_move rfl) (fun _ h => h) rfl ?_
          refine jh_take (listed' := #[true, true, true, true, true, true, false, false, false, false, false]) 5 rfl (by kernel_rfl) (by kernel_rfl) (by kernel_rfl) rfl (pr_addN (m := pos s 58) (n := 1) rfl rfl (by omega)) (fun _ h => h) rfl ?_
          refine jh_take (listed' := #[true, true, true, true, true, true, true, false, false, false, false]) 6 rfl (by kernel_rfl) (by kernel_rfl) (by kernel_rfl) rfl (pr_sslice_lo (i := (pos s 58) + 1) rfl rfl Tryd.underlying9 (by omega)) (fun _ h => h) rfl ?_
          refine jh_all [7, 9] (by kernel_rfl) (by simp) (fun i hi => ?_)
          simp only [List.mem_cons, List.not_mem_nil, or_false] at hi
          rcases hi with rfl | rfl
          · refine jh_op rfl ?_
            refine jo_callp cal_67 (c_ref01_Trim (s.drop ((pos s 58) + 1)) (by first | omega | (have := trim_length (s.drop (pos s 58 + 1)); simp only [List.length_take, List.length_drop] at *; omega))) ⟨rfl, trivial⟩ rfl (trivial) (fun _ => ?_)
            refine jh_in (listed' := #[true, true, true, true, true, true, true, true, false, false, false]) (fun _ h => h) rfl ?_
            refine jh_take (listed' := #[true, true, true, true, true, true, true, true, true, false, false]) 8 rfl (by kernel_rfl) (by kernel_rfl) (by kernel_rfl) rfl (pr_build [(0, str (s.take (pos s 58))), (1, str (trim (s.drop ((pos s 58) + 1))))] [str (s.take (pos s 58)), str (trim (s.drop ((pos s 58) + 1)))] (fun a hf => by simp only [List.map_toArray, List.map_cons, List.map_nil, hf.ev (show ev _ (.tmp 32) = some (str (s.take (pos s 58))) from rfl), hf.ev (show ev _ (.tmp 37) = some (str (trim (s.drop ((pos s 58) + 1)))) from rfl)]) (by kernel_rfl)) (fun _ h => h) rfl ?_
            refine jh_all [9] (by kernel_rfl) (by simp) (fun i hi => ?_)
            simp only [List.mem_cons, List.not_mem_nil, or_false] at hi
            subst hi
            · refine jh_op rfl ?_
              refine jo_alloc ty_23 [str ([]), str ([])] rfl rfl (fun b2 => ?_)
              refine jh_in (listed' := #[true, true, true, true, true, true, true, true, true, true, false]) (fun _ h => Mem.drop1 (h)) rfl ?_
              refine jh_all [10] (by kernel_rfl) (by simp) (fun i hi => ?_)
              simp only [List.mem_cons, List.not_mem_nil, or_false] at hi
              subst hi
              · refine jh_op rfl ?_
                refine jo_store rfl rfl ty_23 [str (s.take (pos s 58)), str (trim (s.drop ((pos s 58) + 1)))] rfl rfl rfl [str (s.take (pos s 58)), str (trim (s.drop ((pos s 58) + 1)))] rfl rfl ?_
                refine jh_in (listed' := #[true, true, true, true, true, true, true, true, true, true, true]) (fun _ h => Mem.drop1 (h)) rfl ?_
                show J _ _ _ _
                refine j_pull1 ?_
                refine j_pull1 ?_
                show JH _ _ _ _ _ _ _ _
                exact jh_done b2 (by kernel_rfl) ⟨rfl, rfl, rfl, rfl, rfl, rfl, rfl, rfl, rfl, rfl, rfl, rfl, rfl, rfl, rfl, rfl, rfl, rfl, rfl, rfl, rfl, rfl, rfl, rfl, rfl, rfl, rfl, rfl, rfl, rfl, rfl, rfl, rfl, rfl, rfl, rfl, trivial⟩ (fun _ h => h)
          · refine jh_op rfl ?_
            refine jo_alloc ty_23 [str ([]), str ([])] rfl rfl (fun b3 => ?_)
            refine jh_in (listed' := #[true, true, true, true, true, true, true, false, false, true, false]) (fun _ h => Mem.drop1 (h)) rfl ?_
            refine jh_all [7] (by kernel_rfl) (by simp) (fun i hi => ?_)
            simp only [List.mem_cons, List.not_mem_nil, or_false] at hi
            subst hi
            · refine jh_op rfl ?_
              refine jo_callp cal_67 (c_ref01_Trim (s.drop ((pos s 58) + 1)) (by first | omega | (have := trim_length (s.drop (pos s 58 + 1)); simp only [List.length_take, List.length_drop] at *; omega))) ⟨rfl, trivial⟩ rfl (trivial) (fun _ => ?_)
              refine jh_in (listed' := #[true, true, true, true, true, true, true, true, false, true, false]) (fun _ h => Mem.drop1 (h)) rfl ?_
              refine jh_take (listed' := #[true, true, true, true, true, true, true, true, true, true, false]) 8 rfl (by kernel_rfl) (by kernel_rfl) (by kernel_rfl) rfl (pr_build [(0, str (s.take (pos s 58))), (1, str (trim (s.drop ((pos s 58) + 1))))] [str (s.take (pos s 58)), str (trim (s.drop ((pos s 58) + 1)))] (fun a hf => by simp only [List.map_toArray, List.map_cons, List.map_nil, hf.ev (show ev _ (.tmp 32) = some (str (s.take (pos s 58))) from rfl), hf.ev (show ev _ (.tmp 37) = some (str (trim (s.drop ((pos s 58) + 1)))) from rfl)]) (by kernel_rfl)) (fun _ h => Mem.drop1 (h)) rfl ?_
              refine jh_all [10] (by kernel_rfl) (by simp) (fun i hi => ?_)
              simp only [List.mem_cons, List.not_mem_nil, or_false] at hi
              subst hi
              · refine jh_op rfl ?_
                refine jo_store rfl rfl ty_23 [str (s.take (pos s 58)), str (trim (s.drop ((pos s 58) + 1)))] rfl rfl rfl [str (s.take (pos s 58)), str (trim (s.drop ((pos s 58) + 1)))] rfl rfl ?_
                refine jh_in (listed' := #[true, true, true, true, true, true, true, true, true, true, true]) (fun _ h => Mem.drop1 (h)) rfl ?_
                show J _ _ _ _
                refine j_pull1 ?_
                refine j_pull1 ?_
                show JH _ _ _ _ _ _ _ _
                exact jh_done b3 (by kernel_rfl) ⟨rfl, rfl, rfl, rfl, rfl, rfl, rfl, rfl, rfl, rfl, rfl, rfl, rfl, rfl, rfl, rfl, rfl, rfl, rfl, rfl, rfl, rfl, rfl, rfl, rfl, rfl, rfl, rfl, rfl, rfl, rfl, rfl, rfl, rfl, rfl, rfl, trivial⟩ (fun _ h => h)
        · skip
          refine jq_then ?_
          refine jc_seq ?_
          refine jc_seq ?_
          refine jc_region ?_
          refine jo_pure rfl (pr_load_box (.agg #[str (s.take (pos s 58)), str (trim (s.drop ((pos s 58) + 1)))]) rfl ty_23 (.head _) rfl (by decide) rfl) ?_
          refine jo_callp cal_21 (c_ref01_ValidField (s.take (pos s 58), trim (s.drop ((pos s 58) + 1))) (by first | omega | (have := trim_length (s.drop (pos s 58 + 1)); simp only [List.length_take, List.length_drop] at *; omega)) (by first | omega | (have := trim_length (s.drop (pos s 58 + 1)); simp only [List.length_take, List.length_drop] at *; omega))) ⟨rfl, trivial⟩ rfl (trivial) (fun _ => ?_)
          refine jo_pure rfl (pr_not rfl) ?_
          refine jo_nil ?_
          refine jq_then ?_
          refine jc_cond rfl (fun h3b => ?_) (fun h3b => ?_)
          · have h3 := (fun q => id (bt_not q)) h3b
            refine jc_seq ?_
            refine jc_region ?_
            refine jo_pure rfl (pr_build [] [str ([]), str ([])] (fun a hf => by simp) (by kernel_rfl)) ?_
            refine j_pull1 ?_
            refine jo_store rfl rfl ty_23 [str ([]), str ([])] rfl rfl rfl [str ([]), str ([])] rfl rfl ?_
            refine jo_pure rfl (pr_assign rfl) ?_
            refine jo_nil ?_
            refine jq_then ?_
            refine jc_ret ?_
            refine jq_then_ret ?_
            refine j_pull1 ?_
            refine j_drop ?_
            exact jq_rets (rs := [.cell 2 23, .tmp 3]) (vs := [.agg #[str ([]), str ([])], .int .i64 ((4 : Nat) : Int)]) rfl () ⟨resV_box (.agg #[str ([]), str ([])]) rfl ty_23 (.head _) rfl (by decide) rfl, resV_tmp rfl, trivial⟩ rfl (show (_ : Value) = (.tuple #[.agg #[str ([]), str ([])], .int .i64 ((4 : Nat) : Int)]) from by rw [parseF, if_neg h1, if_neg (by simpa [hc] using h2), if_neg (by simpa using h3)]) (fun w h => (show Mem _ [] w → _ from (fun _ h => h) w) (Mem.front (As := []) h))
          · have h3 := (fun q => id (bf_not q)) h3b
            refine jc_skip ?_
            refine jq_then ?_
            refine jc_seq ?_
            refine jc_region ?_
            refine jo_pure rfl (pr_load_box (.agg #[str (s.take (pos s 58)), str (trim (s.drop ((pos s 58) + 1)))]) rfl ty_23 (.head _) rfl (by decide) rfl) ?_
            refine j_pull1 ?_
            refine jo_store rfl rfl ty_23 [str (s.take (pos s 58)), str (trim (s.drop ((pos s 58) + 1)))] rfl rfl rfl [str (s.take (pos s 58)), str (trim (s.drop ((pos s 58) + 1)))] rfl rfl ?_
            refine jo_pure rfl (pr_assign rfl) ?_
            refine jo_nil ?_
            refine jq_then ?_
            refine jc_ret ?_
            refine j_pull1 ?_
            refine j_drop ?_
            exact jq_rets (rs := [.cell 2 23, .tmp 3]) (vs := [.agg #[str (s.take (pos s 58)), str (trim (s.drop ((pos s 58) + 1)))], .int .i64 ((0 : Nat) : Int)]) rfl () ⟨resV_box (.agg #[str (s.take (pos s 58)), str (trim (s.drop ((pos s 58) + 1)))]) rfl ty_23 (.head _) rfl (by decide) rfl, resV_tmp rfl, trivial⟩ rfl (show (_ : Value) = (.tuple #[.agg #[str (s.take (pos s 58)), str (trim (s.drop ((pos s 58) + 1)))], .int .i64 ((0 : Nat) : Int)]) from by rw [parseF, if_neg h1, if_neg (by simpa [hc] using h2), if_pos (by simpa using h3)]) (fun w h => (show Mem _ [] w → _ from (fun _ h => h) w) (Mem.front (As := []) h))
    · skip
      rw [show (idxF s 58 0 : Int) = -1 from by rw [idxF_zero, idx_none hc]]
      refine jc_region ?_
      refine jo_pure rfl (pr_move rfl) ?_
      refine jo_pure rfl (pr_lss (n := 0) rfl rfl) ?_
      refine jo_pure rfl (pr_move rfl) ?_
      refine jo_skip (j := 2) (want := false) rfl rfl (by decide) ([(0, str (s)), (2, .pointer (some ⟨b1, 0, none⟩)), (3, .int .i64 ((0 : Nat) : Int)), (6, str (s)), (7, .int .i64 ((s.length : Nat) : Int)), (8, .bool (decide ((2000 : Nat) < s.length))), (10, str (s)), (11, .int .i64 (-1)), (4, .int .i64 (-1)), (12, .int .i64 (-1)), (13, .bool (decide ((-1 : Int) < 0))), (14, .bool (decide ((-1 : Int) < 0)))]) ⟨rfl, rfl, rfl, rfl, rfl, rfl, rfl, rfl, rfl, rfl, rfl, rfl, trivial⟩ (fun k hk => by cases hk; rfl) ?_
      refine jo_skip (j := 2) (want := false) rfl rfl (by decide) ([(0, str (s)), (2, .pointer (some ⟨b1, 0, none⟩)), (3, .int .i64 ((0 : Nat) : Int)), (6, str (s)), (7, .int .i64 ((s.length : Nat) : Int)), (8, .bool (decide ((2000 : Nat) < s.length))), (10, str (s)), (11, .int .i64 (-1)), (4, .int .i64 (-1)), (12, .int .i64 (-1)), (13, .bool (decide ((-1 : Int) < 0))), (14, .bool (decide ((-1 : Int) < 0)))]) ⟨rfl, rfl, rfl, rfl, rfl, rfl, rfl, rfl, rfl, rfl, rfl, rfl, trivial⟩ (fun k hk => by cases hk; rfl) ?_
      refine jo_skip (j := 2) (want := false) rfl rfl (by decide) ([(0, str (s)), (2, .pointer (some ⟨b1, 0, none⟩)), (3, .int .i64 ((0 : Nat) : Int)), (6, str (s)), (7, .int .i64 ((s.length : Nat) : Int)), (8, .bool (decide ((2000 : Nat) < s.length))), (10, str (s)), (11, .int .i64 (-1)), (4, .int .i64 (-1)), (12, .int .i64 (-1)), (13, .bool (decide ((-1 : Int) < 0))), (14, .bool (decide ((-1 : Int) < 0)))]) ⟨rfl, rfl, rfl, rfl, rfl, rfl, rfl, rfl, rfl, rfl, rfl, rfl, trivial⟩ (fun k hk => by cases hk; rfl) ?_
      refine jo_skip (j := 2) (want := false) rfl rfl (by decide) ([(0, str (s)), (2, .pointer (some ⟨b1, 0, none⟩)), (3, .int .i64 ((0 : Nat) : Int)), (6, str (s)), (7, .int .i64 ((s.length : Nat) : Int)), (8, .bool (decide ((2000 : Nat) < s.length))), (10, str (s)), (11, .int .i64 (-1)), (4, .int .i64 (-1)), (12, .int .i64 (-1)), (13, .bool (decide ((-1 : Int) < 0))), (14, .bool (decide ((-1 : Int) < 0)))]) ⟨rfl, rfl, rfl, rfl, rfl, rfl, rfl, rfl, rfl, rfl, rfl, rfl, trivial⟩ (fun k hk => by cases hk; rfl) ?_
      refine jo_skip (j := 2) (want := false) rfl rfl (by decide) ([(0, str (s)), (2, .pointer (some ⟨b1, 0, none⟩)), (3, .int .i64 ((0 : Nat) : Int)), (6, str (s)), (7, .int .i64 ((s.length : Nat) : Int)), (8, .bool (decide ((2000 : Nat) < s.length))), (10, str (s)), (11, .int .i64 (-1)), (4, .int .i64 (-1)), (12, .int .i64 (-1)), (13, .bool (decide ((-1 : Int) < 0))), (14, .bool (decide ((-1 : Int) < 0)))]) ⟨rfl, rfl, rfl, rfl, rfl, rfl, rfl, rfl, rfl, rfl, rfl, rfl, trivial⟩ (fun k hk => by cases hk; rfl) ?_
      refine jo_pure rfl (pr_pick_t rfl (by decide) rfl) ?_
      refine jo_pure rfl (pr_move rfl) ?_
      refine jo_skip (j := 9) (want := false) rfl rfl (rfl) ([(0, str (s)), (2, .pointer (some ⟨b1, 0, none⟩)), (3, .int .i64 ((0 : Nat) : Int)), (6, str (s)), (7, .int .i64 ((s.length : Nat) : Int)), (8, .bool (decide ((2000 : Nat) < s.length))), (10, str (s)), (11, .int .i64 (-1)), (4, .int .i64 (-1)), (12, .int .i64 (-1)), (13, .bool (decide ((-1 : Int) < 0))), (14, .bool (decide ((-1 : Int) < 0))), (20, .bool (true)), (21, .bool (true))]) ⟨rfl, rfl, rfl, rfl, rfl, rfl, rfl, rfl, rfl, rfl, rfl, rfl, rfl, rfl, trivial⟩ (fun k hk => by cases hk; rfl) ?_
      refine jo_skip (j := 9) (want := false) rfl rfl (rfl) ([(0, str (s)), (2, .pointer (some ⟨b1, 0, none⟩)), (3, .int .i64 ((0 : Nat) : Int)), (6, str (s)), (7, .int .i64 ((s.length : Nat) : Int)), (8, .bool (decide ((2000 : Nat) < s.length))), (10, str (s)), (11, .int .i64 (-1)), (4, .int .i64 (-1)), (12, .int .i64 (-1)), (13, .bool (decide ((-1 : Int) < 0))), (14, .bool (decide ((-1 : Int) < 0))), (20, .bool (true)), (21, .bool (true))]) ⟨rfl, rfl, rfl, rfl, rfl, rfl, rfl, rfl, rfl, rfl, rfl, rfl, rfl, rfl, trivial⟩ (fun k hk => by cases hk; rfl) ?_
      refine jo_skip (j := 9) (want := false) rfl rfl (rfl) ([(0, str (s)), (2, .pointer (some ⟨b1, 0, none⟩)), (3, .int .i64 ((0 : Nat) : Int)), (6, str (s)), (7, .int .i64 ((s.length : Nat) : Int)), (8, .bool (decide ((2000 : Nat) < s.length))), (10, str (s)), (11, .int .i64 (-1)), (4, .int .i64 (-1)), (12, .int .i64 (-1)), (13, .bool (decide ((-1 : Int) < 0))), (14, .bool (decide ((-1 : Int) < 0))), (20, .bool (true)), (21, .bool (true))]) ⟨rfl, rfl, rfl, rfl, rfl, rfl, rfl, rfl, rfl, rfl, rfl, rfl, rfl, rfl, trivial⟩ (fun k hk => by cases hk; rfl) ?_
      refine jo_skip (j := 9) (want := false) rfl rfl (rfl) ([(0, str (s)), (2, .pointer (some ⟨b1, 0, none⟩)), (3, .int .i64 ((0 : Nat) : Int)), (6, str (s)), (7, .int .i64 ((s.length : Nat) : Int)), (8, .bool (decide ((2000 : Nat) < s.length))), (10, str (s)), (11, .int .i64 (-1)), (4, .int .i64 (-1)), (12, .int .i64 (-1)), (13, .bool (decide ((-1 : Int) < 0))), (14, .bool (decide ((-1 : Int) < 0))), (20, .bool (true)), (21, .bool (true))]) ⟨rfl, rfl, rfl, rfl, rfl, rfl, rfl, rfl, rfl, rfl, rfl, rfl, rfl, rfl, trivial⟩ (fun k hk => by cases hk; rfl) ?_
      refine jo_skip (j := 9) (want := false) rfl rfl (rfl) ([(0, str (s)), (2, .pointer (some ⟨b1, 0, none⟩)), (3, .int .i64 ((0 : Nat) : Int)), (6, str (s)), (7, .int .i64 ((s.length : Nat) : Int)), (8, .bool (decide ((2000 : Nat) < s.length))), (10, str (s)), (11, .int .i64 (-1)), (4, .int .i64 (-1)), (12, .int .i64 (-1)), (13, .bool (decide ((-1 : Int) < 0))), (14, .bool (decide ((-1 : Int) < 0))), (20, .bool (true)), (21, .bool (true))]) ⟨rfl, rfl, rfl, rfl, rfl, rfl, rfl, rfl, rfl, rfl, rfl, rfl, rfl, rfl, trivial⟩ (fun k hk => by cases hk; rfl) ?_
      refine jo_skip (j := 9) (want := false) rfl rfl (rfl) ([(0, str (s)), (2, .pointer (some ⟨b1, 0, none⟩)), (3, .int .i64 ((0 : Nat) : Int)), (6, str (s)), (7, .int .i64 ((s.length : Nat) : Int)), (8, .bool (decide ((2000 : Nat) < s.length))), (10, str (s)), (11, .int .i64 (-1)), (4, .int .i64 (-1)), (12, .int .i64 (-1)), (13, .bool (decide ((-1 : Int) < 0))), (14, .bool (decide ((-1 : Int) < 0))), (20, .bool (true)), (21, .bool (true))]) ⟨rfl, rfl, rfl, rfl, rfl, rfl, rfl, rfl, rfl, rfl, rfl, rfl, rfl, rfl, trivial⟩ (fun k hk => by cases hk; rfl) ?_
      refine jo_pure rfl (pr_pick_t rfl (rfl) rfl) ?_
      refine jo_nil ?_
      refine jq_then ?_
      refine jc_true rfl (rfl) ?_
      refine jc_seq ?_
      refine jc_region ?_
      refine jo_pure rfl (pr_build [] [str ([]), str ([])] (fun a hf => by simp) (by kernel_rfl)) ?_
      refine jo_store rfl rfl ty_23 [str ([]), str ([])] rfl rfl rfl [str ([]), str ([])] rfl rfl ?_
      refine jo_pure rfl (pr_assign rfl) ?_
      refine jo_nil ?_
      refine jq_then ?_
      refine jc_ret ?_
      refine jq_then_ret ?_
      exact jq_rets (rs := [.cell 2 23, .tmp 3]) (vs := [.agg #[str ([]), str ([])], .int .i64 ((1 : Nat) : Int)]) rfl () ⟨resV_box (.agg #[str ([]), str ([])]) rfl ty_23 (.head _) rfl (by decide) rfl, resV_tmp rfl, trivial⟩ rfl (show (_ : Value) = (.tuple #[.agg #[str ([]), str ([])], .int .i64 ((1 : Nat) : Int)]) from by rw [parseF, if_neg h1, if_pos (.inl hc)]) (fun w h => (show Mem _ [] w → _ from (fun _ h => h) w) (Mem.front (As := []) h))

theorem c_law03_awake   : Con Tryd.prog 19 #[] [] (fun _ : Unit => .bool (true)) (fun _ => []) := by
  refine con_of_J (args := []) (n := 19) Tryd.func19 rfl (Nat.le_of_ble_eq_true rfl) rfl (fun w0 I0 m0 => ?_)
  show J _ [] [] _
  refine jc_seq ?_
  refine jc_region ?_
  refine jo_pure rfl (pr_assign rfl) ?_
  refine jo_nil ?_
  refine jq_then ?_
  refine jc_seq ?_
  refine jc_region ?_
  refine jo_callp cal_17 (c_fieldline_Parse [65, 58, 32, 32, 98, 32] (by decide)) ⟨rfl, trivial⟩ rfl (trivial) (fun _ => ?_)
  refine jo_pure rfl (pr_move rfl) ?_
  refine jo_pure rfl (pr_extract rfl rfl) ?_
  refine jo_pure rfl (pr_extract rfl rfl) ?_
  refine jo_alloc ty_23 [str ([]), str ([])] rfl rfl (fun b1 => ?_)
  refine jo_store rfl rfl ty_23 [str ((parseF [65, 58, 32, 32, 98, 32]).1.1), str ((parseF [65, 58, 32, 32, 98, 32]).1.2)] rfl rfl rfl [str ((parseF [65, 58, 32, 32, 98, 32]).1.1), str ((parseF [65, 58, 32, 32, 98, 32]).1.2)] rfl rfl ?_
  refine jo_pure rfl (pr_assign rfl) ?_
  refine jo_nil ?_
  refine jq_then ?_
  refine jc_seq ?_
  refine jc_region ?_
  refine jo_pure rfl (pr_move rfl) ?_
  refine jo_pure rfl (pr_eqlN (m := (parseF [65, 58, 32, 32, 98, 32]).2) (n := 0) rfl rfl) ?_
  refine jo_pure rfl (pr_move rfl) ?_
  refine jo_gpure (j := 2) (want := true) rfl rfl rfl rfl (fun hg => pr_fieldAddr 0 rfl Tryd.underlying23 rfl ty_9 rfl rfl) ?_
  refine jo_gpure (j := 2) (want := true) rfl rfl rfl rfl (fun hg => pr_load_box (str ((parseF [65, 58, 32, 32, 98, 32]).1.1)) (evg rfl hg) ty_9 (.head _) rfl (by decide) rfl) ?_
  refine jo_gpure (j := 2) (want := true) rfl rfl rfl rfl (fun hg => pr_seql (evg rfl hg) rfl) ?_
  refine jo_pure rfl (pr_pick_and rfl rfl rfl) ?_
  refine jo_pure rfl (pr_move rfl) ?_
  refine jo_gpure (j := 7) (want := true) rfl rfl rfl rfl (fun hg => pr_fieldAddr 1 rfl Tryd.underlying23 rfl ty_9 rfl rfl) ?_
  refine jo_gpure (j := 7) (want := true) rfl rfl rfl rfl (fun hg => pr_load_box (str ((parseF [65, 58, 32, 32, 98, 32]).1.2)) (evg rfl hg) ty_9 (.head _) rfl (by decide) rfl) ?_
  refine jo_gpure (j := 7) (want := true) rfl rfl rfl rfl (fun hg => pr_seql (evg rfl hg) rfl) ?_
  refine jo_pure rfl (pr_pick_and rfl rfl rfl) ?_
  refine jo_pure rfl (pr_assign rfl) ?_
  refine jo_nil ?_
  refine jq_then ?_
  refine jc_ret ?_
  refine j_drop ?_
  exact jq_ret1 rfl () rfl (show (_ : Value) = (.bool (((decide (((parseF [65, 58, 32, 32, 98, 32]).2 : Nat) = 0) && decide (((parseF [65, 58, 32, 32, 98, 32]).1.1 : List UInt8) = [65])) && decide (((parseF [65, 58, 32, 32, 98, 32]).1.2 : List UInt8) = [98])))) from congrArg Value.bool (by decide +kernel)) (fun _ h => h)

theorem c_law03_FieldlineParses (s : List UInt8)  : Con Tryd.prog 3 #[str (s)] [] (fun _ : Unit => .bool (true)) (fun _ => []) := by
  refine con_of_J (args := [str (s)]) (n := 31) Tryd.func3 rfl (Nat.le_of_ble_eq_true rfl) rfl (fun w0 I0 m0 => ?_)
  show J _ [(0, str (s))] [] _
  refine jc_seq ?_
  refine jc_region ?_
  refine jo_pure rfl (pr_assign rfl) ?_
  refine jo_nil ?_
  refine jq_then ?_
  refine jc_seq ?_
  refine jc_seq ?_
  refine jc_region ?_
  refine jo_pure rfl (pr_move rfl) ?_
  refine jo_pure rfl (pr_slen rfl Tryd.underlying9) ?_
  refine jo_pure rfl (pr_gtrN (m := s.length) (n := 5000) rfl rfl) ?_
  refine jo_nil ?_
  refine jq_then ?_
  refine jc_cond rfl (fun h1b => ?_) (fun h1b => ?_)
  · have h1 := of_decide_eq_true h1b
    refine jc_seq ?_
    refine jc_region ?_
    refine jo_pure rfl (pr_assign rfl) ?_
    refine jo_nil ?_
    refine jq_then ?_
    refine jc_ret ?_
    refine jq_then_ret ?_
    exact jq_ret1 rfl () rfl (show (_ : Value) = (.bool (true)) from by simp) (fun _ h => h)
  · have h1 := of_decide_eq_false h1b
    refine jc_skip ?_
    refine jq_then ?_
    refine jc_seq ?_
    refine jc_region ?_
    refine jo_pure rfl (pr_move rfl) ?_
    refine jo_callp cal_17 (c_fieldline_Parse s (by omega)) ⟨rfl, trivial⟩ rfl (trivial) (fun _ => ?_)
    refine jo_pure rfl (pr_move rfl) ?_
    refine jo_pure rfl (pr_extract rfl rfl) ?_
    refine jo_pure rfl (pr_extract rfl rfl) ?_
    refine jo_alloc ty_23 [str ([]), str ([])] rfl rfl (fun b1 => ?_)
    refine jo_store rfl rfl ty_23 [str ((parseF s).1.1), str ((parseF s).1.2)] rfl rfl rfl [str ((parseF s).1.1), str ((parseF s).1.2)] rfl rfl ?_
    refine jo_pure rfl (pr_assign rfl) ?_
    refine jo_nil ?_
    refine jq_then ?_
    refine jc_seq ?_
    refine jc_region ?_
    refine jo_pure rfl (pr_move rfl) ?_
    refine jo_callp cal_18 (c_ref01_ParseField s (by omega)) ⟨rfl, trivial⟩ rfl (trivial) (fun _ => ?_)
    refine jo_pure rfl (pr_move rfl) ?_
    refine jo_pure rfl (pr_extract rfl rfl) ?_
    refine jo_pure rfl (pr_extract rfl rfl) ?_
    refine jo_alloc ty_23 [str ([]), str ([])] rfl rfl (fun b2 => ?_)
    refine jo_store rfl rfl ty_23 [str ((parseF s).1.1), str ((parseF s).1.2)] rfl rfl rfl [str ((parseF s).1.1), str ((parseF s).1.2)] rfl rfl ?_
    refine jo_pure rfl (pr_assign rfl) ?_
    refine jo_nil ?_
    refine jq_then ?_
    refine jc_seq ?_
    refine jc_region ?_
    refine jo_pure rfl (pr_load_box (.agg #[str ((parseF s).1.1), str ((parseF s).1.2)]) rfl ty_23 (.tail _ (.head _)) rfl (by decide) rfl) ?_
    refine jo_pure rfl (pr_load_box (.agg #[str ((parseF s).1.1), str ((parseF s).1.2)]) rfl ty_23 (.head _) rfl (by decide) rfl) ?_
    refine jo_pure rfl (pr_eql_ss rfl rfl Tryd.underlying23 (by kernel_rfl) (by kernel_rfl) (by decide) (by decide) rfl rfl Tryd.underlying9 Tryd.underlying9 ty_9 ty_9) ?_
    refine jo_pure rfl (pr_move rfl) ?_
    refine jo_gpure (j := 3) (want := true) rfl rfl rfl rfl (fun hg => pr_move rfl) ?_
    refine jo_gpure (j := 3) (want := true) rfl rfl rfl rfl (fun hg => pr_move rfl) ?_
    refine jo_gpure (j := 3) (want := true) rfl rfl rfl rfl (fun hg => pr_eqlN (m := (parseF s).2) (n := (parseF s).2) (evg rfl hg) (evg rfl hg)) ?_
    refine jo_pure rfl (pr_pick_and rfl rfl rfl) ?_
    refine jo_pure rfl (pr_move rfl) ?_
    refine jo_gcall (j := 8) (want := true) rfl rfl rfl cal_19 (fun hg => c_law03_awake) (fun hg => trivial) rfl (fun _ => trivial) ?_
    refine jo_pure rfl (pr_pick_and rfl rfl rfl) ?_
    refine jo_pure rfl (pr_assign rfl) ?_
    refine jo_nil ?_
    refine jq_then ?_
    refine jc_ret ?_
    refine j_drop ?_
    refine j_drop ?_
    exact jq_ret1 rfl () rfl (show (_ : Value) = (.bool ((((decide (((parseF s).1.1 : List UInt8) = (parseF s).1.1) && decide (((parseF s).1.2 : List UInt8) = (parseF s).1.2)) && decide (((parseF s).2 : Nat) = (parseF s).2)) && true))) from by simp) (fun _ h => h)
end Go.Proofs.YtaicfjchbhnegaaDoor
