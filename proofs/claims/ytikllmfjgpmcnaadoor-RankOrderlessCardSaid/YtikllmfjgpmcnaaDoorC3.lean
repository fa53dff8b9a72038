/-
  Contracts of functions of the program: each returns what a plain function says, for every input within the bounds named. Conditions: the bounds.
-/
import Derived.Test.YtikllmfjgpmcnaaDoorRows
import Derived.Test.YtikllmfjgpmcnaaDoorC2
namespace Go.Proofs.YtikllmfjgpmcnaaDoor
open Go Go.Sep
set_option linter.unusedSimpArgs false
set_option linter.unusedVariables false

open Go.Plain

theorem mixed : Tryd.prog.follows .mixedOrders = true := by kernel_rfl
theorem cal_111 : Cal Tryd.prog 111 := cal_of Tryd.func111 (by kernel_rfl) rfl
theorem cal_131 : Cal Tryd.prog 131 := cal_of Tryd.func131 (by kernel_rfl) rfl
theorem cal_136 : Cal Tryd.prog 136 := cal_of Tryd.func136 (by kernel_rfl) rfl

theorem c_internal_stringslite_IndexByte (s : List UInt8) (c : UInt8)  : Con Tryd.prog 136 #[str (s), byte (c)] [] (fun _ : Unit => .int .i64 (idx s c)) (fun _ => []) := by
  refine con_of_J (args := [str (s), byte (c)]) (n := 8) Tryd.func136 rfl (Nat.le_of_ble_eq_true rfl) rfl (fun w0 I0 m0 => ?_)
  show J _ [(0, str (s)), (1, byte (c))] [] _
  refine jc_seq ?_
  refine jc_region ?_
  refine jo_pure rfl (pr_assign rfl) ?_
  refine jo_nil ?_
  refine jq_then ?_
  refine jc_seq ?_
  refine jc_region ?_
  refine jo_pure rfl (pr_move rfl) ?_
  refine jo_pure rfl (pr_move rfl) ?_
  refine jo_pure rfl (pr_ext (vs := [str (s), byte (c)]) Tryd.func144 (by kernel_rfl) rfl (by kernel_rfl) (by kernel_rfl) ⟨rfl, rfl, trivial⟩ (fun w => run_indexByte s c w)) ?_
  refine jo_pure rfl (pr_assign rfl) ?_
  refine jo_nil ?_
  refine jq_then ?_
  refine jc_ret ?_
  exact jq_ret1 rfl () rfl (show (.int .i64 (idx s c) : Value) = (.int .i64 (idx s c)) from rfl) (fun _ h => h)

theorem c_internal_stringslite_Index (s : List UInt8) (sep : List UInt8) (c : UInt8) (hsep : sep = [c]) (hs : s.length ≤ 1000000) : Con Tryd.prog 131 #[str (s), str (sep)] [] (fun _ : Unit => .int .i64 (idx s c)) (fun _ => []) := by
  refine con_of_J (args := [str (s), str (sep)]) (n := 143) Tryd.func131 rfl (Nat.le_of_ble_eq_true rfl) rfl (fun w0 I0 m0 => ?_)
  show J _ [(0, str (s)), (1, str (sep))] [] _
  refine jc_seq ?_
  refine jc_region ?_
  refine jo_pure rfl (pr_assign rfl) ?_
  refine jo_nil ?_
  refine jq_then ?_
  refine jc_seq ?_
  refine jc_region ?_
  refine jo_pure rfl (pr_move rfl) ?_
  refine jo_pure rfl (pr_slen rfl Tryd.underlying9) ?_
  refine jo_pure rfl (pr_assign rfl) ?_
  refine jo_nil ?_
  refine jq_then ?_
  refine jc_seq ?_
  refine jc_block ?_
  refine jc_seq ?_
  refine jc_region ?_
  refine jo_pure rfl (pr_move rfl) ?_
  refine jo_pure rfl (pr_eqlN (m := sep.length) (n := 0) rfl rfl) ?_
  refine jo_pure rfl (pr_move rfl) ?_
  refine jo_gpure (j := 2) (want := false) rfl rfl rfl rfl (fun hg => pr_move rfl) ?_
  refine jo_gpure (j := 2) (want := false) rfl rfl rfl rfl (fun hg => pr_move rfl) ?_
  refine jo_gpure (j := 2) (want := false) rfl rfl rfl rfl (fun hg => pr_seql (evg rfl hg) (evg rfl hg)) ?_
  refine jo_pure rfl (pr_pick_or rfl rfl rfl) ?_
  refine jo_pure rfl (pr_assign rfl) ?_
  refine jo_nil ?_
  refine jq_then ?_
  refine jc_cond rfl (fun h1b => ?_) (fun h1b => ?_)
  · have h1 := (fun q => Or.imp of_decide_eq_true of_decide_eq_true (bt_or q)) h1b
    refine jc_seq ?_
    refine jc_region ?_
    refine jo_pure rfl (pr_assign rfl) ?_
    refine jo_nil ?_
    refine jq_then ?_
    refine jc_ret ?_
    refine jq_in_ret ?_
    refine jq_then_ret ?_
    exact jq_ret1 rfl () rfl (show (.int .i64 (idx s c) : Value) = (.int .i64 ((0 : Nat) : Int)) from congrArg (Value.int .i64) (by rcases h1 with h1 | h1; (rw [hsep] at h1; cases h1); (rw [← h1, hsep, pos_self]; rfl))) (fun _ h => h)
  · have h1 := (fun q => And.imp of_decide_eq_false of_decide_eq_false (bf_or q)) h1b
    refine jc_seq ?_
    refine jc_region ?_
    refine jo_pure rfl (pr_move rfl) ?_
    refine jo_pure rfl (pr_eqlN (m := sep.length) (n := 1) rfl rfl) ?_
    refine jo_pure rfl (pr_assign rfl) ?_
    refine jo_nil ?_
    refine jq_then ?_
    refine jc_cond rfl (fun h2b => ?_) (fun h2b => ?_)
    · have h2 := of_decide_eq_true h2b
      refine jc_seq ?_
      refine jc_region ?_
      refine jo_pure rfl (pr_move rfl) ?_
      refine jo_pure rfl (pr_move rfl) ?_
      refine jo_pure rfl (pr_sindex (i := 0) rfl rfl Tryd.underlying9 (by rw [hsep]; exact Nat.one_pos)) ?_
      refine jo_callp cal_136 (c_internal_stringslite_IndexByte s (sep.getD 0 0)) ⟨rfl, rfl, trivial⟩ rfl (trivial) (fun _ => ?_)
      refine jo_pure rfl (pr_assign rfl) ?_
      refine jo_nil ?_
      refine jq_then ?_
      refine jc_ret ?_
      refine jq_in_ret ?_
      refine jq_then_ret ?_
      exact jq_ret1 rfl () rfl (show (.int .i64 (idx s c) : Value) = (.int .i64 (idx s (sep.getD 0 0))) from congrArg (Value.int .i64) (by rw [hsep]; rfl)) (fun _ h => h)
    · have h2 := of_decide_eq_false h2b
      exact absurd (by rw [hsep]; rfl) h2

theorem c_internal_stringslite_Cut (s : List UInt8) (sep : List UInt8) (c : UInt8) (hsep : sep = [c]) (hs : s.length ≤ 1000000) : Con Tryd.prog 111 #[str (s), str (sep)] [] (fun _ : Unit => .tuple #[str (s.take (pos s c)), str (s.drop (pos s c + 1)), .bool (decide (pos s c < s.length))]) (fun _ => []) := by
  refine con_of_J (args := [str (s), str (sep)]) (n := 23) Tryd.func111 rfl (Nat.le_of_ble_eq_true rfl) rfl (fun w0 I0 m0 => ?_)
  show J _ [(0, str (s)), (1, str (sep))] [] _
  refine jc_seq ?_
  refine jc_region ?_
  refine jo_pure rfl (pr_assign rfl) ?_
  refine jo_pure rfl (pr_assign rfl) ?_
  refine jo_pure rfl (pr_assign rfl) ?_
  refine jo_nil ?_
  refine jq_then ?_
  refine jc_seq ?_
  refine jc_seq ?_
  refine jc_region ?_
  refine jo_pure rfl (pr_move rfl) ?_
  refine jo_pure rfl (pr_move rfl) ?_
  refine jo_callp cal_131 (c_internal_stringslite_Index s sep c (hsep) (by omega)) ⟨rfl, rfl, trivial⟩ rfl (trivial) (fun _ => ?_)
  refine jo_pure rfl (pr_assign rfl) ?_
  refine jo_nil ?_
  refine jq_then ?_
  refine jc_seq ?_
  refine jc_region ?_
  refine jo_pure rfl (pr_move rfl) ?_
  refine jo_pure rfl (pr_geq (n := 0) rfl rfl) ?_
  refine jo_nil ?_
  refine jq_then ?_
  refine jc_cond rfl (fun h1b => ?_) (fun h1b => ?_)
  · have h1 := of_decide_eq_true h1b
    have hp := (idx_nonneg h1).2
    have hl : sep.length = 1 := by rw [hsep]; rfl
    rw [show (idx s c : Int) = ((pos s c : Nat) : Int) from (idx_nonneg h1).1]
    refine jc_seq ?_
    refine jc_draws mixed (by kernel_rfl) ?_
    refine jd_pure rfl (pr_move rfl) ?_
    refine jd_pure rfl (pr_move rfl) ?_
    refine jd_pure rfl (pr_sslice_hi (j := pos s c) rfl rfl Tryd.underlying9 (by have := pos_le s c; omega)) ?_
    refine jd_pure rfl (pr_move rfl) ?_
    refine jd_pure rfl (pr_move rfl) ?_
    refine jd_pure rfl (pr_move rfl) ?_
    refine jd_pure rfl (pr_slen rfl Tryd.underlying9) ?_
    refine jd_pure rfl (pr_addN (m := pos s c) (n := sep.length) rfl rfl (by omega)) ?_
    refine jd_pure rfl (pr_sslice_lo (i := (pos s c) + sep.length) rfl rfl Tryd.underlying9 (by have := pos_le s c; omega)) ?_
    refine jd_pure rfl (pr_assign rfl) ?_
    refine jd_pure rfl (pr_assign rfl) ?_
    refine jd_pure rfl (pr_assign rfl) ?_
    refine jd_nil ?_
    refine jq_then ?_
    refine jc_ret ?_
    refine jq_then_ret ?_
    exact jq_rets (rs := [.tmp 4, .tmp 5, .tmp 6]) (vs := [str (s.take (pos s c)), str (s.drop ((pos s c) + sep.length)), .bool (true)]) rfl () ⟨resV_tmp rfl, resV_tmp rfl, resV_tmp rfl, trivial⟩ rfl (show (.tuple #[str (s.take (pos s c)), str (s.drop (pos s c + 1)), .bool (decide (pos s c < s.length))] : Value) = (.tuple #[str (s.take (pos s c)), str (s.drop ((pos s c) + sep.length)), .bool (true)]) from by rw [hl, decide_eq_true hp]) (fun _ h => h)
  · have h1 := of_decide_eq_false h1b
    refine jc_skip ?_
    refine jq_then ?_
    refine jc_seq ?_
    refine jc_region ?_
    refine jo_pure rfl (pr_move rfl) ?_
    refine jo_pure rfl (pr_assign rfl) ?_
    refine jo_pure rfl (pr_assign rfl) ?_
    refine jo_pure rfl (pr_assign rfl) ?_
    refine jo_nil ?_
    refine jq_then ?_
    refine jc_ret ?_
    exact jq_rets (rs := [.tmp 4, .tmp 5, .tmp 6]) (vs := [str (s), str ([]), .bool (false)]) rfl () ⟨resV_tmp rfl, resV_tmp rfl, resV_tmp rfl, trivial⟩ rfl (show (.tuple #[str (s.take (pos s c)), str (s.drop (pos s c + 1)), .bool (decide (pos s c < s.length))] : Value) = (.tuple #[str (s), str ([]), .bool (false)]) from by rw [pos_none h1, List.take_length, List.drop_of_length_le (by omega), decide_eq_false (by omega)]) (fun _ h => h)

theorem c_strings_Cut (s : List UInt8) (sep : List UInt8) (c : UInt8) (hsep : sep = [c]) (hs : s.length ≤ 1000000) : Con Tryd.prog 92 #[str (s), str (sep)] [] (fun _ : Unit => .tuple #[str (s.take (pos s c)), str (s.drop (pos s c + 1)), .bool (decide (pos s c < s.length))]) (fun _ => []) := by
  refine con_of_J (args := [str (s), str (sep)]) (n := 13) Tryd.func92 rfl (Nat.le_of_ble_eq_true rfl) rfl (fun w0 I0 m0 => ?_)
  show J _ [(0, str (s)), (1, str (sep))] [] _
  refine jc_seq ?_
  refine jc_region ?_
  refine jo_pure rfl (pr_assign rfl) ?_
  refine jo_pure rfl (pr_assign rfl) ?_
  refine jo_pure rfl (pr_assign rfl) ?_
  refine jo_nil ?_
  refine jq_then ?_
  refine jc_seq ?_
  refine jc_region ?_
  refine jo_pure rfl (pr_move rfl) ?_
  refine jo_pure rfl (pr_move rfl) ?_
  refine jo_callp cal_111 (c_internal_stringslite_Cut s sep c (hsep) (by omega)) ⟨rfl, rfl, trivial⟩ rfl (trivial) (fun _ => ?_)
  refine jo_pure rfl (pr_extract rfl rfl) ?_
  refine jo_pure rfl (pr_extract rfl rfl) ?_
  refine jo_pure rfl (pr_extract rfl rfl) ?_
  refine jo_pure rfl (pr_assign rfl) ?_
  refine jo_pure rfl (pr_assign rfl) ?_
  refine jo_pure rfl (pr_assign rfl) ?_
  refine jo_nil ?_
  refine jq_then ?_
  refine jc_ret ?_
  exact jq_rets (rs := [.tmp 4, .tmp 5, .tmp 6]) (vs := [str (s.take (pos s c)), str (s.drop (pos s c + 1)), .bool (decide (pos s c < s.length))]) rfl () ⟨resV_tmp rfl, resV_tmp rfl, resV_tmp rfl, trivial⟩ rfl (show (.tuple #[str (s.take (pos s c)), str (s.drop (pos s c + 1)), .bool (decide (pos s c < s.length))] : Value) = (.tuple #[str (s.take (pos s c)), str (s.drop (pos s c + 1)), .bool (decide (pos s c < s.length))]) from rfl) (fun _ h => h)

theorem c_ref01_Index (s : List UInt8) (c : UInt8) (frm : Nat) (hs : s.length ≤ 1000000) : Con Tryd.prog 72 #[str (s), byte (c), .int .i64 ((frm : Nat) : Int)] [] (fun _ : Unit => .int .i64 (idxF s c frm)) (fun _ => []) := by
  refine con_of_J (args := [str (s), byte (c), .int .i64 ((frm : Nat) : Int)]) (n := 21) Tryd.func72 rfl (Nat.le_of_ble_eq_true rfl) rfl (fun w0 I0 m0 => ?_)
  show J _ [(0, str (s)), (1, byte (c)), (2, .int .i64 ((frm : Nat) : Int))] [] _
  refine jc_seq ?_
  refine jc_region ?_
  refine jo_pure rfl (pr_assign rfl) ?_
  refine jo_nil ?_
  refine jq_then ?_
  refine jc_seq ?_
  refine jc_seq ?_
  refine jc_region ?_
  refine jo_pure rfl (pr_move rfl) ?_
  refine jo_pure rfl (pr_assign rfl) ?_
  refine jo_nil ?_
  refine jq_then ?_
  refine jc_block ?_
  refine jc_loop (fun (i : Nat) => [(0, str (s)), (1, byte (c)), (2, .int .i64 ((frm : Nat) : Int)), (8, .int .i64 ((frm : Nat) : Int)), (7, .int .i64 ((i : Nat) : Int))]) (fun (i : Nat) => []) (fun (i : Nat) => posF s c i = posF s c frm) (fun (i : Nat) => s.length - i) frm (rfl) ⟨rfl, rfl, rfl, rfl, rfl, trivial⟩ (fun _ h => h) (fun i hinv => ?_)
  refine jc_seq ?_
  refine jc_seq ?_
  refine jc_region ?_
  refine jo_pure rfl (pr_move rfl) ?_
  refine jo_pure rfl (pr_move rfl) ?_
  refine jo_pure rfl (pr_slen rfl Tryd.underlying9) ?_
  refine jo_pure rfl (pr_lssN (m := i) (n := s.length) rfl rfl) ?_
  refine jo_nil ?_
  refine jq_then ?_
  refine jc_cond rfl (fun h1b => ?_) (fun h1b => ?_)
  · have h1 := of_decide_eq_true h1b
    refine jc_skip ?_
    refine jq_then ?_
    refine jc_seq ?_
    refine jc_block ?_
    refine jc_seq ?_
    refine jc_region ?_
    refine jo_pure rfl (pr_move rfl) ?_
    refine jo_pure rfl (pr_move rfl) ?_
    refine jo_pure rfl (pr_sindex (i := i) rfl rfl Tryd.underlying9 (by omega)) ?_
    refine jo_pure rfl (pr_move rfl) ?_
    refine jo_pure rfl (pr_beql rfl rfl) ?_
    refine jo_nil ?_
    refine jq_then ?_
    refine jc_cond rfl (fun h2b => ?_) (fun h2b => ?_)
    · have h2 := of_decide_eq_true h2b
      refine jc_seq ?_
      refine jc_region ?_
      refine jo_pure rfl (pr_move rfl) ?_
      refine jo_pure rfl (pr_assign rfl) ?_
      refine jo_nil ?_
      refine jq_then ?_
      refine jc_ret ?_
      refine jq_in_ret ?_
      refine jq_then_ret ?_
      refine jq_then_ret ?_
      refine jq_in_ret ?_
      refine jq_then_ret ?_
      exact jq_ret1 rfl () rfl (show (.int .i64 (idxF s c frm) : Value) = (.int .i64 ((i : Nat) : Int)) from congrArg (Value.int .i64) (by rw [idxF, ← hinv, posF_hit h1 h2, if_pos h1])) (fun _ h => h)
    · have h2 := of_decide_eq_false h2b
      refine jc_skip ?_
      refine jq_in_normal ?_
      refine jq_then ?_
      refine jc_region ?_
      refine jo_pure rfl (pr_move rfl) ?_
      refine jo_pure rfl (pr_addN (m := i) (n := 1) rfl rfl (by omega)) ?_
      refine jo_pure rfl (pr_assign rfl) ?_
      refine jo_nil ?_
      refine jq_round' (i + 1) ((posF_miss h1 h2).trans hinv) (by omega) ⟨rfl, rfl, rfl, rfl, rfl, trivial⟩ (fun _ h => h)
  · have h1 := of_decide_eq_false h1b
    refine jc_exit ?_
    refine jq_then_exit ?_
    refine jq_then_exit ?_
    refine jq_in_hit ?_
    refine jq_then ?_
    refine jc_seq ?_
    refine jc_region ?_
    refine jo_pure rfl (pr_assign rfl) ?_
    refine jo_nil ?_
    refine jq_then ?_
    refine jc_ret ?_
    exact jq_ret1 rfl () rfl (show (.int .i64 (idxF s c frm) : Value) = (.int .i64 (-1)) from congrArg (Value.int .i64) (by rw [idxF, ← hinv, if_neg (posF_end (by omega))])) (fun _ h => h)
end Go.Proofs.YtikllmfjgpmcnaaDoor
