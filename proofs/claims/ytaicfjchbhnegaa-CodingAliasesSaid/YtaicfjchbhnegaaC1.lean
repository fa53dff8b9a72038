/-
  Contracts of functions of the program: each returns what a plain function says, for every input within the bounds named. Conditions: the bounds.
-/
import Derived.Test.YtaicfjchbhnegaaRows
import Derived.Test.YtaicfjchbhnegaaSepE
import Derived.Test.YtaicfjchbhnegaaLaw12
namespace Go.Proofs.Ytaicfjchbhnegaa
open Go Go.Sep
set_option linter.unusedSimpArgs false
set_option linter.unusedVariables false

open Go.Plain

theorem cal_5 : Cal Try.prog 5 := cal_of Try.func5 (by kernel_rfl) rfl
theorem cal_6 : Cal Try.prog 6 := cal_of Try.func6 (by kernel_rfl) rfl
theorem cal_7 : Cal Try.prog 7 := cal_of Try.func7 (by kernel_rfl) rfl
theorem cal_8 : Cal Try.prog 8 := cal_of Try.func8 (by kernel_rfl) rfl
theorem cal_9 : Cal Try.prog 9 := cal_of Try.func9 (by kernel_rfl) rfl
theorem cal_10 : Cal Try.prog 10 := cal_of Try.func10 (by kernel_rfl) rfl
theorem cal_11 : Cal Try.prog 11 := cal_of Try.func11 (by kernel_rfl) rfl
theorem ty_5 : TyF Try.prog 5 false 1 1 (some (byte (0))) := ⟨by kernel_rfl, by kernel_rfl⟩

theorem c_ascii_Lower (s : List UInt8) (hs : s.length ≤ 1000000) : Con Try.prog 11 #[str (s)] [] (fun _ : Unit => str (lower s)) (fun _ => []) := by
  refine con_of_J (args := [str (s)]) (n := 30) Try.func11 rfl (Nat.le_of_ble_eq_true rfl) rfl (fun w0 I0 m0 => ?_)
  show J _ [(0, str (s))] [] _
  refine jc_seq ?_
  refine jc_region ?_
  refine jo_pure rfl (pr_assign rfl) ?_
  refine jo_nil ?_
  refine jq_then ?_
  refine jc_seq ?_
  refine jc_region ?_
  refine jo_pure rfl (pr_move rfl) ?_
  refine jo_s2b rfl Try.underlying9 Try.underlying27 Try.underlying5 rfl (by omega) (fun g1 cap1 => ?_)
  refine jo_pure rfl (pr_assign rfl) ?_
  refine jo_nil ?_
  refine jq_then ?_
  refine jc_seq ?_
  refine jc_seq ?_
  refine jc_region ?_
  refine jo_pure rfl (pr_move rfl) ?_
  refine jo_pure rfl (pr_len rfl Try.underlying27) ?_
  refine jo_pure rfl (pr_move rfl) ?_
  refine jo_nil ?_
  refine jq_then ?_
  refine jc_block ?_
  refine jc_loop (fun (i : Nat) => [(0, str (s)), (2, str ([])), (6, str (s)), (7, .slice (some ⟨g1, 0, none⟩) (s.length) (cap1)), (3, .slice (some ⟨g1, 0, none⟩) (s.length) (cap1)), (8, .slice (some ⟨g1, 0, none⟩) (s.length) (cap1)), (9, .int .i64 ((s.length : Nat) : Int)), (10, .int .i64 ((i : Nat) : Int))]) (fun (i : Nat) => [.rowm g1 (cap1) 5 .u8 (lowerTo s i)]) (fun (i : Nat) => i ≤ s.length) (fun (i : Nat) => s.length - i) 0 (Nat.zero_le _) ⟨rfl, rfl, rfl, rfl, rfl, rfl, rfl, rfl, trivial⟩ (fun _ h => by rw [lowerTo_zero]; exact h) (fun i hinv => ?_)
  refine jc_seq ?_
  refine jc_region ?_
  refine jo_pure rfl (pr_lssN (m := i) (n := s.length) rfl rfl) ?_
  refine jo_nil ?_
  refine jq_then ?_
  refine jc_seq ?_
  refine jc_cond rfl (fun h1b => ?_) (fun h1b => ?_)
  · have h1 := of_decide_eq_true h1b
    refine jc_skip ?_
    refine jq_then ?_
    refine jc_seq ?_
    refine jc_block ?_
    refine jc_seq ?_
    refine jc_region ?_
    refine jo_pure rfl (pr_move rfl) ?_
    refine jo_pure rfl (pr_idx (i := i) (i) rfl rfl Try.underlying27 ty_5 (by omega) (by first | rfl | (simp only [Nat.zero_add, Nat.mul_one]))) ?_
    refine jo_pure rfl (pr_load_rowD (byte ((lowerTo s i).getD i 0)) true rfl ty_5 rfl rfl (.head _) (by rw [lowerTo_len]; omega) (by first | rfl | exact Nat.mul_one _) rfl) ?_
    refine jo_pure rfl (pr_assign rfl) ?_
    refine jo_pure rfl (pr_assign rfl) ?_
    refine jo_nil ?_
    refine jq_then ?_
    refine jc_seq ?_
    refine jc_region ?_
    refine jo_pure rfl (pr_move rfl) ?_
    refine jo_pure rfl (pr_bgeq (n := 65) rfl rfl) ?_
    refine jo_pure rfl (pr_move rfl) ?_
    refine jo_gpure (j := 2) (want := true) rfl rfl rfl rfl (fun hg => pr_move rfl) ?_
    refine jo_gpure (j := 2) (want := true) rfl rfl rfl rfl (fun hg => pr_bleq (n := 90) (evg rfl hg) rfl) ?_
    refine jo_pure rfl (pr_pick_and rfl rfl rfl) ?_
    refine jo_nil ?_
    refine jq_then ?_
    refine jc_cond rfl (fun h2b => ?_) (fun h2b => ?_)
    · have h2 := (fun q => And.imp of_decide_eq_true of_decide_eq_true (bt_and q)) h2b
      refine jc_region ?_
      refine jo_pure rfl (pr_move rfl) ?_
      refine jo_pure rfl (pr_move rfl) ?_
      refine jo_pure rfl (pr_move rfl) ?_
      refine jo_pure rfl (pr_badd (n := 97) rfl rfl) ?_
      refine jo_pure rfl (pr_bsub (n := 65) rfl rfl) ?_
      refine jo_pure rfl (pr_idx (i := i) (i) rfl rfl Try.underlying27 ty_5 (by omega) (by first | rfl | (simp only [Nat.zero_add, Nat.mul_one]))) ?_
      refine jo_store_m (i := i) ((((lowerTo s i).getD i 0) + 97) - 65) rfl rfl ty_5 rfl (by rw [lowerTo_len]; omega) (by first | rfl | exact Nat.mul_one _) rfl ?_
      refine jo_nil ?_
      refine jq_in_normal ?_
      refine jq_then ?_
      refine jc_region ?_
      refine jo_pure rfl (pr_addN (m := i) (n := 1) rfl rfl (by omega)) ?_
      refine jo_pure rfl (pr_move rfl) ?_
      refine jo_nil ?_
      refine jq_round' (i + 1) (by omega) (by omega) ⟨rfl, rfl, rfl, rfl, rfl, rfl, rfl, rfl, trivial⟩ (fun _ h => by rw [← lowerTo_hit' s i (by omega) h2.1 h2.2 _ (add97 _)]; exact h)
    · have h2 := (fun q => Or.imp of_decide_eq_false of_decide_eq_false (bf_and q)) h2b
      refine jc_skip ?_
      refine jq_in_normal ?_
      refine jq_then ?_
      refine jc_region ?_
      refine jo_pure rfl (pr_addN (m := i) (n := 1) rfl rfl (by omega)) ?_
      refine jo_pure rfl (pr_move rfl) ?_
      refine jo_nil ?_
      refine jq_round' (i + 1) (by omega) (by omega) ⟨rfl, rfl, rfl, rfl, rfl, rfl, rfl, rfl, trivial⟩ (fun _ h => by rw [lowerTo_miss' s i (by omega) h2]; exact h)
  · have h1 := of_decide_eq_false h1b
    refine jc_exit ?_
    refine jq_then_exit ?_
    refine jq_then_exit ?_
    refine jq_in_hit ?_
    refine jq_then ?_
    refine jc_seq ?_
    refine jc_region ?_
    refine jo_pure rfl (pr_move rfl) ?_
    refine jo_pure rfl (pr_b2s_m (E := 5) rfl (by rw [lowerTo_len]) (.head _) Try.underlying27 Try.underlying5 Try.underlying9) ?_
    refine jo_pure rfl (pr_assign rfl) ?_
    refine jo_nil ?_
    refine jq_then ?_
    refine jc_ret ?_
    refine j_drop ?_
    exact jq_ret1 rfl () rfl (show (_ : Value) = (str (lowerTo s i)) from by rw [lowerTo_end s i (by omega)]) (fun _ h => h)

theorem c_ref01_Lower (s : List UInt8) (hs : s.length ≤ 1000000) : Con Try.prog 10 #[str (s)] [] (fun _ : Unit => str (lower s)) (fun _ => []) := by
  refine con_of_J (args := [str (s)]) (n := 33) Try.func10 rfl (Nat.le_of_ble_eq_true rfl) rfl (fun w0 I0 m0 => ?_)
  show J _ [(0, str (s))] [] _
  refine jc_seq ?_
  refine jc_region ?_
  refine jo_pure rfl (pr_assign rfl) ?_
  refine jo_nil ?_
  refine jq_then ?_
  refine jc_seq ?_
  refine jc_region ?_
  refine jo_pure rfl (pr_move rfl) ?_
  refine jo_s2b rfl Try.underlying9 Try.underlying27 Try.underlying5 rfl (by omega) (fun g1 cap1 => ?_)
  refine jo_pure rfl (pr_assign rfl) ?_
  refine jo_nil ?_
  refine jq_then ?_
  refine jc_seq ?_
  refine jc_seq ?_
  refine jc_region ?_
  refine jo_pure rfl (pr_assign rfl) ?_
  refine jo_nil ?_
  refine jq_then ?_
  refine jc_block ?_
  refine jc_loop (fun (i : Nat) => [(0, str (s)), (2, str ([])), (5, str (s)), (6, .slice (some ⟨g1, 0, none⟩) (s.length) (cap1)), (3, .slice (some ⟨g1, 0, none⟩) (s.length) (cap1)), (4, .int .i64 ((i : Nat) : Int))]) (fun (i : Nat) => [.rowm g1 (cap1) 5 .u8 (lowerTo s i)]) (fun (i : Nat) => i ≤ s.length) (fun (i : Nat) => s.length - i) 0 (Nat.zero_le _) ⟨rfl, rfl, rfl, rfl, rfl, rfl, trivial⟩ (fun _ h => by rw [lowerTo_zero]; exact h) (fun i hinv => ?_)
  refine jc_seq ?_
  refine jc_seq ?_
  refine jc_region ?_
  refine jo_pure rfl (pr_move rfl) ?_
  refine jo_pure rfl (pr_move rfl) ?_
  refine jo_pure rfl (pr_len rfl Try.underlying27) ?_
  refine jo_pure rfl (pr_lssN (m := i) (n := s.length) rfl rfl) ?_
  refine jo_nil ?_
  refine jq_then ?_
  refine jc_cond rfl (fun h1b => ?_) (fun h1b => ?_)
  · have h1 := of_decide_eq_true h1b
    refine jc_skip ?_
    refine jq_then ?_
    refine jc_seq ?_
    refine jc_block ?_
    refine jc_seq ?_
    refine jc_region ?_
    refine jo_pure rfl (pr_move rfl) ?_
    refine jo_pure rfl (pr_move rfl) ?_
    refine jo_pure rfl (pr_idx (i := i) (i) rfl rfl Try.underlying27 ty_5 (by omega) (by first | rfl | (simp only [Nat.zero_add, Nat.mul_one]))) ?_
    refine jo_pure rfl (pr_load_rowD (byte ((lowerTo s i).getD i 0)) true rfl ty_5 rfl rfl (.head _) (by rw [lowerTo_len]; omega) (by first | rfl | exact Nat.mul_one _) rfl) ?_
    refine jo_pure rfl (pr_bgeq (n := 65) rfl rfl) ?_
    refine jo_pure rfl (pr_move rfl) ?_
    refine jo_gpure (j := 5) (want := true) rfl rfl rfl rfl (fun hg => pr_move rfl) ?_
    refine jo_gpure (j := 5) (want := true) rfl rfl rfl rfl (fun hg => pr_move rfl) ?_
    refine jo_gpure (j := 5) (want := true) rfl rfl rfl rfl (fun hg => pr_idx (i := i) (i) (evg rfl hg) (evg rfl hg) Try.underlying27 ty_5 (by omega) (by first | rfl | (simp only [Nat.zero_add, Nat.mul_one]))) ?_
    refine jo_gpure (j := 5) (want := true) rfl rfl rfl rfl (fun hg => pr_load_rowD (byte ((lowerTo s i).getD i 0)) true (evg rfl hg) ty_5 rfl rfl (.head _) (by rw [lowerTo_len]; omega) (by first | rfl | exact Nat.mul_one _) rfl) ?_
    refine jo_gpure (j := 5) (want := true) rfl rfl rfl rfl (fun hg => pr_bleq (n := 90) (evg rfl hg) rfl) ?_
    refine jo_pure rfl (pr_pick_and rfl rfl rfl) ?_
    refine jo_nil ?_
    refine jq_then ?_
    refine jc_cond rfl (fun h2b => ?_) (fun h2b => ?_)
    · have h2 := (fun q => And.imp of_decide_eq_true of_decide_eq_true (bt_and q)) h2b
      refine jc_region ?_
      refine jo_pure rfl (pr_move rfl) ?_
      refine jo_pure rfl (pr_move rfl) ?_
      refine jo_pure rfl (pr_idx (i := i) (i) rfl rfl Try.underlying27 ty_5 (by omega) (by first | rfl | (simp only [Nat.zero_add, Nat.mul_one]))) ?_
      refine jo_pure rfl (pr_load_rowD (byte ((lowerTo s i).getD i 0)) true rfl ty_5 rfl rfl (.head _) (by rw [lowerTo_len]; omega) (by first | rfl | exact Nat.mul_one _) rfl) ?_
      refine jo_pure rfl (pr_badd (n := 32) rfl rfl) ?_
      refine jo_pure rfl (pr_idx (i := i) (i) rfl rfl Try.underlying27 ty_5 (by omega) (by first | rfl | (simp only [Nat.zero_add, Nat.mul_one]))) ?_
      refine jo_store_m (i := i) (((lowerTo s i).getD i 0) + 32) rfl rfl ty_5 rfl (by rw [lowerTo_len]; omega) (by first | rfl | exact Nat.mul_one _) rfl ?_
      refine jo_nil ?_
      refine jq_in_normal ?_
      refine jq_then ?_
      refine jc_region ?_
      refine jo_pure rfl (pr_move rfl) ?_
      refine jo_pure rfl (pr_addN (m := i) (n := 1) rfl rfl (by omega)) ?_
      refine jo_pure rfl (pr_assign rfl) ?_
      refine jo_nil ?_
      refine jq_round' (i + 1) (by omega) (by omega) ⟨rfl, rfl, rfl, rfl, rfl, rfl, trivial⟩ (fun _ h => by rw [← lowerTo_hit' s i (by omega) h2.1 h2.2 _ rfl]; exact h)
    · have h2 := (fun q => Or.imp of_decide_eq_false of_decide_eq_false (bf_and q)) h2b
      refine jc_skip ?_
      refine jq_in_normal ?_
      refine jq_then ?_
      refine jc_region ?_
      refine jo_pure rfl (pr_move rfl) ?_
      refine jo_pure rfl (pr_addN (m := i) (n := 1) rfl rfl (by omega)) ?_
      refine jo_pure rfl (pr_assign rfl) ?_
      refine jo_nil ?_
      refine jq_round' (i + 1) (by omega) (by omega) ⟨rfl, rfl, rfl, rfl, rfl, rfl, trivial⟩ (fun _ h => by rw [lowerTo_miss' s i (by omega) h2]; exact h)
  · have h1 := of_decide_eq_false h1b
    refine jc_exit ?_
    refine jq_then_exit ?_
    refine jq_then_exit ?_
    refine jq_in_hit ?_
    refine jq_then ?_
    refine jc_seq ?_
    refine jc_region ?_
    refine jo_pure rfl (pr_move rfl) ?_
    refine jo_pure rfl (pr_b2s_m (E := 5) rfl (by rw [lowerTo_len]) (.head _) Try.underlying27 Try.underlying5 Try.underlying9) ?_
    refine jo_pure rfl (pr_assign rfl) ?_
    refine jo_nil ?_
    refine jq_then ?_
    refine jc_ret ?_
    refine j_drop ?_
    exact jq_ret1 rfl () rfl (show (_ : Value) = (str (lowerTo s i)) from by rw [lowerTo_end s i (by omega)]) (fun _ h => h)

theorem c_coding_Canonical (kind : Int) (s : List UInt8) (hs : s.length ≤ 1000000) : Con Try.prog 5 #[.int .i64 (kind), str (s)] [] (fun _ : Unit => str (canonical kind s)) (fun _ => []) := by
  refine con_of_J (args := [.int .i64 (kind), str (s)]) (n := 18) Try.func5 rfl (Nat.le_of_ble_eq_true rfl) rfl (fun w0 I0 m0 => ?_)
  show J _ [(0, .int .i64 (kind)), (1, str (s))] [] _
  refine jc_seq ?_
  refine jc_region ?_
  refine jo_pure rfl (pr_assign rfl) ?_
  refine jo_nil ?_
  refine jq_then ?_
  refine jc_seq ?_
  refine jc_region ?_
  refine jo_pure rfl (pr_move rfl) ?_
  refine jo_callp cal_11 (c_ascii_Lower s (by omega)) ⟨rfl, trivial⟩ rfl (trivial) (fun _ => ?_)
  refine jo_pure rfl (pr_assign rfl) ?_
  refine jo_nil ?_
  refine jq_then ?_
  refine jc_seq ?_
  refine jc_seq ?_
  refine jc_region ?_
  refine jo_pure rfl (pr_move rfl) ?_
  refine jo_pure rfl (pr_neq (n := 4) rfl rfl) ?_
  refine jo_nil ?_
  refine jq_then ?_
  refine jc_cond rfl (fun h1b => ?_) (fun h1b => ?_)
  · have h1 := (fun q => of_decide_eq_false (bt_not q)) h1b
    refine jc_seq ?_
    refine jc_region ?_
    refine jo_pure rfl (pr_move rfl) ?_
    refine jo_pure rfl (pr_assign rfl) ?_
    refine jo_nil ?_
    refine jq_then ?_
    refine jc_ret ?_
    refine jq_then_ret ?_
    exact jq_ret1 rfl () rfl (show (_ : Value) = (str (lower s)) from by simp [canonical, sGzip, sXgzip, sCompress, sXcompress, *]) (fun _ h => h)
  · have h1 := (fun q => of_decide_eq_true (bf_not q)) h1b
    refine jc_skip ?_
    refine jq_then ?_
    refine jc_seq ?_
    refine jc_seq ?_
    refine jc_region ?_
    refine jo_pure rfl (pr_move rfl) ?_
    refine jo_nil ?_
    refine jq_then ?_
    refine jc_block ?_
    refine jc_seq ?_
    refine jc_seq ?_
    refine jc_region ?_
    refine jo_pure rfl (pr_seql rfl rfl) ?_
    refine jo_pure rfl (pr_assign rfl) ?_
    refine jo_nil ?_
    refine jq_then ?_
    refine jc_cond rfl (fun h2b => ?_) (fun h2b => ?_)
    · have h2 := of_decide_eq_true h2b
      refine jc_skip ?_
      refine jq_then ?_
      refine jc_true rfl (h2b) ?_
      refine jc_seq ?_
      refine jc_region ?_
      refine jo_pure rfl (pr_assign rfl) ?_
      refine jo_nil ?_
      refine jq_then ?_
      refine jc_ret ?_
      refine jq_in_ret ?_
      refine jq_then_ret ?_
      exact jq_ret1 rfl () rfl (show (_ : Value) = (str ([103, 122, 105, 112])) from by simp [canonical, sGzip, sXgzip, sCompress, sXcompress, *]) (fun _ h => h)
    · have h2 := of_decide_eq_false h2b
      refine jc_region ?_
      refine jo_pure rfl (pr_seql rfl rfl) ?_
      refine jo_pure rfl (pr_assign rfl) ?_
      refine jo_nil ?_
      refine jq_then ?_
      refine jc_cond rfl (fun h3b => ?_) (fun h3b => ?_)
      · have h3 := of_decide_eq_true h3b
        refine jc_seq ?_
        refine jc_region ?_
        refine jo_pure rfl (pr_assign rfl) ?_
        refine jo_nil ?_
        refine jq_then ?_
        refine jc_ret ?_
        refine jq_in_ret ?_
        refine jq_then_ret ?_
        exact jq_ret1 rfl () rfl (show (_ : Value) = (str ([103, 122, 105, 112])) from by simp [canonical, sGzip, sXgzip, sCompress, sXcompress, *]) (fun _ h => h)
      · have h3 := of_decide_eq_false h3b
        refine jc_seq ?_
        refine jc_seq ?_
        refine jc_region ?_
        refine jo_pure rfl (pr_seql rfl rfl) ?_
        refine jo_pure rfl (pr_assign rfl) ?_
        refine jo_nil ?_
        refine jq_then ?_
        refine jc_cond rfl (fun h4b => ?_) (fun h4b => ?_)
        · have h4 := of_decide_eq_true h4b
          refine jc_skip ?_
          refine jq_then ?_
          refine jc_true rfl (h4b) ?_
          refine jc_seq ?_
          refine jc_region ?_
          refine jo_pure rfl (pr_assign rfl) ?_
          refine jo_nil ?_
          refine jq_then ?_
          refine jc_ret ?_
          refine jq_in_ret ?_
          refine jq_then_ret ?_
          exact jq_ret1 rfl () rfl (show (_ : Value) = (str ([99, 111, 109, 112, 114, 101, 115, 115])) from by simp [canonical, sGzip, sXgzip, sCompress, sXcompress, *]) (fun _ h => h)
        · have h4 := of_decide_eq_false h4b
          refine jc_region ?_
          refine jo_pure rfl (pr_seql rfl rfl) ?_
          refine jo_pure rfl (pr_assign rfl) ?_
          refine jo_nil ?_
          refine jq_then ?_
          refine jc_cond rfl (fun h5b => ?_) (fun h5b => ?_)
          · have h5 := of_decide_eq_true h5b
            refine jc_seq ?_
            refine jc_region ?_
            refine jo_pure rfl (pr_assign rfl) ?_
            refine jo_nil ?_
            refine jq_then ?_
            refine jc_ret ?_
            refine jq_in_ret ?_
            refine jq_then_ret ?_
            exact jq_ret1 rfl () rfl (show (_ : Value) = (str ([99, 111, 109, 112, 114, 101, 115, 115])) from by simp [canonical, sGzip, sXgzip, sCompress, sXcompress, *]) (fun _ h => h)
          · have h5 := of_decide_eq_false h5b
            refine jc_skip ?_
            refine jq_in_normal ?_
            refine jq_then ?_
            refine jc_seq ?_
            refine jc_region ?_
            refine jo_pure rfl (pr_move rfl) ?_
            refine jo_pure rfl (pr_assign rfl) ?_
            refine jo_nil ?_
            refine jq_then ?_
            refine jc_ret ?_
            exact jq_ret1 rfl () rfl (show (_ : Value) = (str (lower s)) from by simp [canonical, sGzip, sXgzip, sCompress, sXcompress, *]) (fun _ h => h)

theorem c_ref10_Canonical (kind : Int) (s : List UInt8) (hs : s.length ≤ 1000000) : Con Try.prog 6 #[.int .i64 (kind), str (s)] [] (fun _ : Unit => str (canonical kind s)) (fun _ => []) := by
  refine con_of_J (args := [.int .i64 (kind), str (s)]) (n := 20) Try.func6 rfl (Nat.le_of_ble_eq_true rfl) rfl (fun w0 I0 m0 => ?_)
  show J _ [(0, .int .i64 (kind)), (1, str (s))] [] _
  refine jc_seq ?_
  refine jc_region ?_
  refine jo_pure rfl (pr_assign rfl) ?_
  refine jo_nil ?_
  refine jq_then ?_
  refine jc_seq ?_
  refine jc_region ?_
  refine jo_pure rfl (pr_move rfl) ?_
  refine jo_callp cal_10 (c_ref01_Lower s (by omega)) ⟨rfl, trivial⟩ rfl (trivial) (fun _ => ?_)
  refine jo_pure rfl (pr_assign rfl) ?_
  refine jo_nil ?_
  refine jq_then ?_
  refine jc_seq ?_
  refine jc_seq ?_
  refine jc_region ?_
  refine jo_pure rfl (pr_move rfl) ?_
  refine jo_pure rfl (pr_eql (n := 4) rfl rfl) ?_
  refine jo_pure rfl (pr_move rfl) ?_
  refine jo_gpure (j := 2) (want := true) rfl rfl rfl rfl (fun hg => pr_move rfl) ?_
  refine jo_gpure (j := 2) (want := true) rfl rfl rfl rfl (fun hg => pr_seql (evg rfl hg) rfl) ?_
  refine jo_pure rfl (pr_pick_and rfl rfl rfl) ?_
  refine jo_nil ?_
  refine jq_then ?_
  refine jc_cond rfl (fun h1b => ?_) (fun h1b => ?_)
  · have h1 := (fun q => And.imp of_decide_eq_true of_decide_eq_true (bt_and q)) h1b
    refine jc_seq ?_
    refine jc_region ?_
    refine jo_pure rfl (pr_assign rfl) ?_
    refine jo_nil ?_
    refine jq_then ?_
    refine jc_ret ?_
    refine jq_then_ret ?_
    exact jq_ret1 rfl () rfl (show (_ : Value) = (str ([103, 122, 105, 112])) from by by_cases hk : kind = 4 <;> simp_all [canonical, sGzip, sXgzip, sCompress, sXcompress]) (fun _ h => h)
  · have h1 := (fun q => Or.imp of_decide_eq_false of_decide_eq_false (bf_and q)) h1b
    refine jc_skip ?_
    refine jq_then ?_
    refine jc_seq ?_
    refine jc_seq ?_
    refine jc_region ?_
    refine jo_pure rfl (pr_move rfl) ?_
    refine jo_pure rfl (pr_eql (n := 4) rfl rfl) ?_
    refine jo_pure rfl (pr_move rfl) ?_
    refine jo_gpure (j := 2) (want := true) rfl rfl rfl rfl (fun hg => pr_move rfl) ?_
    refine jo_gpure (j := 2) (want := true) rfl rfl rfl rfl (fun hg => pr_seql (evg rfl hg) rfl) ?_
    refine jo_pure rfl (pr_pick_and rfl rfl rfl) ?_
    refine jo_nil ?_
    refine jq_then ?_
    refine jc_cond rfl (fun h2b => ?_) (fun h2b => ?_)
    · have h2 := (fun q => And.imp of_decide_eq_true of_decide_eq_true (bt_and q)) h2b
      refine jc_seq ?_
      refine jc_region ?_
      refine jo_pure rfl (pr_assign rfl) ?_
      refine jo_nil ?_
      refine jq_then ?_
      refine jc_ret ?_
      refine jq_then_ret ?_
      exact jq_ret1 rfl () rfl (show (_ : Value) = (str ([99, 111, 109, 112, 114, 101, 115, 115])) from by by_cases hk : kind = 4 <;> simp_all [canonical, sGzip, sXgzip, sCompress, sXcompress]) (fun _ h => h)
    · have h2 := (fun q => Or.imp of_decide_eq_false of_decide_eq_false (bf_and q)) h2b
      refine jc_skip ?_
      refine jq_then ?_
      refine jc_seq ?_
      refine jc_region ?_
      refine jo_pure rfl (pr_move rfl) ?_
      refine jo_pure rfl (pr_assign rfl) ?_
      refine jo_nil ?_
      refine jq_then ?_
      refine jc_ret ?_
      exact jq_ret1 rfl () rfl (show (_ : Value) = (str (lower s)) from by by_cases hk : kind = 4 <;> simp_all [canonical, sGzip, sXgzip, sCompress, sXcompress]) (fun _ h => h)

theorem c_coding_Match (kind : Int) (r : List UInt8) (v : List UInt8) (hr : r.length ≤ 1000000) (hv : v.length ≤ 1000000) : Con Try.prog 7 #[.int .i64 (kind), str (r), str (v)] [] (fun _ : Unit => .int .i64 (matchCoding kind r v)) (fun _ => []) := by
  refine con_of_J (args := [.int .i64 (kind), str (r), str (v)]) (n := 18) Try.func7 rfl (Nat.le_of_ble_eq_true rfl) rfl (fun w0 I0 m0 => ?_)
  show J _ [(0, .int .i64 (kind)), (1, str (r)), (2, str (v))] [] _
  refine jc_seq ?_
  refine jc_region ?_
  refine jo_pure rfl (pr_assign rfl) ?_
  refine jo_nil ?_
  refine jq_then ?_
  refine jc_seq ?_
  refine jc_block ?_
  refine jc_seq ?_
  refine jc_region ?_
  refine jo_pure rfl (pr_move rfl) ?_
  refine jo_pure rfl (pr_seql rfl rfl) ?_
  refine jo_pure rfl (pr_assign rfl) ?_
  refine jo_nil ?_
  refine jq_then ?_
  refine jc_cond rfl (fun h1b => ?_) (fun h1b => ?_)
  · have h1 := of_decide_eq_true h1b
    refine jc_seq ?_
    refine jc_region ?_
    refine jo_pure rfl (pr_assign rfl) ?_
    refine jo_nil ?_
    refine jq_then ?_
    refine jc_ret ?_
    refine jq_in_ret ?_
    refine jq_then_ret ?_
    exact jq_ret1 rfl () rfl (show (_ : Value) = (.int .i64 ((0 : Nat) : Int)) from by simp [matchCoding, *]) (fun _ h => h)
  · have h1 := of_decide_eq_false h1b
    refine jc_seq ?_
    refine jc_region ?_
    refine jo_pure rfl (pr_move rfl) ?_
    refine jo_pure rfl (pr_move rfl) ?_
    refine jo_callp cal_5 (c_coding_Canonical kind r (by omega)) ⟨rfl, rfl, trivial⟩ rfl (trivial) (fun _ => ?_)
    refine jo_pure rfl (pr_move rfl) ?_
    refine jo_pure rfl (pr_move rfl) ?_
    refine jo_callp cal_5 (c_coding_Canonical kind v (by omega)) ⟨rfl, rfl, trivial⟩ rfl (trivial) (fun _ => ?_)
    refine jo_pure rfl (pr_seql rfl rfl) ?_
    refine jo_pure rfl (pr_assign rfl) ?_
    refine jo_nil ?_
    refine jq_then ?_
    refine jc_cond rfl (fun h2b => ?_) (fun h2b => ?_)
    · have h2 := of_decide_eq_true h2b
      refine jc_seq ?_
      refine jc_region ?_
      refine jo_pure rfl (pr_assign rfl) ?_
      refine jo_nil ?_
      refine jq_then ?_
      refine jc_ret ?_
      refine jq_in_ret ?_
      refine jq_then_ret ?_
      exact jq_ret1 rfl () rfl (show (_ : Value) = (.int .i64 ((1 : Nat) : Int)) from by simp [matchCoding, *]) (fun _ h => h)
    · have h2 := of_decide_eq_false h2b
      refine jc_skip ?_
      refine jq_in_normal ?_
      refine jq_then ?_
      refine jc_seq ?_
      refine jc_region ?_
      refine jo_pure rfl (pr_assign rfl) ?_
      refine jo_nil ?_
      refine jq_then ?_
      refine jc_ret ?_
      exact jq_ret1 rfl () rfl (show (_ : Value) = (.int .i64 (-1)) from by simp [matchCoding, *]) (fun _ h => h)

theorem c_ref10_MatchCoding (kind : Int) (r : List UInt8) (v : List UInt8) (hr : r.length ≤ 1000000) (hv : v.length ≤ 1000000) : Con Try.prog 8 #[.int .i64 (kind), str (r), str (v)] [] (fun _ : Unit => .int .i64 (matchCoding kind r v)) (fun _ => []) := by
  refine con_of_J (args := [.int .i64 (kind), str (r), str (v)]) (n := 16) Try.func8 rfl (Nat.le_of_ble_eq_true rfl) rfl (fun w0 I0 m0 => ?_)
  show J _ [(0, .int .i64 (kind)), (1, str (r)), (2, str (v))] [] _
  refine jc_seq ?_
  refine jc_region ?_
  refine jo_pure rfl (pr_assign rfl) ?_
  refine jo_nil ?_
  refine jq_then ?_
  refine jc_seq ?_
  refine jc_seq ?_
  refine jc_region ?_
  refine jo_pure rfl (pr_move rfl) ?_
  refine jo_pure rfl (pr_seql rfl rfl) ?_
  refine jo_nil ?_
  refine jq_then ?_
  refine jc_cond rfl (fun h1b => ?_) (fun h1b => ?_)
  · have h1 := of_decide_eq_true h1b
    refine jc_seq ?_
    refine jc_region ?_
    refine jo_pure rfl (pr_assign rfl) ?_
    refine jo_nil ?_
    refine jq_then ?_
    refine jc_ret ?_
    refine jq_then_ret ?_
    exact jq_ret1 rfl () rfl (show (_ : Value) = (.int .i64 ((0 : Nat) : Int)) from by simp [matchCoding, *]) (fun _ h => h)
  · have h1 := of_decide_eq_false h1b
    refine jc_skip ?_
    refine jq_then ?_
    refine jc_seq ?_
    refine jc_seq ?_
    refine jc_region ?_
    refine jo_pure rfl (pr_move rfl) ?_
    refine jo_pure rfl (pr_move rfl) ?_
    refine jo_callp cal_6 (c_ref10_Canonical kind r (by omega)) ⟨rfl, rfl, trivial⟩ rfl (trivial) (fun _ => ?_)
    refine jo_pure rfl (pr_move rfl) ?_
    refine jo_pure rfl (pr_move rfl) ?_
    refine jo_callp cal_6 (c_ref10_Canonical kind v (by omega)) ⟨rfl, rfl, trivial⟩ rfl (trivial) (fun _ => ?_)
    refine jo_pure rfl (pr_seql rfl rfl) ?_
    refine jo_nil ?_
    refine jq_then ?_
    refine jc_cond rfl (fun h2b => ?_) (fun h2b => ?_)
    · have h2 := of_decide_eq_true h2b
      refine jc_seq ?_
      refine jc_region ?_
      refine jo_pure rfl (pr_assign rfl) ?_
      refine jo_nil ?_
      refine jq_then ?_
      refine jc_ret ?_
      refine jq_then_ret ?_
      exact jq_ret1 rfl () rfl (show (_ : Value) = (.int .i64 ((1 : Nat) : Int)) from by simp [matchCoding, *]) (fun _ h => h)
    · have h2 := of_decide_eq_false h2b
      refine jc_skip ?_
      refine jq_then ?_
      refine jc_seq ?_
      refine jc_region ?_
      refine jo_pure rfl (pr_assign rfl) ?_
      refine jo_nil ?_
      refine jq_then ?_
      refine jc_ret ?_
      exact jq_ret1 rfl () rfl (show (_ : Value) = (.int .i64 (-1)) from by simp [matchCoding, *]) (fun _ h => h)

theorem c_law12_awake   : Con Try.prog 9 #[] [] (fun _ : Unit => .bool (true)) (fun _ => []) := by
  refine con_of_J (args := []) (n := 3) Try.func9 rfl (Nat.le_of_ble_eq_true rfl) rfl (fun w0 I0 m0 => ?_)
  show J _ [] [] _
  refine jc_seq ?_
  refine jc_region ?_
  refine jo_pure rfl (pr_assign rfl) ?_
  refine jo_nil ?_
  refine jq_then ?_
  refine jc_seq ?_
  refine jc_region ?_
  refine jo_callp cal_7 (c_coding_Match ((4 : Nat) : Int) [88, 45, 71, 90, 73, 80] [103, 122, 105, 112] (by decide) (by decide)) ⟨rfl, rfl, rfl, trivial⟩ rfl (trivial) (fun _ => ?_)
  refine jo_pure rfl (pr_eql (n := 1) rfl rfl) ?_
  refine jo_pure rfl (pr_assign rfl) ?_
  refine jo_nil ?_
  refine jq_then ?_
  refine jc_ret ?_
  exact jq_ret1 rfl () rfl (show (_ : Value) = (.bool (decide ((matchCoding ((4 : Nat) : Int) [88, 45, 71, 90, 73, 80] [103, 122, 105, 112] : Int) = 1))) from congrArg Value.bool (by decide +kernel)) (fun _ h => h)

theorem c_law12_CodingMatches (kind : Int) (r : List UInt8) (v : List UInt8)  : Con Try.prog 3 #[.int .i64 (kind), str (r), str (v)] [] (fun _ : Unit => .bool (true)) (fun _ => []) := by
  refine con_of_J (args := [.int .i64 (kind), str (r), str (v)]) (n := 36) Try.func3 rfl (Nat.le_of_ble_eq_true rfl) rfl (fun w0 I0 m0 => ?_)
  show J _ [(0, .int .i64 (kind)), (1, str (r)), (2, str (v))] [] _
  refine jc_seq ?_
  refine jc_region ?_
  refine jo_pure rfl (pr_assign rfl) ?_
  refine jo_nil ?_
  refine jq_then ?_
  refine jc_seq ?_
  refine jc_seq ?_
  refine jc_region ?_
  refine jo_pure rfl (pr_move rfl) ?_
  refine jo_pure rfl (pr_slen rfl Try.underlying9) ?_
  refine jo_pure rfl (pr_gtrN (m := r.length) (n := 1000) rfl rfl) ?_
  refine jo_pure rfl (pr_move rfl) ?_
  refine jo_gpure (j := 3) (want := false) rfl rfl rfl rfl (fun hg => pr_move rfl) ?_
  refine jo_gpure (j := 3) (want := false) rfl rfl rfl rfl (fun hg => pr_slen (evg rfl hg) Try.underlying9) ?_
  refine jo_gpure (j := 3) (want := false) rfl rfl rfl rfl (fun hg => pr_gtrN (m := v.length) (n := 1000) (evg rfl hg) rfl) ?_
  refine jo_pure rfl (pr_pick_or rfl rfl rfl) ?_
  refine jo_nil ?_
  refine jq_then ?_
  refine jc_cond rfl (fun h1b => ?_) (fun h1b => ?_)
  · have h1 := (fun q => Or.imp of_decide_eq_true of_decide_eq_true (bt_or q)) h1b
    refine jc_seq ?_
    refine jc_region ?_
    refine jo_pure rfl (pr_assign rfl) ?_
    refine jo_nil ?_
    refine jq_then ?_
    refine jc_ret ?_
    refine jq_then_ret ?_
    exact jq_ret1 rfl () rfl (show (_ : Value) = (.bool (true)) from by simp) (fun _ h => h)
  · have h1 := (fun q => And.imp of_decide_eq_false of_decide_eq_false (bf_or q)) h1b
    refine jc_skip ?_
    refine jq_then ?_
    refine jc_seq ?_
    refine jc_region ?_
    refine jo_pure rfl (pr_move rfl) ?_
    refine jo_pure rfl (pr_move rfl) ?_
    refine jo_callp cal_5 (c_coding_Canonical kind r (by omega)) ⟨rfl, rfl, trivial⟩ rfl (trivial) (fun _ => ?_)
    refine jo_pure rfl (pr_move rfl) ?_
    refine jo_pure rfl (pr_move rfl) ?_
    refine jo_callp cal_6 (c_ref10_Canonical kind r (by omega)) ⟨rfl, rfl, trivial⟩ rfl (trivial) (fun _ => ?_)
    refine jo_pure rfl (pr_seql rfl rfl) ?_
    refine jo_pure rfl (pr_move rfl) ?_
    refine jo_gpure (j := 7) (want := true) rfl rfl rfl rfl (fun hg => pr_move rfl) ?_
    refine jo_gpure (j := 7) (want := true) rfl rfl rfl rfl (fun hg => pr_move rfl) ?_
    refine jo_gpure (j := 7) (want := true) rfl rfl rfl rfl (fun hg => pr_move rfl) ?_
    refine jo_gcall (j := 7) (want := true) rfl rfl rfl cal_7 (fun hg => c_coding_Match kind r v (by omega) (by omega)) (fun hg => ⟨evg rfl hg, evg rfl hg, evg rfl hg, trivial⟩) rfl (fun _ => trivial) ?_
    refine jo_gpure (j := 7) (want := true) rfl rfl rfl rfl (fun hg => pr_move rfl) ?_
    refine jo_gpure (j := 7) (want := true) rfl rfl rfl rfl (fun hg => pr_move rfl) ?_
    refine jo_gpure (j := 7) (want := true) rfl rfl rfl rfl (fun hg => pr_move rfl) ?_
    refine jo_gcall (j := 7) (want := true) rfl rfl rfl cal_8 (fun hg => c_ref10_MatchCoding kind r v (by omega) (by omega)) (fun hg => ⟨evg rfl hg, evg rfl hg, evg rfl hg, trivial⟩) rfl (fun _ => trivial) ?_
    refine jo_gpure (j := 7) (want := true) rfl rfl rfl rfl (fun hg => pr_eql (evg rfl hg) (evg rfl hg)) ?_
    refine jo_pure rfl (pr_pick_and rfl rfl rfl) ?_
    refine jo_pure rfl (pr_move rfl) ?_
    refine jo_gcall (j := 18) (want := true) rfl rfl rfl cal_9 (fun hg => c_law12_awake) (fun hg => trivial) rfl (fun _ => trivial) ?_
    refine jo_pure rfl (pr_pick_and rfl rfl rfl) ?_
    refine jo_pure rfl (pr_assign rfl) ?_
    refine jo_nil ?_
    refine jq_then ?_
    refine jc_ret ?_
    exact jq_ret1 rfl () rfl (show (_ : Value) = (.bool (((decide ((canonical kind r : List UInt8) = canonical kind r) && decide ((matchCoding kind r v : Int) = matchCoding kind r v)) && true))) from by simp) (fun _ h => h)

theorem c_law12_CodingAliases (kind : Int) (x : List UInt8) (y : List UInt8)  : Con Try.prog 4 #[.int .i64 (kind), str (x), str (y)] [] (fun _ : Unit => .bool (true)) (fun _ => []) := by
  refine con_of_J (args := [.int .i64 (kind), str (x), str (y)]) (n := 61) Try.func4 rfl (Nat.le_of_ble_eq_true rfl) rfl (fun w0 I0 m0 => ?_)
  show J _ [(0, .int .i64 (kind)), (1, str (x)), (2, str (y))] [] _
  refine jc_seq ?_
  refine jc_region ?_
  refine jo_pure rfl (pr_assign rfl) ?_
  refine jo_nil ?_
  refine jq_then ?_
  refine jc_seq ?_
  refine jc_seq ?_
  refine jc_region ?_
  refine jo_pure rfl (pr_move rfl) ?_
  refine jo_pure rfl (pr_slen rfl Try.underlying9) ?_
  refine jo_pure rfl (pr_gtrN (m := x.length) (n := 300) rfl rfl) ?_
  refine jo_pure rfl (pr_move rfl) ?_
  refine jo_gpure (j := 3) (want := false) rfl rfl rfl rfl (fun hg => pr_move rfl) ?_
  refine jo_gpure (j := 3) (want := false) rfl rfl rfl rfl (fun hg => pr_slen (evg rfl hg) Try.underlying9) ?_
  refine jo_gpure (j := 3) (want := false) rfl rfl rfl rfl (fun hg => pr_gtrN (m := y.length) (n := 300) (evg rfl hg) rfl) ?_
  refine jo_pure rfl (pr_pick_or rfl rfl rfl) ?_
  refine jo_pure rfl (pr_move rfl) ?_
  refine jo_gpure (j := 8) (want := false) rfl rfl rfl rfl (fun hg => pr_move rfl) ?_
  refine jo_gpure (j := 8) (want := false) rfl rfl rfl rfl (fun hg => pr_seql (evg rfl hg) rfl) ?_
  refine jo_pure rfl (pr_pick_or rfl rfl rfl) ?_
  refine jo_pure rfl (pr_move rfl) ?_
  refine jo_gpure (j := 12) (want := false) rfl rfl rfl rfl (fun hg => pr_move rfl) ?_
  refine jo_gpure (j := 12) (want := false) rfl rfl rfl rfl (fun hg => pr_seql (evg rfl hg) rfl) ?_
  refine jo_pure rfl (pr_pick_or rfl rfl rfl) ?_
  refine jo_nil ?_
  refine jq_then ?_
  refine jc_cond rfl (fun h1b => ?_) (fun h1b => ?_)
  · have h1 := (fun q => Or.imp (fun q => Or.imp (fun q => Or.imp of_decide_eq_true of_decide_eq_true (bt_or q)) of_decide_eq_true (bt_or q)) of_decide_eq_true (bt_or q)) h1b
    refine jc_seq ?_
    refine jc_region ?_
    refine jo_pure rfl (pr_assign rfl) ?_
    refine jo_nil ?_
    refine jq_then ?_
    refine jc_ret ?_
    refine jq_then_ret ?_
    exact jq_ret1 rfl () rfl (show (_ : Value) = (.bool (true)) from rfl) (fun _ h => h)
  · have h1 := (fun q => And.imp (fun q => And.imp (fun q => And.imp of_decide_eq_false of_decide_eq_false (bf_or q)) of_decide_eq_false (bf_or q)) of_decide_eq_false (bf_or q)) h1b
    refine jc_skip ?_
    refine jq_then ?_
    refine jc_seq ?_
    refine jc_region ?_
    refine jo_pure rfl (pr_move rfl) ?_
    refine jo_pure rfl (pr_move rfl) ?_
    refine jo_callp cal_5 (c_coding_Canonical kind x (by first | omega | (have := canonical_length kind x; omega) | (rw [lower_length]; omega))) ⟨rfl, rfl, trivial⟩ rfl (trivial) (fun _ => ?_)
    refine jo_pure rfl (pr_assign rfl) ?_
    refine jo_nil ?_
    refine jq_then ?_
    refine jc_seq ?_
    refine jc_region ?_
    refine jo_pure rfl (pr_move rfl) ?_
    refine jo_pure rfl (pr_move rfl) ?_
    refine jo_callp cal_5 (c_coding_Canonical kind (canonical kind x) (by first | omega | (have := canonical_length kind x; omega) | (rw [lower_length]; omega))) ⟨rfl, rfl, trivial⟩ rfl (trivial) (fun _ => ?_)
    refine jo_pure rfl (pr_move rfl) ?_
    refine jo_pure rfl (pr_seql rfl rfl) ?_
    refine jo_pure rfl (pr_move rfl) ?_
    refine jo_gpure (j := 5) (want := true) rfl rfl rfl rfl (fun hg => pr_move rfl) ?_
    refine jo_gpure (j := 5) (want := true) rfl rfl rfl rfl (fun hg => pr_move rfl) ?_
    refine jo_gcall (j := 5) (want := true) rfl rfl rfl cal_10 (fun hg => c_ref01_Lower x (by first | omega | (have := canonical_length kind x; omega) | (rw [lower_length]; omega))) (fun hg => ⟨evg rfl hg, trivial⟩) rfl (fun _ => trivial) ?_
    refine jo_gcall (j := 5) (want := true) rfl rfl rfl cal_5 (fun hg => c_coding_Canonical kind (lower x) (by first | omega | (have := canonical_length kind x; omega) | (rw [lower_length]; omega))) (fun hg => ⟨evg rfl hg, evg rfl hg, trivial⟩) rfl (fun _ => trivial) ?_
    refine jo_gpure (j := 5) (want := true) rfl rfl rfl rfl (fun hg => pr_move rfl) ?_
    refine jo_gpure (j := 5) (want := true) rfl rfl rfl rfl (fun hg => pr_seql (evg rfl hg) (evg rfl hg)) ?_
    refine jo_pure rfl (pr_pick_and rfl rfl rfl) ?_
    refine jo_pure rfl (pr_move rfl) ?_
    refine jo_gpure (j := 13) (want := true) rfl rfl rfl rfl (fun hg => pr_move rfl) ?_
    refine jo_gpure (j := 13) (want := true) rfl rfl rfl rfl (fun hg => pr_move rfl) ?_
    refine jo_gpure (j := 13) (want := true) rfl rfl rfl rfl (fun hg => pr_move rfl) ?_
    refine jo_gcall (j := 13) (want := true) rfl rfl rfl cal_7 (fun hg => c_coding_Match kind x y (by first | omega | (have := canonical_length kind x; omega) | (rw [lower_length]; omega)) (by first | omega | (have := canonical_length kind x; omega) | (rw [lower_length]; omega))) (fun hg => ⟨evg rfl hg, evg rfl hg, evg rfl hg, trivial⟩) rfl (fun _ => trivial) ?_
    refine jo_gpure (j := 13) (want := true) rfl rfl rfl rfl (fun hg => pr_move rfl) ?_
    refine jo_gpure (j := 13) (want := true) rfl rfl rfl rfl (fun hg => pr_move rfl) ?_
    refine jo_gpure (j := 13) (want := true) rfl rfl rfl rfl (fun hg => pr_move rfl) ?_
    refine jo_gcall (j := 13) (want := true) rfl rfl rfl cal_7 (fun hg => c_coding_Match kind y x (by first | omega | (have := canonical_length kind x; omega) | (rw [lower_length]; omega)) (by first | omega | (have := canonical_length kind x; omega) | (rw [lower_length]; omega))) (fun hg => ⟨evg rfl hg, evg rfl hg, evg rfl hg, trivial⟩) rfl (fun _ => trivial) ?_
    refine jo_gpure (j := 13) (want := true) rfl rfl rfl rfl (fun hg => pr_eql (evg rfl hg) (evg rfl hg)) ?_
    refine jo_pure rfl (pr_pick_and rfl rfl rfl) ?_
    refine jo_pure rfl (pr_move rfl) ?_
    refine jo_gpure (j := 24) (want := true) rfl rfl rfl rfl (fun hg => pr_move rfl) ?_
    refine jo_gpure (j := 24) (want := true) rfl rfl rfl rfl (fun hg => pr_move rfl) ?_
    refine jo_gpure (j := 24) (want := true) rfl rfl rfl rfl (fun hg => pr_move rfl) ?_
    refine jo_gcall (j := 24) (want := true) rfl rfl rfl cal_7 (fun hg => c_coding_Match kind x (canonical kind x) (by first | omega | (have := canonical_length kind x; omega) | (rw [lower_length]; omega)) (by first | omega | (have := canonical_length kind x; omega) | (rw [lower_length]; omega))) (fun hg => ⟨evg rfl hg, evg rfl hg, evg rfl hg, trivial⟩) rfl (fun _ => trivial) ?_
    refine jo_gpure (j := 24) (want := true) rfl rfl rfl rfl (fun hg => pr_eql (n := 1) (evg rfl hg) rfl) ?_
    refine jo_pure rfl (pr_pick_and rfl rfl rfl) ?_
    refine jo_pure rfl (pr_move rfl) ?_
    refine jo_gcall (j := 31) (want := true) rfl rfl rfl cal_9 (fun hg => c_law12_awake) (fun hg => trivial) rfl (fun _ => trivial) ?_
    refine jo_pure rfl (pr_pick_and rfl rfl rfl) ?_
    refine jo_pure rfl (pr_assign rfl) ?_
    refine jo_nil ?_
    refine jq_then ?_
    refine jc_ret ?_
    exact jq_ret1 rfl () rfl (show (_ : Value) = (.bool (((((decide ((canonical kind (canonical kind x) : List UInt8) = canonical kind x) && decide ((canonical kind (lower x) : List UInt8) = canonical kind x)) && decide ((matchCoding kind x y : Int) = matchCoding kind y x)) && decide ((matchCoding kind x (canonical kind x) : Int) = 1)) && true))) from by rw [canonical_idem, canonical_lower, match_symm kind x y h1.1.2 h1.2, match_canonical kind x h1.1.2]; simp) (fun _ h => h)
end Go.Proofs.Ytaicfjchbhnegaa
