/-
  Contracts of functions of the program: each returns what a plain function says, for every input within the bounds named. Conditions: the bounds.
-/
import Derived.Test.YtikllmfjgpmcnaaDoorRows
import Derived.Test.YtikllmfjgpmcnaaDoorL7
namespace Go.Proofs.YtikllmfjgpmcnaaDoor
open Go Go.Sep
set_option linter.unusedSimpArgs false
set_option linter.unusedVariables false

open Go.Plain

theorem cal_94 : Cal Tryd.prog 94 := cal_of Tryd.func94 (by kernel_rfl) rfl
theorem cal_112 : Cal Tryd.prog 112 := cal_of Tryd.func112 (by kernel_rfl) rfl
theorem cal_113 : Cal Tryd.prog 113 := cal_of Tryd.func113 (by kernel_rfl) rfl
theorem ty_3 : TyF Tryd.prog 3 false 1 8 (some (.int .i64 ((0 : Nat) : Int))) := ⟨by kernel_rfl, by kernel_rfl⟩
theorem ty_102 : TyF Tryd.prog 102 true 5 40 (some (.agg #[.int .i64 ((0 : Nat) : Int), .int .i64 ((0 : Nat) : Int), .int .i64 ((0 : Nat) : Int), .int .i64 ((0 : Nat) : Int), .int .i64 ((0 : Nat) : Int)])) := ⟨by kernel_rfl, by kernel_rfl⟩

theorem c_language_subtag (s : List UInt8) (d : Bool) (hs : s.length ≤ 1000000) : Con Tryd.prog 113 #[str (s), .bool (d)] [] (fun _ : Unit => .bool (subOk d s)) (fun _ => []) := by
  refine con_of_J (args := [str (s), .bool (d)]) (n := 41) Tryd.func113 rfl (Nat.le_of_ble_eq_true rfl) rfl (fun w0 I0 m0 => ?_)
  show J _ [(0, str (s)), (1, .bool (d))] [] _
  refine jc_seq ?_
  refine jc_region ?_
  refine jo_pure rfl (pr_assign rfl) ?_
  refine jo_nil ?_
  refine jq_then ?_
  refine jc_seq ?_
  refine jc_seq ?_
  refine jc_region ?_
  refine jo_pure rfl (pr_move rfl) ?_
  refine jo_callp cal_59 (c_ascii_Lower s (by omega)) ⟨rfl, trivial⟩ rfl (trivial) (fun _ => ?_)
  refine jo_s2b rfl Tryd.underlying9 Tryd.underlying56 Tryd.underlying5 rfl (by rw [lower_length]; omega) (fun g1 cap1 => ?_)
  refine jo_pure rfl (pr_len rfl Tryd.underlying56) ?_
  refine jo_pure rfl (pr_move rfl) ?_
  refine jo_nil ?_
  refine jq_then ?_
  refine jc_block ?_
  refine jc_loop (fun (i : Nat) => [(0, str (s)), (1, .bool (d)), (9, .slice (some ⟨g1, 0, none⟩) ((lower s).length) (cap1)), (10, .int .i64 (((lower s).length : Nat) : Int)), (11, .int .i64 ((i : Nat) : Int))]) (fun (i : Nat) => [.rowm g1 (cap1) 5 .u8 (lower s)]) (fun (i : Nat) => i ≤ (lower s).length ∧ ((lower s).take i).all (lowOk d) = true) (fun (i : Nat) => (lower s).length - i) 0 (⟨Nat.zero_le _, rfl⟩) (⟨rfl, rfl, rfl, rfl, rfl, trivial⟩) (fun _ h => h) (fun i hinv => ?_)
  refine jc_seq ?_
  refine jc_region ?_
  refine jo_pure rfl (pr_lssN (m := i) (n := (lower s).length) rfl rfl) ?_
  refine jo_nil ?_
  refine jq_then ?_
  refine jc_seq ?_
  refine jc_cond rfl (fun h1b => ?_) (fun h1b => ?_)
  · have h1 := of_decide_eq_true h1b
    refine jc_skip ?_
    refine jq_then ?_
    refine jc_seq ?_
    refine jc_block ?_
    refine jc_seq ?_
    refine jc_region ?_
    refine jo_pure rfl (pr_idx (i := i) (i) rfl rfl Tryd.underlying56 ty_5 (by omega) (by first | rfl | (simp only [Nat.zero_add, Nat.mul_one]))) ?_
    refine jo_pure rfl (pr_load_rowD (byte ((lower s).getD i 0)) true rfl ty_5 rfl rfl (.head _) (by omega) (by first | rfl | exact Nat.mul_one _) rfl) ?_
    refine jo_pure rfl (pr_assign rfl) ?_
    refine jo_nil ?_
    refine jq_then ?_
    refine jc_seq ?_
    refine jc_region ?_
    refine jo_pure rfl (pr_move rfl) ?_
    refine jo_pure rfl (pr_blss (n := 97) rfl rfl) ?_
    refine jo_pure rfl (pr_move rfl) ?_
    refine jo_gpure (j := 2) (want := false) rfl rfl rfl rfl (fun hg => pr_move rfl) ?_
    refine jo_gpure (j := 2) (want := false) rfl rfl rfl rfl (fun hg => pr_bgtr (n := 122) (evg rfl hg) rfl) ?_
    refine jo_pure rfl (pr_pick_or rfl rfl rfl) ?_
    refine jo_pure rfl (pr_move rfl) ?_
    refine jo_gpure (j := 6) (want := true) rfl rfl rfl rfl (fun hg => pr_move rfl) ?_
    refine jo_gpure (j := 6) (want := true) rfl rfl rfl rfl (fun hg => pr_not (evg rfl hg)) ?_
    refine jo_gpure (j := 6) (want := true) rfl rfl rfl rfl (fun hg => pr_move (evg rfl hg)) ?_
    refine jo_gpure2 (j := 9) (want := false) rfl rfl rfl rfl (fun hg => pr_move rfl) ?_
    refine jo_gpure2 (j := 9) (want := false) rfl rfl rfl rfl (fun hg => pr_blss (n := 48) (evg rfl hg) rfl) ?_
    refine jo_gpure (j := 6) (want := true) rfl rfl rfl rfl (fun hg => pr_pick_or (evg rfl hg) rfl (evg2 rfl hg)) ?_
    refine jo_gpure (j := 6) (want := true) rfl rfl rfl rfl (fun hg => pr_move (evg rfl hg)) ?_
    refine jo_gpure2 (j := 13) (want := false) rfl rfl rfl rfl (fun hg => pr_move rfl) ?_
    refine jo_gpure2 (j := 13) (want := false) rfl rfl rfl rfl (fun hg => pr_bgtr (n := 57) (evg rfl hg) rfl) ?_
    refine jo_gpure (j := 6) (want := true) rfl rfl rfl rfl (fun hg => pr_pick_or (evg rfl hg) rfl (evg2 rfl hg)) ?_
    refine jo_pure rfl (pr_pick_and rfl rfl rfl) ?_
    refine jo_nil ?_
    refine jq_then ?_
    refine jc_cond rfl (fun h2b => ?_) (fun h2b => ?_)
    · have h2 := (fun q => And.imp (fun q => Or.imp of_decide_eq_true of_decide_eq_true (bt_or q)) (fun q => Or.imp (fun q => Or.imp (fun q => id (bt_not q)) of_decide_eq_true (bt_or q)) of_decide_eq_true (bt_or q)) (bt_and q)) h2b
      refine jc_seq ?_
      refine jc_region ?_
      refine jo_pure rfl (pr_assign rfl) ?_
      refine jo_nil ?_
      refine jq_then ?_
      refine jc_ret ?_
      refine jq_in_ret ?_
      refine jq_then_ret ?_
      refine jq_then_ret ?_
      refine jq_in_ret ?_
      refine jq_then_ret ?_
      refine j_drop ?_
      exact jq_ret1 rfl () rfl (show (.bool (subOk d s) : Value) = (.bool (false)) from congrArg Value.bool (by rw [sub_bad h1 (by have h9 := h2b; revert h9; unfold lowOk digB; cases d <;> simp <;> grind)])) (fun _ h => h)
    · have h2 := (fun q => Or.imp (fun q => And.imp of_decide_eq_false of_decide_eq_false (bf_or q)) (fun q => And.imp (fun q => And.imp (fun q => id (bf_not q)) of_decide_eq_false (bf_or q)) of_decide_eq_false (bf_or q)) (bf_and q)) h2b
      refine jc_skip ?_
      refine jq_in_normal ?_
      refine jq_then ?_
      refine jc_region ?_
      refine jo_pure rfl (pr_addN (m := i) (n := 1) rfl rfl (by have := lower_length s; omega)) ?_
      refine jo_pure rfl (pr_move rfl) ?_
      refine jo_nil ?_
      refine jq_round' (i + 1) (by (try dsimp only); exact (⟨by omega, all_step (dd := 0) h1 hinv.2 (by have h9 := h2b; simp only [lowOk, digB, Bool.and_eq_false_iff, Bool.or_eq_false_iff, decide_eq_false_iff_not] at h9; unfold lowOk digB; simp only [Bool.or_eq_true, Bool.and_eq_true, decide_eq_true_eq]; revert h9; cases d <;> simp <;> grind)⟩)) (by (try dsimp only); exact (by omega)) ⟨rfl, rfl, rfl, rfl, rfl, trivial⟩ (fun _ h => h)
  · have h1 := of_decide_eq_false h1b
    refine jc_exit ?_
    refine jq_then_exit ?_
    refine jq_then_exit ?_
    refine jq_in_hit ?_
    refine jq_then ?_
    refine jc_seq ?_
    refine jc_region ?_
    refine jo_pure rfl (pr_move rfl) ?_
    refine jo_pure rfl (pr_sneq rfl rfl) ?_
    refine jo_pure rfl (pr_move rfl) ?_
    refine jo_gpure (j := 2) (want := true) rfl rfl rfl rfl (fun hg => pr_move rfl) ?_
    refine jo_gpure (j := 2) (want := true) rfl rfl rfl rfl (fun hg => pr_slen (evg rfl hg) Tryd.underlying9) ?_
    refine jo_gpure (j := 2) (want := true) rfl rfl rfl rfl (fun hg => pr_leqN (m := s.length) (n := 8) (evg rfl hg) rfl) ?_
    refine jo_pure rfl (pr_pick_and rfl rfl rfl) ?_
    refine jo_pure rfl (pr_assign rfl) ?_
    refine jo_nil ?_
    refine jq_then ?_
    refine jc_ret ?_
    refine j_drop ?_
    exact jq_ret1 rfl () rfl (show (.bool (subOk d s) : Value) = (.bool (((!decide ((s : List UInt8) = [])) && decide ((s.length : Nat) ≤ 8)))) from congrArg Value.bool (by rw [sub_end (by have := hinv.2; rwa [take_over (by omega)] at this)])) (fun _ h => h)

theorem c_language_Tag (s : List UInt8) (hs : s.length ≤ 1000000) : Con Tryd.prog 94 #[str (s)] [] (fun _ : Unit => .bool (tagF s)) (fun _ => []) := by
  refine con_of_J (args := [str (s)]) (n := 19) Tryd.func94 rfl (Nat.le_of_ble_eq_true rfl) rfl (fun w0 I0 m0 => ?_)
  show J _ [(0, str (s))] [] _
  refine jc_seq ?_
  refine jc_region ?_
  refine jo_pure rfl (pr_assign rfl) ?_
  refine jo_nil ?_
  refine jq_then ?_
  refine jc_seq ?_
  refine jc_seq ?_
  refine jc_region ?_
  refine jo_pure rfl (pr_move rfl) ?_
  refine jo_callp cal_112 (c_strings_Split s [45] 45 (by first | omega | rfl | (have := getD_len (i := i) (subt_mem s); exact Nat.le_trans this hs)) (by first | omega | rfl | (have := getD_len (i := i) (subt_mem s); exact Nat.le_trans this hs))) ⟨rfl, rfl, trivial⟩ rfl (trivial) (fun r1 => ?_)
  show J _ _ [.row (r1) 9 .str (cutAt 45 [] s)] _
  refine jo_pure rfl (pr_len_row rfl (.head _) Tryd.underlying22) ?_
  refine jo_pure rfl (pr_move rfl) ?_
  refine jo_nil ?_
  refine jq_then ?_
  refine jc_block ?_
  refine jc_loop (fun (i : Nat) => [(6, r1), (7, .int .i64 (((cutAt 45 [] s).length : Nat) : Int)), (8, .int .i64 ((i : Nat) : Int))]) (fun (i : Nat) => [.row (r1) 9 .str (cutAt 45 [] s)]) (fun (i : Nat) => i ≤ (cutAt 45 [] s).length ∧ (cutAt 45 [] s).length ≤ s.length + 1 ∧ ∀ k : Nat, k < i → subOk (decide (0 < k)) ((cutAt 45 [] s).getD k []) = true) (fun (i : Nat) => (cutAt 45 [] s).length - i) 0 (⟨Nat.zero_le _, subt_length s, fun k hk => absurd hk (Nat.not_lt_zero _)⟩) (⟨rfl, rfl, rfl, trivial⟩) (fun _ h => h) (fun i hinv => ?_)
  refine jc_seq ?_
  refine jc_region ?_
  refine jo_pure rfl (pr_lssN (m := i) (n := (cutAt 45 [] s).length) rfl rfl) ?_
  refine jo_nil ?_
  refine jq_then ?_
  refine jc_seq ?_
  refine jc_cond rfl (fun h1b => ?_) (fun h1b => ?_)
  · have h1 := of_decide_eq_true h1b
    refine jc_skip ?_
    refine jq_then ?_
    refine jc_seq ?_
    refine jc_block ?_
    refine jc_seq ?_
    refine jc_region ?_
    refine jo_pure rfl (pr_move rfl) ?_
    refine jo_pure rfl (pr_idx_row (i := i) rfl (.head _) rfl Tryd.underlying22 ty_9 (by omega)) ?_
    refine jo_pure rfl (pr_load_elem_row (i := i) (str ((cutAt 45 [] s).getD i [])) rfl (.head _) ty_9 rfl rfl (by omega) rfl) ?_
    refine jo_pure rfl (pr_assign rfl) ?_
    refine jo_pure rfl (pr_assign rfl) ?_
    refine jo_nil ?_
    refine jq_then ?_
    refine jc_seq ?_
    refine jc_region ?_
    refine jo_pure rfl (pr_move rfl) ?_
    refine jo_pure rfl (pr_move rfl) ?_
    refine jo_pure rfl (pr_gtrN (m := i) (n := 0) rfl rfl) ?_
    refine jo_callp cal_113 (c_language_subtag ((cutAt 45 [] s).getD i []) (decide ((0 : Nat) < i)) (by first | omega | rfl | (have := getD_len (i := i) (subt_mem s); exact Nat.le_trans this hs))) ⟨rfl, rfl, trivial⟩ rfl (trivial) (fun _ => ?_)
    refine jo_pure rfl (pr_not rfl) ?_
    refine jo_nil ?_
    refine jq_then ?_
    refine jc_cond rfl (fun h2b => ?_) (fun h2b => ?_)
    · have h2 := (fun q => id (bt_not q)) h2b
      refine jc_seq ?_
      refine jc_region ?_
      refine jo_pure rfl (pr_assign rfl) ?_
      refine jo_nil ?_
      refine jq_then ?_
      refine jc_ret ?_
      refine jq_in_ret ?_
      refine jq_then_ret ?_
      refine jq_then_ret ?_
      refine jq_in_ret ?_
      refine jq_then_ret ?_
      refine j_drop ?_
      exact jq_ret1 rfl () rfl (show (.bool (tagF s) : Value) = (.bool (false)) from congrArg Value.bool (by rw [tag_bad (s := s) h1 h2])) (fun _ h => h)
    · have h2 := (fun q => id (bf_not q)) h2b
      refine jc_skip ?_
      refine jq_in_normal ?_
      refine jq_then ?_
      refine jc_region ?_
      refine jo_pure rfl (pr_addN (m := i) (n := 1) rfl rfl (by omega)) ?_
      refine jo_pure rfl (pr_move rfl) ?_
      refine jo_nil ?_
      refine jq_round' (i + 1) (by (try dsimp only); exact (⟨by omega, hinv.2.1, fun k hk => by rcases Nat.lt_or_ge k i with q | q; exact hinv.2.2 k q; have e : k = i := (by omega); rw [e]; exact h2⟩)) (by (try dsimp only); exact (by omega)) ⟨rfl, rfl, rfl, trivial⟩ (fun _ h => h)
  · have h1 := of_decide_eq_false h1b
    refine jc_exit ?_
    refine jq_then_exit ?_
    refine jq_then_exit ?_
    refine jq_in_hit ?_
    refine jq_then ?_
    refine jc_seq ?_
    refine jc_region ?_
    refine jo_pure rfl (pr_assign rfl) ?_
    refine jo_nil ?_
    refine jq_then ?_
    refine jc_ret ?_
    refine j_drop ?_
    exact jq_ret1 rfl () rfl (show (.bool (tagF s) : Value) = (.bool (true)) from congrArg Value.bool (by rw [tag_end (s := s) (fun k hk => hinv.2.2 k (by have hk2 : k < (cutAt 45 [] s).length := hk; omega))])) (fun _ h => h)

theorem c_language_Range (s : List UInt8) (hs : s.length ≤ 1000000) : Con Tryd.prog 91 #[str (s)] [] (fun _ : Unit => .bool (rangeL s)) (fun _ => []) := by
  refine con_of_J (args := [str (s)]) (n := 9) Tryd.func91 rfl (Nat.le_of_ble_eq_true rfl) rfl (fun w0 I0 m0 => ?_)
  show J _ [(0, str (s))] [] _
  refine jc_seq ?_
  refine jc_region ?_
  refine jo_pure rfl (pr_assign rfl) ?_
  refine jo_nil ?_
  refine jq_then ?_
  refine jc_seq ?_
  refine jc_region ?_
  refine jo_pure rfl (pr_move rfl) ?_
  refine jo_pure rfl (pr_seql rfl rfl) ?_
  refine jo_pure rfl (pr_move rfl) ?_
  refine jo_gpure (j := 2) (want := false) rfl rfl rfl rfl (fun hg => pr_move rfl) ?_
  refine jo_gcall (j := 2) (want := false) rfl rfl rfl cal_94 (fun hg => c_language_Tag s (by omega)) (fun hg => ⟨evg rfl hg, trivial⟩) rfl (fun _ => trivial) ?_
  refine jo_pure rfl (pr_pick_or rfl rfl rfl) ?_
  refine jo_pure rfl (pr_assign rfl) ?_
  refine jo_nil ?_
  refine jq_then ?_
  refine jc_ret ?_
  exact jq_ret1 rfl () rfl (show (.bool (rangeL s) : Value) = (.bool ((decide ((s : List UInt8) = [42]) || tagF s))) from rfl) (fun _ h => h)

theorem c_qvalue_Parse (s : List UInt8) (hs : s.length ≤ 1000000) : Con Tryd.prog 57 #[str (s)] [] (fun _ : Unit => .tuple #[.int .i64 (((parseQ s).1 : Nat) : Int), .bool ((parseQ s).2)]) (fun _ => []) := by
  refine con_of_J (args := [str (s)]) (n := 70) Tryd.func57 rfl (Nat.le_of_ble_eq_true rfl) rfl (fun w0 I0 m0 => ?_)
  show J _ [(0, str (s))] [] _
  refine jc_seq ?_
  refine jc_region ?_
  refine jo_pure rfl (pr_assign rfl) ?_
  refine jo_pure rfl (pr_assign rfl) ?_
  refine jo_nil ?_
  refine jq_then ?_
  refine jc_seq ?_
  refine jc_seq ?_
  refine jc_region ?_
  refine jo_pure rfl (pr_move rfl) ?_
  refine jo_pure rfl (pr_seql rfl rfl) ?_
  refine jo_pure rfl (pr_move rfl) ?_
  refine jo_gpure (j := 2) (want := false) rfl rfl rfl rfl (fun hg => pr_move rfl) ?_
  refine jo_gpure (j := 2) (want := false) rfl rfl rfl rfl (fun hg => pr_slen (evg rfl hg) Tryd.underlying9) ?_
  refine jo_gpure (j := 2) (want := false) rfl rfl rfl rfl (fun hg => pr_gtrN (m := s.length) (n := 5) (evg rfl hg) rfl) ?_
  refine jo_pure rfl (pr_pick_or rfl rfl rfl) ?_
  refine jo_pure rfl (pr_move rfl) ?_
  refine jo_gpure (j := 7) (want := false) rfl rfl rfl rfl (fun hg => pr_move rfl) ?_
  refine jo_gpure (j := 7) (want := false) rfl rfl rfl rfl (fun hg => pr_sindex (i := 0) (evg rfl hg) rfl Tryd.underlying9 (by first | omega | (simp at hg; have := List.length_pos_iff.2 hg.1; omega) | (simp at hg; have := List.length_pos_iff.2 hg.1.1; omega) | (simp at hg; have := List.length_pos_iff.2 hg.1.1.1; omega) | (simp at hg; omega))) ?_
  refine jo_gpure (j := 7) (want := false) rfl rfl rfl rfl (fun hg => pr_bneq (n := 48) (evg rfl hg) rfl) ?_
  refine jo_gpure (j := 7) (want := false) rfl rfl rfl rfl (fun hg => pr_move (evg rfl hg)) ?_
  refine jo_gpure2 (j := 11) (want := true) rfl rfl rfl rfl (fun hg => pr_move rfl) ?_
  refine jo_gpure2 (j := 11) (want := true) rfl rfl rfl rfl (fun hg => pr_sindex (i := 0) (evg rfl hg) rfl Tryd.underlying9 (by first | omega | (simp at hg; have := List.length_pos_iff.2 hg.1; omega) | (simp at hg; have := List.length_pos_iff.2 hg.1.1; omega) | (simp at hg; have := List.length_pos_iff.2 hg.1.1.1; omega) | (simp at hg; omega))) ?_
  refine jo_gpure2 (j := 11) (want := true) rfl rfl rfl rfl (fun hg => pr_bneq (n := 49) (evg rfl hg) rfl) ?_
  refine jo_gpure (j := 7) (want := false) rfl rfl rfl rfl (fun hg => pr_pick_and (evg rfl hg) (evg2 rfl hg) rfl) ?_
  refine jo_pure rfl (pr_pick_or rfl rfl rfl) ?_
  refine jo_pure rfl (pr_move rfl) ?_
  refine jo_gpure (j := 17) (want := false) rfl rfl rfl rfl (fun hg => pr_move rfl) ?_
  refine jo_gpure (j := 17) (want := false) rfl rfl rfl rfl (fun hg => pr_slen (evg rfl hg) Tryd.underlying9) ?_
  refine jo_gpure (j := 17) (want := false) rfl rfl rfl rfl (fun hg => pr_gtrN (m := s.length) (n := 1) (evg rfl hg) rfl) ?_
  refine jo_gpure (j := 17) (want := false) rfl rfl rfl rfl (fun hg => pr_move (evg rfl hg)) ?_
  refine jo_gpure2 (j := 21) (want := true) rfl rfl rfl rfl (fun hg => pr_move rfl) ?_
  refine jo_gpure2 (j := 21) (want := true) rfl rfl rfl rfl (fun hg => pr_sindex (i := 1) (evg rfl hg) rfl Tryd.underlying9 (by first | omega | (simp at hg; have := List.length_pos_iff.2 hg.1; omega) | (simp at hg; have := List.length_pos_iff.2 hg.1.1; omega) | (simp at hg; have := List.length_pos_iff.2 hg.1.1.1; omega) | (simp at hg; omega))) ?_
  refine jo_gpure2 (j := 21) (want := true) rfl rfl rfl rfl (fun hg => pr_bneq (n := 46) (evg rfl hg) rfl) ?_
  refine jo_gpure (j := 17) (want := false) rfl rfl rfl rfl (fun hg => pr_pick_and (evg rfl hg) (evg2 rfl hg) rfl) ?_
  refine jo_pure rfl (pr_pick_or rfl rfl rfl) ?_
  refine jo_nil ?_
  refine jq_then ?_
  refine jc_cond rfl (fun h1b => ?_) (fun h1b => ?_)
  · have h1 := (fun q => Or.imp (fun q => Or.imp (fun q => Or.imp of_decide_eq_true of_decide_eq_true (bt_or q)) (fun q => And.imp (fun q => of_decide_eq_false (bt_not q)) (fun q => of_decide_eq_false (bt_not q)) (bt_and q)) (bt_or q)) (fun q => And.imp of_decide_eq_true (fun q => of_decide_eq_false (bt_not q)) (bt_and q)) (bt_or q)) h1b
    refine jc_seq ?_
    refine jc_region ?_
    refine jo_pure rfl (pr_assign rfl) ?_
    refine jo_pure rfl (pr_assign rfl) ?_
    refine jo_nil ?_
    refine jq_then ?_
    refine jc_ret ?_
    refine jq_then_ret ?_
    exact jq_rets (rs := [.tmp 2, .tmp 3]) (vs := [.int .i64 ((0 : Nat) : Int), .bool (false)]) rfl () ⟨resV_tmp rfl, resV_tmp rfl, trivial⟩ rfl (show (.tuple #[.int .i64 (((parseQ s).1 : Nat) : Int), .bool ((parseQ s).2)] : Value) = (.tuple #[.int .i64 ((0 : Nat) : Int), .bool (false)]) from by rw [parseQ_bad (show badQ s = true from h1b)]) (fun _ h => h)
  · have h1 := (fun q => And.imp (fun q => And.imp (fun q => And.imp of_decide_eq_false of_decide_eq_false (bf_or q)) (fun q => Or.imp (fun q => of_decide_eq_true (bf_not q)) (fun q => of_decide_eq_true (bf_not q)) (bf_and q)) (bf_or q)) (fun q => Or.imp of_decide_eq_false (fun q => of_decide_eq_true (bf_not q)) (bf_and q)) (bf_or q)) h1b
    have hbl := badQ_len (show badQ s = false from h1b)
    refine jc_skip ?_
    refine jq_then ?_
    refine jc_seq ?_
    refine jc_region ?_
    refine jo_pure rfl (pr_build [(0, .int .i64 ((1000 : Nat) : Int)), (1, .int .i64 ((0 : Nat) : Int)), (2, .int .i64 ((100 : Nat) : Int)), (3, .int .i64 ((10 : Nat) : Int)), (4, .int .i64 ((1 : Nat) : Int))] [.int .i64 ((1000 : Nat) : Int), .int .i64 ((0 : Nat) : Int), .int .i64 ((100 : Nat) : Int), .int .i64 ((10 : Nat) : Int), .int .i64 ((1 : Nat) : Int)] (fun a hf => by simp only [List.map_toArray, List.map_cons, List.map_nil] <;> rfl) (by kernel_rfl)) ?_
    refine jo_alloc_arr (t := (.int .i64)) ty_102 (List.replicate 5 0) (by kernel_rfl) rfl (by rw [List.length_replicate]; simp [maxLen]) rfl (fun b1 => ?_)
    refine jo_store_arr (ys := [((1000 : Nat) : Int), ((0 : Nat) : Int), ((100 : Nat) : Int), ((10 : Nat) : Int), ((1 : Nat) : Int)]) rfl rfl ty_102 rfl (by simp) (by simp) (by simp [Ty.n]) ?_
    refine jo_nil ?_
    refine jq_then ?_
    refine jc_seq ?_
    refine jc_region ?_
    refine jo_pure rfl (pr_assign rfl) ?_
    refine jo_nil ?_
    refine jq_then ?_
    refine jc_seq ?_
    refine jc_seq ?_
    refine jc_region ?_
    refine jo_pure rfl (pr_move rfl) ?_
    refine jo_pure rfl (pr_slen rfl Tryd.underlying9) ?_
    refine jo_pure rfl (pr_slice_arr (n := 5) (h := s.length) rfl rfl Tryd.underlying102 ty_3 (by omega)) ?_
    refine jo_pure rfl (pr_len rfl Tryd.underlying59) ?_
    refine jo_pure rfl (pr_move rfl) ?_
    refine jo_nil ?_
    refine jq_then ?_
    refine jc_block ?_
    refine jc_loop2 (fun (i : Nat) (q : Nat) => [(0, str (s)), (5, .int .i64 ((q : Nat) : Int)), (38, .slice (some ⟨b1, 0, none⟩) (s.length) (5)), (39, .int .i64 ((s.length : Nat) : Int)), (40, .int .i64 ((i : Nat) : Int))]) (fun (i : Nat) (q : Nat) => [.rowg b1 ((List.replicate 5 0).length) 102 (.int .i64) ([((1000 : Nat) : Int), ((0 : Nat) : Int), ((100 : Nat) : Int), ((10 : Nat) : Int), ((1 : Nat) : Int)])]) (fun (i : Nat) (q : Nat) => i ≤ s.length ∧ q = sumQ s i ∧ q ≤ 255000 * i ∧ ((s.take i).drop 2).all digB = true) (fun (i : Nat) (q : Nat) => s.length - i) 0 0 (⟨Nat.zero_le _, rfl, Nat.le_refl _, rfl⟩) (⟨rfl, rfl, rfl, rfl, rfl, trivial⟩) (fun _ h => h) (fun i q hinv => ?_)
    refine jc_seq ?_
    refine jc_region ?_
    refine jo_pure rfl (pr_lssN (m := i) (n := s.length) rfl rfl) ?_
    refine jo_nil ?_
    refine jq_then ?_
    refine jc_seq ?_
    refine jc_cond rfl (fun h2b => ?_) (fun h2b => ?_)
    · have h2 := of_decide_eq_true h2b
      refine jc_skip ?_
      refine jq_then ?_
      refine jc_seq ?_
      refine jc_block ?_
      refine jc_seq ?_
      refine jc_region ?_
      refine jo_pure rfl (pr_move rfl) ?_
      refine jo_pure rfl (pr_idx (i := i) (i) rfl rfl Tryd.underlying59 ty_3 (by omega) (by first | rfl | (simp only [Nat.zero_add, Nat.mul_one]))) ?_
      refine jo_pure rfl (pr_load_rowD (.int .i64 ([((1000 : Nat) : Int), ((0 : Nat) : Int), ((100 : Nat) : Int), ((10 : Nat) : Int), ((1 : Nat) : Int)].getD i 0)) false rfl ty_3 rfl rfl (.head _) (by simp; omega) (by first | rfl | exact Nat.mul_one _) rfl) ?_
      refine jo_pure rfl (pr_assign rfl) ?_
      refine jo_pure rfl (pr_assign rfl) ?_
      refine jo_nil ?_
      refine jq_then ?_
      refine jc_seq ?_
      refine jc_seq ?_
      refine jc_region ?_
      refine jo_pure rfl (pr_move rfl) ?_
      refine jo_pure rfl (pr_eqlN (m := i) (n := 1) rfl rfl) ?_
      refine jo_nil ?_
      refine jq_then ?_
      refine jc_cond rfl (fun h3b => ?_) (fun h3b => ?_)
      · have h3 := of_decide_eq_true h3b
        refine jc_exit ?_
        refine jq_then_exit ?_
        refine jq_in_hit ?_
        refine jq_then ?_
        refine jc_region ?_
        refine jo_pure rfl (pr_addN (m := i) (n := 1) rfl rfl (by have := wd_le i (s.getD i 0); unfold digV at this; omega)) ?_
        refine jo_pure rfl (pr_move rfl) ?_
        refine jo_nil ?_
        refine jq_round' ((i + 1), q) (by (try dsimp only); exact (⟨by omega, by rw [h3]; exact (by rw [sumQ_one]; exact h3 ▸ hinv.2.1), by omega, by rw [h3]; exact dig_one⟩)) (by (try dsimp only); exact (by omega)) ⟨rfl, rfl, rfl, rfl, rfl, trivial⟩ (fun _ h => h)
      · have h3 := of_decide_eq_false h3b
        rw [show ([((1000 : Nat) : Int), ((0 : Nat) : Int), ((100 : Nat) : Int), ((10 : Nat) : Int), ((1 : Nat) : Int)].getD i 0 : Int) = ((wq i : Nat) : Int) from wq_get (by omega)]
        refine jc_skip ?_
        refine jq_then ?_
        refine jc_seq ?_
        refine jc_seq ?_
        refine jc_region ?_
        refine jo_pure rfl (pr_move rfl) ?_
        refine jo_pure rfl (pr_move rfl) ?_
        refine jo_pure rfl (pr_sindex (i := i) rfl rfl Tryd.underlying9 (by first | omega | (simp at hg; have := List.length_pos_iff.2 hg.1; omega) | (simp at hg; have := List.length_pos_iff.2 hg.1.1; omega) | (simp at hg; have := List.length_pos_iff.2 hg.1.1.1; omega) | (simp at hg; omega))) ?_
        refine jo_pure rfl (pr_blss (n := 48) rfl rfl) ?_
        refine jo_pure rfl (pr_move rfl) ?_
        refine jo_gpure (j := 4) (want := false) rfl rfl rfl rfl (fun hg => pr_move rfl) ?_
        refine jo_gpure (j := 4) (want := false) rfl rfl rfl rfl (fun hg => pr_move rfl) ?_
        refine jo_gpure (j := 4) (want := false) rfl rfl rfl rfl (fun hg => pr_sindex (i := i) (evg rfl hg) (evg rfl hg) Tryd.underlying9 (by first | omega | (simp at hg; have := List.length_pos_iff.2 hg.1; omega) | (simp at hg; have := List.length_pos_iff.2 hg.1.1; omega) | (simp at hg; have := List.length_pos_iff.2 hg.1.1.1; omega) | (simp at hg; omega))) ?_
        refine jo_gpure (j := 4) (want := false) rfl rfl rfl rfl (fun hg => pr_bgtr (n := 57) (evg rfl hg) rfl) ?_
        refine jo_pure rfl (pr_pick_or rfl rfl rfl) ?_
        refine jo_nil ?_
        refine jq_then ?_
        refine jc_cond rfl (fun h4b => ?_) (fun h4b => ?_)
        · have h4 := (fun q => Or.imp of_decide_eq_true of_decide_eq_true (bt_or q)) h4b
          refine jc_seq ?_
          refine jc_region ?_
          refine jo_pure rfl (pr_assign rfl) ?_
          refine jo_pure rfl (pr_assign rfl) ?_
          refine jo_nil ?_
          refine jq_then ?_
          refine jc_ret ?_
          refine jq_then_ret ?_
          refine jq_in_ret ?_
          refine jq_then_ret ?_
          refine jq_then_ret ?_
          refine jq_in_ret ?_
          refine jq_then_ret ?_
          refine j_drop ?_
          exact jq_rets (rs := [.tmp 2, .tmp 3]) (vs := [.int .i64 ((0 : Nat) : Int), .bool (false)]) rfl () ⟨resV_tmp rfl, resV_tmp rfl, trivial⟩ rfl (show (.tuple #[.int .i64 (((parseQ s).1 : Nat) : Int), .bool ((parseQ s).2)] : Value) = (.tuple #[.int .i64 ((0 : Nat) : Int), .bool (false)]) from by rw [parseQ_dig (show badQ s = false from h1b) h2 h3 (by have h9 := h4b; revert h9; unfold digB; simp; try grind)]) (fun _ h => h)
        · have h4 := (fun q => And.imp of_decide_eq_false of_decide_eq_false (bf_or q)) h4b
          refine jc_skip ?_
          refine jq_then ?_
          refine jc_region ?_
          refine jo_pure rfl (pr_move rfl) ?_
          refine jo_pure rfl (pr_move rfl) ?_
          refine jo_pure rfl (pr_move rfl) ?_
          refine jo_pure rfl (pr_move rfl) ?_
          refine jo_pure rfl (pr_sindex (i := i) rfl rfl Tryd.underlying9 (by first | omega | (simp at hg; have := List.length_pos_iff.2 hg.1; omega) | (simp at hg; have := List.length_pos_iff.2 hg.1.1; omega) | (simp at hg; have := List.length_pos_iff.2 hg.1.1.1; omega) | (simp at hg; omega))) ?_
          refine jo_pure rfl (pr_bsub (n := 48) rfl rfl) ?_
          refine jo_pure rfl (pr_u8_int rfl Tryd.underlying5 Tryd.underlying3) ?_
          refine jo_pure rfl (pr_mulN (m := wq i) (n := ((s.getD i 0) - 48).toNat) rfl rfl (by have := wd_le i (s.getD i 0); unfold digV at this; omega)) ?_
          refine jo_pure rfl (pr_addN (m := q) (n := (wq i) * (((s.getD i 0) - 48).toNat)) rfl rfl (by have := wd_le i (s.getD i 0); unfold digV at this; omega)) ?_
          refine jo_pure rfl (pr_assign rfl) ?_
          refine jo_nil ?_
          refine jq_in_normal ?_
          refine jq_then ?_
          refine jc_region ?_
          refine jo_pure rfl (pr_addN (m := i) (n := 1) rfl rfl (by have := wd_le i (s.getD i 0); unfold digV at this; omega)) ?_
          refine jo_pure rfl (pr_move rfl) ?_
          refine jo_nil ?_
          refine jq_round' ((i + 1), (q + ((wq i) * (((s.getD i 0) - 48).toNat)))) (by (try dsimp only); exact (⟨by omega, by rw [sumQ_step h3, hinv.2.1]; rfl, by have := wd_le i (s.getD i 0); unfold digV at this; omega, dig_step h2 (by have h9 := h4b; revert h9; unfold digB; simp) hinv.2.2.2⟩)) (by (try dsimp only); exact (by omega)) ⟨rfl, rfl, rfl, rfl, rfl, trivial⟩ (fun _ h => h)
    · have h2 := of_decide_eq_false h2b
      refine jc_exit ?_
      refine jq_then_exit ?_
      refine jq_then_exit ?_
      refine jq_in_hit ?_
      refine jq_then ?_
      refine jc_seq ?_
      refine jc_seq ?_
      refine jc_region ?_
      refine jo_pure rfl (pr_move rfl) ?_
      refine jo_pure rfl (pr_gtrN (m := q) (n := 1000) rfl rfl) ?_
      refine jo_nil ?_
      refine jq_then ?_
      refine jc_cond rfl (fun h5b => ?_) (fun h5b => ?_)
      · have h5 := of_decide_eq_true h5b
        refine jc_seq ?_
        refine jc_region ?_
        refine jo_pure rfl (pr_assign rfl) ?_
        refine jo_pure rfl (pr_assign rfl) ?_
        refine jo_nil ?_
        refine jq_then ?_
        refine jc_ret ?_
        refine jq_then_ret ?_
        refine j_drop ?_
        exact jq_rets (rs := [.tmp 2, .tmp 3]) (vs := [.int .i64 ((0 : Nat) : Int), .bool (false)]) rfl () ⟨resV_tmp rfl, resV_tmp rfl, trivial⟩ rfl (show (.tuple #[.int .i64 (((parseQ s).1 : Nat) : Int), .bool ((parseQ s).2)] : Value) = (.tuple #[.int .i64 ((0 : Nat) : Int), .bool (false)]) from by rw [parseQ_big (show badQ s = false from h1b) (digs_end (by omega) hinv.2.2.2) (by have := hinv.2.1; rw [show i = s.length by omega] at this; omega)]) (fun _ h => h)
      · have h5 := of_decide_eq_false h5b
        refine jc_skip ?_
        refine jq_then ?_
        refine jc_seq ?_
        refine jc_region ?_
        refine jo_pure rfl (pr_move rfl) ?_
        refine jo_pure rfl (pr_assign rfl) ?_
        refine jo_pure rfl (pr_assign rfl) ?_
        refine jo_nil ?_
        refine jq_then ?_
        refine jc_ret ?_
        refine j_drop ?_
        exact jq_rets (rs := [.tmp 2, .tmp 3]) (vs := [.int .i64 ((q : Nat) : Int), .bool (true)]) rfl () ⟨resV_tmp rfl, resV_tmp rfl, trivial⟩ rfl (show (.tuple #[.int .i64 (((parseQ s).1 : Nat) : Int), .bool ((parseQ s).2)] : Value) = (.tuple #[.int .i64 ((q : Nat) : Int), .bool (true)]) from by rw [parseQ_ok (show badQ s = false from h1b) (digs_end (by omega) hinv.2.2.2) (by have := hinv.2.1; rw [show i = s.length by omega] at this; omega), hinv.2.1, show i = s.length by omega]) (fun _ h => h)
end Go.Proofs.YtikllmfjgpmcnaaDoor
