/-
  Contracts of functions of the program: each returns what a plain function says, for every input within the bounds named. Conditions: the bounds.
-/
import Derived.Test.YtgahnjchpomcfaaGreatDoorRows
import Derived.Test.YtgahnjchpomcfaaGreatDoorXK3
namespace Go.Proofs.YtgahnjchpomcfaaGreatDoor
open Go Go.Sep
set_option linter.unusedSimpArgs false
set_option linter.unusedVariables false

open Go.Plain

theorem cal_12 : Cal Tryz.prog 12 := cal_of Tryz.func12 (by kernel_rfl) rfl
theorem cal_13 : Cal Tryz.prog 13 := cal_of Tryz.func13 (by kernel_rfl) rfl
theorem cal_18 : Cal Tryz.prog 18 := cal_of Tryz.func18 (by kernel_rfl) rfl
theorem cal_19 : Cal Tryz.prog 19 := cal_of Tryz.func19 (by kernel_rfl) rfl
theorem cal_20 : Cal Tryz.prog 20 := cal_of Tryz.func20 (by kernel_rfl) rfl
theorem cal_21 : Cal Tryz.prog 21 := cal_of Tryz.func21 (by kernel_rfl) rfl
theorem cal_22 : Cal Tryz.prog 22 := cal_of Tryz.func22 (by kernel_rfl) rfl
theorem cal_23 : Cal Tryz.prog 23 := cal_of Tryz.func23 (by kernel_rfl) rfl
theorem cal_24 : Cal Tryz.prog 24 := cal_of Tryz.func24 (by kernel_rfl) rfl
theorem cal_25 : Cal Tryz.prog 25 := cal_of Tryz.func25 (by kernel_rfl) rfl
theorem cal_26 : Cal Tryz.prog 26 := cal_of Tryz.func26 (by kernel_rfl) rfl
theorem cal_27 : Cal Tryz.prog 27 := cal_of Tryz.func27 (by kernel_rfl) rfl
theorem cal_28 : Cal Tryz.prog 28 := cal_of Tryz.func28 (by kernel_rfl) rfl
theorem cal_29 : Cal Tryz.prog 29 := cal_of Tryz.func29 (by kernel_rfl) rfl
theorem cal_30 : Cal Tryz.prog 30 := cal_of Tryz.func30 (by kernel_rfl) rfl
theorem cal_32 : Cal Tryz.prog 32 := cal_of Tryz.func32 (by kernel_rfl) rfl
theorem cal_36 : Cal Tryz.prog 36 := cal_of Tryz.func36 (by kernel_rfl) rfl
theorem cal_40 : Cal Tryz.prog 40 := cal_of Tryz.func40 (by kernel_rfl) rfl
theorem cal_41 : Cal Tryz.prog 41 := cal_of Tryz.func41 (by kernel_rfl) rfl
theorem cal_46 : Cal Tryz.prog 46 := cal_of Tryz.func46 (by kernel_rfl) rfl
theorem cal_47 : Cal Tryz.prog 47 := cal_of Tryz.func47 (by kernel_rfl) rfl
theorem cal_53 : Cal Tryz.prog 53 := cal_of Tryz.func53 (by kernel_rfl) rfl
theorem cal_56 : Cal Tryz.prog 56 := cal_of Tryz.func56 (by kernel_rfl) rfl
theorem cal_57 : Cal Tryz.prog 57 := cal_of Tryz.func57 (by kernel_rfl) rfl
theorem cal_59 : Cal Tryz.prog 59 := cal_of Tryz.func59 (by kernel_rfl) rfl
theorem cal_62 : Cal Tryz.prog 62 := cal_of Tryz.func62 (by kernel_rfl) rfl
theorem cal_64 : Cal Tryz.prog 64 := cal_of Tryz.func64 (by kernel_rfl) rfl
theorem cal_66 : Cal Tryz.prog 66 := cal_of Tryz.func66 (by kernel_rfl) rfl
theorem cal_67 : Cal Tryz.prog 67 := cal_of Tryz.func67 (by kernel_rfl) rfl
theorem cal_68 : Cal Tryz.prog 68 := cal_of Tryz.func68 (by kernel_rfl) rfl
theorem cal_71 : Cal Tryz.prog 71 := cal_of Tryz.func71 (by kernel_rfl) rfl
theorem cal_73 : Cal Tryz.prog 73 := cal_of Tryz.func73 (by kernel_rfl) rfl
theorem cal_74 : Cal Tryz.prog 74 := cal_of Tryz.func74 (by kernel_rfl) rfl

theorem c_ref10_Value (axis : List UInt8) (s : List UInt8) (ha : axis.length ≤ 1000000) (hs : s.length ≤ 300000) : Con Tryz.prog 28 #[str (axis), str (s)] [] (fun _ : Unit => .bool (valueF axis s)) (fun _ => []) := by
  refine con_of_J (args := [str (axis), str (s)]) (n := 88) Tryz.func28 rfl (Nat.le_of_ble_eq_true rfl) rfl (fun w0 I0 m0 => ?_)
  show J _ [(0, str (axis)), (1, str (s))] [] _
  refine jc_seq ?_
  refine jc_region ?_
  refine jo_pure rfl (pr_assign rfl) ?_
  refine jo_nil ?_
  refine jq_then ?_
  refine jc_seq ?_
  refine jc_seq ?_
  refine jc_region ?_
  refine jo_pure rfl (pr_move rfl) ?_
  refine jo_callp cal_32 (c_ref10_Kind axis (by omega)) ⟨rfl, trivial⟩ rfl (trivial) (fun _ => ?_)
  refine jo_nil ?_
  refine jq_then ?_
  refine jc_block ?_
  refine jc_seq ?_
  by_cases hk1 : kindF axis = 1
  · skip
    refine jc_region ?_
    refine jo_pure rfl (pr_eql (n := 1) rfl rfl) ?_
    refine jo_pure rfl (pr_assign rfl) ?_
    refine jo_nil ?_
    refine jq_then ?_
    refine jc_true rfl (decide_eq_true hk1) ?_
    refine jc_seq ?_
    refine jc_region ?_
    refine jo_pure rfl (pr_move rfl) ?_
    refine jo_callp cal_66 (c_ref10_ParseType s (by omega)) ⟨rfl, trivial⟩ rfl (trivial) (fun r1 => ?_)
    show J _ _ [.row (r1) 82 (.pair .str .str) ((parseT s).1.2.2)] _
    refine jo_pure rfl (pr_move rfl) ?_
    refine jo_pure rfl (pr_extract rfl rfl) ?_
    refine jo_pure rfl (pr_extract rfl rfl) ?_
    refine jo_alloc ty_79 [str ([]), str ([]), .slice none 0 0] rfl rfl (fun b1 => ?_)
    refine jo_storeV rfl rfl ty_79 [str ((parseT s).1.1), str ((parseT s).1.2.1), r1] (fun _ _ _ _ => rfl) rfl (fun w I m hs => by simp only [List.all_cons, List.all_nil, Bool.and_true, Bool.and_eq_true]; exact ⟨rfl, rfl, (SliceV.one (row_slice (.tail _ (.head _)) hs))⟩) [str ((parseT s).1.1), str ((parseT s).1.2.1), r1] rfl rfl ?_
    refine jo_pure rfl (pr_assign rfl) ?_
    refine jo_nil ?_
    refine jq_then ?_
    refine jc_seq ?_
    refine jc_seq ?_
    refine j_pull1 ?_
    refine j_pub_row ?_
    refine jc_region ?_
    refine jo_pure rfl (pr_assign rfl) ?_
    refine jo_nil ?_
    refine jq_then ?_
    refine jc_block ?_
    refine jc_loop2 (fun (i : Nat) (ok : Bool) => [(5, .pointer (some ⟨b1, 0, none⟩)), (6, .bool (ok)), (7, .int .i64 ((i : Nat) : Int))]) (fun (i : Nat) (ok : Bool) => [.imm (.list (.pair .str .str)) (r1) ((parseT s).1.2.2), .box b1 79 [str ((parseT s).1.1), str ((parseT s).1.2.1), r1]]) (fun (i : Nat) (ok : Bool) => i ≤ ((parseT s).1.2.2).length ∧ ok = ((parseT s).2 && parOk ((parseT s).1.2.2) i)) (fun (i : Nat) (ok : Bool) => ((parseT s).1.2.2).length - i) 0 ((parseT s).2) (⟨Nat.zero_le _, by rw [show parOk ((parseT s).1.2.2) 0 = true from rfl, Bool.and_true]⟩) (⟨rfl, rfl, rfl, trivial⟩) (fun _ h => h) (fun i ok hinv => ?_)
    refine jc_seq ?_
    refine jc_seq ?_
    refine jc_region ?_
    refine jo_pure rfl (pr_move rfl) ?_
    refine jo_pure rfl (pr_fieldAddr 2 rfl Tryz.underlying79 rfl ty_77 rfl rfl) ?_
    refine jo_pure rfl (pr_load_box (r1) rfl ty_77 (.tail _ (.head _)) rfl (by decide) rfl) ?_
    refine jo_pure rfl (pr_len_imm rfl (.head _) Tryz.underlying77) ?_
    refine jo_pure rfl (pr_lssN (m := i) (n := ((parseT s).1.2.2).length) rfl rfl) ?_
    refine jo_nil ?_
    refine jq_then ?_
    refine jc_cond rfl (fun h1b => ?_) (fun h1b => ?_)
    · have h1 := of_decide_eq_true h1b
      refine jc_skip ?_
      refine jq_then ?_
      refine jc_seq ?_
      refine jc_block ?_
      refine jc_seq ?_
      refine jc_seq ?_
      refine jc_region ?_
      refine jo_pure rfl (pr_assign rfl) ?_
      refine jo_nil ?_
      refine jq_then ?_
      refine jc_block ?_
      refine jc_loop2 (fun (k : Nat) (ok2 : Bool) => [(5, .pointer (some ⟨b1, 0, none⟩)), (6, .bool (ok2)), (7, .int .i64 ((i : Nat) : Int)), (8, .int .i64 ((k : Nat) : Int))]) (fun (k : Nat) (ok2 : Bool) => [.imm (.list (.pair .str .str)) (r1) ((parseT s).1.2.2), .box b1 79 [str ((parseT s).1.1), str ((parseT s).1.2.1), r1]]) (fun (k : Nat) (ok2 : Bool) => k ≤ i ∧ ok2 = (ok && !(((parseT s).1.2.2).take k).any (fun x => decide ((((parseT s).1.2.2).getD i ([], [])).1 = x.1)))) (fun (k : Nat) (ok2 : Bool) => i - k) 0 ok (⟨Nat.zero_le _, by simp⟩) (⟨rfl, rfl, rfl, rfl, trivial⟩) (fun _ h => h) (fun k ok2 hink => ?_)
      refine jc_seq ?_
      refine jc_seq ?_
      refine jc_region ?_
      refine jo_pure rfl (pr_move rfl) ?_
      refine jo_pure rfl (pr_move rfl) ?_
      refine jo_pure rfl (pr_lssN (m := k) (n := i) rfl rfl) ?_
      refine jo_nil ?_
      refine jq_then ?_
      refine jc_cond rfl (fun h2b => ?_) (fun h2b => ?_)
      · have h2 := of_decide_eq_true h2b
        refine jc_skip ?_
        refine jq_then ?_
        refine jc_seq ?_
        refine jc_block ?_
        refine jc_draws mixed (by kernel_rfl) ?_
        refine jd_pure rfl (pr_move rfl) ?_
        refine jd_pure rfl (pr_move rfl) ?_
        refine jd_gpure (j := 1) (want := true) rfl rfl rfl rfl (fun hg => pr_fieldAddr 2 rfl Tryz.underlying79 rfl ty_77 rfl rfl) ?_
        refine jd_gpure (j := 1) (want := true) rfl rfl rfl rfl (fun hg => pr_load_box (r1) (evg rfl hg) ty_77 (.tail _ (.head _)) rfl (by decide) rfl) ?_
        refine jd_gpure (j := 1) (want := true) rfl rfl rfl rfl (fun hg => pr_move rfl) ?_
        refine jd_gpure (j := 1) (want := true) rfl rfl rfl rfl (fun hg => pr_idx_imm (i := i) (evg rfl hg) (.head _) (evg rfl hg) Tryz.underlying77 ty_82 (by first | omega | (simp at hg; omega))) ?_
        refine jd_gpure (j := 1) (want := true) rfl rfl rfl rfl (fun hg => pr_fieldAddr_imm (i := i) (evg rfl hg) (.head _) Tryz.underlying82 rfl ty_9 rfl rfl (by first | omega | (simp at hg; omega))) ?_
        refine jd_gpure (j := 1) (want := true) rfl rfl rfl rfl (fun hg => pr_load_off_imm (i := i) (o := 0) (dd := ([], [])) (str ((((parseT s).1.2.2).getD i ([], [])).1)) (evg rfl hg) (.head _) ty_9 rfl (by decide) rfl (by first | omega | (simp at hg; omega)) rfl) ?_
        refine jd_gpure (j := 1) (want := true) rfl rfl rfl rfl (fun hg => pr_fieldAddr 2 rfl Tryz.underlying79 rfl ty_77 rfl rfl) ?_
        refine jd_gpure (j := 1) (want := true) rfl rfl rfl rfl (fun hg => pr_load_box (r1) (evg rfl hg) ty_77 (.tail _ (.head _)) rfl (by decide) rfl) ?_
        refine jd_gpure (j := 1) (want := true) rfl rfl rfl rfl (fun hg => pr_move rfl) ?_
        refine jd_gpure (j := 1) (want := true) rfl rfl rfl rfl (fun hg => pr_idx_imm (i := k) (evg rfl hg) (.head _) (evg rfl hg) Tryz.underlying77 ty_82 (by first | omega | (simp at hg; omega))) ?_
        refine jd_gpure (j := 1) (want := true) rfl rfl rfl rfl (fun hg => pr_fieldAddr_imm (i := k) (evg rfl hg) (.head _) Tryz.underlying82 rfl ty_9 rfl rfl (by first | omega | (simp at hg; omega))) ?_
        refine jd_gpure (j := 1) (want := true) rfl rfl rfl rfl (fun hg => pr_load_off_imm (i := k) (o := 0) (dd := ([], [])) (str ((((parseT s).1.2.2).getD k ([], [])).1)) (evg rfl hg) (.head _) ty_9 rfl (by decide) rfl (by first | omega | (simp at hg; omega)) rfl) ?_
        refine jd_gpure (j := 1) (want := true) rfl rfl rfl rfl (fun hg => pr_sneq (evg rfl hg) (evg rfl hg)) ?_
        refine jd_pure rfl (pr_pick_and rfl rfl rfl) ?_
        refine jd_pure rfl (pr_assign rfl) ?_
        refine jd_nil ?_
        refine jq_in_normal ?_
        refine jq_then ?_
        refine jc_region ?_
        refine jo_pure rfl (pr_move rfl) ?_
        refine jo_pure rfl (pr_addN (m := k) (n := 1) rfl rfl (by first | omega | (have := (parseT_len s).2.2.1; omega))) ?_
        refine jo_pure rfl (pr_assign rfl) ?_
        refine jo_nil ?_
        refine j_pull1 ?_
        refine j_pull1 ?_
        refine jq_round' ((k + 1), (ok2 && (!decide (((((parseT s).1.2.2).getD i ([], [])).1 : List UInt8) = (((parseT s).1.2.2).getD k ([], [])).1)))) (by (try dsimp only); exact (⟨by omega, by rw [any_next (dd := ([], [])) (by omega), hink.2, Bool.not_or, Bool.and_assoc]⟩)) (by (try dsimp only); exact (by omega)) ⟨rfl, rfl, rfl, rfl, trivial⟩ (fun _ h => h)
      · have h2 := of_decide_eq_false h2b
        refine jc_exit ?_
        refine jq_then_exit ?_
        refine jq_then_exit ?_
        refine jq_in_hit ?_
        refine jq_then ?_
        refine jc_region ?_
        refine jo_pure rfl (pr_move rfl) ?_
        refine jo_pure rfl (pr_move rfl) ?_
        refine jo_gpure (j := 1) (want := true) rfl rfl rfl rfl (fun hg => pr_fieldAddr 2 rfl Tryz.underlying79 rfl ty_77 rfl rfl) ?_
        refine jo_gpure (j := 1) (want := true) rfl rfl rfl rfl (fun hg => pr_load_box (r1) (evg rfl hg) ty_77 (.tail _ (.head _)) rfl (by decide) rfl) ?_
        refine jo_gpure (j := 1) (want := true) rfl rfl rfl rfl (fun hg => pr_move rfl) ?_
        refine jo_gpure (j := 1) (want := true) rfl rfl rfl rfl (fun hg => pr_idx_imm (i := i) (evg rfl hg) (.head _) (evg rfl hg) Tryz.underlying77 ty_82 (by first | omega | (simp at hg; omega))) ?_
        refine jo_gpure (j := 1) (want := true) rfl rfl rfl rfl (fun hg => pr_fieldAddr_imm (i := i) (evg rfl hg) (.head _) Tryz.underlying82 rfl ty_9 rfl rfl (by first | omega | (simp at hg; omega))) ?_
        refine jo_gpure (j := 1) (want := true) rfl rfl rfl rfl (fun hg => pr_load_off_imm (i := i) (o := 0) (dd := ([], [])) (str ((((parseT s).1.2.2).getD i ([], [])).1)) (evg rfl hg) (.head _) ty_9 rfl (by decide) rfl (by first | omega | (simp at hg; omega)) rfl) ?_
        refine jo_gpure (j := 1) (want := true) rfl rfl rfl rfl (fun hg => pr_sneq (evg rfl hg) rfl) ?_
        refine jo_pure rfl (pr_pick_and rfl rfl rfl) ?_
        refine jo_pure rfl (pr_assign rfl) ?_
        refine jo_nil ?_
        refine jq_in_normal ?_
        refine jq_then ?_
        refine jc_region ?_
        refine jo_pure rfl (pr_move rfl) ?_
        refine jo_pure rfl (pr_addN (m := i) (n := 1) rfl rfl (by first | omega | (have := (parseT_len s).2.2.1; omega))) ?_
        refine jo_pure rfl (pr_assign rfl) ?_
        refine jo_nil ?_
        refine j_pull1 ?_
        refine j_pull1 ?_
        refine jq_round' ((i + 1), (ok2 && (!decide (((((parseT s).1.2.2).getD i ([], [])).1 : List UInt8) = [113])))) (by (try dsimp only); exact (⟨by omega, by rw [parOk_step, ← Bool.and_assoc, ← hinv.2, hink.2, show k = i by omega, any_swap]; cases ok <;> cases decide ((((parseT s).1.2.2).getD i ([], [])).1 = [113]) <;> simp⟩)) (by (try dsimp only); exact (by omega)) ⟨rfl, rfl, rfl, trivial⟩ (fun _ h => h)
    · have h1 := of_decide_eq_false h1b
      refine jc_exit ?_
      refine jq_then_exit ?_
      refine jq_then_exit ?_
      refine jq_in_hit ?_
      refine jq_then ?_
      refine jc_seq ?_
      refine jc_region ?_
      refine jo_pure rfl (pr_move rfl) ?_
      refine jo_pure rfl (pr_assign rfl) ?_
      refine jo_nil ?_
      refine jq_then ?_
      refine jc_ret ?_
      refine jq_in_ret ?_
      refine jq_then_ret ?_
      refine j_drop ?_
      refine j_drop ?_
      exact jq_ret1 rfl () rfl (show (.bool (valueF axis s) : Value) = (.bool (ok)) from congrArg Value.bool (by rw [value_1 hk1, hinv.2, show i = ((parseT s).1.2.2).length by omega])) (fun _ h => h)
  · skip
    by_cases hk2 : kindF axis = 2
    · skip
      refine jc_region ?_
      refine jo_pure rfl (pr_eql (n := 1) rfl rfl) ?_
      refine jo_pure rfl (pr_assign rfl) ?_
      refine jo_nil ?_
      refine jq_then ?_
      refine jc_false rfl (decide_eq_false hk1) ?_
      refine jc_seq ?_
      refine jc_region ?_
      refine jo_pure rfl (pr_eql (n := 2) rfl rfl) ?_
      refine jo_pure rfl (pr_assign rfl) ?_
      refine jo_nil ?_
      refine jq_then ?_
      refine jc_true rfl (decide_eq_true hk2) ?_
      refine jc_seq ?_
      refine jc_region ?_
      refine jo_pure rfl (pr_move rfl) ?_
      refine jo_callp cal_67 (c_ref10_Tag s (by omega)) ⟨rfl, trivial⟩ rfl (trivial) (fun _ => ?_)
      refine jo_pure rfl (pr_assign rfl) ?_
      refine jo_nil ?_
      refine jq_then ?_
      refine jc_ret ?_
      refine jq_in_ret ?_
      refine jq_then_ret ?_
      exact jq_ret1 rfl () rfl (show (.bool (valueF axis s) : Value) = (.bool (tagF s)) from congrArg Value.bool (by rw [value_2 hk2])) (fun _ h => h)
    · skip
      by_cases hk3 : kindF axis = 3
      · skip
        refine jc_region ?_
        refine jo_pure rfl (pr_eql (n := 1) rfl rfl) ?_
        refine jo_pure rfl (pr_assign rfl) ?_
        refine jo_nil ?_
        refine jq_then ?_
        refine jc_false rfl (decide_eq_false hk1) ?_
        refine jc_seq ?_
        refine jc_region ?_
        refine jo_pure rfl (pr_eql (n := 2) rfl rfl) ?_
        refine jo_pure rfl (pr_assign rfl) ?_
        refine jo_nil ?_
        refine jq_then ?_
        refine jc_false rfl (decide_eq_false hk2) ?_
        refine jc_seq ?_
        refine jc_seq ?_
        refine jc_region ?_
        refine jo_pure rfl (pr_eql (n := 3) rfl rfl) ?_
        refine jo_pure rfl (pr_assign rfl) ?_
        refine jo_nil ?_
        refine jq_then ?_
        refine jc_true rfl (decide_eq_true hk3) ?_
        refine jc_skip ?_
        refine jq_then ?_
        refine jc_true rfl (decide_eq_true hk3) ?_
        refine jc_seq ?_
        refine jc_region ?_
        refine jo_pure rfl (pr_move rfl) ?_
        refine jo_callp cal_61 (c_ref01_Token s (by omega)) ⟨rfl, trivial⟩ rfl (trivial) (fun _ => ?_)
        refine jo_pure rfl (pr_move rfl) ?_
        refine jo_gpure (j := 2) (want := true) rfl rfl rfl rfl (fun hg => pr_move rfl) ?_
        refine jo_gpure (j := 2) (want := true) rfl rfl rfl rfl (fun hg => pr_sneq (evg rfl hg) rfl) ?_
        refine jo_pure rfl (pr_pick_and rfl rfl rfl) ?_
        refine jo_pure rfl (pr_assign rfl) ?_
        refine jo_nil ?_
        refine jq_then ?_
        refine jc_ret ?_
        refine jq_in_ret ?_
        refine jq_then_ret ?_
        exact jq_ret1 rfl () rfl (show (.bool (valueF axis s) : Value) = (.bool ((token s && (!decide ((s : List UInt8) = [42]))))) from congrArg Value.bool (by rw [value_3 (.inl hk3)])) (fun _ h => h)
      · skip
        by_cases hk4 : kindF axis = 4
        · skip
          refine jc_region ?_
          refine jo_pure rfl (pr_eql (n := 1) rfl rfl) ?_
          refine jo_pure rfl (pr_assign rfl) ?_
          refine jo_nil ?_
          refine jq_then ?_
          refine jc_false rfl (decide_eq_false hk1) ?_
          refine jc_seq ?_
          refine jc_region ?_
          refine jo_pure rfl (pr_eql (n := 2) rfl rfl) ?_
          refine jo_pure rfl (pr_assign rfl) ?_
          refine jo_nil ?_
          refine jq_then ?_
          refine jc_false rfl (decide_eq_false hk2) ?_
          refine jc_seq ?_
          refine jc_seq ?_
          refine jc_region ?_
          refine jo_pure rfl (pr_eql (n := 3) rfl rfl) ?_
          refine jo_pure rfl (pr_assign rfl) ?_
          refine jo_nil ?_
          refine jq_then ?_
          refine jc_false rfl (decide_eq_false hk3) ?_
          refine jc_region ?_
          refine jo_pure rfl (pr_eql (n := 4) rfl rfl) ?_
          refine jo_pure rfl (pr_assign rfl) ?_
          refine jo_nil ?_
          refine jq_then ?_
          refine jc_true rfl (decide_eq_true hk4) ?_
          refine jc_seq ?_
          refine jc_region ?_
          refine jo_pure rfl (pr_move rfl) ?_
          refine jo_callp cal_61 (c_ref01_Token s (by omega)) ⟨rfl, trivial⟩ rfl (trivial) (fun _ => ?_)
          refine jo_pure rfl (pr_move rfl) ?_
          refine jo_gpure (j := 2) (want := true) rfl rfl rfl rfl (fun hg => pr_move rfl) ?_
          refine jo_gpure (j := 2) (want := true) rfl rfl rfl rfl (fun hg => pr_sneq (evg rfl hg) rfl) ?_
          refine jo_pure rfl (pr_pick_and rfl rfl rfl) ?_
          refine jo_pure rfl (pr_assign rfl) ?_
          refine jo_nil ?_
          refine jq_then ?_
          refine jc_ret ?_
          refine jq_in_ret ?_
          refine jq_then_ret ?_
          exact jq_ret1 rfl () rfl (show (.bool (valueF axis s) : Value) = (.bool ((token s && (!decide ((s : List UInt8) = [42]))))) from congrArg Value.bool (by rw [value_3 (.inr hk4)])) (fun _ h => h)
        · skip
          refine jc_region ?_
          refine jo_pure rfl (pr_eql (n := 1) rfl rfl) ?_
          refine jo_pure rfl (pr_assign rfl) ?_
          refine jo_nil ?_
          refine jq_then ?_
          refine jc_false rfl (decide_eq_false hk1) ?_
          refine jc_seq ?_
          refine jc_region ?_
          refine jo_pure rfl (pr_eql (n := 2) rfl rfl) ?_
          refine jo_pure rfl (pr_assign rfl) ?_
          refine jo_nil ?_
          refine jq_then ?_
          refine jc_false rfl (decide_eq_false hk2) ?_
          refine jc_seq ?_
          refine jc_seq ?_
          refine jc_region ?_
          refine jo_pure rfl (pr_eql (n := 3) rfl rfl) ?_
          refine jo_pure rfl (pr_assign rfl) ?_
          refine jo_nil ?_
          refine jq_then ?_
          refine jc_false rfl (decide_eq_false hk3) ?_
          refine jc_region ?_
          refine jo_pure rfl (pr_eql (n := 4) rfl rfl) ?_
          refine jo_pure rfl (pr_assign rfl) ?_
          refine jo_nil ?_
          refine jq_then ?_
          refine jc_false rfl (decide_eq_false hk4) ?_
          refine jc_skip ?_
          refine jq_in_normal ?_
          refine jq_then ?_
          refine jc_seq ?_
          refine jc_region ?_
          refine jo_pure rfl (pr_move rfl) ?_
          refine jo_pure rfl (pr_slen rfl Tryz.underlying9) ?_
          refine jo_pure rfl (pr_geqN (m := s.length) (n := 1) rfl rfl) ?_
          refine jo_pure rfl (pr_move rfl) ?_
          refine jo_gpure (j := 3) (want := true) rfl rfl rfl rfl (fun hg => pr_move rfl) ?_
          refine jo_gpure (j := 3) (want := true) rfl rfl rfl rfl (fun hg => pr_slen (evg rfl hg) Tryz.underlying9) ?_
          refine jo_gpure (j := 3) (want := true) rfl rfl rfl rfl (fun hg => pr_leqN (m := s.length) (n := 100) (evg rfl hg) rfl) ?_
          refine jo_pure rfl (pr_pick_and rfl rfl rfl) ?_
          refine jo_pure rfl (pr_move rfl) ?_
          refine jo_gpure (j := 8) (want := true) rfl rfl rfl rfl (fun hg => pr_move rfl) ?_
          refine jo_gcall (j := 8) (want := true) rfl rfl rfl cal_68 (fun hg => c_ref01_Text s (by omega)) (fun hg => ⟨evg rfl hg, trivial⟩) rfl (fun _ => trivial) ?_
          refine jo_pure rfl (pr_pick_and rfl rfl rfl) ?_
          refine jo_pure rfl (pr_move rfl) ?_
          refine jo_gpure (j := 12) (want := true) rfl rfl rfl rfl (fun hg => pr_move rfl) ?_
          refine jo_gcall (j := 12) (want := true) rfl rfl rfl cal_69 (fun hg => c_ref01_Trim s (by omega)) (fun hg => ⟨evg rfl hg, trivial⟩) rfl (fun _ => trivial) ?_
          refine jo_gpure (j := 12) (want := true) rfl rfl rfl rfl (fun hg => pr_move rfl) ?_
          refine jo_gpure (j := 12) (want := true) rfl rfl rfl rfl (fun hg => pr_seql (evg rfl hg) (evg rfl hg)) ?_
          refine jo_pure rfl (pr_pick_and rfl rfl rfl) ?_
          refine jo_pure rfl (pr_assign rfl) ?_
          refine jo_nil ?_
          refine jq_then ?_
          refine jc_ret ?_
          exact jq_ret1 rfl () rfl (show (.bool (valueF axis s) : Value) = (.bool ((((decide ((1 : Nat) ≤ s.length) && decide ((s.length : Nat) ≤ 100)) && text s) && decide ((trim s : List UInt8) = s)))) from congrArg Value.bool (by rw [value_5 hk1 hk2 hk3 hk4])) (fun _ h => h)

theorem c_ref10_Same (axis : List UInt8) (a : List UInt8) (b : List UInt8) (ha : axis.length ≤ 1000000) (hs : a.length ≤ 300000) (hb : b.length ≤ 300000) : Con Tryz.prog 30 #[str (axis), str (a), str (b)] [] (fun _ : Unit => .bool (sameF axis a b)) (fun _ => []) := by
  refine con_of_J (args := [str (axis), str (a), str (b)]) (n := 30) Tryz.func30 rfl (Nat.le_of_ble_eq_true rfl) rfl (fun w0 I0 m0 => ?_)
  show J _ [(0, str (axis)), (1, str (a)), (2, str (b))] [] _
  refine jc_seq ?_
  refine jc_region ?_
  refine jo_pure rfl (pr_assign rfl) ?_
  refine jo_nil ?_
  refine jq_then ?_
  refine jc_seq ?_
  refine jc_seq ?_
  refine jc_region ?_
  refine jo_pure rfl (pr_move rfl) ?_
  refine jo_callp cal_32 (c_ref10_Kind axis (by omega)) ⟨rfl, trivial⟩ rfl (trivial) (fun _ => ?_)
  refine jo_pure rfl (pr_assign rfl) ?_
  refine jo_nil ?_
  refine jq_then ?_
  refine jc_seq ?_
  refine jc_region ?_
  refine jo_pure rfl (pr_move rfl) ?_
  refine jo_nil ?_
  refine jq_then ?_
  refine jc_block ?_
  refine jc_seq ?_
  refine jc_seq ?_
  by_cases hk1 : kindF axis = 1
  · skip
    refine jc_region ?_
    refine jo_pure rfl (pr_eql (n := 1) rfl rfl) ?_
    refine jo_pure rfl (pr_assign rfl) ?_
    refine jo_nil ?_
    refine jq_then ?_
    refine jc_true rfl (decide_eq_true hk1) ?_
    refine jc_skip ?_
    refine jq_then ?_
    refine jc_true rfl (decide_eq_true hk1) ?_
    refine jc_seq ?_
    refine jc_region ?_
    refine jo_pure rfl (pr_move rfl) ?_
    refine jo_pure rfl (pr_move rfl) ?_
    refine jo_callp cal_70 (c_ref01_Fold a b (by omega) (by omega)) ⟨rfl, rfl, trivial⟩ rfl (trivial) (fun _ => ?_)
    refine jo_pure rfl (pr_assign rfl) ?_
    refine jo_nil ?_
    refine jq_then ?_
    refine jc_ret ?_
    refine jq_in_ret ?_
    refine jq_then_ret ?_
    exact jq_ret1 rfl () rfl (show (.bool (sameF axis a b) : Value) = (.bool (fold a b)) from congrArg Value.bool (by rw [same_fold (.inl hk1)])) (fun _ h => h)
  · skip
    by_cases hk2 : kindF axis = 2
    · skip
      refine jc_region ?_
      refine jo_pure rfl (pr_eql (n := 1) rfl rfl) ?_
      refine jo_pure rfl (pr_assign rfl) ?_
      refine jo_nil ?_
      refine jq_then ?_
      refine jc_false rfl (decide_eq_false hk1) ?_
      refine jc_region ?_
      refine jo_pure rfl (pr_eql (n := 2) rfl rfl) ?_
      refine jo_pure rfl (pr_assign rfl) ?_
      refine jo_nil ?_
      refine jq_then ?_
      refine jc_true rfl (decide_eq_true hk2) ?_
      refine jc_seq ?_
      refine jc_region ?_
      refine jo_pure rfl (pr_move rfl) ?_
      refine jo_pure rfl (pr_move rfl) ?_
      refine jo_callp cal_70 (c_ref01_Fold a b (by omega) (by omega)) ⟨rfl, rfl, trivial⟩ rfl (trivial) (fun _ => ?_)
      refine jo_pure rfl (pr_assign rfl) ?_
      refine jo_nil ?_
      refine jq_then ?_
      refine jc_ret ?_
      refine jq_in_ret ?_
      refine jq_then_ret ?_
      exact jq_ret1 rfl () rfl (show (.bool (sameF axis a b) : Value) = (.bool (fold a b)) from congrArg Value.bool (by rw [same_fold (.inr hk2)])) (fun _ h => h)
    · skip
      by_cases hk3 : kindF axis = 3
      · skip
        refine jc_region ?_
        refine jo_pure rfl (pr_eql (n := 1) rfl rfl) ?_
        refine jo_pure rfl (pr_assign rfl) ?_
        refine jo_nil ?_
        refine jq_then ?_
        refine jc_false rfl (decide_eq_false hk1) ?_
        refine jc_region ?_
        refine jo_pure rfl (pr_eql (n := 2) rfl rfl) ?_
        refine jo_pure rfl (pr_assign rfl) ?_
        refine jo_nil ?_
        refine jq_then ?_
        refine jc_false rfl (decide_eq_false hk2) ?_
        refine jc_seq ?_
        refine jc_seq ?_
        refine jc_region ?_
        refine jo_pure rfl (pr_eql (n := 3) rfl rfl) ?_
        refine jo_pure rfl (pr_assign rfl) ?_
        refine jo_nil ?_
        refine jq_then ?_
        refine jc_true rfl (decide_eq_true hk3) ?_
        refine jc_skip ?_
        refine jq_then ?_
        refine jc_true rfl (decide_eq_true hk3) ?_
        refine jc_seq ?_
        refine jc_region ?_
        refine jo_pure rfl (pr_move rfl) ?_
        refine jo_pure rfl (pr_move rfl) ?_
        refine jo_callp cal_71 (c_ref10_Canonical (kindF axis) a (by omega)) ⟨rfl, rfl, trivial⟩ rfl (trivial) (fun _ => ?_)
        refine jo_pure rfl (pr_move rfl) ?_
        refine jo_pure rfl (pr_move rfl) ?_
        refine jo_callp cal_71 (c_ref10_Canonical (kindF axis) b (by omega)) ⟨rfl, rfl, trivial⟩ rfl (trivial) (fun _ => ?_)
        refine jo_pure rfl (pr_seql rfl rfl) ?_
        refine jo_pure rfl (pr_assign rfl) ?_
        refine jo_nil ?_
        refine jq_then ?_
        refine jc_ret ?_
        refine jq_in_ret ?_
        refine jq_then_ret ?_
        exact jq_ret1 rfl () rfl (show (.bool (sameF axis a b) : Value) = (.bool (decide ((canonical (kindF axis) a : List UInt8) = canonical (kindF axis) b))) from congrArg Value.bool (by rw [same_canon (.inl hk3)])) (fun _ h => h)
      · skip
        by_cases hk4 : kindF axis = 4
        · skip
          refine jc_region ?_
          refine jo_pure rfl (pr_eql (n := 1) rfl rfl) ?_
          refine jo_pure rfl (pr_assign rfl) ?_
          refine jo_nil ?_
          refine jq_then ?_
          refine jc_false rfl (decide_eq_false hk1) ?_
          refine jc_region ?_
          refine jo_pure rfl (pr_eql (n := 2) rfl rfl) ?_
          refine jo_pure rfl (pr_assign rfl) ?_
          refine jo_nil ?_
          refine jq_then ?_
          refine jc_false rfl (decide_eq_false hk2) ?_
          refine jc_seq ?_
          refine jc_seq ?_
          refine jc_region ?_
          refine jo_pure rfl (pr_eql (n := 3) rfl rfl) ?_
          refine jo_pure rfl (pr_assign rfl) ?_
          refine jo_nil ?_
          refine jq_then ?_
          refine jc_false rfl (decide_eq_false hk3) ?_
          refine jc_region ?_
          refine jo_pure rfl (pr_eql (n := 4) rfl rfl) ?_
          refine jo_pure rfl (pr_assign rfl) ?_
          refine jo_nil ?_
          refine jq_then ?_
          refine jc_true rfl (decide_eq_true hk4) ?_
          refine jc_seq ?_
          refine jc_region ?_
          refine jo_pure rfl (pr_move rfl) ?_
          refine jo_pure rfl (pr_move rfl) ?_
          refine jo_callp cal_71 (c_ref10_Canonical (kindF axis) a (by omega)) ⟨rfl, rfl, trivial⟩ rfl (trivial) (fun _ => ?_)
          refine jo_pure rfl (pr_move rfl) ?_
          refine jo_pure rfl (pr_move rfl) ?_
          refine jo_callp cal_71 (c_ref10_Canonical (kindF axis) b (by omega)) ⟨rfl, rfl, trivial⟩ rfl (trivial) (fun _ => ?_)
          refine jo_pure rfl (pr_seql rfl rfl) ?_
          refine jo_pure rfl (pr_assign rfl) ?_
          refine jo_nil ?_
          refine jq_then ?_
          refine jc_ret ?_
          refine jq_in_ret ?_
          refine jq_then_ret ?_
          exact jq_ret1 rfl () rfl (show (.bool (sameF axis a b) : Value) = (.bool (decide ((canonical (kindF axis) a : List UInt8) = canonical (kindF axis) b))) from congrArg Value.bool (by rw [same_canon (.inr hk4)])) (fun _ h => h)
        · skip
          refine jc_region ?_
          refine jo_pure rfl (pr_eql (n := 1) rfl rfl) ?_
          refine jo_pure rfl (pr_assign rfl) ?_
          refine jo_nil ?_
          refine jq_then ?_
          refine jc_false rfl (decide_eq_false hk1) ?_
          refine jc_region ?_
          refine jo_pure rfl (pr_eql (n := 2) rfl rfl) ?_
          refine jo_pure rfl (pr_assign rfl) ?_
          refine jo_nil ?_
          refine jq_then ?_
          refine jc_false rfl (decide_eq_false hk2) ?_
          refine jc_seq ?_
          refine jc_seq ?_
          refine jc_region ?_
          refine jo_pure rfl (pr_eql (n := 3) rfl rfl) ?_
          refine jo_pure rfl (pr_assign rfl) ?_
          refine jo_nil ?_
          refine jq_then ?_
          refine jc_false rfl (decide_eq_false hk3) ?_
          refine jc_region ?_
          refine jo_pure rfl (pr_eql (n := 4) rfl rfl) ?_
          refine jo_pure rfl (pr_assign rfl) ?_
          refine jo_nil ?_
          refine jq_then ?_
          refine jc_false rfl (decide_eq_false hk4) ?_
          refine jc_skip ?_
          refine jq_in_normal ?_
          refine jq_then ?_
          refine jc_seq ?_
          refine jc_region ?_
          refine jo_pure rfl (pr_move rfl) ?_
          refine jo_pure rfl (pr_move rfl) ?_
          refine jo_pure rfl (pr_seql rfl rfl) ?_
          refine jo_pure rfl (pr_assign rfl) ?_
          refine jo_nil ?_
          refine jq_then ?_
          refine jc_ret ?_
          exact jq_ret1 rfl () rfl (show (.bool (sameF axis a b) : Value) = (.bool (decide ((a : List UInt8) = b))) from congrArg Value.bool (by rw [same_id hk1 hk2 hk3 hk4])) (fun _ h => h)

theorem c_ref10_validAxis (a : (List UInt8) × (List (List UInt8))) (av : Value) (ha : a.1.length ≤ 1000000) (hm : ∀ x ∈ a.2, x.length ≤ 300000) (hl : a.2.length ≤ 9223372036854775807) : Con Tryz.prog 53 #[.agg #[str (a.1), av]] [.imm (.list .str) (av) (a.2)] (fun _ : Unit => .bool (validA a)) (fun _ => []) := by
  refine con_of_J (args := [.agg #[str (a.1), av]]) (n := 63) Tryz.func53 rfl (Nat.le_of_ble_eq_true rfl) rfl (fun w0 I0 m0 => ?_)
  show J _ [(0, .agg #[str (a.1), av])] [.imm (.list .str) (av) (a.2)] _
  refine jc_seq ?_
  refine jc_region ?_
  refine jo_box rfl [str (a.1), av] rfl rfl (fun b1 => ?_)
  refine jo_pure rfl (pr_assign rfl) ?_
  refine jo_nil ?_
  refine jq_then ?_
  refine jc_seq ?_
  refine jc_seq ?_
  refine jc_draws mixed (by kernel_rfl) ?_
  refine jd_pure rfl (pr_fieldAddr 0 rfl Tryz.underlying48 rfl ty_9 rfl rfl) ?_
  refine jd_pure rfl (pr_load_box (str (a.1)) rfl ty_9 (.head _) rfl (by decide) rfl) ?_
  refine jd_callp cal_61 (c_ref01_Token a.1 (by first | omega | exact hm _ (getD_mem h2) | exact hm _ (getD_mem (show k < a.2.length by omega)))) ⟨rfl, trivial⟩ rfl (trivial) ?_
  refine jd_pure rfl (pr_not rfl) ?_
  refine jd_pure rfl (pr_move rfl) ?_
  refine jd_gpure (j := 4) (want := false) rfl rfl rfl rfl (fun hg => pr_fieldAddr 0 rfl Tryz.underlying48 rfl ty_9 rfl rfl) ?_
  refine jd_gpure (j := 4) (want := false) rfl rfl rfl rfl (fun hg => pr_load_box (str (a.1)) (evg rfl hg) ty_9 (.head _) rfl (by decide) rfl) ?_
  refine jd_gcall (j := 4) (want := false) rfl rfl rfl cal_31 (fun hg => c_ref01_Lower a.1 (by first | omega | exact hm _ (getD_mem h2) | exact hm _ (getD_mem (show k < a.2.length by omega)))) (fun hg => ⟨evg rfl hg, trivial⟩) rfl (fun _ => trivial) ?_
  refine jd_gpure (j := 4) (want := false) rfl rfl rfl rfl (fun hg => pr_fieldAddr 0 rfl Tryz.underlying48 rfl ty_9 rfl rfl) ?_
  refine jd_gpure (j := 4) (want := false) rfl rfl rfl rfl (fun hg => pr_load_box (str (a.1)) (evg rfl hg) ty_9 (.head _) rfl (by decide) rfl) ?_
  refine jd_gpure (j := 4) (want := false) rfl rfl rfl rfl (fun hg => pr_sneq (evg rfl hg) (evg rfl hg)) ?_
  refine jd_pure rfl (pr_pick_or rfl rfl rfl) ?_
  refine jd_pure rfl (pr_move rfl) ?_
  refine jd_gpure (j := 12) (want := false) rfl rfl rfl rfl (fun hg => pr_fieldAddr 1 rfl Tryz.underlying48 rfl ty_45 rfl rfl) ?_
  refine jd_gpure (j := 12) (want := false) rfl rfl rfl rfl (fun hg => pr_load_box (av) (evg rfl hg) ty_45 (.head _) rfl (by decide) rfl) ?_
  refine jd_gpure (j := 12) (want := false) rfl rfl rfl rfl (fun hg => pr_len_imm (evg rfl hg) (.tail _ (.head _)) Tryz.underlying45) ?_
  refine jd_gpure (j := 12) (want := false) rfl rfl rfl rfl (fun hg => pr_lssN (m := a.2.length) (n := 1) (evg rfl hg) rfl) ?_
  refine jd_pure rfl (pr_pick_or rfl rfl rfl) ?_
  refine jd_pure rfl (pr_move rfl) ?_
  refine jd_gpure (j := 18) (want := false) rfl rfl rfl rfl (fun hg => pr_fieldAddr 1 rfl Tryz.underlying48 rfl ty_45 rfl rfl) ?_
  refine jd_gpure (j := 18) (want := false) rfl rfl rfl rfl (fun hg => pr_load_box (av) (evg rfl hg) ty_45 (.head _) rfl (by decide) rfl) ?_
  refine jd_gpure (j := 18) (want := false) rfl rfl rfl rfl (fun hg => pr_len_imm (evg rfl hg) (.tail _ (.head _)) Tryz.underlying45) ?_
  refine jd_gpure (j := 18) (want := false) rfl rfl rfl rfl (fun hg => pr_gtrN (m := a.2.length) (n := 16) (evg rfl hg) rfl) ?_
  refine jd_pure rfl (pr_pick_or rfl rfl rfl) ?_
  refine jd_nil ?_
  refine jq_then ?_
  refine jc_cond rfl (fun h1b => ?_) (fun h1b => ?_)
  · have h1 := (fun q => Or.imp (fun q => Or.imp (fun q => Or.imp (fun q => id (bt_not q)) (fun q => of_decide_eq_false (bt_not q)) (bt_or q)) of_decide_eq_true (bt_or q)) of_decide_eq_true (bt_or q)) h1b
    refine jc_seq ?_
    refine jc_region ?_
    refine jo_pure rfl (pr_assign rfl) ?_
    refine jo_nil ?_
    refine jq_then ?_
    refine jc_ret ?_
    refine jq_then_ret ?_
    refine j_drop ?_
    refine j_drop ?_
    exact jq_ret1 rfl () rfl (show (.bool (validA a) : Value) = (.bool (false)) from congrArg Value.bool (by rw [validA_no h1])) (fun _ h => h)
  · have h1 := (fun q => And.imp (fun q => And.imp (fun q => And.imp (fun q => id (bf_not q)) (fun q => of_decide_eq_true (bf_not q)) (bf_or q)) of_decide_eq_false (bf_or q)) of_decide_eq_false (bf_or q)) h1b
    refine jc_skip ?_
    refine jq_then ?_
    refine jc_seq ?_
    refine jc_seq ?_
    refine jc_region ?_
    refine jo_pure rfl (pr_assign rfl) ?_
    refine jo_nil ?_
    refine jq_then ?_
    refine jc_block ?_
    refine jc_loop (fun (i : Nat) => [(1, .pointer (some ⟨b1, 0, none⟩)), (3, .int .i64 ((i : Nat) : Int))]) (fun (i : Nat) => [.box b1 48 [str (a.1), av], .imm (.list .str) (av) (a.2)]) (fun (i : Nat) => i ≤ a.2.length ∧ distB (fun s => (formF (kindF a.1) s).2) (fun x y => decide ((formF (kindF a.1) y).1 = (formF (kindF a.1) x).1)) [] a.2 i = true) (fun (i : Nat) => a.2.length - i) 0 (⟨Nat.zero_le _, rfl⟩) (⟨rfl, rfl, trivial⟩) (fun _ h => h) (fun i hinv => ?_)
    refine jc_seq ?_
    refine jc_seq ?_
    refine jc_region ?_
    refine jo_pure rfl (pr_move rfl) ?_
    refine jo_pure rfl (pr_fieldAddr 1 rfl Tryz.underlying48 rfl ty_45 rfl rfl) ?_
    refine jo_pure rfl (pr_load_box (av) rfl ty_45 (.head _) rfl (by decide) rfl) ?_
    refine jo_pure rfl (pr_len_imm rfl (.tail _ (.head _)) Tryz.underlying45) ?_
    refine jo_pure rfl (pr_lssN (m := i) (n := a.2.length) rfl rfl) ?_
    refine jo_nil ?_
    refine jq_then ?_
    refine jc_cond rfl (fun h2b => ?_) (fun h2b => ?_)
    · have h2 := of_decide_eq_true h2b
      refine jc_skip ?_
      refine jq_then ?_
      refine jc_seq ?_
      refine jc_block ?_
      refine jc_seq ?_
      refine jc_seq ?_
      refine jc_draws mixed (by kernel_rfl) ?_
      refine jd_pure rfl (pr_fieldAddr 0 rfl Tryz.underlying48 rfl ty_9 rfl rfl) ?_
      refine jd_pure rfl (pr_load_box (str (a.1)) rfl ty_9 (.head _) rfl (by decide) rfl) ?_
      refine jd_pure rfl (pr_fieldAddr 1 rfl Tryz.underlying48 rfl ty_45 rfl rfl) ?_
      refine jd_pure rfl (pr_load_box (av) rfl ty_45 (.head _) rfl (by decide) rfl) ?_
      refine jd_pure rfl (pr_move rfl) ?_
      refine jd_pure rfl (pr_idx_imm (i := i) rfl (.tail _ (.head _)) rfl Tryz.underlying45 ty_9 (by omega)) ?_
      refine jd_pure rfl (pr_load_elem_imm (i := i) (str (a.2.getD i [])) rfl (.tail _ (.head _)) ty_9 rfl rfl (by omega) rfl) ?_
      refine jd_callp cal_28 (c_ref10_Value a.1 (a.2.getD i []) (by first | omega | exact hm _ (getD_mem h2) | exact hm _ (getD_mem (show k < a.2.length by omega))) (by first | omega | exact hm _ (getD_mem h2) | exact hm _ (getD_mem (show k < a.2.length by omega)))) ⟨rfl, rfl, trivial⟩ rfl (trivial) ?_
      refine jd_pure rfl (pr_not rfl) ?_
      refine jd_nil ?_
      refine jq_then ?_
      refine jc_cond rfl (fun h3b => ?_) (fun h3b => ?_)
      · have h3 := (fun q => id (bt_not q)) h3b
        refine jc_seq ?_
        refine jc_region ?_
        refine jo_pure rfl (pr_assign rfl) ?_
        refine jo_nil ?_
        refine jq_then ?_
        refine jc_ret ?_
        refine jq_then_ret ?_
        refine jq_in_ret ?_
        refine jq_then_ret ?_
        refine jq_then_ret ?_
        refine jq_in_ret ?_
        refine jq_then_ret ?_
        refine j_drop ?_
        refine j_drop ?_
        exact jq_ret1 rfl () rfl (show (.bool (validA a) : Value) = (.bool (false)) from congrArg Value.bool (by rw [validA_yes h1, dist_bad (ok := fun s => (formF (kindF a.1) s).2) h2 (.inl h3)])) (fun _ h => h)
      · have h3 := (fun q => id (bf_not q)) h3b
        refine jc_skip ?_
        refine jq_then ?_
        refine jc_seq ?_
        refine jc_region ?_
        refine jo_pure rfl (pr_assign rfl) ?_
        refine jo_nil ?_
        refine jq_then ?_
        refine jc_block ?_
        refine jc_loop (fun (k : Nat) => [(1, .pointer (some ⟨b1, 0, none⟩)), (3, .int .i64 ((i : Nat) : Int)), (4, .int .i64 ((k : Nat) : Int))]) (fun (k : Nat) => [.box b1 48 [str (a.1), av], .imm (.list .str) (av) (a.2)]) (fun (k : Nat) => k ≤ i ∧ (a.2.take k).any (fun b => sameF a.1 (a.2.getD i []) b) = false) (fun (k : Nat) => i - k) 0 (⟨Nat.zero_le _, rfl⟩) (⟨rfl, rfl, rfl, trivial⟩) (fun _ h => h) (fun k hink => ?_)
        refine jc_seq ?_
        refine jc_seq ?_
        refine jc_region ?_
        refine jo_pure rfl (pr_move rfl) ?_
        refine jo_pure rfl (pr_move rfl) ?_
        refine jo_pure rfl (pr_lssN (m := k) (n := i) rfl rfl) ?_
        refine jo_nil ?_
        refine jq_then ?_
        refine jc_cond rfl (fun h4b => ?_) (fun h4b => ?_)
        · have h4 := of_decide_eq_true h4b
          refine jc_skip ?_
          refine jq_then ?_
          refine jc_seq ?_
          refine jc_block ?_
          refine jc_seq ?_
          refine jc_draws mixed (by kernel_rfl) ?_
          refine jd_pure rfl (pr_fieldAddr 0 rfl Tryz.underlying48 rfl ty_9 rfl rfl) ?_
          refine jd_pure rfl (pr_load_box (str (a.1)) rfl ty_9 (.head _) rfl (by decide) rfl) ?_
          refine jd_pure rfl (pr_fieldAddr 1 rfl Tryz.underlying48 rfl ty_45 rfl rfl) ?_
          refine jd_pure rfl (pr_load_box (av) rfl ty_45 (.head _) rfl (by decide) rfl) ?_
          refine jd_pure rfl (pr_move rfl) ?_
          refine jd_pure rfl (pr_idx_imm (i := i) rfl (.tail _ (.head _)) rfl Tryz.underlying45 ty_9 (by omega)) ?_
          refine jd_pure rfl (pr_load_elem_imm (i := i) (str (a.2.getD i [])) rfl (.tail _ (.head _)) ty_9 rfl rfl (by omega) rfl) ?_
          refine jd_pure rfl (pr_fieldAddr 1 rfl Tryz.underlying48 rfl ty_45 rfl rfl) ?_
          refine jd_pure rfl (pr_load_box (av) rfl ty_45 (.head _) rfl (by decide) rfl) ?_
          refine jd_pure rfl (pr_move rfl) ?_
          refine jd_pure rfl (pr_idx_imm (i := k) rfl (.tail _ (.head _)) rfl Tryz.underlying45 ty_9 (by omega)) ?_
          refine jd_pure rfl (pr_load_elem_imm (i := k) (str (a.2.getD k [])) rfl (.tail _ (.head _)) ty_9 rfl rfl (by omega) rfl) ?_
          refine jd_callp cal_30 (c_ref10_Same a.1 (a.2.getD i []) (a.2.getD k []) (by first | omega | exact hm _ (getD_mem h2) | exact hm _ (getD_mem (show k < a.2.length by omega))) (by first | omega | exact hm _ (getD_mem h2) | exact hm _ (getD_mem (show k < a.2.length by omega))) (by first | omega | exact hm _ (getD_mem h2) | exact hm _ (getD_mem (show k < a.2.length by omega)))) ⟨rfl, rfl, rfl, trivial⟩ rfl (trivial) ?_
          refine jd_nil ?_
          refine jq_then ?_
          refine jc_cond rfl (fun h5b => ?_) (fun h5b => ?_)
          · have h5 := id h5b
            refine jc_seq ?_
            refine jc_region ?_
            refine jo_pure rfl (pr_assign rfl) ?_
            refine jo_nil ?_
            refine jq_then ?_
            refine jc_ret ?_
            refine jq_in_ret ?_
            refine jq_then_ret ?_
            refine jq_then_ret ?_
            refine jq_in_ret ?_
            refine jq_in_ret ?_
            refine jq_then_ret ?_
            refine jq_then_ret ?_
            refine jq_in_ret ?_
            refine jq_then_ret ?_
            refine j_drop ?_
            refine j_drop ?_
            exact jq_ret1 rfl () rfl (show (.bool (validA a) : Value) = (.bool (false)) from congrArg Value.bool (by rw [validA_yes h1, dist_bad h2 (.inr (by rw [← same_alt]; exact any_of (dd := []) (by omega) h4 h5))])) (fun _ h => h)
          · have h5 := id h5b
            refine jc_skip ?_
            refine jq_in_normal ?_
            refine jq_then ?_
            refine jc_region ?_
            refine jo_pure rfl (pr_move rfl) ?_
            refine jo_pure rfl (pr_addN (m := k) (n := 1) rfl rfl (by omega)) ?_
            refine jo_pure rfl (pr_assign rfl) ?_
            refine jo_nil ?_
            refine j_pull1 ?_
            refine j_pull1 ?_
            refine jq_round' (k + 1) (by (try dsimp only); exact (⟨by omega, any_step (dd := []) (by omega) hink.2 h5⟩)) (by (try dsimp only); exact (by omega)) ⟨rfl, rfl, rfl, trivial⟩ (fun _ h => h)
        · have h4 := of_decide_eq_false h4b
          refine jc_exit ?_
          refine jq_then_exit ?_
          refine jq_then_exit ?_
          refine jq_in_hit ?_
          refine jq_in_normal ?_
          refine jq_then ?_
          refine jc_region ?_
          refine jo_pure rfl (pr_move rfl) ?_
          refine jo_pure rfl (pr_addN (m := i) (n := 1) rfl rfl (by omega)) ?_
          refine jo_pure rfl (pr_assign rfl) ?_
          refine jo_nil ?_
          refine j_pull1 ?_
          refine j_pull1 ?_
          refine jq_round' (i + 1) (by (try dsimp only); exact (⟨by omega, dist_go hinv.2 h3 (by have h9 := hink.2; rw [show k = i by omega, same_alt] at h9; exact h9)⟩)) (by (try dsimp only); exact (by omega)) ⟨rfl, rfl, trivial⟩ (fun _ h => h)
    · have h2 := of_decide_eq_false h2b
      refine jc_exit ?_
      refine jq_then_exit ?_
      refine jq_then_exit ?_
      refine jq_in_hit ?_
      refine jq_then ?_
      refine jc_seq ?_
      refine jc_region ?_
      refine jo_pure rfl (pr_assign rfl) ?_
      refine jo_nil ?_
      refine jq_then ?_
      refine jc_ret ?_
      refine j_drop ?_
      refine j_drop ?_
      exact jq_ret1 rfl () rfl (show (.bool (validA a) : Value) = (.bool (true)) from congrArg Value.bool (by rw [validA_yes h1, dist_done hinv.1 (by omega) hinv.2])) (fun _ h => h)

theorem c_ref10_Valid (l : List ((List UInt8) × (List (List UInt8)))) (lv : Value) (hl : l.length ≤ 9223372036854775807) (hm : ∀ a ∈ l, a.1.length ≤ 1000000 ∧ (∀ x ∈ a.2, x.length ≤ 300000) ∧ a.2.length ≤ 9223372036854775807) : Con Tryz.prog 19 #[lv] [.imm (.list (.pair .str (.list .str))) (lv) (l)] (fun _ : Unit => .bool (validL l)) (fun _ => []) := by
  refine con_of_J (args := [lv]) (n := 41) Tryz.func19 rfl (Nat.le_of_ble_eq_true rfl) rfl (fun w0 I0 m0 => ?_)
  show J _ [(0, lv)] [.imm (.list (.pair .str (.list .str))) (lv) (l)] _
  refine jc_seq ?_
  refine jc_region ?_
  refine jo_pure rfl (pr_assign rfl) ?_
  refine jo_nil ?_
  refine jq_then ?_
  refine jc_seq ?_
  refine jc_seq ?_
  refine jc_region ?_
  refine jo_pure rfl (pr_move rfl) ?_
  refine jo_pure rfl (pr_len_imm rfl (.head _) Tryz.underlying23) ?_
  refine jo_pure rfl (pr_lssN (m := l.length) (n := 1) rfl rfl) ?_
  refine jo_pure rfl (pr_move rfl) ?_
  refine jo_gpure (j := 3) (want := false) rfl rfl rfl rfl (fun hg => pr_move rfl) ?_
  refine jo_gpure (j := 3) (want := false) rfl rfl rfl rfl (fun hg => pr_len_imm (evg rfl hg) (.head _) Tryz.underlying23) ?_
  refine jo_gpure (j := 3) (want := false) rfl rfl rfl rfl (fun hg => pr_gtrN (m := l.length) (n := 4) (evg rfl hg) rfl) ?_
  refine jo_pure rfl (pr_pick_or rfl rfl rfl) ?_
  refine jo_nil ?_
  refine jq_then ?_
  refine jc_cond rfl (fun h1b => ?_) (fun h1b => ?_)
  · have h1 := (fun q => Or.imp of_decide_eq_true of_decide_eq_true (bt_or q)) h1b
    refine jc_seq ?_
    refine jc_region ?_
    refine jo_pure rfl (pr_assign rfl) ?_
    refine jo_nil ?_
    refine jq_then ?_
    refine jc_ret ?_
    refine jq_then_ret ?_
    refine j_drop ?_
    exact jq_ret1 rfl () rfl (show (.bool (validL l) : Value) = (.bool (false)) from congrArg Value.bool (by rw [validL_no h1])) (fun _ h => h)
  · have h1 := (fun q => And.imp of_decide_eq_false of_decide_eq_false (bf_or q)) h1b
    refine jc_skip ?_
    refine jq_then ?_
    refine jc_seq ?_
    refine jc_seq ?_
    refine jc_region ?_
    refine jo_pure rfl (pr_assign rfl) ?_
    refine jo_nil ?_
    refine jq_then ?_
    refine jc_block ?_
    refine jc_loop (fun (i : Nat) => [(0, lv), (3, .int .i64 ((i : Nat) : Int))]) (fun (i : Nat) => [.imm (.list (.pair .str (.list .str))) (lv) (l)]) (fun (i : Nat) => i ≤ l.length ∧ distB validA (fun x y => decide (x.1 = y.1)) ([], []) l i = true) (fun (i : Nat) => l.length - i) 0 (⟨Nat.zero_le _, rfl⟩) (⟨rfl, rfl, trivial⟩) (fun _ h => h) (fun i hinv => ?_)
    refine jc_seq ?_
    refine jc_seq ?_
    refine jc_region ?_
    refine jo_pure rfl (pr_move rfl) ?_
    refine jo_pure rfl (pr_move rfl) ?_
    refine jo_pure rfl (pr_len_imm rfl (.head _) Tryz.underlying23) ?_
    refine jo_pure rfl (pr_lssN (m := i) (n := l.length) rfl rfl) ?_
    refine jo_nil ?_
    refine jq_then ?_
    refine jc_cond rfl (fun h2b => ?_) (fun h2b => ?_)
    · have h2 := of_decide_eq_true h2b
      have hA := hm _ (getD_mem (dd := ([], [])) h2)
      refine jc_skip ?_
      refine jq_then ?_
      refine jc_seq ?_
      refine jc_block ?_
      refine jc_seq ?_
      refine jc_seq ?_
      refine jc_region ?_
      refine jo_pure rfl (pr_move rfl) ?_
      refine jo_pure rfl (pr_move rfl) ?_
      refine j_open_elem (t := (.pair .str (.list .str))) (i := i) ([], []) (.head _) (by omega) (fun ⟨_, e1⟩ => ?_)
      show J _ _ (.imm (.list .str) (e1) (((l.getD i ([], []))).2) :: .fact (fun w_ I_ => ElemAt w_ I_ (lv) (i) 2 [str (((l.getD i ([], []))).1), e1]) :: _) _
      refine jo_pure rfl (pr_idx_imm (i := i) rfl (.tail _ (.tail _ (.head _))) rfl Tryz.underlying23 ty_48 (by omega)) ?_
      refine jo_pure rfl (pr_load_at (.agg #[str (((l.getD i ([], []))).1), e1]) rfl (.tail _ (.head _)) ty_48 (by decide) rfl) ?_
      have con1 := c_ref10_validAxis ((l.getD i ([], []))) e1 (by first | omega | exact hA.2.1 | exact hA.1 | exact hA.2.2) (by first | omega | exact hA.2.1 | exact hA.1 | exact hA.2.2) (by first | omega | exact hA.2.1 | exact hA.1 | exact hA.2.2)
      refine jo_callp cal_53 con1 (by exact ⟨rfl, trivial⟩) rfl (by exact ⟨⟨rfl, .head _⟩, trivial⟩) (fun _ => ?_)
      clear con1
      refine jo_pure rfl (pr_not rfl) ?_
      refine jo_nil ?_
      refine jq_then ?_
      refine jc_cond rfl (fun h3b => ?_) (fun h3b => ?_)
      · have h3 := (fun q => id (bt_not q)) h3b
        refine jc_seq ?_
        refine jc_region ?_
        refine jo_pure rfl (pr_assign rfl) ?_
        refine jo_nil ?_
        refine jq_then ?_
        refine jc_ret ?_
        refine jq_then_ret ?_
        refine jq_in_ret ?_
        refine jq_then_ret ?_
        refine jq_then_ret ?_
        refine jq_in_ret ?_
        refine jq_then_ret ?_
        refine j_drop ?_
        refine j_drop ?_
        refine j_drop ?_
        exact jq_ret1 rfl () rfl (show (.bool (validL l) : Value) = (.bool (false)) from congrArg Value.bool (by rw [validL_yes (by omega), dist_bad h2 (.inl h3)])) (fun _ h => h)
      · have h3 := (fun q => id (bf_not q)) h3b
        refine jc_skip ?_
        refine jq_then ?_
        refine jc_seq ?_
        refine jc_region ?_
        refine jo_pure rfl (pr_assign rfl) ?_
        refine jo_nil ?_
        refine jq_then ?_
        refine jc_block ?_
        refine jc_loop (fun (k : Nat) => [(0, lv), (3, .int .i64 ((i : Nat) : Int)), (4, .int .i64 ((k : Nat) : Int))]) (fun (k : Nat) => [.imm (.list .str) (e1) (((l.getD i ([], []))).2), .fact (fun w_ I_ => ElemAt w_ I_ (lv) (i) 2 [str (((l.getD i ([], []))).1), e1]), .imm (.list (.pair .str (.list .str))) (lv) (l)]) (fun (k : Nat) => k ≤ i ∧ (l.take k).any (fun b => decide ((l.getD i ([], [])).1 = b.1)) = false) (fun (k : Nat) => i - k) 0 (⟨Nat.zero_le _, rfl⟩) (⟨rfl, rfl, rfl, trivial⟩) (fun _ h => h) (fun k hink => ?_)
        refine jc_seq ?_
        refine jc_seq ?_
        refine jc_region ?_
        refine jo_pure rfl (pr_move rfl) ?_
        refine jo_pure rfl (pr_move rfl) ?_
        refine jo_pure rfl (pr_lssN (m := k) (n := i) rfl rfl) ?_
        refine jo_nil ?_
        refine jq_then ?_
        refine jc_cond rfl (fun h4b => ?_) (fun h4b => ?_)
        · have h4 := of_decide_eq_true h4b
          refine jc_skip ?_
          refine jq_then ?_
          refine jc_seq ?_
          refine jc_block ?_
          refine jc_seq ?_
          refine j_open_elem (t := (.pair .str (.list .str))) (i := k) ([], []) (.tail _ (.tail _ (.head _))) (by omega) (fun ⟨_, e2⟩ => ?_)
          show J _ _ (.imm (.list .str) (e2) (((l.getD k ([], []))).2) :: .fact (fun w_ I_ => ElemAt w_ I_ (lv) (k) 2 [str (((l.getD k ([], []))).1), e2]) :: _) _
          refine jc_draws mixed (by kernel_rfl) ?_
          refine jd_pure rfl (pr_move rfl) ?_
          refine jd_pure rfl (pr_move rfl) ?_
          refine jd_pure rfl (pr_idx_imm (i := i) rfl (.tail _ (.tail _ (.tail _ (.tail _ (.head _))))) rfl Tryz.underlying23 ty_48 (by omega)) ?_
          refine jd_pure rfl (pr_fieldAddr_imm (i := i) rfl (.tail _ (.tail _ (.tail _ (.tail _ (.head _))))) Tryz.underlying48 rfl ty_9 rfl rfl (by omega)) ?_
          refine jd_pure rfl (pr_load_off_at (o := 0) (str (((l.getD i ([], []))).1)) rfl (.tail _ (.tail _ (.tail _ (.head _)))) ty_9 (by decide) rfl rfl) ?_
          refine jd_pure rfl (pr_move rfl) ?_
          refine jd_pure rfl (pr_move rfl) ?_
          refine jd_pure rfl (pr_idx_imm (i := k) rfl (.tail _ (.tail _ (.tail _ (.tail _ (.head _))))) rfl Tryz.underlying23 ty_48 (by omega)) ?_
          refine jd_pure rfl (pr_fieldAddr_imm (i := k) rfl (.tail _ (.tail _ (.tail _ (.tail _ (.head _))))) Tryz.underlying48 rfl ty_9 rfl rfl (by omega)) ?_
          refine jd_pure rfl (pr_load_off_at (o := 0) (str (((l.getD k ([], []))).1)) rfl (.tail _ (.head _)) ty_9 (by decide) rfl rfl) ?_
          refine jd_pure rfl (pr_seql rfl rfl) ?_
          refine jd_nil ?_
          refine jq_then ?_
          refine jc_cond rfl (fun h5b => ?_) (fun h5b => ?_)
          · have h5 := of_decide_eq_true h5b
            refine jc_seq ?_
            refine jc_region ?_
            refine jo_pure rfl (pr_assign rfl) ?_
            refine jo_nil ?_
            refine jq_then ?_
            refine jc_ret ?_
            refine jq_in_ret ?_
            refine jq_then_ret ?_
            refine jq_then_ret ?_
            refine jq_in_ret ?_
            refine jq_in_ret ?_
            refine jq_then_ret ?_
            refine jq_then_ret ?_
            refine jq_in_ret ?_
            refine jq_then_ret ?_
            refine j_drop ?_
            refine j_drop ?_
            refine j_drop ?_
            refine j_drop ?_
            refine j_drop ?_
            exact jq_ret1 rfl () rfl (show (.bool (validL l) : Value) = (.bool (false)) from congrArg Value.bool (by rw [validL_yes (by omega), dist_bad h2 (.inr (any_of (p := fun b => decide ((l.getD i ([], [])).1 = b.1)) (dd := ([], [])) (by omega) h4 h5b))])) (fun _ h => h)
          · have h5 := of_decide_eq_false h5b
            refine jc_skip ?_
            refine jq_in_normal ?_
            refine jq_then ?_
            refine jc_region ?_
            refine jo_pure rfl (pr_move rfl) ?_
            refine jo_pure rfl (pr_addN (m := k) (n := 1) rfl rfl (by omega)) ?_
            refine jo_pure rfl (pr_assign rfl) ?_
            refine jo_nil ?_
            refine j_drop ?_
            refine j_drop ?_
            refine j_pull2 ?_
            refine j_pull2 ?_
            refine j_pull2 ?_
            refine jq_round' (k + 1) (by (try dsimp only); exact (⟨by omega, any_step (dd := ([], [])) (by omega) hink.2 h5b⟩)) (by (try dsimp only); exact (by omega)) ⟨rfl, rfl, rfl, trivial⟩ (fun _ h => h)
        · have h4 := of_decide_eq_false h4b
          refine jc_exit ?_
          refine jq_then_exit ?_
          refine jq_then_exit ?_
          refine jq_in_hit ?_
          refine jq_in_normal ?_
          refine jq_then ?_
          refine jc_region ?_
          refine jo_pure rfl (pr_move rfl) ?_
          refine jo_pure rfl (pr_addN (m := i) (n := 1) rfl rfl (by omega)) ?_
          refine jo_pure rfl (pr_assign rfl) ?_
          refine jo_nil ?_
          refine j_drop ?_
          refine j_drop ?_
          refine jq_round' (i + 1) (by (try dsimp only); exact (⟨by omega, dist_go hinv.2 h3 (by have h9 := hink.2; rw [show k = i by omega] at h9; exact h9)⟩)) (by (try dsimp only); exact (by omega)) ⟨rfl, rfl, trivial⟩ (fun _ h => h)
    · have h2 := of_decide_eq_false h2b
      refine jc_exit ?_
      refine jq_then_exit ?_
      refine jq_then_exit ?_
      refine jq_in_hit ?_
      refine jq_then ?_
      refine jc_seq ?_
      refine jc_region ?_
      refine jo_pure rfl (pr_assign rfl) ?_
      refine jo_nil ?_
      refine jq_then ?_
      refine jc_ret ?_
      refine j_drop ?_
      exact jq_ret1 rfl () rfl (show (.bool (validL l) : Value) = (.bool (true)) from congrArg Value.bool (by rw [validL_yes (by omega), dist_done hinv.1 (by omega) hinv.2])) (fun _ h => h)

theorem c_variants_Parse (l : List ((List UInt8) × (List UInt8))) (lv : Value) (hl : l.length ≤ 1000000) (hm : ∀ x ∈ l, x.1.length ≤ 300000 ∧ x.2.length ≤ 300000) : Con Tryz.prog 23 #[lv] [.imm (.list (.pair .str .str)) (lv) (l)] (fun r1 : Value => .tuple #[r1, .int .i64 ((parseV l).2)]) (fun r1 => [.imm (.list (.pair .str (.list .str))) r1 ((parseV l).1)]) := by
  refine con_of_J (args := [lv]) (n := 52) Tryz.func23 rfl (Nat.le_of_ble_eq_true rfl) rfl (fun w0 I0 m0 => ?_)
  show J _ [(0, lv)] [.imm (.list (.pair .str .str)) (lv) (l)] _
  have hm6 : ∀ x ∈ l, x.1.length ≤ 1000000 ∧ x.2.length ≤ 1000000 := fun x hx => by have := hm x hx; omega
  have hM : ∀ x ∈ (allF l [86, 97, 114, 105, 97, 110, 116, 115]), x.length ≤ 300000 := allV_mem (getF_mem (n := 300000) hm)
  refine jc_seq ?_
  refine jc_region ?_
  refine jo_pure rfl (pr_assign rfl) ?_
  refine jo_pure rfl (pr_assign rfl) ?_
  refine jo_nil ?_
  refine jq_then ?_
  refine jc_seq ?_
  refine jc_seq ?_
  refine jc_region ?_
  refine jo_pure rfl (pr_move rfl) ?_
  refine jo_callp cal_57 (c_fieldline_Has l lv [86, 97, 114, 105, 97, 110, 116, 115] (by first | omega | rfl | exact hm6 | exact hmB | (have := getD_len (i := i) hM; simp only [List.length_take, List.length_drop]; omega) | (have := getD_len (i := i) hM; omega) | decide) (by first | omega | rfl | exact hm6 | exact hmB | (have := getD_len (i := i) hM; simp only [List.length_take, List.length_drop]; omega) | (have := getD_len (i := i) hM; omega) | decide) (by first | omega | rfl | exact hm6 | exact hmB | (have := getD_len (i := i) hM; simp only [List.length_take, List.length_drop]; omega) | (have := getD_len (i := i) hM; omega) | decide)) ⟨rfl, rfl, trivial⟩ rfl (⟨⟨rfl, .head _⟩, trivial⟩) (fun _ => ?_)
  refine jo_pure rfl (pr_not rfl) ?_
  refine jo_nil ?_
  refine jq_then ?_
  refine jc_cond rfl (fun h1b => ?_) (fun h1b => ?_)
  · have h1 := (fun q => id (bt_not q)) h1b
    refine jc_seq ?_
    refine jc_region ?_
    refine jo_pure rfl (pr_assign rfl) ?_
    refine jo_pure rfl (pr_assign rfl) ?_
    refine jo_nil ?_
    refine jq_then ?_
    refine jc_ret ?_
    refine jq_then_ret ?_
    refine j_nil_imm (.pair .str (.list .str)) ?_
    refine j_pull1 ?_
    refine j_drop ?_
    exact jq_rets (rs := [.tmp 2, .tmp 3]) (vs := [.slice none 0 0, .int .i64 ((12 : Nat) : Int)]) rfl (.slice none 0 0) ⟨resV_tmp rfl, resV_tmp rfl, trivial⟩ rfl (show (.tuple #[(.slice none 0 0), .int .i64 ((parseV l).2)] : Value) = (.tuple #[.slice none 0 0, .int .i64 ((12 : Nat) : Int)]) from by rw [parseV_no h1] <;> rfl) (fun _ h => by rw [parseV_no h1]; exact h)
  · have h1 := (fun q => id (bf_not q)) h1b
    refine jc_skip ?_
    refine jq_then ?_
    refine jc_seq ?_
    refine jc_region ?_
    refine jo_pure rfl (pr_assign rfl) ?_
    refine jo_nil ?_
    refine jq_then ?_
    refine jc_seq ?_
    refine jc_seq ?_
    refine jc_region ?_
    refine jo_pure rfl (pr_move rfl) ?_
    refine jo_callp cal_40 (c_list_All l lv [86, 97, 114, 105, 97, 110, 116, 115] (by first | omega | rfl | exact hm6 | exact hmB | (have := getD_len (i := i) hM; simp only [List.length_take, List.length_drop]; omega) | (have := getD_len (i := i) hM; omega) | decide) (by first | omega | rfl | exact hm6 | exact hmB | (have := getD_len (i := i) hM; simp only [List.length_take, List.length_drop]; omega) | (have := getD_len (i := i) hM; omega) | decide) (by first | omega | rfl | exact hm6 | exact hmB | (have := getD_len (i := i) hM; simp only [List.length_take, List.length_drop]; omega) | (have := getD_len (i := i) hM; omega) | decide)) ⟨rfl, rfl, trivial⟩ rfl (⟨⟨rfl, .head _⟩, trivial⟩) (fun r1 => ?_)
    show J _ _ [.imm (.list .str) (r1) (allF l [86, 97, 114, 105, 97, 110, 116, 115]), .imm (.list (.pair .str .str)) (lv) (l)] _
    refine jo_pure rfl (pr_len_imm rfl (.head _) Tryz.underlying45) ?_
    refine jo_pure rfl (pr_move rfl) ?_
    refine jo_nil ?_
    refine jq_then ?_
    refine jc_block ?_
    refine j_nil_row 48 (.pair .str (.list .str)) ?_
    refine jc_loop3 (fun (i : Nat) (w : Value) (acc : List (List UInt8 × List (List UInt8))) => [(4, w), (16, r1), (17, .int .i64 (((allF l [86, 97, 114, 105, 97, 110, 116, 115]).length : Nat) : Int)), (18, .int .i64 ((i : Nat) : Int))]) (fun (i : Nat) (w : Value) (acc : List (List UInt8 × List (List UInt8))) => [.row (w) 48 (.pair .str (.list .str)) (acc), .imm (.list .str) (r1) (allF l [86, 97, 114, 105, 97, 110, 116, 115]), .imm (.list (.pair .str .str)) (lv) (l)]) (fun (i : Nat) (w : Value) (acc : List (List UInt8 × List (List UInt8))) => i ≤ (allF l [86, 97, 114, 105, 97, 110, 116, 115]).length ∧ (allF l [86, 97, 114, 105, 97, 110, 116, 115]).length ≤ 64 ∧ acc.length ≤ i ∧ axsGo acc ((allF l [86, 97, 114, 105, 97, 110, 116, 115]).drop i) = axsGo [] (allF l [86, 97, 114, 105, 97, 110, 116, 115])) (fun (i : Nat) (w : Value) (acc : List (List UInt8 × List (List UInt8))) => (allF l [86, 97, 114, 105, 97, 110, 116, 115]).length - i) 0 (.slice none 0 0) [] (⟨Nat.zero_le _, allV_length _, Nat.le_refl _, by rw [List.drop_zero]⟩) (⟨rfl, rfl, rfl, rfl, trivial⟩) (fun _ h => h) (fun i w acc hinv => ?_)
    refine jc_seq ?_
    refine jc_region ?_
    refine jo_pure rfl (pr_lssN (m := i) (n := (allF l [86, 97, 114, 105, 97, 110, 116, 115]).length) rfl rfl) ?_
    refine jo_nil ?_
    refine jq_then ?_
    refine jc_seq ?_
    refine jc_cond rfl (fun h2b => ?_) (fun h2b => ?_)
    · have h2 := of_decide_eq_true h2b
      refine jc_skip ?_
      refine jq_then ?_
      refine jc_seq ?_
      refine jc_block ?_
      refine jc_seq ?_
      refine jc_region ?_
      refine jo_pure rfl (pr_idx_imm (i := i) rfl (.tail _ (.head _)) rfl Tryz.underlying45 ty_9 (by omega)) ?_
      refine jo_pure rfl (pr_load_elem_imm (i := i) (str ((allF l [86, 97, 114, 105, 97, 110, 116, 115]).getD i [])) rfl (.tail _ (.head _)) ty_9 rfl rfl (by omega) rfl) ?_
      refine jo_pure rfl (pr_assign rfl) ?_
      refine jo_nil ?_
      refine jq_then ?_
      refine jc_seq ?_
      refine jc_region ?_
      refine jo_pure rfl (pr_move rfl) ?_
      refine jo_callp cal_58 (c_strings_Cut ((allF l [86, 97, 114, 105, 97, 110, 116, 115]).getD i []) [61] 61 (by first | omega | rfl | exact hm6 | exact hmB | (have := getD_len (i := i) hM; simp only [List.length_take, List.length_drop]; omega) | (have := getD_len (i := i) hM; omega) | decide) (by first | omega | rfl | exact hm6 | exact hmB | (have := getD_len (i := i) hM; simp only [List.length_take, List.length_drop]; omega) | (have := getD_len (i := i) hM; omega) | decide)) ⟨rfl, rfl, trivial⟩ rfl (trivial) (fun _ => ?_)
      refine jo_pure rfl (pr_move rfl) ?_
      refine jo_pure rfl (pr_extract rfl rfl) ?_
      refine jo_pure rfl (pr_extract rfl rfl) ?_
      refine jo_pure rfl (pr_extract rfl rfl) ?_
      refine jo_pure rfl (pr_assign rfl) ?_
      refine jo_pure rfl (pr_assign rfl) ?_
      refine jo_pure rfl (pr_assign rfl) ?_
      refine jo_nil ?_
      refine jq_then ?_
      refine jc_seq ?_
      refine jc_region ?_
      refine jo_pure rfl (pr_move rfl) ?_
      refine jo_callp cal_41 (c_group_Read (((allF l [86, 97, 114, 105, 97, 110, 116, 115]).getD i []).drop (pos ((allF l [86, 97, 114, 105, 97, 110, 116, 115]).getD i []) 61 + 1)) (by first | omega | rfl | exact hm6 | exact hmB | (have := getD_len (i := i) hM; simp only [List.length_take, List.length_drop]; omega) | (have := getD_len (i := i) hM; omega) | decide)) ⟨rfl, trivial⟩ rfl (trivial) (fun r2 => ?_)
      show J _ _ [.imm (.list .str) (r2) ((readF (((allF l [86, 97, 114, 105, 97, 110, 116, 115]).getD i []).drop (pos ((allF l [86, 97, 114, 105, 97, 110, 116, 115]).getD i []) 61 + 1))).1), .row (w) 48 (.pair .str (.list .str)) (acc), .imm (.list .str) (r1) (allF l [86, 97, 114, 105, 97, 110, 116, 115]), .imm (.list (.pair .str .str)) (lv) (l)] _
      refine jo_pure rfl (pr_move rfl) ?_
      refine jo_pure rfl (pr_extract rfl rfl) ?_
      refine jo_pure rfl (pr_extract rfl rfl) ?_
      refine jo_pure rfl (pr_assign rfl) ?_
      refine jo_pure rfl (pr_assign rfl) ?_
      refine jo_nil ?_
      refine jq_then ?_
      refine jc_seq ?_
      refine jc_seq ?_
      refine jc_region ?_
      refine jo_pure rfl (pr_move rfl) ?_
      refine jo_pure rfl (pr_not rfl) ?_
      refine jo_pure rfl (pr_move rfl) ?_
      refine jo_gpure (j := 2) (want := false) rfl rfl rfl rfl (fun hg => pr_move rfl) ?_
      refine jo_gcall (j := 2) (want := false) rfl rfl rfl cal_50 (fun hg => c_ascii_Token (((allF l [86, 97, 114, 105, 97, 110, 116, 115]).getD i []).take (pos ((allF l [86, 97, 114, 105, 97, 110, 116, 115]).getD i []) 61)) (by first | omega | rfl | exact hm6 | exact hmB | (have := getD_len (i := i) hM; simp only [List.length_take, List.length_drop]; omega) | (have := getD_len (i := i) hM; omega) | decide)) (fun hg => ⟨evg rfl hg, trivial⟩) rfl (fun _ => trivial) ?_
      refine jo_gpure (j := 2) (want := false) rfl rfl rfl rfl (fun hg => pr_not (evg rfl hg)) ?_
      refine jo_pure rfl (pr_pick_or rfl rfl rfl) ?_
      refine jo_nil ?_
      refine jq_then ?_
      refine jc_cond rfl (fun h3b => ?_) (fun h3b => ?_)
      · have h3 := (fun q => Or.imp (fun q => id (bt_not q)) (fun q => id (bt_not q)) (bt_or q)) h3b
        refine jc_seq ?_
        refine jc_region ?_
        refine jo_pure rfl (pr_assign rfl) ?_
        refine jo_pure rfl (pr_assign rfl) ?_
        refine jo_nil ?_
        refine jq_then ?_
        refine jc_ret ?_
        refine jq_then_ret ?_
        refine jq_in_ret ?_
        refine jq_then_ret ?_
        refine jq_then_ret ?_
        refine jq_in_ret ?_
        refine jq_then_ret ?_
        refine j_nil_imm (.pair .str (.list .str)) ?_
        refine j_pull1 ?_
        refine j_drop ?_
        refine j_pull1 ?_
        refine j_drop ?_
        refine j_pull1 ?_
        refine j_drop ?_
        refine j_pull1 ?_
        refine j_drop ?_
        exact jq_rets (rs := [.tmp 2, .tmp 3]) (vs := [.slice none 0 0, .int .i64 ((1 : Nat) : Int)]) rfl (.slice none 0 0) ⟨resV_tmp rfl, resV_tmp rfl, trivial⟩ rfl (show (.tuple #[(.slice none 0 0), .int .i64 ((parseV l).2)] : Value) = (.tuple #[.slice none 0 0, .int .i64 ((1 : Nat) : Int)]) from by rw [parseV_bad h1 (axs_bad h2 (ax_bad (.inl h3)) hinv.2.2.2)] <;> rfl) (fun _ h => by rw [parseV_bad h1 (axs_bad h2 (ax_bad (.inl h3)) hinv.2.2.2)]; exact h)
      · have h3 := (fun q => And.imp (fun q => id (bf_not q)) (fun q => id (bf_not q)) (bf_or q)) h3b
        refine jc_skip ?_
        refine jq_then ?_
        refine jc_region ?_
        refine jo_pure rfl (pr_move rfl) ?_
        refine jo_pure rfl (pr_move rfl) ?_
        refine jo_callp cal_51 (c_ascii_Lower (((allF l [86, 97, 114, 105, 97, 110, 116, 115]).getD i []).take (pos ((allF l [86, 97, 114, 105, 97, 110, 116, 115]).getD i []) 61)) (by first | omega | rfl | exact hm6 | exact hmB | (have := getD_len (i := i) hM; simp only [List.length_take, List.length_drop]; omega) | (have := getD_len (i := i) hM; omega) | decide)) ⟨rfl, trivial⟩ rfl (trivial) (fun _ => ?_)
        refine jo_pure rfl (pr_move rfl) ?_
        refine jo_pure rfl (pr_buildV [(0, str (lower (((allF l [86, 97, 114, 105, 97, 110, 116, 115]).getD i []).take (pos ((allF l [86, 97, 114, 105, 97, 110, 116, 115]).getD i []) 61)))), (1, r2)] [str (lower (((allF l [86, 97, 114, 105, 97, 110, 116, 115]).getD i []).take (pos ((allF l [86, 97, 114, 105, 97, 110, 116, 115]).getD i []) 61))), r2] (fun a hf => by simp only [List.map_toArray, List.map_cons, List.map_nil, hf.ev (show ev _ (.tmp 42) = some (str (lower (((allF l [86, 97, 114, 105, 97, 110, 116, 115]).getD i []).take (pos ((allF l [86, 97, 114, 105, 97, 110, 116, 115]).getD i []) 61)))) from rfl), hf.ev (show ev _ (.tmp 43) = some (r2) from rfl)]) (fun w I m hs => by obtain ⟨_, _, _, e0⟩ := imm_slice (.head _) hs; rw [e0]; kernel_rfl)) ?_
        refine jo_buildSliceL (t := (.pair .str (.list .str))) [(lower (((allF l [86, 97, 114, 105, 97, 110, 116, 115]).getD i []).take (pos ((allF l [86, 97, 114, 105, 97, 110, 116, 115]).getD i []) 61)), (readF (((allF l [86, 97, 114, 105, 97, 110, 116, 115]).getD i []).drop (pos ((allF l [86, 97, 114, 105, 97, 110, 116, 115]).getD i []) 61 + 1))).1)] [.agg #[str (lower (((allF l [86, 97, 114, 105, 97, 110, 116, 115]).getD i []).take (pos ((allF l [86, 97, 114, 105, 97, 110, 116, 115]).getD i []) 61))), r2]] [[str (lower (((allF l [86, 97, 114, 105, 97, 110, 116, 115]).getD i []).take (pos ((allF l [86, 97, 114, 105, 97, 110, 116, 115]).getD i []) 61))), r2]] (fun a hf => by simp only [List.zipIdx_cons, List.zipIdx_nil, List.map_toArray, List.map_cons, List.map_nil, hf.ev (show ev _ (.tmp 44) = some (.agg #[str (lower (((allF l [86, 97, 114, 105, 97, 110, 116, 115]).getD i []).take (pos ((allF l [86, 97, 114, 105, 97, 110, 116, 115]).getD i []) 61))), r2]) from rfl)] <;> rfl) rfl ⟨⟨[str (lower (((allF l [86, 97, 114, 105, 97, 110, 116, 115]).getD i []).take (pos ((allF l [86, 97, 114, 105, 97, 110, 116, 115]).getD i []) 61)))], [r2], rfl, rfl, ⟨r2, rfl, .head _⟩⟩, trivial⟩ Tryz.underlying23 ty_48 rfl rfl rfl rfl (fun g1 => ?_)
        refine j_pull2 ?_
        refine jo_append rfl rfl Tryz.underlying23 ty_48 rfl (by simp only [List.length_append, List.length_cons, List.length_nil, maxLen]; omega) (by simp only [List.length_append, List.length_cons, List.length_nil]; omega) rfl (fun v1 => ?_)
        refine jo_pure rfl (pr_assign rfl) ?_
        refine jo_nil ?_
        refine jq_in_normal ?_
        refine jq_then ?_
        refine jc_region ?_
        refine jo_pure rfl (pr_addN (m := i) (n := 1) rfl rfl (by omega)) ?_
        refine jo_pure rfl (pr_move rfl) ?_
        refine jo_nil ?_
        refine j_pull1 ?_
        refine j_drop ?_
        refine j_pull2 ?_
        refine j_pull2 ?_
        refine j_pull2 ?_
        refine jq_round' ((i + 1), v1, (acc ++ [(lower (((allF l [86, 97, 114, 105, 97, 110, 116, 115]).getD i []).take (pos ((allF l [86, 97, 114, 105, 97, 110, 116, 115]).getD i []) 61)), (readF (((allF l [86, 97, 114, 105, 97, 110, 116, 115]).getD i []).drop (pos ((allF l [86, 97, 114, 105, 97, 110, 116, 115]).getD i []) 61 + 1))).1)])) (by (try dsimp only); exact (⟨by omega, hinv.2.1, by simp only [List.length_append, List.length_cons, List.length_nil]; omega, axs_go h2 (ax_good h3.1 h3.2) hinv.2.2.2⟩)) (by (try dsimp only); exact (by omega)) ⟨rfl, rfl, rfl, rfl, trivial⟩ (fun _ h => h)
    · have h2 := of_decide_eq_false h2b
      have hout : axsGo [] (allF l [86, 97, 114, 105, 97, 110, 116, 115]) = some acc := axs_end (by omega) hinv.2.2.2
      have hmA := axsGo_mem (n := 300000) _ _ _ hout hM (fun a ha => absurd ha (by simp))
      have hmB : ∀ a ∈ acc, a.1.length ≤ 1000000 ∧ (∀ x ∈ a.2, x.length ≤ 300000) ∧ a.2.length ≤ 9223372036854775807 := fun a ha => by have := hmA a ha; exact ⟨by omega, this.2.2, by omega⟩
      refine jc_exit ?_
      refine jq_then_exit ?_
      refine jq_then_exit ?_
      refine jq_in_hit ?_
      refine jq_then ?_
      refine jc_seq ?_
      refine jc_seq ?_
      refine jc_region ?_
      refine jo_pure rfl (pr_move rfl) ?_
      refine j_pub_row ?_
      refine jo_callp cal_18 (c_variants_Valid acc w (by first | omega | rfl | exact hm6 | exact hmB | (have := getD_len (i := i) hM; simp only [List.length_take, List.length_drop]; omega) | (have := getD_len (i := i) hM; omega) | decide) (by first | omega | rfl | exact hm6 | exact hmB | (have := getD_len (i := i) hM; simp only [List.length_take, List.length_drop]; omega) | (have := getD_len (i := i) hM; omega) | decide)) ⟨rfl, trivial⟩ rfl (⟨⟨rfl, .head _⟩, trivial⟩) (fun _ => ?_)
      refine jo_pure rfl (pr_not rfl) ?_
      refine jo_nil ?_
      refine jq_then ?_
      refine jc_cond rfl (fun h4b => ?_) (fun h4b => ?_)
      · have h4 := (fun q => id (bt_not q)) h4b
        refine jc_seq ?_
        refine jc_region ?_
        refine jo_pure rfl (pr_assign rfl) ?_
        refine jo_pure rfl (pr_assign rfl) ?_
        refine jo_nil ?_
        refine jq_then ?_
        refine jc_ret ?_
        refine jq_then_ret ?_
        refine j_nil_imm (.pair .str (.list .str)) ?_
        refine j_pull1 ?_
        refine j_drop ?_
        refine j_pull1 ?_
        refine j_drop ?_
        refine j_pull1 ?_
        refine j_drop ?_
        exact jq_rets (rs := [.tmp 2, .tmp 3]) (vs := [.slice none 0 0, .int .i64 ((11 : Nat) : Int)]) rfl (.slice none 0 0) ⟨resV_tmp rfl, resV_tmp rfl, trivial⟩ rfl (show (.tuple #[(.slice none 0 0), .int .i64 ((parseV l).2)] : Value) = (.tuple #[.slice none 0 0, .int .i64 ((11 : Nat) : Int)]) from by rw [parseV_lim h1 hout h4] <;> rfl) (fun _ h => by rw [parseV_lim h1 hout h4]; exact h)
      · have h4 := (fun q => id (bf_not q)) h4b
        refine jc_skip ?_
        refine jq_then ?_
        refine jc_seq ?_
        refine jc_region ?_
        refine jo_pure rfl (pr_move rfl) ?_
        refine jo_pure rfl (pr_assign rfl) ?_
        refine jo_pure rfl (pr_assign rfl) ?_
        refine jo_nil ?_
        refine jq_then ?_
        refine jc_ret ?_
        refine j_pull1 ?_
        refine j_drop ?_
        refine j_pull1 ?_
        refine j_drop ?_
        exact jq_rets (rs := [.tmp 2, .tmp 3]) (vs := [w, .int .i64 ((0 : Nat) : Int)]) rfl w ⟨resV_tmp rfl, resV_tmp rfl, trivial⟩ rfl (show (.tuple #[w, .int .i64 ((parseV l).2)] : Value) = (.tuple #[w, .int .i64 ((0 : Nat) : Int)]) from by rw [parseV_ok h1 hout h4] <;> rfl) (fun _ h => by rw [parseV_ok h1 hout h4]; exact h)

theorem c_ref10_ParseVariants (l : List ((List UInt8) × (List UInt8))) (lv : Value) (hl : l.length ≤ 1000000) (hm : ∀ x ∈ l, x.1.length ≤ 300000 ∧ x.2.length ≤ 300000) : Con Tryz.prog 24 #[lv] [.imm (.list (.pair .str .str)) (lv) (l)] (fun r1 : Value => .tuple #[r1, .int .i64 ((parseV l).2)]) (fun r1 => [.imm (.list (.pair .str (.list .str))) r1 ((parseV l).1)]) := by
  refine con_of_J (args := [lv]) (n := 67) Tryz.func24 rfl (Nat.le_of_ble_eq_true rfl) rfl (fun w0 I0 m0 => ?_)
  show J _ [(0, lv)] [.imm (.list (.pair .str .str)) (lv) (l)] _
  have hm6 : ∀ x ∈ l, x.1.length ≤ 1000000 ∧ x.2.length ≤ 1000000 := fun x hx => by have := hm x hx; omega
  have hM : ∀ x ∈ (allF l [86, 97, 114, 105, 97, 110, 116, 115]), x.length ≤ 300000 := allV_mem (getF_mem (n := 300000) hm)
  refine jc_seq ?_
  refine jc_region ?_
  refine jo_pure rfl (pr_assign rfl) ?_
  refine jo_pure rfl (pr_assign rfl) ?_
  refine jo_nil ?_
  refine jq_then ?_
  refine jc_seq ?_
  refine jc_seq ?_
  refine jc_region ?_
  refine jo_pure rfl (pr_move rfl) ?_
  refine jo_callp cal_59 (c_ref01_Has l lv [86, 97, 114, 105, 97, 110, 116, 115] (by first | omega | rfl | exact hm6 | exact hmB | (have := getD_len (i := i) hM; simp only [List.length_take, List.length_drop]; omega) | (have := getD_len (i := i) hM; omega) | decide) (by first | omega | rfl | exact hm6 | exact hmB | (have := getD_len (i := i) hM; simp only [List.length_take, List.length_drop]; omega) | (have := getD_len (i := i) hM; omega) | decide) (by first | omega | rfl | exact hm6 | exact hmB | (have := getD_len (i := i) hM; simp only [List.length_take, List.length_drop]; omega) | (have := getD_len (i := i) hM; omega) | decide)) ⟨rfl, rfl, trivial⟩ rfl (⟨⟨rfl, .head _⟩, trivial⟩) (fun _ => ?_)
  refine jo_pure rfl (pr_not rfl) ?_
  refine jo_nil ?_
  refine jq_then ?_
  refine jc_cond rfl (fun h1b => ?_) (fun h1b => ?_)
  · have h1 := (fun q => id (bt_not q)) h1b
    refine jc_seq ?_
    refine jc_region ?_
    refine jo_pure rfl (pr_assign rfl) ?_
    refine jo_pure rfl (pr_assign rfl) ?_
    refine jo_nil ?_
    refine jq_then ?_
    refine jc_ret ?_
    refine jq_then_ret ?_
    refine j_nil_imm (.pair .str (.list .str)) ?_
    refine j_pull1 ?_
    refine j_drop ?_
    exact jq_rets (rs := [.tmp 2, .tmp 3]) (vs := [.slice none 0 0, .int .i64 ((12 : Nat) : Int)]) rfl (.slice none 0 0) ⟨resV_tmp rfl, resV_tmp rfl, trivial⟩ rfl (show (.tuple #[(.slice none 0 0), .int .i64 ((parseV l).2)] : Value) = (.tuple #[.slice none 0 0, .int .i64 ((12 : Nat) : Int)]) from by rw [parseV_no h1] <;> rfl) (fun _ h => by rw [parseV_no h1]; exact h)
  · have h1 := (fun q => id (bf_not q)) h1b
    refine jc_skip ?_
    refine jq_then ?_
    refine jc_seq ?_
    refine jc_region ?_
    refine jo_pure rfl (pr_move rfl) ?_
    refine jo_callp cal_46 (c_ref01_All l lv [86, 97, 114, 105, 97, 110, 116, 115] (by first | omega | rfl | exact hm6 | exact hmB | (have := getD_len (i := i) hM; simp only [List.length_take, List.length_drop]; omega) | (have := getD_len (i := i) hM; omega) | decide) (by first | omega | rfl | exact hm6 | exact hmB | (have := getD_len (i := i) hM; simp only [List.length_take, List.length_drop]; omega) | (have := getD_len (i := i) hM; omega) | decide) (by first | omega | rfl | exact hm6 | exact hmB | (have := getD_len (i := i) hM; simp only [List.length_take, List.length_drop]; omega) | (have := getD_len (i := i) hM; omega) | decide)) ⟨rfl, rfl, trivial⟩ rfl (⟨⟨rfl, .head _⟩, trivial⟩) (fun r1 => ?_)
    show J _ _ [.row (r1) 9 .str (allF l [86, 97, 114, 105, 97, 110, 116, 115]), .imm (.list (.pair .str .str)) (lv) (l)] _
    refine jo_pure rfl (pr_assign rfl) ?_
    refine jo_nil ?_
    refine jq_then ?_
    refine jc_seq ?_
    refine jc_region ?_
    refine jo_pure rfl (pr_assign rfl) ?_
    refine jo_nil ?_
    refine jq_then ?_
    refine jc_seq ?_
    refine jc_seq ?_
    refine jc_region ?_
    refine jo_pure rfl (pr_assign rfl) ?_
    refine jo_nil ?_
    refine jq_then ?_
    refine jc_block ?_
    refine j_nil_row 48 (.pair .str (.list .str)) ?_
    refine jc_loop3 (fun (i : Nat) (w : Value) (acc : List (List UInt8 × List (List UInt8))) => [(4, r1), (5, w), (6, .int .i64 ((i : Nat) : Int))]) (fun (i : Nat) (w : Value) (acc : List (List UInt8 × List (List UInt8))) => [.row (w) 48 (.pair .str (.list .str)) (acc), .row (r1) 9 .str (allF l [86, 97, 114, 105, 97, 110, 116, 115]), .imm (.list (.pair .str .str)) (lv) (l)]) (fun (i : Nat) (w : Value) (acc : List (List UInt8 × List (List UInt8))) => i ≤ (allF l [86, 97, 114, 105, 97, 110, 116, 115]).length ∧ (allF l [86, 97, 114, 105, 97, 110, 116, 115]).length ≤ 64 ∧ acc.length ≤ i ∧ axsGo acc ((allF l [86, 97, 114, 105, 97, 110, 116, 115]).drop i) = axsGo [] (allF l [86, 97, 114, 105, 97, 110, 116, 115])) (fun (i : Nat) (w : Value) (acc : List (List UInt8 × List (List UInt8))) => (allF l [86, 97, 114, 105, 97, 110, 116, 115]).length - i) 0 (.slice none 0 0) [] (⟨Nat.zero_le _, allV_length _, Nat.le_refl _, by rw [List.drop_zero]⟩) (⟨rfl, rfl, rfl, trivial⟩) (fun _ h => h) (fun i w acc hinv => ?_)
    refine jc_seq ?_
    refine jc_seq ?_
    refine jc_region ?_
    refine jo_pure rfl (pr_move rfl) ?_
    refine jo_pure rfl (pr_move rfl) ?_
    refine jo_pure rfl (pr_len_row rfl (.tail _ (.head _)) Tryz.underlying45) ?_
    refine jo_pure rfl (pr_lssN (m := i) (n := (allF l [86, 97, 114, 105, 97, 110, 116, 115]).length) rfl rfl) ?_
    refine jo_nil ?_
    refine jq_then ?_
    refine jc_cond rfl (fun h2b => ?_) (fun h2b => ?_)
    · have h2 := of_decide_eq_true h2b
      refine jc_skip ?_
      refine jq_then ?_
      refine jc_seq ?_
      refine jc_block ?_
      refine jc_seq ?_
      refine jc_region ?_
      refine jo_pure rfl (pr_move rfl) ?_
      refine jo_pure rfl (pr_move rfl) ?_
      refine jo_pure rfl (pr_idx_row (i := i) rfl (.tail _ (.head _)) rfl Tryz.underlying45 ty_9 (by omega)) ?_
      refine jo_pure rfl (pr_load_elem_row (i := i) (str ((allF l [86, 97, 114, 105, 97, 110, 116, 115]).getD i [])) rfl (.tail _ (.head _)) ty_9 rfl rfl (by omega) rfl) ?_
      refine jo_callp cal_60 (c_ref01_Index ((allF l [86, 97, 114, 105, 97, 110, 116, 115]).getD i []) 61 0 (by first | omega | rfl | exact hm6 | exact hmB | (have := getD_len (i := i) hM; simp only [List.length_take, List.length_drop]; omega) | (have := getD_len (i := i) hM; omega) | decide)) ⟨rfl, rfl, rfl, trivial⟩ rfl (trivial) (fun _ => ?_)
      refine jo_pure rfl (pr_assign rfl) ?_
      refine jo_nil ?_
      refine jq_then ?_
      refine jc_seq ?_
      refine jc_seq ?_
      by_cases hc : pos ((allF l [86, 97, 114, 105, 97, 110, 116, 115]).getD i []) 61 < ((allF l [86, 97, 114, 105, 97, 110, 116, 115]).getD i []).length
      · skip
        rw [show (idxF ((allF l [86, 97, 114, 105, 97, 110, 116, 115]).getD i []) 61 0 : Int) = ((pos ((allF l [86, 97, 114, 105, 97, 110, 116, 115]).getD i []) 61 : Nat) : Int) from by rw [idxF_zero, idx_found hc]]
        refine jc_region ?_
        refine jo_pure rfl (pr_move rfl) ?_
        refine jo_pure rfl (pr_lssN (m := pos ((allF l [86, 97, 114, 105, 97, 110, 116, 115]).getD i []) 61) (n := 0) rfl rfl) ?_
        refine jo_pure rfl (pr_move rfl) ?_
        refine jo_run (j := 2) (want := false) rfl rfl (by simp) ?_
        refine jo_pure rfl (pr_move rfl) ?_
        refine jo_run (j := 2) (want := false) rfl rfl (by simp) ?_
        refine jo_pure rfl (pr_move rfl) ?_
        refine jo_run (j := 2) (want := false) rfl rfl (by simp) ?_
        refine jo_pure rfl (pr_idx_row (i := i) rfl (.tail _ (.head _)) rfl Tryz.underlying45 ty_9 (by omega)) ?_
        refine jo_run (j := 2) (want := false) rfl rfl (by simp) ?_
        refine jo_pure rfl (pr_load_elem_row (i := i) (str ((allF l [86, 97, 114, 105, 97, 110, 116, 115]).getD i [])) rfl (.tail _ (.head _)) ty_9 rfl rfl (by omega) rfl) ?_
        refine jo_run (j := 2) (want := false) rfl rfl (by simp) ?_
        refine jo_pure rfl (pr_move rfl) ?_
        refine jo_run (j := 2) (want := false) rfl rfl (by simp) ?_
        refine jo_pure rfl (pr_sslice_hi (j := pos ((allF l [86, 97, 114, 105, 97, 110, 116, 115]).getD i []) 61) rfl rfl Tryz.underlying9 (by omega)) ?_
        refine jo_run (j := 2) (want := false) rfl rfl (by simp) ?_
        refine jo_callp cal_61 (c_ref01_Token (((allF l [86, 97, 114, 105, 97, 110, 116, 115]).getD i []).take (pos ((allF l [86, 97, 114, 105, 97, 110, 116, 115]).getD i []) 61)) (by first | omega | rfl | exact hm6 | exact hmB | (have := getD_len (i := i) hM; simp only [List.length_take, List.length_drop]; omega) | (have := getD_len (i := i) hM; omega) | decide)) ⟨rfl, trivial⟩ rfl (trivial) (fun _ => ?_)
        refine jo_run (j := 2) (want := false) rfl rfl (by simp) ?_
        refine jo_pure rfl (pr_not rfl) ?_
        refine jo_pure rfl (pr_pick_f rfl (by simp) rfl) ?_
        refine jo_nil ?_
        refine jq_then ?_
        refine jc_cond rfl (fun h3b => ?_) (fun h3b => ?_)
        · have h3 := (fun q => id (bt_not q)) h3b
          refine jc_seq ?_
          refine jc_region ?_
          refine jo_pure rfl (pr_assign rfl) ?_
          refine jo_pure rfl (pr_assign rfl) ?_
          refine jo_nil ?_
          refine jq_then ?_
          refine jc_ret ?_
          refine jq_then_ret ?_
          refine jq_in_ret ?_
          refine jq_then_ret ?_
          refine jq_then_ret ?_
          refine jq_in_ret ?_
          refine jq_then_ret ?_
          refine j_nil_imm (.pair .str (.list .str)) ?_
          refine j_pull1 ?_
          refine j_drop ?_
          refine j_pull1 ?_
          refine j_drop ?_
          refine j_pull1 ?_
          refine j_drop ?_
          exact jq_rets (rs := [.tmp 2, .tmp 3]) (vs := [.slice none 0 0, .int .i64 ((1 : Nat) : Int)]) rfl (.slice none 0 0) ⟨resV_tmp rfl, resV_tmp rfl, trivial⟩ rfl (show (.tuple #[(.slice none 0 0), .int .i64 ((parseV l).2)] : Value) = (.tuple #[.slice none 0 0, .int .i64 ((1 : Nat) : Int)]) from by rw [parseV_bad h1 (axs_bad h2 (ax_bad (.inl (.inr h3))) hinv.2.2.2)] <;> rfl) (fun _ h => by rw [parseV_bad h1 (axs_bad h2 (ax_bad (.inl (.inr h3))) hinv.2.2.2)]; exact h)
        · have h3 := (fun q => id (bf_not q)) h3b
          refine jc_skip ?_
          refine jq_then ?_
          refine jc_seq ?_
          refine jc_region ?_
          refine jo_pure rfl (pr_move rfl) ?_
          refine jo_pure rfl (pr_move rfl) ?_
          refine jo_pure rfl (pr_idx_row (i := i) rfl (.tail _ (.head _)) rfl Tryz.underlying45 ty_9 (by omega)) ?_
          refine jo_pure rfl (pr_load_elem_row (i := i) (str ((allF l [86, 97, 114, 105, 97, 110, 116, 115]).getD i [])) rfl (.tail _ (.head _)) ty_9 rfl rfl (by omega) rfl) ?_
          refine jo_pure rfl (pr_move rfl) ?_
          refine jo_pure rfl (pr_addN (m := pos ((allF l [86, 97, 114, 105, 97, 110, 116, 115]).getD i []) 61) (n := 1) rfl rfl (by have := getD_len (i := i) hM; omega)) ?_
          refine jo_pure rfl (pr_sslice_lo (i := (pos ((allF l [86, 97, 114, 105, 97, 110, 116, 115]).getD i []) 61) + 1) rfl rfl Tryz.underlying9 (by omega)) ?_
          refine jo_callp cal_47 (c_ref10_values (((allF l [86, 97, 114, 105, 97, 110, 116, 115]).getD i []).drop ((pos ((allF l [86, 97, 114, 105, 97, 110, 116, 115]).getD i []) 61) + 1)) (by first | omega | rfl | exact hm6 | exact hmB | (have := getD_len (i := i) hM; simp only [List.length_take, List.length_drop]; omega) | (have := getD_len (i := i) hM; omega) | decide)) ⟨rfl, trivial⟩ rfl (trivial) (fun r2 => ?_)
          show J _ _ [.imm (.list .str) (r2) ((readF (((allF l [86, 97, 114, 105, 97, 110, 116, 115]).getD i []).drop ((pos ((allF l [86, 97, 114, 105, 97, 110, 116, 115]).getD i []) 61) + 1))).1), .row (w) 48 (.pair .str (.list .str)) (acc), .row (r1) 9 .str (allF l [86, 97, 114, 105, 97, 110, 116, 115]), .imm (.list (.pair .str .str)) (lv) (l)] _
          refine jo_pure rfl (pr_move rfl) ?_
          refine jo_pure rfl (pr_extract rfl rfl) ?_
          refine jo_pure rfl (pr_extract rfl rfl) ?_
          refine jo_pure rfl (pr_assign rfl) ?_
          refine jo_pure rfl (pr_assign rfl) ?_
          refine jo_nil ?_
          refine jq_then ?_
          refine jc_seq ?_
          refine jc_seq ?_
          refine jc_region ?_
          refine jo_pure rfl (pr_move rfl) ?_
          refine jo_pure rfl (pr_not rfl) ?_
          refine jo_nil ?_
          refine jq_then ?_
          refine jc_cond rfl (fun h4b => ?_) (fun h4b => ?_)
          · have h4 := (fun q => id (bt_not q)) h4b
            refine jc_seq ?_
            refine jc_region ?_
            refine jo_pure rfl (pr_assign rfl) ?_
            refine jo_pure rfl (pr_assign rfl) ?_
            refine jo_nil ?_
            refine jq_then ?_
            refine jc_ret ?_
            refine jq_then_ret ?_
            refine jq_in_ret ?_
            refine jq_then_ret ?_
            refine jq_then_ret ?_
            refine jq_in_ret ?_
            refine jq_then_ret ?_
            refine j_nil_imm (.pair .str (.list .str)) ?_
            refine j_pull1 ?_
            refine j_drop ?_
            refine j_pull1 ?_
            refine j_drop ?_
            refine j_pull1 ?_
            refine j_drop ?_
            refine j_pull1 ?_
            refine j_drop ?_
            exact jq_rets (rs := [.tmp 2, .tmp 3]) (vs := [.slice none 0 0, .int .i64 ((1 : Nat) : Int)]) rfl (.slice none 0 0) ⟨resV_tmp rfl, resV_tmp rfl, trivial⟩ rfl (show (.tuple #[(.slice none 0 0), .int .i64 ((parseV l).2)] : Value) = (.tuple #[.slice none 0 0, .int .i64 ((1 : Nat) : Int)]) from by rw [parseV_bad h1 (axs_bad h2 (ax_bad (.inl (.inl h4))) hinv.2.2.2)] <;> rfl) (fun _ h => by rw [parseV_bad h1 (axs_bad h2 (ax_bad (.inl (.inl h4))) hinv.2.2.2)]; exact h)
          · have h4 := (fun q => id (bf_not q)) h4b
            refine jc_skip ?_
            refine jq_then ?_
            refine jc_region ?_
            refine jo_pure rfl (pr_move rfl) ?_
            refine jo_pure rfl (pr_move rfl) ?_
            refine jo_pure rfl (pr_move rfl) ?_
            refine jo_pure rfl (pr_idx_row (i := i) rfl (.tail _ (.tail _ (.head _))) rfl Tryz.underlying45 ty_9 (by omega)) ?_
            refine jo_pure rfl (pr_load_elem_row (i := i) (str ((allF l [86, 97, 114, 105, 97, 110, 116, 115]).getD i [])) rfl (.tail _ (.tail _ (.head _))) ty_9 rfl rfl (by omega) rfl) ?_
            refine jo_pure rfl (pr_move rfl) ?_
            refine jo_pure rfl (pr_sslice_hi (j := pos ((allF l [86, 97, 114, 105, 97, 110, 116, 115]).getD i []) 61) rfl rfl Tryz.underlying9 (by omega)) ?_
            refine jo_callp cal_31 (c_ref01_Lower (((allF l [86, 97, 114, 105, 97, 110, 116, 115]).getD i []).take (pos ((allF l [86, 97, 114, 105, 97, 110, 116, 115]).getD i []) 61)) (by first | omega | rfl | exact hm6 | exact hmB | (have := getD_len (i := i) hM; simp only [List.length_take, List.length_drop]; omega) | (have := getD_len (i := i) hM; omega) | decide)) ⟨rfl, trivial⟩ rfl (trivial) (fun _ => ?_)
            refine jo_pure rfl (pr_move rfl) ?_
            refine jo_pure rfl (pr_buildV [(0, str (lower (((allF l [86, 97, 114, 105, 97, 110, 116, 115]).getD i []).take (pos ((allF l [86, 97, 114, 105, 97, 110, 116, 115]).getD i []) 61)))), (1, r2)] [str (lower (((allF l [86, 97, 114, 105, 97, 110, 116, 115]).getD i []).take (pos ((allF l [86, 97, 114, 105, 97, 110, 116, 115]).getD i []) 61))), r2] (fun a hf => by simp only [List.map_toArray, List.map_cons, List.map_nil, hf.ev (show ev _ (.tmp 58) = some (str (lower (((allF l [86, 97, 114, 105, 97, 110, 116, 115]).getD i []).take (pos ((allF l [86, 97, 114, 105, 97, 110, 116, 115]).getD i []) 61)))) from rfl), hf.ev (show ev _ (.tmp 59) = some (r2) from rfl)]) (fun w I m hs => by obtain ⟨_, _, _, e0⟩ := imm_slice (.head _) hs; rw [e0]; kernel_rfl)) ?_
            refine jo_buildSliceL (t := (.pair .str (.list .str))) [(lower (((allF l [86, 97, 114, 105, 97, 110, 116, 115]).getD i []).take (pos ((allF l [86, 97, 114, 105, 97, 110, 116, 115]).getD i []) 61)), (readF (((allF l [86, 97, 114, 105, 97, 110, 116, 115]).getD i []).drop ((pos ((allF l [86, 97, 114, 105, 97, 110, 116, 115]).getD i []) 61) + 1))).1)] [.agg #[str (lower (((allF l [86, 97, 114, 105, 97, 110, 116, 115]).getD i []).take (pos ((allF l [86, 97, 114, 105, 97, 110, 116, 115]).getD i []) 61))), r2]] [[str (lower (((allF l [86, 97, 114, 105, 97, 110, 116, 115]).getD i []).take (pos ((allF l [86, 97, 114, 105, 97, 110, 116, 115]).getD i []) 61))), r2]] (fun a hf => by simp only [List.zipIdx_cons, List.zipIdx_nil, List.map_toArray, List.map_cons, List.map_nil, hf.ev (show ev _ (.tmp 60) = some (.agg #[str (lower (((allF l [86, 97, 114, 105, 97, 110, 116, 115]).getD i []).take (pos ((allF l [86, 97, 114, 105, 97, 110, 116, 115]).getD i []) 61))), r2]) from rfl)] <;> rfl) rfl ⟨⟨[str (lower (((allF l [86, 97, 114, 105, 97, 110, 116, 115]).getD i []).take (pos ((allF l [86, 97, 114, 105, 97, 110, 116, 115]).getD i []) 61)))], [r2], rfl, rfl, ⟨r2, rfl, .head _⟩⟩, trivial⟩ Tryz.underlying23 ty_48 rfl rfl rfl rfl (fun g1 => ?_)
            refine j_pull2 ?_
            refine jo_append rfl rfl Tryz.underlying23 ty_48 rfl (by simp only [List.length_append, List.length_cons, List.length_nil, maxLen]; omega) (by simp only [List.length_append, List.length_cons, List.length_nil]; omega) rfl (fun v1 => ?_)
            refine jo_pure rfl (pr_assign rfl) ?_
            refine jo_nil ?_
            refine jq_in_normal ?_
            refine jq_then ?_
            refine jc_region ?_
            refine jo_pure rfl (pr_move rfl) ?_
            refine jo_pure rfl (pr_addN (m := i) (n := 1) rfl rfl (by have := getD_len (i := i) hM; omega)) ?_
            refine jo_pure rfl (pr_assign rfl) ?_
            refine jo_nil ?_
            refine j_pull1 ?_
            refine j_drop ?_
            refine j_pull2 ?_
            refine j_pull2 ?_
            refine j_pull2 ?_
            refine jq_round' ((i + 1), v1, (acc ++ [(lower (((allF l [86, 97, 114, 105, 97, 110, 116, 115]).getD i []).take (pos ((allF l [86, 97, 114, 105, 97, 110, 116, 115]).getD i []) 61)), (readF (((allF l [86, 97, 114, 105, 97, 110, 116, 115]).getD i []).drop ((pos ((allF l [86, 97, 114, 105, 97, 110, 116, 115]).getD i []) 61) + 1))).1)])) (by (try dsimp only); exact (⟨by omega, hinv.2.1, by simp only [List.length_append, List.length_cons, List.length_nil]; omega, axs_go h2 (ax_good h4 h3) hinv.2.2.2⟩)) (by (try dsimp only); exact (by omega)) ⟨rfl, rfl, rfl, trivial⟩ (fun _ h => h)
      · skip
        rw [show (idxF ((allF l [86, 97, 114, 105, 97, 110, 116, 115]).getD i []) 61 0 : Int) = -1 from by rw [idxF_zero, idx_none hc]]
        refine jc_region ?_
        refine jo_pure rfl (pr_move rfl) ?_
        refine jo_pure rfl (pr_lss (n := 0) rfl rfl) ?_
        refine jo_pure rfl (pr_move rfl) ?_
        refine jo_skipu (j := 2) (want := false) rfl rfl (by decide) rfl ?_
        refine jo_skipu (j := 2) (want := false) rfl rfl (by decide) rfl ?_
        refine jo_skipu (j := 2) (want := false) rfl rfl (by decide) rfl ?_
        refine jo_skipu (j := 2) (want := false) rfl rfl (by decide) rfl ?_
        refine jo_skipu (j := 2) (want := false) rfl rfl (by decide) rfl ?_
        refine jo_skipu (j := 2) (want := false) rfl rfl (by decide) rfl ?_
        refine jo_skipu (j := 2) (want := false) rfl rfl (by decide) rfl ?_
        refine jo_skipu (j := 2) (want := false) rfl rfl (by decide) rfl ?_
        refine jo_pure rfl (pr_pick_t rfl (by decide) rfl) ?_
        refine jo_nil ?_
        refine jq_then ?_
        refine jc_true rfl (rfl) ?_
        refine jc_seq ?_
        refine jc_region ?_
        refine jo_pure rfl (pr_assign rfl) ?_
        refine jo_pure rfl (pr_assign rfl) ?_
        refine jo_nil ?_
        refine jq_then ?_
        refine jc_ret ?_
        refine jq_then_ret ?_
        refine jq_in_ret ?_
        refine jq_then_ret ?_
        refine jq_then_ret ?_
        refine jq_in_ret ?_
        refine jq_then_ret ?_
        refine j_nil_imm (.pair .str (.list .str)) ?_
        refine j_pull1 ?_
        refine j_drop ?_
        refine j_pull1 ?_
        refine j_drop ?_
        refine j_pull1 ?_
        refine j_drop ?_
        exact jq_rets (rs := [.tmp 2, .tmp 3]) (vs := [.slice none 0 0, .int .i64 ((1 : Nat) : Int)]) rfl (.slice none 0 0) ⟨resV_tmp rfl, resV_tmp rfl, trivial⟩ rfl (show (.tuple #[(.slice none 0 0), .int .i64 ((parseV l).2)] : Value) = (.tuple #[.slice none 0 0, .int .i64 ((1 : Nat) : Int)]) from by rw [parseV_bad h1 (axs_bad h2 (ax_bad (.inr hc)) hinv.2.2.2)] <;> rfl) (fun _ h => by rw [parseV_bad h1 (axs_bad h2 (ax_bad (.inr hc)) hinv.2.2.2)]; exact h)
    · have h2 := of_decide_eq_false h2b
      have hout : axsGo [] (allF l [86, 97, 114, 105, 97, 110, 116, 115]) = some acc := axs_end (by omega) hinv.2.2.2
      have hmA := axsGo_mem (n := 300000) _ _ _ hout hM (fun a ha => absurd ha (by simp))
      have hmB : ∀ a ∈ acc, a.1.length ≤ 1000000 ∧ (∀ x ∈ a.2, x.length ≤ 300000) ∧ a.2.length ≤ 9223372036854775807 := fun a ha => by have := hmA a ha; exact ⟨by omega, this.2.2, by omega⟩
      refine jc_exit ?_
      refine jq_then_exit ?_
      refine jq_then_exit ?_
      refine jq_in_hit ?_
      refine jq_then ?_
      refine jc_seq ?_
      refine jc_seq ?_
      refine jc_region ?_
      refine jo_pure rfl (pr_move rfl) ?_
      refine j_pub_row ?_
      refine jo_callp cal_19 (c_ref10_Valid acc w (by first | omega | rfl | exact hm6 | exact hmB | (have := getD_len (i := i) hM; simp only [List.length_take, List.length_drop]; omega) | (have := getD_len (i := i) hM; omega) | decide) (by first | omega | rfl | exact hm6 | exact hmB | (have := getD_len (i := i) hM; simp only [List.length_take, List.length_drop]; omega) | (have := getD_len (i := i) hM; omega) | decide)) ⟨rfl, trivial⟩ rfl (⟨⟨rfl, .head _⟩, trivial⟩) (fun _ => ?_)
      refine jo_pure rfl (pr_not rfl) ?_
      refine jo_nil ?_
      refine jq_then ?_
      refine jc_cond rfl (fun h5b => ?_) (fun h5b => ?_)
      · have h5 := (fun q => id (bt_not q)) h5b
        refine jc_seq ?_
        refine jc_region ?_
        refine jo_pure rfl (pr_assign rfl) ?_
        refine jo_pure rfl (pr_assign rfl) ?_
        refine jo_nil ?_
        refine jq_then ?_
        refine jc_ret ?_
        refine jq_then_ret ?_
        refine j_nil_imm (.pair .str (.list .str)) ?_
        refine j_pull1 ?_
        refine j_drop ?_
        refine j_pull1 ?_
        refine j_drop ?_
        refine j_pull1 ?_
        refine j_drop ?_
        exact jq_rets (rs := [.tmp 2, .tmp 3]) (vs := [.slice none 0 0, .int .i64 ((11 : Nat) : Int)]) rfl (.slice none 0 0) ⟨resV_tmp rfl, resV_tmp rfl, trivial⟩ rfl (show (.tuple #[(.slice none 0 0), .int .i64 ((parseV l).2)] : Value) = (.tuple #[.slice none 0 0, .int .i64 ((11 : Nat) : Int)]) from by rw [parseV_lim h1 hout h5] <;> rfl) (fun _ h => by rw [parseV_lim h1 hout h5]; exact h)
      · have h5 := (fun q => id (bf_not q)) h5b
        refine jc_skip ?_
        refine jq_then ?_
        refine jc_seq ?_
        refine jc_region ?_
        refine jo_pure rfl (pr_move rfl) ?_
        refine jo_pure rfl (pr_assign rfl) ?_
        refine jo_pure rfl (pr_assign rfl) ?_
        refine jo_nil ?_
        refine jq_then ?_
        refine jc_ret ?_
        refine j_pull1 ?_
        refine j_drop ?_
        refine j_pull1 ?_
        refine j_drop ?_
        exact jq_rets (rs := [.tmp 2, .tmp 3]) (vs := [w, .int .i64 ((0 : Nat) : Int)]) rfl w ⟨resV_tmp rfl, resV_tmp rfl, trivial⟩ rfl (show (.tuple #[w, .int .i64 ((parseV l).2)] : Value) = (.tuple #[w, .int .i64 ((0 : Nat) : Int)]) from by rw [parseV_ok h1 hout h5] <;> rfl) (fun _ h => by rw [parseV_ok h1 hout h5]; exact h)

theorem c_variants_Format (l : List ((List UInt8) × (List (List UInt8)))) (lv : Value) (hl : l.length ≤ 100) (hm : ∀ a ∈ l, a.1.length ≤ 300 ∧ a.2.length ≤ 20 ∧ ∀ x ∈ a.2, x.length ≤ 300) : Con Tryz.prog 25 #[lv] [.imm (.list (.pair .str (.list .str))) (lv) (l)] (fun _ : Unit => str (formatV l)) (fun _ => []) := by
  refine con_of_J (args := [lv]) (n := 28) Tryz.func25 rfl (Nat.le_of_ble_eq_true rfl) rfl (fun w0 I0 m0 => ?_)
  show J _ [(0, lv)] [.imm (.list (.pair .str (.list .str))) (lv) (l)] _
  have hvm : ∀ a ∈ l, a.1.length ≤ 1000000 ∧ (∀ x ∈ a.2, x.length ≤ 300000) ∧ a.2.length ≤ 9223372036854775807 := fun a ha => by have := hm a ha; exact ⟨by omega, fun x hx => Nat.le_trans (this.2.2 x hx) (by omega), by omega⟩
  refine jc_seq ?_
  refine jc_region ?_
  refine jo_pure rfl (pr_assign rfl) ?_
  refine jo_nil ?_
  refine jq_then ?_
  refine jc_seq ?_
  refine jc_seq ?_
  refine jc_region ?_
  refine jo_pure rfl (pr_move rfl) ?_
  refine jo_callp cal_18 (c_variants_Valid l lv (by first | omega | rfl | exact hjm | exact hvm | exact (fun x hx => Nat.le_trans (hA.2.2 x hx) (by omega)) | (simp only [List.length_cons, List.length_nil]; omega)) (by first | omega | rfl | exact hjm | exact hvm | exact (fun x hx => Nat.le_trans (hA.2.2 x hx) (by omega)) | (simp only [List.length_cons, List.length_nil]; omega))) ⟨rfl, trivial⟩ rfl (⟨⟨rfl, .head _⟩, trivial⟩) (fun _ => ?_)
  refine jo_pure rfl (pr_not rfl) ?_
  refine jo_nil ?_
  refine jq_then ?_
  refine jc_cond rfl (fun h1b => ?_) (fun h1b => ?_)
  · have h1 := (fun q => id (bt_not q)) h1b
    refine jc_seq ?_
    refine jc_region ?_
    refine jo_pure rfl (pr_assign rfl) ?_
    refine jo_nil ?_
    refine jq_then ?_
    refine jc_ret ?_
    refine jq_then_ret ?_
    refine j_drop ?_
    exact jq_ret1 rfl () rfl (show (str (formatV l) : Value) = (str ([])) from congrArg str (by rw [formatV_no h1])) (fun _ h => h)
  · have h1 := (fun q => id (bf_not q)) h1b
    refine jc_skip ?_
    refine jq_then ?_
    refine jc_seq ?_
    refine jc_region ?_
    refine jo_pure rfl (pr_assign rfl) ?_
    refine jo_nil ?_
    refine jq_then ?_
    refine jc_seq ?_
    refine jc_seq ?_
    refine jc_region ?_
    refine jo_pure rfl (pr_move rfl) ?_
    refine jo_pure rfl (pr_len_imm rfl (.head _) Tryz.underlying23) ?_
    refine jo_pure rfl (pr_move rfl) ?_
    refine jo_nil ?_
    refine jq_then ?_
    refine jc_block ?_
    refine j_nil_row 9 .str ?_
    refine jc_loop3 (fun (i : Nat) (w : Value) (acc : List (List UInt8)) => [(3, w), (9, lv), (10, .int .i64 ((l.length : Nat) : Int)), (11, .int .i64 ((i : Nat) : Int))]) (fun (i : Nat) (w : Value) (acc : List (List UInt8)) => [.row (w) 9 .str (acc), .imm (.list (.pair .str (.list .str))) (lv) (l)]) (fun (i : Nat) (w : Value) (acc : List (List UInt8)) => i ≤ l.length ∧ acc.length ≤ i ∧ acc = (l.take i).map axisT) (fun (i : Nat) (w : Value) (acc : List (List UInt8)) => l.length - i) 0 (.slice none 0 0) [] (⟨Nat.zero_le _, Nat.le_refl _, rfl⟩) (⟨rfl, rfl, rfl, rfl, trivial⟩) (fun _ h => h) (fun i w acc hinv => ?_)
    have hjm : ∀ x ∈ acc, x.length ≤ 20000 := fun x hx => by rw [hinv.2.2] at hx; obtain ⟨y, hy, rfl⟩ := List.mem_map.1 hx; exact axisT_length (hm y (List.mem_of_mem_take hy))
    refine jc_seq ?_
    refine jc_region ?_
    refine jo_pure rfl (pr_lssN (m := i) (n := l.length) rfl rfl) ?_
    refine jo_nil ?_
    refine jq_then ?_
    refine jc_seq ?_
    refine jc_cond rfl (fun h2b => ?_) (fun h2b => ?_)
    · have h2 := of_decide_eq_true h2b
      have hA := hm _ (getD_mem (dd := ([], [])) h2); have hW := writeF_length hA.2.2; have hW2 := Nat.mul_le_mul hA.2.1 (Nat.le_refl (2 * 300 + 3))
      refine jc_skip ?_
      refine jq_then ?_
      refine jc_seq ?_
      refine jc_block ?_
      refine jc_seq ?_
      refine jc_region ?_
      refine j_open_elem (t := (.pair .str (.list .str))) (i := i) ([], []) (.tail _ (.head _)) (by omega) (fun ⟨_, e1⟩ => ?_)
      show J _ _ (.imm (.list .str) (e1) (((l.getD i ([], []))).2) :: .fact (fun w_ I_ => ElemAt w_ I_ (lv) (i) 2 [str (((l.getD i ([], []))).1), e1]) :: _) _
      refine jo_pure rfl (pr_idx_imm (i := i) rfl (.tail _ (.tail _ (.tail _ (.head _)))) rfl Tryz.underlying23 ty_48 (by omega)) ?_
      refine jo_pure rfl (pr_load_at (.agg #[str (((l.getD i ([], []))).1), e1]) rfl (.tail _ (.head _)) ty_48 (by decide) rfl) ?_
      refine jo_alloc ty_48 [str ([]), .slice none 0 0] rfl rfl (fun b1 => ?_)
      refine jo_storeV rfl rfl ty_48 [str (((l.getD i ([], []))).1), e1] (fun _ _ _ _ => rfl) rfl (fun w I m hs => by simp only [List.all_cons, List.all_nil, Bool.and_true, Bool.and_eq_true]; exact ⟨rfl, (SliceV.one (imm_slice (.tail _ (.head _)) hs))⟩) [str (((l.getD i ([], []))).1), e1] rfl rfl ?_
      refine jo_nil ?_
      refine jq_then ?_
      refine j_pull3 ?_
      refine jc_held (fun (v1 : Value) => [(3, v1), (9, lv), (10, .int .i64 ((l.length : Nat) : Int)), (11, .int .i64 ((i : Nat) : Int))]) (fun v1 => [.row (v1) 9 .str (acc ++ [((((l.getD i ([], []))).1) ++ [61]) ++ (writeF (((l.getD i ([], []))).2))]), .box b1 48 [str (((l.getD i ([], []))).1), e1], .imm (.list .str) (e1) (((l.getD i ([], []))).2), .fact (fun w_ I_ => ElemAt w_ I_ (lv) (i) 2 [str (((l.getD i ([], []))).1), e1]), .imm (.list (.pair .str (.list .str))) (lv) (l)]) [.box b1 48 [str (((l.getD i ([], []))).1), e1], .imm (.list .str) (e1) (((l.getD i ([], []))).2), .fact (fun w_ I_ => ElemAt w_ I_ (lv) (i) 2 [str (((l.getD i ([], []))).1), e1]), .imm (.list (.pair .str (.list .str))) (lv) (l)] mixed (fun lst hlst => ?_) (fun v1 => ?_)
      · subst hlst
        refine jh_take (listed' := #[true, false, false, false, false, false, false, false, false, false, false]) 0 rfl (by kernel_rfl) (by kernel_rfl) (by kernel_rfl) rfl (pr_move rfl) (fun _ h => Mem.drop1 (h)) rfl ?_
        refine jh_take (listed' := #[true, true, false, false, false, false, false, false, false, false, false]) 1 rfl (by kernel_rfl) (by kernel_rfl) (by kernel_rfl) rfl (pr_fieldAddr 0 rfl Tryz.underlying48 rfl ty_9 rfl rfl) (fun _ h => Mem.drop1 (h)) rfl ?_
        refine jh_take (listed' := #[true, true, true, false, false, false, false, false, false, false, false]) 2 rfl (by kernel_rfl) (by kernel_rfl) (by kernel_rfl) rfl (pr_load_box (str (((l.getD i ([], []))).1)) rfl ty_9 (.head _) rfl (by decide) rfl) (fun _ h => Mem.drop1 (h)) rfl ?_
        refine jh_take (listed' := #[true, true, true, true, false, false, false, false, false, false, false]) 3 rfl (by kernel_rfl) (by kernel_rfl) (by kernel_rfl) rfl (pr_sadd rfl rfl (by first | omega | (simp only [List.length_append, List.length_cons, List.length_nil]; omega))) (fun _ h => Mem.drop1 (h)) rfl ?_
        refine jh_take (listed' := #[true, true, true, true, true, false, false, false, false, false, false]) 4 rfl (by kernel_rfl) (by kernel_rfl) (by kernel_rfl) rfl (pr_fieldAddr 1 rfl Tryz.underlying48 rfl ty_45 rfl rfl) (fun _ h => Mem.drop1 (h)) rfl ?_
        refine jh_take (listed' := #[true, true, true, true, true, true, false, false, false, false, false]) 5 rfl (by kernel_rfl) (by kernel_rfl) (by kernel_rfl) rfl (pr_load_box (e1) rfl ty_45 (.head _) rfl (by decide) rfl) (fun _ h => Mem.drop1 (h)) rfl ?_
        refine jh_all [6] (by kernel_rfl) (by simp) (fun i hi => ?_)
        simp only [List.mem_cons, List.not_mem_nil, or_false] at hi
        subst hi
        · refine jh_op rfl ?_
          refine jo_callp cal_62 (c_group_Write (((l.getD i ([], []))).2) e1 (by first | omega | rfl | exact hjm | exact hvm | exact (fun x hx => Nat.le_trans (hA.2.2 x hx) (by omega)) | (simp only [List.length_cons, List.length_nil]; omega)) (by first | omega | rfl | exact hjm | exact hvm | exact (fun x hx => Nat.le_trans (hA.2.2 x hx) (by omega)) | (simp only [List.length_cons, List.length_nil]; omega))) ⟨rfl, trivial⟩ rfl (⟨⟨rfl, .tail _ (.tail _ (.head _))⟩, trivial⟩) (fun _ => ?_)
          refine jh_in (listed' := #[true, true, true, true, true, true, true, false, false, false, false]) (fun _ h => Mem.drop1 (h)) rfl ?_
          refine jh_take (listed' := #[true, true, true, true, true, true, true, true, false, false, false]) 7 rfl (by kernel_rfl) (by kernel_rfl) (by kernel_rfl) rfl (pr_sadd rfl rfl (by first | omega | (simp only [List.length_append, List.length_cons, List.length_nil]; omega))) (fun _ h => Mem.drop1 (h)) rfl ?_
          refine jh_all [8] (by kernel_rfl) (by simp) (fun i hi => ?_)
          simp only [List.mem_cons, List.not_mem_nil, or_false] at hi
          subst hi
          · refine jh_op rfl ?_
            refine jo_buildSlice (t := .str) [((((l.getD i ([], []))).1) ++ [61]) ++ (writeF (((l.getD i ([], []))).2))] [str (((((l.getD i ([], []))).1) ++ [61]) ++ (writeF (((l.getD i ([], []))).2)))] (fun a hf => by simp only [List.zipIdx_cons, List.zipIdx_nil, List.map_toArray, List.map_cons, List.map_nil, hf.ev (show ev _ (.tmp 22) = some (str (((((l.getD i ([], []))).1) ++ [61]) ++ (writeF (((l.getD i ([], []))).2)))) from rfl)] <;> rfl) rfl Tryz.underlying45 ty_9 rfl rfl rfl rfl rfl (fun g1 => ?_)
            refine jh_in (listed' := #[true, true, true, true, true, true, true, true, true, false, false]) (fun _ h => Mem.drop1 (Mem.drop1 (h))) rfl ?_
            refine jh_all [9] (by kernel_rfl) (by simp) (fun i hi => ?_)
            simp only [List.mem_cons, List.not_mem_nil, or_false] at hi
            subst hi
            · refine jh_op rfl ?_
              refine j_pull1 ?_
              refine jo_append rfl rfl Tryz.underlying45 ty_9 rfl (by simp only [List.length_append, List.length_cons, List.length_nil, maxLen]; omega) (by simp only [List.length_append, List.length_cons, List.length_nil]; omega) rfl (fun v1 => ?_)
              refine jh_in (listed' := #[true, true, true, true, true, true, true, true, true, true, false]) (fun _ h => Mem.drop1 (h)) rfl ?_
              refine jh_take (listed' := #[true, true, true, true, true, true, true, true, true, true, true]) 10 rfl (by kernel_rfl) (by kernel_rfl) (by kernel_rfl) rfl (pr_assign rfl) (fun _ h => Mem.drop1 (h)) rfl ?_
              show J _ _ _ _
              refine j_pull4 ?_
              refine j_pull4 ?_
              refine j_pull4 ?_
              refine j_pull4 ?_
              refine j_pull4 ?_
              show JH _ _ _ _ _ _ _ _
              exact jh_done v1 (by kernel_rfl) ⟨rfl, rfl, rfl, rfl, trivial⟩ (fun _ h => h)
      · skip
        refine jq_in_normal ?_
        refine jq_then ?_
        refine jc_region ?_
        refine jo_pure rfl (pr_addN (m := i) (n := 1) rfl rfl (by omega)) ?_
        refine jo_pure rfl (pr_move rfl) ?_
        refine jo_nil ?_
        refine j_pull1 ?_
        refine j_drop ?_
        refine j_pull1 ?_
        refine j_drop ?_
        refine j_pull1 ?_
        refine j_drop ?_
        refine j_pull1 ?_
        refine j_pull1 ?_
        refine jq_round' ((i + 1), v1, (acc ++ [((((l.getD i ([], []))).1) ++ [61]) ++ (writeF (((l.getD i ([], []))).2))])) (by (try dsimp only); exact (⟨by omega, by simp; omega, by rw [mapX_step h2, hinv.2.2]; rfl⟩)) (by (try dsimp only); exact (by omega)) ⟨rfl, rfl, rfl, rfl, trivial⟩ (fun _ h => h)
    · have h2 := of_decide_eq_false h2b
      refine jc_exit ?_
      refine jq_then_exit ?_
      refine jq_then_exit ?_
      refine jq_in_hit ?_
      refine jq_then ?_
      refine jc_seq ?_
      refine jc_region ?_
      refine jo_pure rfl (pr_move rfl) ?_
      refine j_pub_row ?_
      refine jo_callp cal_63 (c_strings_Join acc w [44, 32] (by first | omega | rfl | exact hjm | exact hvm | exact (fun x hx => Nat.le_trans (hA.2.2 x hx) (by omega)) | (simp only [List.length_cons, List.length_nil]; omega)) (by first | omega | rfl | exact hjm | exact hvm | exact (fun x hx => Nat.le_trans (hA.2.2 x hx) (by omega)) | (simp only [List.length_cons, List.length_nil]; omega)) (by first | omega | rfl | exact hjm | exact hvm | exact (fun x hx => Nat.le_trans (hA.2.2 x hx) (by omega)) | (simp only [List.length_cons, List.length_nil]; omega)) (by first | omega | rfl | exact hjm | exact hvm | exact (fun x hx => Nat.le_trans (hA.2.2 x hx) (by omega)) | (simp only [List.length_cons, List.length_nil]; omega))) ⟨rfl, rfl, trivial⟩ rfl (⟨⟨rfl, .head _⟩, trivial⟩) (fun _ => ?_)
      refine jo_pure rfl (pr_assign rfl) ?_
      refine jo_nil ?_
      refine jq_then ?_
      refine jc_ret ?_
      refine j_drop ?_
      refine j_drop ?_
      exact jq_ret1 rfl () rfl (show (str (formatV l) : Value) = (str (joinS [44, 32] acc)) from congrArg str (by rw [formatV_yes h1, hinv.2.2, take_over (s := l) (i := i) (by omega)]; rfl)) (fun _ h => h)

theorem c_ref10_axesText (l : List ((List UInt8) × (List (List UInt8)))) (lv : Value) (hl : l.length ≤ 100) (hm : ∀ a ∈ l, a.1.length ≤ 300 ∧ a.2.length ≤ 20 ∧ ∀ x ∈ a.2, x.length ≤ 300) : Con Tryz.prog 64 #[lv] [.imm (.list (.pair .str (.list .str))) (lv) (l)] (fun _ : Unit => str (axesT l)) (fun _ => []) := by
  refine con_of_J (args := [lv]) (n := 29) Tryz.func64 rfl (Nat.le_of_ble_eq_true rfl) rfl (fun w0 I0 m0 => ?_)
  show J _ [(0, lv)] [.imm (.list (.pair .str (.list .str))) (lv) (l)] _
  refine jc_seq ?_
  refine jc_region ?_
  refine jo_pure rfl (pr_assign rfl) ?_
  refine jo_nil ?_
  refine jq_then ?_
  refine jc_seq ?_
  refine jc_region ?_
  refine jo_pure rfl (pr_assign rfl) ?_
  refine jo_nil ?_
  refine jq_then ?_
  refine jc_seq ?_
  refine jc_seq ?_
  refine jc_region ?_
  refine jo_pure rfl (pr_assign rfl) ?_
  refine jo_nil ?_
  refine jq_then ?_
  refine jc_block ?_
  refine j_nil_row 9 .str ?_
  refine jc_loop3 (fun (i : Nat) (w : Value) (acc : List (List UInt8)) => [(0, lv), (3, w), (4, .int .i64 ((i : Nat) : Int))]) (fun (i : Nat) (w : Value) (acc : List (List UInt8)) => [.row (w) 9 .str (acc), .imm (.list (.pair .str (.list .str))) (lv) (l)]) (fun (i : Nat) (w : Value) (acc : List (List UInt8)) => i ≤ l.length ∧ acc.length ≤ i ∧ acc = (l.take i).map axisT) (fun (i : Nat) (w : Value) (acc : List (List UInt8)) => l.length - i) 0 (.slice none 0 0) [] (⟨Nat.zero_le _, Nat.le_refl _, rfl⟩) (⟨rfl, rfl, rfl, trivial⟩) (fun _ h => h) (fun i w acc hinv => ?_)
  have hjm : ∀ x ∈ acc, x.length ≤ 20000 := fun x hx => by rw [hinv.2.2] at hx; obtain ⟨y, hy, rfl⟩ := List.mem_map.1 hx; exact axisT_length (hm y (List.mem_of_mem_take hy))
  refine jc_seq ?_
  refine jc_seq ?_
  refine jc_region ?_
  refine jo_pure rfl (pr_move rfl) ?_
  refine jo_pure rfl (pr_move rfl) ?_
  refine jo_pure rfl (pr_len_imm rfl (.tail _ (.head _)) Tryz.underlying23) ?_
  refine jo_pure rfl (pr_lssN (m := i) (n := l.length) rfl rfl) ?_
  refine jo_nil ?_
  refine jq_then ?_
  refine jc_cond rfl (fun h1b => ?_) (fun h1b => ?_)
  · have h1 := of_decide_eq_true h1b
    have hA := hm _ (getD_mem (dd := ([], [])) h1); have hW := writeF_length hA.2.2; have hW2 := Nat.mul_le_mul hA.2.1 (Nat.le_refl (2 * 300 + 3))
    refine jc_skip ?_
    refine jq_then ?_
    refine jc_seq ?_
    refine jc_block ?_
    refine j_open_elem (t := (.pair .str (.list .str))) (i := i) ([], []) (.tail _ (.head _)) (by omega) (fun ⟨_, e1⟩ => ?_)
    show J _ _ (.imm (.list .str) (e1) (((l.getD i ([], []))).2) :: .fact (fun w_ I_ => ElemAt w_ I_ (lv) (i) 2 [str (((l.getD i ([], []))).1), e1]) :: _) _
    refine j_pull2 ?_
    refine jc_held (fun (v1 : Value) => [(0, lv), (3, v1), (4, .int .i64 ((i : Nat) : Int))]) (fun v1 => [.row (v1) 9 .str (acc ++ [((((l.getD i ([], []))).1) ++ [61]) ++ (writeF (((l.getD i ([], []))).2))]), .imm (.list .str) (e1) (((l.getD i ([], []))).2), .fact (fun w_ I_ => ElemAt w_ I_ (lv) (i) 2 [str (((l.getD i ([], []))).1), e1]), .imm (.list (.pair .str (.list .str))) (lv) (l)]) [.imm (.list .str) (e1) (((l.getD i ([], []))).2), .fact (fun w_ I_ => ElemAt w_ I_ (lv) (i) 2 [str (((l.getD i ([], []))).1), e1]), .imm (.list (.pair .str (.list .str))) (lv) (l)] mixed (fun lst hlst => ?_) (fun v1 => ?_)
    · subst hlst
      refine jh_take (listed' := #[true, false, false, false, false, false, false, false, false, false, false, false, false, false, false, false, false]) 0 rfl (by kernel_rfl) (by kernel_rfl) (by kernel_rfl) rfl (pr_move rfl) (fun _ h => Mem.drop1 (h)) rfl ?_
      refine jh_take (listed' := #[true, true, false, false, false, false, false, false, false, false, false, false, false, false, false, false, false]) 1 rfl (by kernel_rfl) (by kernel_rfl) (by kernel_rfl) rfl (pr_move rfl) (fun _ h => Mem.drop1 (h)) rfl ?_
      refine jh_take (listed' := #[true, true, true, false, false, false, false, false, false, false, false, false, false, false, false, false, false]) 2 rfl (by kernel_rfl) (by kernel_rfl) (by kernel_rfl) rfl (pr_move rfl) (fun _ h => Mem.drop1 (h)) rfl ?_
      refine jh_take (listed' := #[true, true, true, true, false, false, false, false, false, false, false, false, false, false, false, false, false]) 3 rfl (by kernel_rfl) (by kernel_rfl) (by kernel_rfl) rfl (pr_idx_imm (i := i) rfl (.tail _ (.tail _ (.head _))) rfl Tryz.underlying23 ty_48 (by omega)) (fun _ h => Mem.drop1 (h)) rfl ?_
      refine jh_take (listed' := #[true, true, true, true, true, false, false, false, false, false, false, false, false, false, false, false, false]) 4 rfl (by kernel_rfl) (by kernel_rfl) (by kernel_rfl) rfl (pr_fieldAddr_imm (i := i) rfl (.tail _ (.tail _ (.head _))) Tryz.underlying48 rfl ty_9 rfl rfl (by omega)) (fun _ h => Mem.drop1 (h)) rfl ?_
      refine jh_take (listed' := #[true, true, true, true, true, true, false, false, false, false, false, false, false, false, false, false, false]) 5 rfl (by kernel_rfl) (by kernel_rfl) (by kernel_rfl) rfl (pr_load_off_at (o := 0) (str (((l.getD i ([], []))).1)) rfl (.tail _ (.head _)) ty_9 (by decide) rfl rfl) (fun _ h => Mem.drop1 (h)) rfl ?_
      refine jh_take (listed' := #[true, true, true, true, true, true, true, false, false, false, false, false, false, false, false, false, false]) 6 rfl (by kernel_rfl) (by kernel_rfl) (by kernel_rfl) rfl (pr_sadd rfl rfl (by first | omega | (simp only [List.length_append, List.length_cons, List.length_nil]; omega))) (fun _ h => Mem.drop1 (h)) rfl ?_
      refine jh_take (listed' := #[true, true, true, true, true, true, true, true, false, false, false, false, false, false, false, false, false]) 7 rfl (by kernel_rfl) (by kernel_rfl) (by kernel_rfl) rfl (pr_move rfl) (fun _ h => Mem.drop1 (h)) rfl ?_
      refine jh_take (listed' := #[true, true, true, true, true, true, true, true, true, false, false, false, false, false, false, false, false]) 8 rfl (by kernel_rfl) (by kernel_rfl) (by kernel_rfl) rfl (pr_move rfl) (fun _ h => Mem.drop1 (h)) rfl ?_
      refine jh_take (listed' := #[true, true, true, true, true, true, true, true, true, true, false, false, false, false, false, false, false]) 9 rfl (by kernel_rfl) (by kernel_rfl) (by kernel_rfl) rfl (pr_idx_imm (i := i) rfl (.tail _ (.tail _ (.head _))) rfl Tryz.underlying23 ty_48 (by omega)) (fun _ h => Mem.drop1 (h)) rfl ?_
      refine jh_take (listed' := #[true, true, true, true, true, true, true, true, true, true, true, false, false, false, false, false, false]) 10 rfl (by kernel_rfl) (by kernel_rfl) (by kernel_rfl) rfl (pr_fieldAddr_imm (i := i) rfl (.tail _ (.tail _ (.head _))) Tryz.underlying48 rfl ty_45 rfl rfl (by omega)) (fun _ h => Mem.drop1 (h)) rfl ?_
      refine jh_take (listed' := #[true, true, true, true, true, true, true, true, true, true, true, true, false, false, false, false, false]) 11 rfl (by kernel_rfl) (by kernel_rfl) (by kernel_rfl) rfl (pr_load_off_at (o := 1) (e1) rfl (.tail _ (.head _)) ty_45 (by decide) rfl rfl) (fun _ h => Mem.drop1 (h)) rfl ?_
      refine jh_all [12] (by kernel_rfl) (by simp) (fun i hi => ?_)
      simp only [List.mem_cons, List.not_mem_nil, or_false] at hi
      subst hi
      · refine jh_op rfl ?_
        refine jo_callp cal_73 (c_ref10_written (((l.getD i ([], []))).2) e1 (by first | omega | rfl | exact hjm | exact hvm | exact (fun x hx => Nat.le_trans (hA.2.2 x hx) (by omega)) | (simp only [List.length_cons, List.length_nil]; omega)) (by first | omega | rfl | exact hjm | exact hvm | exact (fun x hx => Nat.le_trans (hA.2.2 x hx) (by omega)) | (simp only [List.length_cons, List.length_nil]; omega))) ⟨rfl, trivial⟩ rfl (⟨⟨rfl, .tail _ (.head _)⟩, trivial⟩) (fun _ => ?_)
        refine jh_in (listed' := #[true, true, true, true, true, true, true, true, true, true, true, true, true, false, false, false, false]) (fun _ h => Mem.drop1 (h)) rfl ?_
        refine jh_take (listed' := #[true, true, true, true, true, true, true, true, true, true, true, true, true, true, false, false, false]) 13 rfl (by kernel_rfl) (by kernel_rfl) (by kernel_rfl) rfl (pr_sadd rfl rfl (by first | omega | (simp only [List.length_append, List.length_cons, List.length_nil]; omega))) (fun _ h => Mem.drop1 (h)) rfl ?_
        refine jh_all [14] (by kernel_rfl) (by simp) (fun i hi => ?_)
        simp only [List.mem_cons, List.not_mem_nil, or_false] at hi
        subst hi
        · refine jh_op rfl ?_
          refine jo_buildSlice (t := .str) [((((l.getD i ([], []))).1) ++ [61]) ++ (writeF (((l.getD i ([], []))).2))] [str (((((l.getD i ([], []))).1) ++ [61]) ++ (writeF (((l.getD i ([], []))).2)))] (fun a hf => by simp only [List.zipIdx_cons, List.zipIdx_nil, List.map_toArray, List.map_cons, List.map_nil, hf.ev (show ev _ (.tmp 24) = some (str (((((l.getD i ([], []))).1) ++ [61]) ++ (writeF (((l.getD i ([], []))).2)))) from rfl)] <;> rfl) rfl Tryz.underlying45 ty_9 rfl rfl rfl rfl rfl (fun g1 => ?_)
          refine jh_in (listed' := #[true, true, true, true, true, true, true, true, true, true, true, true, true, true, true, false, false]) (fun _ h => Mem.drop1 (Mem.drop1 (h))) rfl ?_
          refine jh_all [15] (by kernel_rfl) (by simp) (fun i hi => ?_)
          simp only [List.mem_cons, List.not_mem_nil, or_false] at hi
          subst hi
          · refine jh_op rfl ?_
            refine j_pull1 ?_
            refine jo_append rfl rfl Tryz.underlying45 ty_9 rfl (by simp only [List.length_append, List.length_cons, List.length_nil, maxLen]; omega) (by simp only [List.length_append, List.length_cons, List.length_nil]; omega) rfl (fun v1 => ?_)
            refine jh_in (listed' := #[true, true, true, true, true, true, true, true, true, true, true, true, true, true, true, true, false]) (fun _ h => Mem.drop1 (h)) rfl ?_
            refine jh_take (listed' := #[true, true, true, true, true, true, true, true, true, true, true, true, true, true, true, true, true]) 16 rfl (by kernel_rfl) (by kernel_rfl) (by kernel_rfl) rfl (pr_assign rfl) (fun _ h => Mem.drop1 (h)) rfl ?_
            show J _ _ _ _
            refine j_pull3 ?_
            refine j_pull3 ?_
            refine j_pull3 ?_
            refine j_pull3 ?_
            show JH _ _ _ _ _ _ _ _
            exact jh_done v1 (by kernel_rfl) ⟨rfl, rfl, rfl, trivial⟩ (fun _ h => h)
    · skip
      refine jq_in_normal ?_
      refine jq_then ?_
      refine jc_region ?_
      refine jo_pure rfl (pr_move rfl) ?_
      refine jo_pure rfl (pr_addN (m := i) (n := 1) rfl rfl (by omega)) ?_
      refine jo_pure rfl (pr_assign rfl) ?_
      refine jo_nil ?_
      refine j_pull1 ?_
      refine j_drop ?_
      refine j_pull1 ?_
      refine j_drop ?_
      refine j_pull1 ?_
      refine j_pull1 ?_
      refine jq_round' ((i + 1), v1, (acc ++ [((((l.getD i ([], []))).1) ++ [61]) ++ (writeF (((l.getD i ([], []))).2))])) (by (try dsimp only); exact (⟨by omega, by simp; omega, by rw [mapX_step h1, hinv.2.2]; rfl⟩)) (by (try dsimp only); exact (by omega)) ⟨rfl, rfl, rfl, trivial⟩ (fun _ h => h)
  · have h1 := of_decide_eq_false h1b
    refine jc_exit ?_
    refine jq_then_exit ?_
    refine jq_then_exit ?_
    refine jq_in_hit ?_
    refine jq_then ?_
    refine jc_seq ?_
    refine jc_region ?_
    refine jo_pure rfl (pr_move rfl) ?_
    refine j_pub_row ?_
    refine jo_callp cal_74 (c_ref01_Join acc w (by first | omega | rfl | exact hjm | exact hvm | exact (fun x hx => Nat.le_trans (hA.2.2 x hx) (by omega)) | (simp only [List.length_cons, List.length_nil]; omega)) (by first | omega | rfl | exact hjm | exact hvm | exact (fun x hx => Nat.le_trans (hA.2.2 x hx) (by omega)) | (simp only [List.length_cons, List.length_nil]; omega))) ⟨rfl, trivial⟩ rfl (⟨⟨rfl, .head _⟩, trivial⟩) (fun _ => ?_)
    refine jo_pure rfl (pr_assign rfl) ?_
    refine jo_nil ?_
    refine jq_then ?_
    refine jc_ret ?_
    refine j_drop ?_
    refine j_drop ?_
    exact jq_ret1 rfl () rfl (show (str (axesT l) : Value) = (str (joinS [44, 32] acc)) from congrArg str (by rw [hinv.2.2, take_over (s := l) (i := i) (by omega)]; rfl)) (fun _ h => h)

theorem c_ref10_FormatVariants (l : List ((List UInt8) × (List (List UInt8)))) (lv : Value) (hl : l.length ≤ 100) (hm : ∀ a ∈ l, a.1.length ≤ 300 ∧ a.2.length ≤ 20 ∧ ∀ x ∈ a.2, x.length ≤ 300) : Con Tryz.prog 26 #[lv] [.imm (.list (.pair .str (.list .str))) (lv) (l)] (fun _ : Unit => str (formatV l)) (fun _ => []) := by
  refine con_of_J (args := [lv]) (n := 8) Tryz.func26 rfl (Nat.le_of_ble_eq_true rfl) rfl (fun w0 I0 m0 => ?_)
  show J _ [(0, lv)] [.imm (.list (.pair .str (.list .str))) (lv) (l)] _
  have hvm : ∀ a ∈ l, a.1.length ≤ 1000000 ∧ (∀ x ∈ a.2, x.length ≤ 300000) ∧ a.2.length ≤ 9223372036854775807 := fun a ha => by have := hm a ha; exact ⟨by omega, fun x hx => Nat.le_trans (this.2.2 x hx) (by omega), by omega⟩
  refine jc_seq ?_
  refine jc_region ?_
  refine jo_pure rfl (pr_assign rfl) ?_
  refine jo_nil ?_
  refine jq_then ?_
  refine jc_seq ?_
  refine jc_seq ?_
  refine jc_region ?_
  refine jo_pure rfl (pr_move rfl) ?_
  refine jo_callp cal_19 (c_ref10_Valid l lv (by first | omega | exact hvm | exact hm) (by first | omega | exact hvm | exact hm)) ⟨rfl, trivial⟩ rfl (⟨⟨rfl, .head _⟩, trivial⟩) (fun _ => ?_)
  refine jo_pure rfl (pr_not rfl) ?_
  refine jo_nil ?_
  refine jq_then ?_
  refine jc_cond rfl (fun h1b => ?_) (fun h1b => ?_)
  · have h1 := (fun q => id (bt_not q)) h1b
    refine jc_seq ?_
    refine jc_region ?_
    refine jo_pure rfl (pr_assign rfl) ?_
    refine jo_nil ?_
    refine jq_then ?_
    refine jc_ret ?_
    refine jq_then_ret ?_
    refine j_drop ?_
    exact jq_ret1 rfl () rfl (show (str (formatV l) : Value) = (str ([])) from congrArg str (by rw [formatV_no h1])) (fun _ h => h)
  · have h1 := (fun q => id (bf_not q)) h1b
    refine jc_skip ?_
    refine jq_then ?_
    refine jc_seq ?_
    refine jc_region ?_
    refine jo_pure rfl (pr_move rfl) ?_
    refine jo_callp cal_64 (c_ref10_axesText l lv (by first | omega | exact hvm | exact hm) (by first | omega | exact hvm | exact hm)) ⟨rfl, trivial⟩ rfl (⟨⟨rfl, .head _⟩, trivial⟩) (fun _ => ?_)
    refine jo_pure rfl (pr_assign rfl) ?_
    refine jo_nil ?_
    refine jq_then ?_
    refine jc_ret ?_
    refine j_drop ?_
    exact jq_ret1 rfl () rfl (show (str (formatV l) : Value) = (str (axesT l)) from congrArg str (by rw [formatV_yes h1])) (fun _ h => h)

theorem c_keep_Strings (l : List (List UInt8)) (lv : Value) (hl : l.length ≤ 9223372036854775807) : Con Tryz.prog 36 #[lv] [.imm (.list .str) (lv) (l)] (fun _ : Unit => .bool (keepS l)) (fun _ => []) := by
  refine con_of_J (args := [lv]) (n := 23) Tryz.func36 rfl (Nat.le_of_ble_eq_true rfl) rfl (fun w0 I0 m0 => ?_)
  show J _ [(0, lv)] [.imm (.list .str) (lv) (l)] _
  refine jc_seq ?_
  refine jc_region ?_
  refine jo_pure rfl (pr_assign rfl) ?_
  refine jo_nil ?_
  refine jq_then ?_
  refine jc_seq ?_
  refine jc_seq ?_
  refine jc_region ?_
  refine jo_pure rfl (pr_assign rfl) ?_
  refine jo_nil ?_
  refine jq_then ?_
  refine jc_block ?_
  refine jc_loop (fun (i : Nat) => [(0, lv), (3, .int .i64 ((i : Nat) : Int))]) (fun (i : Nat) => [.imm (.list .str) (lv) (l)]) (fun (i : Nat) => i ≤ 21 ∧ (l.take i).all okS = true) (fun (i : Nat) => 21 - i) 0 (⟨Nat.zero_le _, rfl⟩) (⟨rfl, rfl, trivial⟩) (fun _ h => h) (fun i hinv => ?_)
  refine jc_seq ?_
  refine jc_seq ?_
  refine jc_region ?_
  refine jo_pure rfl (pr_move rfl) ?_
  refine jo_pure rfl (pr_move rfl) ?_
  refine jo_pure rfl (pr_len_imm rfl (.head _) Tryz.underlying45) ?_
  refine jo_pure rfl (pr_lssN (m := i) (n := l.length) rfl rfl) ?_
  refine jo_pure rfl (pr_move rfl) ?_
  refine jo_gpure (j := 4) (want := true) rfl rfl rfl rfl (fun hg => pr_move rfl) ?_
  refine jo_gpure (j := 4) (want := true) rfl rfl rfl rfl (fun hg => pr_lssN (m := i) (n := 21) (evg rfl hg) rfl) ?_
  refine jo_pure rfl (pr_pick_and rfl rfl rfl) ?_
  refine jo_nil ?_
  refine jq_then ?_
  refine jc_cond rfl (fun h1b => ?_) (fun h1b => ?_)
  · have h1 := (fun q => And.imp of_decide_eq_true of_decide_eq_true (bt_and q)) h1b
    refine jc_skip ?_
    refine jq_then ?_
    refine jc_seq ?_
    refine jc_block ?_
    refine jc_seq ?_
    refine jc_region ?_
    refine jo_pure rfl (pr_move rfl) ?_
    refine jo_pure rfl (pr_move rfl) ?_
    refine jo_pure rfl (pr_idx_imm (i := i) rfl (.head _) rfl Tryz.underlying45 ty_9 (by omega)) ?_
    refine jo_pure rfl (pr_load_elem_imm (i := i) (str (l.getD i [])) rfl (.head _) ty_9 rfl rfl (by omega) rfl) ?_
    refine jo_pure rfl (pr_slen rfl Tryz.underlying9) ?_
    refine jo_pure rfl (pr_gtrN (m := (l.getD i []).length) (n := 100) rfl rfl) ?_
    refine jo_nil ?_
    refine jq_then ?_
    refine jc_cond rfl (fun h2b => ?_) (fun h2b => ?_)
    · have h2 := of_decide_eq_true h2b
      refine jc_seq ?_
      refine jc_region ?_
      refine jo_pure rfl (pr_assign rfl) ?_
      refine jo_nil ?_
      refine jq_then ?_
      refine jc_ret ?_
      refine jq_in_ret ?_
      refine jq_then_ret ?_
      refine jq_then_ret ?_
      refine jq_in_ret ?_
      refine jq_then_ret ?_
      refine j_drop ?_
      exact jq_ret1 rfl () rfl (show (.bool (keepS l) : Value) = (.bool (false)) from congrArg Value.bool (by rw [keepS, keep_miss (dd := []) h1.2 h1.1 (by unfold okS; rw [h2b]; rfl)]; rfl)) (fun _ h => h)
    · have h2 := of_decide_eq_false h2b
      refine jc_skip ?_
      refine jq_in_normal ?_
      refine jq_then ?_
      refine jc_region ?_
      refine jo_pure rfl (pr_move rfl) ?_
      refine jo_pure rfl (pr_addN (m := i) (n := 1) rfl rfl (by omega)) ?_
      refine jo_pure rfl (pr_assign rfl) ?_
      refine jo_nil ?_
      refine jq_round' (i + 1) (by (try dsimp only); exact (⟨by omega, all_step (dd := []) h1.1 hinv.2 (by unfold okS; rw [h2b]; rfl)⟩)) (by (try dsimp only); exact (by omega)) ⟨rfl, rfl, trivial⟩ (fun _ h => h)
  · have h1 := (fun q => Or.imp of_decide_eq_false of_decide_eq_false (bf_and q)) h1b
    refine jc_exit ?_
    refine jq_then_exit ?_
    refine jq_then_exit ?_
    refine jq_in_hit ?_
    refine jq_then ?_
    refine jc_seq ?_
    refine jc_region ?_
    refine jo_pure rfl (pr_move rfl) ?_
    refine jo_pure rfl (pr_len_imm rfl (.head _) Tryz.underlying45) ?_
    refine jo_pure rfl (pr_leqN (m := l.length) (n := 20) rfl rfl) ?_
    refine jo_pure rfl (pr_assign rfl) ?_
    refine jo_nil ?_
    refine jq_then ?_
    refine jc_ret ?_
    refine j_drop ?_
    exact jq_ret1 rfl () rfl (show (.bool (keepS l) : Value) = (.bool (decide ((l.length : Nat) ≤ 20))) from congrArg Value.bool (by rw [keepS, keep_end hinv.1 h1 hinv.2]; rfl)) (fun _ h => h)

theorem c_keep_Axes (l : List ((List UInt8) × (List (List UInt8)))) (lv : Value) (hl : l.length ≤ 9223372036854775807) (hm : ∀ a ∈ l, a.2.length ≤ 9223372036854775807) : Con Tryz.prog 13 #[lv] [.imm (.list (.pair .str (.list .str))) (lv) (l)] (fun _ : Unit => .bool (keepA l)) (fun _ => []) := by
  refine con_of_J (args := [lv]) (n := 33) Tryz.func13 rfl (Nat.le_of_ble_eq_true rfl) rfl (fun w0 I0 m0 => ?_)
  show J _ [(0, lv)] [.imm (.list (.pair .str (.list .str))) (lv) (l)] _
  refine jc_seq ?_
  refine jc_region ?_
  refine jo_pure rfl (pr_assign rfl) ?_
  refine jo_nil ?_
  refine jq_then ?_
  refine jc_seq ?_
  refine jc_seq ?_
  refine jc_region ?_
  refine jo_pure rfl (pr_assign rfl) ?_
  refine jo_nil ?_
  refine jq_then ?_
  refine jc_block ?_
  refine jc_loop (fun (i : Nat) => [(0, lv), (3, .int .i64 ((i : Nat) : Int))]) (fun (i : Nat) => [.imm (.list (.pair .str (.list .str))) (lv) (l)]) (fun (i : Nat) => i ≤ 7 ∧ (l.take i).all okA = true) (fun (i : Nat) => 7 - i) 0 (⟨Nat.zero_le _, rfl⟩) (⟨rfl, rfl, trivial⟩) (fun _ h => h) (fun i hinv => ?_)
  refine jc_seq ?_
  refine jc_seq ?_
  refine jc_region ?_
  refine jo_pure rfl (pr_move rfl) ?_
  refine jo_pure rfl (pr_move rfl) ?_
  refine jo_pure rfl (pr_len_imm rfl (.head _) Tryz.underlying23) ?_
  refine jo_pure rfl (pr_lssN (m := i) (n := l.length) rfl rfl) ?_
  refine jo_pure rfl (pr_move rfl) ?_
  refine jo_gpure (j := 4) (want := true) rfl rfl rfl rfl (fun hg => pr_move rfl) ?_
  refine jo_gpure (j := 4) (want := true) rfl rfl rfl rfl (fun hg => pr_lssN (m := i) (n := 7) (evg rfl hg) rfl) ?_
  refine jo_pure rfl (pr_pick_and rfl rfl rfl) ?_
  refine jo_nil ?_
  refine jq_then ?_
  refine jc_cond rfl (fun h1b => ?_) (fun h1b => ?_)
  · have h1 := (fun q => And.imp of_decide_eq_true of_decide_eq_true (bt_and q)) h1b
    refine jc_skip ?_
    refine jq_then ?_
    refine jc_seq ?_
    refine jc_block ?_
    refine jc_seq ?_
    refine jc_region ?_
    refine jo_pure rfl (pr_move rfl) ?_
    refine jo_pure rfl (pr_move rfl) ?_
    refine j_open_elem (t := (.pair .str (.list .str))) (i := i) ([], []) (.head _) (by first | omega | (simp at hg; omega)) (fun ⟨_, e1⟩ => ?_)
    show J _ _ (.imm (.list .str) (e1) (((l.getD i ([], []))).2) :: .fact (fun w_ I_ => ElemAt w_ I_ (lv) (i) 2 [str (((l.getD i ([], []))).1), e1]) :: _) _
    refine jo_pure rfl (pr_idx_imm (i := i) rfl (.tail _ (.tail _ (.head _))) rfl Tryz.underlying23 ty_48 (by first | omega | (simp at hg; omega))) ?_
    refine jo_pure rfl (pr_fieldAddr_imm (i := i) rfl (.tail _ (.tail _ (.head _))) Tryz.underlying48 rfl ty_9 rfl rfl (by first | omega | (simp at hg; omega))) ?_
    refine jo_pure rfl (pr_load_off_at (o := 0) (str (((l.getD i ([], []))).1)) rfl (.tail _ (.head _)) ty_9 (by decide) rfl rfl) ?_
    refine jo_pure rfl (pr_slen rfl Tryz.underlying9) ?_
    refine jo_pure rfl (pr_gtrN (m := (((l.getD i ([], []))).1).length) (n := 100) rfl rfl) ?_
    refine jo_pure rfl (pr_move rfl) ?_
    refine jo_gpure (j := 7) (want := false) rfl rfl rfl rfl (fun hg => pr_move rfl) ?_
    refine jo_gpure (j := 7) (want := false) rfl rfl rfl rfl (fun hg => pr_move rfl) ?_
    refine jo_gpure (j := 7) (want := false) rfl rfl rfl rfl (fun hg => pr_idx_imm (i := i) (evg rfl hg) (.tail _ (.tail _ (.head _))) (evg rfl hg) Tryz.underlying23 ty_48 (by first | omega | (simp at hg; omega))) ?_
    refine jo_gpure (j := 7) (want := false) rfl rfl rfl rfl (fun hg => pr_fieldAddr_imm (i := i) (evg rfl hg) (.tail _ (.tail _ (.head _))) Tryz.underlying48 rfl ty_45 rfl rfl (by first | omega | (simp at hg; omega))) ?_
    refine jo_gpure (j := 7) (want := false) rfl rfl rfl rfl (fun hg => pr_load_off_at (o := 1) (e1) (evg rfl hg) (.tail _ (.head _)) ty_45 (by decide) rfl rfl) ?_
    refine jo_gcall (j := 7) (want := false) rfl rfl rfl cal_36 (fun hg => c_keep_Strings (((l.getD i ([], []))).2) e1 (by exact hm _ (getD_mem (dd := ([], [])) h1.1))) (fun hg => ⟨evg rfl hg, trivial⟩) rfl (fun _ => ⟨⟨rfl, .head _⟩, trivial⟩) ?_
    refine jo_gpure (j := 7) (want := false) rfl rfl rfl rfl (fun hg => pr_not (evg rfl hg)) ?_
    refine jo_pure rfl (pr_pick_or rfl rfl rfl) ?_
    refine jo_nil ?_
    refine jq_then ?_
    refine jc_cond rfl (fun h2b => ?_) (fun h2b => ?_)
    · have h2 := (fun q => Or.imp of_decide_eq_true (fun q => id (bt_not q)) (bt_or q)) h2b
      refine jc_seq ?_
      refine jc_region ?_
      refine jo_pure rfl (pr_assign rfl) ?_
      refine jo_nil ?_
      refine jq_then ?_
      refine jc_ret ?_
      refine jq_in_ret ?_
      refine jq_then_ret ?_
      refine jq_then_ret ?_
      refine jq_in_ret ?_
      refine jq_then_ret ?_
      refine j_drop ?_
      refine j_drop ?_
      refine j_drop ?_
      exact jq_ret1 rfl () rfl (show (.bool (keepA l) : Value) = (.bool (false)) from congrArg Value.bool (by rw [keepA, keep_miss (dd := ([], [])) h1.2 h1.1 (by unfold okA; rw [h2b]; rfl)]; rfl)) (fun _ h => h)
    · have h2 := (fun q => And.imp of_decide_eq_false (fun q => id (bf_not q)) (bf_or q)) h2b
      refine jc_skip ?_
      refine jq_in_normal ?_
      refine jq_then ?_
      refine jc_region ?_
      refine jo_pure rfl (pr_move rfl) ?_
      refine jo_pure rfl (pr_addN (m := i) (n := 1) rfl rfl (by omega)) ?_
      refine jo_pure rfl (pr_assign rfl) ?_
      refine jo_nil ?_
      refine j_drop ?_
      refine j_drop ?_
      refine jq_round' (i + 1) (by (try dsimp only); exact (⟨by omega, all_step (dd := ([], [])) h1.1 hinv.2 (by unfold okA; rw [h2b]; rfl)⟩)) (by (try dsimp only); exact (by omega)) ⟨rfl, rfl, trivial⟩ (fun _ h => h)
  · have h1 := (fun q => Or.imp of_decide_eq_false of_decide_eq_false (bf_and q)) h1b
    refine jc_exit ?_
    refine jq_then_exit ?_
    refine jq_then_exit ?_
    refine jq_in_hit ?_
    refine jq_then ?_
    refine jc_seq ?_
    refine jc_region ?_
    refine jo_pure rfl (pr_move rfl) ?_
    refine jo_pure rfl (pr_len_imm rfl (.head _) Tryz.underlying23) ?_
    refine jo_pure rfl (pr_leqN (m := l.length) (n := 6) rfl rfl) ?_
    refine jo_pure rfl (pr_assign rfl) ?_
    refine jo_nil ?_
    refine jq_then ?_
    refine jc_ret ?_
    refine j_drop ?_
    exact jq_ret1 rfl () rfl (show (.bool (keepA l) : Value) = (.bool (decide ((l.length : Nat) ≤ 6))) from congrArg Value.bool (by rw [keepA, keep_end hinv.1 h1 hinv.2]; rfl)) (fun _ h => h)

theorem c_law15_axes   : Con Tryz.prog 56 #[] [] (fun r1 : Value => r1) (fun r1 => [.imm (.list (.pair .str (.list .str))) r1 ([([97, 99, 99, 101, 112, 116, 45, 108, 97, 110, 103, 117, 97, 103, 101], [[101, 110], [102, 114]]), ([97, 99, 99, 101, 112, 116, 45, 101, 110, 99, 111, 100, 105, 110, 103], [[103, 122, 105, 112], [105, 100, 101, 110, 116, 105, 116, 121]])])]) := by
  refine con_of_J (args := []) (n := 6) Tryz.func56 rfl (Nat.le_of_ble_eq_true rfl) rfl (fun w0 I0 m0 => ?_)
  show J _ [] [] _
  refine jc_seq ?_
  refine jc_region ?_
  refine jo_pure rfl (pr_assign rfl) ?_
  refine jo_nil ?_
  refine jq_then ?_
  refine jc_seq ?_
  refine jc_region ?_
  refine jo_buildSlice (t := .str) [[101, 110], [102, 114]] [str ([101, 110]), str ([102, 114])] (fun a hf => by simp only [List.zipIdx_cons, List.zipIdx_nil, List.map_toArray, List.map_cons, List.map_nil] <;> rfl) rfl Tryz.underlying45 ty_9 rfl rfl rfl rfl rfl (fun g1 => ?_)
  refine jo_pure rfl (pr_build [(0, str ([97, 99, 99, 101, 112, 116, 45, 108, 97, 110, 103, 117, 97, 103, 101])), (1, .slice (some ⟨g1, 0, none⟩) (([[101, 110], [102, 114]]).length) (([[101, 110], [102, 114]]).length))] [str ([97, 99, 99, 101, 112, 116, 45, 108, 97, 110, 103, 117, 97, 103, 101]), .slice (some ⟨g1, 0, none⟩) (([[101, 110], [102, 114]]).length) (([[101, 110], [102, 114]]).length)] (fun a hf => by simp only [List.map_toArray, List.map_cons, List.map_nil, hf.ev (show ev _ (.tmp 1) = some (.slice (some ⟨g1, 0, none⟩) (([[101, 110], [102, 114]]).length) (([[101, 110], [102, 114]]).length)) from rfl)] <;> rfl) (by kernel_rfl)) ?_
  refine jo_buildSlice (t := .str) [[103, 122, 105, 112], [105, 100, 101, 110, 116, 105, 116, 121]] [str ([103, 122, 105, 112]), str ([105, 100, 101, 110, 116, 105, 116, 121])] (fun a hf => by simp only [List.zipIdx_cons, List.zipIdx_nil, List.map_toArray, List.map_cons, List.map_nil] <;> rfl) rfl Tryz.underlying45 ty_9 rfl rfl rfl rfl rfl (fun g2 => ?_)
  refine jo_pure rfl (pr_build [(0, str ([97, 99, 99, 101, 112, 116, 45, 101, 110, 99, 111, 100, 105, 110, 103])), (1, .slice (some ⟨g2, 0, none⟩) (([[103, 122, 105, 112], [105, 100, 101, 110, 116, 105, 116, 121]]).length) (([[103, 122, 105, 112], [105, 100, 101, 110, 116, 105, 116, 121]]).length))] [str ([97, 99, 99, 101, 112, 116, 45, 101, 110, 99, 111, 100, 105, 110, 103]), .slice (some ⟨g2, 0, none⟩) (([[103, 122, 105, 112], [105, 100, 101, 110, 116, 105, 116, 121]]).length) (([[103, 122, 105, 112], [105, 100, 101, 110, 116, 105, 116, 121]]).length)] (fun a hf => by simp only [List.map_toArray, List.map_cons, List.map_nil, hf.ev (show ev _ (.tmp 3) = some (.slice (some ⟨g2, 0, none⟩) (([[103, 122, 105, 112], [105, 100, 101, 110, 116, 105, 116, 121]]).length) (([[103, 122, 105, 112], [105, 100, 101, 110, 116, 105, 116, 121]]).length)) from rfl)] <;> rfl) (by kernel_rfl)) ?_
  refine j_pull1 ?_
  refine j_pub_rowg ?_
  refine j_pull1 ?_
  refine j_pub_rowg ?_
  refine jo_buildSliceL (t := (.pair .str (.list .str))) [([97, 99, 99, 101, 112, 116, 45, 108, 97, 110, 103, 117, 97, 103, 101], [[101, 110], [102, 114]]), ([97, 99, 99, 101, 112, 116, 45, 101, 110, 99, 111, 100, 105, 110, 103], [[103, 122, 105, 112], [105, 100, 101, 110, 116, 105, 116, 121]])] [.agg #[str ([97, 99, 99, 101, 112, 116, 45, 108, 97, 110, 103, 117, 97, 103, 101]), .slice (some ⟨g1, 0, none⟩) ([[101, 110], [102, 114]]).length (([[101, 110], [102, 114]]).length)], .agg #[str ([97, 99, 99, 101, 112, 116, 45, 101, 110, 99, 111, 100, 105, 110, 103]), .slice (some ⟨g2, 0, none⟩) ([[103, 122, 105, 112], [105, 100, 101, 110, 116, 105, 116, 121]]).length (([[103, 122, 105, 112], [105, 100, 101, 110, 116, 105, 116, 121]]).length)]] [[str ([97, 99, 99, 101, 112, 116, 45, 108, 97, 110, 103, 117, 97, 103, 101]), .slice (some ⟨g1, 0, none⟩) ([[101, 110], [102, 114]]).length (([[101, 110], [102, 114]]).length)], [str ([97, 99, 99, 101, 112, 116, 45, 101, 110, 99, 111, 100, 105, 110, 103]), .slice (some ⟨g2, 0, none⟩) ([[103, 122, 105, 112], [105, 100, 101, 110, 116, 105, 116, 121]]).length (([[103, 122, 105, 112], [105, 100, 101, 110, 116, 105, 116, 121]]).length)]] (fun a hf => by simp only [List.zipIdx_cons, List.zipIdx_nil, List.map_toArray, List.map_cons, List.map_nil, hf.ev (show ev _ (.tmp 2) = some (.agg #[str ([97, 99, 99, 101, 112, 116, 45, 108, 97, 110, 103, 117, 97, 103, 101]), .slice (some ⟨g1, 0, none⟩) ([[101, 110], [102, 114]]).length (([[101, 110], [102, 114]]).length)]) from rfl), hf.ev (show ev _ (.tmp 4) = some (.agg #[str ([97, 99, 99, 101, 112, 116, 45, 101, 110, 99, 111, 100, 105, 110, 103]), .slice (some ⟨g2, 0, none⟩) ([[103, 122, 105, 112], [105, 100, 101, 110, 116, 105, 116, 121]]).length (([[103, 122, 105, 112], [105, 100, 101, 110, 116, 105, 116, 121]]).length)]) from rfl)] <;> rfl) rfl ⟨⟨[str ([97, 99, 99, 101, 112, 116, 45, 108, 97, 110, 103, 117, 97, 103, 101])], [.slice (some ⟨g1, 0, none⟩) ([[101, 110], [102, 114]]).length (([[101, 110], [102, 114]]).length)], rfl, rfl, ⟨(.slice (some ⟨g1, 0, none⟩) ([[101, 110], [102, 114]]).length (([[101, 110], [102, 114]]).length)), rfl, .tail _ (.head _)⟩⟩, ⟨⟨[str ([97, 99, 99, 101, 112, 116, 45, 101, 110, 99, 111, 100, 105, 110, 103])], [.slice (some ⟨g2, 0, none⟩) ([[103, 122, 105, 112], [105, 100, 101, 110, 116, 105, 116, 121]]).length (([[103, 122, 105, 112], [105, 100, 101, 110, 116, 105, 116, 121]]).length)], rfl, rfl, ⟨(.slice (some ⟨g2, 0, none⟩) ([[103, 122, 105, 112], [105, 100, 101, 110, 116, 105, 116, 121]]).length (([[103, 122, 105, 112], [105, 100, 101, 110, 116, 105, 116, 121]]).length)), rfl, .head _⟩⟩, trivial⟩⟩ Tryz.underlying23 ty_48 rfl rfl rfl rfl (fun g3 => ?_)
  refine jo_pure rfl (pr_assign rfl) ?_
  refine jo_nil ?_
  refine jq_then ?_
  refine jc_ret ?_
  refine j_row_of_rowg ?_
  refine j_pub_row ?_
  refine j_pull1 ?_
  refine j_drop ?_
  refine j_pull1 ?_
  refine j_drop ?_
  exact jq_ret1 rfl (.slice (some ⟨g3, 0, none⟩) ([([97, 99, 99, 101, 112, 116, 45, 108, 97, 110, 103, 117, 97, 103, 101], [[101, 110], [102, 114]]), ([97, 99, 99, 101, 112, 116, 45, 101, 110, 99, 111, 100, 105, 110, 103], [[103, 122, 105, 112], [105, 100, 101, 110, 116, 105, 116, 121]])]).length (([([97, 99, 99, 101, 112, 116, 45, 108, 97, 110, 103, 117, 97, 103, 101], [[101, 110], [102, 114]]), ([97, 99, 99, 101, 112, 116, 45, 101, 110, 99, 111, 100, 105, 110, 103], [[103, 122, 105, 112], [105, 100, 101, 110, 116, 105, 116, 121]])]).length)) rfl (show (.slice (some ⟨g3, 0, none⟩) ([([97, 99, 99, 101, 112, 116, 45, 108, 97, 110, 103, 117, 97, 103, 101], [[101, 110], [102, 114]]), ([97, 99, 99, 101, 112, 116, 45, 101, 110, 99, 111, 100, 105, 110, 103], [[103, 122, 105, 112], [105, 100, 101, 110, 116, 105, 116, 121]])]).length (([([97, 99, 99, 101, 112, 116, 45, 108, 97, 110, 103, 117, 97, 103, 101], [[101, 110], [102, 114]]), ([97, 99, 99, 101, 112, 116, 45, 101, 110, 99, 111, 100, 105, 110, 103], [[103, 122, 105, 112], [105, 100, 101, 110, 116, 105, 116, 121]])]).length) : Value) = (.slice (some ⟨g3, 0, none⟩) ([([97, 99, 99, 101, 112, 116, 45, 108, 97, 110, 103, 117, 97, 103, 101], [[101, 110], [102, 114]]), ([97, 99, 99, 101, 112, 116, 45, 101, 110, 99, 111, 100, 105, 110, 103], [[103, 122, 105, 112], [105, 100, 101, 110, 116, 105, 116, 121]])]).length (([([97, 99, 99, 101, 112, 116, 45, 108, 97, 110, 103, 117, 97, 103, 101], [[101, 110], [102, 114]]), ([97, 99, 99, 101, 112, 116, 45, 101, 110, 99, 111, 100, 105, 110, 103], [[103, 122, 105, 112], [105, 100, 101, 110, 116, 105, 116, 121]])]).length)) from rfl) (fun _ h => h)

theorem c_law15_awake   : Con Tryz.prog 22 #[] [] (fun _ : Unit => .bool (true)) (fun _ => []) := by
  refine con_of_J (args := []) (n := 21) Tryz.func22 rfl (Nat.le_of_ble_eq_true rfl) rfl (fun w0 I0 m0 => ?_)
  show J _ [] [] _
  refine jc_seq ?_
  refine jc_region ?_
  refine jo_pure rfl (pr_assign rfl) ?_
  refine jo_nil ?_
  refine jq_then ?_
  refine jc_seq ?_
  refine jc_region ?_
  refine jo_pure rfl (pr_build [(0, str ([86, 97, 114, 105, 97, 110, 116, 115])), (1, str ([65, 99, 99, 101, 112, 116, 45, 76, 97, 110, 103, 117, 97, 103, 101, 61, 40, 101, 110, 32, 102, 114, 41, 44, 32, 65, 99, 99, 101, 112, 116, 45, 69, 110, 99, 111, 100, 105, 110, 103, 61, 40, 32, 103, 122, 105, 112, 32, 32, 105, 100, 101, 110, 116, 105, 116, 121, 32, 41]))] [str ([86, 97, 114, 105, 97, 110, 116, 115]), str ([65, 99, 99, 101, 112, 116, 45, 76, 97, 110, 103, 117, 97, 103, 101, 61, 40, 101, 110, 32, 102, 114, 41, 44, 32, 65, 99, 99, 101, 112, 116, 45, 69, 110, 99, 111, 100, 105, 110, 103, 61, 40, 32, 103, 122, 105, 112, 32, 32, 105, 100, 101, 110, 116, 105, 116, 121, 32, 41])] (fun a hf => by simp only [List.map_toArray, List.map_cons, List.map_nil] <;> rfl) (by kernel_rfl)) ?_
  refine jo_buildSlice (t := (.pair .str .str)) [([86, 97, 114, 105, 97, 110, 116, 115], [65, 99, 99, 101, 112, 116, 45, 76, 97, 110, 103, 117, 97, 103, 101, 61, 40, 101, 110, 32, 102, 114, 41, 44, 32, 65, 99, 99, 101, 112, 116, 45, 69, 110, 99, 111, 100, 105, 110, 103, 61, 40, 32, 103, 122, 105, 112, 32, 32, 105, 100, 101, 110, 116, 105, 116, 121, 32, 41])] [.agg #[str ([86, 97, 114, 105, 97, 110, 116, 115]), str ([65, 99, 99, 101, 112, 116, 45, 76, 97, 110, 103, 117, 97, 103, 101, 61, 40, 101, 110, 32, 102, 114, 41, 44, 32, 65, 99, 99, 101, 112, 116, 45, 69, 110, 99, 111, 100, 105, 110, 103, 61, 40, 32, 103, 122, 105, 112, 32, 32, 105, 100, 101, 110, 116, 105, 116, 121, 32, 41])]] (fun a hf => by simp only [List.zipIdx_cons, List.zipIdx_nil, List.map_toArray, List.map_cons, List.map_nil, hf.ev (show ev _ (.tmp 4) = some (.agg #[str ([86, 97, 114, 105, 97, 110, 116, 115]), str ([65, 99, 99, 101, 112, 116, 45, 76, 97, 110, 103, 117, 97, 103, 101, 61, 40, 101, 110, 32, 102, 114, 41, 44, 32, 65, 99, 99, 101, 112, 116, 45, 69, 110, 99, 111, 100, 105, 110, 103, 61, 40, 32, 103, 122, 105, 112, 32, 32, 105, 100, 101, 110, 116, 105, 116, 121, 32, 41])]) from rfl)] <;> rfl) rfl Tryz.underlying22 ty_38 rfl rfl rfl rfl rfl (fun g1 => ?_)
  refine j_pub_rowg ?_
  refine jo_callp cal_23 (c_variants_Parse [([86, 97, 114, 105, 97, 110, 116, 115], [65, 99, 99, 101, 112, 116, 45, 76, 97, 110, 103, 117, 97, 103, 101, 61, 40, 101, 110, 32, 102, 114, 41, 44, 32, 65, 99, 99, 101, 112, 116, 45, 69, 110, 99, 111, 100, 105, 110, 103, 61, 40, 32, 103, 122, 105, 112, 32, 32, 105, 100, 101, 110, 116, 105, 116, 121, 32, 41])] (.slice (some ⟨g1, 0, none⟩) ([([86, 97, 114, 105, 97, 110, 116, 115], [65, 99, 99, 101, 112, 116, 45, 76, 97, 110, 103, 117, 97, 103, 101, 61, 40, 101, 110, 32, 102, 114, 41, 44, 32, 65, 99, 99, 101, 112, 116, 45, 69, 110, 99, 111, 100, 105, 110, 103, 61, 40, 32, 103, 122, 105, 112, 32, 32, 105, 100, 101, 110, 116, 105, 116, 121, 32, 41])]).length (([([86, 97, 114, 105, 97, 110, 116, 115], [65, 99, 99, 101, 112, 116, 45, 76, 97, 110, 103, 117, 97, 103, 101, 61, 40, 101, 110, 32, 102, 114, 41, 44, 32, 65, 99, 99, 101, 112, 116, 45, 69, 110, 99, 111, 100, 105, 110, 103, 61, 40, 32, 103, 122, 105, 112, 32, 32, 105, 100, 101, 110, 116, 105, 116, 121, 32, 41])]).length)) (by decide +kernel) (by decide +kernel)) ⟨rfl, trivial⟩ rfl (⟨⟨rfl, .head _⟩, trivial⟩) (fun r1 => ?_)
  show J _ _ [.imm (.list (.pair .str (.list .str))) (r1) ((parseV [([86, 97, 114, 105, 97, 110, 116, 115], [65, 99, 99, 101, 112, 116, 45, 76, 97, 110, 103, 117, 97, 103, 101, 61, 40, 101, 110, 32, 102, 114, 41, 44, 32, 65, 99, 99, 101, 112, 116, 45, 69, 110, 99, 111, 100, 105, 110, 103, 61, 40, 32, 103, 122, 105, 112, 32, 32, 105, 100, 101, 110, 116, 105, 116, 121, 32, 41])]).1), .imm (.list (.pair .str .str)) (.slice (some ⟨g1, 0, none⟩) ([([86, 97, 114, 105, 97, 110, 116, 115], [65, 99, 99, 101, 112, 116, 45, 76, 97, 110, 103, 117, 97, 103, 101, 61, 40, 101, 110, 32, 102, 114, 41, 44, 32, 65, 99, 99, 101, 112, 116, 45, 69, 110, 99, 111, 100, 105, 110, 103, 61, 40, 32, 103, 122, 105, 112, 32, 32, 105, 100, 101, 110, 116, 105, 116, 121, 32, 41])]).length (([([86, 97, 114, 105, 97, 110, 116, 115], [65, 99, 99, 101, 112, 116, 45, 76, 97, 110, 103, 117, 97, 103, 101, 61, 40, 101, 110, 32, 102, 114, 41, 44, 32, 65, 99, 99, 101, 112, 116, 45, 69, 110, 99, 111, 100, 105, 110, 103, 61, 40, 32, 103, 122, 105, 112, 32, 32, 105, 100, 101, 110, 116, 105, 116, 121, 32, 41])]).length)) ([([86, 97, 114, 105, 97, 110, 116, 115], [65, 99, 99, 101, 112, 116, 45, 76, 97, 110, 103, 117, 97, 103, 101, 61, 40, 101, 110, 32, 102, 114, 41, 44, 32, 65, 99, 99, 101, 112, 116, 45, 69, 110, 99, 111, 100, 105, 110, 103, 61, 40, 32, 103, 122, 105, 112, 32, 32, 105, 100, 101, 110, 116, 105, 116, 121, 32, 41])])] _
  refine jo_pure rfl (pr_move rfl) ?_
  refine jo_pure rfl (pr_extract rfl rfl) ?_
  refine jo_pure rfl (pr_extract rfl rfl) ?_
  refine jo_pure rfl (pr_assign rfl) ?_
  refine jo_pure rfl (pr_assign rfl) ?_
  refine jo_nil ?_
  refine jq_then ?_
  refine jc_seq ?_
  refine jc_region ?_
  refine jo_pure rfl (pr_move rfl) ?_
  refine jo_pure rfl (pr_eql (n := 0) rfl rfl) ?_
  refine jo_pure rfl (pr_move rfl) ?_
  have ht1 : (decide (((parseV [([86, 97, 114, 105, 97, 110, 116, 115], [65, 99, 99, 101, 112, 116, 45, 76, 97, 110, 103, 117, 97, 103, 101, 61, 40, 101, 110, 32, 102, 114, 41, 44, 32, 65, 99, 99, 101, 112, 116, 45, 69, 110, 99, 111, 100, 105, 110, 103, 61, 40, 32, 103, 122, 105, 112, 32, 32, 105, 100, 101, 110, 116, 105, 116, 121, 32, 41])]).2 : Int) = 0)) = true := by decide +kernel
  refine jo_run (j := 2) (want := true) rfl rfl (ht1) ?_
  refine jo_pure rfl (pr_move rfl) ?_
  refine jo_run (j := 2) (want := true) rfl rfl (ht1) ?_
  refine jo_callp cal_56 (c_law15_axes) trivial rfl (trivial) (fun r2 => ?_)
  show J _ _ [.imm (.list (.pair .str (.list .str))) (r2) ([([97, 99, 99, 101, 112, 116, 45, 108, 97, 110, 103, 117, 97, 103, 101], [[101, 110], [102, 114]]), ([97, 99, 99, 101, 112, 116, 45, 101, 110, 99, 111, 100, 105, 110, 103], [[103, 122, 105, 112], [105, 100, 101, 110, 116, 105, 116, 121]])]), .imm (.list (.pair .str (.list .str))) (r1) ((parseV [([86, 97, 114, 105, 97, 110, 116, 115], [65, 99, 99, 101, 112, 116, 45, 76, 97, 110, 103, 117, 97, 103, 101, 61, 40, 101, 110, 32, 102, 114, 41, 44, 32, 65, 99, 99, 101, 112, 116, 45, 69, 110, 99, 111, 100, 105, 110, 103, 61, 40, 32, 103, 122, 105, 112, 32, 32, 105, 100, 101, 110, 116, 105, 116, 121, 32, 41])]).1), .imm (.list (.pair .str .str)) (.slice (some ⟨g1, 0, none⟩) ([([86, 97, 114, 105, 97, 110, 116, 115], [65, 99, 99, 101, 112, 116, 45, 76, 97, 110, 103, 117, 97, 103, 101, 61, 40, 101, 110, 32, 102, 114, 41, 44, 32, 65, 99, 99, 101, 112, 116, 45, 69, 110, 99, 111, 100, 105, 110, 103, 61, 40, 32, 103, 122, 105, 112, 32, 32, 105, 100, 101, 110, 116, 105, 116, 121, 32, 41])]).length (([([86, 97, 114, 105, 97, 110, 116, 115], [65, 99, 99, 101, 112, 116, 45, 76, 97, 110, 103, 117, 97, 103, 101, 61, 40, 101, 110, 32, 102, 114, 41, 44, 32, 65, 99, 99, 101, 112, 116, 45, 69, 110, 99, 111, 100, 105, 110, 103, 61, 40, 32, 103, 122, 105, 112, 32, 32, 105, 100, 101, 110, 116, 105, 116, 121, 32, 41])]).length)) ([([86, 97, 114, 105, 97, 110, 116, 115], [65, 99, 99, 101, 112, 116, 45, 76, 97, 110, 103, 117, 97, 103, 101, 61, 40, 101, 110, 32, 102, 114, 41, 44, 32, 65, 99, 99, 101, 112, 116, 45, 69, 110, 99, 111, 100, 105, 110, 103, 61, 40, 32, 103, 122, 105, 112, 32, 32, 105, 100, 101, 110, 116, 105, 116, 121, 32, 41])])] _
  refine jo_run (j := 2) (want := true) rfl rfl (ht1) ?_
  refine jo_callp cal_20 (c_variants_Equal ((parseV [([86, 97, 114, 105, 97, 110, 116, 115], [65, 99, 99, 101, 112, 116, 45, 76, 97, 110, 103, 117, 97, 103, 101, 61, 40, 101, 110, 32, 102, 114, 41, 44, 32, 65, 99, 99, 101, 112, 116, 45, 69, 110, 99, 111, 100, 105, 110, 103, 61, 40, 32, 103, 122, 105, 112, 32, 32, 105, 100, 101, 110, 116, 105, 116, 121, 32, 41])]).1) r1 [([97, 99, 99, 101, 112, 116, 45, 108, 97, 110, 103, 117, 97, 103, 101], [[101, 110], [102, 114]]), ([97, 99, 99, 101, 112, 116, 45, 101, 110, 99, 111, 100, 105, 110, 103], [[103, 122, 105, 112], [105, 100, 101, 110, 116, 105, 116, 121]])] r2 (by decide +kernel) (by decide +kernel)) ⟨rfl, rfl, trivial⟩ rfl (⟨⟨rfl, .tail _ (.head _)⟩, ⟨⟨rfl, .head _⟩, trivial⟩⟩) (fun _ => ?_)
  refine jo_pure rfl (pr_pick_t rfl (ht1) rfl) ?_
  refine jo_pure rfl (pr_move rfl) ?_
  have ht2 : (decide (((parseV [([86, 97, 114, 105, 97, 110, 116, 115], [65, 99, 99, 101, 112, 116, 45, 76, 97, 110, 103, 117, 97, 103, 101, 61, 40, 101, 110, 32, 102, 114, 41, 44, 32, 65, 99, 99, 101, 112, 116, 45, 69, 110, 99, 111, 100, 105, 110, 103, 61, 40, 32, 103, 122, 105, 112, 32, 32, 105, 100, 101, 110, 116, 105, 116, 121, 32, 41])]).1) = [([97, 99, 99, 101, 112, 116, 45, 108, 97, 110, 103, 117, 97, 103, 101], [[101, 110], [102, 114]]), ([97, 99, 99, 101, 112, 116, 45, 101, 110, 99, 111, 100, 105, 110, 103], [[103, 122, 105, 112], [105, 100, 101, 110, 116, 105, 116, 121]])])) = true := by decide +kernel
  refine jo_run (j := 7) (want := true) rfl rfl (ht2) ?_
  refine jo_pure rfl (pr_move rfl) ?_
  refine jo_run (j := 7) (want := true) rfl rfl (ht2) ?_
  refine jo_callp cal_25 (c_variants_Format ((parseV [([86, 97, 114, 105, 97, 110, 116, 115], [65, 99, 99, 101, 112, 116, 45, 76, 97, 110, 103, 117, 97, 103, 101, 61, 40, 101, 110, 32, 102, 114, 41, 44, 32, 65, 99, 99, 101, 112, 116, 45, 69, 110, 99, 111, 100, 105, 110, 103, 61, 40, 32, 103, 122, 105, 112, 32, 32, 105, 100, 101, 110, 116, 105, 116, 121, 32, 41])]).1) r1 (by decide +kernel) (by decide +kernel)) ⟨rfl, trivial⟩ rfl (⟨⟨rfl, .tail _ (.head _)⟩, trivial⟩) (fun _ => ?_)
  refine jo_run (j := 7) (want := true) rfl rfl (ht2) ?_
  refine jo_pure rfl (pr_seql rfl rfl) ?_
  refine jo_pure rfl (pr_pick_t rfl (ht2) rfl) ?_
  refine jo_pure rfl (pr_assign rfl) ?_
  refine jo_nil ?_
  refine jq_then ?_
  refine jc_ret ?_
  refine j_drop ?_
  refine j_drop ?_
  refine j_drop ?_
  exact jq_ret1 rfl () rfl (show (.bool (true) : Value) = (.bool (decide ((formatV ((parseV [([86, 97, 114, 105, 97, 110, 116, 115], [65, 99, 99, 101, 112, 116, 45, 76, 97, 110, 103, 117, 97, 103, 101, 61, 40, 101, 110, 32, 102, 114, 41, 44, 32, 65, 99, 99, 101, 112, 116, 45, 69, 110, 99, 111, 100, 105, 110, 103, 61, 40, 32, 103, 122, 105, 112, 32, 32, 105, 100, 101, 110, 116, 105, 116, 121, 32, 41])]).1) : List UInt8) = [97, 99, 99, 101, 112, 116, 45, 108, 97, 110, 103, 117, 97, 103, 101, 61, 40, 101, 110, 32, 102, 114, 41, 44, 32, 97, 99, 99, 101, 112, 116, 45, 101, 110, 99, 111, 100, 105, 110, 103, 61, 40, 103, 122, 105, 112, 32, 105, 100, 101, 110, 116, 105, 116, 121, 41]))) from congrArg Value.bool (by decide +kernel)) (fun _ h => h)

theorem c_law15_VariantsValues (axis : List UInt8) (x : List UInt8) (y : List UInt8)  : Con Tryz.prog 8 #[str (axis), str (x), str (y)] [] (fun _ : Unit => .bool (true)) (fun _ => []) := by
  refine con_of_J (args := [str (axis), str (x), str (y)]) (n := 41) Tryz.func8 rfl (Nat.le_of_ble_eq_true rfl) rfl (fun w0 I0 m0 => ?_)
  show J _ [(0, str (axis)), (1, str (x)), (2, str (y))] [] _
  refine jc_seq ?_
  refine jc_region ?_
  refine jo_pure rfl (pr_assign rfl) ?_
  refine jo_nil ?_
  refine jq_then ?_
  refine jc_seq ?_
  refine jc_seq ?_
  refine jc_region ?_
  refine jo_pure rfl (pr_move rfl) ?_
  refine jo_pure rfl (pr_slen rfl Tryz.underlying9) ?_
  refine jo_pure rfl (pr_gtrN (m := axis.length) (n := 100) rfl rfl) ?_
  refine jo_pure rfl (pr_move rfl) ?_
  refine jo_gpure (j := 3) (want := false) rfl rfl rfl rfl (fun hg => pr_move rfl) ?_
  refine jo_gpure (j := 3) (want := false) rfl rfl rfl rfl (fun hg => pr_slen (evg rfl hg) Tryz.underlying9) ?_
  refine jo_gpure (j := 3) (want := false) rfl rfl rfl rfl (fun hg => pr_gtrN (m := x.length) (n := 300) (evg rfl hg) rfl) ?_
  refine jo_pure rfl (pr_pick_or rfl rfl rfl) ?_
  refine jo_pure rfl (pr_move rfl) ?_
  refine jo_gpure (j := 8) (want := false) rfl rfl rfl rfl (fun hg => pr_move rfl) ?_
  refine jo_gpure (j := 8) (want := false) rfl rfl rfl rfl (fun hg => pr_slen (evg rfl hg) Tryz.underlying9) ?_
  refine jo_gpure (j := 8) (want := false) rfl rfl rfl rfl (fun hg => pr_gtrN (m := y.length) (n := 300) (evg rfl hg) rfl) ?_
  refine jo_pure rfl (pr_pick_or rfl rfl rfl) ?_
  refine jo_nil ?_
  refine jq_then ?_
  refine jc_cond rfl (fun h1b => ?_) (fun h1b => ?_)
  · have h1 := (fun q => Or.imp (fun q => Or.imp of_decide_eq_true of_decide_eq_true (bt_or q)) of_decide_eq_true (bt_or q)) h1b
    refine jc_seq ?_
    refine jc_region ?_
    refine jo_pure rfl (pr_assign rfl) ?_
    refine jo_nil ?_
    refine jq_then ?_
    refine jc_ret ?_
    refine jq_then_ret ?_
    exact jq_ret1 rfl () rfl (show (.bool (true) : Value) = (.bool (true)) from rfl) (fun _ h => h)
  · have h1 := (fun q => And.imp (fun q => And.imp of_decide_eq_false of_decide_eq_false (bf_or q)) of_decide_eq_false (bf_or q)) h1b
    refine jc_skip ?_
    refine jq_then ?_
    refine jc_seq ?_
    refine jc_region ?_
    refine jo_pure rfl (pr_move rfl) ?_
    refine jo_pure rfl (pr_move rfl) ?_
    refine jo_callp cal_27 (c_variants_Value axis x (by omega) (by omega)) ⟨rfl, rfl, trivial⟩ rfl (trivial) (fun _ => ?_)
    refine jo_pure rfl (pr_move rfl) ?_
    refine jo_pure rfl (pr_move rfl) ?_
    refine jo_callp cal_28 (c_ref10_Value axis x (by omega) (by omega)) ⟨rfl, rfl, trivial⟩ rfl (trivial) (fun _ => ?_)
    refine jo_pure rfl (pr_eqlb rfl rfl Tryz.underlying4) ?_
    refine jo_pure rfl (pr_move rfl) ?_
    refine jo_gpure (j := 7) (want := true) rfl rfl rfl rfl (fun hg => pr_move rfl) ?_
    refine jo_gpure (j := 7) (want := true) rfl rfl rfl rfl (fun hg => pr_move rfl) ?_
    refine jo_gpure (j := 7) (want := true) rfl rfl rfl rfl (fun hg => pr_move rfl) ?_
    refine jo_gcall (j := 7) (want := true) rfl rfl rfl cal_29 (fun hg => c_variants_Same axis x y (by omega) (by omega) (by omega)) (fun hg => ⟨evg rfl hg, evg rfl hg, evg rfl hg, trivial⟩) rfl (fun _ => trivial) ?_
    refine jo_gpure (j := 7) (want := true) rfl rfl rfl rfl (fun hg => pr_move rfl) ?_
    refine jo_gpure (j := 7) (want := true) rfl rfl rfl rfl (fun hg => pr_move rfl) ?_
    refine jo_gpure (j := 7) (want := true) rfl rfl rfl rfl (fun hg => pr_move rfl) ?_
    refine jo_gcall (j := 7) (want := true) rfl rfl rfl cal_30 (fun hg => c_ref10_Same axis x y (by omega) (by omega) (by omega)) (fun hg => ⟨evg rfl hg, evg rfl hg, evg rfl hg, trivial⟩) rfl (fun _ => trivial) ?_
    refine jo_gpure (j := 7) (want := true) rfl rfl rfl rfl (fun hg => pr_eqlb (evg rfl hg) (evg rfl hg) Tryz.underlying4) ?_
    refine jo_pure rfl (pr_pick_and rfl rfl rfl) ?_
    refine jo_pure rfl (pr_move rfl) ?_
    refine jo_gcall (j := 18) (want := true) rfl rfl rfl cal_22 (fun hg => c_law15_awake) (fun hg => trivial) rfl (fun _ => trivial) ?_
    refine jo_pure rfl (pr_pick_and rfl rfl rfl) ?_
    refine jo_pure rfl (pr_assign rfl) ?_
    refine jo_nil ?_
    refine jq_then ?_
    refine jc_ret ?_
    exact jq_ret1 rfl () rfl (show (.bool (true) : Value) = (.bool ((((valueF axis x == valueF axis x) && (sameF axis x y == sameF axis x y)) && true))) from by simp) (fun _ h => h)

theorem c_law15_VariantsValidity (x : List ((List UInt8) × (List (List UInt8)))) (xv : Value) (y : List ((List UInt8) × (List (List UInt8)))) (yv : Value) (hlx : x.length ≤ 9223372036854775807) (hly : y.length ≤ 9223372036854775807) (hmx : ∀ a ∈ x, a.2.length ≤ 9223372036854775807) (hmy : ∀ a ∈ y, a.2.length ≤ 9223372036854775807) : Con Tryz.prog 4 #[xv, yv] [.imm (.list (.pair .str (.list .str))) (xv) (x), .imm (.list (.pair .str (.list .str))) (yv) (y)] (fun _ : Unit => .bool (true)) (fun _ => []) := by
  refine con_of_J (args := [xv, yv]) (n := 30) Tryz.func4 rfl (Nat.le_of_ble_eq_true rfl) rfl (fun w0 I0 m0 => ?_)
  show J _ [(0, xv), (1, yv)] [.imm (.list (.pair .str (.list .str))) (xv) (x), .imm (.list (.pair .str (.list .str))) (yv) (y)] _
  refine jc_seq ?_
  refine jc_region ?_
  refine jo_pure rfl (pr_assign rfl) ?_
  refine jo_nil ?_
  refine jq_then ?_
  refine jc_seq ?_
  refine jc_seq ?_
  refine jc_region ?_
  refine jo_pure rfl (pr_move rfl) ?_
  refine jo_callp cal_13 (c_keep_Axes x xv (by first | exact hlx | exact hly | exact hmx | exact hmy | exact hmx2) (by first | exact hlx | exact hly | exact hmx | exact hmy | exact hmx2)) ⟨rfl, trivial⟩ rfl (⟨⟨rfl, .head _⟩, trivial⟩) (fun _ => ?_)
  refine jo_pure rfl (pr_not rfl) ?_
  refine jo_pure rfl (pr_move rfl) ?_
  refine jo_gpure (j := 3) (want := false) rfl rfl rfl rfl (fun hg => pr_move rfl) ?_
  refine jo_gcall (j := 3) (want := false) rfl rfl rfl cal_13 (fun hg => c_keep_Axes y yv (by first | exact hlx | exact hly | exact hmx | exact hmy | exact hmx2) (by first | exact hlx | exact hly | exact hmx | exact hmy | exact hmx2)) (fun hg => ⟨evg rfl hg, trivial⟩) rfl (fun _ => ⟨⟨rfl, .tail _ (.head _)⟩, trivial⟩) ?_
  refine jo_gpure (j := 3) (want := false) rfl rfl rfl rfl (fun hg => pr_not (evg rfl hg)) ?_
  refine jo_pure rfl (pr_pick_or rfl rfl rfl) ?_
  refine jo_nil ?_
  refine jq_then ?_
  refine jc_cond rfl (fun h1b => ?_) (fun h1b => ?_)
  · have h1 := (fun q => Or.imp (fun q => id (bt_not q)) (fun q => id (bt_not q)) (bt_or q)) h1b
    refine jc_seq ?_
    refine jc_region ?_
    refine jo_pure rfl (pr_assign rfl) ?_
    refine jo_nil ?_
    refine jq_then ?_
    refine jc_ret ?_
    refine jq_then_ret ?_
    refine j_drop ?_
    refine j_drop ?_
    exact jq_ret1 rfl () rfl (show (.bool (true) : Value) = (.bool (true)) from rfl) (fun _ h => h)
  · have h1 := (fun q => And.imp (fun q => id (bf_not q)) (fun q => id (bf_not q)) (bf_or q)) h1b
    have hkx : keepA x = true := by simpa using h1.1
    have hmx2 : ∀ a ∈ x, a.1.length ≤ 1000000 ∧ (∀ z ∈ a.2, z.length ≤ 300000) ∧ a.2.length ≤ 9223372036854775807 := fun a ha => by have h9 := keepA_mem hkx a ha; exact ⟨by omega, fun z hz => Nat.le_trans (h9.2.2 z hz) (by omega), by omega⟩
    refine jc_skip ?_
    refine jq_then ?_
    refine jc_seq ?_
    refine jc_region ?_
    refine jo_pure rfl (pr_move rfl) ?_
    refine jo_callp cal_18 (c_variants_Valid x xv (by first | exact hlx | exact hly | exact hmx | exact hmy | exact hmx2) (by first | exact hlx | exact hly | exact hmx | exact hmy | exact hmx2)) ⟨rfl, trivial⟩ rfl (⟨⟨rfl, .head _⟩, trivial⟩) (fun _ => ?_)
    refine jo_pure rfl (pr_move rfl) ?_
    refine jo_callp cal_19 (c_ref10_Valid x xv (by first | exact hlx | exact hly | exact hmx | exact hmy | exact hmx2) (by first | exact hlx | exact hly | exact hmx | exact hmy | exact hmx2)) ⟨rfl, trivial⟩ rfl (⟨⟨rfl, .head _⟩, trivial⟩) (fun _ => ?_)
    refine jo_pure rfl (pr_eqlb rfl rfl Tryz.underlying4) ?_
    refine jo_pure rfl (pr_move rfl) ?_
    refine jo_gpure (j := 5) (want := true) rfl rfl rfl rfl (fun hg => pr_move rfl) ?_
    refine jo_gpure (j := 5) (want := true) rfl rfl rfl rfl (fun hg => pr_move rfl) ?_
    refine jo_gcall (j := 5) (want := true) rfl rfl rfl cal_20 (fun hg => c_variants_Equal x xv y yv (by first | exact hlx | exact hly | exact hmx | exact hmy | exact hmx2) (by first | exact hlx | exact hly | exact hmx | exact hmy | exact hmx2)) (fun hg => ⟨evg rfl hg, evg rfl hg, trivial⟩) rfl (fun _ => ⟨⟨rfl, .head _⟩, ⟨⟨rfl, .tail _ (.head _)⟩, trivial⟩⟩) ?_
    refine jo_gpure (j := 5) (want := true) rfl rfl rfl rfl (fun hg => pr_move rfl) ?_
    refine jo_gpure (j := 5) (want := true) rfl rfl rfl rfl (fun hg => pr_move rfl) ?_
    refine jo_gcall (j := 5) (want := true) rfl rfl rfl cal_21 (fun hg => c_ref10_Equal x xv y yv (by first | exact hlx | exact hly | exact hmx | exact hmy | exact hmx2) (by first | exact hlx | exact hly | exact hmx | exact hmy | exact hmx2)) (fun hg => ⟨evg rfl hg, evg rfl hg, trivial⟩) rfl (fun _ => ⟨⟨rfl, .head _⟩, ⟨⟨rfl, .tail _ (.head _)⟩, trivial⟩⟩) ?_
    refine jo_gpure (j := 5) (want := true) rfl rfl rfl rfl (fun hg => pr_eqlb (evg rfl hg) (evg rfl hg) Tryz.underlying4) ?_
    refine jo_pure rfl (pr_pick_and rfl rfl rfl) ?_
    refine jo_pure rfl (pr_move rfl) ?_
    refine jo_gcall (j := 14) (want := true) rfl rfl rfl cal_22 (fun hg => c_law15_awake) (fun hg => trivial) rfl (fun _ => trivial) ?_
    refine jo_pure rfl (pr_pick_and rfl rfl rfl) ?_
    refine jo_pure rfl (pr_assign rfl) ?_
    refine jo_nil ?_
    refine jq_then ?_
    refine jc_ret ?_
    refine j_drop ?_
    refine j_drop ?_
    exact jq_ret1 rfl () rfl (show (.bool (true) : Value) = (.bool ((((validL x == validL x) && (decide (x = y) == decide (x = y))) && true))) from by simp) (fun _ h => h)

theorem c_law15_VariantsParses (l : List ((List UInt8) × (List UInt8))) (lv : Value) (hl : l.length ≤ 9223372036854775807) : Con Tryz.prog 5 #[lv] [.imm (.list (.pair .str .str)) (lv) (l)] (fun _ : Unit => .bool (true)) (fun _ => []) := by
  refine con_of_J (args := [lv]) (n := 31) Tryz.func5 rfl (Nat.le_of_ble_eq_true rfl) rfl (fun w0 I0 m0 => ?_)
  show J _ [(0, lv)] [.imm (.list (.pair .str .str)) (lv) (l)] _
  refine jc_seq ?_
  refine jc_region ?_
  refine jo_pure rfl (pr_assign rfl) ?_
  refine jo_nil ?_
  refine jq_then ?_
  refine jc_seq ?_
  refine jc_seq ?_
  refine jc_region ?_
  refine jo_pure rfl (pr_move rfl) ?_
  refine jo_callp cal_12 (c_keep_Fields l lv (by first | exact hl | exact hlen | exact hmem | exact hlo | exact hmo)) ⟨rfl, trivial⟩ rfl (⟨⟨rfl, .head _⟩, trivial⟩) (fun _ => ?_)
  refine jo_pure rfl (pr_not rfl) ?_
  refine jo_nil ?_
  refine jq_then ?_
  refine jc_cond rfl (fun h1b => ?_) (fun h1b => ?_)
  · have h1 := (fun q => id (bt_not q)) h1b
    refine jc_seq ?_
    refine jc_region ?_
    refine jo_pure rfl (pr_assign rfl) ?_
    refine jo_nil ?_
    refine jq_then ?_
    refine jc_ret ?_
    refine jq_then_ret ?_
    refine j_drop ?_
    exact jq_ret1 rfl () rfl (show (.bool (true) : Value) = (.bool (true)) from rfl) (fun _ h => h)
  · have h1 := (fun q => id (bf_not q)) h1b
    have hkeep : keepF l = true := by simpa using h1
    have hlen : l.length ≤ 1000000 := by have := keepF_len hkeep; omega
    have hmem : ∀ z ∈ l, z.1.length ≤ 300000 ∧ z.2.length ≤ 300000 := fun z hz => by have := keepF_mem hkeep z hz; omega
    have hlo := parseV_len l
    have hmo := parseV_fin hmem
    refine jc_skip ?_
    refine jq_then ?_
    refine jc_seq ?_
    refine jc_region ?_
    refine jo_pure rfl (pr_move rfl) ?_
    refine jo_callp cal_23 (c_variants_Parse l lv (by first | exact hl | exact hlen | exact hmem | exact hlo | exact hmo) (by first | exact hl | exact hlen | exact hmem | exact hlo | exact hmo)) ⟨rfl, trivial⟩ rfl (⟨⟨rfl, .head _⟩, trivial⟩) (fun r1 => ?_)
    show J _ _ [.imm (.list (.pair .str (.list .str))) (r1) ((parseV l).1), .imm (.list (.pair .str .str)) (lv) (l)] _
    refine jo_pure rfl (pr_move rfl) ?_
    refine jo_pure rfl (pr_extract rfl rfl) ?_
    refine jo_pure rfl (pr_extract rfl rfl) ?_
    refine jo_pure rfl (pr_assign rfl) ?_
    refine jo_pure rfl (pr_assign rfl) ?_
    refine jo_nil ?_
    refine jq_then ?_
    refine jc_seq ?_
    refine jc_region ?_
    refine jo_pure rfl (pr_move rfl) ?_
    refine jo_callp cal_24 (c_ref10_ParseVariants l lv (by first | exact hl | exact hlen | exact hmem | exact hlo | exact hmo) (by first | exact hl | exact hlen | exact hmem | exact hlo | exact hmo)) ⟨rfl, trivial⟩ rfl (⟨⟨rfl, .tail _ (.head _)⟩, trivial⟩) (fun r2 => ?_)
    show J _ _ [.imm (.list (.pair .str (.list .str))) (r2) ((parseV l).1), .imm (.list (.pair .str (.list .str))) (r1) ((parseV l).1), .imm (.list (.pair .str .str)) (lv) (l)] _
    refine jo_pure rfl (pr_move rfl) ?_
    refine jo_pure rfl (pr_extract rfl rfl) ?_
    refine jo_pure rfl (pr_extract rfl rfl) ?_
    refine jo_pure rfl (pr_assign rfl) ?_
    refine jo_pure rfl (pr_assign rfl) ?_
    refine jo_nil ?_
    refine jq_then ?_
    refine jc_seq ?_
    refine jc_region ?_
    refine jo_pure rfl (pr_move rfl) ?_
    refine jo_pure rfl (pr_move rfl) ?_
    refine jo_callp cal_21 (c_ref10_Equal ((parseV l).1) r1 ((parseV l).1) r2 (by first | exact hl | exact hlen | exact hmem | exact hlo | exact hmo) (by first | exact hl | exact hlen | exact hmem | exact hlo | exact hmo)) ⟨rfl, rfl, trivial⟩ rfl (⟨⟨rfl, .tail _ (.head _)⟩, ⟨⟨rfl, .head _⟩, trivial⟩⟩) (fun _ => ?_)
    refine jo_pure rfl (pr_move rfl) ?_
    refine jo_gpure (j := 3) (want := true) rfl rfl rfl rfl (fun hg => pr_move rfl) ?_
    refine jo_gpure (j := 3) (want := true) rfl rfl rfl rfl (fun hg => pr_move rfl) ?_
    refine jo_gpure (j := 3) (want := true) rfl rfl rfl rfl (fun hg => pr_eql (evg rfl hg) (evg rfl hg)) ?_
    refine jo_pure rfl (pr_pick_and rfl rfl rfl) ?_
    refine jo_pure rfl (pr_move rfl) ?_
    refine jo_gcall (j := 8) (want := true) rfl rfl rfl cal_22 (fun hg => c_law15_awake) (fun hg => trivial) rfl (fun _ => trivial) ?_
    refine jo_pure rfl (pr_pick_and rfl rfl rfl) ?_
    refine jo_pure rfl (pr_assign rfl) ?_
    refine jo_nil ?_
    refine jq_then ?_
    refine jc_ret ?_
    refine j_drop ?_
    refine j_drop ?_
    refine j_drop ?_
    exact jq_ret1 rfl () rfl (show (.bool (true) : Value) = (.bool (((decide (((parseV l).1) = ((parseV l).1)) && decide (((parseV l).2 : Int) = (parseV l).2)) && true))) from by simp) (fun _ h => h)

theorem c_law15_VariantsFormats (l : List ((List UInt8) × (List (List UInt8)))) (lv : Value) (hl : l.length ≤ 9223372036854775807) (hm : ∀ a ∈ l, a.2.length ≤ 9223372036854775807) : Con Tryz.prog 6 #[lv] [.imm (.list (.pair .str (.list .str))) (lv) (l)] (fun _ : Unit => .bool (true)) (fun _ => []) := by
  refine con_of_J (args := [lv]) (n := 16) Tryz.func6 rfl (Nat.le_of_ble_eq_true rfl) rfl (fun w0 I0 m0 => ?_)
  show J _ [(0, lv)] [.imm (.list (.pair .str (.list .str))) (lv) (l)] _
  refine jc_seq ?_
  refine jc_region ?_
  refine jo_pure rfl (pr_assign rfl) ?_
  refine jo_nil ?_
  refine jq_then ?_
  refine jc_seq ?_
  by_cases hz : keepA l = true
  · skip
    have hk : keepA l = true := hz
    have hml : ∀ a ∈ l, a.1.length ≤ 300 ∧ a.2.length ≤ 20 ∧ ∀ x ∈ a.2, x.length ≤ 300 := fun a ha => by have h9 := keepA_mem hk a ha; exact ⟨by omega, by omega, fun z hz => Nat.le_trans (h9.2.2 z hz) (by omega)⟩
    have hll : l.length ≤ 100 := by have := keepA_len hk; omega
    refine jc_region ?_
    refine jo_pure rfl (pr_move rfl) ?_
    refine jo_callp cal_13 (c_keep_Axes l lv (by first | exact hl | exact hm | exact hll | exact hml) (by first | exact hl | exact hm | exact hll | exact hml)) ⟨rfl, trivial⟩ rfl (⟨⟨rfl, .head _⟩, trivial⟩) (fun _ => ?_)
    refine jo_pure rfl (pr_not rfl) ?_
    refine jo_pure rfl (pr_move rfl) ?_
    refine jo_run (j := 3) (want := false) rfl rfl (by rw [hz]; rfl) ?_
    refine jo_pure rfl (pr_move rfl) ?_
    refine jo_run (j := 3) (want := false) rfl rfl (by rw [hz]; rfl) ?_
    refine jo_callp cal_25 (c_variants_Format l lv (by first | exact hl | exact hm | exact hll | exact hml) (by first | exact hl | exact hm | exact hll | exact hml)) ⟨rfl, trivial⟩ rfl (⟨⟨rfl, .head _⟩, trivial⟩) (fun _ => ?_)
    refine jo_run (j := 3) (want := false) rfl rfl (by rw [hz]; rfl) ?_
    refine jo_pure rfl (pr_move rfl) ?_
    refine jo_run (j := 3) (want := false) rfl rfl (by rw [hz]; rfl) ?_
    refine jo_callp cal_26 (c_ref10_FormatVariants l lv (by first | exact hl | exact hm | exact hll | exact hml) (by first | exact hl | exact hm | exact hll | exact hml)) ⟨rfl, trivial⟩ rfl (⟨⟨rfl, .head _⟩, trivial⟩) (fun _ => ?_)
    refine jo_run (j := 3) (want := false) rfl rfl (by rw [hz]; rfl) ?_
    refine jo_pure rfl (pr_seql rfl rfl) ?_
    refine jo_run (j := 3) (want := false) rfl rfl (by rw [hz]; rfl) ?_
    refine jo_pure rfl (pr_move rfl) ?_
    refine jo_gcall (j := 9) (want := true) rfl rfl rfl cal_22 (fun hg => c_law15_awake) (fun hg => trivial) rfl (fun _ => trivial) ?_
    refine jo_run (j := 3) (want := false) rfl rfl (by rw [hz]; rfl) ?_
    refine jo_pure rfl (pr_pick_and rfl rfl rfl) ?_
    refine jo_pure rfl (pr_pick_f rfl (by rw [hz]; rfl) rfl) ?_
    refine jo_pure rfl (pr_assign rfl) ?_
    refine jo_nil ?_
    refine jq_then ?_
    refine jc_ret ?_
    refine j_drop ?_
    exact jq_ret1 rfl () rfl (show (.bool (true) : Value) = (.bool ((decide ((formatV l : List UInt8) = formatV l) && true))) from by simp) (fun _ h => h)
  · skip
    refine jc_region ?_
    refine jo_pure rfl (pr_move rfl) ?_
    refine jo_callp cal_13 (c_keep_Axes l lv (by first | exact hl | exact hm | exact hll | exact hml) (by first | exact hl | exact hm | exact hll | exact hml)) ⟨rfl, trivial⟩ rfl (⟨⟨rfl, .head _⟩, trivial⟩) (fun _ => ?_)
    refine jo_pure rfl (pr_not rfl) ?_
    refine jo_pure rfl (pr_move rfl) ?_
    refine jo_skipu (j := 3) (want := false) rfl rfl (by simpa using hz) rfl ?_
    refine jo_skipu (j := 3) (want := false) rfl rfl (by simpa using hz) rfl ?_
    refine jo_skipu (j := 3) (want := false) rfl rfl (by simpa using hz) rfl ?_
    refine jo_skipu (j := 3) (want := false) rfl rfl (by simpa using hz) rfl ?_
    refine jo_skipu (j := 3) (want := false) rfl rfl (by simpa using hz) rfl ?_
    refine jo_skipu (j := 3) (want := false) rfl rfl (by simpa using hz) rfl ?_
    refine jo_skipn (j := 9) rfl rfl rfl ?_
    refine jo_skipu (j := 3) (want := false) rfl rfl (by simpa using hz) rfl ?_
    refine jo_pure rfl (pr_pick_t rfl (by simpa using hz) rfl) ?_
    refine jo_pure rfl (pr_assign rfl) ?_
    refine jo_nil ?_
    refine jq_then ?_
    refine jc_ret ?_
    refine j_drop ?_
    exact jq_ret1 rfl () rfl (show (.bool (true) : Value) = (.bool (true)) from congrArg Value.bool (by first | rfl | simp)) (fun _ h => h)

theorem c_law15_VariantsBack (l : List ((List UInt8) × (List (List UInt8)))) (lv : Value) (hl : l.length ≤ 9223372036854775807) (hm : ∀ a ∈ l, a.2.length ≤ 9223372036854775807) : Con Tryz.prog 7 #[lv] [.imm (.list (.pair .str (.list .str))) (lv) (l)] (fun _ : Unit => .bool (true)) (fun _ => []) := by
  refine con_of_J (args := [lv]) (n := 31) Tryz.func7 rfl (Nat.le_of_ble_eq_true rfl) rfl (fun w0 I0 m0 => ?_)
  show J _ [(0, lv)] [.imm (.list (.pair .str (.list .str))) (lv) (l)] _
  refine jc_seq ?_
  refine jc_region ?_
  refine jo_pure rfl (pr_assign rfl) ?_
  refine jo_nil ?_
  refine jq_then ?_
  refine jc_seq ?_
  refine jc_seq ?_
  by_cases hz : keepA l = true
  · skip
    have hk : keepA l = true := hz
    have hml : ∀ a ∈ l, a.1.length ≤ 300 ∧ a.2.length ≤ 20 ∧ ∀ x ∈ a.2, x.length ≤ 300 := fun a ha => by have h9 := keepA_mem hk a ha; exact ⟨by omega, by omega, fun z hz => Nat.le_trans (h9.2.2 z hz) (by omega)⟩
    have hll : l.length ≤ 100 := by have := keepA_len hk; omega
    have hml2 : ∀ a ∈ l, a.1.length ≤ 1000000 ∧ (∀ z ∈ a.2, z.length ≤ 300000) ∧ a.2.length ≤ 9223372036854775807 := fun a ha => by have h9 := hml a ha; exact ⟨by omega, fun z hz => Nat.le_trans (h9.2.2 z hz) (by omega), by omega⟩
    refine jc_region ?_
    refine jo_pure rfl (pr_move rfl) ?_
    refine jo_callp cal_13 (c_keep_Axes l lv (by first | exact hl | exact hm | exact hll | exact hml | exact hml2 | exact hfl | (simp only [List.length_cons, List.length_nil]; omega)) (by first | exact hl | exact hm | exact hll | exact hml | exact hml2 | exact hfl | (simp only [List.length_cons, List.length_nil]; omega))) ⟨rfl, trivial⟩ rfl (⟨⟨rfl, .head _⟩, trivial⟩) (fun _ => ?_)
    refine jo_pure rfl (pr_not rfl) ?_
    refine jo_pure rfl (pr_move rfl) ?_
    refine jo_run (j := 3) (want := false) rfl rfl (by rw [hz]; rfl) ?_
    refine jo_pure rfl (pr_move rfl) ?_
    refine jo_run (j := 3) (want := false) rfl rfl (by rw [hz]; rfl) ?_
    refine jo_callp cal_19 (c_ref10_Valid l lv (by first | exact hl | exact hm | exact hll | exact hml | exact hml2 | exact hfl | (simp only [List.length_cons, List.length_nil]; omega)) (by first | exact hl | exact hm | exact hll | exact hml | exact hml2 | exact hfl | (simp only [List.length_cons, List.length_nil]; omega))) ⟨rfl, trivial⟩ rfl (⟨⟨rfl, .head _⟩, trivial⟩) (fun _ => ?_)
    refine jo_run (j := 3) (want := false) rfl rfl (by rw [hz]; rfl) ?_
    refine jo_pure rfl (pr_not rfl) ?_
    refine jo_pure rfl (pr_pick_f rfl (by rw [hz]; rfl) rfl) ?_
    refine jo_nil ?_
    refine jq_then ?_
    refine jc_cond rfl (fun h1b => ?_) (fun h1b => ?_)
    · have h1 := (fun q => id (bt_not q)) h1b
      refine jc_seq ?_
      refine jc_region ?_
      refine jo_pure rfl (pr_assign rfl) ?_
      refine jo_nil ?_
      refine jq_then ?_
      refine jc_ret ?_
      refine jq_then_ret ?_
      refine j_drop ?_
      exact jq_ret1 rfl () rfl (show (.bool (true) : Value) = (.bool (true)) from rfl) (fun _ h => h)
    · have h1 := (fun q => id (bf_not q)) h1b
      have hv : validL l = true := by simpa using h1
      have hback := variants_back (l := l) (nm := [118, 97, 114, 105, 97, 110, 116, 115]) (by decide) hv
      have hfl : ∀ x ∈ [(([118, 97, 114, 105, 97, 110, 116, 115] : List UInt8), formatV l)], x.1.length ≤ 300000 ∧ x.2.length ≤ 300000 := fun x hx => by obtain rfl := List.mem_singleton.1 hx; exact ⟨by simp, formatV_length hll hml⟩
      refine jc_skip ?_
      refine jq_then ?_
      refine jc_seq ?_
      refine jc_region ?_
      refine jo_pure rfl (pr_move rfl) ?_
      refine jo_callp cal_25 (c_variants_Format l lv (by first | exact hl | exact hm | exact hll | exact hml | exact hml2 | exact hfl | (simp only [List.length_cons, List.length_nil]; omega)) (by first | exact hl | exact hm | exact hll | exact hml | exact hml2 | exact hfl | (simp only [List.length_cons, List.length_nil]; omega))) ⟨rfl, trivial⟩ rfl (⟨⟨rfl, .head _⟩, trivial⟩) (fun _ => ?_)
      refine jo_pure rfl (pr_build [(0, str ([118, 97, 114, 105, 97, 110, 116, 115])), (1, str (formatV l))] [str ([118, 97, 114, 105, 97, 110, 116, 115]), str (formatV l)] (fun a hf => by simp only [List.map_toArray, List.map_cons, List.map_nil, hf.ev (show ev _ (.tmp 15) = some (str (formatV l)) from rfl)] <;> rfl) (by kernel_rfl)) ?_
      refine jo_buildSlice (t := (.pair .str .str)) [([118, 97, 114, 105, 97, 110, 116, 115], formatV l)] [.agg #[str ([118, 97, 114, 105, 97, 110, 116, 115]), str (formatV l)]] (fun a hf => by simp only [List.zipIdx_cons, List.zipIdx_nil, List.map_toArray, List.map_cons, List.map_nil, hf.ev (show ev _ (.tmp 16) = some (.agg #[str ([118, 97, 114, 105, 97, 110, 116, 115]), str (formatV l)]) from rfl)] <;> rfl) rfl Tryz.underlying22 ty_38 rfl rfl rfl rfl rfl (fun g1 => ?_)
      refine j_pub_rowg ?_
      refine jo_callp cal_23 (c_variants_Parse [([118, 97, 114, 105, 97, 110, 116, 115], formatV l)] (.slice (some ⟨g1, 0, none⟩) ([([118, 97, 114, 105, 97, 110, 116, 115], formatV l)]).length (([([118, 97, 114, 105, 97, 110, 116, 115], formatV l)]).length)) (by first | exact hl | exact hm | exact hll | exact hml | exact hml2 | exact hfl | (simp only [List.length_cons, List.length_nil]; omega)) (by first | exact hl | exact hm | exact hll | exact hml | exact hml2 | exact hfl | (simp only [List.length_cons, List.length_nil]; omega))) ⟨rfl, trivial⟩ rfl (⟨⟨rfl, .head _⟩, trivial⟩) (fun r1 => ?_)
      show J _ _ [.imm (.list (.pair .str (.list .str))) (r1) ((parseV [([118, 97, 114, 105, 97, 110, 116, 115], formatV l)]).1), .imm (.list (.pair .str .str)) (.slice (some ⟨g1, 0, none⟩) ([([118, 97, 114, 105, 97, 110, 116, 115], formatV l)]).length (([([118, 97, 114, 105, 97, 110, 116, 115], formatV l)]).length)) ([([118, 97, 114, 105, 97, 110, 116, 115], formatV l)]), .imm (.list (.pair .str (.list .str))) (lv) (l)] _
      refine jo_pure rfl (pr_move rfl) ?_
      refine jo_pure rfl (pr_extract rfl rfl) ?_
      refine jo_pure rfl (pr_extract rfl rfl) ?_
      refine jo_pure rfl (pr_assign rfl) ?_
      refine jo_pure rfl (pr_assign rfl) ?_
      refine jo_nil ?_
      refine jq_then ?_
      refine jc_seq ?_
      refine jc_region ?_
      refine jo_pure rfl (pr_move rfl) ?_
      refine jo_pure rfl (pr_eql (n := 0) rfl rfl) ?_
      refine jo_pure rfl (pr_move rfl) ?_
      refine jo_gpure (j := 2) (want := true) rfl rfl rfl rfl (fun hg => pr_move rfl) ?_
      refine jo_gpure (j := 2) (want := true) rfl rfl rfl rfl (fun hg => pr_move rfl) ?_
      refine jo_gcall (j := 2) (want := true) rfl rfl rfl cal_21 (fun hg => c_ref10_Equal l lv ((parseV [([118, 97, 114, 105, 97, 110, 116, 115], formatV l)]).1) r1 (by first | exact hl | exact hm | exact hll | exact hml | exact hml2 | exact hfl | (simp only [List.length_cons, List.length_nil]; omega)) (by first | exact hl | exact hm | exact hll | exact hml | exact hml2 | exact hfl | (simp only [List.length_cons, List.length_nil]; omega))) (fun hg => ⟨evg rfl hg, evg rfl hg, trivial⟩) rfl (fun _ => ⟨⟨rfl, .tail _ (.tail _ (.head _))⟩, ⟨⟨rfl, .head _⟩, trivial⟩⟩) ?_
      refine jo_pure rfl (pr_pick_and rfl rfl rfl) ?_
      refine jo_pure rfl (pr_move rfl) ?_
      refine jo_gcall (j := 7) (want := true) rfl rfl rfl cal_22 (fun hg => c_law15_awake) (fun hg => trivial) rfl (fun _ => trivial) ?_
      refine jo_pure rfl (pr_pick_and rfl rfl rfl) ?_
      refine jo_pure rfl (pr_assign rfl) ?_
      refine jo_nil ?_
      refine jq_then ?_
      refine jc_ret ?_
      refine j_drop ?_
      refine j_drop ?_
      refine j_drop ?_
      exact jq_ret1 rfl () rfl (show (.bool (true) : Value) = (.bool (((decide (((parseV [([118, 97, 114, 105, 97, 110, 116, 115], formatV l)]).2 : Int) = 0) && decide (l = ((parseV [([118, 97, 114, 105, 97, 110, 116, 115], formatV l)]).1))) && true))) from by rw [hback]; simp) (fun _ h => h)
  · skip
    refine jc_region ?_
    refine jo_pure rfl (pr_move rfl) ?_
    refine jo_callp cal_13 (c_keep_Axes l lv (by first | exact hl | exact hm | exact hll | exact hml | exact hml2 | exact hfl | (simp only [List.length_cons, List.length_nil]; omega)) (by first | exact hl | exact hm | exact hll | exact hml | exact hml2 | exact hfl | (simp only [List.length_cons, List.length_nil]; omega))) ⟨rfl, trivial⟩ rfl (⟨⟨rfl, .head _⟩, trivial⟩) (fun _ => ?_)
    refine jo_pure rfl (pr_not rfl) ?_
    refine jo_pure rfl (pr_move rfl) ?_
    refine jo_skipu (j := 3) (want := false) rfl rfl (by simpa using hz) rfl ?_
    refine jo_skipu (j := 3) (want := false) rfl rfl (by simpa using hz) rfl ?_
    refine jo_skipu (j := 3) (want := false) rfl rfl (by simpa using hz) rfl ?_
    refine jo_pure rfl (pr_pick_t rfl (by simpa using hz) rfl) ?_
    refine jo_nil ?_
    refine jq_then ?_
    refine jc_true rfl (rfl) ?_
    refine jc_seq ?_
    refine jc_region ?_
    refine jo_pure rfl (pr_assign rfl) ?_
    refine jo_nil ?_
    refine jq_then ?_
    refine jc_ret ?_
    refine jq_then_ret ?_
    refine j_drop ?_
    exact jq_ret1 rfl () rfl (show (.bool (true) : Value) = (.bool (true)) from rfl) (fun _ h => h)

theorem c_law15_VariantsSame (axis : List UInt8) (x : List UInt8) (y : List UInt8) (z : List UInt8)  : Con Tryz.prog 9 #[str (axis), str (x), str (y), str (z)] [] (fun _ : Unit => .bool (true)) (fun _ => []) := by
  refine con_of_J (args := [str (axis), str (x), str (y), str (z)]) (n := 86) Tryz.func9 rfl (Nat.le_of_ble_eq_true rfl) rfl (fun w0 I0 m0 => ?_)
  show J _ [(0, str (axis)), (1, str (x)), (2, str (y)), (3, str (z))] [] _
  refine jc_seq ?_
  refine jc_region ?_
  refine jo_pure rfl (pr_assign rfl) ?_
  refine jo_nil ?_
  refine jq_then ?_
  refine jc_seq ?_
  refine jc_seq ?_
  refine jc_region ?_
  refine jo_pure rfl (pr_move rfl) ?_
  refine jo_pure rfl (pr_slen rfl Tryz.underlying9) ?_
  refine jo_pure rfl (pr_gtrN (m := axis.length) (n := 100) rfl rfl) ?_
  refine jo_pure rfl (pr_move rfl) ?_
  refine jo_gpure (j := 3) (want := false) rfl rfl rfl rfl (fun hg => pr_move rfl) ?_
  refine jo_gpure (j := 3) (want := false) rfl rfl rfl rfl (fun hg => pr_slen (evg rfl hg) Tryz.underlying9) ?_
  refine jo_gpure (j := 3) (want := false) rfl rfl rfl rfl (fun hg => pr_gtrN (m := x.length) (n := 100) (evg rfl hg) rfl) ?_
  refine jo_pure rfl (pr_pick_or rfl rfl rfl) ?_
  refine jo_pure rfl (pr_move rfl) ?_
  refine jo_gpure (j := 8) (want := false) rfl rfl rfl rfl (fun hg => pr_move rfl) ?_
  refine jo_gpure (j := 8) (want := false) rfl rfl rfl rfl (fun hg => pr_slen (evg rfl hg) Tryz.underlying9) ?_
  refine jo_gpure (j := 8) (want := false) rfl rfl rfl rfl (fun hg => pr_gtrN (m := y.length) (n := 100) (evg rfl hg) rfl) ?_
  refine jo_pure rfl (pr_pick_or rfl rfl rfl) ?_
  refine jo_pure rfl (pr_move rfl) ?_
  refine jo_gpure (j := 13) (want := false) rfl rfl rfl rfl (fun hg => pr_move rfl) ?_
  refine jo_gpure (j := 13) (want := false) rfl rfl rfl rfl (fun hg => pr_slen (evg rfl hg) Tryz.underlying9) ?_
  refine jo_gpure (j := 13) (want := false) rfl rfl rfl rfl (fun hg => pr_gtrN (m := z.length) (n := 100) (evg rfl hg) rfl) ?_
  refine jo_pure rfl (pr_pick_or rfl rfl rfl) ?_
  refine jo_nil ?_
  refine jq_then ?_
  refine jc_cond rfl (fun h1b => ?_) (fun h1b => ?_)
  · have h1 := (fun q => Or.imp (fun q => Or.imp (fun q => Or.imp of_decide_eq_true of_decide_eq_true (bt_or q)) of_decide_eq_true (bt_or q)) of_decide_eq_true (bt_or q)) h1b
    refine jc_seq ?_
    refine jc_region ?_
    refine jo_pure rfl (pr_assign rfl) ?_
    refine jo_nil ?_
    refine jq_then ?_
    refine jc_ret ?_
    refine jq_then_ret ?_
    exact jq_ret1 rfl () rfl (show (.bool (true) : Value) = (.bool (true)) from rfl) (fun _ h => h)
  · have h1 := (fun q => And.imp (fun q => And.imp (fun q => And.imp of_decide_eq_false of_decide_eq_false (bf_or q)) of_decide_eq_false (bf_or q)) of_decide_eq_false (bf_or q)) h1b
    refine jc_skip ?_
    refine jq_then ?_
    refine jc_seq ?_
    refine jc_seq ?_
    refine jc_region ?_
    refine jo_pure rfl (pr_move rfl) ?_
    refine jo_pure rfl (pr_move rfl) ?_
    refine jo_pure rfl (pr_move rfl) ?_
    refine jo_callp cal_29 (c_variants_Same axis x x (by first | omega | (rw [lower_length]; omega)) (by first | omega | (rw [lower_length]; omega)) (by first | omega | (rw [lower_length]; omega))) ⟨rfl, rfl, rfl, trivial⟩ rfl (trivial) (fun _ => ?_)
    refine jo_pure rfl (pr_not rfl) ?_
    refine jo_pure rfl (pr_move rfl) ?_
    refine jo_gpure (j := 5) (want := false) rfl rfl rfl rfl (fun hg => pr_move rfl) ?_
    refine jo_gpure (j := 5) (want := false) rfl rfl rfl rfl (fun hg => pr_move rfl) ?_
    refine jo_gpure (j := 5) (want := false) rfl rfl rfl rfl (fun hg => pr_move rfl) ?_
    refine jo_gcall (j := 5) (want := false) rfl rfl rfl cal_29 (fun hg => c_variants_Same axis x y (by first | omega | (rw [lower_length]; omega)) (by first | omega | (rw [lower_length]; omega)) (by first | omega | (rw [lower_length]; omega))) (fun hg => ⟨evg rfl hg, evg rfl hg, evg rfl hg, trivial⟩) rfl (fun _ => trivial) ?_
    refine jo_gpure (j := 5) (want := false) rfl rfl rfl rfl (fun hg => pr_move rfl) ?_
    refine jo_gpure (j := 5) (want := false) rfl rfl rfl rfl (fun hg => pr_move rfl) ?_
    refine jo_gpure (j := 5) (want := false) rfl rfl rfl rfl (fun hg => pr_move rfl) ?_
    refine jo_gcall (j := 5) (want := false) rfl rfl rfl cal_29 (fun hg => c_variants_Same axis y x (by first | omega | (rw [lower_length]; omega)) (by first | omega | (rw [lower_length]; omega)) (by first | omega | (rw [lower_length]; omega))) (fun hg => ⟨evg rfl hg, evg rfl hg, evg rfl hg, trivial⟩) rfl (fun _ => trivial) ?_
    refine jo_gpure (j := 5) (want := false) rfl rfl rfl rfl (fun hg => pr_neqb (evg rfl hg) (evg rfl hg) Tryz.underlying4) ?_
    refine jo_pure rfl (pr_pick_or rfl rfl rfl) ?_
    refine jo_pure rfl (pr_move rfl) ?_
    refine jo_gpure (j := 16) (want := false) rfl rfl rfl rfl (fun hg => pr_move rfl) ?_
    refine jo_gpure (j := 16) (want := false) rfl rfl rfl rfl (fun hg => pr_move rfl) ?_
    refine jo_gpure (j := 16) (want := false) rfl rfl rfl rfl (fun hg => pr_move rfl) ?_
    refine jo_gcall (j := 16) (want := false) rfl rfl rfl cal_29 (fun hg => c_variants_Same axis x y (by first | omega | (rw [lower_length]; omega)) (by first | omega | (rw [lower_length]; omega)) (by first | omega | (rw [lower_length]; omega))) (fun hg => ⟨evg rfl hg, evg rfl hg, evg rfl hg, trivial⟩) rfl (fun _ => trivial) ?_
    refine jo_gpure (j := 16) (want := false) rfl rfl rfl rfl (fun hg => pr_move (evg rfl hg)) ?_
    refine jo_gpure2 (j := 21) (want := true) rfl rfl rfl rfl (fun hg => pr_move rfl) ?_
    refine jo_gpure2 (j := 21) (want := true) rfl rfl rfl rfl (fun hg => pr_move rfl) ?_
    refine jo_gpure2 (j := 21) (want := true) rfl rfl rfl rfl (fun hg => pr_move rfl) ?_
    refine jo_gcall2 (j := 21) (want := true) rfl rfl rfl cal_29 (fun hg => c_variants_Same axis y z (by first | omega | (rw [lower_length]; omega)) (by first | omega | (rw [lower_length]; omega)) (by first | omega | (rw [lower_length]; omega))) (fun hg => ⟨evg rfl hg, evg rfl hg, evg rfl hg, trivial⟩) rfl (fun _ => trivial) ?_
    refine jo_gpure (j := 16) (want := false) rfl rfl rfl rfl (fun hg => pr_pick_and (evg rfl hg) (evg2 rfl hg) rfl) ?_
    refine jo_gpure (j := 16) (want := false) rfl rfl rfl rfl (fun hg => pr_move (evg rfl hg)) ?_
    refine jo_gpure2 (j := 27) (want := true) rfl rfl rfl rfl (fun hg => pr_move rfl) ?_
    refine jo_gpure2 (j := 27) (want := true) rfl rfl rfl rfl (fun hg => pr_move rfl) ?_
    refine jo_gpure2 (j := 27) (want := true) rfl rfl rfl rfl (fun hg => pr_move rfl) ?_
    refine jo_gcall2 (j := 27) (want := true) rfl rfl rfl cal_29 (fun hg => c_variants_Same axis x z (by first | omega | (rw [lower_length]; omega)) (by first | omega | (rw [lower_length]; omega)) (by first | omega | (rw [lower_length]; omega))) (fun hg => ⟨evg rfl hg, evg rfl hg, evg rfl hg, trivial⟩) rfl (fun _ => trivial) ?_
    refine jo_gpure2 (j := 27) (want := true) rfl rfl rfl rfl (fun hg => pr_not (evg rfl hg)) ?_
    refine jo_gpure (j := 16) (want := false) rfl rfl rfl rfl (fun hg => pr_pick_and (evg rfl hg) (evg2 rfl hg) rfl) ?_
    refine jo_pure rfl (pr_pick_or rfl rfl rfl) ?_
    refine jo_nil ?_
    refine jq_then ?_
    refine jc_cond rfl (fun h2b => ?_) (fun h2b => ?_)
    · have h2 := (fun q => Or.imp (fun q => Or.imp (fun q => id (bt_not q)) id (bt_or q)) (fun q => And.imp (fun q => And.imp id id (bt_and q)) (fun q => id (bt_not q)) (bt_and q)) (bt_or q)) h2b
      exact absurd h2b (by rw [same_law]; simp)
    · have h2 := (fun q => And.imp (fun q => And.imp (fun q => id (bf_not q)) id (bf_or q)) (fun q => Or.imp (fun q => Or.imp id id (bf_and q)) (fun q => id (bf_not q)) (bf_and q)) (bf_or q)) h2b
      refine jc_skip ?_
      refine jq_then ?_
      refine jc_seq ?_
      refine jc_region ?_
      refine jo_pure rfl (pr_move rfl) ?_
      refine jo_callp cal_31 (c_ref01_Lower x (by first | omega | (rw [lower_length]; omega))) ⟨rfl, trivial⟩ rfl (trivial) (fun _ => ?_)
      refine jo_pure rfl (pr_assign rfl) ?_
      refine jo_nil ?_
      refine jq_then ?_
      refine jc_seq ?_
      refine jc_region ?_
      refine jo_pure rfl (pr_move rfl) ?_
      refine jo_callp cal_32 (c_ref10_Kind axis (by first | omega | (rw [lower_length]; omega))) ⟨rfl, trivial⟩ rfl (trivial) (fun _ => ?_)
      refine jo_pure rfl (pr_eql (n := 0) rfl rfl) ?_
      refine jo_pure rfl (pr_move rfl) ?_
      refine jo_gpure (j := 3) (want := false) rfl rfl rfl rfl (fun hg => pr_move rfl) ?_
      refine jo_gpure (j := 3) (want := false) rfl rfl rfl rfl (fun hg => pr_move rfl) ?_
      refine jo_gpure (j := 3) (want := false) rfl rfl rfl rfl (fun hg => pr_move rfl) ?_
      refine jo_gcall (j := 3) (want := false) rfl rfl rfl cal_29 (fun hg => c_variants_Same axis x (lower x) (by first | omega | (rw [lower_length]; omega)) (by first | omega | (rw [lower_length]; omega)) (by first | omega | (rw [lower_length]; omega))) (fun hg => ⟨evg rfl hg, evg rfl hg, evg rfl hg, trivial⟩) rfl (fun _ => trivial) ?_
      refine jo_gpure (j := 3) (want := false) rfl rfl rfl rfl (fun hg => pr_move (evg rfl hg)) ?_
      refine jo_gpure2 (j := 8) (want := true) rfl rfl rfl rfl (fun hg => pr_move rfl) ?_
      refine jo_gpure2 (j := 8) (want := true) rfl rfl rfl rfl (fun hg => pr_move rfl) ?_
      refine jo_gcall2 (j := 8) (want := true) rfl rfl rfl cal_27 (fun hg => c_variants_Value axis x (by first | omega | (rw [lower_length]; omega)) (by first | omega | (rw [lower_length]; omega))) (fun hg => ⟨evg rfl hg, evg rfl hg, trivial⟩) rfl (fun _ => trivial) ?_
      refine jo_gpure2 (j := 8) (want := true) rfl rfl rfl rfl (fun hg => pr_move rfl) ?_
      refine jo_gpure2 (j := 8) (want := true) rfl rfl rfl rfl (fun hg => pr_move rfl) ?_
      refine jo_gcall2 (j := 8) (want := true) rfl rfl rfl cal_27 (fun hg => c_variants_Value axis (lower x) (by first | omega | (rw [lower_length]; omega)) (by first | omega | (rw [lower_length]; omega))) (fun hg => ⟨evg rfl hg, evg rfl hg, trivial⟩) rfl (fun _ => trivial) ?_
      refine jo_gpure2 (j := 8) (want := true) rfl rfl rfl rfl (fun hg => pr_eqlb (evg rfl hg) (evg rfl hg) Tryz.underlying4) ?_
      refine jo_gpure (j := 3) (want := false) rfl rfl rfl rfl (fun hg => pr_pick_and (evg rfl hg) (evg2 rfl hg) rfl) ?_
      refine jo_pure rfl (pr_pick_or rfl rfl rfl) ?_
      refine jo_pure rfl (pr_move rfl) ?_
      refine jo_gcall (j := 18) (want := true) rfl rfl rfl cal_22 (fun hg => c_law15_awake) (fun hg => trivial) rfl (fun _ => trivial) ?_
      refine jo_pure rfl (pr_pick_and rfl rfl rfl) ?_
      refine jo_pure rfl (pr_assign rfl) ?_
      refine jo_nil ?_
      refine jq_then ?_
      refine jc_ret ?_
      exact jq_ret1 rfl () rfl (show (.bool (true) : Value) = (.bool (((decide ((kindF axis : Int) = 0) || (sameF axis x (lower x) && (valueF axis x == valueF axis (lower x)))) && true))) from congrArg Value.bool (by rw [same_law2]; rfl)) (fun _ h => h)
end Go.Proofs.YtgahnjchpomcfaaGreatDoor
