/-
  Contracts of functions of the program: each returns what a plain function says, for every input within the bounds named. Conditions: the bounds.
-/
import Derived.Test.YtikllmfjgpmcnaaDoorRows
import Derived.Test.YtikllmfjgpmcnaaDoorL8
namespace Go.Proofs.YtikllmfjgpmcnaaDoor
open Go Go.Sep
set_option linter.unusedSimpArgs false
set_option linter.unusedVariables false

open Go.Plain

theorem cal_11 : Cal Tryd.prog 11 := cal_of Tryd.func11 (by kernel_rfl) rfl
theorem cal_18 : Cal Tryd.prog 18 := cal_of Tryd.func18 (by kernel_rfl) rfl
theorem cal_55 : Cal Tryd.prog 55 := cal_of Tryd.func55 (by kernel_rfl) rfl
theorem cal_56 : Cal Tryd.prog 56 := cal_of Tryd.func56 (by kernel_rfl) rfl
theorem cal_57 : Cal Tryd.prog 57 := cal_of Tryd.func57 (by kernel_rfl) rfl
theorem cal_58 : Cal Tryd.prog 58 := cal_of Tryd.func58 (by kernel_rfl) rfl
theorem cal_87 : Cal Tryd.prog 87 := cal_of Tryd.func87 (by kernel_rfl) rfl
theorem cal_88 : Cal Tryd.prog 88 := cal_of Tryd.func88 (by kernel_rfl) rfl
theorem cal_89 : Cal Tryd.prog 89 := cal_of Tryd.func89 (by kernel_rfl) rfl
theorem cal_91 : Cal Tryd.prog 91 := cal_of Tryd.func91 (by kernel_rfl) rfl
theorem ty_45 : TyF Tryd.prog 45 true 2 24 (some (.agg #[str ([]), .int .i64 ((0 : Nat) : Int)])) := ⟨by kernel_rfl, by kernel_rfl⟩
theorem ty_104 : TyF Tryd.prog 104 false 1 8 (some (.nilFunc)) := ⟨by kernel_rfl, by kernel_rfl⟩

theorem c_accept_Name (kind : Int)  : Con Tryd.prog 11 #[.int .i64 (kind)] [] (fun _ : Unit => str (nameK kind)) (fun _ => []) := by
  refine con_of_J (args := [.int .i64 (kind)]) (n := 12) Tryd.func11 rfl (Nat.le_of_ble_eq_true rfl) rfl (fun w0 I0 m0 => ?_)
  show J _ [(0, .int .i64 (kind))] [] _
  refine jc_seq ?_
  refine jc_region ?_
  refine jo_pure rfl (pr_assign rfl) ?_
  refine jo_nil ?_
  refine jq_then ?_
  refine jc_seq ?_
  refine jc_seq ?_
  refine jc_region ?_
  refine jo_pure rfl (pr_move rfl) ?_
  refine jo_nil ?_
  refine jq_then ?_
  refine jc_block ?_
  refine jc_seq ?_
  refine jc_region ?_
  refine jo_pure rfl (pr_eql (n := 1) rfl rfl) ?_
  refine jo_pure rfl (pr_assign rfl) ?_
  refine jo_nil ?_
  refine jq_then ?_
  refine jc_cond rfl (fun h1b => ?_) (fun h1b => ?_)
  · have h1 := of_decide_eq_true h1b
    refine jc_seq ?_
    refine jc_region ?_
    refine jo_pure rfl (pr_assign rfl) ?_
    refine jo_nil ?_
    refine jq_then ?_
    refine jc_ret ?_
    refine jq_in_ret ?_
    refine jq_then_ret ?_
    exact jq_ret1 rfl () rfl (show (str (nameK kind) : Value) = (str ([65, 99, 99, 101, 112, 116])) from congrArg str (by simp [nameK, *])) (fun _ h => h)
  · have h1 := of_decide_eq_false h1b
    refine jc_seq ?_
    refine jc_region ?_
    refine jo_pure rfl (pr_eql (n := 2) rfl rfl) ?_
    refine jo_pure rfl (pr_assign rfl) ?_
    refine jo_nil ?_
    refine jq_then ?_
    refine jc_cond rfl (fun h2b => ?_) (fun h2b => ?_)
    · have h2 := of_decide_eq_true h2b
      refine jc_seq ?_
      refine jc_region ?_
      refine jo_pure rfl (pr_assign rfl) ?_
      refine jo_nil ?_
      refine jq_then ?_
      refine jc_ret ?_
      refine jq_in_ret ?_
      refine jq_then_ret ?_
      exact jq_ret1 rfl () rfl (show (str (nameK kind) : Value) = (str ([65, 99, 99, 101, 112, 116, 45, 76, 97, 110, 103, 117, 97, 103, 101])) from congrArg str (by simp [nameK, *])) (fun _ h => h)
    · have h2 := of_decide_eq_false h2b
      refine jc_seq ?_
      refine jc_region ?_
      refine jo_pure rfl (pr_eql (n := 3) rfl rfl) ?_
      refine jo_pure rfl (pr_assign rfl) ?_
      refine jo_nil ?_
      refine jq_then ?_
      refine jc_cond rfl (fun h3b => ?_) (fun h3b => ?_)
      · have h3 := of_decide_eq_true h3b
        refine jc_seq ?_
        refine jc_region ?_
        refine jo_pure rfl (pr_assign rfl) ?_
        refine jo_nil ?_
        refine jq_then ?_
        refine jc_ret ?_
        refine jq_in_ret ?_
        refine jq_then_ret ?_
        exact jq_ret1 rfl () rfl (show (str (nameK kind) : Value) = (str ([65, 99, 99, 101, 112, 116, 45, 67, 104, 97, 114, 115, 101, 116])) from congrArg str (by simp [nameK, *])) (fun _ h => h)
      · have h3 := of_decide_eq_false h3b
        refine jc_seq ?_
        refine jc_region ?_
        refine jo_pure rfl (pr_eql (n := 4) rfl rfl) ?_
        refine jo_pure rfl (pr_assign rfl) ?_
        refine jo_nil ?_
        refine jq_then ?_
        refine jc_cond rfl (fun h4b => ?_) (fun h4b => ?_)
        · have h4 := of_decide_eq_true h4b
          refine jc_seq ?_
          refine jc_region ?_
          refine jo_pure rfl (pr_assign rfl) ?_
          refine jo_nil ?_
          refine jq_then ?_
          refine jc_ret ?_
          refine jq_in_ret ?_
          refine jq_then_ret ?_
          exact jq_ret1 rfl () rfl (show (str (nameK kind) : Value) = (str ([65, 99, 99, 101, 112, 116, 45, 69, 110, 99, 111, 100, 105, 110, 103])) from congrArg str (by simp [nameK, *])) (fun _ h => h)
        · have h4 := of_decide_eq_false h4b
          refine jc_skip ?_
          refine jq_in_normal ?_
          refine jq_then ?_
          refine jc_seq ?_
          refine jc_region ?_
          refine jo_pure rfl (pr_assign rfl) ?_
          refine jo_nil ?_
          refine jq_then ?_
          refine jc_ret ?_
          exact jq_ret1 rfl () rfl (show (str (nameK kind) : Value) = (str ([])) from congrArg str (by simp [nameK, *])) (fun _ h => h)

theorem c_ref10_Name (kind : Int)  : Con Tryd.prog 18 #[.int .i64 (kind)] [] (fun _ : Unit => str (nameK kind)) (fun _ => []) := by
  refine con_of_J (args := [.int .i64 (kind)]) (n := 12) Tryd.func18 rfl (Nat.le_of_ble_eq_true rfl) rfl (fun w0 I0 m0 => ?_)
  show J _ [(0, .int .i64 (kind))] [] _
  refine jc_seq ?_
  refine jc_region ?_
  refine jo_pure rfl (pr_assign rfl) ?_
  refine jo_nil ?_
  refine jq_then ?_
  refine jc_seq ?_
  refine jc_seq ?_
  refine jc_region ?_
  refine jo_pure rfl (pr_move rfl) ?_
  refine jo_nil ?_
  refine jq_then ?_
  refine jc_block ?_
  refine jc_seq ?_
  refine jc_region ?_
  refine jo_pure rfl (pr_eql (n := 1) rfl rfl) ?_
  refine jo_pure rfl (pr_assign rfl) ?_
  refine jo_nil ?_
  refine jq_then ?_
  refine jc_cond rfl (fun h1b => ?_) (fun h1b => ?_)
  · have h1 := of_decide_eq_true h1b
    refine jc_seq ?_
    refine jc_region ?_
    refine jo_pure rfl (pr_assign rfl) ?_
    refine jo_nil ?_
    refine jq_then ?_
    refine jc_ret ?_
    refine jq_in_ret ?_
    refine jq_then_ret ?_
    exact jq_ret1 rfl () rfl (show (str (nameK kind) : Value) = (str ([65, 99, 99, 101, 112, 116])) from congrArg str (by simp [nameK, *])) (fun _ h => h)
  · have h1 := of_decide_eq_false h1b
    refine jc_seq ?_
    refine jc_region ?_
    refine jo_pure rfl (pr_eql (n := 2) rfl rfl) ?_
    refine jo_pure rfl (pr_assign rfl) ?_
    refine jo_nil ?_
    refine jq_then ?_
    refine jc_cond rfl (fun h2b => ?_) (fun h2b => ?_)
    · have h2 := of_decide_eq_true h2b
      refine jc_seq ?_
      refine jc_region ?_
      refine jo_pure rfl (pr_assign rfl) ?_
      refine jo_nil ?_
      refine jq_then ?_
      refine jc_ret ?_
      refine jq_in_ret ?_
      refine jq_then_ret ?_
      exact jq_ret1 rfl () rfl (show (str (nameK kind) : Value) = (str ([65, 99, 99, 101, 112, 116, 45, 76, 97, 110, 103, 117, 97, 103, 101])) from congrArg str (by simp [nameK, *])) (fun _ h => h)
    · have h2 := of_decide_eq_false h2b
      refine jc_seq ?_
      refine jc_region ?_
      refine jo_pure rfl (pr_eql (n := 3) rfl rfl) ?_
      refine jo_pure rfl (pr_assign rfl) ?_
      refine jo_nil ?_
      refine jq_then ?_
      refine jc_cond rfl (fun h3b => ?_) (fun h3b => ?_)
      · have h3 := of_decide_eq_true h3b
        refine jc_seq ?_
        refine jc_region ?_
        refine jo_pure rfl (pr_assign rfl) ?_
        refine jo_nil ?_
        refine jq_then ?_
        refine jc_ret ?_
        refine jq_in_ret ?_
        refine jq_then_ret ?_
        exact jq_ret1 rfl () rfl (show (str (nameK kind) : Value) = (str ([65, 99, 99, 101, 112, 116, 45, 67, 104, 97, 114, 115, 101, 116])) from congrArg str (by simp [nameK, *])) (fun _ h => h)
      · have h3 := of_decide_eq_false h3b
        refine jc_seq ?_
        refine jc_region ?_
        refine jo_pure rfl (pr_eql (n := 4) rfl rfl) ?_
        refine jo_pure rfl (pr_assign rfl) ?_
        refine jo_nil ?_
        refine jq_then ?_
        refine jc_cond rfl (fun h4b => ?_) (fun h4b => ?_)
        · have h4 := of_decide_eq_true h4b
          refine jc_seq ?_
          refine jc_region ?_
          refine jo_pure rfl (pr_assign rfl) ?_
          refine jo_nil ?_
          refine jq_then ?_
          refine jc_ret ?_
          refine jq_in_ret ?_
          refine jq_then_ret ?_
          exact jq_ret1 rfl () rfl (show (str (nameK kind) : Value) = (str ([65, 99, 99, 101, 112, 116, 45, 69, 110, 99, 111, 100, 105, 110, 103])) from congrArg str (by simp [nameK, *])) (fun _ h => h)
        · have h4 := of_decide_eq_false h4b
          refine jc_skip ?_
          refine jq_in_normal ?_
          refine jq_then ?_
          refine jc_seq ?_
          refine jc_region ?_
          refine jo_pure rfl (pr_assign rfl) ?_
          refine jo_nil ?_
          refine jq_then ?_
          refine jc_ret ?_
          exact jq_ret1 rfl () rfl (show (str (nameK kind) : Value) = (str ([])) from congrArg str (by simp [nameK, *])) (fun _ h => h)

theorem c_accept_Kind (name : List UInt8) (hn : name.length ≤ 1000000) : Con Tryd.prog 16 #[str (name)] [] (fun _ : Unit => .int .i64 (kindF name)) (fun _ => []) := by
  refine con_of_J (args := [str (name)]) (n := 13) Tryd.func16 rfl (Nat.le_of_ble_eq_true rfl) rfl (fun w0 I0 m0 => ?_)
  show J _ [(0, str (name))] [] _
  refine jc_seq ?_
  refine jc_region ?_
  refine jo_pure rfl (pr_assign rfl) ?_
  refine jo_nil ?_
  refine jq_then ?_
  refine jc_seq ?_
  refine jc_seq ?_
  refine jc_region ?_
  refine jo_pure rfl (pr_assign rfl) ?_
  refine jo_nil ?_
  refine jq_then ?_
  refine jc_block ?_
  refine jc_loop (fun (k : Nat) => [(0, str (name)), (3, .int .i64 ((k : Nat) : Int))]) (fun (k : Nat) => []) (fun (k : Nat) => 1 ≤ k ∧ k ≤ 5 ∧ ∀ j : Nat, 1 ≤ j → j < k → fold name (nameK (j : Int)) = false) (fun (k : Nat) => 5 - k) 1 (⟨Nat.le_refl _, by omega, fun j a b => absurd a (by omega)⟩) (⟨rfl, rfl, trivial⟩) (fun _ h => h) (fun k hinv => ?_)
  refine jc_seq ?_
  refine jc_seq ?_
  refine jc_region ?_
  refine jo_pure rfl (pr_move rfl) ?_
  refine jo_pure rfl (pr_leqN (m := k) (n := 4) rfl rfl) ?_
  refine jo_nil ?_
  refine jq_then ?_
  refine jc_cond rfl (fun h1b => ?_) (fun h1b => ?_)
  · have h1 := of_decide_eq_true h1b
    refine jc_skip ?_
    refine jq_then ?_
    refine jc_seq ?_
    refine jc_block ?_
    refine jc_seq ?_
    refine jc_region ?_
    refine jo_pure rfl (pr_move rfl) ?_
    refine jo_pure rfl (pr_move rfl) ?_
    refine jo_callp cal_11 (c_accept_Name ((k : Nat) : Int)) ⟨rfl, trivial⟩ rfl (trivial) (fun _ => ?_)
    refine jo_callp cal_34 (c_ascii_Fold name (nameK ((k : Nat) : Int)) (by first | omega | (have := nameK_length ((k : Nat) : Int); omega)) (by first | omega | (have := nameK_length ((k : Nat) : Int); omega))) ⟨rfl, rfl, trivial⟩ rfl (trivial) (fun _ => ?_)
    refine jo_nil ?_
    refine jq_then ?_
    refine jc_cond rfl (fun h2b => ?_) (fun h2b => ?_)
    · have h2 := id h2b
      refine jc_seq ?_
      refine jc_region ?_
      refine jo_pure rfl (pr_move rfl) ?_
      refine jo_pure rfl (pr_assign rfl) ?_
      refine jo_nil ?_
      refine jq_then ?_
      refine jc_ret ?_
      refine jq_in_ret ?_
      refine jq_then_ret ?_
      refine jq_then_ret ?_
      refine jq_in_ret ?_
      refine jq_then_ret ?_
      exact jq_ret1 rfl () rfl (show (.int .i64 (kindF name) : Value) = (.int .i64 ((k : Nat) : Int)) from congrArg (Value.int .i64) (by rw [kindF_hit hinv.1 (by omega) hinv.2.2 (by simpa using h2b)])) (fun _ h => h)
    · have h2 := id h2b
      refine jc_skip ?_
      refine jq_in_normal ?_
      refine jq_then ?_
      refine jc_region ?_
      refine jo_pure rfl (pr_move rfl) ?_
      refine jo_pure rfl (pr_addN (m := k) (n := 1) rfl rfl (by omega)) ?_
      refine jo_pure rfl (pr_assign rfl) ?_
      refine jo_nil ?_
      refine jq_round' (k + 1) (by (try dsimp only); exact (⟨by omega, by omega, fun j a b => by rcases Nat.lt_or_ge j k with q | q; exact hinv.2.2 j a q; have e : j = k := (by omega); rw [e]; simpa using h2b⟩)) (by (try dsimp only); exact (by omega)) ⟨rfl, rfl, trivial⟩ (fun _ h => h)
  · have h1 := of_decide_eq_false h1b
    refine jc_exit ?_
    refine jq_then_exit ?_
    refine jq_then_exit ?_
    refine jq_in_hit ?_
    refine jq_then ?_
    refine jc_seq ?_
    refine jc_region ?_
    refine jo_pure rfl (pr_assign rfl) ?_
    refine jo_nil ?_
    refine jq_then ?_
    refine jc_ret ?_
    exact jq_ret1 rfl () rfl (show (.int .i64 (kindF name) : Value) = (.int .i64 ((0 : Nat) : Int)) from congrArg (Value.int .i64) (by rw [kindF_none (by omega) hinv.2.2]; rfl)) (fun _ h => h)

theorem c_ref10_Kind (name : List UInt8) (hn : name.length ≤ 1000000) : Con Tryd.prog 17 #[str (name)] [] (fun _ : Unit => .int .i64 (kindF name)) (fun _ => []) := by
  refine con_of_J (args := [str (name)]) (n := 13) Tryd.func17 rfl (Nat.le_of_ble_eq_true rfl) rfl (fun w0 I0 m0 => ?_)
  show J _ [(0, str (name))] [] _
  refine jc_seq ?_
  refine jc_region ?_
  refine jo_pure rfl (pr_assign rfl) ?_
  refine jo_nil ?_
  refine jq_then ?_
  refine jc_seq ?_
  refine jc_seq ?_
  refine jc_region ?_
  refine jo_pure rfl (pr_assign rfl) ?_
  refine jo_nil ?_
  refine jq_then ?_
  refine jc_block ?_
  refine jc_loop (fun (k : Nat) => [(0, str (name)), (3, .int .i64 ((k : Nat) : Int))]) (fun (k : Nat) => []) (fun (k : Nat) => 1 ≤ k ∧ k ≤ 5 ∧ ∀ j : Nat, 1 ≤ j → j < k → fold name (nameK (j : Int)) = false) (fun (k : Nat) => 5 - k) 1 (⟨Nat.le_refl _, by omega, fun j a b => absurd a (by omega)⟩) (⟨rfl, rfl, trivial⟩) (fun _ h => h) (fun k hinv => ?_)
  refine jc_seq ?_
  refine jc_seq ?_
  refine jc_region ?_
  refine jo_pure rfl (pr_move rfl) ?_
  refine jo_pure rfl (pr_leqN (m := k) (n := 4) rfl rfl) ?_
  refine jo_nil ?_
  refine jq_then ?_
  refine jc_cond rfl (fun h1b => ?_) (fun h1b => ?_)
  · have h1 := of_decide_eq_true h1b
    refine jc_skip ?_
    refine jq_then ?_
    refine jc_seq ?_
    refine jc_block ?_
    refine jc_seq ?_
    refine jc_region ?_
    refine jo_pure rfl (pr_move rfl) ?_
    refine jo_pure rfl (pr_move rfl) ?_
    refine jo_callp cal_18 (c_ref10_Name ((k : Nat) : Int)) ⟨rfl, trivial⟩ rfl (trivial) (fun _ => ?_)
    refine jo_callp cal_35 (c_ref01_Fold name (nameK ((k : Nat) : Int)) (by first | omega | (have := nameK_length ((k : Nat) : Int); omega)) (by first | omega | (have := nameK_length ((k : Nat) : Int); omega))) ⟨rfl, rfl, trivial⟩ rfl (trivial) (fun _ => ?_)
    refine jo_nil ?_
    refine jq_then ?_
    refine jc_cond rfl (fun h2b => ?_) (fun h2b => ?_)
    · have h2 := id h2b
      refine jc_seq ?_
      refine jc_region ?_
      refine jo_pure rfl (pr_move rfl) ?_
      refine jo_pure rfl (pr_assign rfl) ?_
      refine jo_nil ?_
      refine jq_then ?_
      refine jc_ret ?_
      refine jq_in_ret ?_
      refine jq_then_ret ?_
      refine jq_then_ret ?_
      refine jq_in_ret ?_
      refine jq_then_ret ?_
      exact jq_ret1 rfl () rfl (show (.int .i64 (kindF name) : Value) = (.int .i64 ((k : Nat) : Int)) from congrArg (Value.int .i64) (by rw [kindF_hit hinv.1 (by omega) hinv.2.2 (by simpa using h2b)])) (fun _ h => h)
    · have h2 := id h2b
      refine jc_skip ?_
      refine jq_in_normal ?_
      refine jq_then ?_
      refine jc_region ?_
      refine jo_pure rfl (pr_move rfl) ?_
      refine jo_pure rfl (pr_addN (m := k) (n := 1) rfl rfl (by omega)) ?_
      refine jo_pure rfl (pr_assign rfl) ?_
      refine jo_nil ?_
      refine jq_round' (k + 1) (by (try dsimp only); exact (⟨by omega, by omega, fun j a b => by rcases Nat.lt_or_ge j k with q | q; exact hinv.2.2 j a q; have e : j = k := (by omega); rw [e]; simpa using h2b⟩)) (by (try dsimp only); exact (by omega)) ⟨rfl, rfl, trivial⟩ (fun _ h => h)
  · have h1 := of_decide_eq_false h1b
    refine jc_exit ?_
    refine jq_then_exit ?_
    refine jq_then_exit ?_
    refine jq_in_hit ?_
    refine jq_then ?_
    refine jc_seq ?_
    refine jc_region ?_
    refine jo_pure rfl (pr_assign rfl) ?_
    refine jo_nil ?_
    refine jq_then ?_
    refine jc_ret ?_
    exact jq_ret1 rfl () rfl (show (.int .i64 (kindF name) : Value) = (.int .i64 ((0 : Nat) : Int)) from congrArg (Value.int .i64) (by rw [kindF_none (by omega) hinv.2.2]; rfl)) (fun _ h => h)

theorem c_accept_pref_1 (p : (List UInt8) × (List UInt8))  : Con Tryd.prog 56 #[.agg #[str (p.1), str (p.2)]] [] (fun _ : Unit => .bool (decide (p.1 = [113]))) (fun _ => []) := by
  refine con_of_J (args := [.agg #[str (p.1), str (p.2)]]) (n := 6) Tryd.func56 rfl (Nat.le_of_ble_eq_true rfl) rfl (fun w0 I0 m0 => ?_)
  show J _ [(0, .agg #[str (p.1), str (p.2)])] [] _
  refine jc_seq ?_
  refine jc_region ?_
  refine jo_box rfl [str (p.1), str (p.2)] rfl rfl (fun b1 => ?_)
  refine jo_pure rfl (pr_assign rfl) ?_
  refine jo_nil ?_
  refine jq_then ?_
  refine jc_seq ?_
  refine jc_region ?_
  refine jo_pure rfl (pr_fieldAddr 0 rfl Tryd.underlying78 rfl ty_9 rfl rfl) ?_
  refine jo_pure rfl (pr_load_box (str (p.1)) rfl ty_9 (.head _) rfl (by decide) rfl) ?_
  refine jo_pure rfl (pr_seql rfl rfl) ?_
  refine jo_pure rfl (pr_assign rfl) ?_
  refine jo_nil ?_
  refine jq_then ?_
  refine jc_ret ?_
  refine j_drop ?_
  exact jq_ret1 rfl () rfl (show (.bool (decide (p.1 = [113])) : Value) = (.bool (decide ((p.1 : List UInt8) = [113]))) from rfl) (fun _ h => h)

theorem c_indexFunc (l : List ((List UInt8) × (List UInt8))) (lv : Value) (hl : l.length ≤ 1000000) : Con Tryd.prog 55 #[lv, .func (.func 56) #[] #[]] [.imm (.list (.pair .str .str)) (lv) (l)] (fun _ : Unit => .int .i64 (idxQ l)) (fun _ => []) := by
  refine con_of_J (args := [lv, .func (.func 56) #[] #[]]) (n := 19) Tryd.func55 rfl (Nat.le_of_ble_eq_true rfl) rfl (fun w0 I0 m0 => ?_)
  show J _ [(0, lv), (1, .func (.func 56) #[] #[])] [.imm (.list (.pair .str .str)) (lv) (l)] _
  refine jc_seq ?_
  refine jc_region ?_
  refine jo_pure rfl (pr_assign rfl) ?_
  refine jo_nil ?_
  refine jq_then ?_
  refine jc_seq ?_
  refine jc_seq ?_
  refine jc_region ?_
  refine jo_pure rfl (pr_move rfl) ?_
  refine jo_pure rfl (pr_len_imm rfl (.head _) Tryd.underlying62) ?_
  refine jo_pure rfl (pr_move rfl) ?_
  refine jo_nil ?_
  refine jq_then ?_
  refine jc_block ?_
  refine jc_loop (fun (i : Nat) => [(0, lv), (1, .func (.func 56) #[] #[]), (7, .int .i64 ((l.length : Nat) : Int)), (8, .int .i64 ((i : Nat) : Int))]) (fun (i : Nat) => [.imm (.list (.pair .str .str)) (lv) (l)]) (fun (i : Nat) => i ≤ l.length ∧ i + qAt (l.drop i) = qAt l) (fun (i : Nat) => l.length - i) 0 (⟨Nat.zero_le _, by rw [List.drop_zero, Nat.zero_add]⟩) (⟨rfl, rfl, rfl, rfl, trivial⟩) (fun _ h => h) (fun i hinv => ?_)
  refine jc_seq ?_
  refine jc_region ?_
  refine jo_pure rfl (pr_lssN (m := i) (n := l.length) rfl rfl) ?_
  refine jo_nil ?_
  refine jq_then ?_
  refine jc_seq ?_
  refine jc_cond rfl (fun h1b => ?_) (fun h1b => ?_)
  · have h1 := of_decide_eq_true h1b
    refine jc_skip ?_
    refine jq_then ?_
    refine jc_seq ?_
    refine jc_block ?_
    refine jc_seq ?_
    refine jc_region ?_
    refine jo_pure rfl (pr_move rfl) ?_
    refine jo_pure rfl (pr_assign rfl) ?_
    refine jo_nil ?_
    refine jq_then ?_
    refine jc_seq ?_
    refine jc_region ?_
    refine jo_pure rfl (pr_move rfl) ?_
    refine jo_pure rfl (pr_move rfl) ?_
    refine jo_pure rfl (pr_move rfl) ?_
    refine jo_pure rfl (pr_idx_imm (i := i) rfl (.head _) rfl Tryd.underlying62 ty_78 (by omega)) ?_
    refine jo_pure rfl (pr_load_elem_imm (i := i) (.agg #[str ((l.getD i ([], [])).1), str ((l.getD i ([], [])).2)]) rfl (.head _) ty_78 rfl rfl (by omega) rfl) ?_
    refine jo_callvp (fi := []) (vs := [.agg #[str ((l.getD i ([], [])).1), str ((l.getD i ([], [])).2)]]) (ca := []) rfl cal_56 (c_accept_pref_1 (l.getD i ([], []))) ⟨rfl, trivial⟩ rfl (trivial) (fun _ => ?_)
    refine jo_nil ?_
    refine jq_then ?_
    refine jc_cond rfl (fun h2b => ?_) (fun h2b => ?_)
    · have h2 := id h2b
      refine jc_seq ?_
      refine jc_region ?_
      refine jo_pure rfl (pr_move rfl) ?_
      refine jo_pure rfl (pr_assign rfl) ?_
      refine jo_nil ?_
      refine jq_then ?_
      refine jc_ret ?_
      refine jq_in_ret ?_
      refine jq_then_ret ?_
      refine jq_then_ret ?_
      refine jq_in_ret ?_
      refine jq_then_ret ?_
      refine j_drop ?_
      exact jq_ret1 rfl () rfl (show (.int .i64 (idxQ l) : Value) = (.int .i64 ((i : Nat) : Int)) from congrArg (Value.int .i64) (by have e := qAt_hit h1 (of_decide_eq_true h2) hinv.2; rw [idxQ_found (by omega), e])) (fun _ h => h)
    · have h2 := id h2b
      refine jc_skip ?_
      refine jq_in_normal ?_
      refine jq_then ?_
      refine jc_region ?_
      refine jo_pure rfl (pr_addN (m := i) (n := 1) rfl rfl (by omega)) ?_
      refine jo_pure rfl (pr_move rfl) ?_
      refine jo_nil ?_
      refine jq_round' (i + 1) (by (try dsimp only); exact (⟨by omega, qAt_miss h1 (of_decide_eq_false h2) hinv.2⟩)) (by (try dsimp only); exact (by omega)) ⟨rfl, rfl, rfl, rfl, trivial⟩ (fun _ h => h)
  · have h1 := of_decide_eq_false h1b
    refine jc_exit ?_
    refine jq_then_exit ?_
    refine jq_then_exit ?_
    refine jq_in_hit ?_
    refine jq_then ?_
    refine jc_seq ?_
    refine jc_region ?_
    refine jo_pure rfl (pr_assign rfl) ?_
    refine jo_nil ?_
    refine jq_then ?_
    refine jc_ret ?_
    refine j_drop ?_
    exact jq_ret1 rfl () rfl (show (.int .i64 (idxQ l) : Value) = (.int .i64 (-1)) from congrArg (Value.int .i64) (by rw [idxQ_none (qAt_end (by omega) hinv.2)])) (fun _ h => h)

theorem c_accept_ranged_1 (value : List UInt8) (valueb : Nat) (ps : List ((List UInt8) × (List UInt8))) (psv : Value) (psb : Nat) (hv : value.length ≤ 300000) (hl : ps.length ≤ 1000000) (hm : ∀ x ∈ ps, x.1.length ≤ 1000000 ∧ x.2.length ≤ 1000000) : Con Tryd.prog 87 #[.pointer (some ⟨valueb, 0, none⟩), .pointer (some ⟨psb, 0, none⟩)] [.ibox valueb 9 [str (value)], .imm (.list (.pair .str .str)) (psv) (ps), .ibox psb 62 [psv]] (fun _ : Unit => .tuple #[str (formatT ((parseR value).1.1, (parseR value).1.2.1, ps)), .bool ((parseR value).2)]) (fun _ => []) := by
  refine con_of_J (args := [.pointer (some ⟨valueb, 0, none⟩), .pointer (some ⟨psb, 0, none⟩)]) (n := 16) Tryd.func87 rfl (Nat.le_of_ble_eq_true rfl) rfl (fun w0 I0 m0 => ?_)
  show J _ [(0, .pointer (some ⟨valueb, 0, none⟩)), (1, .pointer (some ⟨psb, 0, none⟩))] [.ibox valueb 9 [str (value)], .imm (.list (.pair .str .str)) (psv) (ps), .ibox psb 62 [psv]] _
  refine jc_seq ?_
  refine jc_region ?_
  refine jo_pure rfl (pr_assign rfl) ?_
  refine jo_pure rfl (pr_assign rfl) ?_
  refine jo_nil ?_
  refine jq_then ?_
  refine jc_seq ?_
  refine jc_region ?_
  refine jo_pure rfl (pr_load_ibox (str (value)) rfl ty_9 (.head _) rfl (by decide) rfl) ?_
  refine jo_callp cal_60 (c_mediatype_ParseRange value (by first | omega | exact hm | (have := parseR_len value; dsimp only; omega))) ⟨rfl, trivial⟩ rfl (trivial) (fun r1 => ?_)
  show J _ _ [.row (r1) 78 (.pair .str .str) ((parseR value).1.2.2), .ibox valueb 9 [str (value)], .imm (.list (.pair .str .str)) (psv) (ps), .ibox psb 62 [psv]] _
  refine jo_pure rfl (pr_move rfl) ?_
  refine jo_pure rfl (pr_extract rfl rfl) ?_
  refine jo_pure rfl (pr_extract rfl rfl) ?_
  refine jo_alloc ty_64 [str ([]), str ([]), .slice none 0 0] rfl rfl (fun b1 => ?_)
  refine jo_storeV rfl rfl ty_64 [str ((parseR value).1.1), str ((parseR value).1.2.1), r1] (fun _ _ _ _ => rfl) rfl (fun w I m hs => by simp only [List.all_cons, List.all_nil, Bool.and_true, Bool.and_eq_true]; exact ⟨rfl, rfl, (SliceV.one (row_slice (.tail _ (.head _)) hs))⟩) [str ((parseR value).1.1), str ((parseR value).1.2.1), r1] rfl rfl ?_
  refine jo_pure rfl (pr_assign rfl) ?_
  refine jo_nil ?_
  refine jq_then ?_
  refine jc_seq ?_
  refine jc_region ?_
  refine jo_pure rfl (pr_load_ibox (psv) rfl ty_62 (.tail _ (.tail _ (.tail _ (.tail _ (.head _))))) rfl (by decide) rfl) ?_
  refine jo_pure rfl (pr_fieldAddr 2 rfl Tryd.underlying64 rfl ty_62 rfl rfl) ?_
  refine jo_storeV rfl rfl ty_62 [psv] (fun w I m hs => (SliceV.cells (imm_slice (.tail _ (.tail _ (.tail _ (.head _)))) hs))) rfl (fun w I m hs => by simp only [List.all_cons, List.all_nil, Bool.and_true, Bool.and_eq_true]; exact (SliceV.one (imm_slice (.tail _ (.tail _ (.tail _ (.head _)))) hs))) [str ((parseR value).1.1), str ((parseR value).1.2.1), psv] rfl rfl ?_
  refine jo_nil ?_
  refine jq_then ?_
  refine jc_seq ?_
  refine jc_region ?_
  refine jo_pure rfl (pr_load_box (.agg #[str ((parseR value).1.1), str ((parseR value).1.2.1), psv]) rfl ty_64 (.head _) rfl (by decide) rfl) ?_
  have con1 := c_mediatype_Format ((parseR value).1.1, ((parseR value).1.2.1, ps)) psv (by first | omega | exact hm | (have := parseR_len value; dsimp only; omega)) (by first | omega | exact hm | (have := parseR_len value; dsimp only; omega)) (by first | omega | exact hm | (have := parseR_len value; dsimp only; omega)) (by first | omega | exact hm | (have := parseR_len value; dsimp only; omega))
  refine jo_callp cal_88 con1 (by exact ⟨rfl, trivial⟩) rfl (by exact ⟨⟨rfl, .tail _ (.tail _ (.tail _ (.head _)))⟩, trivial⟩) (fun _ => ?_)
  clear con1
  refine jo_pure rfl (pr_move rfl) ?_
  refine jo_pure rfl (pr_assign rfl) ?_
  refine jo_pure rfl (pr_assign rfl) ?_
  refine jo_nil ?_
  refine jq_then ?_
  refine jc_ret ?_
  refine j_drop ?_
  refine j_drop ?_
  refine j_drop ?_
  refine j_drop ?_
  refine j_drop ?_
  exact jq_rets (rs := [.tmp 2, .tmp 3]) (vs := [str (formatT ((parseR value).1.1, ((parseR value).1.2.1, ps))), .bool ((parseR value).2)]) rfl () ⟨resV_tmp rfl, resV_tmp rfl, trivial⟩ rfl (show (.tuple #[str (formatT ((parseR value).1.1, (parseR value).1.2.1, ps)), .bool ((parseR value).2)] : Value) = (.tuple #[str (formatT ((parseR value).1.1, ((parseR value).1.2.1, ps))), .bool ((parseR value).2)]) from rfl) (fun _ h => h)

theorem c_accept_ranged_2 (kind : Int) (kindb : Nat) (value : List UInt8) (valueb : Nat) (ps : List ((List UInt8) × (List UInt8))) (psv : Value) (psb : Nat) (hv : value.length ≤ 300000) : Con Tryd.prog 89 #[.pointer (some ⟨kindb, 0, none⟩), .pointer (some ⟨valueb, 0, none⟩), .pointer (some ⟨psb, 0, none⟩)] [.ibox kindb 3 [.int .i64 (kind)], .ibox valueb 9 [str (value)], .imm (.list (.pair .str .str)) (psv) (ps), .ibox psb 62 [psv]] (fun _ : Unit => .tuple #[str (canonical kind value), .bool (rangeL value && decide (ps.length = 0))]) (fun _ => []) := by
  refine con_of_J (args := [.pointer (some ⟨kindb, 0, none⟩), .pointer (some ⟨valueb, 0, none⟩), .pointer (some ⟨psb, 0, none⟩)]) (n := 15) Tryd.func89 rfl (Nat.le_of_ble_eq_true rfl) rfl (fun w0 I0 m0 => ?_)
  show J _ [(0, .pointer (some ⟨kindb, 0, none⟩)), (1, .pointer (some ⟨valueb, 0, none⟩)), (2, .pointer (some ⟨psb, 0, none⟩))] [.ibox kindb 3 [.int .i64 (kind)], .ibox valueb 9 [str (value)], .imm (.list (.pair .str .str)) (psv) (ps), .ibox psb 62 [psv]] _
  refine jc_seq ?_
  refine jc_region ?_
  refine jo_pure rfl (pr_assign rfl) ?_
  refine jo_pure rfl (pr_assign rfl) ?_
  refine jo_nil ?_
  refine jq_then ?_
  refine jc_seq ?_
  refine jc_draws mixed (by kernel_rfl) ?_
  refine jd_pure rfl (pr_load_ibox (.int .i64 (kind)) rfl ty_3 (.head _) rfl (by decide) rfl) ?_
  refine jd_pure rfl (pr_load_ibox (str (value)) rfl ty_9 (.tail _ (.head _)) rfl (by decide) rfl) ?_
  refine jd_callp cal_90 (c_coding_Canonical kind value (by omega)) ⟨rfl, rfl, trivial⟩ rfl (trivial) ?_
  refine jd_pure rfl (pr_load_ibox (str (value)) rfl ty_9 (.tail _ (.head _)) rfl (by decide) rfl) ?_
  refine jd_callp cal_91 (c_language_Range value (by omega)) ⟨rfl, trivial⟩ rfl (trivial) ?_
  refine jd_pure rfl (pr_move rfl) ?_
  refine jd_gpure (j := 5) (want := true) rfl rfl rfl rfl (fun hg => pr_load_ibox (psv) rfl ty_62 (.tail _ (.tail _ (.tail _ (.head _)))) rfl (by decide) rfl) ?_
  refine jd_gpure (j := 5) (want := true) rfl rfl rfl rfl (fun hg => pr_len_imm (evg rfl hg) (.tail _ (.tail _ (.head _))) Tryd.underlying62) ?_
  refine jd_gpure (j := 5) (want := true) rfl rfl rfl rfl (fun hg => pr_eqlN (m := ps.length) (n := 0) (evg rfl hg) rfl) ?_
  refine jd_pure rfl (pr_pick_and rfl rfl rfl) ?_
  refine jd_pure rfl (pr_assign rfl) ?_
  refine jd_pure rfl (pr_assign rfl) ?_
  refine jd_nil ?_
  refine jq_then ?_
  refine jc_ret ?_
  refine j_drop ?_
  refine j_drop ?_
  refine j_drop ?_
  refine j_drop ?_
  exact jq_rets (rs := [.tmp 3, .tmp 4]) (vs := [str (canonical kind value), .bool ((rangeL value && decide ((ps.length : Nat) = 0)))]) rfl () ⟨resV_tmp rfl, resV_tmp rfl, trivial⟩ rfl (show (.tuple #[str (canonical kind value), .bool (rangeL value && decide (ps.length = 0))] : Value) = (.tuple #[str (canonical kind value), .bool ((rangeL value && decide ((ps.length : Nat) = 0)))]) from rfl) (fun _ h => h)

theorem c_accept_ranged (kind : Int) (value : List UInt8) (ps : List ((List UInt8) × (List UInt8))) (psv : Value) (hv : value.length ≤ 300000) (hl : ps.length ≤ 1000000) (hm : ∀ x ∈ ps, x.1.length ≤ 1000000 ∧ x.2.length ≤ 1000000) : Con Tryd.prog 58 #[.int .i64 (kind), str (value), psv] [.imm (.list (.pair .str .str)) (psv) (ps)] (fun _ : Unit => .tuple #[str ((rangedF kind value ps).1), .bool ((rangedF kind value ps).2)]) (fun _ => []) := by
  refine con_of_J (args := [.int .i64 (kind), str (value), psv]) (n := 36) Tryd.func58 rfl (Nat.le_of_ble_eq_true rfl) rfl (fun w0 I0 m0 => ?_)
  show J _ [(0, .int .i64 (kind)), (1, str (value)), (2, psv)] [.imm (.list (.pair .str .str)) (psv) (ps)] _
  refine jc_seq ?_
  refine jc_region ?_
  refine jo_box rfl [.int .i64 (kind)] rfl rfl (fun b1 => ?_)
  refine jo_box rfl [str (value)] rfl rfl (fun b2 => ?_)
  refine jo_boxV rfl [psv] (fun w I m hs => SliceV.cells (imm_slice (.tail _ (.tail _ (.head _))) hs)) rfl (fun b3 => ?_)
  refine jo_pure rfl (pr_assign rfl) ?_
  refine jo_pure rfl (pr_assign rfl) ?_
  refine jo_nil ?_
  refine jq_then ?_
  refine jc_seq ?_
  refine jc_region ?_
  refine jo_makeMap rfl (fun m1 => ?_)
  refine jo_pure rfl (pr_makeFunc (fs := #[]) (cs := #[.pointer (some ⟨b2, 0, none⟩), .pointer (some ⟨b3, 0, none⟩)]) (fun a hf => by simp) (fun a hf => by simp only [List.map_toArray, List.map_cons, List.map_nil, hf.ev (show ev _ (.tmp 4) = some (.pointer (some ⟨b2, 0, none⟩)) from rfl), hf.ev (show ev _ (.tmp 5) = some (.pointer (some ⟨b3, 0, none⟩)) from rfl)])) ?_
  refine jo_insert (k := .i64) (kv := .int .i64 ((1 : Nat) : Int)) (vv := .func (.func 87) #[] #[.pointer (some ⟨b2, 0, none⟩), .pointer (some ⟨b3, 0, none⟩)]) rfl rfl rfl Tryd.underlying105 Tryd.underlying3 (.inl rfl) (by simp [Instr.findNow, Instr.sameNow]) ?_
  refine jo_pure rfl (pr_makeFunc (fs := #[]) (cs := #[.pointer (some ⟨b1, 0, none⟩), .pointer (some ⟨b2, 0, none⟩), .pointer (some ⟨b3, 0, none⟩)]) (fun a hf => by simp) (fun a hf => by simp only [List.map_toArray, List.map_cons, List.map_nil, hf.ev (show ev _ (.tmp 3) = some (.pointer (some ⟨b1, 0, none⟩)) from rfl), hf.ev (show ev _ (.tmp 4) = some (.pointer (some ⟨b2, 0, none⟩)) from rfl), hf.ev (show ev _ (.tmp 5) = some (.pointer (some ⟨b3, 0, none⟩)) from rfl)])) ?_
  refine jo_insert (k := .i64) (kv := .int .i64 ((2 : Nat) : Int)) (vv := .func (.func 89) #[] #[.pointer (some ⟨b1, 0, none⟩), .pointer (some ⟨b2, 0, none⟩), .pointer (some ⟨b3, 0, none⟩)]) rfl rfl rfl Tryd.underlying105 Tryd.underlying3 (.inl rfl) (by simp [Instr.findNow, Instr.sameNow]) ?_
  refine jo_pure rfl (pr_move rfl) ?_
  refine jo_pure rfl (pr_assign rfl) ?_
  refine jo_nil ?_
  refine jq_then ?_
  refine jc_seq ?_
  refine jc_seq ?_
  by_cases hk1 : kind = 1
  · skip
    refine jc_region ?_
    refine jo_pure rfl (pr_move rfl) ?_
    refine jo_pure rfl (pr_load_box (.int .i64 (kind)) rfl ty_3 (.tail _ (.tail _ (.tail _ (.head _)))) rfl (by decide) rfl) ?_
    refine jo_pure rfl (pr_lookup_hit (i := 0) (k := .i64) rfl rfl (.head _) Tryd.underlying105 Tryd.underlying3 (.inl rfl) (by first | (subst hk1; rfl) | (subst hk2; rfl) | (have e1 : (kind == 1) = false := beq_false_of_ne hk1; have e2 : (kind == 2) = false := beq_false_of_ne hk2; simp [Instr.findNow, Instr.sameNow, e1, e2]))) ?_
    refine jo_pure rfl (pr_move rfl) ?_
    refine jo_pure rfl (pr_extract rfl rfl) ?_
    refine jo_pure rfl (pr_extract rfl rfl) ?_
    refine jo_pure rfl (pr_assign rfl) ?_
    refine jo_pure rfl (pr_assign rfl) ?_
    refine jo_nil ?_
    refine jq_then ?_
    refine jc_seq ?_
    refine jc_region ?_
    refine jo_pure rfl (pr_move rfl) ?_
    refine jo_nil ?_
    refine jq_then ?_
    refine jc_true rfl (rfl) ?_
    refine jc_seq ?_
    refine jc_region ?_
    refine jo_pure rfl (pr_move rfl) ?_
    refine j_pull2 ?_
    refine j_pub_box ?_
    refine j_pull2 ?_
    refine j_pub_box ?_
    refine jo_callvp (fi := []) (vs := []) (ca := [.pointer (some ⟨b2, 0, none⟩), .pointer (some ⟨b3, 0, none⟩)]) rfl cal_87 (c_accept_ranged_1 value b2 ps psv b3 (by first | omega | exact hm) (by first | omega | exact hm) (by first | omega | exact hm)) trivial rfl (⟨⟨rfl, .tail _ (.head _)⟩, ⟨⟨rfl, .tail _ (.tail _ (.tail _ (.tail _ (.head _))))⟩, ⟨⟨rfl, .head _⟩, trivial⟩⟩⟩) (fun _ => ?_)
    refine jo_pure rfl (pr_extract rfl rfl) ?_
    refine jo_pure rfl (pr_extract rfl rfl) ?_
    refine jo_pure rfl (pr_assign rfl) ?_
    refine jo_pure rfl (pr_assign rfl) ?_
    refine jo_nil ?_
    refine jq_then ?_
    refine jc_ret ?_
    refine jq_then_ret ?_
    refine j_drop ?_
    refine j_drop ?_
    refine j_drop ?_
    refine j_drop ?_
    refine j_drop ?_
    exact jq_rets (rs := [.tmp 6, .tmp 7]) (vs := [str (formatT ((parseR value).1.1, (parseR value).1.2.1, ps)), .bool ((parseR value).2)]) rfl () ⟨resV_tmp rfl, resV_tmp rfl, trivial⟩ rfl (show (.tuple #[str ((rangedF kind value ps).1), .bool ((rangedF kind value ps).2)] : Value) = (.tuple #[str (formatT ((parseR value).1.1, (parseR value).1.2.1, ps)), .bool ((parseR value).2)]) from by simp [rangedF, *]) (fun _ h => h)
  · skip
    by_cases hk2 : kind = 2
    · skip
      refine jc_region ?_
      refine jo_pure rfl (pr_move rfl) ?_
      refine jo_pure rfl (pr_load_box (.int .i64 (kind)) rfl ty_3 (.tail _ (.tail _ (.tail _ (.head _)))) rfl (by decide) rfl) ?_
      refine jo_pure rfl (pr_lookup_hit (i := 1) (k := .i64) rfl rfl (.head _) Tryd.underlying105 Tryd.underlying3 (.inl rfl) (by first | (subst hk1; rfl) | (subst hk2; rfl) | (have e1 : (kind == 1) = false := beq_false_of_ne hk1; have e2 : (kind == 2) = false := beq_false_of_ne hk2; simp [Instr.findNow, Instr.sameNow, e1, e2]))) ?_
      refine jo_pure rfl (pr_move rfl) ?_
      refine jo_pure rfl (pr_extract rfl rfl) ?_
      refine jo_pure rfl (pr_extract rfl rfl) ?_
      refine jo_pure rfl (pr_assign rfl) ?_
      refine jo_pure rfl (pr_assign rfl) ?_
      refine jo_nil ?_
      refine jq_then ?_
      refine jc_seq ?_
      refine jc_region ?_
      refine jo_pure rfl (pr_move rfl) ?_
      refine jo_nil ?_
      refine jq_then ?_
      refine jc_true rfl (rfl) ?_
      refine jc_seq ?_
      refine jc_region ?_
      refine jo_pure rfl (pr_move rfl) ?_
      refine j_pull3 ?_
      refine j_pub_box ?_
      refine j_pull3 ?_
      refine j_pub_box ?_
      refine j_pull3 ?_
      refine j_pub_box ?_
      refine jo_callvp (fi := []) (vs := []) (ca := [.pointer (some ⟨b1, 0, none⟩), .pointer (some ⟨b2, 0, none⟩), .pointer (some ⟨b3, 0, none⟩)]) rfl cal_89 (c_accept_ranged_2 kind b1 value b2 ps psv b3 (by first | omega | exact hm)) trivial rfl (⟨⟨rfl, .tail _ (.tail _ (.head _))⟩, ⟨⟨rfl, .tail _ (.head _)⟩, ⟨⟨rfl, .tail _ (.tail _ (.tail _ (.tail _ (.head _))))⟩, ⟨⟨rfl, .head _⟩, trivial⟩⟩⟩⟩) (fun _ => ?_)
      refine jo_pure rfl (pr_extract rfl rfl) ?_
      refine jo_pure rfl (pr_extract rfl rfl) ?_
      refine jo_pure rfl (pr_assign rfl) ?_
      refine jo_pure rfl (pr_assign rfl) ?_
      refine jo_nil ?_
      refine jq_then ?_
      refine jc_ret ?_
      refine jq_then_ret ?_
      refine j_drop ?_
      refine j_drop ?_
      refine j_drop ?_
      refine j_drop ?_
      refine j_drop ?_
      exact jq_rets (rs := [.tmp 6, .tmp 7]) (vs := [str (canonical kind value), .bool (rangeL value && decide (ps.length = 0))]) rfl () ⟨resV_tmp rfl, resV_tmp rfl, trivial⟩ rfl (show (.tuple #[str ((rangedF kind value ps).1), .bool ((rangedF kind value ps).2)] : Value) = (.tuple #[str (canonical kind value), .bool (rangeL value && decide (ps.length = 0))]) from by simp [rangedF, *]) (fun _ h => h)
    · skip
      refine jc_region ?_
      refine jo_pure rfl (pr_move rfl) ?_
      refine jo_pure rfl (pr_load_box (.int .i64 (kind)) rfl ty_3 (.tail _ (.tail _ (.tail _ (.head _)))) rfl (by decide) rfl) ?_
      refine jo_pure rfl (pr_lookup_miss (k := .i64) rfl rfl (.head _) Tryd.underlying105 Tryd.underlying3 (.inl rfl) ty_104 (by first | (subst hk1; rfl) | (subst hk2; rfl) | (have e1 : (kind == 1) = false := beq_false_of_ne hk1; have e2 : (kind == 2) = false := beq_false_of_ne hk2; simp [Instr.findNow, Instr.sameNow, e1, e2]))) ?_
      refine jo_pure rfl (pr_move rfl) ?_
      refine jo_pure rfl (pr_extract rfl rfl) ?_
      refine jo_pure rfl (pr_extract rfl rfl) ?_
      refine jo_pure rfl (pr_assign rfl) ?_
      refine jo_pure rfl (pr_assign rfl) ?_
      refine jo_nil ?_
      refine jq_then ?_
      refine jc_seq ?_
      refine jc_region ?_
      refine jo_pure rfl (pr_move rfl) ?_
      refine jo_nil ?_
      refine jq_then ?_
      refine jc_false rfl (rfl) ?_
      refine jc_skip ?_
      refine jq_then ?_
      refine jc_seq ?_
      refine jc_draws mixed (by kernel_rfl) ?_
      refine jd_pure rfl (pr_load_box (.int .i64 (kind)) rfl ty_3 (.tail _ (.tail _ (.tail _ (.head _)))) rfl (by decide) rfl) ?_
      refine jd_pure rfl (pr_load_box (str (value)) rfl ty_9 (.tail _ (.tail _ (.head _))) rfl (by decide) rfl) ?_
      refine jd_callp cal_90 (c_coding_Canonical kind value (by first | omega | exact hm)) ⟨rfl, rfl, trivial⟩ rfl (trivial) ?_
      refine jd_pure rfl (pr_load_box (str (value)) rfl ty_9 (.tail _ (.tail _ (.head _))) rfl (by decide) rfl) ?_
      refine jd_callp cal_64 (c_ascii_Token value (by first | omega | exact hm)) ⟨rfl, trivial⟩ rfl (trivial) ?_
      refine jd_pure rfl (pr_move rfl) ?_
      refine jd_gpure (j := 5) (want := true) rfl rfl rfl rfl (fun hg => pr_load_box (psv) rfl ty_62 (.tail _ (.head _)) rfl (by decide) rfl) ?_
      refine jd_gpure (j := 5) (want := true) rfl rfl rfl rfl (fun hg => pr_len_imm (evg rfl hg) (.tail _ (.tail _ (.tail _ (.tail _ (.head _))))) Tryd.underlying62) ?_
      refine jd_gpure (j := 5) (want := true) rfl rfl rfl rfl (fun hg => pr_eqlN (m := ps.length) (n := 0) (evg rfl hg) rfl) ?_
      refine jd_pure rfl (pr_pick_and rfl rfl rfl) ?_
      refine jd_pure rfl (pr_assign rfl) ?_
      refine jd_pure rfl (pr_assign rfl) ?_
      refine jd_nil ?_
      refine jq_then ?_
      refine jc_ret ?_
      refine j_drop ?_
      refine j_drop ?_
      refine j_drop ?_
      refine j_drop ?_
      refine j_drop ?_
      exact jq_rets (rs := [.tmp 6, .tmp 7]) (vs := [str (canonical kind value), .bool ((token value && decide ((ps.length : Nat) = 0)))]) rfl () ⟨resV_tmp rfl, resV_tmp rfl, trivial⟩ rfl (show (.tuple #[str ((rangedF kind value ps).1), .bool ((rangedF kind value ps).2)] : Value) = (.tuple #[str (canonical kind value), .bool ((token value && decide ((ps.length : Nat) = 0)))]) from by simp [rangedF, *]) (fun _ h => h)

theorem c_accept_pref (kind : Int) (s : List UInt8) (hs : s.length ≤ 300000) : Con Tryd.prog 33 #[.int .i64 (kind), str (s)] [] (fun _ : Unit => .tuple #[.agg #[str ((prefF kind s).1.1), .int .i64 ((prefF kind s).1.2)], .bool ((prefF kind s).2)]) (fun _ => []) := by
  refine con_of_J (args := [.int .i64 (kind), str (s)]) (n := 51) Tryd.func33 rfl (Nat.le_of_ble_eq_true rfl) rfl (fun w0 I0 m0 => ?_)
  show J _ [(0, .int .i64 (kind)), (1, str (s))] [] _
  refine jc_seq ?_
  refine jc_region ?_
  refine jo_alloc ty_45 [str ([]), .int .i64 ((0 : Nat) : Int)] rfl rfl (fun b1 => ?_)
  refine jo_pure rfl (pr_assign rfl) ?_
  refine jo_nil ?_
  refine jq_then ?_
  refine jc_seq ?_
  refine jc_region ?_
  refine jo_pure rfl (pr_move rfl) ?_
  refine jo_callp cal_54 (c_param_Parse s (by first | omega | exact hxm | exact hxl | exact hxt | exact hxq | (simp only [List.length_drop, List.length_take]; omega))) ⟨rfl, trivial⟩ rfl (trivial) (fun r1 => ?_)
  show J _ _ [.row (r1) 78 (.pair .str .str) ((parseP s).2.1), .box b1 45 [str ([]), .int .i64 ((0 : Nat) : Int)]] _
  refine jo_pure rfl (pr_move rfl) ?_
  refine jo_pure rfl (pr_extract rfl rfl) ?_
  refine jo_pure rfl (pr_extract rfl rfl) ?_
  refine jo_pure rfl (pr_extract rfl rfl) ?_
  refine jo_pure rfl (pr_assign rfl) ?_
  refine jo_pure rfl (pr_assign rfl) ?_
  refine jo_pure rfl (pr_assign rfl) ?_
  refine jo_nil ?_
  refine jq_then ?_
  refine jc_seq ?_
  refine jc_seq ?_
  refine jc_region ?_
  refine jo_pure rfl (pr_move rfl) ?_
  refine jo_pure rfl (pr_not rfl) ?_
  refine jo_nil ?_
  refine jq_then ?_
  refine jc_cond rfl (fun h1b => ?_) (fun h1b => ?_)
  · have h1 := (fun q => id (bt_not q)) h1b
    refine jc_seq ?_
    refine jc_region ?_
    refine jo_pure rfl (pr_build [] [str ([]), .int .i64 ((0 : Nat) : Int)] (fun a hf => by simp) (by kernel_rfl)) ?_
    refine j_pull1 ?_
    refine jo_store rfl rfl ty_45 [str ([]), .int .i64 ((0 : Nat) : Int)] rfl rfl rfl [str ([]), .int .i64 ((0 : Nat) : Int)] rfl rfl ?_
    refine jo_pure rfl (pr_assign rfl) ?_
    refine jo_nil ?_
    refine jq_then ?_
    refine jc_ret ?_
    refine jq_then_ret ?_
    refine j_pull1 ?_
    refine j_drop ?_
    exact jq_rets (rs := [.cell 4 45, .tmp 5]) (vs := [.agg #[str ([]), .int .i64 ((0 : Nat) : Int)], .bool (false)]) rfl () ⟨resV_box (.agg #[str ([]), .int .i64 ((0 : Nat) : Int)]) rfl ty_45 (.head _) rfl (by decide) rfl, resV_tmp rfl, trivial⟩ rfl (show (.tuple #[.agg #[str ((prefF kind s).1.1), .int .i64 ((prefF kind s).1.2)], .bool ((prefF kind s).2)] : Value) = (.tuple #[.agg #[str ([]), .int .i64 ((0 : Nat) : Int)], .bool (false)]) from by rw [pref_bad h1] <;> rfl) (fun w h => (fun h => h) (Mem.front (As := []) h))
  · have h1 := (fun q => id (bf_not q)) h1b
    have hpl := parseP_len1 s
    have hxl := parseP_length s
    have hxm : ∀ x ∈ (parseP s).2.1, x.1.length ≤ 1000000 ∧ x.2.length ≤ 1000000 := fun x hx => by have := parseP_mem s x hx; omega
    have hxt : ∀ x ∈ ((parseP s).2.1.take (qAt (parseP s).2.1)).drop 0, x.1.length ≤ 1000000 ∧ x.2.length ≤ 1000000 := fun x hx => hxm x (List.mem_of_mem_take (List.mem_of_mem_drop hx))
    have hxq : (qAt (parseP s).2.1) < ((parseP s).2.1).length → ((parseP s).2.1.getD (qAt (parseP s).2.1) ([], [])).2.length ≤ 1000000 := fun h => (hxm _ (getD_mem h)).2
    refine jc_skip ?_
    refine jq_then ?_
    refine jc_seq ?_
    refine jc_region ?_
    refine jo_pure rfl (pr_assign rfl) ?_
    refine jo_nil ?_
    refine jq_then ?_
    refine jc_seq ?_
    refine jc_seq ?_
    refine jc_region ?_
    refine jo_pure rfl (pr_move rfl) ?_
    refine j_pub_row ?_
    refine jo_callp cal_55 (c_indexFunc ((parseP s).2.1) r1 (by first | omega | exact hxm | exact hxl | exact hxt | exact hxq | (simp only [List.length_drop, List.length_take]; omega))) ⟨rfl, rfl, trivial⟩ rfl (⟨⟨rfl, .head _⟩, trivial⟩) (fun _ => ?_)
    refine jo_pure rfl (pr_assign rfl) ?_
    refine jo_nil ?_
    refine jq_then ?_
    refine jc_seq ?_
    by_cases hc : (qAt (parseP s).2.1) < ((parseP s).2.1).length
    · skip
      have hxq := hxq hc
      rw [show (idxQ ((parseP s).2.1) : Int) = ((qAt (parseP s).2.1 : Nat) : Int) from idxQ_found hc]
      refine jc_region ?_
      refine jo_pure rfl (pr_move rfl) ?_
      refine jo_pure rfl (pr_geqN (m := qAt (parseP s).2.1) (n := 0) rfl rfl) ?_
      refine jo_nil ?_
      refine jq_then ?_
      refine jc_true rfl (by simp) ?_
      refine jc_seq ?_
      refine jc_seq ?_
      refine jc_region ?_
      refine jo_pure rfl (pr_move rfl) ?_
      refine jo_pure rfl (pr_move rfl) ?_
      refine jo_pure rfl (pr_idx_imm (i := qAt (parseP s).2.1) rfl (.head _) rfl Tryd.underlying62 ty_78 (by omega)) ?_
      refine jo_pure rfl (pr_fieldAddr_imm (i := qAt (parseP s).2.1) rfl (.head _) Tryd.underlying78 rfl ty_9 rfl rfl (by omega)) ?_
      refine jo_pure rfl (pr_load_off_imm (i := qAt (parseP s).2.1) (o := 1) (dd := ([], [])) (str ((((parseP s).2.1).getD (qAt (parseP s).2.1) ([], [])).2)) rfl (.head _) ty_9 rfl (by decide) rfl (by omega) rfl) ?_
      refine jo_callp cal_57 (c_qvalue_Parse ((((parseP s).2.1).getD (qAt (parseP s).2.1) ([], [])).2) (by first | omega | exact hxm | exact hxl | exact hxt | exact hxq | (simp only [List.length_drop, List.length_take]; omega))) ⟨rfl, trivial⟩ rfl (trivial) (fun _ => ?_)
      refine jo_pure rfl (pr_move rfl) ?_
      refine jo_pure rfl (pr_extract rfl rfl) ?_
      refine jo_pure rfl (pr_extract rfl rfl) ?_
      refine jo_pure rfl (pr_assign rfl) ?_
      refine jo_pure rfl (pr_assign rfl) ?_
      refine jo_nil ?_
      refine jq_then ?_
      refine jc_seq ?_
      refine jc_region ?_
      refine jo_pure rfl (pr_move rfl) ?_
      refine jo_pure rfl (pr_not rfl) ?_
      refine jo_nil ?_
      refine jq_then ?_
      refine jc_cond rfl (fun h2b => ?_) (fun h2b => ?_)
      · have h2 := (fun q => id (bt_not q)) h2b
        refine jc_seq ?_
        refine jc_region ?_
        refine jo_pure rfl (pr_build [] [str ([]), .int .i64 ((0 : Nat) : Int)] (fun a hf => by simp) (by kernel_rfl)) ?_
        refine j_pull1 ?_
        refine jo_store rfl rfl ty_45 [str ([]), .int .i64 ((0 : Nat) : Int)] rfl rfl rfl [str ([]), .int .i64 ((0 : Nat) : Int)] rfl rfl ?_
        refine jo_pure rfl (pr_assign rfl) ?_
        refine jo_nil ?_
        refine jq_then ?_
        refine jc_ret ?_
        refine jq_then_ret ?_
        refine jq_then_ret ?_
        refine j_pull1 ?_
        refine j_drop ?_
        exact jq_rets (rs := [.cell 4 45, .tmp 5]) (vs := [.agg #[str ([]), .int .i64 ((0 : Nat) : Int)], .bool (false)]) rfl () ⟨resV_box (.agg #[str ([]), .int .i64 ((0 : Nat) : Int)]) rfl ty_45 (.head _) rfl (by decide) rfl, resV_tmp rfl, trivial⟩ rfl (show (.tuple #[.agg #[str ((prefF kind s).1.1), .int .i64 ((prefF kind s).1.2)], .bool ((prefF kind s).2)] : Value) = (.tuple #[.agg #[str ([]), .int .i64 ((0 : Nat) : Int)], .bool (false)]) from by rw [pref_badq (by rw [h1]; simp) hc h2] <;> rfl) (fun w h => (fun h => h) (Mem.front (As := []) h))
      · have h2 := (fun q => id (bf_not q)) h2b
        refine jc_skip ?_
        refine jq_then ?_
        refine jc_region ?_
        refine jo_pure rfl (pr_move rfl) ?_
        refine jo_pure rfl (pr_move rfl) ?_
        refine j_resl (l := 0) (h := qAt (parseP s).2.1) (.head _) (by omega) (by omega) ?_
        show J _ _ (.imm (.list (.pair .str .str)) (resl (r1) (0) (qAt (parseP s).2.1) 2) ((((parseP s).2.1).take (qAt (parseP s).2.1)).drop 0) :: _) _
        refine jo_pure rfl (pr_slice_imm (l := 0) (h := qAt (parseP s).2.1) rfl (.tail _ (.head _)) Tryd.underlying62 ty_78 rfl ⟨_, rfl⟩ (by omega) (by omega)) ?_
        refine jo_pure rfl (pr_assign rfl) ?_
        refine jo_nil ?_
        refine jq_then ?_
        refine jc_seq ?_
        refine jc_region ?_
        refine jo_pure rfl (pr_move rfl) ?_
        refine jo_pure rfl (pr_move rfl) ?_
        refine jo_pure rfl (pr_move rfl) ?_
        refine jo_callp cal_58 (c_accept_ranged kind ((parseP s).1) ((((parseP s).2.1).take (qAt (parseP s).2.1)).drop 0) (resl (r1) (0) (qAt (parseP s).2.1) 2) (by first | omega | exact hxm | exact hxl | exact hxt | exact hxq | (simp only [List.length_drop, List.length_take]; omega)) (by first | omega | exact hxm | exact hxl | exact hxt | exact hxq | (simp only [List.length_drop, List.length_take]; omega)) (by first | omega | exact hxm | exact hxl | exact hxt | exact hxq | (simp only [List.length_drop, List.length_take]; omega))) ⟨rfl, rfl, rfl, trivial⟩ rfl (⟨⟨rfl, .head _⟩, trivial⟩) (fun _ => ?_)
        refine jo_pure rfl (pr_move rfl) ?_
        refine jo_pure rfl (pr_extract rfl rfl) ?_
        refine jo_pure rfl (pr_extract rfl rfl) ?_
        refine jo_pure rfl (pr_assign rfl) ?_
        refine jo_pure rfl (pr_assign rfl) ?_
        refine jo_nil ?_
        refine jq_then ?_
        refine jc_seq ?_
        refine jc_region ?_
        refine jo_pure rfl (pr_move rfl) ?_
        refine jo_pure rfl (pr_move rfl) ?_
        refine jo_pure rfl (pr_build [(0, str ((rangedF kind ((parseP s).1) ((((parseP s).2.1).take (qAt (parseP s).2.1)).drop 0)).1)), (1, .int .i64 (((parseQ ((((parseP s).2.1).getD (qAt (parseP s).2.1) ([], [])).2)).1 : Nat) : Int))] [str ((rangedF kind ((parseP s).1) ((((parseP s).2.1).take (qAt (parseP s).2.1)).drop 0)).1), .int .i64 (((parseQ ((((parseP s).2.1).getD (qAt (parseP s).2.1) ([], [])).2)).1 : Nat) : Int)] (fun a hf => by simp only [List.map_toArray, List.map_cons, List.map_nil, hf.ev (show ev _ (.tmp 47) = some (str ((rangedF kind ((parseP s).1) ((((parseP s).2.1).take (qAt (parseP s).2.1)).drop 0)).1)) from rfl), hf.ev (show ev _ (.tmp 48) = some (.int .i64 (((parseQ ((((parseP s).2.1).getD (qAt (parseP s).2.1) ([], [])).2)).1 : Nat) : Int)) from rfl)]) (by kernel_rfl)) ?_
        refine jo_pure rfl (pr_move rfl) ?_
        refine j_pull2 ?_
        refine jo_store rfl rfl ty_45 [str ((rangedF kind ((parseP s).1) ((((parseP s).2.1).take (qAt (parseP s).2.1)).drop 0)).1), .int .i64 (((parseQ ((((parseP s).2.1).getD (qAt (parseP s).2.1) ([], [])).2)).1 : Nat) : Int)] rfl rfl rfl [str ((rangedF kind ((parseP s).1) ((((parseP s).2.1).take (qAt (parseP s).2.1)).drop 0)).1), .int .i64 (((parseQ ((((parseP s).2.1).getD (qAt (parseP s).2.1) ([], [])).2)).1 : Nat) : Int)] rfl rfl ?_
        refine jo_pure rfl (pr_assign rfl) ?_
        refine jo_nil ?_
        refine jq_then ?_
        refine jc_ret ?_
        refine j_pull1 ?_
        refine j_drop ?_
        refine j_pull1 ?_
        refine j_drop ?_
        exact jq_rets (rs := [.cell 4 45, .tmp 5]) (vs := [.agg #[str ((rangedF kind ((parseP s).1) ((((parseP s).2.1).take (qAt (parseP s).2.1)).drop 0)).1), .int .i64 (((parseQ ((((parseP s).2.1).getD (qAt (parseP s).2.1) ([], [])).2)).1 : Nat) : Int)], .bool ((rangedF kind ((parseP s).1) ((((parseP s).2.1).take (qAt (parseP s).2.1)).drop 0)).2)]) rfl () ⟨resV_box (.agg #[str ((rangedF kind ((parseP s).1) ((((parseP s).2.1).take (qAt (parseP s).2.1)).drop 0)).1), .int .i64 (((parseQ ((((parseP s).2.1).getD (qAt (parseP s).2.1) ([], [])).2)).1 : Nat) : Int)]) rfl ty_45 (.head _) rfl (by decide) rfl, resV_tmp rfl, trivial⟩ rfl (show (.tuple #[.agg #[str ((prefF kind s).1.1), .int .i64 ((prefF kind s).1.2)], .bool ((prefF kind s).2)] : Value) = (.tuple #[.agg #[str ((rangedF kind ((parseP s).1) ((((parseP s).2.1).take (qAt (parseP s).2.1)).drop 0)).1), .int .i64 (((parseQ ((((parseP s).2.1).getD (qAt (parseP s).2.1) ([], [])).2)).1 : Nat) : Int)], .bool ((rangedF kind ((parseP s).1) ((((parseP s).2.1).take (qAt (parseP s).2.1)).drop 0)).2)]) from by rw [pref_q (by rw [h1]; simp) hc (by rw [h2]; simp), List.drop_zero]) (fun w h => (fun h => h) (Mem.front (As := []) h))
    · skip
      rw [show (idxQ ((parseP s).2.1) : Int) = -1 from idxQ_none hc]
      refine jc_region ?_
      refine jo_pure rfl (pr_move rfl) ?_
      refine jo_pure rfl (pr_geq (n := 0) rfl rfl) ?_
      refine jo_nil ?_
      refine jq_then ?_
      refine jc_false rfl (by decide) ?_
      refine jc_skip ?_
      refine jq_then ?_
      refine jc_seq ?_
      refine jc_region ?_
      refine jo_pure rfl (pr_move rfl) ?_
      refine jo_pure rfl (pr_move rfl) ?_
      refine jo_pure rfl (pr_move rfl) ?_
      refine jo_callp cal_58 (c_accept_ranged kind ((parseP s).1) ((parseP s).2.1) r1 (by first | omega | exact hxm | exact hxl | exact hxt | exact hxq | (simp only [List.length_drop, List.length_take]; omega)) (by first | omega | exact hxm | exact hxl | exact hxt | exact hxq | (simp only [List.length_drop, List.length_take]; omega)) (by first | omega | exact hxm | exact hxl | exact hxt | exact hxq | (simp only [List.length_drop, List.length_take]; omega))) ⟨rfl, rfl, rfl, trivial⟩ rfl (⟨⟨rfl, .head _⟩, trivial⟩) (fun _ => ?_)
      refine jo_pure rfl (pr_move rfl) ?_
      refine jo_pure rfl (pr_extract rfl rfl) ?_
      refine jo_pure rfl (pr_extract rfl rfl) ?_
      refine jo_pure rfl (pr_assign rfl) ?_
      refine jo_pure rfl (pr_assign rfl) ?_
      refine jo_nil ?_
      refine jq_then ?_
      refine jc_seq ?_
      refine jc_region ?_
      refine jo_pure rfl (pr_move rfl) ?_
      refine jo_pure rfl (pr_move rfl) ?_
      refine jo_pure rfl (pr_build [(0, str ((rangedF kind ((parseP s).1) ((parseP s).2.1)).1)), (1, .int .i64 ((1000 : Nat) : Int))] [str ((rangedF kind ((parseP s).1) ((parseP s).2.1)).1), .int .i64 ((1000 : Nat) : Int)] (fun a hf => by simp only [List.map_toArray, List.map_cons, List.map_nil, hf.ev (show ev _ (.tmp 47) = some (str ((rangedF kind ((parseP s).1) ((parseP s).2.1)).1)) from rfl), hf.ev (show ev _ (.tmp 48) = some (.int .i64 ((1000 : Nat) : Int)) from rfl)]) (by kernel_rfl)) ?_
      refine jo_pure rfl (pr_move rfl) ?_
      refine j_pull1 ?_
      refine jo_store rfl rfl ty_45 [str ((rangedF kind ((parseP s).1) ((parseP s).2.1)).1), .int .i64 ((1000 : Nat) : Int)] rfl rfl rfl [str ((rangedF kind ((parseP s).1) ((parseP s).2.1)).1), .int .i64 ((1000 : Nat) : Int)] rfl rfl ?_
      refine jo_pure rfl (pr_assign rfl) ?_
      refine jo_nil ?_
      refine jq_then ?_
      refine jc_ret ?_
      refine j_pull1 ?_
      refine j_drop ?_
      exact jq_rets (rs := [.cell 4 45, .tmp 5]) (vs := [.agg #[str ((rangedF kind ((parseP s).1) ((parseP s).2.1)).1), .int .i64 ((1000 : Nat) : Int)], .bool ((rangedF kind ((parseP s).1) ((parseP s).2.1)).2)]) rfl () ⟨resV_box (.agg #[str ((rangedF kind ((parseP s).1) ((parseP s).2.1)).1), .int .i64 ((1000 : Nat) : Int)]) rfl ty_45 (.head _) rfl (by decide) rfl, resV_tmp rfl, trivial⟩ rfl (show (.tuple #[.agg #[str ((prefF kind s).1.1), .int .i64 ((prefF kind s).1.2)], .bool ((prefF kind s).2)] : Value) = (.tuple #[.agg #[str ((rangedF kind ((parseP s).1) ((parseP s).2.1)).1), .int .i64 ((1000 : Nat) : Int)], .bool ((rangedF kind ((parseP s).1) ((parseP s).2.1)).2)]) from by rw [pref_plain (by rw [h1]; simp) hc] <;> rfl) (fun w h => (fun h => h) (Mem.front (As := []) h))
end Go.Proofs.YtikllmfjgpmcnaaDoor
