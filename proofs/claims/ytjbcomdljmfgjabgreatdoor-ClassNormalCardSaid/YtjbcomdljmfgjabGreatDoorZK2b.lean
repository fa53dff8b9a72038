/-
 Contracts of functions of the program: each returns what a plain function says, for every input within the bounds named. Conditions: the bounds.
-/
import Derived.Test.YtjbcomdljmfgjabGreatDoorRows
import Derived.Test.YtjbcomdljmfgjabGreatDoorZK2
import Derived.Test.YtjbcomdljmfgjabGreatDoorZLawB
namespace Go.Proofs.YtjbcomdljmfgjabGreatDoor
open Go Go.Sep
set_option linter.unusedSimpArgs false
set_option linter.unusedVariables false

open Go.Plain

theorem cal_13 : Cal Tryz.prog 13 := cal_of Tryz.func13 (by kernel_rfl) rfl
theorem cal_20 : Cal Tryz.prog 20 := cal_of Tryz.func20 (by kernel_rfl) rfl
theorem cal_21 : Cal Tryz.prog 21 := cal_of Tryz.func21 (by kernel_rfl) rfl
theorem cal_29 : Cal Tryz.prog 29 := cal_of Tryz.func29 (by kernel_rfl) rfl
theorem cal_30 : Cal Tryz.prog 30 := cal_of Tryz.func30 (by kernel_rfl) rfl
theorem cal_31 : Cal Tryz.prog 31 := cal_of Tryz.func31 (by kernel_rfl) rfl
theorem cal_35 : Cal Tryz.prog 35 := cal_of Tryz.func35 (by kernel_rfl) rfl
theorem cal_40 : Cal Tryz.prog 40 := cal_of Tryz.func40 (by kernel_rfl) rfl
theorem cal_41 : Cal Tryz.prog 41 := cal_of Tryz.func41 (by kernel_rfl) rfl
theorem cal_57 : Cal Tryz.prog 57 := cal_of Tryz.func57 (by kernel_rfl) rfl
theorem cal_58 : Cal Tryz.prog 58 := cal_of Tryz.func58 (by kernel_rfl) rfl
theorem cal_59 : Cal Tryz.prog 59 := cal_of Tryz.func59 (by kernel_rfl) rfl
theorem cal_60 : Cal Tryz.prog 60 := cal_of Tryz.func60 (by kernel_rfl) rfl
theorem cal_66 : Cal Tryz.prog 66 := cal_of Tryz.func66 (by kernel_rfl) rfl
theorem cal_67 : Cal Tryz.prog 67 := cal_of Tryz.func67 (by kernel_rfl) rfl
theorem cal_68 : Cal Tryz.prog 68 := cal_of Tryz.func68 (by kernel_rfl) rfl
theorem cal_69 : Cal Tryz.prog 69 := cal_of Tryz.func69 (by kernel_rfl) rfl
theorem cal_70 : Cal Tryz.prog 70 := cal_of Tryz.func70 (by kernel_rfl) rfl
theorem cal_80 : Cal Tryz.prog 80 := cal_of Tryz.func80 (by kernel_rfl) rfl
theorem cal_81 : Cal Tryz.prog 81 := cal_of Tryz.func81 (by kernel_rfl) rfl
theorem cal_88 : Cal Tryz.prog 88 := cal_of Tryz.func88 (by kernel_rfl) rfl
theorem cal_89 : Cal Tryz.prog 89 := cal_of Tryz.func89 (by kernel_rfl) rfl
theorem cal_90 : Cal Tryz.prog 90 := cal_of Tryz.func90 (by kernel_rfl) rfl
theorem cal_92 : Cal Tryz.prog 92 := cal_of Tryz.func92 (by kernel_rfl) rfl
theorem cal_96 : Cal Tryz.prog 96 := cal_of Tryz.func96 (by kernel_rfl) rfl
theorem cal_98 : Cal Tryz.prog 98 := cal_of Tryz.func98 (by kernel_rfl) rfl
theorem cal_102 : Cal Tryz.prog 102 := cal_of Tryz.func102 (by kernel_rfl) rfl
theorem cal_116 : Cal Tryz.prog 116 := cal_of Tryz.func116 (by kernel_rfl) rfl
theorem ty_47 : TyF Tryz.prog 47 true 2 24 (some (.agg #[str ([]), .int .i64 ((0 : Nat) : Int)])) := ⟨by kernel_rfl, by kernel_rfl⟩
theorem ty_112 : TyF Tryz.prog 112 false 1 8 (some (.nilFunc)) := ⟨by kernel_rfl, by kernel_rfl⟩

theorem c_accept_Name (kind : Int)  : Con Tryz.prog 13 #[.int .i64 (kind)] [] (fun _ : Unit => str (nameK kind)) (fun _ => []) := by
 refine con_of_J (args := [.int .i64 (kind)]) (n := 12) Tryz.func13 rfl (Nat.le_of_ble_eq_true rfl) rfl (fun w0 I0 m0 => ?_)
 show J _ [(0, .int .i64 (kind))] [] _
 refine jc_seq (jc_region (jo_pure rfl (pr_assign rfl) (jo_nil (jq_then (jc_seq ?_)))))
 refine jc_seq (jc_region (jo_pure rfl (pr_move rfl) (jo_nil (jq_then (jc_block ?_)))))
 refine jc_seq (jc_region (jo_pure rfl (pr_eql (n := 1) rfl rfl) ?_))
 refine jo_pure rfl (pr_assign rfl) (jo_nil (jq_then ?_))
 refine jc_cond rfl (fun h1b => ?_) (fun h1b => ?_)
 ·have h1 := of_decide_eq_true h1b
  refine jc_seq (jc_region (jo_pure rfl (pr_assign rfl) (jo_nil (jq_then (jc_ret ?_)))))
  refine jq_in_ret ?_
  refine jq_then_ret ?_
  exact jq_ret1 rfl () rfl (show (str (nameK kind) : Value) = (str ([65, 99, 99, 101, 112, 116])) from congrArg str (by simp [nameK, *])) (fun _ h => h)
 ·have h1 := of_decide_eq_false h1b
  refine jc_seq (jc_region (jo_pure rfl (pr_eql (n := 2) rfl rfl) ?_))
  refine jo_pure rfl (pr_assign rfl) (jo_nil (jq_then ?_))
  refine jc_cond rfl (fun h2b => ?_) (fun h2b => ?_)
  ·have h2 := of_decide_eq_true h2b
   refine jc_seq (jc_region (jo_pure rfl (pr_assign rfl) (jo_nil (jq_then (jc_ret ?_)))))
   refine jq_in_ret ?_
   refine jq_then_ret ?_
   exact jq_ret1 rfl () rfl (show (str (nameK kind) : Value) = (str ([65, 99, 99, 101, 112, 116, 45, 76, 97, 110, 103, 117, 97, 103, 101])) from congrArg str (by simp [nameK, *])) (fun _ h => h)
  ·have h2 := of_decide_eq_false h2b
   refine jc_seq (jc_region (jo_pure rfl (pr_eql (n := 3) rfl rfl) ?_))
   refine jo_pure rfl (pr_assign rfl) (jo_nil (jq_then ?_))
   refine jc_cond rfl (fun h3b => ?_) (fun h3b => ?_)
   ·have h3 := of_decide_eq_true h3b
    refine jc_seq (jc_region (jo_pure rfl (pr_assign rfl) (jo_nil (jq_then (jc_ret ?_)))))
    refine jq_in_ret ?_
    refine jq_then_ret ?_
    exact jq_ret1 rfl () rfl (show (str (nameK kind) : Value) = (str ([65, 99, 99, 101, 112, 116, 45, 67, 104, 97, 114, 115, 101, 116])) from congrArg str (by simp [nameK, *])) (fun _ h => h)
   ·have h3 := of_decide_eq_false h3b
    refine jc_seq (jc_region (jo_pure rfl (pr_eql (n := 4) rfl rfl) ?_))
    refine jo_pure rfl (pr_assign rfl) (jo_nil (jq_then ?_))
    refine jc_cond rfl (fun h4b => ?_) (fun h4b => ?_)
    ·have h4 := of_decide_eq_true h4b
     refine jc_seq (jc_region (jo_pure rfl (pr_assign rfl) (jo_nil (jq_then (jc_ret ?_)))))
     refine jq_in_ret ?_
     refine jq_then_ret ?_
     exact jq_ret1 rfl () rfl (show (str (nameK kind) : Value) = (str ([65, 99, 99, 101, 112, 116, 45, 69, 110, 99, 111, 100, 105, 110, 103])) from congrArg str (by simp [nameK, *])) (fun _ h => h)
    ·have h4 := of_decide_eq_false h4b
     refine jc_skip (jq_in_normal (jq_then (jc_seq (jc_region (jo_pure rfl (pr_assign rfl) ?_)))))
     refine jo_nil (jq_then (jc_ret ?_))
     exact jq_ret1 rfl () rfl (show (str (nameK kind) : Value) = (str ([])) from congrArg str (by simp [nameK, *])) (fun _ h => h)

theorem c_ref10_Name (kind : Int)  : Con Tryz.prog 21 #[.int .i64 (kind)] [] (fun _ : Unit => str (nameK kind)) (fun _ => []) := by
 refine con_of_J (args := [.int .i64 (kind)]) (n := 12) Tryz.func21 rfl (Nat.le_of_ble_eq_true rfl) rfl (fun w0 I0 m0 => ?_)
 show J _ [(0, .int .i64 (kind))] [] _
 refine jc_seq (jc_region (jo_pure rfl (pr_assign rfl) (jo_nil (jq_then (jc_seq ?_)))))
 refine jc_seq (jc_region (jo_pure rfl (pr_move rfl) (jo_nil (jq_then (jc_block ?_)))))
 refine jc_seq (jc_region (jo_pure rfl (pr_eql (n := 1) rfl rfl) ?_))
 refine jo_pure rfl (pr_assign rfl) (jo_nil (jq_then ?_))
 refine jc_cond rfl (fun h1b => ?_) (fun h1b => ?_)
 ·have h1 := of_decide_eq_true h1b
  refine jc_seq (jc_region (jo_pure rfl (pr_assign rfl) (jo_nil (jq_then (jc_ret ?_)))))
  refine jq_in_ret ?_
  refine jq_then_ret ?_
  exact jq_ret1 rfl () rfl (show (str (nameK kind) : Value) = (str ([65, 99, 99, 101, 112, 116])) from congrArg str (by simp [nameK, *])) (fun _ h => h)
 ·have h1 := of_decide_eq_false h1b
  refine jc_seq (jc_region (jo_pure rfl (pr_eql (n := 2) rfl rfl) ?_))
  refine jo_pure rfl (pr_assign rfl) (jo_nil (jq_then ?_))
  refine jc_cond rfl (fun h2b => ?_) (fun h2b => ?_)
  ·have h2 := of_decide_eq_true h2b
   refine jc_seq (jc_region (jo_pure rfl (pr_assign rfl) (jo_nil (jq_then (jc_ret ?_)))))
   refine jq_in_ret ?_
   refine jq_then_ret ?_
   exact jq_ret1 rfl () rfl (show (str (nameK kind) : Value) = (str ([65, 99, 99, 101, 112, 116, 45, 76, 97, 110, 103, 117, 97, 103, 101])) from congrArg str (by simp [nameK, *])) (fun _ h => h)
  ·have h2 := of_decide_eq_false h2b
   refine jc_seq (jc_region (jo_pure rfl (pr_eql (n := 3) rfl rfl) ?_))
   refine jo_pure rfl (pr_assign rfl) (jo_nil (jq_then ?_))
   refine jc_cond rfl (fun h3b => ?_) (fun h3b => ?_)
   ·have h3 := of_decide_eq_true h3b
    refine jc_seq (jc_region (jo_pure rfl (pr_assign rfl) (jo_nil (jq_then (jc_ret ?_)))))
    refine jq_in_ret ?_
    refine jq_then_ret ?_
    exact jq_ret1 rfl () rfl (show (str (nameK kind) : Value) = (str ([65, 99, 99, 101, 112, 116, 45, 67, 104, 97, 114, 115, 101, 116])) from congrArg str (by simp [nameK, *])) (fun _ h => h)
   ·have h3 := of_decide_eq_false h3b
    refine jc_seq (jc_region (jo_pure rfl (pr_eql (n := 4) rfl rfl) ?_))
    refine jo_pure rfl (pr_assign rfl) (jo_nil (jq_then ?_))
    refine jc_cond rfl (fun h4b => ?_) (fun h4b => ?_)
    ·have h4 := of_decide_eq_true h4b
     refine jc_seq (jc_region (jo_pure rfl (pr_assign rfl) (jo_nil (jq_then (jc_ret ?_)))))
     refine jq_in_ret ?_
     refine jq_then_ret ?_
     exact jq_ret1 rfl () rfl (show (str (nameK kind) : Value) = (str ([65, 99, 99, 101, 112, 116, 45, 69, 110, 99, 111, 100, 105, 110, 103])) from congrArg str (by simp [nameK, *])) (fun _ h => h)
    ·have h4 := of_decide_eq_false h4b
     refine jc_skip (jq_in_normal (jq_then (jc_seq (jc_region (jo_pure rfl (pr_assign rfl) ?_)))))
     refine jo_nil (jq_then (jc_ret ?_))
     exact jq_ret1 rfl () rfl (show (str (nameK kind) : Value) = (str ([])) from congrArg str (by simp [nameK, *])) (fun _ h => h)

theorem c_accept_Kind (name : List UInt8) (hn : name.length ≤ 1000000) : Con Tryz.prog 75 #[str (name)] [] (fun _ : Unit => .int .i64 (kindF name)) (fun _ => []) := by
 refine con_of_J (args := [str (name)]) (n := 13) Tryz.func75 rfl (Nat.le_of_ble_eq_true rfl) rfl (fun w0 I0 m0 => ?_)
 show J _ [(0, str (name))] [] _
 refine jc_seq (jc_region (jo_pure rfl (pr_assign rfl) (jo_nil (jq_then (jc_seq ?_)))))
 refine jc_seq (jc_region (jo_pure rfl (pr_assign rfl) (jo_nil (jq_then (jc_block ?_)))))
 refine jc_loop (fun (k : Nat) => [(0, str (name)), (3, .int .i64 ((k : Nat) : Int))]) (fun (k : Nat) => []) (fun (k : Nat) => 1 ≤ k ∧ k ≤ 5 ∧ ∀ j : Nat, 1 ≤ j → j < k → fold name (nameK (j : Int)) = false) (fun (k : Nat) => 5 - k) 1 (⟨Nat.le_refl _, by omega, fun j a b => absurd a (by omega)⟩) (⟨rfl, rfl, trivial⟩) (fun _ h => h) (fun k hinv => ?_)
 refine jc_seq (jc_seq (jc_region (jo_pure rfl (pr_move rfl) (jo_pure rfl (pr_leqN (m := k) (n := 4) rfl rfl) ?_))))
 refine jo_nil (jq_then ?_)
 refine jc_cond rfl (fun h1b => ?_) (fun h1b => ?_)
 ·have h1 := of_decide_eq_true h1b
  refine jc_skip (jq_then (jc_seq (jc_block (jc_seq (jc_region ?_)))))
  refine jo_pure rfl (pr_move rfl) (jo_pure rfl (pr_move rfl) ?_)
  refine jo_callp cal_13 (c_accept_Name ((k : Nat) : Int)) ⟨rfl, trivial⟩ rfl (trivial) (fun _ => ?_)
  refine jo_callp cal_39 (c_ascii_Fold name (nameK ((k : Nat) : Int)) (by first | omega | (have := nameK_length ((k : Nat) : Int); omega)) (by first | omega | (have := nameK_length ((k : Nat) : Int); omega))) ⟨rfl, rfl, trivial⟩ rfl (trivial) (fun _ => ?_)
  refine jo_nil (jq_then ?_)
  refine jc_cond rfl (fun h2b => ?_) (fun h2b => ?_)
  ·have h2 := id h2b
   refine jc_seq (jc_region (jo_pure rfl (pr_move rfl) (jo_pure rfl (pr_assign rfl) (jo_nil (jq_then ?_)))))
   refine jc_ret (jq_in_ret ?_)
   refine jq_then_ret (jq_then_ret (jq_in_ret ?_))
   refine jq_then_ret ?_
   exact jq_ret1 rfl () rfl (show (.int .i64 (kindF name) : Value) = (.int .i64 ((k : Nat) : Int)) from congrArg (Value.int .i64) (by rw [kindF_hit hinv.1 (by omega) hinv.2.2 (by simpa using h2b)])) (fun _ h => h)
  ·have h2 := id h2b
   refine jc_skip (jq_in_normal (jq_then (jc_region (jo_pure rfl (pr_move rfl) (jo_pure rfl (pr_addN (m := k) (n := 1) rfl rfl (by omega)) ?_)))))
   refine jo_pure rfl (pr_assign rfl) (jo_nil ?_)
   refine jq_round' (k + 1) (by (try dsimp only); exact (⟨by omega, by omega, fun j a b => by rcases Nat.lt_or_ge j k with q | q; exact hinv.2.2 j a q; have e : j = k := (by omega); rw [e]; simpa using h2b⟩)) (by (try dsimp only); exact (by omega)) ⟨rfl, rfl, trivial⟩ (fun _ h => h)
 ·have h1 := of_decide_eq_false h1b
  refine jc_exit ?_
  refine jq_then_exit ?_
  refine jq_then_exit ?_
  refine jq_in_hit ?_
  refine jq_then (jc_seq (jc_region (jo_pure rfl (pr_assign rfl) (jo_nil (jq_then ?_)))))
  refine jc_ret ?_
  exact jq_ret1 rfl () rfl (show (.int .i64 (kindF name) : Value) = (.int .i64 ((0 : Nat) : Int)) from congrArg (Value.int .i64) (by rw [kindF_none (by omega) hinv.2.2]; rfl)) (fun _ h => h)

theorem c_ref10_Kind (name : List UInt8) (hn : name.length ≤ 1000000) : Con Tryz.prog 8 #[str (name)] [] (fun _ : Unit => .int .i64 (kindF name)) (fun _ => []) := by
 refine con_of_J (args := [str (name)]) (n := 13) Tryz.func8 rfl (Nat.le_of_ble_eq_true rfl) rfl (fun w0 I0 m0 => ?_)
 show J _ [(0, str (name))] [] _
 refine jc_seq (jc_region (jo_pure rfl (pr_assign rfl) (jo_nil (jq_then (jc_seq ?_)))))
 refine jc_seq (jc_region (jo_pure rfl (pr_assign rfl) (jo_nil (jq_then (jc_block ?_)))))
 refine jc_loop (fun (k : Nat) => [(0, str (name)), (3, .int .i64 ((k : Nat) : Int))]) (fun (k : Nat) => []) (fun (k : Nat) => 1 ≤ k ∧ k ≤ 5 ∧ ∀ j : Nat, 1 ≤ j → j < k → fold name (nameK (j : Int)) = false) (fun (k : Nat) => 5 - k) 1 (⟨Nat.le_refl _, by omega, fun j a b => absurd a (by omega)⟩) (⟨rfl, rfl, trivial⟩) (fun _ h => h) (fun k hinv => ?_)
 refine jc_seq (jc_seq (jc_region (jo_pure rfl (pr_move rfl) (jo_pure rfl (pr_leqN (m := k) (n := 4) rfl rfl) ?_))))
 refine jo_nil (jq_then ?_)
 refine jc_cond rfl (fun h1b => ?_) (fun h1b => ?_)
 ·have h1 := of_decide_eq_true h1b
  refine jc_skip (jq_then (jc_seq (jc_block (jc_seq (jc_region ?_)))))
  refine jo_pure rfl (pr_move rfl) (jo_pure rfl (pr_move rfl) ?_)
  refine jo_callp cal_21 (c_ref10_Name ((k : Nat) : Int)) ⟨rfl, trivial⟩ rfl (trivial) (fun _ => ?_)
  refine jo_callp cal_20 (c_ref01_Fold name (nameK ((k : Nat) : Int)) (by first | omega | (have := nameK_length ((k : Nat) : Int); omega)) (by first | omega | (have := nameK_length ((k : Nat) : Int); omega))) ⟨rfl, rfl, trivial⟩ rfl (trivial) (fun _ => ?_)
  refine jo_nil (jq_then ?_)
  refine jc_cond rfl (fun h2b => ?_) (fun h2b => ?_)
  ·have h2 := id h2b
   refine jc_seq (jc_region (jo_pure rfl (pr_move rfl) (jo_pure rfl (pr_assign rfl) (jo_nil (jq_then ?_)))))
   refine jc_ret (jq_in_ret ?_)
   refine jq_then_ret (jq_then_ret (jq_in_ret ?_))
   refine jq_then_ret ?_
   exact jq_ret1 rfl () rfl (show (.int .i64 (kindF name) : Value) = (.int .i64 ((k : Nat) : Int)) from congrArg (Value.int .i64) (by rw [kindF_hit hinv.1 (by omega) hinv.2.2 (by simpa using h2b)])) (fun _ h => h)
  ·have h2 := id h2b
   refine jc_skip (jq_in_normal (jq_then (jc_region (jo_pure rfl (pr_move rfl) (jo_pure rfl (pr_addN (m := k) (n := 1) rfl rfl (by omega)) ?_)))))
   refine jo_pure rfl (pr_assign rfl) (jo_nil ?_)
   refine jq_round' (k + 1) (by (try dsimp only); exact (⟨by omega, by omega, fun j a b => by rcases Nat.lt_or_ge j k with q | q; exact hinv.2.2 j a q; have e : j = k := (by omega); rw [e]; simpa using h2b⟩)) (by (try dsimp only); exact (by omega)) ⟨rfl, rfl, trivial⟩ (fun _ h => h)
 ·have h1 := of_decide_eq_false h1b
  refine jc_exit ?_
  refine jq_then_exit ?_
  refine jq_then_exit ?_
  refine jq_in_hit ?_
  refine jq_then (jc_seq (jc_region (jo_pure rfl (pr_assign rfl) (jo_nil (jq_then ?_)))))
  refine jc_ret ?_
  exact jq_ret1 rfl () rfl (show (.int .i64 (kindF name) : Value) = (.int .i64 ((0 : Nat) : Int)) from congrArg (Value.int .i64) (by rw [kindF_none (by omega) hinv.2.2]; rfl)) (fun _ h => h)

theorem c_accept_pref_1 (p : (List UInt8) × (List UInt8))  : Con Tryz.prog 58 #[.agg #[str (p.1), str (p.2)]] [] (fun _ : Unit => .bool (decide (p.1 = [113]))) (fun _ => []) := by
 refine con_of_J (args := [.agg #[str (p.1), str (p.2)]]) (n := 6) Tryz.func58 rfl (Nat.le_of_ble_eq_true rfl) rfl (fun w0 I0 m0 => ?_)
 show J _ [(0, .agg #[str (p.1), str (p.2)])] [] _
 refine jc_seq (jc_region ?_)
 refine jo_box rfl [str (p.1), str (p.2)] rfl rfl (fun b1 => ?_)
 refine jo_pure rfl (pr_assign rfl) (jo_nil (jq_then (jc_seq (jc_region (jo_pure rfl (pr_fieldAddr 0 rfl Tryz.underlying81 rfl ty_9 rfl rfl) ?_)))))
 refine jo_pure rfl (pr_load_box (str (p.1)) rfl ty_9 (.head _) rfl (by decide) rfl) ?_
 refine jo_pure rfl (pr_seql rfl rfl) ?_
 refine jo_pure rfl (pr_assign rfl) (jo_nil (jq_then (jc_ret (j_drop ?_))))
 exact jq_ret1 rfl () rfl (show (.bool (decide (p.1 = [113])) : Value) = (.bool (decide ((p.1 : List UInt8) = [113]))) from rfl) (fun _ h => h)

theorem c_indexFunc (l : List ((List UInt8) × (List UInt8))) (lv : Value) (hl : l.length ≤ 1000000) : Con Tryz.prog 57 #[lv, .func (.func 58) #[] #[]] [.imm (.list (.pair .str .str)) (lv) (l)] (fun _ : Unit => .int .i64 (idxQ l)) (fun _ => []) := by
 refine con_of_J (args := [lv, .func (.func 58) #[] #[]]) (n := 19) Tryz.func57 rfl (Nat.le_of_ble_eq_true rfl) rfl (fun w0 I0 m0 => ?_)
 show J _ [(0, lv), (1, .func (.func 58) #[] #[])] [.imm (.list (.pair .str .str)) (lv) (l)] _
 refine jc_seq (jc_region (jo_pure rfl (pr_assign rfl) (jo_nil (jq_then (jc_seq ?_)))))
 refine jc_seq (jc_region (jo_pure rfl (pr_move rfl) (jo_pure rfl (pr_len_imm rfl (.head _) Tryz.underlying62) ?_)))
 refine jo_pure rfl (pr_move rfl) (jo_nil (jq_then (jc_block ?_)))
 refine jc_loop (fun (i : Nat) => [(0, lv), (1, .func (.func 58) #[] #[]), (7, .int .i64 ((l.length : Nat) : Int)), (8, .int .i64 ((i : Nat) : Int))]) (fun (i : Nat) => [.imm (.list (.pair .str .str)) (lv) (l)]) (fun (i : Nat) => i ≤ l.length ∧ i + qAt (l.drop i) = qAt l) (fun (i : Nat) => l.length - i) 0 (⟨Nat.zero_le _, by rw [List.drop_zero, Nat.zero_add]⟩) (⟨rfl, rfl, rfl, rfl, trivial⟩) (fun _ h => h) (fun i hinv => ?_)
 refine jc_seq (jc_region (jo_pure rfl (pr_lssN (m := i) (n := l.length) rfl rfl) ?_))
 refine jo_nil (jq_then (jc_seq ?_))
 refine jc_cond rfl (fun h1b => ?_) (fun h1b => ?_)
 ·have h1 := of_decide_eq_true h1b
  refine jc_skip (jq_then (jc_seq (jc_block (jc_seq (jc_region ?_)))))
  refine jo_pure rfl (pr_move rfl) (jo_pure rfl (pr_assign rfl) (jo_nil (jq_then (jc_seq (jc_region ?_)))))
  refine jo_pure rfl (pr_move rfl) (jo_pure rfl (pr_move rfl) (jo_pure rfl (pr_move rfl) (jo_pure rfl (pr_idx_imm (i := i) rfl (.head _) rfl Tryz.underlying62 ty_81 (by omega)) ?_)))
  refine jo_pure rfl (pr_load_elem_imm (i := i) (.agg #[str ((l.getD i ([], [])).1), str ((l.getD i ([], [])).2)]) rfl (.head _) ty_81 rfl rfl (by omega) rfl) ?_
  refine jo_callvp (fi := []) (vs := [.agg #[str ((l.getD i ([], [])).1), str ((l.getD i ([], [])).2)]]) (ca := []) rfl cal_58 (c_accept_pref_1 (l.getD i ([], []))) ⟨rfl, trivial⟩ rfl (trivial) (fun _ => ?_)
  refine jo_nil (jq_then ?_)
  refine jc_cond rfl (fun h2b => ?_) (fun h2b => ?_)
  ·have h2 := id h2b
   refine jc_seq (jc_region (jo_pure rfl (pr_move rfl) (jo_pure rfl (pr_assign rfl) (jo_nil (jq_then ?_)))))
   refine jc_ret (jq_in_ret ?_)
   refine jq_then_ret (jq_then_ret (jq_in_ret ?_))
   refine jq_then_ret (j_drop ?_)
   exact jq_ret1 rfl () rfl (show (.int .i64 (idxQ l) : Value) = (.int .i64 ((i : Nat) : Int)) from congrArg (Value.int .i64) (by have e := qAt_hit h1 (of_decide_eq_true h2) hinv.2; rw [idxQ_found (by omega), e])) (fun _ h => h)
  ·have h2 := id h2b
   refine jc_skip (jq_in_normal (jq_then (jc_region (jo_pure rfl (pr_addN (m := i) (n := 1) rfl rfl (by omega)) ?_))))
   refine jo_pure rfl (pr_move rfl) (jo_nil ?_)
   refine jq_round' (i + 1) (by (try dsimp only); exact (⟨by omega, qAt_miss h1 (of_decide_eq_false h2) hinv.2⟩)) (by (try dsimp only); exact (by omega)) ⟨rfl, rfl, rfl, rfl, trivial⟩ (fun _ h => h)
 ·have h1 := of_decide_eq_false h1b
  refine jc_exit ?_
  refine jq_then_exit ?_
  refine jq_then_exit ?_
  refine jq_in_hit ?_
  refine jq_then (jc_seq (jc_region (jo_pure rfl (pr_assign rfl) (jo_nil (jq_then ?_)))))
  refine jc_ret (j_drop ?_)
  exact jq_ret1 rfl () rfl (show (.int .i64 (idxQ l) : Value) = (.int .i64 (-1)) from congrArg (Value.int .i64) (by rw [idxQ_none (qAt_end (by omega) hinv.2)])) (fun _ h => h)

theorem c_accept_ranged_1 (value : List UInt8) (valueb : Nat) (ps : List ((List UInt8) × (List UInt8))) (psv : Value) (psb : Nat) (hv : value.length ≤ 300000) (hl : ps.length ≤ 1000000) (hm : ∀ x ∈ ps, x.1.length ≤ 1000000 ∧ x.2.length ≤ 1000000) : Con Tryz.prog 88 #[.pointer (some ⟨valueb, 0, none⟩), .pointer (some ⟨psb, 0, none⟩)] [.ibox valueb 9 [str (value)], .imm (.list (.pair .str .str)) (psv) (ps), .ibox psb 62 [psv]] (fun _ : Unit => .tuple #[str (formatT ((parseR value).1.1, (parseR value).1.2.1, ps)), .bool ((parseR value).2)]) (fun _ => []) := by
 refine con_of_J (args := [.pointer (some ⟨valueb, 0, none⟩), .pointer (some ⟨psb, 0, none⟩)]) (n := 16) Tryz.func88 rfl (Nat.le_of_ble_eq_true rfl) rfl (fun w0 I0 m0 => ?_)
 show J _ [(0, .pointer (some ⟨valueb, 0, none⟩)), (1, .pointer (some ⟨psb, 0, none⟩))] [.ibox valueb 9 [str (value)], .imm (.list (.pair .str .str)) (psv) (ps), .ibox psb 62 [psv]] _
 refine jc_seq (jc_region (jo_pure rfl (pr_assign rfl) (jo_pure rfl (pr_assign rfl) (jo_nil (jq_then ?_)))))
 refine jc_seq (jc_region (jo_pure rfl (pr_load_ibox (str (value)) rfl ty_9 (.head _) rfl (by decide) rfl) ?_))
 refine jo_callp cal_62 (c_mediatype_ParseRange value (by first | omega | exact hm | (have := parseR_len value; dsimp only; omega))) ⟨rfl, trivial⟩ rfl (trivial) (fun r1 => ?_)
 show J _ _ [.row (r1) 81 (.pair .str .str) ((parseR value).1.2.2), .ibox valueb 9 [str (value)], .imm (.list (.pair .str .str)) (psv) (ps), .ibox psb 62 [psv]] _
 refine jo_pure rfl (pr_move rfl) (jo_pure rfl (pr_extract rfl rfl) ?_)
 refine jo_pure rfl (pr_extract rfl rfl) ?_
 refine jo_alloc ty_64 [str ([]), str ([]), .slice none 0 0] rfl rfl (fun b1 => ?_)
 refine jo_storeV rfl rfl ty_64 [str ((parseR value).1.1), str ((parseR value).1.2.1), r1] (fun _ _ _ _ => rfl) rfl (fun w I m hs => by simp only [List.all_cons, List.all_nil, Bool.and_true, Bool.and_eq_true]; exact ⟨rfl, rfl, (SliceV.one (row_slice (.tail _ (.head _)) hs))⟩) [str ((parseR value).1.1), str ((parseR value).1.2.1), r1] rfl rfl ?_
 refine jo_pure rfl (pr_assign rfl) (jo_nil (jq_then (jc_seq (jc_region (jo_pure rfl (pr_load_ibox (psv) rfl ty_62 (.tail _ (.tail _ (.tail _ (.tail _ (.head _))))) rfl (by decide) rfl) ?_)))))
 refine jo_pure rfl (pr_fieldAddr 2 rfl Tryz.underlying64 rfl ty_62 rfl rfl) ?_
 refine jo_storeV rfl rfl ty_62 [psv] (fun w I m hs => (SliceV.cells (imm_slice (.tail _ (.tail _ (.tail _ (.head _)))) hs))) rfl (fun w I m hs => by simp only [List.all_cons, List.all_nil, Bool.and_true, Bool.and_eq_true]; exact (SliceV.one (imm_slice (.tail _ (.tail _ (.tail _ (.head _)))) hs))) [str ((parseR value).1.1), str ((parseR value).1.2.1), psv] rfl rfl ?_
 refine jo_nil (jq_then (jc_seq (jc_region (jo_pure rfl (pr_load_box (.agg #[str ((parseR value).1.1), str ((parseR value).1.2.1), psv]) rfl ty_64 (.head _) rfl (by decide) rfl) ?_))))
 have con1 := c_mediatype_Format ((parseR value).1.1, ((parseR value).1.2.1, ps)) psv (by first | omega | exact hm | (have := parseR_len value; dsimp only; omega)) (by first | omega | exact hm | (have := parseR_len value; dsimp only; omega)) (by first | omega | exact hm | (have := parseR_len value; dsimp only; omega)) (by first | omega | exact hm | (have := parseR_len value; dsimp only; omega))
 refine jo_callp cal_89 con1 (by exact ⟨rfl, trivial⟩) rfl (by exact ⟨⟨rfl, .tail _ (.tail _ (.tail _ (.head _)))⟩, trivial⟩) (fun _ => ?_)
 clear con1
 refine jo_pure rfl (pr_move rfl) (jo_pure rfl (pr_assign rfl) (jo_pure rfl (pr_assign rfl) (jo_nil (jq_then (jc_ret ?_)))))
 refine j_drop (j_drop (j_drop (j_drop (j_drop ?_))))
 exact jq_rets (rs := [.tmp 2, .tmp 3]) (vs := [str (formatT ((parseR value).1.1, ((parseR value).1.2.1, ps))), .bool ((parseR value).2)]) rfl () ⟨resV_tmp rfl, resV_tmp rfl, trivial⟩ rfl (show (.tuple #[str (formatT ((parseR value).1.1, (parseR value).1.2.1, ps)), .bool ((parseR value).2)] : Value) = (.tuple #[str (formatT ((parseR value).1.1, ((parseR value).1.2.1, ps))), .bool ((parseR value).2)]) from rfl) (fun _ h => h)

theorem c_accept_ranged_2 (kind : Int) (kindb : Nat) (value : List UInt8) (valueb : Nat) (ps : List ((List UInt8) × (List UInt8))) (psv : Value) (psb : Nat) (hv : value.length ≤ 300000) : Con Tryz.prog 90 #[.pointer (some ⟨kindb, 0, none⟩), .pointer (some ⟨valueb, 0, none⟩), .pointer (some ⟨psb, 0, none⟩)] [.ibox kindb 3 [.int .i64 (kind)], .ibox valueb 9 [str (value)], .imm (.list (.pair .str .str)) (psv) (ps), .ibox psb 62 [psv]] (fun _ : Unit => .tuple #[str (canonical kind value), .bool (rangeL value && decide (ps.length = 0))]) (fun _ => []) := by
 refine con_of_J (args := [.pointer (some ⟨kindb, 0, none⟩), .pointer (some ⟨valueb, 0, none⟩), .pointer (some ⟨psb, 0, none⟩)]) (n := 15) Tryz.func90 rfl (Nat.le_of_ble_eq_true rfl) rfl (fun w0 I0 m0 => ?_)
 show J _ [(0, .pointer (some ⟨kindb, 0, none⟩)), (1, .pointer (some ⟨valueb, 0, none⟩)), (2, .pointer (some ⟨psb, 0, none⟩))] [.ibox kindb 3 [.int .i64 (kind)], .ibox valueb 9 [str (value)], .imm (.list (.pair .str .str)) (psv) (ps), .ibox psb 62 [psv]] _
 refine jc_seq (jc_region (jo_pure rfl (pr_assign rfl) (jo_pure rfl (pr_assign rfl) (jo_nil (jq_then ?_)))))
 refine jc_seq (jc_draws mixed (by kernel_rfl) (jd_pure rfl (pr_load_ibox (.int .i64 (kind)) rfl ty_3 (.head _) rfl (by decide) rfl) ?_))
 refine jd_pure rfl (pr_load_ibox (str (value)) rfl ty_9 (.tail _ (.head _)) rfl (by decide) rfl) ?_
 refine jd_callp cal_91 (c_coding_Canonical kind value (by omega)) ⟨rfl, rfl, trivial⟩ rfl (trivial) ?_
 refine jd_pure rfl (pr_load_ibox (str (value)) rfl ty_9 (.tail _ (.head _)) rfl (by decide) rfl) ?_
 refine jd_callp cal_92 (c_language_Range value (by omega)) ⟨rfl, trivial⟩ rfl (trivial) ?_
 refine jd_pure rfl (pr_move rfl) ?_
 refine jd_gpure (j := 5) (want := true) rfl rfl rfl rfl (fun hg => pr_load_ibox (psv) rfl ty_62 (.tail _ (.tail _ (.tail _ (.head _)))) rfl (by decide) rfl) ?_
 refine jd_gpure (j := 5) (want := true) rfl rfl rfl rfl (fun hg => pr_len_imm (evg rfl hg) (.tail _ (.tail _ (.head _))) Tryz.underlying62) ?_
 refine jd_gpure (j := 5) (want := true) rfl rfl rfl rfl (fun hg => pr_eqlN (m := ps.length) (n := 0) (evg rfl hg) rfl) ?_
 refine jd_pure rfl (pr_pick_and rfl rfl rfl) ?_
 refine jd_pure rfl (pr_assign rfl) ?_
 refine jd_pure rfl (pr_assign rfl) ?_
 refine jd_nil ?_
 refine jq_then (jc_ret (j_drop (j_drop (j_drop (j_drop ?_)))))
 exact jq_rets (rs := [.tmp 3, .tmp 4]) (vs := [str (canonical kind value), .bool ((rangeL value && decide ((ps.length : Nat) = 0)))]) rfl () ⟨resV_tmp rfl, resV_tmp rfl, trivial⟩ rfl (show (.tuple #[str (canonical kind value), .bool (rangeL value && decide (ps.length = 0))] : Value) = (.tuple #[str (canonical kind value), .bool ((rangeL value && decide ((ps.length : Nat) = 0)))]) from rfl) (fun _ h => h)

theorem c_accept_ranged (kind : Int) (value : List UInt8) (ps : List ((List UInt8) × (List UInt8))) (psv : Value) (hv : value.length ≤ 300000) (hl : ps.length ≤ 1000000) (hm : ∀ x ∈ ps, x.1.length ≤ 1000000 ∧ x.2.length ≤ 1000000) : Con Tryz.prog 60 #[.int .i64 (kind), str (value), psv] [.imm (.list (.pair .str .str)) (psv) (ps)] (fun _ : Unit => .tuple #[str ((rangedF kind value ps).1), .bool ((rangedF kind value ps).2)]) (fun _ => []) := by
 refine con_of_J (args := [.int .i64 (kind), str (value), psv]) (n := 36) Tryz.func60 rfl (Nat.le_of_ble_eq_true rfl) rfl (fun w0 I0 m0 => ?_)
 show J _ [(0, .int .i64 (kind)), (1, str (value)), (2, psv)] [.imm (.list (.pair .str .str)) (psv) (ps)] _
 refine jc_seq (jc_region ?_)
 refine jo_box rfl [.int .i64 (kind)] rfl rfl (fun b1 => ?_)
 refine jo_box rfl [str (value)] rfl rfl (fun b2 => ?_)
 refine jo_boxV rfl [psv] (fun w I m hs => SliceV.cells (imm_slice (.tail _ (.tail _ (.head _))) hs)) rfl (fun b3 => ?_)
 refine jo_pure rfl (pr_assign rfl) (jo_pure rfl (pr_assign rfl) (jo_nil (jq_then (jc_seq (jc_region ?_)))))
 refine jo_makeMap rfl (fun m1 => ?_)
 refine jo_pure rfl (pr_makeFunc (fs := #[]) (cs := #[.pointer (some ⟨b2, 0, none⟩), .pointer (some ⟨b3, 0, none⟩)]) (fun a hf => by simp) (fun a hf => by simp only [List.map_toArray, List.map_cons, List.map_nil, hf.ev (show ev _ (.tmp 4) = some (.pointer (some ⟨b2, 0, none⟩)) from rfl), hf.ev (show ev _ (.tmp 5) = some (.pointer (some ⟨b3, 0, none⟩)) from rfl)])) ?_
 refine jo_insert (k := .i64) (kv := .int .i64 ((1 : Nat) : Int)) (vv := .func (.func 88) #[] #[.pointer (some ⟨b2, 0, none⟩), .pointer (some ⟨b3, 0, none⟩)]) rfl rfl rfl Tryz.underlying113 Tryz.underlying3 (.inl rfl) (by simp [Instr.findNow, Instr.sameNow]) ?_
 refine jo_pure rfl (pr_makeFunc (fs := #[]) (cs := #[.pointer (some ⟨b1, 0, none⟩), .pointer (some ⟨b2, 0, none⟩), .pointer (some ⟨b3, 0, none⟩)]) (fun a hf => by simp) (fun a hf => by simp only [List.map_toArray, List.map_cons, List.map_nil, hf.ev (show ev _ (.tmp 3) = some (.pointer (some ⟨b1, 0, none⟩)) from rfl), hf.ev (show ev _ (.tmp 4) = some (.pointer (some ⟨b2, 0, none⟩)) from rfl), hf.ev (show ev _ (.tmp 5) = some (.pointer (some ⟨b3, 0, none⟩)) from rfl)])) ?_
 refine jo_insert (k := .i64) (kv := .int .i64 ((2 : Nat) : Int)) (vv := .func (.func 90) #[] #[.pointer (some ⟨b1, 0, none⟩), .pointer (some ⟨b2, 0, none⟩), .pointer (some ⟨b3, 0, none⟩)]) rfl rfl rfl Tryz.underlying113 Tryz.underlying3 (.inl rfl) (by simp [Instr.findNow, Instr.sameNow]) ?_
 refine jo_pure rfl (pr_move rfl) (jo_pure rfl (pr_assign rfl) (jo_nil (jq_then (jc_seq (jc_seq ?_)))))
 by_cases hk1 : kind = 1
 ·skip
  refine jc_region (jo_pure rfl (pr_move rfl) (jo_pure rfl (pr_load_box (.int .i64 (kind)) rfl ty_3 (.tail _ (.tail _ (.tail _ (.head _)))) rfl (by decide) rfl) ?_))
  refine jo_pure rfl (pr_lookup_hit (i := 0) (k := .i64) rfl rfl (.head _) Tryz.underlying113 Tryz.underlying3 (.inl rfl) (by first | (subst hk1; rfl) | (subst hk2; rfl) | (have e1 : (kind == 1) = false := beq_false_of_ne hk1; have e2 : (kind == 2) = false := beq_false_of_ne hk2; simp [Instr.findNow, Instr.sameNow, e1, e2]))) ?_
  refine jo_pure rfl (pr_move rfl) (jo_pure rfl (pr_extract rfl rfl) ?_)
  refine jo_pure rfl (pr_extract rfl rfl) ?_
  refine jo_pure rfl (pr_assign rfl) (jo_pure rfl (pr_assign rfl) (jo_nil (jq_then (jc_seq (jc_region ?_)))))
  refine jo_pure rfl (pr_move rfl) (jo_nil (jq_then (jc_true rfl (rfl) ?_)))
  refine jc_seq (jc_region (jo_pure rfl (pr_move rfl) (j_pull2 (j_pub_box ?_))))
  refine j_pull2 (j_pub_box ?_)
  refine jo_callvp (fi := []) (vs := []) (ca := [.pointer (some ⟨b2, 0, none⟩), .pointer (some ⟨b3, 0, none⟩)]) rfl cal_88 (c_accept_ranged_1 value b2 ps psv b3 (by first | omega | exact hm) (by first | omega | exact hm) (by first | omega | exact hm)) trivial rfl (⟨⟨rfl, .tail _ (.head _)⟩, ⟨⟨rfl, .tail _ (.tail _ (.tail _ (.tail _ (.head _))))⟩, ⟨⟨rfl, .head _⟩, trivial⟩⟩⟩) (fun _ => ?_)
  refine jo_pure rfl (pr_extract rfl rfl) ?_
  refine jo_pure rfl (pr_extract rfl rfl) ?_
  refine jo_pure rfl (pr_assign rfl) (jo_pure rfl (pr_assign rfl) (jo_nil (jq_then (jc_ret (jq_then_ret ?_)))))
  refine j_drop (j_drop (j_drop (j_drop (j_drop ?_))))
  exact jq_rets (rs := [.tmp 6, .tmp 7]) (vs := [str (formatT ((parseR value).1.1, (parseR value).1.2.1, ps)), .bool ((parseR value).2)]) rfl () ⟨resV_tmp rfl, resV_tmp rfl, trivial⟩ rfl (show (.tuple #[str ((rangedF kind value ps).1), .bool ((rangedF kind value ps).2)] : Value) = (.tuple #[str (formatT ((parseR value).1.1, (parseR value).1.2.1, ps)), .bool ((parseR value).2)]) from by simp [rangedF, *]) (fun _ h => h)
 ·skip
  by_cases hk2 : kind = 2
  ·skip
   refine jc_region (jo_pure rfl (pr_move rfl) (jo_pure rfl (pr_load_box (.int .i64 (kind)) rfl ty_3 (.tail _ (.tail _ (.tail _ (.head _)))) rfl (by decide) rfl) ?_))
   refine jo_pure rfl (pr_lookup_hit (i := 1) (k := .i64) rfl rfl (.head _) Tryz.underlying113 Tryz.underlying3 (.inl rfl) (by first | (subst hk1; rfl) | (subst hk2; rfl) | (have e1 : (kind == 1) = false := beq_false_of_ne hk1; have e2 : (kind == 2) = false := beq_false_of_ne hk2; simp [Instr.findNow, Instr.sameNow, e1, e2]))) ?_
   refine jo_pure rfl (pr_move rfl) (jo_pure rfl (pr_extract rfl rfl) ?_)
   refine jo_pure rfl (pr_extract rfl rfl) ?_
   refine jo_pure rfl (pr_assign rfl) (jo_pure rfl (pr_assign rfl) (jo_nil (jq_then (jc_seq (jc_region ?_)))))
   refine jo_pure rfl (pr_move rfl) (jo_nil (jq_then (jc_true rfl (rfl) ?_)))
   refine jc_seq (jc_region (jo_pure rfl (pr_move rfl) (j_pull3 (j_pub_box ?_))))
   refine j_pull3 (j_pub_box ?_)
   refine j_pull3 (j_pub_box ?_)
   refine jo_callvp (fi := []) (vs := []) (ca := [.pointer (some ⟨b1, 0, none⟩), .pointer (some ⟨b2, 0, none⟩), .pointer (some ⟨b3, 0, none⟩)]) rfl cal_90 (c_accept_ranged_2 kind b1 value b2 ps psv b3 (by first | omega | exact hm)) trivial rfl (⟨⟨rfl, .tail _ (.tail _ (.head _))⟩, ⟨⟨rfl, .tail _ (.head _)⟩, ⟨⟨rfl, .tail _ (.tail _ (.tail _ (.tail _ (.head _))))⟩, ⟨⟨rfl, .head _⟩, trivial⟩⟩⟩⟩) (fun _ => ?_)
   refine jo_pure rfl (pr_extract rfl rfl) ?_
   refine jo_pure rfl (pr_extract rfl rfl) ?_
   refine jo_pure rfl (pr_assign rfl) (jo_pure rfl (pr_assign rfl) (jo_nil (jq_then (jc_ret (jq_then_ret ?_)))))
   refine j_drop (j_drop (j_drop (j_drop (j_drop ?_))))
   exact jq_rets (rs := [.tmp 6, .tmp 7]) (vs := [str (canonical kind value), .bool (rangeL value && decide (ps.length = 0))]) rfl () ⟨resV_tmp rfl, resV_tmp rfl, trivial⟩ rfl (show (.tuple #[str ((rangedF kind value ps).1), .bool ((rangedF kind value ps).2)] : Value) = (.tuple #[str (canonical kind value), .bool (rangeL value && decide (ps.length = 0))]) from by simp [rangedF, *]) (fun _ h => h)
  ·skip
   refine jc_region (jo_pure rfl (pr_move rfl) (jo_pure rfl (pr_load_box (.int .i64 (kind)) rfl ty_3 (.tail _ (.tail _ (.tail _ (.head _)))) rfl (by decide) rfl) ?_))
   refine jo_pure rfl (pr_lookup_miss (k := .i64) rfl rfl (.head _) Tryz.underlying113 Tryz.underlying3 (.inl rfl) ty_112 (by first | (subst hk1; rfl) | (subst hk2; rfl) | (have e1 : (kind == 1) = false := beq_false_of_ne hk1; have e2 : (kind == 2) = false := beq_false_of_ne hk2; simp [Instr.findNow, Instr.sameNow, e1, e2]))) ?_
   refine jo_pure rfl (pr_move rfl) (jo_pure rfl (pr_extract rfl rfl) ?_)
   refine jo_pure rfl (pr_extract rfl rfl) ?_
   refine jo_pure rfl (pr_assign rfl) (jo_pure rfl (pr_assign rfl) (jo_nil (jq_then (jc_seq (jc_region ?_)))))
   refine jo_pure rfl (pr_move rfl) (jo_nil (jq_then (jc_false rfl (rfl) ?_)))
   refine jc_skip (jq_then (jc_seq (jc_draws mixed (by kernel_rfl) (jd_pure rfl (pr_load_box (.int .i64 (kind)) rfl ty_3 (.tail _ (.tail _ (.tail _ (.head _)))) rfl (by decide) rfl) ?_))))
   refine jd_pure rfl (pr_load_box (str (value)) rfl ty_9 (.tail _ (.tail _ (.head _))) rfl (by decide) rfl) ?_
   refine jd_callp cal_91 (c_coding_Canonical kind value (by first | omega | exact hm)) ⟨rfl, rfl, trivial⟩ rfl (trivial) ?_
   refine jd_pure rfl (pr_load_box (str (value)) rfl ty_9 (.tail _ (.tail _ (.head _))) rfl (by decide) rfl) ?_
   refine jd_callp cal_37 (c_ascii_Token value (by first | omega | exact hm)) ⟨rfl, trivial⟩ rfl (trivial) ?_
   refine jd_pure rfl (pr_move rfl) ?_
   refine jd_gpure (j := 5) (want := true) rfl rfl rfl rfl (fun hg => pr_load_box (psv) rfl ty_62 (.tail _ (.head _)) rfl (by decide) rfl) ?_
   refine jd_gpure (j := 5) (want := true) rfl rfl rfl rfl (fun hg => pr_len_imm (evg rfl hg) (.tail _ (.tail _ (.tail _ (.tail _ (.head _))))) Tryz.underlying62) ?_
   refine jd_gpure (j := 5) (want := true) rfl rfl rfl rfl (fun hg => pr_eqlN (m := ps.length) (n := 0) (evg rfl hg) rfl) ?_
   refine jd_pure rfl (pr_pick_and rfl rfl rfl) ?_
   refine jd_pure rfl (pr_assign rfl) ?_
   refine jd_pure rfl (pr_assign rfl) ?_
   refine jd_nil ?_
   refine jq_then (jc_ret (j_drop (j_drop (j_drop (j_drop ?_)))))
   refine j_drop ?_
   exact jq_rets (rs := [.tmp 6, .tmp 7]) (vs := [str (canonical kind value), .bool ((token value && decide ((ps.length : Nat) = 0)))]) rfl () ⟨resV_tmp rfl, resV_tmp rfl, trivial⟩ rfl (show (.tuple #[str ((rangedF kind value ps).1), .bool ((rangedF kind value ps).2)] : Value) = (.tuple #[str (canonical kind value), .bool ((token value && decide ((ps.length : Nat) = 0)))]) from by simp [rangedF, *]) (fun _ h => h)

theorem c_accept_pref (kind : Int) (s : List UInt8) (hs : s.length ≤ 300000) : Con Tryz.prog 31 #[.int .i64 (kind), str (s)] [] (fun _ : Unit => .tuple #[.agg #[str ((prefF kind s).1.1), .int .i64 ((prefF kind s).1.2)], .bool ((prefF kind s).2)]) (fun _ => []) := by
 refine con_of_J (args := [.int .i64 (kind), str (s)]) (n := 51) Tryz.func31 rfl (Nat.le_of_ble_eq_true rfl) rfl (fun w0 I0 m0 => ?_)
 show J _ [(0, .int .i64 (kind)), (1, str (s))] [] _
 refine jc_seq (jc_region ?_)
 refine jo_alloc ty_47 [str ([]), .int .i64 ((0 : Nat) : Int)] rfl rfl (fun b1 => ?_)
 refine jo_pure rfl (pr_assign rfl) (jo_nil (jq_then (jc_seq (jc_region (jo_pure rfl (pr_move rfl) ?_)))))
 refine jo_callp cal_56 (c_param_Parse s (by first | omega | exact hxm | exact hxl | exact hxt | exact hxq | (simp only [List.length_drop, List.length_take]; omega))) ⟨rfl, trivial⟩ rfl (trivial) (fun r1 => ?_)
 show J _ _ [.row (r1) 81 (.pair .str .str) ((parseP s).2.1), .box b1 47 [str ([]), .int .i64 ((0 : Nat) : Int)]] _
 refine jo_pure rfl (pr_move rfl) (jo_pure rfl (pr_extract rfl rfl) ?_)
 refine jo_pure rfl (pr_extract rfl rfl) ?_
 refine jo_pure rfl (pr_extract rfl rfl) ?_
 refine jo_pure rfl (pr_assign rfl) (jo_pure rfl (pr_assign rfl) (jo_pure rfl (pr_assign rfl) (jo_nil (jq_then (jc_seq ?_)))))
 refine jc_seq (jc_region (jo_pure rfl (pr_move rfl) (jo_pure rfl (pr_not rfl) ?_)))
 refine jo_nil (jq_then ?_)
 refine jc_cond rfl (fun h1b => ?_) (fun h1b => ?_)
 ·have h1 := (fun q => id (bt_not q)) h1b
  refine jc_seq (jc_region (jo_pure rfl (pr_build [] [str ([]), .int .i64 ((0 : Nat) : Int)] (fun a hf => by simp) (by kernel_rfl)) ?_))
  refine j_pull1 (jo_store rfl rfl ty_47 [str ([]), .int .i64 ((0 : Nat) : Int)] rfl rfl rfl [str ([]), .int .i64 ((0 : Nat) : Int)] rfl rfl ?_)
  refine jo_pure rfl (pr_assign rfl) (jo_nil (jq_then (jc_ret (jq_then_ret (j_pull1 ?_)))))
  refine j_drop ?_
  exact jq_rets (rs := [.cell 4 47, .tmp 5]) (vs := [.agg #[str ([]), .int .i64 ((0 : Nat) : Int)], .bool (false)]) rfl () ⟨resV_box (.agg #[str ([]), .int .i64 ((0 : Nat) : Int)]) rfl ty_47 (.head _) rfl (by decide) rfl, resV_tmp rfl, trivial⟩ rfl (show (.tuple #[.agg #[str ((prefF kind s).1.1), .int .i64 ((prefF kind s).1.2)], .bool ((prefF kind s).2)] : Value) = (.tuple #[.agg #[str ([]), .int .i64 ((0 : Nat) : Int)], .bool (false)]) from by rw [pref_bad h1] <;> rfl) (fun w h => (fun h => h) (Mem.front (As := []) h))
 ·have h1 := (fun q => id (bf_not q)) h1b
  have hpl := parseP_len1 s
  have hxl := parseP_length s
  have hxm : ∀ x ∈ (parseP s).2.1, x.1.length ≤ 1000000 ∧ x.2.length ≤ 1000000 := fun x hx => by have := parseP_mem s x hx; omega
  have hxt : ∀ x ∈ ((parseP s).2.1.take (qAt (parseP s).2.1)).drop 0, x.1.length ≤ 1000000 ∧ x.2.length ≤ 1000000 := fun x hx => hxm x (List.mem_of_mem_take (List.mem_of_mem_drop hx))
  have hxq : (qAt (parseP s).2.1) < ((parseP s).2.1).length → ((parseP s).2.1.getD (qAt (parseP s).2.1) ([], [])).2.length ≤ 1000000 := fun h => (hxm _ (getD_mem h)).2
  refine jc_skip (jq_then (jc_seq (jc_region (jo_pure rfl (pr_assign rfl) (jo_nil ?_)))))
  refine jq_then (jc_seq (jc_seq (jc_region (jo_pure rfl (pr_move rfl) (j_pub_row ?_)))))
  refine jo_callp cal_57 (c_indexFunc ((parseP s).2.1) r1 (by first | omega | exact hxm | exact hxl | exact hxt | exact hxq | (simp only [List.length_drop, List.length_take]; omega))) ⟨rfl, rfl, trivial⟩ rfl (⟨⟨rfl, .head _⟩, trivial⟩) (fun _ => ?_)
  refine jo_pure rfl (pr_assign rfl) (jo_nil (jq_then (jc_seq ?_)))
  by_cases hc : (qAt (parseP s).2.1) < ((parseP s).2.1).length
  ·skip
   have hxq := hxq hc
   rw [show (idxQ ((parseP s).2.1) : Int) = ((qAt (parseP s).2.1 : Nat) : Int) from idxQ_found hc]
   refine jc_region (jo_pure rfl (pr_move rfl) (jo_pure rfl (pr_geqN (m := qAt (parseP s).2.1) (n := 0) rfl rfl) ?_))
   refine jo_nil (jq_then (jc_true rfl (by simp) ?_))
   refine jc_seq (jc_seq (jc_region (jo_pure rfl (pr_move rfl) (jo_pure rfl (pr_move rfl) (jo_pure rfl (pr_idx_imm (i := qAt (parseP s).2.1) rfl (.head _) rfl Tryz.underlying62 ty_81 (by omega)) ?_)))))
   refine jo_pure rfl (pr_fieldAddr_imm (i := qAt (parseP s).2.1) rfl (.head _) Tryz.underlying81 rfl ty_9 rfl rfl (by omega)) ?_
   refine jo_pure rfl (pr_load_off_imm (i := qAt (parseP s).2.1) (o := 1) (dd := ([], [])) (str ((((parseP s).2.1).getD (qAt (parseP s).2.1) ([], [])).2)) rfl (.head _) ty_9 rfl (by decide) rfl (by omega) rfl) ?_
   refine jo_callp cal_59 (c_qvalue_Parse ((((parseP s).2.1).getD (qAt (parseP s).2.1) ([], [])).2) (by first | omega | exact hxm | exact hxl | exact hxt | exact hxq | (simp only [List.length_drop, List.length_take]; omega))) ⟨rfl, trivial⟩ rfl (trivial) (fun _ => ?_)
   refine jo_pure rfl (pr_move rfl) (jo_pure rfl (pr_extract rfl rfl) ?_)
   refine jo_pure rfl (pr_extract rfl rfl) ?_
   refine jo_pure rfl (pr_assign rfl) (jo_pure rfl (pr_assign rfl) (jo_nil (jq_then (jc_seq (jc_region ?_)))))
   refine jo_pure rfl (pr_move rfl) (jo_pure rfl (pr_not rfl) ?_)
   refine jo_nil (jq_then ?_)
   refine jc_cond rfl (fun h2b => ?_) (fun h2b => ?_)
   ·have h2 := (fun q => id (bt_not q)) h2b
    refine jc_seq (jc_region (jo_pure rfl (pr_build [] [str ([]), .int .i64 ((0 : Nat) : Int)] (fun a hf => by simp) (by kernel_rfl)) ?_))
    refine j_pull1 (jo_store rfl rfl ty_47 [str ([]), .int .i64 ((0 : Nat) : Int)] rfl rfl rfl [str ([]), .int .i64 ((0 : Nat) : Int)] rfl rfl ?_)
    refine jo_pure rfl (pr_assign rfl) (jo_nil (jq_then (jc_ret (jq_then_ret (jq_then_ret ?_)))))
    refine j_pull1 (j_drop ?_)
    exact jq_rets (rs := [.cell 4 47, .tmp 5]) (vs := [.agg #[str ([]), .int .i64 ((0 : Nat) : Int)], .bool (false)]) rfl () ⟨resV_box (.agg #[str ([]), .int .i64 ((0 : Nat) : Int)]) rfl ty_47 (.head _) rfl (by decide) rfl, resV_tmp rfl, trivial⟩ rfl (show (.tuple #[.agg #[str ((prefF kind s).1.1), .int .i64 ((prefF kind s).1.2)], .bool ((prefF kind s).2)] : Value) = (.tuple #[.agg #[str ([]), .int .i64 ((0 : Nat) : Int)], .bool (false)]) from by rw [pref_badq (by rw [h1]; simp) hc h2] <;> rfl) (fun w h => (fun h => h) (Mem.front (As := []) h))
   ·have h2 := (fun q => id (bf_not q)) h2b
    refine jc_skip (jq_then (jc_region (jo_pure rfl (pr_move rfl) (jo_pure rfl (pr_move rfl) (j_resl (l := 0) (h := qAt (parseP s).2.1) (.head _) (by omega) (by omega) ?_)))))
    show J _ _ (.imm (.list (.pair .str .str)) (resl (r1) (0) (qAt (parseP s).2.1) 2) ((((parseP s).2.1).take (qAt (parseP s).2.1)).drop 0) :: _) _
    refine jo_pure rfl (pr_slice_imm (l := 0) (h := qAt (parseP s).2.1) rfl (.tail _ (.head _)) Tryz.underlying62 ty_81 rfl ⟨_, rfl⟩ (by omega) (by omega)) ?_
    refine jo_pure rfl (pr_assign rfl) (jo_nil (jq_then (jc_seq (jc_region (jo_pure rfl (pr_move rfl) ?_)))))
    refine jo_pure rfl (pr_move rfl) (jo_pure rfl (pr_move rfl) ?_)
    refine jo_callp cal_60 (c_accept_ranged kind ((parseP s).1) ((((parseP s).2.1).take (qAt (parseP s).2.1)).drop 0) (resl (r1) (0) (qAt (parseP s).2.1) 2) (by first | omega | exact hxm | exact hxl | exact hxt | exact hxq | (simp only [List.length_drop, List.length_take]; omega)) (by first | omega | exact hxm | exact hxl | exact hxt | exact hxq | (simp only [List.length_drop, List.length_take]; omega)) (by first | omega | exact hxm | exact hxl | exact hxt | exact hxq | (simp only [List.length_drop, List.length_take]; omega))) ⟨rfl, rfl, rfl, trivial⟩ rfl (⟨⟨rfl, .head _⟩, trivial⟩) (fun _ => ?_)
    refine jo_pure rfl (pr_move rfl) (jo_pure rfl (pr_extract rfl rfl) ?_)
    refine jo_pure rfl (pr_extract rfl rfl) ?_
    refine jo_pure rfl (pr_assign rfl) (jo_pure rfl (pr_assign rfl) (jo_nil (jq_then (jc_seq (jc_region ?_)))))
    refine jo_pure rfl (pr_move rfl) (jo_pure rfl (pr_move rfl) (jo_pure rfl (pr_build [(0, str ((rangedF kind ((parseP s).1) ((((parseP s).2.1).take (qAt (parseP s).2.1)).drop 0)).1)), (1, .int .i64 (((parseQ ((((parseP s).2.1).getD (qAt (parseP s).2.1) ([], [])).2)).1 : Nat) : Int))] [str ((rangedF kind ((parseP s).1) ((((parseP s).2.1).take (qAt (parseP s).2.1)).drop 0)).1), .int .i64 (((parseQ ((((parseP s).2.1).getD (qAt (parseP s).2.1) ([], [])).2)).1 : Nat) : Int)] (fun a hf => by simp only [List.map_toArray, List.map_cons, List.map_nil, hf.ev (show ev _ (.tmp 47) = some (str ((rangedF kind ((parseP s).1) ((((parseP s).2.1).take (qAt (parseP s).2.1)).drop 0)).1)) from rfl), hf.ev (show ev _ (.tmp 48) = some (.int .i64 (((parseQ ((((parseP s).2.1).getD (qAt (parseP s).2.1) ([], [])).2)).1 : Nat) : Int)) from rfl)]) (by kernel_rfl)) ?_))
    refine jo_pure rfl (pr_move rfl) (j_pull2 (jo_store rfl rfl ty_47 [str ((rangedF kind ((parseP s).1) ((((parseP s).2.1).take (qAt (parseP s).2.1)).drop 0)).1), .int .i64 (((parseQ ((((parseP s).2.1).getD (qAt (parseP s).2.1) ([], [])).2)).1 : Nat) : Int)] rfl rfl rfl [str ((rangedF kind ((parseP s).1) ((((parseP s).2.1).take (qAt (parseP s).2.1)).drop 0)).1), .int .i64 (((parseQ ((((parseP s).2.1).getD (qAt (parseP s).2.1) ([], [])).2)).1 : Nat) : Int)] rfl rfl ?_))
    refine jo_pure rfl (pr_assign rfl) (jo_nil (jq_then (jc_ret (j_pull1 (j_drop ?_)))))
    refine j_pull1 (j_drop ?_)
    exact jq_rets (rs := [.cell 4 47, .tmp 5]) (vs := [.agg #[str ((rangedF kind ((parseP s).1) ((((parseP s).2.1).take (qAt (parseP s).2.1)).drop 0)).1), .int .i64 (((parseQ ((((parseP s).2.1).getD (qAt (parseP s).2.1) ([], [])).2)).1 : Nat) : Int)], .bool ((rangedF kind ((parseP s).1) ((((parseP s).2.1).take (qAt (parseP s).2.1)).drop 0)).2)]) rfl () ⟨resV_box (.agg #[str ((rangedF kind ((parseP s).1) ((((parseP s).2.1).take (qAt (parseP s).2.1)).drop 0)).1), .int .i64 (((parseQ ((((parseP s).2.1).getD (qAt (parseP s).2.1) ([], [])).2)).1 : Nat) : Int)]) rfl ty_47 (.head _) rfl (by decide) rfl, resV_tmp rfl, trivial⟩ rfl (show (.tuple #[.agg #[str ((prefF kind s).1.1), .int .i64 ((prefF kind s).1.2)], .bool ((prefF kind s).2)] : Value) = (.tuple #[.agg #[str ((rangedF kind ((parseP s).1) ((((parseP s).2.1).take (qAt (parseP s).2.1)).drop 0)).1), .int .i64 (((parseQ ((((parseP s).2.1).getD (qAt (parseP s).2.1) ([], [])).2)).1 : Nat) : Int)], .bool ((rangedF kind ((parseP s).1) ((((parseP s).2.1).take (qAt (parseP s).2.1)).drop 0)).2)]) from by rw [pref_q (by rw [h1]; simp) hc (by rw [h2]; simp), List.drop_zero]) (fun w h => (fun h => h) (Mem.front (As := []) h))
  ·skip
   rw [show (idxQ ((parseP s).2.1) : Int) = -1 from idxQ_none hc]
   refine jc_region (jo_pure rfl (pr_move rfl) (jo_pure rfl (pr_geq (n := 0) rfl rfl) ?_))
   refine jo_nil (jq_then (jc_false rfl (by decide) ?_))
   refine jc_skip (jq_then (jc_seq (jc_region (jo_pure rfl (pr_move rfl) (jo_pure rfl (pr_move rfl) ?_)))))
   refine jo_pure rfl (pr_move rfl) ?_
   refine jo_callp cal_60 (c_accept_ranged kind ((parseP s).1) ((parseP s).2.1) r1 (by first | omega | exact hxm | exact hxl | exact hxt | exact hxq | (simp only [List.length_drop, List.length_take]; omega)) (by first | omega | exact hxm | exact hxl | exact hxt | exact hxq | (simp only [List.length_drop, List.length_take]; omega)) (by first | omega | exact hxm | exact hxl | exact hxt | exact hxq | (simp only [List.length_drop, List.length_take]; omega))) ⟨rfl, rfl, rfl, trivial⟩ rfl (⟨⟨rfl, .head _⟩, trivial⟩) (fun _ => ?_)
   refine jo_pure rfl (pr_move rfl) (jo_pure rfl (pr_extract rfl rfl) ?_)
   refine jo_pure rfl (pr_extract rfl rfl) ?_
   refine jo_pure rfl (pr_assign rfl) (jo_pure rfl (pr_assign rfl) (jo_nil (jq_then (jc_seq (jc_region ?_)))))
   refine jo_pure rfl (pr_move rfl) (jo_pure rfl (pr_move rfl) (jo_pure rfl (pr_build [(0, str ((rangedF kind ((parseP s).1) ((parseP s).2.1)).1)), (1, .int .i64 ((1000 : Nat) : Int))] [str ((rangedF kind ((parseP s).1) ((parseP s).2.1)).1), .int .i64 ((1000 : Nat) : Int)] (fun a hf => by simp only [List.map_toArray, List.map_cons, List.map_nil, hf.ev (show ev _ (.tmp 47) = some (str ((rangedF kind ((parseP s).1) ((parseP s).2.1)).1)) from rfl), hf.ev (show ev _ (.tmp 48) = some (.int .i64 ((1000 : Nat) : Int)) from rfl)]) (by kernel_rfl)) ?_))
   refine jo_pure rfl (pr_move rfl) (j_pull1 (jo_store rfl rfl ty_47 [str ((rangedF kind ((parseP s).1) ((parseP s).2.1)).1), .int .i64 ((1000 : Nat) : Int)] rfl rfl rfl [str ((rangedF kind ((parseP s).1) ((parseP s).2.1)).1), .int .i64 ((1000 : Nat) : Int)] rfl rfl ?_))
   refine jo_pure rfl (pr_assign rfl) (jo_nil (jq_then (jc_ret (j_pull1 (j_drop ?_)))))
   exact jq_rets (rs := [.cell 4 47, .tmp 5]) (vs := [.agg #[str ((rangedF kind ((parseP s).1) ((parseP s).2.1)).1), .int .i64 ((1000 : Nat) : Int)], .bool ((rangedF kind ((parseP s).1) ((parseP s).2.1)).2)]) rfl () ⟨resV_box (.agg #[str ((rangedF kind ((parseP s).1) ((parseP s).2.1)).1), .int .i64 ((1000 : Nat) : Int)]) rfl ty_47 (.head _) rfl (by decide) rfl, resV_tmp rfl, trivial⟩ rfl (show (.tuple #[.agg #[str ((prefF kind s).1.1), .int .i64 ((prefF kind s).1.2)], .bool ((prefF kind s).2)] : Value) = (.tuple #[.agg #[str ((rangedF kind ((parseP s).1) ((parseP s).2.1)).1), .int .i64 ((1000 : Nat) : Int)], .bool ((rangedF kind ((parseP s).1) ((parseP s).2.1)).2)]) from by rw [pref_plain (by rw [h1]; simp) hc] <;> rfl) (fun w h => (fun h => h) (Mem.front (As := []) h))

theorem c_accept_Prefs (kind : Int) (l : List ((List UInt8) × (List UInt8))) (lv : Value) (hl : l.length ≤ 1000000) (hm : ∀ x ∈ l, x.1.length ≤ 300000 ∧ x.2.length ≤ 300000) : Con Tryz.prog 15 #[.int .i64 (kind), lv] [.imm (.list (.pair .str .str)) (lv) (l)] (fun r1 : Value => .tuple #[r1, .bool ((prefsF kind l).2)]) (fun r1 => [.row r1 47 (.pair .str (.int .i64)) ((prefsF kind l).1)]) := by
 refine con_of_J (args := [.int .i64 (kind), lv]) (n := 43) Tryz.func15 rfl (Nat.le_of_ble_eq_true rfl) rfl (fun w0 I0 m0 => ?_)
 show J _ [(0, .int .i64 (kind)), (1, lv)] [.imm (.list (.pair .str .str)) (lv) (l)] _
 have hm6 : ∀ x ∈ l, x.1.length ≤ 1000000 ∧ x.2.length ≤ 1000000 := fun x hx => by have := hm x hx; omega
 refine jc_seq (jc_region (jo_pure rfl (pr_assign rfl) (jo_pure rfl (pr_assign rfl) (jo_nil (jq_then ?_)))))
 refine jc_seq (jc_region (jo_pure rfl (pr_move rfl) ?_))
 refine jo_callp cal_13 (c_accept_Name kind) ⟨rfl, trivial⟩ rfl (trivial) (fun _ => ?_)
 refine jo_pure rfl (pr_assign rfl) (jo_nil (jq_then (jc_seq (jc_seq (jc_region ?_)))))
 refine jo_pure rfl (pr_move rfl) (jo_pure rfl (pr_seql rfl rfl) ?_)
 refine jo_pure rfl (pr_move rfl) (jo_gpure (j := 2) (want := false) rfl rfl rfl rfl (fun hg => pr_move rfl) ?_)
 refine jo_gpure (j := 2) (want := false) rfl rfl rfl rfl (fun hg => pr_move rfl) ?_
 refine jo_gcall (j := 2) (want := false) rfl rfl rfl cal_29 (fun hg => c_fieldline_Has l lv (nameK kind) (by first | omega | exact hm6 | exact Nat.le_trans (nameK_length kind) (by omega) | exact Nat.le_trans (getD_len (i := i) (allV_mem (getF_mem (n := 300000) hm (name := nameK kind)))) (by omega)) (by first | omega | exact hm6 | exact Nat.le_trans (nameK_length kind) (by omega) | exact Nat.le_trans (getD_len (i := i) (allV_mem (getF_mem (n := 300000) hm (name := nameK kind)))) (by omega)) (by first | omega | exact hm6 | exact Nat.le_trans (nameK_length kind) (by omega) | exact Nat.le_trans (getD_len (i := i) (allV_mem (getF_mem (n := 300000) hm (name := nameK kind)))) (by omega))) (fun hg => ⟨evg rfl hg, evg rfl hg, trivial⟩) rfl (fun _ => ⟨⟨rfl, .head _⟩, trivial⟩) ?_
 refine jo_gpure (j := 2) (want := false) rfl rfl rfl rfl (fun hg => pr_not (evg rfl hg)) ?_
 refine jo_pure rfl (pr_pick_or rfl rfl rfl) ?_
 refine jo_nil (jq_then ?_)
 refine jc_cond rfl (fun h1b => ?_) (fun h1b => ?_)
 ·have h1 := (fun q => Or.imp of_decide_eq_true (fun q => id (bt_not q)) (bt_or q)) h1b
  refine jc_seq (jc_region (jo_pure rfl (pr_assign rfl) (jo_pure rfl (pr_assign rfl) (jo_nil (jq_then ?_)))))
  refine jc_ret (jq_then_ret (j_nil_row 47 (.pair .str (.int .i64)) ?_))
  refine j_pull1 (j_drop ?_)
  exact jq_rets (rs := [.tmp 4, .tmp 5]) (vs := [.slice none 0 0, .bool (false)]) rfl (.slice none 0 0) ⟨resV_tmp rfl, resV_tmp rfl, trivial⟩ rfl (show (.tuple #[(.slice none 0 0), .bool ((prefsF kind l).2)] : Value) = (.tuple #[.slice none 0 0, .bool (false)]) from by rw [prefsF_no h1b]) (fun _ h => by rw [prefsF_no h1b]; exact h)
 ·have h1 := (fun q => And.imp of_decide_eq_false (fun q => id (bf_not q)) (bf_or q)) h1b
  refine jc_skip (jq_then (jc_seq (jc_region (jo_pure rfl (pr_assign rfl) (jo_nil ?_)))))
  refine jq_then (jc_seq (jc_seq (jc_region (jo_pure rfl (pr_move rfl) (jo_pure rfl (pr_move rfl) ?_)))))
  refine jo_callp cal_30 (c_list_All l lv (nameK kind) (by first | omega | exact hm6 | exact Nat.le_trans (nameK_length kind) (by omega) | exact Nat.le_trans (getD_len (i := i) (allV_mem (getF_mem (n := 300000) hm (name := nameK kind)))) (by omega)) (by first | omega | exact hm6 | exact Nat.le_trans (nameK_length kind) (by omega) | exact Nat.le_trans (getD_len (i := i) (allV_mem (getF_mem (n := 300000) hm (name := nameK kind)))) (by omega)) (by first | omega | exact hm6 | exact Nat.le_trans (nameK_length kind) (by omega) | exact Nat.le_trans (getD_len (i := i) (allV_mem (getF_mem (n := 300000) hm (name := nameK kind)))) (by omega))) ⟨rfl, rfl, trivial⟩ rfl (⟨⟨rfl, .head _⟩, trivial⟩) (fun r1 => ?_)
  show J _ _ [.imm (.list .str) (r1) (allF l (nameK kind)), .imm (.list (.pair .str .str)) (lv) (l)] _
  refine jo_pure rfl (pr_len_imm rfl (.head _) Tryz.underlying28) ?_
  refine jo_pure rfl (pr_move rfl) (jo_nil (jq_then (jc_block (j_nil_row 47 (.pair .str (.int .i64)) ?_))))
  refine jc_loop3 (fun (i : Nat) (v : Value) (acc : List (List UInt8 × Int)) => [(0, .int .i64 (kind)), (7, v), (24, r1), (25, .int .i64 (((allF l (nameK kind)).length : Nat) : Int)), (26, .int .i64 ((i : Nat) : Int))]) (fun (i : Nat) (v : Value) (acc : List (List UInt8 × Int)) => [.row (v) 47 (.pair .str (.int .i64)) (acc), .imm (.list .str) (r1) (allF l (nameK kind)), .imm (.list (.pair .str .str)) (lv) (l)]) (fun (i : Nat) (v : Value) (acc : List (List UInt8 × Int)) => i ≤ (allF l (nameK kind)).length ∧ (allF l (nameK kind)).length ≤ 64 ∧ acc.length ≤ i ∧ acc = prefsM kind ((allF l (nameK kind)).take i)) (fun (i : Nat) (v : Value) (acc : List (List UInt8 × Int)) => (allF l (nameK kind)).length - i) 0 (.slice none 0 0) [] (⟨Nat.zero_le _, allV_length _, Nat.le_refl _, rfl⟩) (⟨rfl, rfl, rfl, rfl, rfl, trivial⟩) (fun _ h => h) (fun i v acc hinv => ?_)
  refine jc_seq (jc_region (jo_pure rfl (pr_lssN (m := i) (n := (allF l (nameK kind)).length) rfl rfl) ?_))
  refine jo_nil (jq_then (jc_seq ?_))
  refine jc_cond rfl (fun h2b => ?_) (fun h2b => ?_)
  ·have h2 := of_decide_eq_true h2b
   refine jc_skip (jq_then (jc_seq (jc_block (jc_seq (jc_region ?_)))))
   refine jo_pure rfl (pr_idx_imm (i := i) rfl (.tail _ (.head _)) rfl Tryz.underlying28 ty_9 (by omega)) ?_
   refine jo_pure rfl (pr_load_elem_imm (i := i) (str ((allF l (nameK kind)).getD i [])) rfl (.tail _ (.head _)) ty_9 rfl rfl (by omega) rfl) ?_
   refine jo_pure rfl (pr_assign rfl) (jo_nil (jq_then (jc_seq (jc_region (jo_pure rfl (pr_move rfl) ?_)))))
   refine jo_pure rfl (pr_move rfl) ?_
   refine jo_callp cal_31 (c_accept_pref kind ((allF l (nameK kind)).getD i []) (by first | omega | exact hm6 | exact Nat.le_trans (nameK_length kind) (by omega) | exact Nat.le_trans (getD_len (i := i) (allV_mem (getF_mem (n := 300000) hm (name := nameK kind)))) (by omega))) ⟨rfl, rfl, trivial⟩ rfl (trivial) (fun _ => ?_)
   refine jo_pure rfl (pr_move rfl) (jo_pure rfl (pr_extract rfl rfl) ?_)
   refine jo_pure rfl (pr_extract rfl rfl) ?_
   refine jo_alloc ty_47 [str ([]), .int .i64 ((0 : Nat) : Int)] rfl rfl (fun b1 => ?_)
   refine jo_store rfl rfl ty_47 [str ((prefF kind ((allF l (nameK kind)).getD i [])).1.1), .int .i64 ((prefF kind ((allF l (nameK kind)).getD i [])).1.2)] rfl rfl rfl [str ((prefF kind ((allF l (nameK kind)).getD i [])).1.1), .int .i64 ((prefF kind ((allF l (nameK kind)).getD i [])).1.2)] rfl rfl ?_
   refine jo_pure rfl (pr_assign rfl) (jo_nil (jq_then (jc_seq (jc_region (jo_pure rfl (pr_move rfl) ?_)))))
   refine jo_nil (jq_then ?_)
   refine jc_cond rfl (fun h3b => ?_) (fun h3b => ?_)
   ·have h3 := id h3b
    refine jc_region (jo_pure rfl (pr_move rfl) (jo_pure rfl (pr_load_box (.agg #[str ((prefF kind ((allF l (nameK kind)).getD i [])).1.1), .int .i64 ((prefF kind ((allF l (nameK kind)).getD i [])).1.2)]) rfl ty_47 (.head _) rfl (by decide) rfl) ?_))
    refine jo_buildSlice (t := (.pair .str (.int .i64))) [(prefF kind ((allF l (nameK kind)).getD i [])).1] [.agg #[str ((prefF kind ((allF l (nameK kind)).getD i [])).1.1), .int .i64 ((prefF kind ((allF l (nameK kind)).getD i [])).1.2)]] (fun a hf => by simp only [List.zipIdx_cons, List.zipIdx_nil, List.map_toArray, List.map_cons, List.map_nil, hf.ev (show ev _ (.tmp 38) = some (.agg #[str ((prefF kind ((allF l (nameK kind)).getD i [])).1.1), .int .i64 ((prefF kind ((allF l (nameK kind)).getD i [])).1.2)]) from rfl)] <;> rfl) rfl Tryz.underlying40 ty_47 rfl rfl rfl rfl rfl (fun g1 => ?_)
    refine j_pull2 ?_
    refine jo_append rfl rfl Tryz.underlying40 ty_47 rfl (by simp only [List.length_cons, List.length_nil, maxLen]; omega) (by simp only [List.length_cons, List.length_nil]; omega) rfl (fun v1 => ?_)
    refine jo_pure rfl (pr_assign rfl) (jo_nil (jq_in_normal (jq_then (jc_region (jo_pure rfl (pr_addN (m := i) (n := 1) rfl rfl (by omega)) ?_)))))
    refine jo_pure rfl (pr_move rfl) (jo_nil (j_pull1 (j_drop (j_pull2 (j_pull2 ?_)))))
    refine j_pull2 ?_
    refine jq_round' ((i + 1), v1, (acc ++ [(prefF kind ((allF l (nameK kind)).getD i [])).1])) (by (try dsimp only); exact (⟨by omega, hinv.2.1, by simp; omega, by rw [prefsM_hit h2 h3, hinv.2.2.2]⟩)) (by (try dsimp only); exact (by omega)) ⟨rfl, rfl, rfl, rfl, rfl, trivial⟩ (fun _ h => h)
   ·have h3 := id h3b
    refine jc_skip (jq_in_normal (jq_then (jc_region (jo_pure rfl (pr_addN (m := i) (n := 1) rfl rfl (by omega)) ?_))))
    refine jo_pure rfl (pr_move rfl) (jo_nil (j_drop (j_pull2 (j_pull2 (j_pull2 ?_)))))
    refine jq_round' ((i + 1), v, acc) (by (try dsimp only); exact (⟨by omega, hinv.2.1, by omega, by rw [prefsM_miss h2 h3, hinv.2.2.2]⟩)) (by (try dsimp only); exact (by omega)) ⟨rfl, rfl, rfl, rfl, rfl, trivial⟩ (fun _ h => h)
  ·have h2 := of_decide_eq_false h2b
   refine jc_exit ?_
   refine jq_then_exit ?_
   refine jq_then_exit ?_
   refine jq_in_hit ?_
   refine jq_then (jc_seq (jc_region (jo_pure rfl (pr_move rfl) (jo_pure rfl (pr_assign rfl) (jo_pure rfl (pr_assign rfl) ?_)))))
   refine jo_nil (jq_then (jc_ret (j_pull1 (j_drop (j_pull1 ?_)))))
   refine j_drop ?_
   exact jq_rets (rs := [.tmp 4, .tmp 5]) (vs := [v, .bool (true)]) rfl v ⟨resV_tmp rfl, resV_tmp rfl, trivial⟩ rfl (show (.tuple #[v, .bool ((prefsF kind l).2)] : Value) = (.tuple #[v, .bool (true)]) from by rw [prefsF_yes h1b]) (fun _ h => by rw [prefsF_yes h1b, show prefsM kind (allF l (nameK kind)) = acc from by rw [hinv.2.2.2, take_over (s := (allF l (nameK kind))) (i := i) (by omega)]]; exact h)

theorem c_ref01_Digit (c : UInt8)  : Con Tryz.prog 81 #[byte (c)] [] (fun _ : Unit => .bool (digB c)) (fun _ => []) := by
 refine con_of_J (args := [byte (c)]) (n := 9) Tryz.func81 rfl (Nat.le_of_ble_eq_true rfl) rfl (fun w0 I0 m0 => ?_)
 show J _ [(0, byte (c))] [] _
 refine jc_seq (jc_region (jo_pure rfl (pr_assign rfl) (jo_nil (jq_then (jc_seq ?_)))))
 refine jc_region (jo_pure rfl (pr_move rfl) (jo_pure rfl (pr_bgeq (n := 48) rfl rfl) ?_))
 refine jo_pure rfl (pr_move rfl) (jo_gpure (j := 2) (want := true) rfl rfl rfl rfl (fun hg => pr_move rfl) ?_)
 refine jo_gpure (j := 2) (want := true) rfl rfl rfl rfl (fun hg => pr_bleq (n := 57) (evg rfl hg) rfl) ?_
 refine jo_pure rfl (pr_pick_and rfl rfl rfl) ?_
 refine jo_pure rfl (pr_assign rfl) (jo_nil (jq_then (jc_ret ?_)))
 exact jq_ret1 rfl () rfl (show (.bool (digB c) : Value) = (.bool ((decide ((48 : UInt8) ≤ c) && decide ((c : UInt8) ≤ 57)))) from rfl) (fun _ h => h)

theorem c_ref10_subtags (s : List UInt8) (hs : s.length ≤ 1000000) : Con Tryz.prog 80 #[str (s)] [] (fun r1 : Value => r1) (fun r1 => [.imm (.list .str) r1 (cutAt 45 [] s)]) := by
 refine con_of_J (args := [str (s)]) (n := 23) Tryz.func80 rfl (Nat.le_of_ble_eq_true rfl) rfl (fun w0 I0 m0 => ?_)
 show J _ [(0, str (s))] [] _
 refine jc_seq (jc_region (jo_pure rfl (pr_assign rfl) (jo_nil (jq_then (jc_seq ?_)))))
 refine jc_region (jo_pure rfl (pr_assign rfl) (jo_nil (jq_then (jc_block (j_nil_row 9 .str ?_)))))
 refine jc_loop3 (fun (t : List UInt8) (w : Value) (acc : List (List UInt8)) => [(0, str (t)), (3, w)]) (fun (t : List UInt8) (w : Value) (acc : List (List UInt8)) => [.row (w) 9 .str (acc)]) (fun (t : List UInt8) (w : Value) (acc : List (List UInt8)) => acc ++ cutAt 45 [] t = cutAt 45 [] s ∧ acc.length + t.length ≤ s.length) (fun (t : List UInt8) (w : Value) (acc : List (List UInt8)) => t.length) s (.slice none 0 0) [] (⟨rfl, by simp⟩) (⟨rfl, rfl, trivial⟩) (fun _ h => h) (fun t w acc hinv => ?_)
 refine jc_block (jc_seq (jc_region (jo_pure rfl (pr_move rfl) ?_)))
 refine jo_callp cal_109 (c_ref01_Index t 45 0 (by omega)) ⟨rfl, rfl, rfl, trivial⟩ rfl (trivial) (fun _ => ?_)
 refine jo_pure rfl (pr_assign rfl) (jo_nil (jq_then (jc_seq (jc_seq ?_))))
 by_cases hc : pos t 45 < t.length
 ·skip
  rw [show (idxF t 45 0 : Int) = ((pos t 45 : Nat) : Int) from by rw [idxF_zero, idx_found hc]]
  refine jc_region (jo_pure rfl (pr_move rfl) (jo_pure rfl (pr_lssN (m := pos t 45) (n := 0) rfl rfl) ?_))
  refine jo_nil (jq_then (jc_false rfl (by simp) ?_))
  refine jc_skip (jq_then ?_)
  refine jc_held (fun (v1 : Value) => [(0, str (t.drop ((pos t 45) + 1))), (3, v1)]) (fun v1 => [.row (v1) 9 .str (acc ++ [t.take (pos t 45)])]) [] mixed (fun lst hlst => ?_) (fun v1 => ?_)
  ·subst hlst
   refine jh_take (listed' := #[true, false, false, false, false, false, false, false, false, false, false, false]) 0 rfl (by kernel_rfl) (by kernel_rfl) (by kernel_rfl) rfl (pr_move rfl) (fun _ h => Mem.drop1 (h)) rfl ?_
   refine jh_take (listed' := #[true, true, false, false, false, false, false, false, false, false, false, false]) 1 rfl (by kernel_rfl) (by kernel_rfl) (by kernel_rfl) rfl (pr_move rfl) (fun _ h => Mem.drop1 (h)) rfl ?_
   refine jh_take (listed' := #[true, true, true, false, false, false, false, false, false, false, false, false]) 2 rfl (by kernel_rfl) (by kernel_rfl) (by kernel_rfl) rfl (pr_move rfl) (fun _ h => Mem.drop1 (h)) rfl ?_
   refine jh_take (listed' := #[true, true, true, true, false, false, false, false, false, false, false, false]) 3 rfl (by kernel_rfl) (by kernel_rfl) (by kernel_rfl) rfl (pr_sslice_hi (j := pos t 45) rfl rfl Tryz.underlying9 (by omega)) (fun _ h => Mem.drop1 (h)) rfl ?_
   refine jh_take (listed' := #[true, true, true, true, false, false, true, false, false, false, false, false]) 6 rfl (by kernel_rfl) (by kernel_rfl) (by kernel_rfl) rfl (pr_move rfl) (fun _ h => Mem.drop1 (h)) rfl ?_
   refine jh_take (listed' := #[true, true, true, true, false, false, true, true, false, false, false, false]) 7 rfl (by kernel_rfl) (by kernel_rfl) (by kernel_rfl) rfl (pr_move rfl) (fun _ h => Mem.drop1 (h)) rfl ?_
   refine jh_take (listed' := #[true, true, true, true, false, false, true, true, true, false, false, false]) 8 rfl (by kernel_rfl) (by kernel_rfl) (by kernel_rfl) rfl (pr_addN (m := pos t 45) (n := 1) rfl rfl (by omega)) (fun _ h => Mem.drop1 (h)) rfl ?_
   refine jh_take (listed' := #[true, true, true, true, false, false, true, true, true, true, false, false]) 9 rfl (by kernel_rfl) (by kernel_rfl) (by kernel_rfl) rfl (pr_sslice_lo (i := (pos t 45) + 1) rfl rfl Tryz.underlying9 (by omega)) (fun _ h => Mem.drop1 (h)) rfl ?_
   refine jh_all [4] (by kernel_rfl) (by simp) (fun i hi => ?_)
   simp only [List.mem_cons, List.not_mem_nil, or_false] at hi
   subst hi
   ·refine jh_op rfl ?_
    refine jo_buildSlice (t := .str) [t.take (pos t 45)] [str (t.take (pos t 45))] (fun a hf => by simp only [List.zipIdx_cons, List.zipIdx_nil, List.map_toArray, List.map_cons, List.map_nil, hf.ev (show ev _ (.tmp 16) = some (str (t.take (pos t 45))) from rfl)] <;> rfl) rfl Tryz.underlying28 ty_9 rfl rfl rfl rfl rfl (fun g1 => ?_)
    refine jh_in (listed' := #[true, true, true, true, true, false, true, true, true, true, false, false]) (fun _ h => Mem.drop1 (Mem.drop1 (h))) rfl ?_
    refine jh_all [5] (by kernel_rfl) (by simp) (fun i hi => ?_)
    simp only [List.mem_cons, List.not_mem_nil, or_false] at hi
    subst hi
    ·refine jh_op rfl ?_
     refine j_pull1 ?_
     refine jo_append rfl rfl Tryz.underlying28 ty_9 rfl (by simp only [List.length_append, List.length_cons, List.length_nil, maxLen]; omega) (by simp only [List.length_append, List.length_cons, List.length_nil]; omega) rfl (fun v1 => ?_)
     refine jh_in (listed' := #[true, true, true, true, true, true, true, true, true, true, false, false]) (fun _ h => Mem.drop1 (h)) rfl ?_
     refine jh_take (listed' := #[true, true, true, true, true, true, true, true, true, true, true, false]) 10 rfl (by kernel_rfl) (by kernel_rfl) (by kernel_rfl) rfl (pr_assign rfl) (fun _ h => Mem.drop1 (h)) rfl ?_
     refine jh_take (listed' := #[true, true, true, true, true, true, true, true, true, true, true, true]) 11 rfl (by kernel_rfl) (by kernel_rfl) (by kernel_rfl) rfl (pr_assign rfl) (fun _ h => Mem.drop1 (h)) rfl ?_
     show J _ _ _ _
     show JH _ _ _ _ _ _ _ _
     exact jh_done v1 (by kernel_rfl) ⟨rfl, rfl, trivial⟩ (fun _ h => h)
  ·skip
   refine jq_in_normal ?_
   refine jq_round' ((t.drop ((pos t 45) + 1)), v1, (acc ++ [t.take (pos t 45)])) (by (try dsimp only); exact (⟨by rw [← hinv.1, cutAt_some [] hc]; simp, by simp; omega⟩)) (by (try dsimp only); exact (by simp; omega)) ⟨rfl, rfl, trivial⟩ (fun _ h => h)
 ·skip
  rw [show (idxF t 45 0 : Int) = -1 from by rw [idxF_zero, idx_none hc]]
  refine jc_region (jo_pure rfl (pr_move rfl) (jo_pure rfl (pr_lss (n := 0) rfl rfl) ?_))
  refine jo_nil (jq_then (jc_true rfl (by decide) ?_))
  refine jc_seq (jc_region (jo_pure rfl (pr_move rfl) (jo_pure rfl (pr_move rfl) ?_)))
  refine jo_buildSlice (t := .str) [t] [str (t)] (fun a hf => by simp only [List.zipIdx_cons, List.zipIdx_nil, List.map_toArray, List.map_cons, List.map_nil, hf.ev (show ev _ (.tmp 10) = some (str (t)) from rfl)] <;> rfl) rfl Tryz.underlying28 ty_9 rfl rfl rfl rfl rfl (fun g2 => ?_)
  refine j_pull1 ?_
  refine jo_append rfl rfl Tryz.underlying28 ty_9 rfl (by simp only [List.length_append, List.length_cons, List.length_nil, maxLen]; omega) (by simp only [List.length_append, List.length_cons, List.length_nil]; omega) rfl (fun v2 => ?_)
  refine jo_pure rfl (pr_assign rfl) (jo_nil (jq_then (jc_ret (jq_then_ret (jq_in_ret ?_)))))
  refine jq_then_ret (jq_in_ret ?_)
  refine j_pub_row ?_
  exact jq_ret1 rfl v2 rfl (show (v2 : Value) = (v2) from rfl) (fun _ h => by rw [← hinv.1, cutAt_none [] hc]; exact h)

theorem c_ref10_Tag (s : List UInt8) (hs : s.length ≤ 1000000) : Con Tryz.prog 50 #[str (s)] [] (fun _ : Unit => .bool (tagF s)) (fun _ => []) := by
 refine con_of_J (args := [str (s)]) (n := 67) Tryz.func50 rfl (Nat.le_of_ble_eq_true rfl) rfl (fun w0 I0 m0 => ?_)
 show J _ [(0, str (s))] [] _
 refine jc_seq (jc_region (jo_pure rfl (pr_assign rfl) (jo_nil (jq_then (jc_seq ?_)))))
 refine jc_region (jo_pure rfl (pr_move rfl) ?_)
 refine jo_callp cal_80 (c_ref10_subtags s (by omega)) ⟨rfl, trivial⟩ rfl (trivial) (fun r1 => ?_)
 show J _ _ [.imm (.list .str) (r1) (cutAt 45 [] s)] _
 refine jo_pure rfl (pr_assign rfl) (jo_nil (jq_then (jc_seq (jc_seq (jc_region ?_)))))
 refine jo_pure rfl (pr_assign rfl) (jo_nil (jq_then (jc_block ?_)))
 refine jc_loop (fun (i : Nat) => [(3, r1), (4, .int .i64 ((i : Nat) : Int))]) (fun (i : Nat) => [.imm (.list .str) (r1) (cutAt 45 [] s)]) (fun (i : Nat) => i ≤ (cutAt 45 [] s).length ∧ (cutAt 45 [] s).length ≤ s.length + 1 ∧ ∀ k : Nat, k < i → subOk (decide (0 < k)) ((cutAt 45 [] s).getD k []) = true) (fun (i : Nat) => (cutAt 45 [] s).length - i) 0 (⟨Nat.zero_le _, subt_length s, fun k hk => absurd hk (Nat.not_lt_zero _)⟩) (⟨rfl, rfl, trivial⟩) (fun _ h => h) (fun i hinv => ?_)
 refine jc_seq (jc_seq (jc_region (jo_pure rfl (pr_move rfl) (jo_pure rfl (pr_move rfl) (jo_pure rfl (pr_len_imm rfl (.head _) Tryz.underlying28) ?_)))))
 refine jo_pure rfl (pr_lssN (m := i) (n := (cutAt 45 [] s).length) rfl rfl) ?_
 refine jo_nil (jq_then ?_)
 refine jc_cond rfl (fun h1b => ?_) (fun h1b => ?_)
 ·have h1 := of_decide_eq_true h1b
  have hml : ((cutAt 45 [] s).getD i []).length ≤ s.length := getD_len (i := i) (subt_mem s)
  refine jc_skip (jq_then (jc_seq (jc_block (jc_seq (jc_seq ?_)))))
  refine jc_region (jo_pure rfl (pr_move rfl) (jo_pure rfl (pr_move rfl) (jo_pure rfl (pr_idx_imm (i := i) rfl (.head _) rfl Tryz.underlying28 ty_9 (by first | omega | (simp at hg; omega))) ?_)))
  refine jo_pure rfl (pr_load_elem_imm (i := i) (str ((cutAt 45 [] s).getD i [])) rfl (.head _) ty_9 rfl rfl (by first | omega | (simp at hg; omega)) rfl) ?_
  refine jo_pure rfl (pr_slen rfl Tryz.underlying9) ?_
  refine jo_pure rfl (pr_lssN (m := ((cutAt 45 [] s).getD i []).length) (n := 1) rfl rfl) ?_
  refine jo_pure rfl (pr_move rfl) (jo_gpure (j := 6) (want := false) rfl rfl rfl rfl (fun hg => pr_move rfl) ?_)
  refine jo_gpure (j := 6) (want := false) rfl rfl rfl rfl (fun hg => pr_move rfl) ?_
  refine jo_gpure (j := 6) (want := false) rfl rfl rfl rfl (fun hg => pr_idx_imm (i := i) (evg rfl hg) (.head _) (evg rfl hg) Tryz.underlying28 ty_9 (by first | omega | (simp at hg; omega))) ?_
  refine jo_gpure (j := 6) (want := false) rfl rfl rfl rfl (fun hg => pr_load_elem_imm (i := i) (str ((cutAt 45 [] s).getD i [])) (evg rfl hg) (.head _) ty_9 rfl rfl (by first | omega | (simp at hg; omega)) rfl) ?_
  refine jo_gpure (j := 6) (want := false) rfl rfl rfl rfl (fun hg => pr_slen (evg rfl hg) Tryz.underlying9) ?_
  refine jo_gpure (j := 6) (want := false) rfl rfl rfl rfl (fun hg => pr_gtrN (m := ((cutAt 45 [] s).getD i []).length) (n := 8) (evg rfl hg) rfl) ?_
  refine jo_pure rfl (pr_pick_or rfl rfl rfl) ?_
  refine jo_nil (jq_then ?_)
  refine jc_cond rfl (fun h2b => ?_) (fun h2b => ?_)
  ·have h2 := (fun q => Or.imp of_decide_eq_true of_decide_eq_true (bt_or q)) h2b
   refine jc_seq (jc_region (jo_pure rfl (pr_assign rfl) (jo_nil (jq_then (jc_ret ?_)))))
   refine jq_then_ret (jq_in_ret ?_)
   refine jq_then_ret (jq_then_ret (jq_in_ret ?_))
   refine jq_then_ret (j_drop ?_)
   exact jq_ret1 rfl () rfl (show (.bool (tagF s) : Value) = (.bool (false)) from congrArg Value.bool (by rw [tag_bad (s := s) h1 (sub_len h2)])) (fun _ h => h)
  ·have h2 := (fun q => And.imp of_decide_eq_false of_decide_eq_false (bf_or q)) h2b
   refine jc_skip (jq_then (jc_seq (jc_region (jo_pure rfl (pr_assign rfl) (jo_nil ?_)))))
   refine jq_then (jc_block ?_)
   refine jc_loop (fun (k : Nat) => [(3, r1), (4, .int .i64 ((i : Nat) : Int)), (5, .int .i64 ((k : Nat) : Int))]) (fun (k : Nat) => [.imm (.list .str) (r1) (cutAt 45 [] s)]) (fun (k : Nat) => k ≤ ((cutAt 45 [] s).getD i []).length ∧ (((cutAt 45 [] s).getD i []).take k).all (fun c => alphaB c || (decide (0 < i) && digB c)) = true) (fun (k : Nat) => ((cutAt 45 [] s).getD i []).length - k) 0 (⟨Nat.zero_le _, rfl⟩) (⟨rfl, rfl, rfl, trivial⟩) (fun _ h => h) (fun k hink => ?_)
   refine jc_seq (jc_seq (jc_region (jo_pure rfl (pr_move rfl) (jo_pure rfl (pr_move rfl) (jo_pure rfl (pr_move rfl) ?_)))))
   refine jo_pure rfl (pr_idx_imm (i := i) rfl (.head _) rfl Tryz.underlying28 ty_9 (by first | omega | (simp at hg; omega))) ?_
   refine jo_pure rfl (pr_load_elem_imm (i := i) (str ((cutAt 45 [] s).getD i [])) rfl (.head _) ty_9 rfl rfl (by first | omega | (simp at hg; omega)) rfl) ?_
   refine jo_pure rfl (pr_slen rfl Tryz.underlying9) ?_
   refine jo_pure rfl (pr_lssN (m := k) (n := ((cutAt 45 [] s).getD i []).length) rfl rfl) ?_
   refine jo_nil (jq_then ?_)
   refine jc_cond rfl (fun h3b => ?_) (fun h3b => ?_)
   ·have h3 := of_decide_eq_true h3b
    refine jc_skip (jq_then (jc_seq (jc_block (jc_seq (jc_region ?_)))))
    refine jo_pure rfl (pr_move rfl) (jo_pure rfl (pr_move rfl) (jo_pure rfl (pr_idx_imm (i := i) rfl (.head _) rfl Tryz.underlying28 ty_9 (by first | omega | (simp at hg; omega))) ?_))
    refine jo_pure rfl (pr_load_elem_imm (i := i) (str ((cutAt 45 [] s).getD i [])) rfl (.head _) ty_9 rfl rfl (by first | omega | (simp at hg; omega)) rfl) ?_
    refine jo_pure rfl (pr_move rfl) (jo_pure rfl (pr_sindex (i := k) rfl rfl Tryz.underlying9 (by first | omega | (simp at hg; omega))) ?_)
    refine jo_pure rfl (pr_assign rfl) (jo_nil (jq_then (jc_seq (jc_region (jo_pure rfl (pr_move rfl) ?_)))))
    refine jo_pure rfl (pr_bgeq (n := 97) rfl rfl) ?_
    refine jo_pure rfl (pr_move rfl) (jo_gpure (j := 2) (want := true) rfl rfl rfl rfl (fun hg => pr_move rfl) ?_)
    refine jo_gpure (j := 2) (want := true) rfl rfl rfl rfl (fun hg => pr_bleq (n := 122) (evg rfl hg) rfl) ?_
    refine jo_pure rfl (pr_pick_and rfl rfl rfl) ?_
    refine jo_pure rfl (pr_move rfl) (jo_gpure (j := 6) (want := false) rfl rfl rfl rfl (fun hg => pr_move rfl) ?_)
    refine jo_gpure (j := 6) (want := false) rfl rfl rfl rfl (fun hg => pr_bgeq (n := 65) (evg rfl hg) rfl) ?_
    refine jo_gpure (j := 6) (want := false) rfl rfl rfl rfl (fun hg => pr_move (evg rfl hg)) ?_
    refine jo_gpure2 (j := 9) (want := true) rfl rfl rfl rfl (fun hg => pr_move rfl) ?_
    refine jo_gpure2 (j := 9) (want := true) rfl rfl rfl rfl (fun hg => pr_bleq (n := 90) (evg rfl hg) rfl) ?_
    refine jo_gpure (j := 6) (want := false) rfl rfl rfl rfl (fun hg => pr_pick_and (evg rfl hg) (evg2 rfl hg) rfl) ?_
    refine jo_pure rfl (pr_pick_or rfl rfl rfl) ?_
    refine jo_pure rfl (pr_move rfl) (jo_gpure (j := 14) (want := false) rfl rfl rfl rfl (fun hg => pr_move rfl) ?_)
    refine jo_gpure (j := 14) (want := false) rfl rfl rfl rfl (fun hg => pr_gtrN (m := i) (n := 0) (evg rfl hg) rfl) ?_
    refine jo_gpure (j := 14) (want := false) rfl rfl rfl rfl (fun hg => pr_move (evg rfl hg)) ?_
    refine jo_gpure2 (j := 17) (want := true) rfl rfl rfl rfl (fun hg => pr_move rfl) ?_
    refine jo_gcall2 (j := 17) (want := true) rfl rfl rfl cal_81 (fun hg => c_ref01_Digit (((cutAt 45 [] s).getD i []).getD k 0)) (fun hg => ⟨evg rfl hg, trivial⟩) rfl (fun _ => trivial) ?_
    refine jo_gpure (j := 14) (want := false) rfl rfl rfl rfl (fun hg => pr_pick_and (evg rfl hg) (evg2 rfl hg) rfl) ?_
    refine jo_pure rfl (pr_pick_or rfl rfl rfl) ?_
    refine jo_pure rfl (pr_not rfl) ?_
    refine jo_nil (jq_then ?_)
    refine jc_cond rfl (fun h4b => ?_) (fun h4b => ?_)
    ·have h4 := (fun q => (fun q => And.imp (fun q => And.imp (fun q => Or.imp of_decide_eq_false of_decide_eq_false (bf_and q)) (fun q => Or.imp of_decide_eq_false of_decide_eq_false (bf_and q)) (bf_or q)) (fun q => Or.imp of_decide_eq_false id (bf_and q)) (bf_or q)) (bt_not q)) h4b
     refine jc_seq (jc_region (jo_pure rfl (pr_assign rfl) (jo_nil (jq_then (jc_ret ?_)))))
     refine jq_in_ret ?_
     refine jq_then_ret (jq_then_ret (jq_in_ret ?_))
     refine jq_in_ret ?_
     refine jq_then_ret (jq_then_ret (jq_in_ret ?_))
     refine jq_then_ret (j_drop ?_)
     exact jq_ret1 rfl () rfl (show (.bool (tagF s) : Value) = (.bool (false)) from congrArg Value.bool (by rw [tag_bad (s := s) h1 (sub_ch (d := decide (0 < i)) h3 (bt_not h4b))])) (fun _ h => h)
    ·have h4 := (fun q => (fun q => Or.imp (fun q => Or.imp (fun q => And.imp of_decide_eq_true of_decide_eq_true (bt_and q)) (fun q => And.imp of_decide_eq_true of_decide_eq_true (bt_and q)) (bt_or q)) (fun q => And.imp of_decide_eq_true id (bt_and q)) (bt_or q)) (bf_not q)) h4b
     refine jc_skip (jq_in_normal (jq_then (jc_region (jo_pure rfl (pr_move rfl) (jo_pure rfl (pr_addN (m := k) (n := 1) rfl rfl (by omega)) ?_)))))
     refine jo_pure rfl (pr_assign rfl) (jo_nil ?_)
     refine jq_round' (k + 1) (by (try dsimp only); exact (⟨by omega, all_step (dd := 0) h3 hink.2 (bf_not h4b)⟩)) (by (try dsimp only); exact (by omega)) ⟨rfl, rfl, rfl, trivial⟩ (fun _ h => h)
   ·have h3 := of_decide_eq_false h3b
    refine jc_exit ?_
    refine jq_then_exit ?_
    refine jq_then_exit ?_
    refine jq_in_hit ?_
    refine jq_in_normal (jq_then (jc_region (jo_pure rfl (pr_move rfl) (jo_pure rfl (pr_addN (m := i) (n := 1) rfl rfl (by omega)) ?_))))
    refine jo_pure rfl (pr_assign rfl) (jo_nil ?_)
    refine jq_round' (i + 1) (by (try dsimp only); exact (⟨by omega, hinv.2.1, fun k9 hk => by rcases Nat.lt_or_ge k9 i with q | q; exact hinv.2.2 k9 q; have e : k9 = i := (by omega); rw [e]; exact sub_good ⟨by omega, by omega⟩ (by have h9 := hink.2; rw [take_over (s := ((cutAt 45 [] s).getD i [])) (i := k) (by omega)] at h9; exact h9)⟩)) (by (try dsimp only); exact (by omega)) ⟨rfl, rfl, trivial⟩ (fun _ h => h)
 ·have h1 := of_decide_eq_false h1b
  refine jc_exit ?_
  refine jq_then_exit ?_
  refine jq_then_exit ?_
  refine jq_in_hit ?_
  refine jq_then (jc_seq (jc_region (jo_pure rfl (pr_assign rfl) (jo_nil (jq_then ?_)))))
  refine jc_ret (j_drop ?_)
  exact jq_ret1 rfl () rfl (show (.bool (tagF s) : Value) = (.bool (true)) from congrArg Value.bool (by rw [tag_end (s := s) (fun k hk => hinv.2.2 k (by have hk2 : k < (cutAt 45 [] s).length := hk; omega))])) (fun _ h => h)

theorem c_internal_stringslite_HasPrefix (s : List UInt8) (p : List UInt8)  : Con Tryz.prog 116 #[str (s), str (p)] [] (fun _ : Unit => .bool (hasP s p)) (fun _ => []) := by
 refine con_of_J (args := [str (s), str (p)]) (n := 18) Tryz.func116 rfl (Nat.le_of_ble_eq_true rfl) rfl (fun w0 I0 m0 => ?_)
 show J _ [(0, str (s)), (1, str (p))] [] _
 refine jc_seq (jc_region (jo_pure rfl (pr_assign rfl) (jo_nil (jq_then (jc_seq ?_)))))
 refine jc_region (jo_pure rfl (pr_move rfl) (jo_pure rfl (pr_slen rfl Tryz.underlying9) ?_))
 refine jo_pure rfl (pr_move rfl) (jo_pure rfl (pr_slen rfl Tryz.underlying9) ?_)
 refine jo_pure rfl (pr_geqN (m := s.length) (n := p.length) rfl rfl) ?_
 refine jo_pure rfl (pr_move rfl) (jo_gpure (j := 5) (want := true) rfl rfl rfl rfl (fun hg => pr_move rfl) ?_)
 refine jo_gpure (j := 5) (want := true) rfl rfl rfl rfl (fun hg => pr_move rfl) ?_
 refine jo_gpure (j := 5) (want := true) rfl rfl rfl rfl (fun hg => pr_slen (evg rfl hg) Tryz.underlying9) ?_
 refine jo_gpure (j := 5) (want := true) rfl rfl rfl rfl (fun hg => pr_sslice_hi (j := p.length) (evg rfl hg) (evg rfl hg) Tryz.underlying9 (by first | omega | (have := of_decide_eq_true (eq_of_beq hg); omega))) ?_
 refine jo_gpure (j := 5) (want := true) rfl rfl rfl rfl (fun hg => pr_move rfl) ?_
 refine jo_gpure (j := 5) (want := true) rfl rfl rfl rfl (fun hg => pr_seql (evg rfl hg) (evg rfl hg)) ?_
 refine jo_pure rfl (pr_pick_and rfl rfl rfl) ?_
 refine jo_pure rfl (pr_assign rfl) (jo_nil (jq_then (jc_ret ?_)))
 exact jq_ret1 rfl () rfl (show (.bool (hasP s p) : Value) = (.bool ((decide ((p.length : Nat) ≤ s.length) && decide ((s.take p.length : List UInt8) = p)))) from rfl) (fun _ h => h)

theorem c_strings_HasPrefix (s : List UInt8) (p : List UInt8)  : Con Tryz.prog 96 #[str (s), str (p)] [] (fun _ : Unit => .bool (hasP s p)) (fun _ => []) := by
 refine con_of_J (args := [str (s), str (p)]) (n := 8) Tryz.func96 rfl (Nat.le_of_ble_eq_true rfl) rfl (fun w0 I0 m0 => ?_)
 show J _ [(0, str (s)), (1, str (p))] [] _
 refine jc_seq (jc_region (jo_pure rfl (pr_assign rfl) (jo_nil (jq_then (jc_seq ?_)))))
 refine jc_region (jo_pure rfl (pr_move rfl) (jo_pure rfl (pr_move rfl) ?_))
 refine jo_callp cal_116 (c_internal_stringslite_HasPrefix s p) ⟨rfl, rfl, trivial⟩ rfl (trivial) (fun _ => ?_)
 refine jo_pure rfl (pr_assign rfl) (jo_nil (jq_then (jc_ret ?_)))
 exact jq_ret1 rfl () rfl (show (.bool (hasP s p) : Value) = (.bool (hasP s p)) from rfl) (fun _ h => h)

theorem c_language_Match (r : List UInt8) (t : List UInt8) (hr : r.length ≤ 1000000) (ht : t.length ≤ 1000000) : Con Tryz.prog 67 #[str (r), str (t)] [] (fun _ : Unit => .int .i64 (matchL r t)) (fun _ => []) := by
 refine con_of_J (args := [str (r), str (t)]) (n := 26) Tryz.func67 rfl (Nat.le_of_ble_eq_true rfl) rfl (fun w0 I0 m0 => ?_)
 show J _ [(0, str (r)), (1, str (t))] [] _
 refine jc_seq (jc_region (jo_pure rfl (pr_assign rfl) (jo_nil (jq_then (jc_seq ?_)))))
 refine jc_seq (jc_region (jo_pure rfl (pr_move rfl) ?_))
 refine jo_callp cal_92 (c_language_Range r (by first | omega | rfl)) ⟨rfl, trivial⟩ rfl (trivial) (fun _ => ?_)
 refine jo_pure rfl (pr_not rfl) ?_
 refine jo_pure rfl (pr_move rfl) (jo_gpure (j := 3) (want := false) rfl rfl rfl rfl (fun hg => pr_move rfl) ?_)
 refine jo_gcall (j := 3) (want := false) rfl rfl rfl cal_36 (fun hg => c_language_Tag t (by first | omega | rfl)) (fun hg => ⟨evg rfl hg, trivial⟩) rfl (fun _ => trivial) ?_
 refine jo_gpure (j := 3) (want := false) rfl rfl rfl rfl (fun hg => pr_not (evg rfl hg)) ?_
 refine jo_pure rfl (pr_pick_or rfl rfl rfl) ?_
 refine jo_nil (jq_then ?_)
 refine jc_cond rfl (fun h1b => ?_) (fun h1b => ?_)
 ·have h1 := (fun q => Or.imp (fun q => id (bt_not q)) (fun q => id (bt_not q)) (bt_or q)) h1b
  refine jc_seq (jc_region (jo_pure rfl (pr_assign rfl) (jo_nil (jq_then (jc_ret ?_)))))
  refine jq_then_ret ?_
  exact jq_ret1 rfl () rfl (show (.int .i64 (matchL r t) : Value) = (.int .i64 (-1)) from congrArg (Value.int .i64) (by rw [tagM_no h1])) (fun _ h => h)
 ·have h1 := (fun q => And.imp (fun q => id (bf_not q)) (fun q => id (bf_not q)) (bf_or q)) h1b
  refine jc_skip (jq_then (jc_seq (jc_seq (jc_region (jo_pure rfl (pr_move rfl) ?_)))))
  refine jo_pure rfl (pr_seql rfl rfl) ?_
  refine jo_nil (jq_then ?_)
  refine jc_cond rfl (fun h2b => ?_) (fun h2b => ?_)
  ·have h2 := of_decide_eq_true h2b
   refine jc_seq (jc_region (jo_pure rfl (pr_assign rfl) (jo_nil (jq_then (jc_ret ?_)))))
   refine jq_then_ret ?_
   exact jq_ret1 rfl () rfl (show (.int .i64 (matchL r t) : Value) = (.int .i64 ((0 : Nat) : Int)) from congrArg (Value.int .i64) (by rw [tagM_all (by rw [h1.1, h1.2]; simp) h2]; rfl)) (fun _ h => h)
  ·have h2 := of_decide_eq_false h2b
   refine jc_skip (jq_then (jc_seq (jc_seq (jc_region (jo_pure rfl (pr_move rfl) ?_)))))
   refine jo_callp cal_42 (c_ascii_Lower t (by first | omega | rfl)) ⟨rfl, trivial⟩ rfl (trivial) (fun _ => ?_)
   refine jo_pure rfl (pr_sadd rfl rfl (by simp only [lower_length, List.length_cons, List.length_nil]; omega)) ?_
   refine jo_pure rfl (pr_move rfl) ?_
   refine jo_callp cal_42 (c_ascii_Lower r (by first | omega | rfl)) ⟨rfl, trivial⟩ rfl (trivial) (fun _ => ?_)
   refine jo_pure rfl (pr_sadd rfl rfl (by simp only [lower_length, List.length_cons, List.length_nil]; omega)) ?_
   refine jo_callp cal_96 (c_strings_HasPrefix ((lower t) ++ [45]) ((lower r) ++ [45])) ⟨rfl, rfl, trivial⟩ rfl (trivial) (fun _ => ?_)
   refine jo_pure rfl (pr_not rfl) ?_
   refine jo_nil (jq_then ?_)
   refine jc_cond rfl (fun h3b => ?_) (fun h3b => ?_)
   ·have h3 := (fun q => id (bt_not q)) h3b
    refine jc_seq (jc_region (jo_pure rfl (pr_assign rfl) (jo_nil (jq_then (jc_ret ?_)))))
    refine jq_then_ret ?_
    exact jq_ret1 rfl () rfl (show (.int .i64 (matchL r t) : Value) = (.int .i64 (-1)) from congrArg (Value.int .i64) (by rw [tagM_not (by rw [h1.1, h1.2]; simp) h2 h3])) (fun _ h => h)
   ·have h3 := (fun q => id (bf_not q)) h3b
    refine jc_skip (jq_then (jc_seq (jc_region (jo_pure rfl (pr_move rfl) ?_))))
    refine jo_callp cal_97 (c_strings_Count r [45] 45 (by first | omega | rfl) (by first | omega | rfl)) ⟨rfl, rfl, trivial⟩ rfl (trivial) (fun _ => ?_)
    refine jo_pure rfl (pr_addN (m := List.count 45 r) (n := 1) rfl rfl (by have := count_len 45 r; omega)) ?_
    refine jo_pure rfl (pr_assign rfl) (jo_nil (jq_then (jc_ret ?_)))
    exact jq_ret1 rfl () rfl (show (.int .i64 (matchL r t) : Value) = (.int .i64 (((List.count 45 r) + 1 : Nat) : Int)) from congrArg (Value.int .i64) (by rw [tagM_pre (by rw [h1.1, h1.2]; simp) h2 h3])) (fun _ h => h)

theorem c_accept_Match (kind : Int) (r : List UInt8) (v : List UInt8) (hr : r.length ≤ 1000000) (hv : v.length ≤ 1000000) : Con Tryz.prog 38 #[.int .i64 (kind), str (r), str (v)] [] (fun _ : Unit => .int .i64 (matchK kind r v)) (fun _ => []) := by
 refine con_of_J (args := [.int .i64 (kind), str (r), str (v)]) (n := 57) Tryz.func38 rfl (Nat.le_of_ble_eq_true rfl) rfl (fun w0 I0 m0 => ?_)
 show J _ [(0, .int .i64 (kind)), (1, str (r)), (2, str (v))] [] _
 refine jc_seq (jc_region (jo_pure rfl (pr_assign rfl) (jo_nil (jq_then (jc_seq ?_)))))
 refine jc_seq ?_
 by_cases hk1 : kind = 1
 ·skip
  refine jc_region (jo_pure rfl (pr_move rfl) (jo_nil (jq_then (jc_block (jc_seq ?_)))))
  refine jc_region (jo_pure rfl (pr_eql (n := 1) rfl rfl) ?_)
  refine jo_pure rfl (pr_assign rfl) (jo_nil (jq_then (jc_true rfl (decide_eq_true hk1) ?_)))
  refine jc_seq (jc_region (jo_pure rfl (pr_move rfl) ?_))
  refine jo_callp cal_62 (c_mediatype_ParseRange r (by omega)) ⟨rfl, trivial⟩ rfl (trivial) (fun r1 => ?_)
  show J _ _ [.row (r1) 81 (.pair .str .str) ((parseR r).1.2.2)] _
  refine jo_pure rfl (pr_move rfl) (jo_pure rfl (pr_extract rfl rfl) ?_)
  refine jo_pure rfl (pr_extract rfl rfl) ?_
  refine jo_alloc ty_64 [str ([]), str ([]), .slice none 0 0] rfl rfl (fun b1 => ?_)
  refine jo_storeV rfl rfl ty_64 [str ((parseR r).1.1), str ((parseR r).1.2.1), r1] (fun _ _ _ _ => rfl) rfl (fun w I m hs => by simp only [List.all_cons, List.all_nil, Bool.and_true, Bool.and_eq_true]; exact ⟨rfl, rfl, (SliceV.one (row_slice (.tail _ (.head _)) hs))⟩) [str ((parseR r).1.1), str ((parseR r).1.2.1), r1] rfl rfl ?_
  refine jo_pure rfl (pr_assign rfl) (jo_nil (jq_then (jc_seq (jc_region (jo_pure rfl (pr_move rfl) ?_)))))
  refine jo_callp cal_35 (c_mediatype_Parse v (by omega)) ⟨rfl, trivial⟩ rfl (trivial) (fun r2 => ?_)
  show J _ _ [.row (r2) 81 (.pair .str .str) ((parseT v).1.2.2), .box b1 64 [str ((parseR r).1.1), str ((parseR r).1.2.1), r1], .row (r1) 81 (.pair .str .str) ((parseR r).1.2.2)] _
  refine jo_pure rfl (pr_move rfl) (jo_pure rfl (pr_extract rfl rfl) ?_)
  refine jo_pure rfl (pr_extract rfl rfl) ?_
  refine jo_alloc ty_64 [str ([]), str ([]), .slice none 0 0] rfl rfl (fun b2 => ?_)
  refine jo_storeV rfl rfl ty_64 [str ((parseT v).1.1), str ((parseT v).1.2.1), r2] (fun _ _ _ _ => rfl) rfl (fun w I m hs => by simp only [List.all_cons, List.all_nil, Bool.and_true, Bool.and_eq_true]; exact ⟨rfl, rfl, (SliceV.one (row_slice (.tail _ (.head _)) hs))⟩) [str ((parseT v).1.1), str ((parseT v).1.2.1), r2] rfl rfl ?_
  refine jo_pure rfl (pr_assign rfl) (jo_nil (jq_then (jc_seq (jc_seq (jc_region ?_)))))
  refine jo_pure rfl (pr_move rfl) (jo_pure rfl (pr_not rfl) ?_)
  refine jo_pure rfl (pr_move rfl) (jo_gpure (j := 2) (want := false) rfl rfl rfl rfl (fun hg => pr_move rfl) ?_)
  refine jo_gpure (j := 2) (want := false) rfl rfl rfl rfl (fun hg => pr_not (evg rfl hg)) ?_
  refine jo_pure rfl (pr_pick_or rfl rfl rfl) ?_
  refine jo_nil (jq_then ?_)
  refine jc_cond rfl (fun h1b => ?_) (fun h1b => ?_)
  ·have h1 := (fun q => Or.imp (fun q => id (bt_not q)) (fun q => id (bt_not q)) (bt_or q)) h1b
   refine jc_seq (jc_region (jo_pure rfl (pr_assign rfl) (jo_nil (jq_then (jc_ret ?_)))))
   refine jq_then_ret (jq_in_ret ?_)
   refine jq_then_ret (j_drop (j_drop (j_drop (j_drop ?_))))
   exact jq_ret1 rfl () rfl (show (.int .i64 (matchK kind r v) : Value) = (.int .i64 (-1)) from congrArg (Value.int .i64) (by first | rw [mK1_no hk1 h1] | rw [mK1_yes hk1 h1])) (fun _ h => h)
  ·have h1 := (fun q => And.imp (fun q => id (bf_not q)) (fun q => id (bf_not q)) (bf_or q)) h1b
   refine jc_skip (jq_then (jc_seq (jc_region (jo_pure rfl (pr_load_box (.agg #[str ((parseR r).1.1), str ((parseR r).1.2.1), r1]) rfl ty_64 (.tail _ (.tail _ (.head _))) rfl (by decide) rfl) ?_))))
   refine jo_pure rfl (pr_load_box (.agg #[str ((parseT v).1.1), str ((parseT v).1.2.1), r2]) rfl ty_64 (.head _) rfl (by decide) rfl) ?_
   refine j_pull3 (j_pub_row (j_pull2 (j_pub_row ?_)))
   have con1 := c_mediatype_Match ((parseR r).1) r1 ((parseT v).1) r2 (by have := parseR_len r; omega) ((fun x hx => by have := (parseR_len r).2.2.2 x hx; omega)) (by have := parseT_len v; omega) ((fun x hx => by have := (parseT_len v).2.2.2 x hx; omega))
   refine jo_callp cal_66 con1 (by exact ⟨rfl, rfl, trivial⟩) rfl (by exact ⟨⟨rfl, .tail _ (.head _)⟩, ⟨⟨rfl, .head _⟩, trivial⟩⟩) (fun _ => ?_)
   clear con1
   refine jo_pure rfl (pr_assign rfl) (jo_nil (jq_then (jc_ret (jq_in_ret ?_))))
   refine jq_then_ret (j_drop (j_drop (j_drop (j_drop ?_))))
   exact jq_ret1 rfl () rfl (show (.int .i64 (matchK kind r v) : Value) = (.int .i64 (matchT ((parseR r).1) ((parseT v).1))) from congrArg (Value.int .i64) (by first | rw [mK1_no hk1 h1] | rw [mK1_yes hk1 h1])) (fun _ h => h)
 ·skip
  by_cases hk2 : kind = 2
  ·skip
   refine jc_region (jo_pure rfl (pr_move rfl) (jo_nil (jq_then (jc_block (jc_seq ?_)))))
   refine jc_region (jo_pure rfl (pr_eql (n := 1) rfl rfl) ?_)
   refine jo_pure rfl (pr_assign rfl) (jo_nil (jq_then (jc_false rfl (decide_eq_false hk1) ?_)))
   refine jc_seq (jc_region (jo_pure rfl (pr_eql (n := 2) rfl rfl) ?_))
   refine jo_pure rfl (pr_assign rfl) (jo_nil (jq_then (jc_true rfl (decide_eq_true hk2) ?_)))
   refine jc_seq (jc_region (jo_pure rfl (pr_move rfl) (jo_pure rfl (pr_move rfl) ?_)))
   refine jo_callp cal_67 (c_language_Match r v (by omega) (by omega)) ⟨rfl, rfl, trivial⟩ rfl (trivial) (fun _ => ?_)
   refine jo_pure rfl (pr_assign rfl) (jo_nil (jq_then (jc_ret (jq_in_ret ?_))))
   refine jq_then_ret ?_
   exact jq_ret1 rfl () rfl (show (.int .i64 (matchK kind r v) : Value) = (.int .i64 (matchL r v)) from congrArg (Value.int .i64) (by rw [mK2 hk1 hk2])) (fun _ h => h)
  ·skip
   by_cases hk3 : kind = 3
   ·skip
    refine jc_region (jo_pure rfl (pr_move rfl) (jo_nil (jq_then (jc_block (jc_seq ?_)))))
    refine jc_region (jo_pure rfl (pr_eql (n := 1) rfl rfl) ?_)
    refine jo_pure rfl (pr_assign rfl) (jo_nil (jq_then (jc_false rfl (decide_eq_false hk1) ?_)))
    refine jc_seq (jc_region (jo_pure rfl (pr_eql (n := 2) rfl rfl) ?_))
    refine jo_pure rfl (pr_assign rfl) (jo_nil (jq_then (jc_false rfl (decide_eq_false hk2) ?_)))
    refine jc_seq (jc_seq (jc_region (jo_pure rfl (pr_eql (n := 3) rfl rfl) ?_)))
    refine jo_pure rfl (pr_assign rfl) (jo_nil (jq_then (jc_true rfl (decide_eq_true hk3) ?_)))
    refine jc_skip (jq_then (jc_true rfl (decide_eq_true hk3) ?_))
    refine jc_seq (jc_seq (jc_region (jo_pure rfl (pr_move rfl) ?_)))
    refine jo_callp cal_37 (c_ascii_Token r (by omega)) ⟨rfl, trivial⟩ rfl (trivial) (fun _ => ?_)
    refine jo_pure rfl (pr_not rfl) ?_
    refine jo_pure rfl (pr_move rfl) (jo_gpure (j := 3) (want := false) rfl rfl rfl rfl (fun hg => pr_move rfl) ?_)
    refine jo_gcall (j := 3) (want := false) rfl rfl rfl cal_37 (fun hg => c_ascii_Token v (by omega)) (fun hg => ⟨evg rfl hg, trivial⟩) rfl (fun _ => trivial) ?_
    refine jo_gpure (j := 3) (want := false) rfl rfl rfl rfl (fun hg => pr_not (evg rfl hg)) ?_
    refine jo_pure rfl (pr_pick_or rfl rfl rfl) ?_
    refine jo_pure rfl (pr_move rfl) (jo_gpure (j := 8) (want := false) rfl rfl rfl rfl (fun hg => pr_move rfl) ?_)
    refine jo_gpure (j := 8) (want := false) rfl rfl rfl rfl (fun hg => pr_seql (evg rfl hg) rfl) ?_
    refine jo_pure rfl (pr_pick_or rfl rfl rfl) ?_
    refine jo_nil (jq_then ?_)
    refine jc_cond rfl (fun h2b => ?_) (fun h2b => ?_)
    ·have h2 := (fun q => Or.imp (fun q => Or.imp (fun q => id (bt_not q)) (fun q => id (bt_not q)) (bt_or q)) of_decide_eq_true (bt_or q)) h2b
     refine jc_seq (jc_region (jo_pure rfl (pr_assign rfl) (jo_nil (jq_then (jc_ret ?_)))))
     refine jq_then_ret (jq_in_ret ?_)
     refine jq_then_ret ?_
     exact jq_ret1 rfl () rfl (show (.int .i64 (matchK kind r v) : Value) = (.int .i64 (-1)) from congrArg (Value.int .i64) (by first | rw [mK3_no hk1 hk2 (.inl hk3) h2] | rw [mK3_yes hk1 hk2 (.inl hk3) h2])) (fun _ h => h)
    ·have h2 := (fun q => And.imp (fun q => And.imp (fun q => id (bf_not q)) (fun q => id (bf_not q)) (bf_or q)) of_decide_eq_false (bf_or q)) h2b
     refine jc_skip (jq_then (jc_seq (jc_region (jo_pure rfl (pr_move rfl) (jo_pure rfl (pr_move rfl) ?_)))))
     refine jo_pure rfl (pr_move rfl) ?_
     refine jo_callp cal_68 (c_coding_Match kind r v (by omega) (by omega)) ⟨rfl, rfl, rfl, trivial⟩ rfl (trivial) (fun _ => ?_)
     refine jo_pure rfl (pr_assign rfl) (jo_nil (jq_then (jc_ret (jq_in_ret ?_))))
     refine jq_then_ret ?_
     exact jq_ret1 rfl () rfl (show (.int .i64 (matchK kind r v) : Value) = (.int .i64 (matchCoding kind r v)) from congrArg (Value.int .i64) (by first | rw [mK3_no hk1 hk2 (.inl hk3) h2] | rw [mK3_yes hk1 hk2 (.inl hk3) h2])) (fun _ h => h)
   ·skip
    by_cases hk4 : kind = 4
    ·skip
     refine jc_region (jo_pure rfl (pr_move rfl) (jo_nil (jq_then (jc_block (jc_seq ?_)))))
     refine jc_region (jo_pure rfl (pr_eql (n := 1) rfl rfl) ?_)
     refine jo_pure rfl (pr_assign rfl) (jo_nil (jq_then (jc_false rfl (decide_eq_false hk1) ?_)))
     refine jc_seq (jc_region (jo_pure rfl (pr_eql (n := 2) rfl rfl) ?_))
     refine jo_pure rfl (pr_assign rfl) (jo_nil (jq_then (jc_false rfl (decide_eq_false hk2) ?_)))
     refine jc_seq (jc_seq (jc_region (jo_pure rfl (pr_eql (n := 3) rfl rfl) ?_)))
     refine jo_pure rfl (pr_assign rfl) (jo_nil (jq_then (jc_false rfl (decide_eq_false hk3) ?_)))
     refine jc_region (jo_pure rfl (pr_eql (n := 4) rfl rfl) ?_)
     refine jo_pure rfl (pr_assign rfl) (jo_nil (jq_then (jc_true rfl (decide_eq_true hk4) ?_)))
     refine jc_seq (jc_seq (jc_region (jo_pure rfl (pr_move rfl) ?_)))
     refine jo_callp cal_37 (c_ascii_Token r (by omega)) ⟨rfl, trivial⟩ rfl (trivial) (fun _ => ?_)
     refine jo_pure rfl (pr_not rfl) ?_
     refine jo_pure rfl (pr_move rfl) (jo_gpure (j := 3) (want := false) rfl rfl rfl rfl (fun hg => pr_move rfl) ?_)
     refine jo_gcall (j := 3) (want := false) rfl rfl rfl cal_37 (fun hg => c_ascii_Token v (by omega)) (fun hg => ⟨evg rfl hg, trivial⟩) rfl (fun _ => trivial) ?_
     refine jo_gpure (j := 3) (want := false) rfl rfl rfl rfl (fun hg => pr_not (evg rfl hg)) ?_
     refine jo_pure rfl (pr_pick_or rfl rfl rfl) ?_
     refine jo_pure rfl (pr_move rfl) (jo_gpure (j := 8) (want := false) rfl rfl rfl rfl (fun hg => pr_move rfl) ?_)
     refine jo_gpure (j := 8) (want := false) rfl rfl rfl rfl (fun hg => pr_seql (evg rfl hg) rfl) ?_
     refine jo_pure rfl (pr_pick_or rfl rfl rfl) ?_
     refine jo_nil (jq_then ?_)
     refine jc_cond rfl (fun h3b => ?_) (fun h3b => ?_)
     ·have h3 := (fun q => Or.imp (fun q => Or.imp (fun q => id (bt_not q)) (fun q => id (bt_not q)) (bt_or q)) of_decide_eq_true (bt_or q)) h3b
      refine jc_seq (jc_region (jo_pure rfl (pr_assign rfl) (jo_nil (jq_then (jc_ret ?_)))))
      refine jq_then_ret (jq_in_ret ?_)
      refine jq_then_ret ?_
      exact jq_ret1 rfl () rfl (show (.int .i64 (matchK kind r v) : Value) = (.int .i64 (-1)) from congrArg (Value.int .i64) (by first | rw [mK3_no hk1 hk2 (.inr hk4) h3] | rw [mK3_yes hk1 hk2 (.inr hk4) h3])) (fun _ h => h)
     ·have h3 := (fun q => And.imp (fun q => And.imp (fun q => id (bf_not q)) (fun q => id (bf_not q)) (bf_or q)) of_decide_eq_false (bf_or q)) h3b
      refine jc_skip (jq_then (jc_seq (jc_region (jo_pure rfl (pr_move rfl) (jo_pure rfl (pr_move rfl) ?_)))))
      refine jo_pure rfl (pr_move rfl) ?_
      refine jo_callp cal_68 (c_coding_Match kind r v (by omega) (by omega)) ⟨rfl, rfl, rfl, trivial⟩ rfl (trivial) (fun _ => ?_)
      refine jo_pure rfl (pr_assign rfl) (jo_nil (jq_then (jc_ret (jq_in_ret ?_))))
      refine jq_then_ret ?_
      exact jq_ret1 rfl () rfl (show (.int .i64 (matchK kind r v) : Value) = (.int .i64 (matchCoding kind r v)) from congrArg (Value.int .i64) (by first | rw [mK3_no hk1 hk2 (.inr hk4) h3] | rw [mK3_yes hk1 hk2 (.inr hk4) h3])) (fun _ h => h)
    ·skip
     refine jc_region (jo_pure rfl (pr_move rfl) (jo_nil (jq_then (jc_block (jc_seq ?_)))))
     refine jc_region (jo_pure rfl (pr_eql (n := 1) rfl rfl) ?_)
     refine jo_pure rfl (pr_assign rfl) (jo_nil (jq_then (jc_false rfl (decide_eq_false hk1) ?_)))
     refine jc_seq (jc_region (jo_pure rfl (pr_eql (n := 2) rfl rfl) ?_))
     refine jo_pure rfl (pr_assign rfl) (jo_nil (jq_then (jc_false rfl (decide_eq_false hk2) ?_)))
     refine jc_seq (jc_seq (jc_region (jo_pure rfl (pr_eql (n := 3) rfl rfl) ?_)))
     refine jo_pure rfl (pr_assign rfl) (jo_nil (jq_then (jc_false rfl (decide_eq_false hk3) ?_)))
     refine jc_region (jo_pure rfl (pr_eql (n := 4) rfl rfl) ?_)
     refine jo_pure rfl (pr_assign rfl) (jo_nil (jq_then (jc_false rfl (decide_eq_false hk4) ?_)))
     refine jc_skip (jq_in_normal (jq_then (jc_seq (jc_region (jo_pure rfl (pr_assign rfl) ?_)))))
     refine jo_nil (jq_then (jc_ret ?_))
     exact jq_ret1 rfl () rfl (show (.int .i64 (matchK kind r v) : Value) = (.int .i64 (-1)) from congrArg (Value.int .i64) (by rw [mK5 hk1 hk2 hk3 hk4])) (fun _ h => h)

theorem c_strings_trimRightByte (s : List UInt8) (c : UInt8) (hs : s.length ≤ 1000000) : Con Tryz.prog 98 #[str (s), byte (c)] [] (fun _ : Unit => str (trimR (fun x : UInt8 => decide (x = c)) s)) (fun _ => []) := by
 refine con_of_J (args := [str (s), byte (c)]) (n := 23) Tryz.func98 rfl (Nat.le_of_ble_eq_true rfl) rfl (fun w0 I0 m0 => ?_)
 show J _ [(0, str (s)), (1, byte (c))] [] _
 refine jc_seq (jc_region (jo_pure rfl (pr_assign rfl) (jo_nil (jq_then (jc_seq ?_)))))
 refine jc_block ?_
 refine jc_loop (fun (t : List UInt8) => [(0, str (t)), (1, byte (c))]) (fun (t : List UInt8) => []) (fun (t : List UInt8) => trimR (fun x : UInt8 => decide (x = c)) t = trimR (fun x : UInt8 => decide (x = c)) s ∧ t.length ≤ s.length) (fun (t : List UInt8) => t.length) s (⟨rfl, Nat.le_refl _⟩) (⟨rfl, rfl, trivial⟩) (fun _ h => h) (fun t hinv => ?_)
 refine jc_seq (jc_seq (jc_region (jo_pure rfl (pr_move rfl) (jo_pure rfl (pr_slen rfl Tryz.underlying9) ?_))))
 refine jo_pure rfl (pr_gtrN (m := t.length) (n := 0) rfl rfl) ?_
 refine jo_pure rfl (pr_move rfl) (jo_gpure (j := 3) (want := true) rfl rfl rfl rfl (fun hg => pr_move rfl) ?_)
 refine jo_gpure (j := 3) (want := true) rfl rfl rfl rfl (fun hg => pr_move rfl) ?_
 refine jo_gpure (j := 3) (want := true) rfl rfl rfl rfl (fun hg => pr_slen (evg rfl hg) Tryz.underlying9) ?_
 refine jo_gpure (j := 3) (want := true) rfl rfl rfl rfl (fun hg => pr_subN (m := t.length) (n := 1) (evg rfl hg) rfl (by first | omega | (have := of_decide_eq_true (eq_of_beq hg); omega)) (by first | omega | (have := of_decide_eq_true (eq_of_beq hg); omega))) ?_
 refine jo_gpure (j := 3) (want := true) rfl rfl rfl rfl (fun hg => pr_sindex (i := t.length - 1) (evg rfl hg) (evg rfl hg) Tryz.underlying9 (by first | omega | (have := of_decide_eq_true (eq_of_beq hg); omega))) ?_
 refine jo_gpure (j := 3) (want := true) rfl rfl rfl rfl (fun hg => pr_move rfl) ?_
 refine jo_gpure (j := 3) (want := true) rfl rfl rfl rfl (fun hg => pr_beql (evg rfl hg) (evg rfl hg)) ?_
 refine jo_pure rfl (pr_pick_and rfl rfl rfl) ?_
 refine jo_nil (jq_then ?_)
 refine jc_cond rfl (fun h1b => ?_) (fun h1b => ?_)
 ·have h1 := (fun q => And.imp of_decide_eq_true of_decide_eq_true (bt_and q)) h1b
  refine jc_skip (jq_then (jc_block (jc_region (jo_pure rfl (pr_move rfl) (jo_pure rfl (pr_move rfl) ?_)))))
  refine jo_pure rfl (pr_slen rfl Tryz.underlying9) ?_
  refine jo_pure rfl (pr_subN (m := t.length) (n := 1) rfl rfl (by first | omega | (have := of_decide_eq_true (eq_of_beq hg); omega)) (by first | omega | (have := of_decide_eq_true (eq_of_beq hg); omega))) ?_
  refine jo_pure rfl (pr_sslice_hi (j := t.length - 1) rfl rfl Tryz.underlying9 (by omega)) ?_
  refine jo_pure rfl (pr_assign rfl) (jo_nil (jq_in_normal ?_))
  refine jq_round' (t.take (t.length - 1)) (by (try dsimp only); exact (⟨(trimR_step h1.1 (by simpa using h1.2)).trans hinv.1, by simp; omega⟩)) (by (try dsimp only); exact (by simp; omega)) ⟨rfl, rfl, trivial⟩ (fun _ h => h)
 ·have h1 := (fun q => Or.imp of_decide_eq_false of_decide_eq_false (bf_and q)) h1b
  refine jc_exit ?_
  refine jq_then_exit ?_
  refine jq_then_exit ?_
  refine jq_in_hit ?_
  refine jq_then (jc_seq (jc_region (jo_pure rfl (pr_move rfl) (jo_pure rfl (pr_assign rfl) (jo_nil ?_)))))
  refine jq_then (jc_ret ?_)
  exact jq_ret1 rfl () rfl (show (str (trimR (fun x : UInt8 => decide (x = c)) s) : Value) = (str (t)) from congrArg str (by rw [← hinv.1, trimR_end (p := (fun x : UInt8 => decide (x = c))) (s := t) (h1.imp (fun q => by omega) (fun q => by simpa using q))])) (fun _ h => h)

theorem c_strings_TrimRight (s : List UInt8) (cut : List UInt8) (c : UInt8) (hcut : cut = [c]) (hc : c < 128) (hs : s.length ≤ 1000000) : Con Tryz.prog 69 #[str (s), str (cut)] [] (fun _ : Unit => str (trimR (fun x : UInt8 => decide (x = c)) s)) (fun _ => []) := by
 refine con_of_J (args := [str (s), str (cut)]) (n := 37) Tryz.func69 rfl (Nat.le_of_ble_eq_true rfl) rfl (fun w0 I0 m0 => ?_)
 show J _ [(0, str (s)), (1, str (cut))] [] _
 refine jc_seq (jc_region (jo_pure rfl (pr_assign rfl) (jo_nil (jq_then (jc_seq ?_)))))
 refine jc_seq (jc_region (jo_pure rfl (pr_move rfl) (jo_pure rfl (pr_seql rfl rfl) ?_)))
 refine jo_pure rfl (pr_move rfl) (jo_gpure (j := 2) (want := false) rfl rfl rfl rfl (fun hg => pr_move rfl) ?_)
 refine jo_gpure (j := 2) (want := false) rfl rfl rfl rfl (fun hg => pr_seql (evg rfl hg) rfl) ?_
 refine jo_pure rfl (pr_pick_or rfl rfl rfl) ?_
 refine jo_nil (jq_then ?_)
 refine jc_cond rfl (fun h1b => ?_) (fun h1b => ?_)
 ·have h1 := (fun q => Or.imp of_decide_eq_true of_decide_eq_true (bt_or q)) h1b
  refine jc_seq (jc_region (jo_pure rfl (pr_move rfl) (jo_pure rfl (pr_assign rfl) (jo_nil (jq_then ?_)))))
  refine jc_ret (jq_then_ret ?_)
  exact jq_ret1 rfl () rfl (show (str (trimR (fun x : UInt8 => decide (x = c)) s) : Value) = (str (s)) from congrArg str (by rcases h1 with h1 | h1; rw [h1]; rfl; rw [hcut] at h1; cases h1)) (fun _ h => h)
 ·have h1 := (fun q => And.imp of_decide_eq_false of_decide_eq_false (bf_or q)) h1b
  refine jc_skip (jq_then (jc_seq (jc_seq (jc_region (jo_pure rfl (pr_move rfl) ?_)))))
  refine jo_pure rfl (pr_slen rfl Tryz.underlying9) ?_
  refine jo_pure rfl (pr_eqlN (m := cut.length) (n := 1) rfl rfl) ?_
  refine jo_pure rfl (pr_move rfl) (jo_gpure (j := 3) (want := true) rfl rfl rfl rfl (fun hg => pr_move rfl) ?_)
  refine jo_gpure (j := 3) (want := true) rfl rfl rfl rfl (fun hg => pr_sindex (i := 0) (evg rfl hg) rfl Tryz.underlying9 (by rw [hcut]; exact Nat.one_pos)) ?_
  refine jo_gpure (j := 3) (want := true) rfl rfl rfl rfl (fun hg => pr_blss (n := 128) (evg rfl hg) rfl) ?_
  refine jo_pure rfl (pr_pick_and rfl rfl rfl) ?_
  refine jo_nil (jq_then ?_)
  refine jc_cond rfl (fun h2b => ?_) (fun h2b => ?_)
  ·have h2 := (fun q => And.imp of_decide_eq_true of_decide_eq_true (bt_and q)) h2b
   refine jc_seq (jc_region (jo_pure rfl (pr_move rfl) (jo_pure rfl (pr_move rfl) (jo_pure rfl (pr_sindex (i := 0) rfl rfl Tryz.underlying9 (by rw [hcut]; exact Nat.one_pos)) ?_))))
   refine jo_callp cal_98 (c_strings_trimRightByte s (cut.getD 0 0) (by omega)) ⟨rfl, rfl, trivial⟩ rfl (trivial) (fun _ => ?_)
   refine jo_pure rfl (pr_assign rfl) (jo_nil (jq_then (jc_ret (jq_then_ret ?_))))
   exact jq_ret1 rfl () rfl (show (str (trimR (fun x : UInt8 => decide (x = c)) s) : Value) = (str (trimR (fun x : UInt8 => decide (x = (cut.getD 0 0))) s)) from congrArg str (by rw [hcut]; rfl)) (fun _ h => h)
  ·have h2 := (fun q => Or.imp of_decide_eq_false of_decide_eq_false (bf_and q)) h2b
   exact absurd h2 (by rw [hcut]; simp [UInt8.not_le.2 hc, hc])

theorem c_qvalue_Format (q : Int)  : Con Tryz.prog 40 #[.int .i64 (q)] [] (fun _ : Unit => str (fmtQ q)) (fun _ => []) := by
 refine con_of_J (args := [.int .i64 (q)]) (n := 35) Tryz.func40 rfl (Nat.le_of_ble_eq_true rfl) rfl (fun w0 I0 m0 => ?_)
 show J _ [(0, .int .i64 (q))] [] _
 refine jc_seq (jc_region (jo_pure rfl (pr_assign rfl) (jo_nil (jq_then (jc_seq ?_)))))
 refine jc_block (jc_seq (jc_region (jo_pure rfl (pr_move rfl) (jo_pure rfl (pr_lss (n := 0) rfl rfl) ?_))))
 refine jo_pure rfl (pr_move rfl) (jo_gpure (j := 2) (want := false) rfl rfl rfl rfl (fun hg => pr_move rfl) ?_)
 refine jo_gpure (j := 2) (want := false) rfl rfl rfl rfl (fun hg => pr_gtr (n := 1000) (evg rfl hg) rfl) ?_
 refine jo_pure rfl (pr_pick_or rfl rfl rfl) ?_
 refine jo_pure rfl (pr_assign rfl) (jo_nil (jq_then ?_))
 refine jc_cond rfl (fun h1b => ?_) (fun h1b => ?_)
 ·have h1 := (fun q => Or.imp of_decide_eq_true of_decide_eq_true (bt_or q)) h1b
  refine jc_seq (jc_region (jo_pure rfl (pr_assign rfl) (jo_nil (jq_then (jc_ret ?_)))))
  refine jq_in_ret ?_
  refine jq_then_ret ?_
  exact jq_ret1 rfl () rfl (show (str (fmtQ q) : Value) = (str ([])) from congrArg str (by rw [fmtQ_out h1])) (fun _ h => h)
 ·have h1 := (fun q => And.imp of_decide_eq_false of_decide_eq_false (bf_or q)) h1b
  refine jc_seq (jc_region (jo_pure rfl (pr_move rfl) (jo_pure rfl (pr_eql (n := 0) rfl rfl) ?_)))
  refine jo_pure rfl (pr_assign rfl) (jo_nil (jq_then ?_))
  refine jc_cond rfl (fun h2b => ?_) (fun h2b => ?_)
  ·have h2 := of_decide_eq_true h2b
   refine jc_seq (jc_region (jo_pure rfl (pr_assign rfl) (jo_nil (jq_then (jc_ret ?_)))))
   refine jq_in_ret ?_
   refine jq_then_ret ?_
   exact jq_ret1 rfl () rfl (show (str (fmtQ q) : Value) = (str ([48])) from congrArg str (by rw [fmtQ_zero (fun e => by rcases e with e | e <;> omega) h2])) (fun _ h => h)
  ·have h2 := of_decide_eq_false h2b
   refine jc_seq (jc_region (jo_pure rfl (pr_move rfl) (jo_pure rfl (pr_eql (n := 1000) rfl rfl) ?_)))
   refine jo_pure rfl (pr_assign rfl) (jo_nil (jq_then ?_))
   refine jc_cond rfl (fun h3b => ?_) (fun h3b => ?_)
   ·have h3 := of_decide_eq_true h3b
    refine jc_seq (jc_region (jo_pure rfl (pr_assign rfl) (jo_nil (jq_then (jc_ret ?_)))))
    refine jq_in_ret ?_
    refine jq_then_ret ?_
    exact jq_ret1 rfl () rfl (show (str (fmtQ q) : Value) = (str ([49])) from congrArg str (by rw [fmtQ_one (fun e => by rcases e with e | e <;> omega) h2 h3])) (fun _ h => h)
   ·have h3 := of_decide_eq_false h3b
    refine jc_skip (jq_in_normal (jq_then (jc_seq (jc_region (jo_pure rfl (pr_move rfl) ?_)))))
    refine jo_pure rfl (pr_quoI (m := q) (n := ((100 : Nat) : Int)) rfl rfl (by omega) (by omega) (by omega)) ?_
    refine jo_pure rfl (pr_add (m := ((48 : Nat) : Int)) (n := (q / ((100 : Nat) : Int))) rfl rfl (by omega)) ?_
    refine jo_pure rfl (pr_intI_u8 (m := ((48 : Nat) : Int) + (q / ((100 : Nat) : Int))) rfl Tryz.underlying3 Tryz.underlying5 (by omega) (by omega)) ?_
    refine jo_pure rfl (pr_move rfl) (jo_pure rfl (pr_quoI (m := q) (n := ((10 : Nat) : Int)) rfl rfl (by omega) (by omega) (by omega)) ?_)
    refine jo_pure rfl (pr_remI (m := (q / ((10 : Nat) : Int))) (n := ((10 : Nat) : Int)) rfl rfl (by omega) (by omega)) ?_
    refine jo_pure rfl (pr_add (m := ((48 : Nat) : Int)) (n := ((q / ((10 : Nat) : Int)) % ((10 : Nat) : Int))) rfl rfl (by omega)) ?_
    refine jo_pure rfl (pr_intI_u8 (m := ((48 : Nat) : Int) + ((q / ((10 : Nat) : Int)) % ((10 : Nat) : Int))) rfl Tryz.underlying3 Tryz.underlying5 (by omega) (by omega)) ?_
    refine jo_pure rfl (pr_move rfl) (jo_pure rfl (pr_remI (m := q) (n := ((10 : Nat) : Int)) rfl rfl (by omega) (by omega)) ?_)
    refine jo_pure rfl (pr_add (m := ((48 : Nat) : Int)) (n := (q % ((10 : Nat) : Int))) rfl rfl (by omega)) ?_
    refine jo_pure rfl (pr_intI_u8 (m := ((48 : Nat) : Int) + (q % ((10 : Nat) : Int))) rfl Tryz.underlying3 Tryz.underlying5 (by omega) (by omega)) ?_
    refine jo_buildSlice (t := .u8) [UInt8.ofNat (((48 : Nat) : Int) + (q / ((100 : Nat) : Int))).toNat, UInt8.ofNat (((48 : Nat) : Int) + ((q / ((10 : Nat) : Int)) % ((10 : Nat) : Int))).toNat, UInt8.ofNat (((48 : Nat) : Int) + (q % ((10 : Nat) : Int))).toNat] [byte (UInt8.ofNat (((48 : Nat) : Int) + (q / ((100 : Nat) : Int))).toNat), byte (UInt8.ofNat (((48 : Nat) : Int) + ((q / ((10 : Nat) : Int)) % ((10 : Nat) : Int))).toNat), byte (UInt8.ofNat (((48 : Nat) : Int) + (q % ((10 : Nat) : Int))).toNat)] (fun a hf => by simp only [List.zipIdx_cons, List.zipIdx_nil, List.map_toArray, List.map_cons, List.map_nil, hf.ev (show ev _ (.tmp 20) = some (byte (UInt8.ofNat (((48 : Nat) : Int) + (q / ((100 : Nat) : Int))).toNat)) from rfl), hf.ev (show ev _ (.tmp 25) = some (byte (UInt8.ofNat (((48 : Nat) : Int) + ((q / ((10 : Nat) : Int)) % ((10 : Nat) : Int))).toNat)) from rfl), hf.ev (show ev _ (.tmp 29) = some (byte (UInt8.ofNat (((48 : Nat) : Int) + (q % ((10 : Nat) : Int))).toNat)) from rfl)] <;> rfl) rfl Tryz.underlying70 ty_5 rfl rfl rfl rfl rfl (fun g1 => ?_)
    refine jo_pure rfl (pr_assign rfl) (jo_nil (jq_then (jc_seq (jc_region (jo_pure rfl (pr_move rfl) ?_)))))
    refine j_row_of_rowg ?_
    refine jo_pure rfl (pr_b2s_row (E := 5) rfl (.head _) Tryz.underlying70 Tryz.underlying5 Tryz.underlying9) ?_
    refine jo_callp cal_69 (c_strings_TrimRight [UInt8.ofNat (((48 : Nat) : Int) + (q / ((100 : Nat) : Int))).toNat, UInt8.ofNat (((48 : Nat) : Int) + ((q / ((10 : Nat) : Int)) % ((10 : Nat) : Int))).toNat, UInt8.ofNat (((48 : Nat) : Int) + (q % ((10 : Nat) : Int))).toNat] [48] 48 (by first | rfl | decide | (show (digQ q).length ≤ 1000000; rw [digQ_length]; omega)) (by first | rfl | decide | (show (digQ q).length ≤ 1000000; rw [digQ_length]; omega)) (by first | rfl | decide | (show (digQ q).length ≤ 1000000; rw [digQ_length]; omega))) ⟨rfl, rfl, trivial⟩ rfl (trivial) (fun _ => ?_)
    refine jo_pure rfl (pr_sadd rfl rfl (by have := trimR_length (p := z48) (digQ q); rw [digQ_length] at this; have e : (trimR (fun x : UInt8 => decide (x = 48)) (digQ q)).length ≤ 3 := this; simp only [List.length_cons, List.length_nil]; unfold digQ at e; omega)) ?_
    refine jo_pure rfl (pr_assign rfl) (jo_nil (jq_then (jc_ret (j_drop ?_))))
    exact jq_ret1 rfl () rfl (show (str (fmtQ q) : Value) = (str ([48, 46] ++ (trimR (fun x : UInt8 => decide (x = 48)) [UInt8.ofNat (((48 : Nat) : Int) + (q / ((100 : Nat) : Int))).toNat, UInt8.ofNat (((48 : Nat) : Int) + ((q / ((10 : Nat) : Int)) % ((10 : Nat) : Int))).toNat, UInt8.ofNat (((48 : Nat) : Int) + (q % ((10 : Nat) : Int))).toNat]))) from congrArg str (by rw [fmtQ_some (fun e => by rcases e with e | e <;> omega) h2 h3]; rfl)) (fun _ h => h)

theorem c_grow_new (b n : Nat) (hn : n ≤ 1000000000) (hn0 : 0 < n) : Con Tryz.prog 102 #[.pointer (some ⟨b, 0, none⟩), .int .i64 ((n : Nat) : Int)] [.box b 72 [.pointer (some ⟨b, 0, none⟩), .slice none 0 0]] (fun r1 : Value => .tuple #[]) (fun r1 => [.box b 72 [.pointer (some ⟨b, 0, none⟩), r1], .row (r1) 5 .u8 ([])]) := by
 refine con_of_J (args := [.pointer (some ⟨b, 0, none⟩), .int .i64 ((n : Nat) : Int)]) (n := 30) Tryz.func102 rfl (Nat.le_of_ble_eq_true rfl) rfl (fun w0 I0 m0 => ?_)
 show J _ [(0, .pointer (some ⟨b, 0, none⟩)), (1, .int .i64 ((n : Nat) : Int))] [.box b 72 [.pointer (some ⟨b, 0, none⟩), .slice none 0 0]] _
 refine jc_seq ?_
 refine jc_held (fun (iq : Nat × Nat) => [(0, .pointer (some ⟨b, 0, none⟩)), (4, .slice (some ⟨iq.1, 0, none⟩) (0) (iq.2))]) (fun iq => [.rowg iq.1 (iq.2) 5 .u8 (([] : List UInt8)), .box b 72 [.pointer (some ⟨b, 0, none⟩), .slice none 0 0]]) [.box b 72 [.pointer (some ⟨b, 0, none⟩), .slice none 0 0]] mixed (fun lst hlst => ?_) (fun ⟨g1, cap1⟩ => ?_)
 ·subst hlst
  refine jh_take (listed' := #[true, false, false, false, false, false, false, false, false, false, false, false, false, false, false, false]) 0 rfl (by kernel_rfl) (by kernel_rfl) (by kernel_rfl) rfl (pr_move rfl) (fun _ h => h) rfl ?_
  refine jh_take (listed' := #[true, true, false, false, false, false, false, false, false, false, false, false, false, false, false, false]) 1 rfl (by kernel_rfl) (by kernel_rfl) (by kernel_rfl) rfl (pr_nilCheck rfl) (fun _ h => h) rfl ?_
  refine jh_take (listed' := #[true, true, true, false, false, false, false, false, false, false, false, false, false, false, false, false]) 2 rfl (by kernel_rfl) (by kernel_rfl) (by kernel_rfl) rfl (pr_fieldAddr 1 rfl Tryz.underlying72 rfl ty_70 rfl rfl) (fun _ h => h) rfl ?_
  refine jh_take (listed' := #[true, true, true, true, false, false, false, false, false, false, false, false, false, false, false, false]) 3 rfl (by kernel_rfl) (by kernel_rfl) (by kernel_rfl) rfl (pr_load_box (.slice none 0 0) rfl ty_70 (.head _) rfl (by decide) rfl) (fun _ h => h) rfl ?_
  refine jh_take (listed' := #[true, true, true, true, true, false, false, false, false, false, false, false, false, false, false, false]) 4 rfl (by kernel_rfl) (by kernel_rfl) (by kernel_rfl) rfl (pr_cap_nil rfl Tryz.underlying70) (fun _ h => h) rfl ?_
  refine jh_take (listed' := #[true, true, true, true, true, true, false, false, false, false, false, false, false, false, false, false]) 5 rfl (by kernel_rfl) (by kernel_rfl) (by kernel_rfl) rfl (pr_mulN (m := 2) (n := 0) rfl rfl (by omega)) (fun _ h => h) rfl ?_
  refine jh_take (listed' := #[true, true, true, true, true, true, true, false, false, false, false, false, false, false, false, false]) 6 rfl (by kernel_rfl) (by kernel_rfl) (by kernel_rfl) rfl (pr_move rfl) (fun _ h => h) rfl ?_
  refine jh_take (listed' := #[true, true, true, true, true, true, true, true, false, false, false, false, false, false, false, false]) 7 rfl (by kernel_rfl) (by kernel_rfl) (by kernel_rfl) rfl (pr_addN (m := 2 * 0) (n := n) rfl rfl (by omega)) (fun _ h => h) rfl ?_
  refine jh_take (listed' := #[true, true, true, true, true, true, true, true, false, true, false, false, false, false, false, false]) 9 rfl (by kernel_rfl) (by kernel_rfl) (by kernel_rfl) rfl (pr_move rfl) (fun _ h => h) rfl ?_
  refine jh_take (listed' := #[true, true, true, true, true, true, true, true, false, true, true, false, false, false, false, false]) 10 rfl (by kernel_rfl) (by kernel_rfl) (by kernel_rfl) rfl (pr_nilCheck rfl) (fun _ h => h) rfl ?_
  refine jh_take (listed' := #[true, true, true, true, true, true, true, true, false, true, true, true, false, false, false, false]) 11 rfl (by kernel_rfl) (by kernel_rfl) (by kernel_rfl) rfl (pr_fieldAddr 1 rfl Tryz.underlying72 rfl ty_70 rfl rfl) (fun _ h => h) rfl ?_
  refine jh_take (listed' := #[true, true, true, true, true, true, true, true, false, true, true, true, true, false, false, false]) 12 rfl (by kernel_rfl) (by kernel_rfl) (by kernel_rfl) rfl (pr_load_box (.slice none 0 0) rfl ty_70 (.head _) rfl (by decide) rfl) (fun _ h => h) rfl ?_
  refine jh_take (listed' := #[true, true, true, true, true, true, true, true, false, true, true, true, true, true, false, false]) 13 rfl (by kernel_rfl) (by kernel_rfl) (by kernel_rfl) rfl (pr_len rfl Tryz.underlying70) (fun _ h => h) rfl ?_
  refine jh_all [8] (by kernel_rfl) (by simp) (fun i hi => ?_)
  simp only [List.mem_cons, List.not_mem_nil, or_false] at hi
  subst hi
  ·refine jh_op rfl ?_
   refine jo_makeNoZero (n := (2 * 0) + n) (ps := #[3]) (t := 70) Tryz.func122 (by kernel_rfl) rfl (by kernel_rfl) (by kernel_rfl) rfl Tryz.underlying70 (by omega) rfl (fun g1 cap1 hcap1 => ?_)
   refine jh_in (listed' := #[true, true, true, true, true, true, true, true, true, true, true, true, true, true, false, false]) (fun _ h => Mem.drop1 (h)) rfl ?_
   refine jh_take (listed' := #[true, true, true, true, true, true, true, true, true, true, true, true, true, true, true, false]) 14 rfl (by kernel_rfl) (by kernel_rfl) (by kernel_rfl) rfl (pr_slice_own (h := 0) rfl rfl Tryz.underlying70 ty_5 (by omega)) (fun _ h => Mem.drop1 (h)) rfl ?_
   refine jh_take (listed' := #[true, true, true, true, true, true, true, true, true, true, true, true, true, true, true, true]) 15 rfl (by kernel_rfl) (by kernel_rfl) (by kernel_rfl) rfl (pr_assign rfl) (fun _ h => Mem.drop1 (h)) rfl ?_
   show J _ _ _ _
   refine j_pull1 (j_pull1 ?_)
   show JH _ _ _ _ _ _ _ _
   exact jh_done ⟨g1, cap1⟩ (by kernel_rfl) ⟨rfl, rfl, trivial⟩ (fun _ h => h)
 ·skip
  show J _ [(0, .pointer (some ⟨b, 0, none⟩)), (4, .slice (some ⟨g1, 0, none⟩) (0) (cap1))] [.rowg g1 (cap1) 5 .u8 (([] : List UInt8)), .box b 72 [.pointer (some ⟨b, 0, none⟩), .slice none 0 0]] _
  refine jq_then (jc_seq (jc_region (jo_pure rfl (pr_move rfl) (jo_pure rfl (pr_move rfl) (jo_pure rfl (pr_nilCheck rfl) ?_)))))
  refine jo_pure rfl (pr_fieldAddr 1 rfl Tryz.underlying72 rfl ty_70 rfl rfl) ?_
  refine jo_pure rfl (pr_load_box (.slice none 0 0) rfl ty_70 (.tail _ (.head _)) rfl (by decide) rfl) ?_
  refine jo_pure rfl (pr_copy_nil rfl rfl Tryz.underlying70 ty_5) ?_
  refine jo_nil (jq_then (jc_region (jo_pure rfl (pr_move rfl) (jo_pure rfl (pr_move rfl) (jo_pure rfl (pr_nilCheck rfl) ?_)))))
  refine jo_pure rfl (pr_fieldAddr 1 rfl Tryz.underlying72 rfl ty_70 rfl rfl) ?_
  refine j_pull1 (jo_store rfl rfl ty_70 [.slice (some ⟨g1, 0, none⟩) (0) (cap1)] rfl rfl rfl [.pointer (some ⟨b, 0, none⟩), .slice (some ⟨g1, 0, none⟩) (0) (cap1)] rfl rfl ?_)
  refine jo_nil (jq_fall (j_pull1 (j_row_of_rowg ?_)))
  refine j_pull1 ?_
  exact jq_ret0 rfl (.slice (some ⟨g1, 0, none⟩) (([] : List UInt8)).length (cap1)) (show (.tuple #[] : Value) = (.tuple #[]) from rfl) (fun _ h => h)

theorem c_Grow_new (b n : Nat) (hn : n ≤ 1000000000) (hn0 : 0 < n) : Con Tryz.prog 70 #[.pointer (some ⟨b, 0, none⟩), .int .i64 ((n : Nat) : Int)] [.box b 72 [.pointer none, .slice none 0 0]] (fun r1 : Value => .tuple #[]) (fun r1 => [.box b 72 [.pointer (some ⟨b, 0, none⟩), r1], .row (r1) 5 .u8 ([])]) := by
 refine con_of_J (args := [.pointer (some ⟨b, 0, none⟩), .int .i64 ((n : Nat) : Int)]) (n := 25) Tryz.func70 rfl (Nat.le_of_ble_eq_true rfl) rfl (fun w0 I0 m0 => ?_)
 show J _ [(0, .pointer (some ⟨b, 0, none⟩)), (1, .int .i64 ((n : Nat) : Int))] [.box b 72 [.pointer none, .slice none 0 0]] _
 refine jc_seq (jc_region (jo_pure rfl (pr_move rfl) ?_))
 refine jo_callm [] rfl cal_72 (c_copyCheck_new b (.slice none 0 0)) ⟨rfl, trivial⟩ rfl (fun _ => ?_)
 show J _ _ [.box b 72 [.pointer (some ⟨b, 0, none⟩), .slice none 0 0]] _
 refine jo_nil (jq_then (jc_seq (jc_seq (jc_region (jo_pure rfl (pr_move rfl) ?_)))))
 refine jo_pure rfl (pr_lssN (m := n) (n := 0) rfl rfl) ?_
 refine jo_nil (jq_then ?_)
 refine jc_cond rfl (fun h1b => ?_) (fun h1b => ?_)
 ·have h1 := of_decide_eq_true h1b
  exact absurd h1 (Nat.not_lt_zero _)
 ·have h1 := of_decide_eq_false h1b
  refine jc_skip (jq_then (jc_seq (jc_draws mixed (by kernel_rfl) (jd_pure rfl (pr_move rfl) ?_))))
  refine jd_pure rfl (pr_nilCheck rfl) ?_
  refine jd_pure rfl (pr_fieldAddr 1 rfl Tryz.underlying72 rfl ty_70 rfl rfl) ?_
  refine jd_pure rfl (pr_load_box (.slice none 0 0) rfl ty_70 (.head _) rfl (by decide) rfl) ?_
  refine jd_pure rfl (pr_cap_nil rfl Tryz.underlying70) ?_
  refine jd_pure rfl (pr_move rfl) ?_
  refine jd_pure rfl (pr_nilCheck rfl) ?_
  refine jd_pure rfl (pr_fieldAddr 1 rfl Tryz.underlying72 rfl ty_70 rfl rfl) ?_
  refine jd_pure rfl (pr_load_box (.slice none 0 0) rfl ty_70 (.head _) rfl (by decide) rfl) ?_
  refine jd_pure rfl (pr_len rfl Tryz.underlying70) ?_
  refine jd_pure rfl (pr_subN (m := 0) (n := 0) rfl rfl (by omega) (by omega)) ?_
  refine jd_pure rfl (pr_move rfl) ?_
  refine jd_pure rfl (pr_lssN (m := 0 - 0) (n := n) rfl rfl) ?_
  refine jd_nil ?_
  refine jq_then ?_
  refine jc_cond rfl (fun h2b => ?_) (fun h2b => ?_)
  ·have h2 := of_decide_eq_true h2b
   refine jc_region (jo_pure rfl (pr_move rfl) (jo_pure rfl (pr_move rfl) ?_))
   refine jo_callm [] rfl cal_102 (c_grow_new b n (by omega) (by omega)) ⟨rfl, rfl, trivial⟩ rfl (fun r1 => ?_)
   show J _ _ [.box b 72 [.pointer (some ⟨b, 0, none⟩), r1], .row (r1) 5 .u8 ([])] _
   refine jo_nil (jq_fall (j_pull1 (j_pull1 ?_)))
   exact jq_ret0 rfl r1 (show (.tuple #[] : Value) = (.tuple #[]) from rfl) (fun _ h => h)
  ·have h2 := of_decide_eq_false h2b
   exact absurd h2 (by omega)

theorem c_strings_Join (l : List (List UInt8)) (lv : Value) (sep : List UInt8) (hl : l.length ≤ 1000) (hm : ∀ x ∈ l, x.length ≤ 20000) (hs : 0 < sep.length) (hs2 : sep.length ≤ 10) : Con Tryz.prog 41 #[lv, str (sep)] [.imm (.list .str) (lv) (l)] (fun _ : Unit => str (joinS sep l)) (fun _ => []) := by
 refine con_of_J (args := [lv, str (sep)]) (n := 75) Tryz.func41 rfl (Nat.le_of_ble_eq_true rfl) rfl (fun w0 I0 m0 => ?_)
 show J _ [(0, lv), (1, str (sep))] [.imm (.list .str) (lv) (l)] _
 refine jc_seq (jc_region (jo_pure rfl (pr_assign rfl) (jo_nil (jq_then (jc_seq ?_)))))
 refine jc_seq (jc_region (jo_pure rfl (pr_move rfl) (jo_pure rfl (pr_len_imm rfl (.head _) Tryz.underlying28) ?_)))
 refine jo_nil (jq_then (jc_block (jc_seq (jc_region (jo_pure rfl (pr_eqlN (m := l.length) (n := 0) rfl rfl) ?_)))))
 refine jo_pure rfl (pr_assign rfl) (jo_nil (jq_then ?_))
 refine jc_cond rfl (fun h1b => ?_) (fun h1b => ?_)
 ·have h1 := of_decide_eq_true h1b
  refine jc_seq (jc_region (jo_pure rfl (pr_assign rfl) (jo_nil (jq_then (jc_ret ?_)))))
  refine jq_in_ret ?_
  refine jq_then_ret (j_drop ?_)
  exact jq_ret1 rfl () rfl (show (str (joinS sep l) : Value) = (str ([])) from congrArg str (by rw [List.length_eq_zero_iff.1 h1]; rfl)) (fun _ h => h)
 ·have h1 := of_decide_eq_false h1b
  refine jc_seq (jc_region (jo_pure rfl (pr_eqlN (m := l.length) (n := 1) rfl rfl) ?_))
  refine jo_pure rfl (pr_assign rfl) (jo_nil (jq_then ?_))
  refine jc_cond rfl (fun h2b => ?_) (fun h2b => ?_)
  ·have h2 := of_decide_eq_true h2b
   refine jc_seq (jc_region (jo_pure rfl (pr_move rfl) (jo_pure rfl (pr_idx_imm (i := 0) rfl (.head _) rfl Tryz.underlying28 ty_9 (by omega)) ?_)))
   refine jo_pure rfl (pr_load_elem_imm (i := 0) (str (l.getD 0 [])) rfl (.head _) ty_9 rfl rfl (by omega) rfl) ?_
   refine jo_pure rfl (pr_assign rfl) (jo_nil (jq_then (jc_ret (jq_in_ret ?_))))
   refine jq_then_ret (j_drop ?_)
   exact jq_ret1 rfl () rfl (show (str (joinS sep l) : Value) = (str (l.getD 0 [])) from congrArg str (by rw [← joinS_first (sep := sep) (by omega), joinS_all (by omega)])) (fun _ h => h)
  ·have h2 := of_decide_eq_false h2b
   refine jc_skip (jq_in_normal (jq_then (jc_seq (jc_region (jo_pure rfl (pr_assign rfl) ?_)))))
   refine jo_nil (jq_then (jc_seq (jc_seq (jc_region (jo_pure rfl (pr_move rfl) ?_)))))
   refine jo_pure rfl (pr_slen rfl Tryz.underlying9) ?_
   refine jo_pure rfl (pr_gtrN (m := sep.length) (n := 0) rfl rfl) ?_
   refine jo_nil (jq_then ?_)
   refine jc_cond rfl (fun h3b => ?_) (fun h3b => ?_)
   ·have h3 := of_decide_eq_true h3b
    refine jc_seq (jc_seq (jc_region (jo_pure rfl (pr_move rfl) (jo_pure rfl (pr_slen rfl Tryz.underlying9) ?_))))
    refine jo_pure rfl (pr_move rfl) (jo_pure rfl (pr_len_imm rfl (.head _) Tryz.underlying28) ?_)
    refine jo_pure rfl (pr_subN (m := l.length) (n := 1) rfl rfl (by omega) (by omega)) ?_
    refine jo_pure rfl (pr_quoN (m := 9223372036854775807) (n := l.length - 1) rfl rfl (by omega) (by omega)) ?_
    refine jo_pure rfl (pr_geqN (m := sep.length) (n := 9223372036854775807 / (l.length - 1)) rfl rfl) ?_
    refine jo_nil (jq_then ?_)
    refine jc_cond rfl (fun h4b => ?_) (fun h4b => ?_)
    ·have h4 := of_decide_eq_true h4b
     exact absurd h4 (by have := Nat.div_le_div_left (a := 9223372036854775807) (show l.length - 1 ≤ 1000 by omega) (by omega); omega)
    ·have h4 := of_decide_eq_false h4b
     have hmul := Nat.mul_le_mul hs2 (show l.length - 1 ≤ 1000 by omega)
     have hmul2 : 0 < sep.length * (l.length - 1) := Nat.mul_pos hs (by omega)
     have htl : ((l.take l.length).drop 1).length = l.length - 1 := by rw [List.take_length, List.length_drop]
     refine jc_skip (jq_then (jc_region (jo_pure rfl (pr_move rfl) (jo_pure rfl (pr_move rfl) (jo_pure rfl (pr_slen rfl Tryz.underlying9) ?_)))))
     refine jo_pure rfl (pr_move rfl) (jo_pure rfl (pr_len_imm rfl (.head _) Tryz.underlying28) ?_)
     refine jo_pure rfl (pr_subN (m := l.length) (n := 1) rfl rfl (by omega) (by omega)) ?_
     refine jo_pure rfl (pr_mulN (m := sep.length) (n := l.length - 1) rfl rfl (by have := Nat.mul_le_mul hs2 (Nat.sub_le l.length 1); omega)) ?_
     refine jo_pure rfl (pr_addN (m := 0) (n := sep.length * (l.length - 1)) rfl rfl (by first | omega | (have := getD_len (i := i) hm; omega))) ?_
     refine jo_pure rfl (pr_assign rfl) (jo_nil (jq_then (jc_seq (jc_seq (jc_region ?_)))))
     refine jo_pure rfl (pr_move rfl) (jo_pure rfl (pr_len_imm rfl (.head _) Tryz.underlying28) ?_)
     refine jo_pure rfl (pr_move rfl) (jo_nil (jq_then (jc_block ?_)))
     refine jc_loop2 (fun (i : Nat) (n : Nat) => [(0, lv), (1, str (sep)), (5, .int .i64 ((n : Nat) : Int)), (39, lv), (40, .int .i64 ((l.length : Nat) : Int)), (41, .int .i64 ((i : Nat) : Int))]) (fun (i : Nat) (n : Nat) => [.imm (.list .str) (lv) (l)]) (fun (i : Nat) (n : Nat) => i ≤ l.length ∧ 0 < n ∧ n ≤ 10000 + i * 20000) (fun (i : Nat) (n : Nat) => l.length - i) 0 (0 + (sep.length * (l.length - 1))) (⟨Nat.zero_le _, by omega, by omega⟩) (⟨rfl, rfl, rfl, rfl, rfl, rfl, trivial⟩) (fun _ h => h) (fun i n hinv => ?_)
     refine jc_seq (jc_region (jo_pure rfl (pr_lssN (m := i) (n := l.length) rfl rfl) ?_))
     refine jo_nil (jq_then (jc_seq ?_))
     refine jc_cond rfl (fun h5b => ?_) (fun h5b => ?_)
     ·have h5 := of_decide_eq_true h5b
      refine jc_skip (jq_then (jc_seq (jc_block (jc_seq (jc_region ?_)))))
      refine jo_pure rfl (pr_idx_imm (i := i) rfl (.head _) rfl Tryz.underlying28 ty_9 (by omega)) ?_
      refine jo_pure rfl (pr_load_elem_imm (i := i) (str (l.getD i [])) rfl (.head _) ty_9 rfl rfl (by omega) rfl) ?_
      refine jo_pure rfl (pr_assign rfl) (jo_nil (jq_then (jc_seq (jc_seq (jc_region ?_)))))
      refine jo_pure rfl (pr_move rfl) (jo_pure rfl (pr_slen rfl Tryz.underlying9) ?_)
      refine jo_pure rfl (pr_move rfl) (jo_pure rfl (pr_subN (m := 9223372036854775807) (n := n) rfl rfl (by omega) (by omega)) ?_)
      refine jo_pure rfl (pr_gtrN (m := (l.getD i []).length) (n := 9223372036854775807 - n) rfl rfl) ?_
      refine jo_nil (jq_then ?_)
      refine jc_cond rfl (fun h6b => ?_) (fun h6b => ?_)
      ·have h6 := of_decide_eq_true h6b
       exact absurd h6 (by have := getD_len (i := i) hm; omega)
      ·have h6 := of_decide_eq_false h6b
       refine jc_skip (jq_then (jc_region (jo_pure rfl (pr_move rfl) (jo_pure rfl (pr_move rfl) (jo_pure rfl (pr_slen rfl Tryz.underlying9) ?_)))))
       refine jo_pure rfl (pr_addN (m := n) (n := (l.getD i []).length) rfl rfl (by first | omega | (have := getD_len (i := i) hm; omega))) ?_
       refine jo_pure rfl (pr_assign rfl) (jo_nil (jq_in_normal (jq_then (jc_region (jo_pure rfl (pr_addN (m := i) (n := 1) rfl rfl (by first | omega | (have := getD_len (i := i) hm; omega))) ?_)))))
       refine jo_pure rfl (pr_move rfl) (jo_nil ?_)
       refine jq_round' ((i + 1), (n + ((l.getD i []).length))) (by (try dsimp only); exact (⟨by omega, by omega, by have := getD_len (i := i) hm; omega⟩)) (by (try dsimp only); exact (by omega)) ⟨rfl, rfl, rfl, rfl, rfl, rfl, trivial⟩ (fun _ h => h)
     ·have h5 := of_decide_eq_false h5b
      refine jc_exit ?_
      refine jq_then_exit ?_
      refine jq_then_exit ?_
      refine jq_in_hit ?_
      refine jq_then (jc_seq (jc_region ?_))
      refine jo_alloc ty_72 [.pointer none, .slice none 0 0] rfl rfl (fun b1 => ?_)
      refine jo_nil (jq_then (jc_seq (jc_region (jo_pure rfl (pr_move rfl) ?_))))
      refine jo_callm [.imm (.list .str) (lv) (l)] rfl cal_70 (c_Grow_new b1 n (by omega) (by omega)) ⟨rfl, rfl, trivial⟩ rfl (fun r1 => ?_)
      show J _ _ [.box b1 72 [.pointer (some ⟨b1, 0, none⟩), r1], .row (r1) 5 .u8 ([]), .imm (.list .str) (lv) (l)] _
      refine jo_nil (jq_then (jc_seq (jc_region (jo_pure rfl (pr_move rfl) (jo_pure rfl (pr_idx_imm (i := 0) rfl (.tail _ (.tail _ (.head _))) rfl Tryz.underlying28 ty_9 (by omega)) ?_)))))
      refine jo_pure rfl (pr_load_elem_imm (i := 0) (str (l.getD 0 [])) rfl (.tail _ (.tail _ (.head _))) ty_9 rfl rfl (by omega) rfl) ?_
      refine j_pull1 (j_pull1 ?_)
      refine jo_callm [.imm (.list .str) (lv) (l)] rfl cal_44 (c_WriteString_used b1 r1 [] (l.getD 0 []) (by first | omega | (simp only [List.length_append, List.length_nil]; have := getD_len (i := 0) hm; omega) | (have := getD_len (i := k + 1) hm; rw [tail_get]; simp only [List.length_append]; omega) | (simp only [List.length_append]; omega))) ⟨rfl, rfl, trivial⟩ rfl (fun r2 => ?_)
      show J _ _ [.box b1 72 [.pointer (some ⟨b1, 0, none⟩), r2], .row (r2) 5 .u8 ([] ++ (l.getD 0 [])), .imm (.list .str) (lv) (l)] _
      refine jo_nil (jq_then (jc_seq (jc_seq (jc_region (jo_pure rfl (pr_move rfl) ?_)))))
      refine j_resl (l := 1) (h := l.length) (.tail _ (.tail _ (.head _))) (by omega) (by omega) ?_
      show J _ _ (.imm (.list .str) (resl (lv) (1) (l.length) 1) ((l.take l.length).drop 1) :: _) _
      refine jo_pure rfl (pr_slice_imm (l := 1) (h := l.length) rfl (.tail _ (.tail _ (.tail _ (.head _)))) Tryz.underlying28 ty_9 ⟨_, rfl⟩ rfl (by omega) (by omega)) ?_
      refine jo_pure rfl (pr_len_imm rfl (.head _) Tryz.underlying28) ?_
      refine jo_pure rfl (pr_move rfl) (jo_nil (jq_then (jc_block ?_)))
      refine jc_loop3 (fun (k : Nat) (bv : Value) (acc : List UInt8) => [(1, str (sep)), (8, .pointer (some ⟨b1, 0, none⟩)), (63, resl (lv) (1) (l.length) 1), (64, .int .i64 ((((l.take l.length).drop 1).length : Nat) : Int)), (65, .int .i64 ((k : Nat) : Int))]) (fun (k : Nat) (bv : Value) (acc : List UInt8) => [.imm (.list .str) (resl (lv) (1) (l.length) 1) ((l.take l.length).drop 1), .box b1 72 [.pointer (some ⟨b1, 0, none⟩), bv], .row (bv) 5 .u8 (acc), .imm (.list .str) (lv) (l)]) (fun (k : Nat) (bv : Value) (acc : List UInt8) => k ≤ ((l.take l.length).drop 1).length ∧ acc.length ≤ 20000 + k * 20010 ∧ acc = joinS sep (l.take (k + 1))) (fun (k : Nat) (bv : Value) (acc : List UInt8) => ((l.take l.length).drop 1).length - k) 0 r2 ([] ++ (l.getD 0 [])) (⟨Nat.zero_le _, by have := getD_len (i := 0) hm; simp only [List.nil_append]; omega, by rw [joinS_first (by omega), List.nil_append]⟩) (⟨rfl, rfl, rfl, rfl, rfl, trivial⟩) (fun _ h => h) (fun k bv acc hink => ?_)
      refine jc_seq (jc_region (jo_pure rfl (pr_lssN (m := k) (n := ((l.take l.length).drop 1).length) rfl rfl) ?_))
      refine jo_nil (jq_then (jc_seq ?_))
      refine jc_cond rfl (fun h7b => ?_) (fun h7b => ?_)
      ·have h7 := of_decide_eq_true h7b
       refine jc_skip (jq_then (jc_seq (jc_block (jc_seq (jc_region ?_)))))
       refine jo_pure rfl (pr_idx_imm (i := k) rfl (.head _) rfl Tryz.underlying28 ty_9 (by omega)) ?_
       refine jo_pure rfl (pr_load_elem_imm (i := k) (str (((l.take l.length).drop 1).getD k [])) rfl (.head _) ty_9 rfl rfl (by omega) rfl) ?_
       refine jo_pure rfl (pr_assign rfl) (jo_nil (jq_then (jc_seq (jc_region (jo_pure rfl (pr_move rfl) ?_)))))
       refine j_pull2 (j_pull2 ?_)
       refine jo_callm [.imm (.list .str) (resl (lv) (1) (l.length) 1) ((l.take l.length).drop 1), .imm (.list .str) (lv) (l)] rfl cal_44 (c_WriteString_used b1 bv acc sep (by first | omega | (simp only [List.length_append, List.length_nil]; have := getD_len (i := 0) hm; omega) | (have := getD_len (i := k + 1) hm; rw [tail_get]; simp only [List.length_append]; omega) | (simp only [List.length_append]; omega))) ⟨rfl, rfl, trivial⟩ rfl (fun r3 => ?_)
       show J _ _ [.box b1 72 [.pointer (some ⟨b1, 0, none⟩), r3], .row (r3) 5 .u8 (acc ++ sep), .imm (.list .str) (resl (lv) (1) (l.length) 1) ((l.take l.length).drop 1), .imm (.list .str) (lv) (l)] _
       refine jo_nil (jq_then (jc_region (jo_pure rfl (pr_move rfl) (j_pull1 (j_pull1 ?_)))))
       refine jo_callm [.imm (.list .str) (resl (lv) (1) (l.length) 1) ((l.take l.length).drop 1), .imm (.list .str) (lv) (l)] rfl cal_44 (c_WriteString_used b1 r3 (acc ++ sep) (((l.take l.length).drop 1).getD k []) (by first | omega | (simp only [List.length_append, List.length_nil]; have := getD_len (i := 0) hm; omega) | (have := getD_len (i := k + 1) hm; rw [tail_get]; simp only [List.length_append]; omega) | (simp only [List.length_append]; omega))) ⟨rfl, rfl, trivial⟩ rfl (fun r4 => ?_)
       show J _ _ [.box b1 72 [.pointer (some ⟨b1, 0, none⟩), r4], .row (r4) 5 .u8 ((acc ++ sep) ++ (((l.take l.length).drop 1).getD k [])), .imm (.list .str) (resl (lv) (1) (l.length) 1) ((l.take l.length).drop 1), .imm (.list .str) (lv) (l)] _
       refine jo_nil (jq_in_normal (jq_then (jc_region (jo_pure rfl (pr_addN (m := k) (n := 1) rfl rfl (by first | omega | (have := getD_len (i := i) hm; omega))) ?_))))
       refine jo_pure rfl (pr_move rfl) (jo_nil (j_pull3 (j_pull2 (j_pull2 (j_pull3 ?_)))))
       refine jq_round' ((k + 1), r4, ((acc ++ sep) ++ (((l.take l.length).drop 1).getD k []))) (by (try dsimp only); exact (⟨by omega, by have := getD_len (i := k + 1) hm; rw [tail_get]; simp only [List.length_append]; omega, by rw [tail_get, joinS_next (by omega) (by omega), hink.2.2]⟩)) (by (try dsimp only); exact (by omega)) ⟨rfl, rfl, rfl, rfl, rfl, trivial⟩ (fun _ h => h)
      ·have h7 := of_decide_eq_false h7b
       refine jc_exit ?_
       refine jq_then_exit ?_
       refine jq_then_exit ?_
       refine jq_in_hit ?_
       refine jq_then (jc_seq (jc_region (j_pull2 (j_pull2 ?_))))
       refine jo_callm [.imm (.list .str) (resl (lv) (1) (l.length) 1) ((l.take l.length).drop 1), .imm (.list .str) (lv) (l)] rfl cal_47 (c_Builder_String b1 (.pointer (some ⟨b1, 0, none⟩)) bv acc) ⟨rfl, trivial⟩ rfl (fun _ => ?_)
       show J _ _ [.imm (.list .str) (resl (lv) (1) (l.length) 1) ((l.take l.length).drop 1), .imm (.list .str) (lv) (l)] _
       refine jo_pure rfl (pr_assign rfl) (jo_nil (jq_then (jc_ret (j_drop (j_drop ?_)))))
       exact jq_ret1 rfl () rfl (show (str (joinS sep l) : Value) = (str (acc)) from congrArg str (by rw [hink.2.2, joinS_all (by omega)])) (fun _ h => h)
   ·have h3 := of_decide_eq_false h3b
    exact absurd hs h3

theorem c_accept_Format (l : List ((List UInt8) × Int)) (lv : Value) (hl : l.length ≤ 100) (hm : ∀ x ∈ l, x.1.length ≤ 15000) : Con Tryz.prog 19 #[lv] [.imm (.list (.pair .str (.int .i64))) (lv) (l)] (fun _ : Unit => str (fmtP l)) (fun _ => []) := by
 refine con_of_J (args := [lv]) (n := 31) Tryz.func19 rfl (Nat.le_of_ble_eq_true rfl) rfl (fun w0 I0 m0 => ?_)
 show J _ [(0, lv)] [.imm (.list (.pair .str (.int .i64))) (lv) (l)] _
 refine jc_seq (jc_region (jo_pure rfl (pr_assign rfl) (jo_nil (jq_then (jc_seq ?_)))))
 refine jc_region (jo_pure rfl (pr_assign rfl) (jo_nil (jq_then (jc_seq (jc_seq ?_)))))
 refine jc_region (jo_pure rfl (pr_move rfl) (jo_pure rfl (pr_len_imm rfl (.head _) Tryz.underlying40) ?_))
 refine jo_pure rfl (pr_move rfl) (jo_nil (jq_then (jc_block (j_nil_row 9 .str ?_))))
 refine jc_loop3 (fun (i : Nat) (w : Value) (acc : List (List UInt8)) => [(3, w), (7, lv), (8, .int .i64 ((l.length : Nat) : Int)), (9, .int .i64 ((i : Nat) : Int))]) (fun (i : Nat) (w : Value) (acc : List (List UInt8)) => [.row (w) 9 .str (acc), .imm (.list (.pair .str (.int .i64))) (lv) (l)]) (fun (i : Nat) (w : Value) (acc : List (List UInt8)) => i ≤ l.length ∧ acc.length ≤ i ∧ acc = (l.take i).map memP) (fun (i : Nat) (w : Value) (acc : List (List UInt8)) => l.length - i) 0 (.slice none 0 0) [] (⟨Nat.zero_le _, Nat.le_refl _, rfl⟩) (⟨rfl, rfl, rfl, rfl, trivial⟩) (fun _ h => h) (fun i w acc hinv => ?_)
 have hjm : ∀ x ∈ acc, x.length ≤ 20000 := fun x hx => by rw [hinv.2.2] at hx; obtain ⟨y, hy, rfl⟩ := List.mem_map.1 hx; have := memP_length y; have := hm y (List.mem_of_mem_take hy); omega
 refine jc_seq (jc_region (jo_pure rfl (pr_lssN (m := i) (n := l.length) rfl rfl) ?_))
 refine jo_nil (jq_then (jc_seq ?_))
 refine jc_cond rfl (fun h1b => ?_) (fun h1b => ?_)
 ·have h1 := of_decide_eq_true h1b
  refine jc_skip (jq_then (jc_seq (jc_block (jc_seq (jc_region ?_)))))
  refine jo_pure rfl (pr_idx_imm (i := i) rfl (.tail _ (.head _)) rfl Tryz.underlying40 ty_47 (by omega)) ?_
  refine jo_pure rfl (pr_load_elem_imm (i := i) (.agg #[str ((l.getD i ([], 0)).1), .int .i64 ((l.getD i ([], 0)).2)]) rfl (.tail _ (.head _)) ty_47 rfl rfl (by omega) rfl) ?_
  refine jo_alloc ty_47 [str ([]), .int .i64 ((0 : Nat) : Int)] rfl rfl (fun b1 => ?_)
  refine jo_store rfl rfl ty_47 [str ((l.getD i ([], 0)).1), .int .i64 ((l.getD i ([], 0)).2)] rfl rfl rfl [str ((l.getD i ([], 0)).1), .int .i64 ((l.getD i ([], 0)).2)] rfl rfl ?_
  refine jo_nil (jq_then (jc_seq (jc_region (jo_pure rfl (pr_fieldAddr 0 rfl Tryz.underlying47 rfl ty_9 rfl rfl) ?_))))
  refine jo_pure rfl (pr_load_box (str ((l.getD i ([], 0)).1)) rfl ty_9 (.head _) rfl (by decide) rfl) ?_
  refine jo_pure rfl (pr_assign rfl) (jo_nil (jq_then (jc_seq (jc_seq (jc_region ?_)))))
  refine jo_pure rfl (pr_fieldAddr 1 rfl Tryz.underlying47 rfl ty_3 rfl rfl) ?_
  refine jo_pure rfl (pr_load_box (.int .i64 ((l.getD i ([], 0)).2)) rfl ty_3 (.head _) rfl (by decide) rfl) ?_
  refine jo_pure rfl (pr_neq (n := 1000) rfl rfl) ?_
  refine jo_nil (jq_then ?_)
  refine jc_cond rfl (fun h2b => ?_) (fun h2b => ?_)
  ·have h2 := (fun q => of_decide_eq_false (bt_not q)) h2b
   refine jc_region (jo_pure rfl (pr_move rfl) (jo_pure rfl (pr_fieldAddr 1 rfl Tryz.underlying47 rfl ty_3 rfl rfl) ?_))
   refine jo_pure rfl (pr_load_box (.int .i64 ((l.getD i ([], 0)).2)) rfl ty_3 (.head _) rfl (by decide) rfl) ?_
   refine jo_callp cal_40 (c_qvalue_Format ((l.getD i ([], 0)).2)) ⟨rfl, trivial⟩ rfl (trivial) (fun _ => ?_)
   refine jo_pure rfl (pr_sadd rfl rfl (by have := hm _ (getD_mem (dd := ([], 0)) h1); have := fmtQ_length (l.getD i ([], 0)).2; first | omega | (simp only [List.length_append, List.length_cons, List.length_nil]; omega))) ?_
   refine jo_pure rfl (pr_sadd rfl rfl (by have := hm _ (getD_mem (dd := ([], 0)) h1); have := fmtQ_length (l.getD i ([], 0)).2; first | omega | (simp only [List.length_append, List.length_cons, List.length_nil]; omega))) ?_
   refine jo_pure rfl (pr_assign rfl) (jo_nil (jq_then (jc_region (jo_pure rfl (pr_move rfl) (jo_pure rfl (pr_move rfl) ?_)))))
   refine jo_buildSlice (t := .str) [((l.getD i ([], 0)).1) ++ ([59, 113, 61] ++ (fmtQ ((l.getD i ([], 0)).2)))] [str (((l.getD i ([], 0)).1) ++ ([59, 113, 61] ++ (fmtQ ((l.getD i ([], 0)).2))))] (fun a hf => by simp only [List.zipIdx_cons, List.zipIdx_nil, List.map_toArray, List.map_cons, List.map_nil, hf.ev (show ev _ (.tmp 25) = some (str (((l.getD i ([], 0)).1) ++ ([59, 113, 61] ++ (fmtQ ((l.getD i ([], 0)).2))))) from rfl)] <;> rfl) rfl Tryz.underlying28 ty_9 rfl rfl rfl rfl rfl (fun g1 => ?_)
   refine j_pull2 ?_
   refine jo_append rfl rfl Tryz.underlying28 ty_9 rfl (by simp only [List.length_append, List.length_cons, List.length_nil, maxLen]; omega) (by simp only [List.length_append, List.length_cons, List.length_nil]; omega) rfl (fun v1 => ?_)
   refine jo_pure rfl (pr_assign rfl) (jo_nil (jq_in_normal (jq_then (jc_region (jo_pure rfl (pr_addN (m := i) (n := 1) rfl rfl (by omega)) ?_)))))
   refine jo_pure rfl (pr_move rfl) (jo_nil (j_pull1 (j_drop (j_pull1 (j_pull1 ?_)))))
   refine jq_round' ((i + 1), v1, (acc ++ [((l.getD i ([], 0)).1) ++ ([59, 113, 61] ++ (fmtQ ((l.getD i ([], 0)).2)))])) (by (try dsimp only); exact (⟨by omega, by simp; omega, by rw [mapP_step h1, memP_q h2, hinv.2.2]⟩)) (by (try dsimp only); exact (by omega)) ⟨rfl, rfl, rfl, rfl, trivial⟩ (fun _ h => h)
  ·have h2 := (fun q => of_decide_eq_true (bf_not q)) h2b
   refine jc_skip (jq_then (jc_region (jo_pure rfl (pr_move rfl) (jo_pure rfl (pr_move rfl) ?_))))
   refine jo_buildSlice (t := .str) [(l.getD i ([], 0)).1] [str ((l.getD i ([], 0)).1)] (fun a hf => by simp only [List.zipIdx_cons, List.zipIdx_nil, List.map_toArray, List.map_cons, List.map_nil, hf.ev (show ev _ (.tmp 25) = some (str ((l.getD i ([], 0)).1)) from rfl)] <;> rfl) rfl Tryz.underlying28 ty_9 rfl rfl rfl rfl rfl (fun g2 => ?_)
   refine j_pull2 ?_
   refine jo_append rfl rfl Tryz.underlying28 ty_9 rfl (by simp only [List.length_append, List.length_cons, List.length_nil, maxLen]; omega) (by simp only [List.length_append, List.length_cons, List.length_nil]; omega) rfl (fun v2 => ?_)
   refine jo_pure rfl (pr_assign rfl) (jo_nil (jq_in_normal (jq_then (jc_region (jo_pure rfl (pr_addN (m := i) (n := 1) rfl rfl (by omega)) ?_)))))
   refine jo_pure rfl (pr_move rfl) (jo_nil (j_pull1 (j_drop (j_pull1 (j_pull1 ?_)))))
   refine jq_round' ((i + 1), v2, (acc ++ [(l.getD i ([], 0)).1])) (by (try dsimp only); exact (⟨by omega, by simp; omega, by rw [mapP_step h1, memP_plain h2, hinv.2.2]⟩)) (by (try dsimp only); exact (by omega)) ⟨rfl, rfl, rfl, rfl, trivial⟩ (fun _ h => h)
 ·have h1 := of_decide_eq_false h1b
  refine jc_exit ?_
  refine jq_then_exit ?_
  refine jq_then_exit ?_
  refine jq_in_hit ?_
  refine jq_then (jc_seq (jc_region (jo_pure rfl (pr_move rfl) (j_pub_row ?_))))
  refine jo_callp cal_41 (c_strings_Join acc w [44, 32] (by first | omega | rfl | (simp only [List.length_cons, List.length_nil]; omega)) (hjm) (by first | omega | rfl | (simp only [List.length_cons, List.length_nil]; omega)) (by first | omega | rfl | (simp only [List.length_cons, List.length_nil]; omega))) ⟨rfl, rfl, trivial⟩ rfl (⟨⟨rfl, .head _⟩, trivial⟩) (fun _ => ?_)
  refine jo_pure rfl (pr_assign rfl) (jo_nil (jq_then (jc_ret (j_drop (j_drop ?_)))))
  exact jq_ret1 rfl () rfl (show (str (fmtP l) : Value) = (str (joinS [44, 32] acc)) from congrArg str (by rw [hinv.2.2, take_over (s := l) (i := i) (by omega)]; rfl)) (fun _ h => h)
end Go.Proofs.YtjbcomdljmfgjabGreatDoor
