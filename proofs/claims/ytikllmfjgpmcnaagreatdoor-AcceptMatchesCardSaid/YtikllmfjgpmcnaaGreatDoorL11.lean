/-
  Contracts of functions of the program: each returns what a plain function says, for every input within the bounds named. Conditions: the bounds.
-/
import Derived.Test.YtikllmfjgpmcnaaGreatDoorRows
import Derived.Test.YtikllmfjgpmcnaaGreatDoorL10
import Derived.Test.YtikllmfjgpmcnaaGreatDoorLaw13
namespace Go.Proofs.YtikllmfjgpmcnaaGreatDoor
open Go Go.Sep
set_option linter.unusedSimpArgs false
set_option linter.unusedVariables false

open Go.Plain

theorem cal_19 : Cal Tryz.prog 19 := cal_of Tryz.func19 (by kernel_rfl) rfl
theorem cal_20 : Cal Tryz.prog 20 := cal_of Tryz.func20 (by kernel_rfl) rfl
theorem cal_21 : Cal Tryz.prog 21 := cal_of Tryz.func21 (by kernel_rfl) rfl
theorem cal_22 : Cal Tryz.prog 22 := cal_of Tryz.func22 (by kernel_rfl) rfl
theorem cal_49 : Cal Tryz.prog 49 := cal_of Tryz.func49 (by kernel_rfl) rfl
theorem cal_51 : Cal Tryz.prog 51 := cal_of Tryz.func51 (by kernel_rfl) rfl
theorem cal_52 : Cal Tryz.prog 52 := cal_of Tryz.func52 (by kernel_rfl) rfl
theorem cal_53 : Cal Tryz.prog 53 := cal_of Tryz.func53 (by kernel_rfl) rfl
theorem cal_67 : Cal Tryz.prog 67 := cal_of Tryz.func67 (by kernel_rfl) rfl
theorem cal_68 : Cal Tryz.prog 68 := cal_of Tryz.func68 (by kernel_rfl) rfl
theorem cal_86 : Cal Tryz.prog 86 := cal_of Tryz.func86 (by kernel_rfl) rfl

theorem c_ref01_Split (v : List UInt8) (hs : v.length ≤ 1000000) : Con Tryz.prog 49 #[str (v)] [] (fun r1 : Value => r1) (fun r1 => [.row r1 9 .str (splitF v)]) := by
  refine con_of_J (args := [str (v)]) (n := 32) Tryz.func49 rfl (Nat.le_of_ble_eq_true rfl) rfl (fun w0 I0 m0 => ?_)
  show J _ [(0, str (v))] [] _
  refine jc_seq ?_
  refine jc_region ?_
  refine jo_pure rfl (pr_assign rfl) ?_
  refine jo_nil ?_
  refine jq_then ?_
  refine jc_seq ?_
  refine jc_region ?_
  refine jo_pure rfl (pr_assign rfl) ?_
  refine jo_nil ?_
  refine jq_then ?_
  refine jc_seq ?_
  refine jc_region ?_
  refine jo_pure rfl (pr_move rfl) ?_
  refine jo_callp cal_83 (c_ref01_Cut v 44 (by first | omega | (have := getD_len (i := i) (cutF_mem v 44); omega))) ⟨rfl, rfl, trivial⟩ rfl (trivial) (fun r1 => ?_)
  show J _ _ [.row (r1) 9 .str (cutF v 44)] _
  refine jo_pure rfl (pr_assign rfl) ?_
  refine jo_nil ?_
  refine jq_then ?_
  refine jc_seq ?_
  refine jc_seq ?_
  refine jc_region ?_
  refine jo_pure rfl (pr_assign rfl) ?_
  refine jo_nil ?_
  refine jq_then ?_
  refine jc_block ?_
  refine j_nil_row 9 .str ?_
  refine jc_loop3 (fun (i : Nat) (w : Value) (acc : List (List UInt8)) => [(3, w), (4, r1), (5, .int .i64 ((i : Nat) : Int))]) (fun (i : Nat) (w : Value) (acc : List (List UInt8)) => [.row (w) 9 .str (acc), .row (r1) 9 .str (cutF v 44)]) (fun (i : Nat) (w : Value) (acc : List (List UInt8)) => i ≤ (cutF v 44).length ∧ (cutF v 44).length ≤ v.length + 1 ∧ acc.length ≤ 64 ∧ acc ++ memG ((cutF v 44).drop i) = memG (cutF v 44)) (fun (i : Nat) (w : Value) (acc : List (List UInt8)) => (cutF v 44).length - i) 0 (.slice none 0 0) [] (⟨Nat.zero_le _, cutF_length v 44, by simp, rfl⟩) (⟨rfl, rfl, rfl, trivial⟩) (fun _ h => h) (fun i w acc hinv => ?_)
  refine jc_seq ?_
  refine jc_seq ?_
  refine jc_region ?_
  refine jo_pure rfl (pr_move rfl) ?_
  refine jo_pure rfl (pr_move rfl) ?_
  refine jo_pure rfl (pr_len_row rfl (.tail _ (.head _)) Tryz.underlying38) ?_
  refine jo_pure rfl (pr_lssN (m := i) (n := (cutF v 44).length) rfl rfl) ?_
  refine jo_pure rfl (pr_move rfl) ?_
  refine jo_gpure (j := 4) (want := true) rfl rfl rfl rfl (fun hg => pr_move rfl) ?_
  refine jo_gpure (j := 4) (want := true) rfl rfl rfl rfl (fun hg => pr_len_row (evg rfl hg) (.head _) Tryz.underlying38) ?_
  refine jo_gpure (j := 4) (want := true) rfl rfl rfl rfl (fun hg => pr_lssN (m := acc.length) (n := 64) (evg rfl hg) rfl) ?_
  refine jo_pure rfl (pr_pick_and rfl rfl rfl) ?_
  refine jo_nil ?_
  refine jq_then ?_
  refine jc_cond rfl (fun h1b => ?_) (fun h1b => ?_)
  · have h1 := (fun q => And.imp of_decide_eq_true of_decide_eq_true (bt_and q)) h1b
    refine jc_skip ?_
    refine jq_then ?_
    refine jc_seq ?_
    refine jc_block ?_
    refine jc_seq ?_
    refine jc_region ?_
    refine jo_pure rfl (pr_move rfl) ?_
    refine jo_pure rfl (pr_move rfl) ?_
    refine jo_pure rfl (pr_idx_row (i := i) rfl (.tail _ (.head _)) rfl Tryz.underlying38 ty_9 (by omega)) ?_
    refine jo_pure rfl (pr_load_elem_row (i := i) (str ((cutF v 44).getD i [])) rfl (.tail _ (.head _)) ty_9 rfl rfl (by omega) rfl) ?_
    refine jo_callp cal_84 (c_ref01_Trim ((cutF v 44).getD i []) (by first | omega | (have := getD_len (i := i) (cutF_mem v 44); omega))) ⟨rfl, trivial⟩ rfl (trivial) (fun _ => ?_)
    refine jo_pure rfl (pr_assign rfl) ?_
    refine jo_nil ?_
    refine jq_then ?_
    refine jc_seq ?_
    refine jc_region ?_
    refine jo_pure rfl (pr_move rfl) ?_
    refine jo_pure rfl (pr_sneq rfl rfl) ?_
    refine jo_nil ?_
    refine jq_then ?_
    refine jc_cond rfl (fun h2b => ?_) (fun h2b => ?_)
    · have h2 := (fun q => of_decide_eq_false (bt_not q)) h2b
      refine jc_region ?_
      refine jo_pure rfl (pr_move rfl) ?_
      refine jo_pure rfl (pr_move rfl) ?_
      refine jo_buildSlice (t := .str) [trim ((cutF v 44).getD i [])] [str (trim ((cutF v 44).getD i []))] (fun a hf => by simp only [List.zipIdx_cons, List.zipIdx_nil, List.map_toArray, List.map_cons, List.map_nil, hf.ev (show ev _ (.tmp 28) = some (str (trim ((cutF v 44).getD i []))) from rfl)]) rfl Tryz.underlying38 ty_9 rfl rfl rfl rfl rfl (fun g1 => ?_)
      refine j_pull1 ?_
      refine jo_append rfl rfl Tryz.underlying38 ty_9 rfl (by simp only [List.length_append, List.length_cons, List.length_nil, maxLen]; omega) (by simp only [List.length_append, List.length_cons, List.length_nil]; omega) rfl (fun v1 => ?_)
      refine jo_pure rfl (pr_assign rfl) ?_
      refine jo_nil ?_
      refine jq_in_normal ?_
      refine jq_then ?_
      refine jc_region ?_
      refine jo_pure rfl (pr_move rfl) ?_
      refine jo_pure rfl (pr_addN (m := i) (n := 1) rfl rfl (by omega)) ?_
      refine jo_pure rfl (pr_assign rfl) ?_
      refine jo_nil ?_
      refine j_pull1 ?_
      refine j_pull1 ?_
      refine jq_round' ((i + 1), v1, (acc ++ [trim ((cutF v 44).getD i [])])) (by (try dsimp only); exact (⟨by omega, hinv.2.1, by simp; omega, split_more h1.1 h2 hinv.2.2.2⟩)) (by (try dsimp only); exact (by omega)) ⟨rfl, rfl, rfl, trivial⟩ (fun _ h => h)
    · have h2 := (fun q => of_decide_eq_true (bf_not q)) h2b
      refine jc_skip ?_
      refine jq_in_normal ?_
      refine jq_then ?_
      refine jc_region ?_
      refine jo_pure rfl (pr_move rfl) ?_
      refine jo_pure rfl (pr_addN (m := i) (n := 1) rfl rfl (by omega)) ?_
      refine jo_pure rfl (pr_assign rfl) ?_
      refine jo_nil ?_
      refine j_pull1 ?_
      refine j_pull1 ?_
      refine jq_round' ((i + 1), w, acc) (by (try dsimp only); exact (⟨by omega, hinv.2.1, hinv.2.2.1, split_less h1.1 h2 hinv.2.2.2⟩)) (by (try dsimp only); exact (by omega)) ⟨rfl, rfl, rfl, trivial⟩ (fun _ h => h)
  · have h1 := (fun q => Or.imp of_decide_eq_false of_decide_eq_false (bf_and q)) h1b
    refine jc_exit ?_
    refine jq_then_exit ?_
    refine jq_then_exit ?_
    refine jq_in_hit ?_
    refine jq_then ?_
    refine jc_seq ?_
    refine jc_region ?_
    refine jo_pure rfl (pr_move rfl) ?_
    refine jo_pure rfl (pr_assign rfl) ?_
    refine jo_nil ?_
    refine jq_then ?_
    refine jc_ret ?_
    refine j_pull1 ?_
    refine j_drop ?_
    exact jq_ret1 rfl w rfl (show (w : Value) = (w) from rfl) (fun _ h => by rw [memG_done (h1.imp id (fun q => by omega)) hinv.2.2.1 hinv.2.2.2] at h; exact h)

theorem c_ref01_All (l : List ((List UInt8) × (List UInt8))) (lv : Value) (name : List UInt8) (hl : l.length ≤ 1000000) (hm : ∀ x ∈ l, x.1.length ≤ 1000000 ∧ x.2.length ≤ 1000000) (hn : name.length ≤ 1000000) : Con Tryz.prog 21 #[lv, str (name)] [.imm (.list (.pair .str .str)) (lv) (l)] (fun r1 : Value => r1) (fun r1 => [.row r1 9 .str (allF l name)]) := by
  refine con_of_J (args := [lv, str (name)]) (n := 43) Tryz.func21 rfl (Nat.le_of_ble_eq_true rfl) rfl (fun w0 I0 m0 => ?_)
  show J _ [(0, lv), (1, str (name))] [.imm (.list (.pair .str .str)) (lv) (l)] _
  refine jc_seq ?_
  refine jc_region ?_
  refine jo_pure rfl (pr_assign rfl) ?_
  refine jo_nil ?_
  refine jq_then ?_
  refine jc_seq ?_
  refine jc_region ?_
  refine jo_pure rfl (pr_assign rfl) ?_
  refine jo_nil ?_
  refine jq_then ?_
  refine jc_seq ?_
  refine jc_region ?_
  refine jo_pure rfl (pr_move rfl) ?_
  refine jo_pure rfl (pr_move rfl) ?_
  refine jo_callp cal_48 (c_ref01_Get l lv name (by first | omega | exact hm | (have := getD_len (i := i) (getF_mem (n := 1000000) hm (name := name)); omega)) (by first | omega | exact hm | (have := getD_len (i := i) (getF_mem (n := 1000000) hm (name := name)); omega)) (by first | omega | exact hm | (have := getD_len (i := i) (getF_mem (n := 1000000) hm (name := name)); omega))) ⟨rfl, rfl, trivial⟩ rfl (⟨⟨rfl, .head _⟩, trivial⟩) (fun r1 => ?_)
  show J _ _ [.row (r1) 9 .str (getF l name), .imm (.list (.pair .str .str)) (lv) (l)] _
  refine jo_pure rfl (pr_assign rfl) ?_
  refine jo_nil ?_
  refine jq_then ?_
  refine jc_seq ?_
  refine jc_seq ?_
  refine jc_region ?_
  refine jo_pure rfl (pr_assign rfl) ?_
  refine jo_nil ?_
  refine jq_then ?_
  refine jc_block ?_
  refine j_nil_row 9 .str ?_
  refine jc_loop3 (fun (i : Nat) (w : Value) (acc : List (List UInt8)) => [(5, w), (6, r1), (7, .int .i64 ((i : Nat) : Int))]) (fun (i : Nat) (w : Value) (acc : List (List UInt8)) => [.row (w) 9 .str (acc), .row (r1) 9 .str (getF l name), .imm (.list (.pair .str .str)) (lv) (l)]) (fun (i : Nat) (w : Value) (acc : List (List UInt8)) => i ≤ (getF l name).length ∧ (getF l name).length ≤ 1000000 ∧ acc = (((getF l name).take i).flatMap splitF).take 64) (fun (i : Nat) (w : Value) (acc : List (List UInt8)) => (getF l name).length - i) 0 (.slice none 0 0) [] (⟨Nat.zero_le _, Nat.le_trans (getF_length l name) hl, rfl⟩) (⟨rfl, rfl, rfl, trivial⟩) (fun _ h => h) (fun i w acc hinv => ?_)
  refine jc_seq ?_
  refine jc_seq ?_
  refine jc_region ?_
  refine jo_pure rfl (pr_move rfl) ?_
  refine jo_pure rfl (pr_move rfl) ?_
  refine jo_pure rfl (pr_len_row rfl (.tail _ (.head _)) Tryz.underlying38) ?_
  refine jo_pure rfl (pr_lssN (m := i) (n := (getF l name).length) rfl rfl) ?_
  refine jo_nil ?_
  refine jq_then ?_
  refine jc_cond rfl (fun h1b => ?_) (fun h1b => ?_)
  · have h1 := of_decide_eq_true h1b
    refine jc_skip ?_
    refine jq_then ?_
    refine jc_seq ?_
    refine jc_block ?_
    refine jc_seq ?_
    refine jc_region ?_
    refine jo_pure rfl (pr_move rfl) ?_
    refine jo_pure rfl (pr_move rfl) ?_
    refine jo_pure rfl (pr_idx_row (i := i) rfl (.tail _ (.head _)) rfl Tryz.underlying38 ty_9 (by omega)) ?_
    refine jo_pure rfl (pr_load_elem_row (i := i) (str ((getF l name).getD i [])) rfl (.tail _ (.head _)) ty_9 rfl rfl (by omega) rfl) ?_
    refine jo_callp cal_49 (c_ref01_Split ((getF l name).getD i []) (by first | omega | exact hm | (have := getD_len (i := i) (getF_mem (n := 1000000) hm (name := name)); omega))) ⟨rfl, trivial⟩ rfl (trivial) (fun r2 => ?_)
    show J _ _ [.row (r2) 9 .str (splitF ((getF l name).getD i [])), .row (w) 9 .str (acc), .row (r1) 9 .str (getF l name), .imm (.list (.pair .str .str)) (lv) (l)] _
    refine jo_pure rfl (pr_assign rfl) ?_
    refine jo_nil ?_
    refine jq_then ?_
    refine jc_seq ?_
    refine jc_region ?_
    refine jo_pure rfl (pr_assign rfl) ?_
    refine jo_nil ?_
    refine jq_then ?_
    refine jc_block ?_
    refine jc_loop3 (fun (k : Nat) (w2 : Value) (acc2 : List (List UInt8)) => [(5, w2), (6, r1), (7, .int .i64 ((i : Nat) : Int)), (8, r2), (9, .int .i64 ((k : Nat) : Int))]) (fun (k : Nat) (w2 : Value) (acc2 : List (List UInt8)) => [.row (r2) 9 .str (splitF ((getF l name).getD i [])), .row (w2) 9 .str (acc2), .row (r1) 9 .str (getF l name), .imm (.list (.pair .str .str)) (lv) (l)]) (fun (k : Nat) (w2 : Value) (acc2 : List (List UInt8)) => k ≤ (splitF ((getF l name).getD i [])).length ∧ (splitF ((getF l name).getD i [])).length ≤ 64 ∧ acc2 = (((getF l name).take i).flatMap splitF ++ (splitF ((getF l name).getD i [])).take k).take 64) (fun (k : Nat) (w2 : Value) (acc2 : List (List UInt8)) => (splitF ((getF l name).getD i [])).length - k) 0 w acc (⟨Nat.zero_le _, splitF_length _, by rw [hinv.2.2]; simp⟩) (⟨rfl, rfl, rfl, rfl, rfl, trivial⟩) (fun _ h => h) (fun k w2 acc2 hink => ?_)
    refine jc_seq ?_
    refine jc_seq ?_
    refine jc_region ?_
    refine jo_pure rfl (pr_move rfl) ?_
    refine jo_pure rfl (pr_move rfl) ?_
    refine jo_pure rfl (pr_len_row rfl (.head _) Tryz.underlying38) ?_
    refine jo_pure rfl (pr_lssN (m := k) (n := (splitF ((getF l name).getD i [])).length) rfl rfl) ?_
    refine jo_pure rfl (pr_move rfl) ?_
    refine jo_gpure (j := 4) (want := true) rfl rfl rfl rfl (fun hg => pr_move rfl) ?_
    refine jo_gpure (j := 4) (want := true) rfl rfl rfl rfl (fun hg => pr_len_row (evg rfl hg) (.tail _ (.head _)) Tryz.underlying38) ?_
    refine jo_gpure (j := 4) (want := true) rfl rfl rfl rfl (fun hg => pr_lssN (m := acc2.length) (n := 64) (evg rfl hg) rfl) ?_
    refine jo_pure rfl (pr_pick_and rfl rfl rfl) ?_
    refine jo_nil ?_
    refine jq_then ?_
    refine jc_cond rfl (fun h2b => ?_) (fun h2b => ?_)
    · have h2 := (fun q => And.imp of_decide_eq_true of_decide_eq_true (bt_and q)) h2b
      refine jc_skip ?_
      refine jq_then ?_
      refine jc_seq ?_
      refine jc_block ?_
      refine jc_region ?_
      refine jo_pure rfl (pr_move rfl) ?_
      refine jo_pure rfl (pr_move rfl) ?_
      refine jo_pure rfl (pr_move rfl) ?_
      refine jo_pure rfl (pr_idx_row (i := k) rfl (.head _) rfl Tryz.underlying38 ty_9 (by omega)) ?_
      refine jo_pure rfl (pr_load_elem_row (i := k) (str ((splitF ((getF l name).getD i [])).getD k [])) rfl (.head _) ty_9 rfl rfl (by omega) rfl) ?_
      refine jo_buildSlice (t := .str) [(splitF ((getF l name).getD i [])).getD k []] [str ((splitF ((getF l name).getD i [])).getD k [])] (fun a hf => by simp only [List.zipIdx_cons, List.zipIdx_nil, List.map_toArray, List.map_cons, List.map_nil, hf.ev (show ev _ (.tmp 39) = some (str ((splitF ((getF l name).getD i [])).getD k [])) from rfl)]) rfl Tryz.underlying38 ty_9 rfl rfl rfl rfl rfl (fun g1 => ?_)
      refine j_pull2 ?_
      refine jo_append rfl rfl Tryz.underlying38 ty_9 rfl (by simp only [List.length_append, List.length_cons, List.length_nil, maxLen]; omega) (by simp only [List.length_append, List.length_cons, List.length_nil]; omega) rfl (fun v1 => ?_)
      refine jo_pure rfl (pr_assign rfl) ?_
      refine jo_nil ?_
      refine jq_in_normal ?_
      refine jq_then ?_
      refine jc_region ?_
      refine jo_pure rfl (pr_move rfl) ?_
      refine jo_pure rfl (pr_addN (m := k) (n := 1) rfl rfl (by omega)) ?_
      refine jo_pure rfl (pr_assign rfl) ?_
      refine jo_nil ?_
      refine j_pull3 ?_
      refine j_pull3 ?_
      refine j_pull2 ?_
      refine j_pull3 ?_
      refine jq_round' ((k + 1), v1, (acc2 ++ [(splitF ((getF l name).getD i [])).getD k []])) (by (try dsimp only); exact (⟨by omega, hink.2.1, by have h9 := h2.2; rw [hink.2.2] at h9 ⊢; exact take64_step h2.1 h9⟩)) (by (try dsimp only); exact (by omega)) ⟨rfl, rfl, rfl, rfl, rfl, trivial⟩ (fun _ h => h)
    · have h2 := (fun q => Or.imp of_decide_eq_false of_decide_eq_false (bf_and q)) h2b
      refine jc_exit ?_
      refine jq_then_exit ?_
      refine jq_then_exit ?_
      refine jq_in_hit ?_
      refine jq_in_normal ?_
      refine jq_then ?_
      refine jc_region ?_
      refine jo_pure rfl (pr_move rfl) ?_
      refine jo_pure rfl (pr_addN (m := i) (n := 1) rfl rfl (by omega)) ?_
      refine jo_pure rfl (pr_assign rfl) ?_
      refine jo_nil ?_
      refine j_drop ?_
      refine j_pull2 ?_
      refine j_pull2 ?_
      refine j_pull2 ?_
      refine jq_round' ((i + 1), w2, acc2) (by (try dsimp only); exact (⟨by omega, hinv.2.1, by rw [hink.2.2, take64_end hink.1 (h2.imp id (fun q => by rw [← hink.2.2]; omega)), flat_take_step h1]⟩)) (by (try dsimp only); exact (by omega)) ⟨rfl, rfl, rfl, trivial⟩ (fun _ h => h)
  · have h1 := of_decide_eq_false h1b
    refine jc_exit ?_
    refine jq_then_exit ?_
    refine jq_then_exit ?_
    refine jq_in_hit ?_
    refine jq_then ?_
    refine jc_seq ?_
    refine jc_region ?_
    refine jo_pure rfl (pr_move rfl) ?_
    refine jo_pure rfl (pr_assign rfl) ?_
    refine jo_nil ?_
    refine jq_then ?_
    refine jc_ret ?_
    refine j_pull1 ?_
    refine j_drop ?_
    refine j_pull1 ?_
    refine j_drop ?_
    exact jq_ret1 rfl w rfl (show (w : Value) = (w) from rfl) (fun _ h => by rw [hinv.2.2, take_over (s := (getF l name)) (i := i) (by omega)] at h; exact h)

theorem c_ref01_Digit (c : UInt8)  : Con Tryz.prog 86 #[byte (c)] [] (fun _ : Unit => .bool (digB c)) (fun _ => []) := by
  refine con_of_J (args := [byte (c)]) (n := 9) Tryz.func86 rfl (Nat.le_of_ble_eq_true rfl) rfl (fun w0 I0 m0 => ?_)
  show J _ [(0, byte (c))] [] _
  refine jc_seq ?_
  refine jc_region ?_
  refine jo_pure rfl (pr_assign rfl) ?_
  refine jo_nil ?_
  refine jq_then ?_
  refine jc_seq ?_
  refine jc_region ?_
  refine jo_pure rfl (pr_move rfl) ?_
  refine jo_pure rfl (pr_bgeq (n := 48) rfl rfl) ?_
  refine jo_pure rfl (pr_move rfl) ?_
  refine jo_gpure (j := 2) (want := true) rfl rfl rfl rfl (fun hg => pr_move rfl) ?_
  refine jo_gpure (j := 2) (want := true) rfl rfl rfl rfl (fun hg => pr_bleq (n := 57) (evg rfl hg) rfl) ?_
  refine jo_pure rfl (pr_pick_and rfl rfl rfl) ?_
  refine jo_pure rfl (pr_assign rfl) ?_
  refine jo_nil ?_
  refine jq_then ?_
  refine jc_ret ?_
  exact jq_ret1 rfl () rfl (show (.bool (digB c) : Value) = (.bool ((decide ((48 : UInt8) ≤ c) && decide ((c : UInt8) ≤ 57)))) from rfl) (fun _ h => h)

theorem c_ref10_subtags (s : List UInt8) (hs : s.length ≤ 1000000) : Con Tryz.prog 68 #[str (s)] [] (fun r1 : Value => r1) (fun r1 => [.imm (.list .str) r1 (cutAt 45 [] s)]) := by
  refine con_of_J (args := [str (s)]) (n := 23) Tryz.func68 rfl (Nat.le_of_ble_eq_true rfl) rfl (fun w0 I0 m0 => ?_)
  show J _ [(0, str (s))] [] _
  refine jc_seq ?_
  refine jc_region ?_
  refine jo_pure rfl (pr_assign rfl) ?_
  refine jo_nil ?_
  refine jq_then ?_
  refine jc_seq ?_
  refine jc_region ?_
  refine jo_pure rfl (pr_assign rfl) ?_
  refine jo_nil ?_
  refine jq_then ?_
  refine jc_block ?_
  refine j_nil_row 9 .str ?_
  refine jc_loop3 (fun (t : List UInt8) (w : Value) (acc : List (List UInt8)) => [(0, str (t)), (3, w)]) (fun (t : List UInt8) (w : Value) (acc : List (List UInt8)) => [.row (w) 9 .str (acc)]) (fun (t : List UInt8) (w : Value) (acc : List (List UInt8)) => acc ++ cutAt 45 [] t = cutAt 45 [] s ∧ acc.length + t.length ≤ s.length) (fun (t : List UInt8) (w : Value) (acc : List (List UInt8)) => t.length) s (.slice none 0 0) [] (⟨rfl, by simp⟩) (⟨rfl, rfl, trivial⟩) (fun _ h => h) (fun t w acc hinv => ?_)
  refine jc_block ?_
  refine jc_seq ?_
  refine jc_region ?_
  refine jo_pure rfl (pr_move rfl) ?_
  refine jo_callp cal_64 (c_ref01_Index t 45 0 (by omega)) ⟨rfl, rfl, rfl, trivial⟩ rfl (trivial) (fun _ => ?_)
  refine jo_pure rfl (pr_assign rfl) ?_
  refine jo_nil ?_
  refine jq_then ?_
  refine jc_seq ?_
  refine jc_seq ?_
  by_cases hc : pos t 45 < t.length
  · skip
    rw [show (idxF t 45 0 : Int) = ((pos t 45 : Nat) : Int) from by rw [idxF_zero, idx_found hc]]
    refine jc_region ?_
    refine jo_pure rfl (pr_move rfl) ?_
    refine jo_pure rfl (pr_lssN (m := pos t 45) (n := 0) rfl rfl) ?_
    refine jo_nil ?_
    refine jq_then ?_
    refine jc_false rfl (by simp) ?_
    refine jc_skip ?_
    refine jq_then ?_
    refine jc_held (fun (v1 : Value) => [(0, str (t.drop ((pos t 45) + 1))), (3, v1)]) (fun v1 => [.row (v1) 9 .str (acc ++ [t.take (pos t 45)])]) [] mixed (fun lst hlst => ?_) (fun v1 => ?_)
    · subst hlst
      refine jh_take (listed' := #[true, false, false, false, false, false, false, false, false, false, false, false]) 0 rfl (by kernel_rfl) (by kernel_rfl) (by kernel_rfl) rfl (pr_move rfl) (fun _ h => Mem.drop1 (h)) rfl ?_
      refine jh_take (listed' := #[true, true, false, false, false, false, false, false, false, false, false, false]) 1 rfl (by kernel_rfl) (by kernel_rfl) (by kernel_rfl) rfl (pr_move rfl) (fun _ h => Mem.drop1 (h)) rfl ?_
      refine jh_take (listed' := #[true, true, true, false, false, false, false, false, false, false, false, false]) 2 rfl (by kernel_rfl) (by kernel_rfl) (by kernel_rfl) rfl (pr_move rfl) (fun _ h => Mem.drop1 (h)) rfl ?_
      refine jh_take (listed' := #[true, true, true, true, false, false, false, false, false, false, false, false]) 3 rfl (by kernel_rfl) (by kernel_rfl) (by kernel_rfl) rfl (pr_sslice_hi (j := pos t 45) rfl rfl Tryz.underlying9 (by omega)) (fun _ h => Mem.drop1 (h)) rfl ?_
      refine jh_take (listed' := #[true, true, true, true, false, false, true, false, false, false, false, false]) 6 rfl (by kernel_rfl) (by kernel_rfl) (by kernel_rfl) rfl (pr_move rfl) (fun _ h => Mem.drop1 (h)) rfl ?_
      refine jh_take (listed' := #[true, true, true, true, false, false, true, true, false, false, false, false]) 7 rfl (by kernel_rfl) (by kernel_rfl) (by kernel_rfl) rfl (pr_move rfl) (fun _ h => Mem.drop1 (h)) rfl ?_
      refine jh_take (listed' := #[true, true, true, true, false, false, true, true, true, false, false, false]) 8 rfl (by kernel_rfl) (by kernel_rfl) (by kernel_rfl) rfl (pr_addN (m := pos t 45) (n := 1) rfl rfl (by omega)) (fun _ h => Mem.drop1 (h)) rfl ?_
      refine jh_take (listed' := #[true, true, true, true, false, false, true, true, true, true, false, false]) 9 rfl (by kernel_rfl) (by kernel_rfl) (by kernel_rfl) rfl (pr_sslice_lo (i := (pos t 45) + 1) rfl rfl Tryz.underlying9 (by omega)) (fun _ h => Mem.drop1 (h)) rfl ?_
      refine jh_all [4] (by kernel_rfl) (by simp) (fun i hi => ?_)
      simp only [List.mem_cons, List.not_mem_nil, or_false] at hi
      subst hi
      · refine jh_op rfl ?_
        refine jo_buildSlice (t := .str) [t.take (pos t 45)] [str (t.take (pos t 45))] (fun a hf => by simp only [List.zipIdx_cons, List.zipIdx_nil, List.map_toArray, List.map_cons, List.map_nil, hf.ev (show ev _ (.tmp 16) = some (str (t.take (pos t 45))) from rfl)]) rfl Tryz.underlying38 ty_9 rfl rfl rfl rfl rfl (fun g1 => ?_)
        refine jh_in (listed' := #[true, true, true, true, true, false, true, true, true, true, false, false]) (fun _ h => Mem.drop1 (Mem.drop1 (h))) rfl ?_
        refine jh_all [5] (by kernel_rfl) (by simp) (fun i hi => ?_)
        simp only [List.mem_cons, List.not_mem_nil, or_false] at hi
        subst hi
        · refine jh_op rfl ?_
          refine j_pull1 ?_
          refine jo_append rfl rfl Tryz.underlying38 ty_9 rfl (by simp only [List.length_append, List.length_cons, List.length_nil, maxLen]; omega) (by simp only [List.length_append, List.length_cons, List.length_nil]; omega) rfl (fun v1 => ?_)
          refine jh_in (listed' := #[true, true, true, true, true, true, true, true, true, true, false, false]) (fun _ h => Mem.drop1 (h)) rfl ?_
          refine jh_take (listed' := #[true, true, true, true, true, true, true, true, true, true, true, false]) 10 rfl (by kernel_rfl) (by kernel_rfl) (by kernel_rfl) rfl (pr_assign rfl) (fun _ h => Mem.drop1 (h)) rfl ?_
          refine jh_take (listed' := #[true, true, true, true, true, true, true, true, true, true, true, true]) 11 rfl (by kernel_rfl) (by kernel_rfl) (by kernel_rfl) rfl (pr_assign rfl) (fun _ h => Mem.drop1 (h)) rfl ?_
          show J _ _ _ _
          show JH _ _ _ _ _ _ _ _
          exact jh_done v1 (by kernel_rfl) ⟨rfl, rfl, trivial⟩ (fun _ h => h)
    · skip
      refine jq_in_normal ?_
      refine jq_round' ((t.drop ((pos t 45) + 1)), v1, (acc ++ [t.take (pos t 45)])) (by (try dsimp only); exact (⟨by rw [← hinv.1, cutAt_some [] hc]; simp, by simp; omega⟩)) (by (try dsimp only); exact (by simp; omega)) ⟨rfl, rfl, trivial⟩ (fun _ h => h)
  · skip
    rw [show (idxF t 45 0 : Int) = -1 from by rw [idxF_zero, idx_none hc]]
    refine jc_region ?_
    refine jo_pure rfl (pr_move rfl) ?_
    refine jo_pure rfl (pr_lss (n := 0) rfl rfl) ?_
    refine jo_nil ?_
    refine jq_then ?_
    refine jc_true rfl (by decide) ?_
    refine jc_seq ?_
    refine jc_region ?_
    refine jo_pure rfl (pr_move rfl) ?_
    refine jo_pure rfl (pr_move rfl) ?_
    refine jo_buildSlice (t := .str) [t] [str (t)] (fun a hf => by simp only [List.zipIdx_cons, List.zipIdx_nil, List.map_toArray, List.map_cons, List.map_nil, hf.ev (show ev _ (.tmp 10) = some (str (t)) from rfl)]) rfl Tryz.underlying38 ty_9 rfl rfl rfl rfl rfl (fun g2 => ?_)
    refine j_pull1 ?_
    refine jo_append rfl rfl Tryz.underlying38 ty_9 rfl (by simp only [List.length_append, List.length_cons, List.length_nil, maxLen]; omega) (by simp only [List.length_append, List.length_cons, List.length_nil]; omega) rfl (fun v2 => ?_)
    refine jo_pure rfl (pr_assign rfl) ?_
    refine jo_nil ?_
    refine jq_then ?_
    refine jc_ret ?_
    refine jq_then_ret ?_
    refine jq_in_ret ?_
    refine jq_then_ret ?_
    refine jq_in_ret ?_
    refine j_pub_row ?_
    exact jq_ret1 rfl v2 rfl (show (v2 : Value) = (v2) from rfl) (fun _ h => by rw [← hinv.1, cutAt_none [] hc]; exact h)

theorem c_ref10_Tag (s : List UInt8) (hs : s.length ≤ 1000000) : Con Tryz.prog 67 #[str (s)] [] (fun _ : Unit => .bool (tagF s)) (fun _ => []) := by
  refine con_of_J (args := [str (s)]) (n := 67) Tryz.func67 rfl (Nat.le_of_ble_eq_true rfl) rfl (fun w0 I0 m0 => ?_)
  show J _ [(0, str (s))] [] _
  refine jc_seq ?_
  refine jc_region ?_
  refine jo_pure rfl (pr_assign rfl) ?_
  refine jo_nil ?_
  refine jq_then ?_
  refine jc_seq ?_
  refine jc_region ?_
  refine jo_pure rfl (pr_move rfl) ?_
  refine jo_callp cal_68 (c_ref10_subtags s (by omega)) ⟨rfl, trivial⟩ rfl (trivial) (fun r1 => ?_)
  show J _ _ [.imm (.list .str) (r1) (cutAt 45 [] s)] _
  refine jo_pure rfl (pr_assign rfl) ?_
  refine jo_nil ?_
  refine jq_then ?_
  refine jc_seq ?_
  refine jc_seq ?_
  refine jc_region ?_
  refine jo_pure rfl (pr_assign rfl) ?_
  refine jo_nil ?_
  refine jq_then ?_
  refine jc_block ?_
  refine jc_loop (fun (i : Nat) => [(3, r1), (4, .int .i64 ((i : Nat) : Int))]) (fun (i : Nat) => [.imm (.list .str) (r1) (cutAt 45 [] s)]) (fun (i : Nat) => i ≤ (cutAt 45 [] s).length ∧ (cutAt 45 [] s).length ≤ s.length + 1 ∧ ∀ k : Nat, k < i → subOk (decide (0 < k)) ((cutAt 45 [] s).getD k []) = true) (fun (i : Nat) => (cutAt 45 [] s).length - i) 0 (⟨Nat.zero_le _, subt_length s, fun k hk => absurd hk (Nat.not_lt_zero _)⟩) (⟨rfl, rfl, trivial⟩) (fun _ h => h) (fun i hinv => ?_)
  refine jc_seq ?_
  refine jc_seq ?_
  refine jc_region ?_
  refine jo_pure rfl (pr_move rfl) ?_
  refine jo_pure rfl (pr_move rfl) ?_
  refine jo_pure rfl (pr_len_imm rfl (.head _) Tryz.underlying38) ?_
  refine jo_pure rfl (pr_lssN (m := i) (n := (cutAt 45 [] s).length) rfl rfl) ?_
  refine jo_nil ?_
  refine jq_then ?_
  refine jc_cond rfl (fun h1b => ?_) (fun h1b => ?_)
  · have h1 := of_decide_eq_true h1b
    have hml : ((cutAt 45 [] s).getD i []).length ≤ s.length := getD_len (i := i) (subt_mem s)
    refine jc_skip ?_
    refine jq_then ?_
    refine jc_seq ?_
    refine jc_block ?_
    refine jc_seq ?_
    refine jc_seq ?_
    refine jc_region ?_
    refine jo_pure rfl (pr_move rfl) ?_
    refine jo_pure rfl (pr_move rfl) ?_
    refine jo_pure rfl (pr_idx_imm (i := i) rfl (.head _) rfl Tryz.underlying38 ty_9 (by first | omega | (simp at hg; omega))) ?_
    refine jo_pure rfl (pr_load_elem_imm (i := i) (str ((cutAt 45 [] s).getD i [])) rfl (.head _) ty_9 rfl rfl (by first | omega | (simp at hg; omega)) rfl) ?_
    refine jo_pure rfl (pr_slen rfl Tryz.underlying9) ?_
    refine jo_pure rfl (pr_lssN (m := ((cutAt 45 [] s).getD i []).length) (n := 1) rfl rfl) ?_
    refine jo_pure rfl (pr_move rfl) ?_
    refine jo_gpure (j := 6) (want := false) rfl rfl rfl rfl (fun hg => pr_move rfl) ?_
    refine jo_gpure (j := 6) (want := false) rfl rfl rfl rfl (fun hg => pr_move rfl) ?_
    refine jo_gpure (j := 6) (want := false) rfl rfl rfl rfl (fun hg => pr_idx_imm (i := i) (evg rfl hg) (.head _) (evg rfl hg) Tryz.underlying38 ty_9 (by first | omega | (simp at hg; omega))) ?_
    refine jo_gpure (j := 6) (want := false) rfl rfl rfl rfl (fun hg => pr_load_elem_imm (i := i) (str ((cutAt 45 [] s).getD i [])) (evg rfl hg) (.head _) ty_9 rfl rfl (by first | omega | (simp at hg; omega)) rfl) ?_
    refine jo_gpure (j := 6) (want := false) rfl rfl rfl rfl (fun hg => pr_slen (evg rfl hg) Tryz.underlying9) ?_
    refine jo_gpure (j := 6) (want := false) rfl rfl rfl rfl (fun hg => pr_gtrN (m := ((cutAt 45 [] s).getD i []).length) (n := 8) (evg rfl hg) rfl) ?_
    refine jo_pure rfl (pr_pick_or rfl rfl rfl) ?_
    refine jo_nil ?_
    refine jq_then ?_
    refine jc_cond rfl (fun h2b => ?_) (fun h2b => ?_)
    · have h2 := (fun q => Or.imp of_decide_eq_true of_decide_eq_true (bt_or q)) h2b
      refine jc_seq ?_
      refine jc_region ?_
      refine jo_pure rfl (pr_assign rfl) ?_
      refine jo_nil ?_
      refine jq_then ?_
      refine jc_ret ?_
      refine jq_then_ret ?_
      refine jq_in_ret ?_
      refine jq_then_ret ?_
      refine jq_then_ret ?_
      refine jq_in_ret ?_
      refine jq_then_ret ?_
      refine j_drop ?_
      exact jq_ret1 rfl () rfl (show (.bool (tagF s) : Value) = (.bool (false)) from congrArg Value.bool (by rw [tag_bad (s := s) h1 (sub_len h2)])) (fun _ h => h)
    · have h2 := (fun q => And.imp of_decide_eq_false of_decide_eq_false (bf_or q)) h2b
      refine jc_skip ?_
      refine jq_then ?_
      refine jc_seq ?_
      refine jc_region ?_
      refine jo_pure rfl (pr_assign rfl) ?_
      refine jo_nil ?_
      refine jq_then ?_
      refine jc_block ?_
      refine jc_loop (fun (k : Nat) => [(3, r1), (4, .int .i64 ((i : Nat) : Int)), (5, .int .i64 ((k : Nat) : Int))]) (fun (k : Nat) => [.imm (.list .str) (r1) (cutAt 45 [] s)]) (fun (k : Nat) => k ≤ ((cutAt 45 [] s).getD i []).length ∧ (((cutAt 45 [] s).getD i []).take k).all (fun c => alphaB c || (decide (0 < i) && digB c)) = true) (fun (k : Nat) => ((cutAt 45 [] s).getD i []).length - k) 0 (⟨Nat.zero_le _, rfl⟩) (⟨rfl, rfl, rfl, trivial⟩) (fun _ h => h) (fun k hink => ?_)
      refine jc_seq ?_
      refine jc_seq ?_
      refine jc_region ?_
      refine jo_pure rfl (pr_move rfl) ?_
      refine jo_pure rfl (pr_move rfl) ?_
      refine jo_pure rfl (pr_move rfl) ?_
      refine jo_pure rfl (pr_idx_imm (i := i) rfl (.head _) rfl Tryz.underlying38 ty_9 (by first | omega | (simp at hg; omega))) ?_
      refine jo_pure rfl (pr_load_elem_imm (i := i) (str ((cutAt 45 [] s).getD i [])) rfl (.head _) ty_9 rfl rfl (by first | omega | (simp at hg; omega)) rfl) ?_
      refine jo_pure rfl (pr_slen rfl Tryz.underlying9) ?_
      refine jo_pure rfl (pr_lssN (m := k) (n := ((cutAt 45 [] s).getD i []).length) rfl rfl) ?_
      refine jo_nil ?_
      refine jq_then ?_
      refine jc_cond rfl (fun h3b => ?_) (fun h3b => ?_)
      · have h3 := of_decide_eq_true h3b
        refine jc_skip ?_
        refine jq_then ?_
        refine jc_seq ?_
        refine jc_block ?_
        refine jc_seq ?_
        refine jc_region ?_
        refine jo_pure rfl (pr_move rfl) ?_
        refine jo_pure rfl (pr_move rfl) ?_
        refine jo_pure rfl (pr_idx_imm (i := i) rfl (.head _) rfl Tryz.underlying38 ty_9 (by first | omega | (simp at hg; omega))) ?_
        refine jo_pure rfl (pr_load_elem_imm (i := i) (str ((cutAt 45 [] s).getD i [])) rfl (.head _) ty_9 rfl rfl (by first | omega | (simp at hg; omega)) rfl) ?_
        refine jo_pure rfl (pr_move rfl) ?_
        refine jo_pure rfl (pr_sindex (i := k) rfl rfl Tryz.underlying9 (by first | omega | (simp at hg; omega))) ?_
        refine jo_pure rfl (pr_assign rfl) ?_
        refine jo_nil ?_
        refine jq_then ?_
        refine jc_seq ?_
        refine jc_region ?_
        refine jo_pure rfl (pr_move rfl) ?_
        refine jo_pure rfl (pr_bgeq (n := 97) rfl rfl) ?_
        refine jo_pure rfl (pr_move rfl) ?_
        refine jo_gpure (j := 2) (want := true) rfl rfl rfl rfl (fun hg => pr_move rfl) ?_
        refine jo_gpure (j := 2) (want := true) rfl rfl rfl rfl (fun hg => pr_bleq (n := 122) (evg rfl hg) rfl) ?_
        refine jo_pure rfl (pr_pick_and rfl rfl rfl) ?_
        refine jo_pure rfl (pr_move rfl) ?_
        refine jo_gpure (j := 6) (want := false) rfl rfl rfl rfl (fun hg => pr_move rfl) ?_
        refine jo_gpure (j := 6) (want := false) rfl rfl rfl rfl (fun hg => pr_bgeq (n := 65) (evg rfl hg) rfl) ?_
        refine jo_gpure (j := 6) (want := false) rfl rfl rfl rfl (fun hg => pr_move (evg rfl hg)) ?_
        refine jo_gpure2 (j := 9) (want := true) rfl rfl rfl rfl (fun hg => pr_move rfl) ?_
        refine jo_gpure2 (j := 9) (want := true) rfl rfl rfl rfl (fun hg => pr_bleq (n := 90) (evg rfl hg) rfl) ?_
        refine jo_gpure (j := 6) (want := false) rfl rfl rfl rfl (fun hg => pr_pick_and (evg rfl hg) (evg2 rfl hg) rfl) ?_
        refine jo_pure rfl (pr_pick_or rfl rfl rfl) ?_
        refine jo_pure rfl (pr_move rfl) ?_
        refine jo_gpure (j := 14) (want := false) rfl rfl rfl rfl (fun hg => pr_move rfl) ?_
        refine jo_gpure (j := 14) (want := false) rfl rfl rfl rfl (fun hg => pr_gtrN (m := i) (n := 0) (evg rfl hg) rfl) ?_
        refine jo_gpure (j := 14) (want := false) rfl rfl rfl rfl (fun hg => pr_move (evg rfl hg)) ?_
        refine jo_gpure2 (j := 17) (want := true) rfl rfl rfl rfl (fun hg => pr_move rfl) ?_
        refine jo_gcall2 (j := 17) (want := true) rfl rfl rfl cal_86 (fun hg => c_ref01_Digit (((cutAt 45 [] s).getD i []).getD k 0)) (fun hg => ⟨evg rfl hg, trivial⟩) rfl (fun _ => trivial) ?_
        refine jo_gpure (j := 14) (want := false) rfl rfl rfl rfl (fun hg => pr_pick_and (evg rfl hg) (evg2 rfl hg) rfl) ?_
        refine jo_pure rfl (pr_pick_or rfl rfl rfl) ?_
        refine jo_pure rfl (pr_not rfl) ?_
        refine jo_nil ?_
        refine jq_then ?_
        refine jc_cond rfl (fun h4b => ?_) (fun h4b => ?_)
        · have h4 := (fun q => (fun q => And.imp (fun q => And.imp (fun q => Or.imp of_decide_eq_false of_decide_eq_false (bf_and q)) (fun q => Or.imp of_decide_eq_false of_decide_eq_false (bf_and q)) (bf_or q)) (fun q => Or.imp of_decide_eq_false id (bf_and q)) (bf_or q)) (bt_not q)) h4b
          refine jc_seq ?_
          refine jc_region ?_
          refine jo_pure rfl (pr_assign rfl) ?_
          refine jo_nil ?_
          refine jq_then ?_
          refine jc_ret ?_
          refine jq_in_ret ?_
          refine jq_then_ret ?_
          refine jq_then_ret ?_
          refine jq_in_ret ?_
          refine jq_in_ret ?_
          refine jq_then_ret ?_
          refine jq_then_ret ?_
          refine jq_in_ret ?_
          refine jq_then_ret ?_
          refine j_drop ?_
          exact jq_ret1 rfl () rfl (show (.bool (tagF s) : Value) = (.bool (false)) from congrArg Value.bool (by rw [tag_bad (s := s) h1 (sub_ch (d := decide (0 < i)) h3 (bt_not h4b))])) (fun _ h => h)
        · have h4 := (fun q => (fun q => Or.imp (fun q => Or.imp (fun q => And.imp of_decide_eq_true of_decide_eq_true (bt_and q)) (fun q => And.imp of_decide_eq_true of_decide_eq_true (bt_and q)) (bt_or q)) (fun q => And.imp of_decide_eq_true id (bt_and q)) (bt_or q)) (bf_not q)) h4b
          refine jc_skip ?_
          refine jq_in_normal ?_
          refine jq_then ?_
          refine jc_region ?_
          refine jo_pure rfl (pr_move rfl) ?_
          refine jo_pure rfl (pr_addN (m := k) (n := 1) rfl rfl (by omega)) ?_
          refine jo_pure rfl (pr_assign rfl) ?_
          refine jo_nil ?_
          refine jq_round' (k + 1) (by (try dsimp only); exact (⟨by omega, all_step (dd := 0) h3 hink.2 (bf_not h4b)⟩)) (by (try dsimp only); exact (by omega)) ⟨rfl, rfl, rfl, trivial⟩ (fun _ h => h)
      · have h3 := of_decide_eq_false h3b
        refine jc_exit ?_
        refine jq_then_exit ?_
        refine jq_then_exit ?_
        refine jq_in_hit ?_
        refine jq_in_normal ?_
        refine jq_then ?_
        refine jc_region ?_
        refine jo_pure rfl (pr_move rfl) ?_
        refine jo_pure rfl (pr_addN (m := i) (n := 1) rfl rfl (by omega)) ?_
        refine jo_pure rfl (pr_assign rfl) ?_
        refine jo_nil ?_
        refine jq_round' (i + 1) (by (try dsimp only); exact (⟨by omega, hinv.2.1, fun k9 hk => by rcases Nat.lt_or_ge k9 i with q | q; exact hinv.2.2 k9 q; have e : k9 = i := (by omega); rw [e]; exact sub_good ⟨by omega, by omega⟩ (by have h9 := hink.2; rw [take_over (s := ((cutAt 45 [] s).getD i [])) (i := k) (by omega)] at h9; exact h9)⟩)) (by (try dsimp only); exact (by omega)) ⟨rfl, rfl, trivial⟩ (fun _ h => h)
  · have h1 := of_decide_eq_false h1b
    refine jc_exit ?_
    refine jq_then_exit ?_
    refine jq_then_exit ?_
    refine jq_in_hit ?_
    refine jq_then ?_
    refine jc_seq ?_
    refine jc_region ?_
    refine jo_pure rfl (pr_assign rfl) ?_
    refine jo_nil ?_
    refine jq_then ?_
    refine jc_ret ?_
    refine j_drop ?_
    exact jq_ret1 rfl () rfl (show (.bool (tagF s) : Value) = (.bool (true)) from congrArg Value.bool (by rw [tag_end (s := s) (fun k hk => hinv.2.2 k (by have hk2 : k < (cutAt 45 [] s).length := hk; omega))])) (fun _ h => h)

theorem c_ref10_Range (s : List UInt8) (hs : s.length ≤ 1000000) : Con Tryz.prog 53 #[str (s)] [] (fun _ : Unit => .bool (rangeL s)) (fun _ => []) := by
  refine con_of_J (args := [str (s)]) (n := 9) Tryz.func53 rfl (Nat.le_of_ble_eq_true rfl) rfl (fun w0 I0 m0 => ?_)
  show J _ [(0, str (s))] [] _
  refine jc_seq ?_
  refine jc_region ?_
  refine jo_pure rfl (pr_assign rfl) ?_
  refine jo_nil ?_
  refine jq_then ?_
  refine jc_seq ?_
  refine jc_region ?_
  refine jo_pure rfl (pr_move rfl) ?_
  refine jo_pure rfl (pr_seql rfl rfl) ?_
  refine jo_pure rfl (pr_move rfl) ?_
  refine jo_gpure (j := 2) (want := false) rfl rfl rfl rfl (fun hg => pr_move rfl) ?_
  refine jo_gcall (j := 2) (want := false) rfl rfl rfl cal_67 (fun hg => c_ref10_Tag s (by omega)) (fun hg => ⟨evg rfl hg, trivial⟩) rfl (fun _ => trivial) ?_
  refine jo_pure rfl (pr_pick_or rfl rfl rfl) ?_
  refine jo_pure rfl (pr_assign rfl) ?_
  refine jo_nil ?_
  refine jq_then ?_
  refine jc_ret ?_
  exact jq_ret1 rfl () rfl (show (.bool (rangeL s) : Value) = (.bool ((decide ((s : List UInt8) = [42]) || tagF s))) from rfl) (fun _ h => h)

theorem c_ref01_ParseQ (s : List UInt8) (hs : s.length ≤ 1000000) : Con Tryz.prog 51 #[str (s)] [] (fun _ : Unit => .tuple #[.int .i64 (((parseQ s).1 : Nat) : Int), .bool ((parseQ s).2)]) (fun _ => []) := by
  refine con_of_J (args := [str (s)]) (n := 65) Tryz.func51 rfl (Nat.le_of_ble_eq_true rfl) rfl (fun w0 I0 m0 => ?_)
  show J _ [(0, str (s))] [] _
  refine jc_seq ?_
  refine jc_region ?_
  refine jo_pure rfl (pr_assign rfl) ?_
  refine jo_pure rfl (pr_assign rfl) ?_
  refine jo_nil ?_
  refine jq_then ?_
  refine jc_seq ?_
  refine jc_seq ?_
  refine jc_region ?_
  refine jo_pure rfl (pr_move rfl) ?_
  refine jo_pure rfl (pr_slen rfl Tryz.underlying9) ?_
  refine jo_pure rfl (pr_lssN (m := s.length) (n := 1) rfl rfl) ?_
  refine jo_pure rfl (pr_move rfl) ?_
  refine jo_gpure (j := 3) (want := false) rfl rfl rfl rfl (fun hg => pr_move rfl) ?_
  refine jo_gpure (j := 3) (want := false) rfl rfl rfl rfl (fun hg => pr_slen (evg rfl hg) Tryz.underlying9) ?_
  refine jo_gpure (j := 3) (want := false) rfl rfl rfl rfl (fun hg => pr_gtrN (m := s.length) (n := 5) (evg rfl hg) rfl) ?_
  refine jo_pure rfl (pr_pick_or rfl rfl rfl) ?_
  refine jo_pure rfl (pr_move rfl) ?_
  refine jo_gpure (j := 8) (want := false) rfl rfl rfl rfl (fun hg => pr_move rfl) ?_
  refine jo_gpure (j := 8) (want := false) rfl rfl rfl rfl (fun hg => pr_sindex (i := 0) (evg rfl hg) rfl Tryz.underlying9 (by first | omega | (simp at hg; have := List.length_pos_iff.2 hg.1; omega) | (simp at hg; have := List.length_pos_iff.2 hg.1.1; omega) | (simp at hg; have := List.length_pos_iff.2 hg.1.1.1; omega) | (simp at hg; omega))) ?_
  refine jo_gpure (j := 8) (want := false) rfl rfl rfl rfl (fun hg => pr_bneq (n := 48) (evg rfl hg) rfl) ?_
  refine jo_gpure (j := 8) (want := false) rfl rfl rfl rfl (fun hg => pr_move (evg rfl hg)) ?_
  refine jo_gpure2 (j := 12) (want := true) rfl rfl rfl rfl (fun hg => pr_move rfl) ?_
  refine jo_gpure2 (j := 12) (want := true) rfl rfl rfl rfl (fun hg => pr_sindex (i := 0) (evg rfl hg) rfl Tryz.underlying9 (by first | omega | (simp at hg; have := List.length_pos_iff.2 hg.1; omega) | (simp at hg; have := List.length_pos_iff.2 hg.1.1; omega) | (simp at hg; have := List.length_pos_iff.2 hg.1.1.1; omega) | (simp at hg; omega))) ?_
  refine jo_gpure2 (j := 12) (want := true) rfl rfl rfl rfl (fun hg => pr_bneq (n := 49) (evg rfl hg) rfl) ?_
  refine jo_gpure (j := 8) (want := false) rfl rfl rfl rfl (fun hg => pr_pick_and (evg rfl hg) (evg2 rfl hg) rfl) ?_
  refine jo_pure rfl (pr_pick_or rfl rfl rfl) ?_
  refine jo_pure rfl (pr_move rfl) ?_
  refine jo_gpure (j := 18) (want := false) rfl rfl rfl rfl (fun hg => pr_move rfl) ?_
  refine jo_gpure (j := 18) (want := false) rfl rfl rfl rfl (fun hg => pr_slen (evg rfl hg) Tryz.underlying9) ?_
  refine jo_gpure (j := 18) (want := false) rfl rfl rfl rfl (fun hg => pr_gtrN (m := s.length) (n := 1) (evg rfl hg) rfl) ?_
  refine jo_gpure (j := 18) (want := false) rfl rfl rfl rfl (fun hg => pr_move (evg rfl hg)) ?_
  refine jo_gpure2 (j := 22) (want := true) rfl rfl rfl rfl (fun hg => pr_move rfl) ?_
  refine jo_gpure2 (j := 22) (want := true) rfl rfl rfl rfl (fun hg => pr_sindex (i := 1) (evg rfl hg) rfl Tryz.underlying9 (by first | omega | (simp at hg; have := List.length_pos_iff.2 hg.1; omega) | (simp at hg; have := List.length_pos_iff.2 hg.1.1; omega) | (simp at hg; have := List.length_pos_iff.2 hg.1.1.1; omega) | (simp at hg; omega))) ?_
  refine jo_gpure2 (j := 22) (want := true) rfl rfl rfl rfl (fun hg => pr_bneq (n := 46) (evg rfl hg) rfl) ?_
  refine jo_gpure (j := 18) (want := false) rfl rfl rfl rfl (fun hg => pr_pick_and (evg rfl hg) (evg2 rfl hg) rfl) ?_
  refine jo_pure rfl (pr_pick_or rfl rfl rfl) ?_
  refine jo_nil ?_
  refine jq_then ?_
  refine jc_cond rfl (fun h1b => ?_) (fun h1b => ?_)
  · have h1 := (fun q => Or.imp (fun q => Or.imp (fun q => Or.imp of_decide_eq_true of_decide_eq_true (bt_or q)) (fun q => And.imp (fun q => of_decide_eq_false (bt_not q)) (fun q => of_decide_eq_false (bt_not q)) (bt_and q)) (bt_or q)) (fun q => And.imp of_decide_eq_true (fun q => of_decide_eq_false (bt_not q)) (bt_and q)) (bt_or q)) h1b
    refine jc_seq ?_
    refine jc_region ?_
    refine jo_pure rfl (pr_assign rfl) ?_
    refine jo_pure rfl (pr_assign rfl) ?_
    refine jo_nil ?_
    refine jq_then ?_
    refine jc_ret ?_
    refine jq_then_ret ?_
    exact jq_rets (rs := [.tmp 2, .tmp 3]) (vs := [.int .i64 ((0 : Nat) : Int), .bool (false)]) rfl () ⟨resV_tmp rfl, resV_tmp rfl, trivial⟩ rfl (show (.tuple #[.int .i64 (((parseQ s).1 : Nat) : Int), .bool ((parseQ s).2)] : Value) = (.tuple #[.int .i64 ((0 : Nat) : Int), .bool (false)]) from by rw [parseQ_bad (show badQ s = true from (badQ_eq s).symm.trans h1b)]) (fun _ h => h)
  · have h1 := (fun q => And.imp (fun q => And.imp (fun q => And.imp of_decide_eq_false of_decide_eq_false (bf_or q)) (fun q => Or.imp (fun q => of_decide_eq_true (bf_not q)) (fun q => of_decide_eq_true (bf_not q)) (bf_and q)) (bf_or q)) (fun q => Or.imp of_decide_eq_false (fun q => of_decide_eq_true (bf_not q)) (bf_and q)) (bf_or q)) h1b
    have hbl := badQ_len (show badQ s = false from (badQ_eq s).symm.trans h1b)
    refine jc_skip ?_
    refine jq_then ?_
    refine jc_seq ?_
    refine jc_region ?_
    refine jo_pure rfl (pr_move rfl) ?_
    refine jo_pure rfl (pr_sindex (i := 0) rfl rfl Tryz.underlying9 (by first | omega | (simp at hg; have := List.length_pos_iff.2 hg.1; omega) | (simp at hg; have := List.length_pos_iff.2 hg.1.1; omega) | (simp at hg; have := List.length_pos_iff.2 hg.1.1.1; omega) | (simp at hg; omega))) ?_
    refine jo_pure rfl (pr_bsub (n := 48) rfl rfl) ?_
    refine jo_pure rfl (pr_u8_int rfl Tryz.underlying5 Tryz.underlying3) ?_
    refine jo_pure rfl (pr_mulN (m := ((s.getD 0 0) - 48).toNat) (n := 1000) rfl rfl (by first | (have := (s.getD 0 0 - 48).toNat_lt; omega) | (have := wd_le i (s.getD i 0); unfold digV at this; rw [hinv.2.2.2.1, Nat.mul_comm]; omega))) ?_
    refine jo_pure rfl (pr_assign rfl) ?_
    refine jo_nil ?_
    refine jq_then ?_
    refine jc_seq ?_
    refine jc_region ?_
    refine jo_pure rfl (pr_assign rfl) ?_
    refine jo_nil ?_
    refine jq_then ?_
    refine jc_seq ?_
    refine jc_seq ?_
    refine jc_region ?_
    refine jo_pure rfl (pr_assign rfl) ?_
    refine jo_nil ?_
    refine jq_then ?_
    refine jc_block ?_
    refine jc_loop3 (fun (i : Nat) (q : Nat) (wt : Nat) => [(0, str (s)), (4, .int .i64 ((q : Nat) : Int)), (5, .int .i64 ((wt : Nat) : Int)), (6, .int .i64 ((i : Nat) : Int))]) (fun (i : Nat) (q : Nat) (wt : Nat) => []) (fun (i : Nat) (q : Nat) (wt : Nat) => 2 ≤ i ∧ (i ≤ s.length ∨ i = 2) ∧ q = sumQ s i ∧ wt = wq i ∧ q ≤ 255000 * i ∧ wt ≤ 1000 ∧ ((s.take i).drop 2).all digB = true) (fun (i : Nat) (q : Nat) (wt : Nat) => 5 - i) 2 ((((s.getD 0 0) - 48).toNat) * 1000) 100 (⟨Nat.le_refl _, .inr rfl, sumQ_two s, rfl, by have := (s.getD 0 0 - 48).toNat_lt; omega, by omega, dig_two s⟩) (⟨rfl, rfl, rfl, rfl, trivial⟩) (fun _ h => h) (fun i q wt hinv => ?_)
    refine jc_seq ?_
    refine jc_seq ?_
    refine jc_region ?_
    refine jo_pure rfl (pr_move rfl) ?_
    refine jo_pure rfl (pr_move rfl) ?_
    refine jo_pure rfl (pr_slen rfl Tryz.underlying9) ?_
    refine jo_pure rfl (pr_lssN (m := i) (n := s.length) rfl rfl) ?_
    refine jo_nil ?_
    refine jq_then ?_
    refine jc_cond rfl (fun h2b => ?_) (fun h2b => ?_)
    · have h2 := of_decide_eq_true h2b
      refine jc_skip ?_
      refine jq_then ?_
      refine jc_seq ?_
      refine jc_block ?_
      refine jc_seq ?_
      refine jc_seq ?_
      refine jc_region ?_
      refine jo_pure rfl (pr_move rfl) ?_
      refine jo_pure rfl (pr_move rfl) ?_
      refine jo_pure rfl (pr_sindex (i := i) rfl rfl Tryz.underlying9 (by first | omega | (simp at hg; have := List.length_pos_iff.2 hg.1; omega) | (simp at hg; have := List.length_pos_iff.2 hg.1.1; omega) | (simp at hg; have := List.length_pos_iff.2 hg.1.1.1; omega) | (simp at hg; omega))) ?_
      refine jo_callp cal_86 (c_ref01_Digit (s.getD i 0)) ⟨rfl, trivial⟩ rfl (trivial) (fun _ => ?_)
      refine jo_pure rfl (pr_not rfl) ?_
      refine jo_nil ?_
      refine jq_then ?_
      refine jc_cond rfl (fun h3b => ?_) (fun h3b => ?_)
      · have h3 := (fun q => id (bt_not q)) h3b
        refine jc_seq ?_
        refine jc_region ?_
        refine jo_pure rfl (pr_assign rfl) ?_
        refine jo_pure rfl (pr_assign rfl) ?_
        refine jo_nil ?_
        refine jq_then ?_
        refine jc_ret ?_
        refine jq_then_ret ?_
        refine jq_in_ret ?_
        refine jq_then_ret ?_
        refine jq_then_ret ?_
        refine jq_in_ret ?_
        refine jq_then_ret ?_
        exact jq_rets (rs := [.tmp 2, .tmp 3]) (vs := [.int .i64 ((0 : Nat) : Int), .bool (false)]) rfl () ⟨resV_tmp rfl, resV_tmp rfl, trivial⟩ rfl (show (.tuple #[.int .i64 (((parseQ s).1 : Nat) : Int), .bool ((parseQ s).2)] : Value) = (.tuple #[.int .i64 ((0 : Nat) : Int), .bool (false)]) from by rw [parseQ_dig (show badQ s = false from (badQ_eq s).symm.trans h1b) h2 (by omega) (by simpa using h3b)]) (fun _ h => h)
      · have h3 := (fun q => id (bf_not q)) h3b
        refine jc_skip ?_
        refine jq_then ?_
        refine jc_seq ?_
        refine jc_region ?_
        refine jo_pure rfl (pr_move rfl) ?_
        refine jo_pure rfl (pr_move rfl) ?_
        refine jo_pure rfl (pr_move rfl) ?_
        refine jo_pure rfl (pr_sindex (i := i) rfl rfl Tryz.underlying9 (by first | omega | (simp at hg; have := List.length_pos_iff.2 hg.1; omega) | (simp at hg; have := List.length_pos_iff.2 hg.1.1; omega) | (simp at hg; have := List.length_pos_iff.2 hg.1.1.1; omega) | (simp at hg; omega))) ?_
        refine jo_pure rfl (pr_bsub (n := 48) rfl rfl) ?_
        refine jo_pure rfl (pr_u8_int rfl Tryz.underlying5 Tryz.underlying3) ?_
        refine jo_pure rfl (pr_move rfl) ?_
        refine jo_pure rfl (pr_mulN (m := ((s.getD i 0) - 48).toNat) (n := wt) rfl rfl (by first | (have := (s.getD 0 0 - 48).toNat_lt; omega) | (have := wd_le i (s.getD i 0); unfold digV at this; rw [hinv.2.2.2.1, Nat.mul_comm]; omega))) ?_
        refine jo_pure rfl (pr_addN (m := q) (n := (((s.getD i 0) - 48).toNat) * wt) rfl rfl (by have := wd_le i (s.getD i 0); unfold digV at this; first | omega | (rw [hinv.2.2.2.1, Nat.mul_comm]; omega) | (rw [hinv.2.2.2.1, Nat.mul_comm (s.getD i 0 - 48).toNat]; omega))) ?_
        refine jo_pure rfl (pr_assign rfl) ?_
        refine jo_nil ?_
        refine jq_then ?_
        refine jc_region ?_
        refine jo_pure rfl (pr_move rfl) ?_
        refine jo_pure rfl (pr_quoN (m := wt) (n := 10) rfl rfl (by omega) (by omega)) ?_
        refine jo_pure rfl (pr_assign rfl) ?_
        refine jo_nil ?_
        refine jq_in_normal ?_
        refine jq_then ?_
        refine jc_region ?_
        refine jo_pure rfl (pr_move rfl) ?_
        refine jo_pure rfl (pr_addN (m := i) (n := 1) rfl rfl (by have := wd_le i (s.getD i 0); unfold digV at this; first | omega | (rw [hinv.2.2.2.1, Nat.mul_comm]; omega) | (rw [hinv.2.2.2.1, Nat.mul_comm (s.getD i 0 - 48).toNat]; omega))) ?_
        refine jo_pure rfl (pr_assign rfl) ?_
        refine jo_nil ?_
        refine jq_round' ((i + 1), (q + ((((s.getD i 0) - 48).toNat) * wt)), (wt / 10)) (by (try dsimp only); exact (⟨by omega, .inl (by omega), by rw [sumQ_step (by omega), hinv.2.2.1, hinv.2.2.2.1, Nat.mul_comm]; rfl, by rw [hinv.2.2.2.1]; exact wq_div hinv.1 (by omega), by have := wd_le i (s.getD i 0); unfold digV at this; rw [hinv.2.2.2.1, Nat.mul_comm (s.getD i 0 - 48).toNat]; omega, by have := Nat.div_le_self wt 10; omega, dig_step h2 (by simpa using h3b) hinv.2.2.2.2.2.2⟩)) (by (try dsimp only); exact (by omega)) ⟨rfl, rfl, rfl, rfl, trivial⟩ (fun _ h => h)
    · have h2 := of_decide_eq_false h2b
      refine jc_exit ?_
      refine jq_then_exit ?_
      refine jq_then_exit ?_
      refine jq_in_hit ?_
      refine jq_then ?_
      refine jc_seq ?_
      refine jc_seq ?_
      refine jc_region ?_
      refine jo_pure rfl (pr_move rfl) ?_
      refine jo_pure rfl (pr_gtrN (m := q) (n := 1000) rfl rfl) ?_
      refine jo_nil ?_
      refine jq_then ?_
      refine jc_cond rfl (fun h4b => ?_) (fun h4b => ?_)
      · have h4 := of_decide_eq_true h4b
        refine jc_seq ?_
        refine jc_region ?_
        refine jo_pure rfl (pr_assign rfl) ?_
        refine jo_pure rfl (pr_assign rfl) ?_
        refine jo_nil ?_
        refine jq_then ?_
        refine jc_ret ?_
        refine jq_then_ret ?_
        exact jq_rets (rs := [.tmp 2, .tmp 3]) (vs := [.int .i64 ((0 : Nat) : Int), .bool (false)]) rfl () ⟨resV_tmp rfl, resV_tmp rfl, trivial⟩ rfl (show (.tuple #[.int .i64 (((parseQ s).1 : Nat) : Int), .bool ((parseQ s).2)] : Value) = (.tuple #[.int .i64 ((0 : Nat) : Int), .bool (false)]) from by rw [parseQ_big (show badQ s = false from (badQ_eq s).symm.trans h1b) (digs_end (by omega) hinv.2.2.2.2.2.2) (by have := hinv.2.2.1; rw [sumQ_at (by omega) (by omega) hinv.2.1] at this; omega)]) (fun _ h => h)
      · have h4 := of_decide_eq_false h4b
        refine jc_skip ?_
        refine jq_then ?_
        refine jc_seq ?_
        refine jc_region ?_
        refine jo_pure rfl (pr_move rfl) ?_
        refine jo_pure rfl (pr_assign rfl) ?_
        refine jo_pure rfl (pr_assign rfl) ?_
        refine jo_nil ?_
        refine jq_then ?_
        refine jc_ret ?_
        exact jq_rets (rs := [.tmp 2, .tmp 3]) (vs := [.int .i64 ((q : Nat) : Int), .bool (true)]) rfl () ⟨resV_tmp rfl, resV_tmp rfl, trivial⟩ rfl (show (.tuple #[.int .i64 (((parseQ s).1 : Nat) : Int), .bool ((parseQ s).2)] : Value) = (.tuple #[.int .i64 ((q : Nat) : Int), .bool (true)]) from by rw [parseQ_ok (show badQ s = false from (badQ_eq s).symm.trans h1b) (digs_end (by omega) hinv.2.2.2.2.2.2) (by have := hinv.2.2.1; rw [sumQ_at (by omega) (by omega) hinv.2.1] at this; omega), hinv.2.2.1, sumQ_at (by omega) (by omega) hinv.2.1]) (fun _ h => h)

theorem c_ref10_member (kind : Int) (s : List UInt8) (hs : s.length ≤ 100000) : Con Tryz.prog 22 #[.int .i64 (kind), str (s)] [] (fun _ : Unit => .tuple #[.agg #[str ((prefF kind s).1.1), .int .i64 ((prefF kind s).1.2)], .bool ((prefF kind s).2)]) (fun _ => []) := by
  refine con_of_J (args := [.int .i64 (kind), str (s)]) (n := 85) Tryz.func22 rfl (Nat.le_of_ble_eq_true rfl) rfl (fun w0 I0 m0 => ?_)
  show J _ [(0, .int .i64 (kind)), (1, str (s))] [] _
  refine jc_seq ?_
  refine jc_region ?_
  refine jo_alloc ty_41 [str ([]), .int .i64 ((0 : Nat) : Int)] rfl rfl (fun b1 => ?_)
  refine jo_pure rfl (pr_assign rfl) ?_
  refine jo_nil ?_
  refine jq_then ?_
  refine jc_seq ?_
  refine jc_region ?_
  refine jo_pure rfl (pr_move rfl) ?_
  refine jo_callp cal_50 (c_ref01_ParseParams s (by omega)) ⟨rfl, trivial⟩ rfl (trivial) (fun r1 => ?_)
  show J _ _ [.row (r1) 61 (.pair .str .str) ((parseP s).2.1), .box b1 41 [str ([]), .int .i64 ((0 : Nat) : Int)]] _
  refine jo_pure rfl (pr_move rfl) ?_
  refine jo_pure rfl (pr_extract rfl rfl) ?_
  refine jo_pure rfl (pr_extract rfl rfl) ?_
  refine jo_pure rfl (pr_extract rfl rfl) ?_
  refine jo_pure rfl (pr_assign rfl) ?_
  refine jo_pure rfl (pr_assign rfl) ?_
  refine jo_pure rfl (pr_assign rfl) ?_
  refine jo_nil ?_
  refine jq_then ?_
  refine jc_seq ?_
  refine jc_seq ?_
  refine jc_region ?_
  refine jo_pure rfl (pr_move rfl) ?_
  refine jo_pure rfl (pr_not rfl) ?_
  refine jo_nil ?_
  refine jq_then ?_
  refine jc_cond rfl (fun h1b => ?_) (fun h1b => ?_)
  · have h1 := (fun q => id (bt_not q)) h1b
    refine jc_seq ?_
    refine jc_region ?_
    refine jo_pure rfl (pr_build [] [str ([]), .int .i64 ((0 : Nat) : Int)] (fun a hf => by simp) (by kernel_rfl)) ?_
    refine j_pull1 ?_
    refine jo_store rfl rfl ty_41 [str ([]), .int .i64 ((0 : Nat) : Int)] rfl rfl rfl [str ([]), .int .i64 ((0 : Nat) : Int)] rfl rfl ?_
    refine jo_pure rfl (pr_assign rfl) ?_
    refine jo_nil ?_
    refine jq_then ?_
    refine jc_ret ?_
    refine jq_then_ret ?_
    refine j_pull1 ?_
    refine j_drop ?_
    exact jq_rets (rs := [.cell 4 41, .tmp 5]) (vs := [.agg #[str ([]), .int .i64 ((0 : Nat) : Int)], .bool (false)]) rfl () ⟨resV_box (.agg #[str ([]), .int .i64 ((0 : Nat) : Int)]) rfl ty_41 (.head _) rfl (by decide) rfl, resV_tmp rfl, trivial⟩ rfl (show (.tuple #[.agg #[str ((prefF kind s).1.1), .int .i64 ((prefF kind s).1.2)], .bool ((prefF kind s).2)] : Value) = (.tuple #[.agg #[str ([]), .int .i64 ((0 : Nat) : Int)], .bool (false)]) from by rw [pref_bad h1] <;> rfl) (fun w h => (fun h => h) (Mem.front (As := []) h))
  · have h1 := (fun q => id (bf_not q)) h1b
    have hpl := parseP_len1 s
    have hxl := parseP_length s
    have hxm : ∀ x ∈ (parseP s).2.1, x.1.length ≤ 1000000 ∧ x.2.length ≤ 1000000 := fun x hx => by have := parseP_mem s x hx; omega
    refine jc_skip ?_
    refine jq_then ?_
    refine jc_seq ?_
    refine jc_region ?_
    refine jo_pure rfl (pr_assign rfl) ?_
    refine jo_nil ?_
    refine jq_then ?_
    refine jc_seq ?_
    refine jc_block ?_
    refine jc_loop (fun (i : Nat) => [(0, .int .i64 (kind)), (4, .pointer (some ⟨b1, 0, none⟩)), (6, str ((parseP s).1)), (7, r1), (9, .int .i64 ((i : Nat) : Int))]) (fun (i : Nat) => [.row (r1) 61 (.pair .str .str) ((parseP s).2.1), .box b1 41 [str ([]), .int .i64 ((0 : Nat) : Int)]]) (fun (i : Nat) => i ≤ (parseP s).2.1.length ∧ i + qAt ((parseP s).2.1.drop i) = qAt (parseP s).2.1) (fun (i : Nat) => (parseP s).2.1.length - i) 0 (⟨Nat.zero_le _, by rw [List.drop_zero, Nat.zero_add]⟩) (⟨rfl, rfl, rfl, rfl, rfl, trivial⟩) (fun _ h => h) (fun i hinv => ?_)
    refine jc_seq ?_
    refine jc_seq ?_
    refine jc_region ?_
    refine jo_pure rfl (pr_move rfl) ?_
    refine jo_pure rfl (pr_move rfl) ?_
    refine jo_pure rfl (pr_len_row rfl (.head _) Tryz.underlying44) ?_
    refine jo_pure rfl (pr_lssN (m := i) (n := ((parseP s).2.1).length) rfl rfl) ?_
    refine jo_pure rfl (pr_move rfl) ?_
    refine jo_gpure (j := 4) (want := true) rfl rfl rfl rfl (fun hg => pr_move rfl) ?_
    refine jo_gpure (j := 4) (want := true) rfl rfl rfl rfl (fun hg => pr_move rfl) ?_
    refine jo_gpure (j := 4) (want := true) rfl rfl rfl rfl (fun hg => pr_idx_row (i := i) (evg rfl hg) (.head _) (evg rfl hg) Tryz.underlying44 ty_61 (by first | omega | (simp at hg; omega))) ?_
    refine jo_gpure (j := 4) (want := true) rfl rfl rfl rfl (fun hg => pr_fieldAddr_row (i := i) (evg rfl hg) (.head _) Tryz.underlying61 rfl ty_9 rfl rfl (by first | omega | (simp at hg; omega))) ?_
    refine jo_gpure (j := 4) (want := true) rfl rfl rfl rfl (fun hg => pr_load_off_row (i := i) (o := 0) (dd := ([], [])) (str ((((parseP s).2.1).getD i ([], [])).1)) (evg rfl hg) (.head _) ty_9 rfl (by decide) rfl (by first | omega | (simp at hg; omega)) rfl) ?_
    refine jo_gpure (j := 4) (want := true) rfl rfl rfl rfl (fun hg => pr_sneq (evg rfl hg) rfl) ?_
    refine jo_pure rfl (pr_pick_and rfl rfl rfl) ?_
    refine jo_nil ?_
    refine jq_then ?_
    refine jc_cond rfl (fun h2b => ?_) (fun h2b => ?_)
    · have h2 := (fun q => And.imp of_decide_eq_true (fun q => of_decide_eq_false (bt_not q)) (bt_and q)) h2b
      refine jc_skip ?_
      refine jq_then ?_
      refine jc_block ?_
      refine jc_region ?_
      refine jo_pure rfl (pr_move rfl) ?_
      refine jo_pure rfl (pr_addN (m := i) (n := 1) rfl rfl (by omega)) ?_
      refine jo_pure rfl (pr_assign rfl) ?_
      refine jo_nil ?_
      refine jq_in_normal ?_
      refine j_pull1 ?_
      refine j_pull1 ?_
      refine jq_round' (i + 1) (by (try dsimp only); exact (⟨by omega, qAt_miss h2.1 h2.2 hinv.2⟩)) (by (try dsimp only); exact (by omega)) ⟨rfl, rfl, rfl, rfl, rfl, trivial⟩ (fun _ h => h)
    · have h2 := (fun q => Or.imp of_decide_eq_false (fun q => of_decide_eq_true (bf_not q)) (bf_and q)) h2b
      have e := qAt_stop hinv.1 h2 hinv.2
      have hxt : ∀ x ∈ ((parseP s).2.1.take i).drop 0, x.1.length ≤ 1000000 ∧ x.2.length ≤ 1000000 := fun x hx => hxm x (List.mem_of_mem_take (List.mem_of_mem_drop hx))
      refine jc_exit ?_
      refine jq_then_exit ?_
      refine jq_then_exit ?_
      refine jq_in_hit ?_
      refine jq_then ?_
      refine jc_seq ?_
      refine jc_region ?_
      refine jo_pure rfl (pr_assign rfl) ?_
      refine jo_nil ?_
      refine jq_then ?_
      refine jc_seq ?_
      refine jc_seq ?_
      refine jc_region ?_
      refine jo_pure rfl (pr_move rfl) ?_
      refine jo_pure rfl (pr_move rfl) ?_
      refine jo_pure rfl (pr_len_row rfl (.head _) Tryz.underlying44) ?_
      refine jo_pure rfl (pr_lssN (m := i) (n := ((parseP s).2.1).length) rfl rfl) ?_
      refine jo_nil ?_
      refine jq_then ?_
      refine jc_cond rfl (fun h3b => ?_) (fun h3b => ?_)
      · have h3 := of_decide_eq_true h3b
        refine jc_seq ?_
        refine jc_region ?_
        refine jo_pure rfl (pr_move rfl) ?_
        refine jo_pure rfl (pr_move rfl) ?_
        refine jo_pure rfl (pr_idx_row (i := i) rfl (.head _) rfl Tryz.underlying44 ty_61 (by first | omega | (simp at hg; omega))) ?_
        refine jo_pure rfl (pr_fieldAddr_row (i := i) rfl (.head _) Tryz.underlying61 rfl ty_9 rfl rfl (by first | omega | (simp at hg; omega))) ?_
        refine jo_pure rfl (pr_load_off_row (i := i) (o := 1) (dd := ([], [])) (str ((((parseP s).2.1).getD i ([], [])).2)) rfl (.head _) ty_9 rfl (by decide) rfl (by first | omega | (simp at hg; omega)) rfl) ?_
        refine jo_callp cal_51 (c_ref01_ParseQ ((((parseP s).2.1).getD i ([], [])).2) ((hxm _ (getD_mem (dd := ([], [])) h3)).2)) ⟨rfl, trivial⟩ rfl (trivial) (fun _ => ?_)
        refine jo_pure rfl (pr_move rfl) ?_
        refine jo_pure rfl (pr_extract rfl rfl) ?_
        refine jo_pure rfl (pr_extract rfl rfl) ?_
        refine jo_pure rfl (pr_assign rfl) ?_
        refine jo_pure rfl (pr_assign rfl) ?_
        refine jo_nil ?_
        refine jq_then ?_
        refine jc_seq ?_
        refine jc_region ?_
        refine jo_pure rfl (pr_move rfl) ?_
        refine jo_pure rfl (pr_not rfl) ?_
        refine jo_nil ?_
        refine jq_then ?_
        refine jc_cond rfl (fun h4b => ?_) (fun h4b => ?_)
        · have h4 := (fun q => id (bt_not q)) h4b
          refine jc_seq ?_
          refine jc_region ?_
          refine jo_pure rfl (pr_build [] [str ([]), .int .i64 ((0 : Nat) : Int)] (fun a hf => by simp) (by kernel_rfl)) ?_
          refine j_pull1 ?_
          refine jo_store rfl rfl ty_41 [str ([]), .int .i64 ((0 : Nat) : Int)] rfl rfl rfl [str ([]), .int .i64 ((0 : Nat) : Int)] rfl rfl ?_
          refine jo_pure rfl (pr_assign rfl) ?_
          refine jo_nil ?_
          refine jq_then ?_
          refine jc_ret ?_
          refine jq_then_ret ?_
          refine j_pull1 ?_
          refine j_drop ?_
          exact jq_rets (rs := [.cell 4 41, .tmp 5]) (vs := [.agg #[str ([]), .int .i64 ((0 : Nat) : Int)], .bool (false)]) rfl () ⟨resV_box (.agg #[str ([]), .int .i64 ((0 : Nat) : Int)]) rfl ty_41 (.head _) rfl (by decide) rfl, resV_tmp rfl, trivial⟩ rfl (show (.tuple #[.agg #[str ((prefF kind s).1.1), .int .i64 ((prefF kind s).1.2)], .bool ((prefF kind s).2)] : Value) = (.tuple #[.agg #[str ([]), .int .i64 ((0 : Nat) : Int)], .bool (false)]) from by rw [mem_badq h1 e h3 h4] <;> rfl) (fun w h => (fun h => h) (Mem.front (As := []) h))
        · have h4 := (fun q => id (bf_not q)) h4b
          refine jc_skip ?_
          refine jq_then ?_
          refine jc_seq ?_
          refine jc_seq ?_
          refine jc_region ?_
          refine jo_pure rfl (pr_move rfl) ?_
          refine jo_nil ?_
          refine jq_then ?_
          refine jc_block ?_
          refine jc_seq ?_
          refine jc_region ?_
          refine jo_pure rfl (pr_eql (n := 1) rfl rfl) ?_
          refine jo_pure rfl (pr_assign rfl) ?_
          refine jo_nil ?_
          refine jq_then ?_
          refine jc_cond rfl (fun h5b => ?_) (fun h5b => ?_)
          · have h5 := of_decide_eq_true h5b
            refine jc_seq ?_
            refine jc_region ?_
            refine jo_pure rfl (pr_move rfl) ?_
            refine jo_callp cal_29 (c_ref10_ParseRange ((parseP s).1) (by omega)) ⟨rfl, trivial⟩ rfl (trivial) (fun r2 => ?_)
            show J _ _ [.row (r2) 61 (.pair .str .str) ((parseR ((parseP s).1)).1.2.2), .row (r1) 61 (.pair .str .str) ((parseP s).2.1), .box b1 41 [str ([]), .int .i64 ((0 : Nat) : Int)]] _
            refine jo_pure rfl (pr_move rfl) ?_
            refine jo_pure rfl (pr_extract rfl rfl) ?_
            refine jo_pure rfl (pr_extract rfl rfl) ?_
            refine jo_alloc ty_46 [str ([]), str ([]), .slice none 0 0] rfl rfl (fun b2 => ?_)
            refine jo_storeV rfl rfl ty_46 [str ((parseR ((parseP s).1)).1.1), str ((parseR ((parseP s).1)).1.2.1), r2] (fun _ _ _ _ => rfl) rfl (fun w I m hs => by simp only [List.all_cons, List.all_nil, Bool.and_true, Bool.and_eq_true]; exact ⟨rfl, rfl, (SliceV.one (row_slice (.tail _ (.head _)) hs))⟩) [str ((parseR ((parseP s).1)).1.1), str ((parseR ((parseP s).1)).1.2.1), r2] rfl rfl ?_
            refine jo_pure rfl (pr_assign rfl) ?_
            refine jo_nil ?_
            refine jq_then ?_
            refine jc_seq ?_
            refine jc_region ?_
            refine jo_pure rfl (pr_move rfl) ?_
            refine jo_pure rfl (pr_move rfl) ?_
            refine j_pull2 ?_
            refine j_pub_row ?_
            refine j_resl (l := 0) (h := i) (.head _) (by omega) (by omega) ?_
            show J _ _ (.imm (.list (.pair .str .str)) (resl (r1) (0) (i) 2) ((((parseP s).2.1).take i).drop 0) :: _) _
            refine jo_pure rfl (pr_slice_imm (l := 0) (h := i) rfl (.tail _ (.head _)) Tryz.underlying44 ty_61 rfl ⟨_, rfl⟩ (by omega) (by omega)) ?_
            refine jo_pure rfl (pr_fieldAddr 2 rfl Tryz.underlying46 rfl ty_44 rfl rfl) ?_
            refine j_pull2 ?_
            refine jo_storeV rfl rfl ty_44 [resl (r1) (0) (i) 2] (fun w I m hs => (SliceV.cells (imm_slice (.tail _ (.head _)) hs))) rfl (fun w I m hs => by simp only [List.all_cons, List.all_nil, Bool.and_true, Bool.and_eq_true]; exact (SliceV.one (imm_slice (.tail _ (.head _)) hs))) [str ((parseR ((parseP s).1)).1.1), str ((parseR ((parseP s).1)).1.2.1), resl (r1) (0) (i) 2] rfl rfl ?_
            refine jo_nil ?_
            refine jq_then ?_
            refine jc_seq ?_
            refine jc_region ?_
            refine jo_pure rfl (pr_load_box (.agg #[str ((parseR ((parseP s).1)).1.1), str ((parseR ((parseP s).1)).1.2.1), resl (r1) (0) (i) 2]) rfl ty_46 (.head _) rfl (by decide) rfl) ?_
            have con1 := c_ref10_FormatType ((parseR ((parseP s).1)).1.1, ((parseR ((parseP s).1)).1.2.1, (((parseP s).2.1).take i).drop 0)) (resl (r1) (0) (i) 2) (by dsimp only; rw [List.length_drop, List.length_take]; omega) (hxt) (by have := parseR_len (parseP s).1; dsimp only; omega) (by have := parseR_len (parseP s).1; dsimp only; omega)
            refine jo_callp cal_52 con1 (by exact ⟨rfl, trivial⟩) rfl (by exact ⟨⟨rfl, .tail _ (.head _)⟩, trivial⟩) (fun _ => ?_)
            clear con1
            refine jo_pure rfl (pr_move rfl) ?_
            refine jo_pure rfl (pr_build [(0, str (formatT ((parseR ((parseP s).1)).1.1, ((parseR ((parseP s).1)).1.2.1, (((parseP s).2.1).take i).drop 0)))), (1, .int .i64 (((parseQ ((((parseP s).2.1).getD i ([], [])).2)).1 : Nat) : Int))] [str (formatT ((parseR ((parseP s).1)).1.1, ((parseR ((parseP s).1)).1.2.1, (((parseP s).2.1).take i).drop 0))), .int .i64 (((parseQ ((((parseP s).2.1).getD i ([], [])).2)).1 : Nat) : Int)] (fun a hf => by simp only [List.map_toArray, List.map_cons, List.map_nil, hf.ev (show ev _ (.tmp 67) = some (str (formatT ((parseR ((parseP s).1)).1.1, ((parseR ((parseP s).1)).1.2.1, (((parseP s).2.1).take i).drop 0)))) from rfl), hf.ev (show ev _ (.tmp 68) = some (.int .i64 (((parseQ ((((parseP s).2.1).getD i ([], [])).2)).1 : Nat) : Int)) from rfl)]) (by kernel_rfl)) ?_
            refine jo_pure rfl (pr_move rfl) ?_
            refine j_pull4 ?_
            refine jo_store rfl rfl ty_41 [str (formatT ((parseR ((parseP s).1)).1.1, ((parseR ((parseP s).1)).1.2.1, (((parseP s).2.1).take i).drop 0))), .int .i64 (((parseQ ((((parseP s).2.1).getD i ([], [])).2)).1 : Nat) : Int)] rfl rfl rfl [str (formatT ((parseR ((parseP s).1)).1.1, ((parseR ((parseP s).1)).1.2.1, (((parseP s).2.1).take i).drop 0))), .int .i64 (((parseQ ((((parseP s).2.1).getD i ([], [])).2)).1 : Nat) : Int)] rfl rfl ?_
            refine jo_pure rfl (pr_assign rfl) ?_
            refine jo_nil ?_
            refine jq_then ?_
            refine jc_ret ?_
            refine jq_in_ret ?_
            refine jq_then_ret ?_
            refine j_pull1 ?_
            refine j_drop ?_
            refine j_pull1 ?_
            refine j_drop ?_
            refine j_pull1 ?_
            refine j_drop ?_
            refine j_pull1 ?_
            refine j_drop ?_
            exact jq_rets (rs := [.cell 4 41, .tmp 5]) (vs := [.agg #[str (formatT ((parseR ((parseP s).1)).1.1, ((parseR ((parseP s).1)).1.2.1, (((parseP s).2.1).take i).drop 0))), .int .i64 (((parseQ ((((parseP s).2.1).getD i ([], [])).2)).1 : Nat) : Int)], .bool ((parseR ((parseP s).1)).2)]) rfl () ⟨resV_box (.agg #[str (formatT ((parseR ((parseP s).1)).1.1, ((parseR ((parseP s).1)).1.2.1, (((parseP s).2.1).take i).drop 0))), .int .i64 (((parseQ ((((parseP s).2.1).getD i ([], [])).2)).1 : Nat) : Int)]) rfl ty_41 (.head _) rfl (by decide) rfl, resV_tmp rfl, trivial⟩ rfl (show (.tuple #[.agg #[str ((prefF kind s).1.1), .int .i64 ((prefF kind s).1.2)], .bool ((prefF kind s).2)] : Value) = (.tuple #[.agg #[str (formatT ((parseR ((parseP s).1)).1.1, ((parseR ((parseP s).1)).1.2.1, (((parseP s).2.1).take i).drop 0))), .int .i64 (((parseQ ((((parseP s).2.1).getD i ([], [])).2)).1 : Nat) : Int)], .bool ((parseR ((parseP s).1)).2)]) from by rw [mem_any h1 e (.inl ⟨h3, h4, rfl⟩), ranged_1 h5] <;> rfl) (fun w h => (fun h => h) (Mem.front (As := []) h))
          · have h5 := of_decide_eq_false h5b
            refine jc_seq ?_
            refine jc_region ?_
            refine jo_pure rfl (pr_eql (n := 2) rfl rfl) ?_
            refine jo_pure rfl (pr_assign rfl) ?_
            refine jo_nil ?_
            refine jq_then ?_
            refine jc_cond rfl (fun h6b => ?_) (fun h6b => ?_)
            · have h6 := of_decide_eq_true h6b
              refine jc_region ?_
              refine jo_pure rfl (pr_move rfl) ?_
              refine jo_callp cal_53 (c_ref10_Range ((parseP s).1) (by omega)) ⟨rfl, trivial⟩ rfl (trivial) (fun _ => ?_)
              refine jo_pure rfl (pr_assign rfl) ?_
              refine jo_nil ?_
              refine jq_in_normal ?_
              refine jq_then ?_
              refine jc_seq ?_
              refine jc_region ?_
              refine jo_pure rfl (pr_move rfl) ?_
              refine jo_pure rfl (pr_move rfl) ?_
              refine jo_callp cal_54 (c_ref10_Canonical kind ((parseP s).1) (by omega)) ⟨rfl, rfl, trivial⟩ rfl (trivial) (fun _ => ?_)
              refine jo_pure rfl (pr_move rfl) ?_
              refine jo_pure rfl (pr_build [(0, str (canonical kind ((parseP s).1))), (1, .int .i64 (((parseQ ((((parseP s).2.1).getD i ([], [])).2)).1 : Nat) : Int))] [str (canonical kind ((parseP s).1)), .int .i64 (((parseQ ((((parseP s).2.1).getD i ([], [])).2)).1 : Nat) : Int)] (fun a hf => by simp only [List.map_toArray, List.map_cons, List.map_nil, hf.ev (show ev _ (.tmp 77) = some (str (canonical kind ((parseP s).1))) from rfl), hf.ev (show ev _ (.tmp 78) = some (.int .i64 (((parseQ ((((parseP s).2.1).getD i ([], [])).2)).1 : Nat) : Int)) from rfl)]) (by kernel_rfl)) ?_
              refine jo_pure rfl (pr_move rfl) ?_
              refine jo_pure rfl (pr_move rfl) ?_
              refine jo_gpure (j := 6) (want := true) rfl rfl rfl rfl (fun hg => pr_move rfl) ?_
              refine jo_gpure (j := 6) (want := true) rfl rfl rfl rfl (fun hg => pr_eqlN (m := i) (n := 0) (evg rfl hg) rfl) ?_
              refine jo_pure rfl (pr_pick_and rfl rfl rfl) ?_
              refine j_pull1 ?_
              refine jo_store rfl rfl ty_41 [str (canonical kind ((parseP s).1)), .int .i64 (((parseQ ((((parseP s).2.1).getD i ([], [])).2)).1 : Nat) : Int)] rfl rfl rfl [str (canonical kind ((parseP s).1)), .int .i64 (((parseQ ((((parseP s).2.1).getD i ([], [])).2)).1 : Nat) : Int)] rfl rfl ?_
              refine jo_pure rfl (pr_assign rfl) ?_
              refine jo_nil ?_
              refine jq_then ?_
              refine jc_ret ?_
              refine j_pull1 ?_
              refine j_drop ?_
              exact jq_rets (rs := [.cell 4 41, .tmp 5]) (vs := [.agg #[str (canonical kind ((parseP s).1)), .int .i64 (((parseQ ((((parseP s).2.1).getD i ([], [])).2)).1 : Nat) : Int)], .bool ((rangeL ((parseP s).1) && decide ((i : Nat) = 0)))]) rfl () ⟨resV_box (.agg #[str (canonical kind ((parseP s).1)), .int .i64 (((parseQ ((((parseP s).2.1).getD i ([], [])).2)).1 : Nat) : Int)]) rfl ty_41 (.head _) rfl (by decide) rfl, resV_tmp rfl, trivial⟩ rfl (show (.tuple #[.agg #[str ((prefF kind s).1.1), .int .i64 ((prefF kind s).1.2)], .bool ((prefF kind s).2)] : Value) = (.tuple #[.agg #[str (canonical kind ((parseP s).1)), .int .i64 (((parseQ ((((parseP s).2.1).getD i ([], [])).2)).1 : Nat) : Int)], .bool ((rangeL ((parseP s).1) && decide ((i : Nat) = 0)))]) from by rw [mem_any h1 e (.inl ⟨h3, h4, rfl⟩), ranged_2 hinv.1 h6] <;> rfl) (fun w h => (fun h => h) (Mem.front (As := []) h))
            · have h6 := of_decide_eq_false h6b
              refine jc_region ?_
              refine jo_pure rfl (pr_move rfl) ?_
              refine jo_callp cal_33 (c_ref01_Token ((parseP s).1) (by omega)) ⟨rfl, trivial⟩ rfl (trivial) (fun _ => ?_)
              refine jo_pure rfl (pr_assign rfl) ?_
              refine jo_nil ?_
              refine jq_in_normal ?_
              refine jq_then ?_
              refine jc_seq ?_
              refine jc_region ?_
              refine jo_pure rfl (pr_move rfl) ?_
              refine jo_pure rfl (pr_move rfl) ?_
              refine jo_callp cal_54 (c_ref10_Canonical kind ((parseP s).1) (by omega)) ⟨rfl, rfl, trivial⟩ rfl (trivial) (fun _ => ?_)
              refine jo_pure rfl (pr_move rfl) ?_
              refine jo_pure rfl (pr_build [(0, str (canonical kind ((parseP s).1))), (1, .int .i64 (((parseQ ((((parseP s).2.1).getD i ([], [])).2)).1 : Nat) : Int))] [str (canonical kind ((parseP s).1)), .int .i64 (((parseQ ((((parseP s).2.1).getD i ([], [])).2)).1 : Nat) : Int)] (fun a hf => by simp only [List.map_toArray, List.map_cons, List.map_nil, hf.ev (show ev _ (.tmp 77) = some (str (canonical kind ((parseP s).1))) from rfl), hf.ev (show ev _ (.tmp 78) = some (.int .i64 (((parseQ ((((parseP s).2.1).getD i ([], [])).2)).1 : Nat) : Int)) from rfl)]) (by kernel_rfl)) ?_
              refine jo_pure rfl (pr_move rfl) ?_
              refine jo_pure rfl (pr_move rfl) ?_
              refine jo_gpure (j := 6) (want := true) rfl rfl rfl rfl (fun hg => pr_move rfl) ?_
              refine jo_gpure (j := 6) (want := true) rfl rfl rfl rfl (fun hg => pr_eqlN (m := i) (n := 0) (evg rfl hg) rfl) ?_
              refine jo_pure rfl (pr_pick_and rfl rfl rfl) ?_
              refine j_pull1 ?_
              refine jo_store rfl rfl ty_41 [str (canonical kind ((parseP s).1)), .int .i64 (((parseQ ((((parseP s).2.1).getD i ([], [])).2)).1 : Nat) : Int)] rfl rfl rfl [str (canonical kind ((parseP s).1)), .int .i64 (((parseQ ((((parseP s).2.1).getD i ([], [])).2)).1 : Nat) : Int)] rfl rfl ?_
              refine jo_pure rfl (pr_assign rfl) ?_
              refine jo_nil ?_
              refine jq_then ?_
              refine jc_ret ?_
              refine j_pull1 ?_
              refine j_drop ?_
              exact jq_rets (rs := [.cell 4 41, .tmp 5]) (vs := [.agg #[str (canonical kind ((parseP s).1)), .int .i64 (((parseQ ((((parseP s).2.1).getD i ([], [])).2)).1 : Nat) : Int)], .bool ((token ((parseP s).1) && decide ((i : Nat) = 0)))]) rfl () ⟨resV_box (.agg #[str (canonical kind ((parseP s).1)), .int .i64 (((parseQ ((((parseP s).2.1).getD i ([], [])).2)).1 : Nat) : Int)]) rfl ty_41 (.head _) rfl (by decide) rfl, resV_tmp rfl, trivial⟩ rfl (show (.tuple #[.agg #[str ((prefF kind s).1.1), .int .i64 ((prefF kind s).1.2)], .bool ((prefF kind s).2)] : Value) = (.tuple #[.agg #[str (canonical kind ((parseP s).1)), .int .i64 (((parseQ ((((parseP s).2.1).getD i ([], [])).2)).1 : Nat) : Int)], .bool ((token ((parseP s).1) && decide ((i : Nat) = 0)))]) from by rw [mem_any h1 e (.inl ⟨h3, h4, rfl⟩), ranged_3 hinv.1 h5 h6] <;> rfl) (fun w h => (fun h => h) (Mem.front (As := []) h))
      · have h3 := of_decide_eq_false h3b
        refine jc_skip ?_
        refine jq_then ?_
        refine jc_seq ?_
        refine jc_seq ?_
        refine jc_region ?_
        refine jo_pure rfl (pr_move rfl) ?_
        refine jo_nil ?_
        refine jq_then ?_
        refine jc_block ?_
        refine jc_seq ?_
        refine jc_region ?_
        refine jo_pure rfl (pr_eql (n := 1) rfl rfl) ?_
        refine jo_pure rfl (pr_assign rfl) ?_
        refine jo_nil ?_
        refine jq_then ?_
        refine jc_cond rfl (fun h7b => ?_) (fun h7b => ?_)
        · have h7 := of_decide_eq_true h7b
          refine jc_seq ?_
          refine jc_region ?_
          refine jo_pure rfl (pr_move rfl) ?_
          refine jo_callp cal_29 (c_ref10_ParseRange ((parseP s).1) (by omega)) ⟨rfl, trivial⟩ rfl (trivial) (fun r3 => ?_)
          show J _ _ [.row (r3) 61 (.pair .str .str) ((parseR ((parseP s).1)).1.2.2), .row (r1) 61 (.pair .str .str) ((parseP s).2.1), .box b1 41 [str ([]), .int .i64 ((0 : Nat) : Int)]] _
          refine jo_pure rfl (pr_move rfl) ?_
          refine jo_pure rfl (pr_extract rfl rfl) ?_
          refine jo_pure rfl (pr_extract rfl rfl) ?_
          refine jo_alloc ty_46 [str ([]), str ([]), .slice none 0 0] rfl rfl (fun b3 => ?_)
          refine jo_storeV rfl rfl ty_46 [str ((parseR ((parseP s).1)).1.1), str ((parseR ((parseP s).1)).1.2.1), r3] (fun _ _ _ _ => rfl) rfl (fun w I m hs => by simp only [List.all_cons, List.all_nil, Bool.and_true, Bool.and_eq_true]; exact ⟨rfl, rfl, (SliceV.one (row_slice (.tail _ (.head _)) hs))⟩) [str ((parseR ((parseP s).1)).1.1), str ((parseR ((parseP s).1)).1.2.1), r3] rfl rfl ?_
          refine jo_pure rfl (pr_assign rfl) ?_
          refine jo_nil ?_
          refine jq_then ?_
          refine jc_seq ?_
          refine jc_region ?_
          refine jo_pure rfl (pr_move rfl) ?_
          refine jo_pure rfl (pr_move rfl) ?_
          refine j_pull2 ?_
          refine j_pub_row ?_
          refine j_resl (l := 0) (h := i) (.head _) (by omega) (by omega) ?_
          show J _ _ (.imm (.list (.pair .str .str)) (resl (r1) (0) (i) 2) ((((parseP s).2.1).take i).drop 0) :: _) _
          refine jo_pure rfl (pr_slice_imm (l := 0) (h := i) rfl (.tail _ (.head _)) Tryz.underlying44 ty_61 rfl ⟨_, rfl⟩ (by omega) (by omega)) ?_
          refine jo_pure rfl (pr_fieldAddr 2 rfl Tryz.underlying46 rfl ty_44 rfl rfl) ?_
          refine j_pull2 ?_
          refine jo_storeV rfl rfl ty_44 [resl (r1) (0) (i) 2] (fun w I m hs => (SliceV.cells (imm_slice (.tail _ (.head _)) hs))) rfl (fun w I m hs => by simp only [List.all_cons, List.all_nil, Bool.and_true, Bool.and_eq_true]; exact (SliceV.one (imm_slice (.tail _ (.head _)) hs))) [str ((parseR ((parseP s).1)).1.1), str ((parseR ((parseP s).1)).1.2.1), resl (r1) (0) (i) 2] rfl rfl ?_
          refine jo_nil ?_
          refine jq_then ?_
          refine jc_seq ?_
          refine jc_region ?_
          refine jo_pure rfl (pr_load_box (.agg #[str ((parseR ((parseP s).1)).1.1), str ((parseR ((parseP s).1)).1.2.1), resl (r1) (0) (i) 2]) rfl ty_46 (.head _) rfl (by decide) rfl) ?_
          have con2 := c_ref10_FormatType ((parseR ((parseP s).1)).1.1, ((parseR ((parseP s).1)).1.2.1, (((parseP s).2.1).take i).drop 0)) (resl (r1) (0) (i) 2) (by dsimp only; rw [List.length_drop, List.length_take]; omega) (hxt) (by have := parseR_len (parseP s).1; dsimp only; omega) (by have := parseR_len (parseP s).1; dsimp only; omega)
          refine jo_callp cal_52 con2 (by exact ⟨rfl, trivial⟩) rfl (by exact ⟨⟨rfl, .tail _ (.head _)⟩, trivial⟩) (fun _ => ?_)
          clear con2
          refine jo_pure rfl (pr_move rfl) ?_
          refine jo_pure rfl (pr_build [(0, str (formatT ((parseR ((parseP s).1)).1.1, ((parseR ((parseP s).1)).1.2.1, (((parseP s).2.1).take i).drop 0)))), (1, .int .i64 ((1000 : Nat) : Int))] [str (formatT ((parseR ((parseP s).1)).1.1, ((parseR ((parseP s).1)).1.2.1, (((parseP s).2.1).take i).drop 0))), .int .i64 ((1000 : Nat) : Int)] (fun a hf => by simp only [List.map_toArray, List.map_cons, List.map_nil, hf.ev (show ev _ (.tmp 67) = some (str (formatT ((parseR ((parseP s).1)).1.1, ((parseR ((parseP s).1)).1.2.1, (((parseP s).2.1).take i).drop 0)))) from rfl), hf.ev (show ev _ (.tmp 68) = some (.int .i64 ((1000 : Nat) : Int)) from rfl)]) (by kernel_rfl)) ?_
          refine jo_pure rfl (pr_move rfl) ?_
          refine j_pull4 ?_
          refine jo_store rfl rfl ty_41 [str (formatT ((parseR ((parseP s).1)).1.1, ((parseR ((parseP s).1)).1.2.1, (((parseP s).2.1).take i).drop 0))), .int .i64 ((1000 : Nat) : Int)] rfl rfl rfl [str (formatT ((parseR ((parseP s).1)).1.1, ((parseR ((parseP s).1)).1.2.1, (((parseP s).2.1).take i).drop 0))), .int .i64 ((1000 : Nat) : Int)] rfl rfl ?_
          refine jo_pure rfl (pr_assign rfl) ?_
          refine jo_nil ?_
          refine jq_then ?_
          refine jc_ret ?_
          refine jq_in_ret ?_
          refine jq_then_ret ?_
          refine j_pull1 ?_
          refine j_drop ?_
          refine j_pull1 ?_
          refine j_drop ?_
          refine j_pull1 ?_
          refine j_drop ?_
          refine j_pull1 ?_
          refine j_drop ?_
          exact jq_rets (rs := [.cell 4 41, .tmp 5]) (vs := [.agg #[str (formatT ((parseR ((parseP s).1)).1.1, ((parseR ((parseP s).1)).1.2.1, (((parseP s).2.1).take i).drop 0))), .int .i64 ((1000 : Nat) : Int)], .bool ((parseR ((parseP s).1)).2)]) rfl () ⟨resV_box (.agg #[str (formatT ((parseR ((parseP s).1)).1.1, ((parseR ((parseP s).1)).1.2.1, (((parseP s).2.1).take i).drop 0))), .int .i64 ((1000 : Nat) : Int)]) rfl ty_41 (.head _) rfl (by decide) rfl, resV_tmp rfl, trivial⟩ rfl (show (.tuple #[.agg #[str ((prefF kind s).1.1), .int .i64 ((prefF kind s).1.2)], .bool ((prefF kind s).2)] : Value) = (.tuple #[.agg #[str (formatT ((parseR ((parseP s).1)).1.1, ((parseR ((parseP s).1)).1.2.1, (((parseP s).2.1).take i).drop 0))), .int .i64 ((1000 : Nat) : Int)], .bool ((parseR ((parseP s).1)).2)]) from by rw [mem_any h1 e (.inr ⟨h3, rfl⟩), ranged_1 h7] <;> rfl) (fun w h => (fun h => h) (Mem.front (As := []) h))
        · have h7 := of_decide_eq_false h7b
          refine jc_seq ?_
          refine jc_region ?_
          refine jo_pure rfl (pr_eql (n := 2) rfl rfl) ?_
          refine jo_pure rfl (pr_assign rfl) ?_
          refine jo_nil ?_
          refine jq_then ?_
          refine jc_cond rfl (fun h8b => ?_) (fun h8b => ?_)
          · have h8 := of_decide_eq_true h8b
            refine jc_region ?_
            refine jo_pure rfl (pr_move rfl) ?_
            refine jo_callp cal_53 (c_ref10_Range ((parseP s).1) (by omega)) ⟨rfl, trivial⟩ rfl (trivial) (fun _ => ?_)
            refine jo_pure rfl (pr_assign rfl) ?_
            refine jo_nil ?_
            refine jq_in_normal ?_
            refine jq_then ?_
            refine jc_seq ?_
            refine jc_region ?_
            refine jo_pure rfl (pr_move rfl) ?_
            refine jo_pure rfl (pr_move rfl) ?_
            refine jo_callp cal_54 (c_ref10_Canonical kind ((parseP s).1) (by omega)) ⟨rfl, rfl, trivial⟩ rfl (trivial) (fun _ => ?_)
            refine jo_pure rfl (pr_move rfl) ?_
            refine jo_pure rfl (pr_build [(0, str (canonical kind ((parseP s).1))), (1, .int .i64 ((1000 : Nat) : Int))] [str (canonical kind ((parseP s).1)), .int .i64 ((1000 : Nat) : Int)] (fun a hf => by simp only [List.map_toArray, List.map_cons, List.map_nil, hf.ev (show ev _ (.tmp 77) = some (str (canonical kind ((parseP s).1))) from rfl), hf.ev (show ev _ (.tmp 78) = some (.int .i64 ((1000 : Nat) : Int)) from rfl)]) (by kernel_rfl)) ?_
            refine jo_pure rfl (pr_move rfl) ?_
            refine jo_pure rfl (pr_move rfl) ?_
            refine jo_gpure (j := 6) (want := true) rfl rfl rfl rfl (fun hg => pr_move rfl) ?_
            refine jo_gpure (j := 6) (want := true) rfl rfl rfl rfl (fun hg => pr_eqlN (m := i) (n := 0) (evg rfl hg) rfl) ?_
            refine jo_pure rfl (pr_pick_and rfl rfl rfl) ?_
            refine j_pull1 ?_
            refine jo_store rfl rfl ty_41 [str (canonical kind ((parseP s).1)), .int .i64 ((1000 : Nat) : Int)] rfl rfl rfl [str (canonical kind ((parseP s).1)), .int .i64 ((1000 : Nat) : Int)] rfl rfl ?_
            refine jo_pure rfl (pr_assign rfl) ?_
            refine jo_nil ?_
            refine jq_then ?_
            refine jc_ret ?_
            refine j_pull1 ?_
            refine j_drop ?_
            exact jq_rets (rs := [.cell 4 41, .tmp 5]) (vs := [.agg #[str (canonical kind ((parseP s).1)), .int .i64 ((1000 : Nat) : Int)], .bool ((rangeL ((parseP s).1) && decide ((i : Nat) = 0)))]) rfl () ⟨resV_box (.agg #[str (canonical kind ((parseP s).1)), .int .i64 ((1000 : Nat) : Int)]) rfl ty_41 (.head _) rfl (by decide) rfl, resV_tmp rfl, trivial⟩ rfl (show (.tuple #[.agg #[str ((prefF kind s).1.1), .int .i64 ((prefF kind s).1.2)], .bool ((prefF kind s).2)] : Value) = (.tuple #[.agg #[str (canonical kind ((parseP s).1)), .int .i64 ((1000 : Nat) : Int)], .bool ((rangeL ((parseP s).1) && decide ((i : Nat) = 0)))]) from by rw [mem_any h1 e (.inr ⟨h3, rfl⟩), ranged_2 hinv.1 h8] <;> rfl) (fun w h => (fun h => h) (Mem.front (As := []) h))
          · have h8 := of_decide_eq_false h8b
            refine jc_region ?_
            refine jo_pure rfl (pr_move rfl) ?_
            refine jo_callp cal_33 (c_ref01_Token ((parseP s).1) (by omega)) ⟨rfl, trivial⟩ rfl (trivial) (fun _ => ?_)
            refine jo_pure rfl (pr_assign rfl) ?_
            refine jo_nil ?_
            refine jq_in_normal ?_
            refine jq_then ?_
            refine jc_seq ?_
            refine jc_region ?_
            refine jo_pure rfl (pr_move rfl) ?_
            refine jo_pure rfl (pr_move rfl) ?_
            refine jo_callp cal_54 (c_ref10_Canonical kind ((parseP s).1) (by omega)) ⟨rfl, rfl, trivial⟩ rfl (trivial) (fun _ => ?_)
            refine jo_pure rfl (pr_move rfl) ?_
            refine jo_pure rfl (pr_build [(0, str (canonical kind ((parseP s).1))), (1, .int .i64 ((1000 : Nat) : Int))] [str (canonical kind ((parseP s).1)), .int .i64 ((1000 : Nat) : Int)] (fun a hf => by simp only [List.map_toArray, List.map_cons, List.map_nil, hf.ev (show ev _ (.tmp 77) = some (str (canonical kind ((parseP s).1))) from rfl), hf.ev (show ev _ (.tmp 78) = some (.int .i64 ((1000 : Nat) : Int)) from rfl)]) (by kernel_rfl)) ?_
            refine jo_pure rfl (pr_move rfl) ?_
            refine jo_pure rfl (pr_move rfl) ?_
            refine jo_gpure (j := 6) (want := true) rfl rfl rfl rfl (fun hg => pr_move rfl) ?_
            refine jo_gpure (j := 6) (want := true) rfl rfl rfl rfl (fun hg => pr_eqlN (m := i) (n := 0) (evg rfl hg) rfl) ?_
            refine jo_pure rfl (pr_pick_and rfl rfl rfl) ?_
            refine j_pull1 ?_
            refine jo_store rfl rfl ty_41 [str (canonical kind ((parseP s).1)), .int .i64 ((1000 : Nat) : Int)] rfl rfl rfl [str (canonical kind ((parseP s).1)), .int .i64 ((1000 : Nat) : Int)] rfl rfl ?_
            refine jo_pure rfl (pr_assign rfl) ?_
            refine jo_nil ?_
            refine jq_then ?_
            refine jc_ret ?_
            refine j_pull1 ?_
            refine j_drop ?_
            exact jq_rets (rs := [.cell 4 41, .tmp 5]) (vs := [.agg #[str (canonical kind ((parseP s).1)), .int .i64 ((1000 : Nat) : Int)], .bool ((token ((parseP s).1) && decide ((i : Nat) = 0)))]) rfl () ⟨resV_box (.agg #[str (canonical kind ((parseP s).1)), .int .i64 ((1000 : Nat) : Int)]) rfl ty_41 (.head _) rfl (by decide) rfl, resV_tmp rfl, trivial⟩ rfl (show (.tuple #[.agg #[str ((prefF kind s).1.1), .int .i64 ((prefF kind s).1.2)], .bool ((prefF kind s).2)] : Value) = (.tuple #[.agg #[str (canonical kind ((parseP s).1)), .int .i64 ((1000 : Nat) : Int)], .bool ((token ((parseP s).1) && decide ((i : Nat) = 0)))]) from by rw [mem_any h1 e (.inr ⟨h3, rfl⟩), ranged_3 hinv.1 h7 h8] <;> rfl) (fun w h => (fun h => h) (Mem.front (As := []) h))

theorem c_ref10_Prefs (kind : Int) (l : List ((List UInt8) × (List UInt8))) (lv : Value) (hl : l.length ≤ 1000000) (hm : ∀ x ∈ l, x.1.length ≤ 100000 ∧ x.2.length ≤ 100000) : Con Tryz.prog 7 #[.int .i64 (kind), lv] [.imm (.list (.pair .str .str)) (lv) (l)] (fun r1 : Value => .tuple #[r1, .bool ((prefsF kind l).2)]) (fun r1 => [.row r1 41 (.pair .str (.int .i64)) ((prefsF kind l).1)]) := by
  refine con_of_J (args := [.int .i64 (kind), lv]) (n := 46) Tryz.func7 rfl (Nat.le_of_ble_eq_true rfl) rfl (fun w0 I0 m0 => ?_)
  show J _ [(0, .int .i64 (kind)), (1, lv)] [.imm (.list (.pair .str .str)) (lv) (l)] _
  have hm6 : ∀ x ∈ l, x.1.length ≤ 1000000 ∧ x.2.length ≤ 1000000 := fun x hx => by have := hm x hx; omega
  refine jc_seq ?_
  refine jc_region ?_
  refine jo_pure rfl (pr_assign rfl) ?_
  refine jo_pure rfl (pr_assign rfl) ?_
  refine jo_nil ?_
  refine jq_then ?_
  refine jc_seq ?_
  refine jc_seq ?_
  refine jc_region ?_
  refine jo_pure rfl (pr_move rfl) ?_
  refine jo_callp cal_19 (c_ref10_Name kind) ⟨rfl, trivial⟩ rfl (trivial) (fun _ => ?_)
  refine jo_pure rfl (pr_seql rfl rfl) ?_
  refine jo_pure rfl (pr_move rfl) ?_
  refine jo_gpure (j := 3) (want := false) rfl rfl rfl rfl (fun hg => pr_move rfl) ?_
  refine jo_gpure (j := 3) (want := false) rfl rfl rfl rfl (fun hg => pr_move rfl) ?_
  refine jo_gcall (j := 3) (want := false) rfl rfl rfl cal_19 (fun hg => c_ref10_Name kind) (fun hg => ⟨evg rfl hg, trivial⟩) rfl (fun _ => trivial) ?_
  refine jo_gcall (j := 3) (want := false) rfl rfl rfl cal_20 (fun hg => c_ref01_Has l lv (nameK kind) (by first | omega | exact hm6 | exact Nat.le_trans (nameK_length kind) (by omega) | exact Nat.le_trans (getD_len (i := i) (allV_mem (getF_mem (n := 100000) hm (name := nameK kind)))) (by omega)) (by first | omega | exact hm6 | exact Nat.le_trans (nameK_length kind) (by omega) | exact Nat.le_trans (getD_len (i := i) (allV_mem (getF_mem (n := 100000) hm (name := nameK kind)))) (by omega)) (by first | omega | exact hm6 | exact Nat.le_trans (nameK_length kind) (by omega) | exact Nat.le_trans (getD_len (i := i) (allV_mem (getF_mem (n := 100000) hm (name := nameK kind)))) (by omega))) (fun hg => ⟨evg rfl hg, evg rfl hg, trivial⟩) rfl (fun _ => ⟨⟨rfl, .head _⟩, trivial⟩) ?_
  refine jo_gpure (j := 3) (want := false) rfl rfl rfl rfl (fun hg => pr_not (evg rfl hg)) ?_
  refine jo_pure rfl (pr_pick_or rfl rfl rfl) ?_
  refine jo_nil ?_
  refine jq_then ?_
  refine jc_cond rfl (fun h1b => ?_) (fun h1b => ?_)
  · have h1 := (fun q => Or.imp of_decide_eq_true (fun q => id (bt_not q)) (bt_or q)) h1b
    refine jc_seq ?_
    refine jc_region ?_
    refine jo_pure rfl (pr_assign rfl) ?_
    refine jo_pure rfl (pr_assign rfl) ?_
    refine jo_nil ?_
    refine jq_then ?_
    refine jc_ret ?_
    refine jq_then_ret ?_
    refine j_nil_row 41 (.pair .str (.int .i64)) ?_
    refine j_pull1 ?_
    refine j_drop ?_
    exact jq_rets (rs := [.tmp 4, .tmp 5]) (vs := [.slice none 0 0, .bool (false)]) rfl (.slice none 0 0) ⟨resV_tmp rfl, resV_tmp rfl, trivial⟩ rfl (show (.tuple #[(.slice none 0 0), .bool ((prefsF kind l).2)] : Value) = (.tuple #[.slice none 0 0, .bool (false)]) from by rw [prefsF_no h1b]) (fun _ h => by rw [prefsF_no h1b]; exact h)
  · have h1 := (fun q => And.imp of_decide_eq_false (fun q => id (bf_not q)) (bf_or q)) h1b
    refine jc_skip ?_
    refine jq_then ?_
    refine jc_seq ?_
    refine jc_region ?_
    refine jo_pure rfl (pr_move rfl) ?_
    refine jo_pure rfl (pr_move rfl) ?_
    refine jo_callp cal_19 (c_ref10_Name kind) ⟨rfl, trivial⟩ rfl (trivial) (fun _ => ?_)
    refine jo_callp cal_21 (c_ref01_All l lv (nameK kind) (by first | omega | exact hm6 | exact Nat.le_trans (nameK_length kind) (by omega) | exact Nat.le_trans (getD_len (i := i) (allV_mem (getF_mem (n := 100000) hm (name := nameK kind)))) (by omega)) (by first | omega | exact hm6 | exact Nat.le_trans (nameK_length kind) (by omega) | exact Nat.le_trans (getD_len (i := i) (allV_mem (getF_mem (n := 100000) hm (name := nameK kind)))) (by omega)) (by first | omega | exact hm6 | exact Nat.le_trans (nameK_length kind) (by omega) | exact Nat.le_trans (getD_len (i := i) (allV_mem (getF_mem (n := 100000) hm (name := nameK kind)))) (by omega))) ⟨rfl, rfl, trivial⟩ rfl (⟨⟨rfl, .head _⟩, trivial⟩) (fun r1 => ?_)
    show J _ _ [.row (r1) 9 .str (allF l (nameK kind)), .imm (.list (.pair .str .str)) (lv) (l)] _
    refine jo_pure rfl (pr_assign rfl) ?_
    refine jo_nil ?_
    refine jq_then ?_
    refine jc_seq ?_
    refine jc_region ?_
    refine jo_pure rfl (pr_assign rfl) ?_
    refine jo_nil ?_
    refine jq_then ?_
    refine jc_seq ?_
    refine jc_seq ?_
    refine jc_region ?_
    refine jo_pure rfl (pr_assign rfl) ?_
    refine jo_nil ?_
    refine jq_then ?_
    refine jc_block ?_
    refine j_nil_row 41 (.pair .str (.int .i64)) ?_
    refine jc_loop3 (fun (i : Nat) (v : Value) (acc : List (List UInt8 × Int)) => [(0, .int .i64 (kind)), (6, r1), (7, v), (8, .int .i64 ((i : Nat) : Int))]) (fun (i : Nat) (v : Value) (acc : List (List UInt8 × Int)) => [.row (v) 41 (.pair .str (.int .i64)) (acc), .row (r1) 9 .str (allF l (nameK kind)), .imm (.list (.pair .str .str)) (lv) (l)]) (fun (i : Nat) (v : Value) (acc : List (List UInt8 × Int)) => i ≤ (allF l (nameK kind)).length ∧ (allF l (nameK kind)).length ≤ 64 ∧ acc.length ≤ i ∧ acc = prefsM kind ((allF l (nameK kind)).take i)) (fun (i : Nat) (v : Value) (acc : List (List UInt8 × Int)) => (allF l (nameK kind)).length - i) 0 (.slice none 0 0) [] (⟨Nat.zero_le _, allV_length _, Nat.le_refl _, rfl⟩) (⟨rfl, rfl, rfl, rfl, trivial⟩) (fun _ h => h) (fun i v acc hinv => ?_)
    refine jc_seq ?_
    refine jc_seq ?_
    refine jc_region ?_
    refine jo_pure rfl (pr_move rfl) ?_
    refine jo_pure rfl (pr_move rfl) ?_
    refine jo_pure rfl (pr_len_row rfl (.tail _ (.head _)) Tryz.underlying38) ?_
    refine jo_pure rfl (pr_lssN (m := i) (n := (allF l (nameK kind)).length) rfl rfl) ?_
    refine jo_nil ?_
    refine jq_then ?_
    refine jc_cond rfl (fun h2b => ?_) (fun h2b => ?_)
    · have h2 := of_decide_eq_true h2b
      refine jc_skip ?_
      refine jq_then ?_
      refine jc_seq ?_
      refine jc_block ?_
      refine jc_seq ?_
      refine jc_region ?_
      refine jo_pure rfl (pr_move rfl) ?_
      refine jo_pure rfl (pr_move rfl) ?_
      refine jo_pure rfl (pr_move rfl) ?_
      refine jo_pure rfl (pr_idx_row (i := i) rfl (.tail _ (.head _)) rfl Tryz.underlying38 ty_9 (by omega)) ?_
      refine jo_pure rfl (pr_load_elem_row (i := i) (str ((allF l (nameK kind)).getD i [])) rfl (.tail _ (.head _)) ty_9 rfl rfl (by omega) rfl) ?_
      refine jo_callp cal_22 (c_ref10_member kind ((allF l (nameK kind)).getD i []) (by first | omega | exact hm6 | exact Nat.le_trans (nameK_length kind) (by omega) | exact Nat.le_trans (getD_len (i := i) (allV_mem (getF_mem (n := 100000) hm (name := nameK kind)))) (by omega))) ⟨rfl, rfl, trivial⟩ rfl (trivial) (fun _ => ?_)
      refine jo_pure rfl (pr_move rfl) ?_
      refine jo_pure rfl (pr_extract rfl rfl) ?_
      refine jo_pure rfl (pr_extract rfl rfl) ?_
      refine jo_alloc ty_41 [str ([]), .int .i64 ((0 : Nat) : Int)] rfl rfl (fun b1 => ?_)
      refine jo_store rfl rfl ty_41 [str ((prefF kind ((allF l (nameK kind)).getD i [])).1.1), .int .i64 ((prefF kind ((allF l (nameK kind)).getD i [])).1.2)] rfl rfl rfl [str ((prefF kind ((allF l (nameK kind)).getD i [])).1.1), .int .i64 ((prefF kind ((allF l (nameK kind)).getD i [])).1.2)] rfl rfl ?_
      refine jo_pure rfl (pr_assign rfl) ?_
      refine jo_nil ?_
      refine jq_then ?_
      refine jc_seq ?_
      refine jc_region ?_
      refine jo_pure rfl (pr_move rfl) ?_
      refine jo_nil ?_
      refine jq_then ?_
      refine jc_cond rfl (fun h3b => ?_) (fun h3b => ?_)
      · have h3 := id h3b
        refine jc_region ?_
        refine jo_pure rfl (pr_move rfl) ?_
        refine jo_pure rfl (pr_load_box (.agg #[str ((prefF kind ((allF l (nameK kind)).getD i [])).1.1), .int .i64 ((prefF kind ((allF l (nameK kind)).getD i [])).1.2)]) rfl ty_41 (.head _) rfl (by decide) rfl) ?_
        refine jo_buildSlice (t := (.pair .str (.int .i64))) [(prefF kind ((allF l (nameK kind)).getD i [])).1] [.agg #[str ((prefF kind ((allF l (nameK kind)).getD i [])).1.1), .int .i64 ((prefF kind ((allF l (nameK kind)).getD i [])).1.2)]] (fun a hf => by simp only [List.zipIdx_cons, List.zipIdx_nil, List.map_toArray, List.map_cons, List.map_nil, hf.ev (show ev _ (.tmp 42) = some (.agg #[str ((prefF kind ((allF l (nameK kind)).getD i [])).1.1), .int .i64 ((prefF kind ((allF l (nameK kind)).getD i [])).1.2)]) from rfl)]) rfl Tryz.underlying24 ty_41 rfl rfl rfl rfl rfl (fun g1 => ?_)
        refine j_pull2 ?_
        refine jo_append rfl rfl Tryz.underlying24 ty_41 rfl (by simp only [List.length_append, List.length_cons, List.length_nil, maxLen]; omega) (by simp only [List.length_append, List.length_cons, List.length_nil]; omega) rfl (fun v1 => ?_)
        refine jo_pure rfl (pr_assign rfl) ?_
        refine jo_nil ?_
        refine jq_in_normal ?_
        refine jq_then ?_
        refine jc_region ?_
        refine jo_pure rfl (pr_move rfl) ?_
        refine jo_pure rfl (pr_addN (m := i) (n := 1) rfl rfl (by omega)) ?_
        refine jo_pure rfl (pr_assign rfl) ?_
        refine jo_nil ?_
        refine j_pull1 ?_
        refine j_drop ?_
        refine j_pull2 ?_
        refine j_pull2 ?_
        refine j_pull2 ?_
        refine jq_round' ((i + 1), v1, (acc ++ [(prefF kind ((allF l (nameK kind)).getD i [])).1])) (by (try dsimp only); exact (⟨by omega, hinv.2.1, by simp; omega, by rw [prefsM_hit h2 h3, hinv.2.2.2]⟩)) (by (try dsimp only); exact (by omega)) ⟨rfl, rfl, rfl, rfl, trivial⟩ (fun _ h => h)
      · have h3 := id h3b
        refine jc_skip ?_
        refine jq_in_normal ?_
        refine jq_then ?_
        refine jc_region ?_
        refine jo_pure rfl (pr_move rfl) ?_
        refine jo_pure rfl (pr_addN (m := i) (n := 1) rfl rfl (by omega)) ?_
        refine jo_pure rfl (pr_assign rfl) ?_
        refine jo_nil ?_
        refine j_drop ?_
        refine j_pull2 ?_
        refine j_pull2 ?_
        refine j_pull2 ?_
        refine jq_round' ((i + 1), v, acc) (by (try dsimp only); exact (⟨by omega, hinv.2.1, by omega, by rw [prefsM_miss h2 h3, hinv.2.2.2]⟩)) (by (try dsimp only); exact (by omega)) ⟨rfl, rfl, rfl, rfl, trivial⟩ (fun _ h => h)
    · have h2 := of_decide_eq_false h2b
      refine jc_exit ?_
      refine jq_then_exit ?_
      refine jq_then_exit ?_
      refine jq_in_hit ?_
      refine jq_then ?_
      refine jc_seq ?_
      refine jc_region ?_
      refine jo_pure rfl (pr_move rfl) ?_
      refine jo_pure rfl (pr_assign rfl) ?_
      refine jo_pure rfl (pr_assign rfl) ?_
      refine jo_nil ?_
      refine jq_then ?_
      refine jc_ret ?_
      refine j_pull1 ?_
      refine j_drop ?_
      refine j_pull1 ?_
      refine j_drop ?_
      exact jq_rets (rs := [.tmp 4, .tmp 5]) (vs := [v, .bool (true)]) rfl v ⟨resV_tmp rfl, resV_tmp rfl, trivial⟩ rfl (show (.tuple #[v, .bool ((prefsF kind l).2)] : Value) = (.tuple #[v, .bool (true)]) from by rw [prefsF_yes h1b]) (fun _ h => by rw [prefsF_yes h1b, show prefsM kind (allF l (nameK kind)) = acc from by rw [hinv.2.2.2, take_over (s := (allF l (nameK kind))) (i := i) (by omega)]]; exact h)

theorem c_keep_SamePrefs (a : List ((List UInt8) × Int)) (av : Value) (b : List ((List UInt8) × Int)) (bv : Value) (hl : a.length ≤ 9223372036854775807) : Con Tryz.prog 8 #[av, bv] [.imm (.list (.pair .str (.int .i64))) (av) (a), .imm (.list (.pair .str (.int .i64))) (bv) (b)] (fun _ : Unit => .bool (decide (a = b))) (fun _ => []) := by
  refine con_of_J (args := [av, bv]) (n := 26) Tryz.func8 rfl (Nat.le_of_ble_eq_true rfl) rfl (fun w0 I0 m0 => ?_)
  show J _ [(0, av), (1, bv)] [.imm (.list (.pair .str (.int .i64))) (av) (a), .imm (.list (.pair .str (.int .i64))) (bv) (b)] _
  refine jc_seq ?_
  refine jc_region ?_
  refine jo_pure rfl (pr_assign rfl) ?_
  refine jo_nil ?_
  refine jq_then ?_
  refine jc_seq ?_
  refine jc_seq ?_
  refine jc_region ?_
  refine jo_pure rfl (pr_move rfl) ?_
  refine jo_pure rfl (pr_len_imm rfl (.head _) Tryz.underlying24) ?_
  refine jo_pure rfl (pr_move rfl) ?_
  refine jo_pure rfl (pr_len_imm rfl (.tail _ (.head _)) Tryz.underlying24) ?_
  refine jo_pure rfl (pr_neqN (m := a.length) (n := b.length) rfl rfl) ?_
  refine jo_nil ?_
  refine jq_then ?_
  refine jc_cond rfl (fun h1b => ?_) (fun h1b => ?_)
  · have h1 := (fun q => of_decide_eq_false (bt_not q)) h1b
    refine jc_seq ?_
    refine jc_region ?_
    refine jo_pure rfl (pr_assign rfl) ?_
    refine jo_nil ?_
    refine jq_then ?_
    refine jc_ret ?_
    refine jq_then_ret ?_
    refine j_drop ?_
    refine j_drop ?_
    exact jq_ret1 rfl () rfl (show (.bool (decide (a = b)) : Value) = (.bool (false)) from congrArg Value.bool (decide_eq_false (fun e => by rw [e] at h1; simp at h1))) (fun _ h => h)
  · have h1 := (fun q => of_decide_eq_true (bf_not q)) h1b
    have hlen : a.length = b.length := by simpa using h1
    refine jc_skip ?_
    refine jq_then ?_
    refine jc_seq ?_
    refine jc_seq ?_
    refine jc_region ?_
    refine jo_pure rfl (pr_assign rfl) ?_
    refine jo_nil ?_
    refine jq_then ?_
    refine jc_block ?_
    refine jc_loop (fun (i : Nat) => [(0, av), (1, bv), (5, .int .i64 ((i : Nat) : Int))]) (fun (i : Nat) => [.imm (.list (.pair .str (.int .i64))) (av) (a), .imm (.list (.pair .str (.int .i64))) (bv) (b)]) (fun (i : Nat) => i ≤ a.length ∧ a.take i = b.take i) (fun (i : Nat) => a.length - i) 0 (⟨Nat.zero_le _, rfl⟩) (⟨rfl, rfl, rfl, trivial⟩) (fun _ h => h) (fun i hinv => ?_)
    refine jc_seq ?_
    refine jc_seq ?_
    refine jc_region ?_
    refine jo_pure rfl (pr_move rfl) ?_
    refine jo_pure rfl (pr_move rfl) ?_
    refine jo_pure rfl (pr_len_imm rfl (.head _) Tryz.underlying24) ?_
    refine jo_pure rfl (pr_lssN (m := i) (n := a.length) rfl rfl) ?_
    refine jo_nil ?_
    refine jq_then ?_
    refine jc_cond rfl (fun h2b => ?_) (fun h2b => ?_)
    · have h2 := of_decide_eq_true h2b
      refine jc_skip ?_
      refine jq_then ?_
      refine jc_seq ?_
      refine jc_block ?_
      refine jc_seq ?_
      refine jc_draws mixed (by kernel_rfl) ?_
      refine jd_pure rfl (pr_move rfl) ?_
      refine jd_pure rfl (pr_move rfl) ?_
      refine jd_pure rfl (pr_idx_imm (i := i) rfl (.head _) rfl Tryz.underlying24 ty_41 (by omega)) ?_
      refine jd_pure rfl (pr_load_elem_imm (i := i) (.agg #[str ((a.getD i ([], 0)).1), .int .i64 ((a.getD i ([], 0)).2)]) rfl (.head _) ty_41 rfl rfl (by omega) rfl) ?_
      refine jd_pure rfl (pr_move rfl) ?_
      refine jd_pure rfl (pr_move rfl) ?_
      refine jd_pure rfl (pr_idx_imm (i := i) rfl (.tail _ (.head _)) rfl Tryz.underlying24 ty_41 (by omega)) ?_
      refine jd_pure rfl (pr_load_elem_imm (i := i) (.agg #[str ((b.getD i ([], 0)).1), .int .i64 ((b.getD i ([], 0)).2)]) rfl (.tail _ (.head _)) ty_41 rfl rfl (by omega) rfl) ?_
      refine jd_pure rfl (pr_neq_si rfl rfl Tryz.underlying41 (by kernel_rfl) (by kernel_rfl) (by decide) (by decide) rfl rfl Tryz.underlying9 Tryz.underlying3 ty_9 ty_3) ?_
      refine jd_nil ?_
      refine jq_then ?_
      refine jc_cond rfl (fun h3b => ?_) (fun h3b => ?_)
      · have h3 := (fun q => (fun q => Or.imp of_decide_eq_false of_decide_eq_false (bf_and q)) (bt_not q)) h3b
        refine jc_seq ?_
        refine jc_region ?_
        refine jo_pure rfl (pr_assign rfl) ?_
        refine jo_nil ?_
        refine jq_then ?_
        refine jc_ret ?_
        refine jq_in_ret ?_
        refine jq_then_ret ?_
        refine jq_then_ret ?_
        refine jq_in_ret ?_
        refine jq_then_ret ?_
        refine j_drop ?_
        refine j_drop ?_
        exact jq_ret1 rfl () rfl (show (.bool (decide (a = b)) : Value) = (.bool (false)) from congrArg Value.bool (decide_eq_false (fun e => by rw [e] at h3; simp at h3))) (fun _ h => h)
      · have h3 := (fun q => (fun q => And.imp of_decide_eq_true of_decide_eq_true (bt_and q)) (bf_not q)) h3b
        refine jc_skip ?_
        refine jq_in_normal ?_
        refine jq_then ?_
        refine jc_region ?_
        refine jo_pure rfl (pr_move rfl) ?_
        refine jo_pure rfl (pr_addN (m := i) (n := 1) rfl rfl (by omega)) ?_
        refine jo_pure rfl (pr_assign rfl) ?_
        refine jo_nil ?_
        refine j_pull1 ?_
        refine j_pull1 ?_
        refine jq_round' (i + 1) (by (try dsimp only); exact (⟨by omega, take_eq_step (dd := ([], 0)) h2 (by omega) hinv.2 (Prod.ext h3.1 h3.2)⟩)) (by (try dsimp only); exact (by omega)) ⟨rfl, rfl, rfl, trivial⟩ (fun _ h => h)
    · have h2 := of_decide_eq_false h2b
      refine jc_exit ?_
      refine jq_then_exit ?_
      refine jq_then_exit ?_
      refine jq_in_hit ?_
      refine jq_then ?_
      refine jc_seq ?_
      refine jc_region ?_
      refine jo_pure rfl (pr_assign rfl) ?_
      refine jo_nil ?_
      refine jq_then ?_
      refine jc_ret ?_
      refine j_drop ?_
      refine j_drop ?_
      exact jq_ret1 rfl () rfl (show (.bool (decide (a = b)) : Value) = (.bool (true)) from congrArg Value.bool (decide_eq_true (by have := hinv.2; rwa [List.take_of_length_le (by omega), List.take_of_length_le (by omega)] at this))) (fun _ h => h)
end Go.Proofs.YtikllmfjgpmcnaaGreatDoor
