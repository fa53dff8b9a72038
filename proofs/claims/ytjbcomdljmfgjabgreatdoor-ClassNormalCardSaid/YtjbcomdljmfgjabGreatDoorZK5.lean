/-
 Contracts of functions of the program: each returns what a plain function says, for every input within the bounds named. Conditions: the bounds.
-/
import Derived.Test.YtjbcomdljmfgjabGreatDoorRows
import Derived.Test.YtjbcomdljmfgjabGreatDoorZK4
import Derived.Test.YtjbcomdljmfgjabGreatDoorZSep3
import Derived.Test.YtjbcomdljmfgjabGreatDoorZLawC
namespace Go.Proofs.YtjbcomdljmfgjabGreatDoor
open Go Go.Sep
set_option linter.unusedSimpArgs false
set_option linter.unusedVariables false

open Go.Plain

theorem cal_15 : Cal Tryz.prog 15 := cal_of Tryz.func15 (by kernel_rfl) rfl
theorem cal_22 : Cal Tryz.prog 22 := cal_of Tryz.func22 (by kernel_rfl) rfl
theorem cal_76 : Cal Tryz.prog 76 := cal_of Tryz.func76 (by kernel_rfl) rfl
theorem cal_77 : Cal Tryz.prog 77 := cal_of Tryz.func77 (by kernel_rfl) rfl
theorem cal_78 : Cal Tryz.prog 78 := cal_of Tryz.func78 (by kernel_rfl) rfl
theorem cal_107 : Cal Tryz.prog 107 := cal_of Tryz.func107 (by kernel_rfl) rfl

theorem c_list_Join (l : List (List UInt8)) (lv : Value) (hl : l.length ≤ 1000) (hm : ∀ x ∈ l, x.length ≤ 20000) : Con Tryz.prog 77 #[lv] [.imm (.list .str) (lv) (l)] (fun _ : Unit => str (joinS [44, 32] l)) (fun _ => []) := by
 refine con_of_J (args := [lv]) (n := 5) Tryz.func77 rfl (Nat.le_of_ble_eq_true rfl) rfl (fun w0 I0 m0 => ?_)
 show J _ [(0, lv)] [.imm (.list .str) (lv) (l)] _
 refine jc_seq (jc_region (jo_pure rfl (pr_assign rfl) (jo_nil (jq_then (jc_seq ?_)))))
 refine jc_region (jo_pure rfl (pr_move rfl) ?_)
 refine jo_callp cal_41 (c_strings_Join l lv [44, 32] (by first | omega | exact hm | decide) (by first | omega | exact hm | decide) (by first | omega | exact hm | decide) (by first | omega | exact hm | decide)) ⟨rfl, rfl, trivial⟩ rfl (⟨⟨rfl, .head _⟩, trivial⟩) (fun _ => ?_)
 refine jo_pure rfl (pr_assign rfl) (jo_nil (jq_then (jc_ret (j_drop ?_))))
 exact jq_ret1 rfl () rfl (show (str (joinS [44, 32] l) : Value) = (str (joinS [44, 32] l)) from rfl) (fun _ h => h)

theorem c_slices_Index_string_string (l : List (List UInt8)) (lv : Value) (v : List UInt8) (hl : l.length ≤ 9223372036854775807) : Con Tryz.prog 107 #[lv, str (v)] [.imm (.list .str) (lv) (l)] (fun _ : Unit => .int .i64 (idxP (fun x => decide (x = v)) l)) (fun _ => []) := by
 refine con_of_J (args := [lv, str (v)]) (n := 19) Tryz.func107 rfl (Nat.le_of_ble_eq_true rfl) rfl (fun w0 I0 m0 => ?_)
 show J _ [(0, lv), (1, str (v))] [.imm (.list .str) (lv) (l)] _
 refine jc_seq (jc_region (jo_pure rfl (pr_assign rfl) (jo_nil (jq_then (jc_seq ?_)))))
 refine jc_seq (jc_region (jo_pure rfl (pr_move rfl) (jo_pure rfl (pr_len_imm rfl (.head _) Tryz.underlying28) ?_)))
 refine jo_pure rfl (pr_move rfl) (jo_nil (jq_then (jc_block ?_)))
 refine jc_loop (fun (i : Nat) => [(0, lv), (1, str (v)), (7, .int .i64 ((l.length : Nat) : Int)), (8, .int .i64 ((i : Nat) : Int))]) (fun (i : Nat) => [.imm (.list .str) (lv) (l)]) (fun (i : Nat) => i ≤ l.length ∧ (l.take i).any (fun x => decide (x = v)) = false) (fun (i : Nat) => l.length - i) 0 (⟨Nat.zero_le _, rfl⟩) (⟨rfl, rfl, rfl, rfl, trivial⟩) (fun _ h => h) (fun i hinv => ?_)
 refine jc_seq (jc_region (jo_pure rfl (pr_lssN (m := i) (n := l.length) rfl rfl) ?_))
 refine jo_nil (jq_then (jc_seq ?_))
 refine jc_cond rfl (fun h1b => ?_) (fun h1b => ?_)
 ·have h1 := of_decide_eq_true h1b
  refine jc_skip (jq_then (jc_seq (jc_block (jc_seq (jc_region ?_)))))
  refine jo_pure rfl (pr_move rfl) (jo_pure rfl (pr_assign rfl) (jo_nil (jq_then (jc_seq (jc_region ?_)))))
  refine jo_pure rfl (pr_move rfl) (jo_pure rfl (pr_move rfl) (jo_pure rfl (pr_move rfl) (jo_pure rfl (pr_idx_imm (i := i) rfl (.head _) rfl Tryz.underlying28 ty_9 (by omega)) ?_)))
  refine jo_pure rfl (pr_load_elem_imm (i := i) (str (l.getD i [])) rfl (.head _) ty_9 rfl rfl (by omega) rfl) ?_
  refine jo_pure rfl (pr_seql rfl rfl) ?_
  refine jo_nil (jq_then ?_)
  refine jc_cond rfl (fun h2b => ?_) (fun h2b => ?_)
  ·have h2 := of_decide_eq_true h2b
   refine jc_seq (jc_region (jo_pure rfl (pr_move rfl) (jo_pure rfl (pr_assign rfl) (jo_nil (jq_then ?_)))))
   refine jc_ret (jq_in_ret ?_)
   refine jq_then_ret (jq_then_ret (jq_in_ret ?_))
   refine jq_then_ret (j_drop ?_)
   exact jq_ret1 rfl () rfl (show (.int .i64 (idxP (fun x => decide (x = v)) l) : Value) = (.int .i64 ((i : Nat) : Int)) from congrArg (Value.int .i64) (by rw [idxP_hit (dd := []) h1 hinv.2 (decide_eq_true h2.symm)])) (fun _ h => h)
  ·have h2 := of_decide_eq_false h2b
   refine jc_skip (jq_in_normal (jq_then (jc_region (jo_pure rfl (pr_addN (m := i) (n := 1) rfl rfl (by omega)) ?_))))
   refine jo_pure rfl (pr_move rfl) (jo_nil ?_)
   refine jq_round' (i + 1) (by (try dsimp only); exact (⟨by omega, any_step (dd := []) h1 hinv.2 (decide_eq_false (fun e => h2 e.symm))⟩)) (by (try dsimp only); exact (by omega)) ⟨rfl, rfl, rfl, rfl, trivial⟩ (fun _ h => h)
 ·have h1 := of_decide_eq_false h1b
  refine jc_exit ?_
  refine jq_then_exit ?_
  refine jq_then_exit ?_
  refine jq_in_hit ?_
  refine jq_then (jc_seq (jc_region (jo_pure rfl (pr_assign rfl) (jo_nil (jq_then ?_)))))
  refine jc_ret (j_drop ?_)
  exact jq_ret1 rfl () rfl (show (.int .i64 (idxP (fun x => decide (x = v)) l) : Value) = (.int .i64 (-1)) from congrArg (Value.int .i64) (by rw [idxP_none (any_end (by omega) hinv.2)])) (fun _ h => h)

theorem c_slices_Contains_string_string (l : List (List UInt8)) (lv : Value) (v : List UInt8) (hl : l.length ≤ 9223372036854775807) : Con Tryz.prog 78 #[lv, str (v)] [.imm (.list .str) (lv) (l)] (fun _ : Unit => .bool (l.any (fun x => decide (x = v)))) (fun _ => []) := by
 refine con_of_J (args := [lv, str (v)]) (n := 9) Tryz.func78 rfl (Nat.le_of_ble_eq_true rfl) rfl (fun w0 I0 m0 => ?_)
 show J _ [(0, lv), (1, str (v))] [.imm (.list .str) (lv) (l)] _
 refine jc_seq (jc_region (jo_pure rfl (pr_assign rfl) (jo_nil (jq_then (jc_seq ?_)))))
 refine jc_region (jo_pure rfl (pr_move rfl) (jo_pure rfl (pr_move rfl) ?_))
 refine jo_callp cal_107 (c_slices_Index_string_string l lv v (hl)) ⟨rfl, rfl, trivial⟩ rfl (⟨⟨rfl, .head _⟩, trivial⟩) (fun _ => ?_)
 refine jo_pure rfl (pr_geq (n := 0) rfl rfl) ?_
 refine jo_pure rfl (pr_assign rfl) (jo_nil (jq_then (jc_ret (j_drop ?_))))
 exact jq_ret1 rfl () rfl (show (.bool (l.any (fun x => decide (x = v))) : Value) = (.bool (decide ((0 : Int) ≤ idxP (fun x => decide (x = v)) l))) from congrArg Value.bool (idxP_ge _ _).symm) (fun _ h => h)

theorem c_selection_Ranked (ax : (List UInt8) × (List (List UInt8))) (axv : Value) (l : List ((List UInt8) × (List UInt8))) (lv : Value) (strict : Bool) (ha : ax.1.length ≤ 1000000) (hm : ∀ x ∈ ax.2, x.length ≤ 300000) (hl : ax.2.length ≤ 9223372036854775807) (hfl : l.length ≤ 1000000) (hfm : ∀ x ∈ l, x.1.length ≤ 20000 ∧ x.2.length ≤ 20000) : Con Tryz.prog 46 #[.agg #[str (ax.1), axv], lv, .bool (strict)] [.imm (.list .str) (axv) (ax.2), .imm (.list (.pair .str .str)) (lv) (l)] (fun r1 : Value => r1) (fun r1 => [.imm (.list .str) r1 (rankA ax l strict)]) := by
 refine con_of_J (args := [.agg #[str (ax.1), axv], lv, .bool (strict)]) (n := 57) Tryz.func46 rfl (Nat.le_of_ble_eq_true rfl) rfl (fun w0 I0 m0 => ?_)
 show J _ [(0, .agg #[str (ax.1), axv]), (1, lv), (2, .bool (strict))] [.imm (.list .str) (axv) (ax.2), .imm (.list (.pair .str .str)) (lv) (l)] _
 have hf3 : ∀ x ∈ l, x.1.length ≤ 300000 ∧ x.2.length ≤ 300000 := fun x hx => by have := hfm x hx; omega
 have hf6 : ∀ x ∈ l, x.1.length ≤ 1000000 ∧ x.2.length ≤ 1000000 := fun x hx => by have := hfm x hx; omega
 have hone : ∀ x ∈ [ax], x.1.length ≤ 1000000 ∧ (∀ z ∈ x.2, z.length ≤ 300000) ∧ x.2.length ≤ 9223372036854775807 := fun x hx => by obtain rfl := List.mem_singleton.1 hx; exact ⟨ha, hm, hl⟩
 have hpl := prefsF_length (kindF ax.1) l
 have hps : ∀ x ∈ (prefsF (kindF ax.1) l).1, x.1.length ≤ 1000000 := fun x hx => by have := prefsF_short (kind := (kindF ax.1)) (n := 20000) hfm x hx; omega
 have hal64 : (allF l ax.1).length ≤ 64 := allV_length _
 have halm : ∀ x ∈ allF l ax.1, x.length ≤ 20000 := allV_mem (getF_mem (n := 20000) hfm)
 have hm6 : ∀ x ∈ ax.2, x.length ≤ 1000000 := fun x hx => by have := hm x hx; omega
 refine jc_seq (jc_region ?_)
 refine jo_box rfl [str (ax.1), axv] rfl rfl (fun b1 => ?_)
 refine jo_pure rfl (pr_assign rfl) (jo_nil (jq_then (jc_seq (jc_seq (jc_region ?_)))))
 refine jo_pure rfl (pr_load_box (.agg #[str (ax.1), axv]) rfl ty_30 (.head _) rfl (by decide) rfl) ?_
 refine jo_buildSliceL (t := (.pair .str (.list .str))) [ax] [.agg #[str (ax.1), axv]] [[str (ax.1), axv]] (fun a hf => by simp only [List.zipIdx_cons, List.zipIdx_nil, List.map_toArray, List.map_cons, List.map_nil, hf.ev (show ev _ (.tmp 12) = some (.agg #[str (ax.1), axv]) from rfl)] <;> rfl) rfl ⟨⟨[str (ax.1)], [axv], rfl, rfl, ⟨axv, rfl, .tail _ (.head _)⟩⟩, trivial⟩ Tryz.underlying22 ty_30 rfl rfl rfl rfl (fun g1 => ?_)
 refine j_pub_rowg ?_
 refine jo_callp cal_22 (c_variants_Valid [ax] (.slice (some ⟨g1, 0, none⟩) ([ax]).length (([ax]).length)) (by first | omega | exact hf3 | exact hf6 | exact hone | exact hps | exact halm | exact hm6 | exact hm | (simp only [List.length_cons, List.length_nil]; omega)) (by first | omega | exact hf3 | exact hf6 | exact hone | exact hps | exact halm | exact hm6 | exact hm | (simp only [List.length_cons, List.length_nil]; omega))) ⟨rfl, trivial⟩ rfl (⟨⟨rfl, .head _⟩, trivial⟩) (fun _ => ?_)
 refine jo_pure rfl (pr_not rfl) ?_
 refine jo_nil (jq_then ?_)
 refine jc_cond rfl (fun h1b => ?_) (fun h1b => ?_)
 ·have h1 := (fun q => id (bt_not q)) h1b
  refine jc_seq (jc_region (jo_pure rfl (pr_assign rfl) (jo_nil (jq_then (jc_ret ?_)))))
  refine jq_then_ret (j_nil_imm .str ?_)
  refine j_pull1 (j_drop (j_pull1 (j_drop (j_pull1 (j_drop ?_)))))
  refine j_pull1 (j_drop ?_)
  exact jq_ret1 rfl (.slice none 0 0) rfl (show (.slice none 0 0 : Value) = (.slice none 0 0) from rfl) (fun _ h => by rw [ranked_no (valid_one.symm.trans h1)]; exact h)
 ·have h1 := (fun q => id (bf_not q)) h1b
  have hva : validA ax = true := by rw [← valid_one]; exact h1
  have hvl : 0 < ax.2.length ∧ ax.2.length ≤ 16 := by have h9 := hva; unfold validA validV at h9; simp only [Bool.and_eq_true, decide_eq_true_eq] at h9; exact h9.2.1
  refine jc_skip (jq_then (jc_seq (jc_region (jo_pure rfl (pr_assign rfl) (jo_nil ?_)))))
  refine jq_then (jc_seq (jc_seq (jc_region (jo_pure rfl (pr_fieldAddr 0 rfl Tryz.underlying30 rfl ty_9 rfl rfl) ?_))))
  refine jo_pure rfl (pr_load_box (str (ax.1)) rfl ty_9 (.tail _ (.head _)) rfl (by decide) rfl) ?_
  refine jo_callp cal_75 (c_accept_Kind ax.1 (by first | omega | exact hf3 | exact hf6 | exact hone | exact hps | exact halm | exact hm6 | exact hm | (simp only [List.length_cons, List.length_nil]; omega))) ⟨rfl, trivial⟩ rfl (trivial) (fun _ => ?_)
  refine jo_pure rfl (pr_assign rfl) (jo_nil (jq_then (jc_seq (jc_region (jo_pure rfl (pr_move rfl) ?_)))))
  refine jo_pure rfl (pr_neq (n := 0) rfl rfl) ?_
  refine jo_nil (jq_then ?_)
  refine jc_cond rfl (fun h2b => ?_) (fun h2b => ?_)
  ·have h2 := (fun q => of_decide_eq_false (bt_not q)) h2b
   refine jc_seq (jc_region (jo_pure rfl (pr_move rfl) (jo_pure rfl (pr_move rfl) ?_)))
   refine jo_callp cal_15 (c_accept_Prefs (kindF ax.1) l lv (by first | omega | exact hf3 | exact hf6 | exact hone | exact hps | exact halm | exact hm6 | exact hm | (simp only [List.length_cons, List.length_nil]; omega)) (by first | omega | exact hf3 | exact hf6 | exact hone | exact hps | exact halm | exact hm6 | exact hm | (simp only [List.length_cons, List.length_nil]; omega))) ⟨rfl, rfl, trivial⟩ rfl (⟨⟨rfl, .tail _ (.tail _ (.tail _ (.head _)))⟩, trivial⟩) (fun r1 => ?_)
   show J _ _ [.row (r1) 47 (.pair .str (.int .i64)) ((prefsF (kindF ax.1) l).1), .imm (.list (.pair .str (.list .str))) (.slice (some ⟨g1, 0, none⟩) ([ax]).length (([ax]).length)) ([ax]), .box b1 30 [str (ax.1), axv], .imm (.list .str) (axv) (ax.2), .imm (.list (.pair .str .str)) (lv) (l)] _
   refine jo_pure rfl (pr_move rfl) (jo_pure rfl (pr_extract rfl rfl) ?_)
   refine jo_pure rfl (pr_extract rfl rfl) ?_
   refine jo_pure rfl (pr_assign rfl) (jo_pure rfl (pr_assign rfl) (jo_nil (jq_then (jc_region (jo_pure rfl (pr_move rfl) ?_)))))
   refine jo_pure rfl (pr_move rfl) (jo_pure rfl (pr_move rfl) (jo_pure rfl (pr_fieldAddr 1 rfl Tryz.underlying30 rfl ty_28 rfl rfl) ?_))
   refine jo_pure rfl (pr_load_box (axv) rfl ty_28 (.tail _ (.tail _ (.head _))) rfl (by decide) rfl) ?_
   refine j_pub_row ?_
   refine jo_callp cal_76 (c_rank_Rank (kindF ax.1) ((prefsF (kindF ax.1) l).1) r1 ((prefsF (kindF ax.1) l).2) ax.2 axv (by first | omega | exact hf3 | exact hf6 | exact hone | exact hps | exact halm | exact hm6 | exact hm | (simp only [List.length_cons, List.length_nil]; omega)) (by first | omega | exact hf3 | exact hf6 | exact hone | exact hps | exact halm | exact hm6 | exact hm | (simp only [List.length_cons, List.length_nil]; omega)) (by first | omega | exact hf3 | exact hf6 | exact hone | exact hps | exact halm | exact hm6 | exact hm | (simp only [List.length_cons, List.length_nil]; omega)) (by first | omega | exact hf3 | exact hf6 | exact hone | exact hps | exact halm | exact hm6 | exact hm | (simp only [List.length_cons, List.length_nil]; omega))) ⟨rfl, rfl, rfl, rfl, trivial⟩ rfl (⟨⟨rfl, .head _⟩, ⟨⟨rfl, .tail _ (.tail _ (.tail _ (.head _)))⟩, trivial⟩⟩) (fun r2 => ?_)
   show J _ _ [.row (r2) 9 .str ((rankG (kindF ax.1) ((prefsF (kindF ax.1) l).1) ((prefsF (kindF ax.1) l).2) ax.2).1), .imm (.list (.pair .str (.int .i64))) (r1) ((prefsF (kindF ax.1) l).1), .imm (.list (.pair .str (.list .str))) (.slice (some ⟨g1, 0, none⟩) ([ax]).length (([ax]).length)) ([ax]), .box b1 30 [str (ax.1), axv], .imm (.list .str) (axv) (ax.2), .imm (.list (.pair .str .str)) (lv) (l)] _
   refine jo_pure rfl (pr_assign rfl) (jo_nil (jq_then (jc_seq (jc_seq (jc_region ?_)))))
   refine jo_pure rfl (pr_move rfl) (jo_pure rfl (pr_len_row rfl (.head _) Tryz.underlying28) ?_)
   refine jo_pure rfl (pr_eqlN (m := ((rankG (kindF ax.1) ((prefsF (kindF ax.1) l).1) ((prefsF (kindF ax.1) l).2) ax.2).1).length) (n := 0) rfl rfl) ?_
   refine jo_pure rfl (pr_move rfl) (jo_gpure (j := 3) (want := true) rfl rfl rfl rfl (fun hg => pr_move rfl) ?_)
   refine jo_gpure (j := 3) (want := true) rfl rfl rfl rfl (fun hg => pr_not (evg rfl hg)) ?_
   refine jo_pure rfl (pr_pick_and rfl rfl rfl) ?_
   refine jo_nil (jq_then ?_)
   refine jc_cond rfl (fun h3b => ?_) (fun h3b => ?_)
   ·have h3 := (fun q => And.imp of_decide_eq_true (fun q => id (bt_not q)) (bt_and q)) h3b
    refine jc_region (jo_pure rfl (pr_fieldAddr 1 rfl Tryz.underlying30 rfl ty_28 rfl rfl) ?_)
    refine jo_pure rfl (pr_load_box (axv) rfl ty_28 (.tail _ (.tail _ (.tail _ (.head _)))) rfl (by decide) rfl) ?_
    refine jo_pure rfl (pr_idx_imm (i := 0) rfl (.tail _ (.tail _ (.tail _ (.tail _ (.head _))))) rfl Tryz.underlying28 ty_9 (by first | omega | exact hvl.1)) ?_
    refine jo_pure rfl (pr_load_elem_imm (i := 0) (str (ax.2.getD 0 [])) rfl (.tail _ (.tail _ (.tail _ (.tail _ (.head _))))) ty_9 rfl rfl (by first | omega | exact hvl.1) rfl) ?_
    refine jo_buildSlice (t := .str) [ax.2.getD 0 []] [str (ax.2.getD 0 [])] (fun a hf => by simp only [List.zipIdx_cons, List.zipIdx_nil, List.map_toArray, List.map_cons, List.map_nil, hf.ev (show ev _ (.tmp 54) = some (str (ax.2.getD 0 [])) from rfl)] <;> rfl) rfl Tryz.underlying28 ty_9 rfl rfl rfl rfl rfl (fun g2 => ?_)
    refine jo_pure rfl (pr_assign rfl) (jo_nil (jq_then (jc_seq (jc_region (jo_pure rfl (pr_move rfl) ?_)))))
    refine jo_pure rfl (pr_assign rfl) (jo_nil (jq_then (jc_ret (j_row_of_rowg ?_))))
    refine j_pub_row (j_pull1 (j_drop (j_pull1 (j_drop (j_pull1 ?_)))))
    refine j_drop (j_pull1 (j_drop (j_pull1 (j_drop (j_pull1 ?_)))))
    refine j_drop ?_
    exact jq_ret1 rfl (.slice (some ⟨g2, 0, none⟩) ([ax.2.getD 0 []]).length (([ax.2.getD 0 []]).length)) rfl (show (.slice (some ⟨g2, 0, none⟩) ([ax.2.getD 0 []]).length (([ax.2.getD 0 []]).length) : Value) = (.slice (some ⟨g2, 0, none⟩) ([ax.2.getD 0 []]).length (([ax.2.getD 0 []]).length)) from rfl) (fun _ h => by rw [ranked_first hva (by rw [rankO_kind h2]; exact h3.1) (by simpa using h3.2)]; exact h)
   ·have h3 := (fun q => Or.imp of_decide_eq_false (fun q => id (bf_not q)) (bf_and q)) h3b
    refine jc_skip (jq_then (jc_seq (jc_region (jo_pure rfl (pr_move rfl) (jo_pure rfl (pr_assign rfl) ?_)))))
    refine jo_nil (jq_then (jc_ret (j_pub_row (j_pull1 (j_drop ?_)))))
    refine j_pull1 (j_drop (j_pull1 (j_drop (j_pull1 (j_drop ?_)))))
    refine j_pull1 (j_drop ?_)
    exact jq_ret1 rfl r2 rfl (show (r2 : Value) = (r2) from rfl) (fun _ h => by rw [ranked_out hva (by rw [rankO_kind h2]; simpa using h3), rankO_kind h2]; exact h)
  ·have h2 := (fun q => of_decide_eq_true (bf_not q)) h2b
   refine jc_seq (jc_region (jo_pure rfl (pr_move rfl) (jo_pure rfl (pr_fieldAddr 0 rfl Tryz.underlying30 rfl ty_9 rfl rfl) ?_)))
   refine jo_pure rfl (pr_load_box (str (ax.1)) rfl ty_9 (.tail _ (.head _)) rfl (by decide) rfl) ?_
   refine jo_callp cal_30 (c_list_All l lv ax.1 (by first | omega | exact hf3 | exact hf6 | exact hone | exact hps | exact halm | exact hm6 | exact hm | (simp only [List.length_cons, List.length_nil]; omega)) (by first | omega | exact hf3 | exact hf6 | exact hone | exact hps | exact halm | exact hm6 | exact hm | (simp only [List.length_cons, List.length_nil]; omega)) (by first | omega | exact hf3 | exact hf6 | exact hone | exact hps | exact halm | exact hm6 | exact hm | (simp only [List.length_cons, List.length_nil]; omega))) ⟨rfl, rfl, trivial⟩ rfl (⟨⟨rfl, .tail _ (.tail _ (.tail _ (.head _)))⟩, trivial⟩) (fun r3 => ?_)
   show J _ _ [.imm (.list .str) (r3) (allF l ax.1), .imm (.list (.pair .str (.list .str))) (.slice (some ⟨g1, 0, none⟩) ([ax]).length (([ax]).length)) ([ax]), .box b1 30 [str (ax.1), axv], .imm (.list .str) (axv) (ax.2), .imm (.list (.pair .str .str)) (lv) (l)] _
   refine jo_callp cal_77 (c_list_Join (allF l ax.1) r3 (by first | omega | exact hf3 | exact hf6 | exact hone | exact hps | exact halm | exact hm6 | exact hm | (simp only [List.length_cons, List.length_nil]; omega)) (by first | omega | exact hf3 | exact hf6 | exact hone | exact hps | exact halm | exact hm6 | exact hm | (simp only [List.length_cons, List.length_nil]; omega))) ⟨rfl, trivial⟩ rfl (⟨⟨rfl, .head _⟩, trivial⟩) (fun _ => ?_)
   refine jo_pure rfl (pr_assign rfl) (jo_nil (jq_then (jc_seq (jc_region (jo_pure rfl (pr_fieldAddr 1 rfl Tryz.underlying30 rfl ty_28 rfl rfl) ?_)))))
   refine jo_pure rfl (pr_load_box (axv) rfl ty_28 (.tail _ (.tail _ (.head _))) rfl (by decide) rfl) ?_
   refine jo_pure rfl (pr_move rfl) ?_
   refine jo_callp cal_78 (c_slices_Contains_string_string ax.2 axv (joinS [44, 32] (allF l ax.1)) (by first | omega | exact hf3 | exact hf6 | exact hone | exact hps | exact halm | exact hm6 | exact hm | (simp only [List.length_cons, List.length_nil]; omega))) ⟨rfl, rfl, trivial⟩ rfl (⟨⟨rfl, .tail _ (.tail _ (.tail _ (.head _)))⟩, trivial⟩) (fun _ => ?_)
   refine jo_nil (jq_then ?_)
   refine jc_cond rfl (fun h4b => ?_) (fun h4b => ?_)
   ·have h4 := id h4b
    refine jc_region (jo_pure rfl (pr_move rfl) ?_)
    refine jo_buildSlice (t := .str) [joinS [44, 32] (allF l ax.1)] [str (joinS [44, 32] (allF l ax.1))] (fun a hf => by simp only [List.zipIdx_cons, List.zipIdx_nil, List.map_toArray, List.map_cons, List.map_nil, hf.ev (show ev _ (.tmp 42) = some (str (joinS [44, 32] (allF l ax.1))) from rfl)] <;> rfl) rfl Tryz.underlying28 ty_9 rfl rfl rfl rfl rfl (fun g3 => ?_)
    refine jo_pure rfl (pr_assign rfl) (jo_nil (jq_then (jc_seq (jc_seq (jc_region ?_)))))
    refine jo_pure rfl (pr_move rfl) (jo_pure rfl (pr_len rfl Tryz.underlying28) ?_)
    refine jo_pure rfl (pr_eqlN (m := ([joinS [44, 32] (allF l ax.1)]).length) (n := 0) rfl rfl) ?_
    refine jo_pure rfl (pr_move rfl) (jo_gpure (j := 3) (want := true) rfl rfl rfl rfl (fun hg => pr_move rfl) ?_)
    refine jo_gpure (j := 3) (want := true) rfl rfl rfl rfl (fun hg => pr_not (evg rfl hg)) ?_
    refine jo_pure rfl (pr_pick_and rfl rfl rfl) ?_
    refine jo_nil (jq_then ?_)
    refine jc_cond rfl (fun h5b => ?_) (fun h5b => ?_)
    ·have h5 := (fun q => And.imp of_decide_eq_true (fun q => id (bt_not q)) (bt_and q)) h5b
     exact absurd h5.1 (by simp)
    ·have h5 := (fun q => Or.imp of_decide_eq_false (fun q => id (bf_not q)) (bf_and q)) h5b
     refine jc_skip (jq_then (jc_seq (jc_region (jo_pure rfl (pr_move rfl) (jo_pure rfl (pr_assign rfl) ?_)))))
     refine jo_nil (jq_then (jc_ret (j_row_of_rowg ?_)))
     refine j_pub_row (j_pull1 (j_drop (j_pull1 (j_drop (j_pull1 ?_)))))
     refine j_drop (j_pull1 (j_drop (j_pull1 (j_drop ?_))))
     exact jq_ret1 rfl (.slice (some ⟨g3, 0, none⟩) ([joinS [44, 32] (allF l ax.1)]).length (([joinS [44, 32] (allF l ax.1)]).length)) rfl (show (.slice (some ⟨g3, 0, none⟩) ([joinS [44, 32] (allF l ax.1)]).length (([joinS [44, 32] (allF l ax.1)]).length) : Value) = (.slice (some ⟨g3, 0, none⟩) ([joinS [44, 32] (allF l ax.1)]).length (([joinS [44, 32] (allF l ax.1)]).length)) from rfl) (fun _ h => by rw [ranked_out hva (.inl (by rw [rankO_have (by simpa using h2) h4]; simp)), rankO_have (by simpa using h2) h4]; exact h)
   ·have h4 := id h4b
    refine jc_skip (jq_then (jc_seq (jc_seq (jc_region (jo_pure rfl (pr_move rfl) ?_)))))
    refine jo_pure rfl (pr_len rfl Tryz.underlying28) ?_
    refine jo_pure rfl (pr_eqlN (m := 0) (n := 0) rfl rfl) ?_
    refine jo_pure rfl (pr_move rfl) (jo_gpure (j := 3) (want := true) rfl rfl rfl rfl (fun hg => pr_move rfl) ?_)
    refine jo_gpure (j := 3) (want := true) rfl rfl rfl rfl (fun hg => pr_not (evg rfl hg)) ?_
    refine jo_pure rfl (pr_pick_and rfl rfl rfl) ?_
    refine jo_nil (jq_then ?_)
    refine jc_cond rfl (fun h6b => ?_) (fun h6b => ?_)
    ·have h6 := (fun q => And.imp of_decide_eq_true (fun q => id (bt_not q)) (bt_and q)) h6b
     refine jc_region (jo_pure rfl (pr_fieldAddr 1 rfl Tryz.underlying30 rfl ty_28 rfl rfl) ?_)
     refine jo_pure rfl (pr_load_box (axv) rfl ty_28 (.tail _ (.tail _ (.head _))) rfl (by decide) rfl) ?_
     refine jo_pure rfl (pr_idx_imm (i := 0) rfl (.tail _ (.tail _ (.tail _ (.head _)))) rfl Tryz.underlying28 ty_9 (by first | omega | exact hvl.1)) ?_
     refine jo_pure rfl (pr_load_elem_imm (i := 0) (str (ax.2.getD 0 [])) rfl (.tail _ (.tail _ (.tail _ (.head _)))) ty_9 rfl rfl (by first | omega | exact hvl.1) rfl) ?_
     refine jo_buildSlice (t := .str) [ax.2.getD 0 []] [str (ax.2.getD 0 [])] (fun a hf => by simp only [List.zipIdx_cons, List.zipIdx_nil, List.map_toArray, List.map_cons, List.map_nil, hf.ev (show ev _ (.tmp 54) = some (str (ax.2.getD 0 [])) from rfl)] <;> rfl) rfl Tryz.underlying28 ty_9 rfl rfl rfl rfl rfl (fun g4 => ?_)
     refine jo_pure rfl (pr_assign rfl) (jo_nil (jq_then (jc_seq (jc_region (jo_pure rfl (pr_move rfl) ?_)))))
     refine jo_pure rfl (pr_assign rfl) (jo_nil (jq_then (jc_ret (j_row_of_rowg ?_))))
     refine j_pub_row (j_pull1 (j_drop (j_pull1 (j_drop (j_pull1 ?_)))))
     refine j_drop (j_pull1 (j_drop (j_pull1 (j_drop ?_))))
     exact jq_ret1 rfl (.slice (some ⟨g4, 0, none⟩) ([ax.2.getD 0 []]).length (([ax.2.getD 0 []]).length)) rfl (show (.slice (some ⟨g4, 0, none⟩) ([ax.2.getD 0 []]).length (([ax.2.getD 0 []]).length) : Value) = (.slice (some ⟨g4, 0, none⟩) ([ax.2.getD 0 []]).length (([ax.2.getD 0 []]).length)) from rfl) (fun _ h => by rw [ranked_first hva (by rw [rankO_none (by simpa using h2) h4]; rfl) (by simpa using h6)]; exact h)
    ·have h6 := (fun q => Or.imp of_decide_eq_false (fun q => id (bf_not q)) (bf_and q)) h6b
     refine jc_skip (jq_then (jc_seq (jc_region (jo_pure rfl (pr_move rfl) (jo_pure rfl (pr_assign rfl) ?_)))))
     refine jo_nil (jq_then (jc_ret (j_nil_imm .str ?_)))
     refine j_pull1 (j_drop (j_pull1 (j_drop (j_pull1 (j_drop ?_)))))
     refine j_pull1 (j_drop (j_pull1 (j_drop ?_)))
     exact jq_ret1 rfl (.slice none 0 0) rfl (show (.slice none 0 0 : Value) = (.slice none 0 0) from rfl) (fun _ h => by rw [ranked_out hva (.inr (by simpa using h6)), rankO_none (by simpa using h2) h4]; exact h)
end Go.Proofs.YtjbcomdljmfgjabGreatDoor
