/-
 Contracts of functions of the program: each returns what a plain function says, for every input within the bounds named. Conditions: the bounds.
-/
import Derived.Test.YtjbcomdljmfgjaaGreatDoorRows
import Derived.Test.YtjbcomdljmfgjaaGreatDoorVK4
import Derived.Test.YtjbcomdljmfgjaaGreatDoorVSep3
import Derived.Test.YtjbcomdljmfgjaaGreatDoorVLawC
namespace Go.Proofs.YtjbcomdljmfgjaaGreatDoor
open Go Go.Sep
set_option linter.unusedSimpArgs false
set_option linter.unusedVariables false

open Go.Plain

theorem cal_34 : Cal Tryz.prog 34 := cal_of Tryz.func34 (by kernel_rfl) rfl
theorem cal_48 : Cal Tryz.prog 48 := cal_of Tryz.func48 (by kernel_rfl) rfl
theorem cal_68 : Cal Tryz.prog 68 := cal_of Tryz.func68 (by kernel_rfl) rfl
theorem cal_69 : Cal Tryz.prog 69 := cal_of Tryz.func69 (by kernel_rfl) rfl
theorem cal_70 : Cal Tryz.prog 70 := cal_of Tryz.func70 (by kernel_rfl) rfl
theorem cal_72 : Cal Tryz.prog 72 := cal_of Tryz.func72 (by kernel_rfl) rfl
theorem cal_76 : Cal Tryz.prog 76 := cal_of Tryz.func76 (by kernel_rfl) rfl
theorem cal_112 : Cal Tryz.prog 112 := cal_of Tryz.func112 (by kernel_rfl) rfl

theorem c_ref26_SameKeys (a : List (List (List UInt8))) (av : Value) (b : List (List (List UInt8))) (bv : Value) (hl : a.length ≤ 9223372036854775807) (hm : ∀ x ∈ a, x.length ≤ 9223372036854775807) : Con Tryz.prog 39 #[av, bv] [.imm (.list (.list .str)) (av) (a), .imm (.list (.list .str)) (bv) (b)] (fun _ : Unit => .bool (decide (a = b))) (fun _ => []) := by
 refine con_of_J (args := [av, bv]) (n := 27) Tryz.func39 rfl (Nat.le_of_ble_eq_true rfl) rfl (fun w0 I0 m0 => ?_)
 show J _ [(0, av), (1, bv)] [.imm (.list (.list .str)) (av) (a), .imm (.list (.list .str)) (bv) (b)] _
 refine jc_seq (jc_region (jo_pure rfl (pr_assign rfl) (jo_nil (jq_then (jc_seq ?_)))))
 refine jc_seq (jc_region (jo_pure rfl (pr_move rfl) (jo_pure rfl (pr_len_imm rfl (.head _) Tryz.underlying53) ?_)))
 refine jo_pure rfl (pr_move rfl) (jo_pure rfl (pr_len_imm rfl (.tail _ (.head _)) Tryz.underlying53) ?_)
 refine jo_pure rfl (pr_neqN (m := a.length) (n := b.length) rfl rfl) ?_
 refine jo_nil (jq_then ?_)
 refine jc_cond rfl (fun h1b => ?_) (fun h1b => ?_)
 ·have h1 := (fun q => of_decide_eq_false (bt_not q)) h1b
  refine jc_seq (jc_region (jo_pure rfl (pr_assign rfl) (jo_nil (jq_then (jc_ret ?_)))))
  refine jq_then_ret (j_drop (j_drop ?_))
  exact jq_ret1 rfl () rfl (show (.bool (decide (a = b)) : Value) = (.bool (false)) from congrArg Value.bool (decide_eq_false (fun e => by rw [e] at h1; simp at h1))) (fun _ h => h)
 ·have h1 := (fun q => of_decide_eq_true (bf_not q)) h1b
  have hlen : a.length = b.length := by simpa using h1
  refine jc_skip (jq_then (jc_seq (jc_seq (jc_region (jo_pure rfl (pr_assign rfl) ?_)))))
  refine jo_nil (jq_then (jc_block ?_))
  refine jc_loop (fun (i : Nat) => [(0, av), (1, bv), (5, .int .i64 ((i : Nat) : Int))]) (fun (i : Nat) => [.imm (.list (.list .str)) (av) (a), .imm (.list (.list .str)) (bv) (b)]) (fun (i : Nat) => i ≤ a.length ∧ a.take i = b.take i) (fun (i : Nat) => a.length - i) 0 (⟨Nat.zero_le _, rfl⟩) (⟨rfl, rfl, rfl, trivial⟩) (fun _ h => h) (fun i hinv => ?_)
  refine jc_seq (jc_seq (jc_region (jo_pure rfl (pr_move rfl) (jo_pure rfl (pr_move rfl) (jo_pure rfl (pr_len_imm rfl (.head _) Tryz.underlying53) ?_)))))
  refine jo_pure rfl (pr_lssN (m := i) (n := a.length) rfl rfl) ?_
  refine jo_nil (jq_then ?_)
  refine jc_cond rfl (fun h2b => ?_) (fun h2b => ?_)
  ·have h2 := of_decide_eq_true h2b
   refine jc_skip (jq_then (jc_seq (jc_block (jc_seq ?_))))
   refine j_open_elem (t := (.list .str)) (i := i) [] (.head _) (by omega) (fun e1 => ?_)
   show J _ _ (.imm (.list .str) (e1) ((a.getD i [])) :: .fact (fun w_ I_ => ElemAt w_ I_ (av) (i) 1 [e1]) :: _) _
   refine j_open_elem (t := (.list .str)) (i := i) [] (.tail _ (.tail _ (.tail _ (.head _)))) (by omega) (fun e2 => ?_)
   show J _ _ (.imm (.list .str) (e2) ((b.getD i [])) :: .fact (fun w_ I_ => ElemAt w_ I_ (bv) (i) 1 [e2]) :: _) _
   refine jc_draws mixed (by kernel_rfl) (jd_pure rfl (pr_move rfl) ?_)
   refine jd_pure rfl (pr_move rfl) ?_
   refine jd_pure rfl (pr_idx_imm (i := i) rfl (.tail _ (.tail _ (.tail _ (.tail _ (.head _))))) rfl Tryz.underlying53 ty_29 (by omega)) ?_
   refine jd_pure rfl (pr_load_at (e1) rfl (.tail _ (.tail _ (.tail _ (.head _)))) ty_29 (by decide) rfl) ?_
   refine jd_pure rfl (pr_move rfl) ?_
   refine jd_pure rfl (pr_move rfl) ?_
   refine jd_pure rfl (pr_idx_imm (i := i) rfl (.tail _ (.tail _ (.tail _ (.tail _ (.tail _ (.head _)))))) rfl Tryz.underlying53 ty_29 (by omega)) ?_
   refine jd_pure rfl (pr_load_at (e2) rfl (.tail _ (.head _)) ty_29 (by decide) rfl) ?_
   refine jd_callp cal_66 (c_ref10_SameStrings (a.getD i []) e1 (b.getD i []) e2 (by exact hm _ (getD_mem (dd := []) h2))) ⟨rfl, rfl, trivial⟩ rfl (⟨⟨rfl, .tail _ (.tail _ (.head _))⟩, ⟨⟨rfl, .head _⟩, trivial⟩⟩) ?_
   refine jd_pure rfl (pr_not rfl) ?_
   refine jd_nil ?_
   refine jq_then ?_
   refine jc_cond rfl (fun h3b => ?_) (fun h3b => ?_)
   ·have h3 := (fun q => id (bt_not q)) h3b
    refine jc_seq (jc_region (jo_pure rfl (pr_assign rfl) (jo_nil (jq_then (jc_ret ?_)))))
    refine jq_in_ret ?_
    refine jq_then_ret (jq_then_ret (jq_in_ret ?_))
    refine jq_then_ret (j_drop (j_drop (j_drop (j_drop (j_drop ?_)))))
    refine j_drop ?_
    exact jq_ret1 rfl () rfl (show (.bool (decide (a = b)) : Value) = (.bool (false)) from congrArg Value.bool (decide_eq_false (fun e => by rw [e] at h3b; simp at h3b))) (fun _ h => h)
   ·have h3 := (fun q => id (bf_not q)) h3b
    refine jc_skip (jq_in_normal (jq_then (jc_region (jo_pure rfl (pr_move rfl) (jo_pure rfl (pr_addN (m := i) (n := 1) rfl rfl (by omega)) ?_)))))
    refine jo_pure rfl (pr_assign rfl) (jo_nil (j_drop (j_drop (j_drop (j_drop ?_)))))
    refine j_pull1 (j_pull1 ?_)
    refine jq_round' (i + 1) (by (try dsimp only); exact (⟨by omega, take_eq_step (dd := []) h2 (by omega) hinv.2 (by simpa using h3b)⟩)) (by (try dsimp only); exact (by omega)) ⟨rfl, rfl, rfl, trivial⟩ (fun _ h => h)
  ·have h2 := of_decide_eq_false h2b
   refine jc_exit ?_
   refine jq_then_exit ?_
   refine jq_then_exit ?_
   refine jq_in_hit ?_
   refine jq_then (jc_seq (jc_region (jo_pure rfl (pr_assign rfl) (jo_nil (jq_then ?_)))))
   refine jc_ret (j_drop (j_drop ?_))
   exact jq_ret1 rfl () rfl (show (.bool (decide (a = b)) : Value) = (.bool (true)) from congrArg Value.bool (decide_eq_true (by have := hinv.2; rwa [List.take_of_length_le (by omega), List.take_of_length_le (by omega)] at this))) (fun _ h => h)

theorem c_list_Join (l : List (List UInt8)) (lv : Value) (hl : l.length ≤ 1000) (hm : ∀ x ∈ l, x.length ≤ 20000) : Con Tryz.prog 70 #[lv] [.imm (.list .str) (lv) (l)] (fun _ : Unit => str (joinS [44, 32] l)) (fun _ => []) := by
 refine con_of_J (args := [lv]) (n := 5) Tryz.func70 rfl (Nat.le_of_ble_eq_true rfl) rfl (fun w0 I0 m0 => ?_)
 show J _ [(0, lv)] [.imm (.list .str) (lv) (l)] _
 refine jc_seq (jc_region (jo_pure rfl (pr_assign rfl) (jo_nil (jq_then (jc_seq ?_)))))
 refine jc_region (jo_pure rfl (pr_move rfl) ?_)
 refine jo_callp cal_93 (c_strings_Join l lv [44, 32] (by first | omega | exact hm | decide) (by first | omega | exact hm | decide) (by first | omega | exact hm | decide) (by first | omega | exact hm | decide)) ⟨rfl, rfl, trivial⟩ rfl (⟨⟨rfl, .head _⟩, trivial⟩) (fun _ => ?_)
 refine jo_pure rfl (pr_assign rfl) (jo_nil (jq_then (jc_ret (j_drop ?_))))
 exact jq_ret1 rfl () rfl (show (str (joinS [44, 32] l) : Value) = (str (joinS [44, 32] l)) from rfl) (fun _ h => h)

theorem c_slices_Index_string_string (l : List (List UInt8)) (lv : Value) (v : List UInt8) (hl : l.length ≤ 9223372036854775807) : Con Tryz.prog 112 #[lv, str (v)] [.imm (.list .str) (lv) (l)] (fun _ : Unit => .int .i64 (idxP (fun x => decide (x = v)) l)) (fun _ => []) := by
 refine con_of_J (args := [lv, str (v)]) (n := 19) Tryz.func112 rfl (Nat.le_of_ble_eq_true rfl) rfl (fun w0 I0 m0 => ?_)
 show J _ [(0, lv), (1, str (v))] [.imm (.list .str) (lv) (l)] _
 refine jc_seq (jc_region (jo_pure rfl (pr_assign rfl) (jo_nil (jq_then (jc_seq ?_)))))
 refine jc_seq (jc_region (jo_pure rfl (pr_move rfl) (jo_pure rfl (pr_len_imm rfl (.head _) Tryz.underlying29) ?_)))
 refine jo_pure rfl (pr_move rfl) (jo_nil (jq_then (jc_block ?_)))
 refine jc_loop (fun (i : Nat) => [(0, lv), (1, str (v)), (7, .int .i64 ((l.length : Nat) : Int)), (8, .int .i64 ((i : Nat) : Int))]) (fun (i : Nat) => [.imm (.list .str) (lv) (l)]) (fun (i : Nat) => i ≤ l.length ∧ (l.take i).any (fun x => decide (x = v)) = false) (fun (i : Nat) => l.length - i) 0 (⟨Nat.zero_le _, rfl⟩) (⟨rfl, rfl, rfl, rfl, trivial⟩) (fun _ h => h) (fun i hinv => ?_)
 refine jc_seq (jc_region (jo_pure rfl (pr_lssN (m := i) (n := l.length) rfl rfl) ?_))
 refine jo_nil (jq_then (jc_seq ?_))
 refine jc_cond rfl (fun h1b => ?_) (fun h1b => ?_)
 ·have h1 := of_decide_eq_true h1b
  refine jc_skip (jq_then (jc_seq (jc_block (jc_seq (jc_region ?_)))))
  refine jo_pure rfl (pr_move rfl) (jo_pure rfl (pr_assign rfl) (jo_nil (jq_then (jc_seq (jc_region ?_)))))
  refine jo_pure rfl (pr_move rfl) (jo_pure rfl (pr_move rfl) (jo_pure rfl (pr_move rfl) (jo_pure rfl (pr_idx_imm (i := i) rfl (.head _) rfl Tryz.underlying29 ty_9 (by omega)) ?_)))
  refine jo_pure rfl (pr_load_elem_imm (i := i) (str (l.getD i [])) rfl (.head _) ty_9 rfl rfl (by omega) rfl) ?_
  refine jo_pure rfl (pr_seql rfl rfl) ?_
  refine jo_nil (jq_then ?_)
  refine jc_cond rfl (fun h2b => ?_) (fun h2b => ?_)
  ·have h2 := of_decide_eq_true h2b
   refine jc_seq (jc_region (jo_pure rfl (pr_move rfl) (jo_pure rfl (pr_assign rfl) (jo_nil (jq_then ?_)))))
   refine jc_ret (jq_in_ret ?_)
   refine jq_then_ret (jq_then_ret (jq_in_ret ?_))
   refine jq_then_ret (j_drop ?_)
   exact jq_ret1 rfl () rfl (show (.int .i64 (idxP (fun x => decide (x = v)) l) : Value) = (.int .i64 ((i : Nat) : Int)) from congrArg (Value.int .i64) (by rw [idxP_hit (dd := []) h1 hinv.2 (decide_eq_true h2.symm)])) (fun _ h => h)
  ·have h2 := of_decide_eq_false h2b
   refine jc_skip (jq_in_normal (jq_then (jc_region (jo_pure rfl (pr_addN (m := i) (n := 1) rfl rfl (by omega)) ?_))))
   refine jo_pure rfl (pr_move rfl) (jo_nil ?_)
   refine jq_round' (i + 1) (by (try dsimp only); exact (⟨by omega, any_step (dd := []) h1 hinv.2 (decide_eq_false (fun e => h2 e.symm))⟩)) (by (try dsimp only); exact (by omega)) ⟨rfl, rfl, rfl, rfl, trivial⟩ (fun _ h => h)
 ·have h1 := of_decide_eq_false h1b
  refine jc_exit ?_
  refine jq_then_exit ?_
  refine jq_then_exit ?_
  refine jq_in_hit ?_
  refine jq_then (jc_seq (jc_region (jo_pure rfl (pr_assign rfl) (jo_nil (jq_then ?_)))))
  refine jc_ret (j_drop ?_)
  exact jq_ret1 rfl () rfl (show (.int .i64 (idxP (fun x => decide (x = v)) l) : Value) = (.int .i64 (-1)) from congrArg (Value.int .i64) (by rw [idxP_none (any_end (by omega) hinv.2)])) (fun _ h => h)

theorem c_slices_Contains_string_string (l : List (List UInt8)) (lv : Value) (v : List UInt8) (hl : l.length ≤ 9223372036854775807) : Con Tryz.prog 72 #[lv, str (v)] [.imm (.list .str) (lv) (l)] (fun _ : Unit => .bool (l.any (fun x => decide (x = v)))) (fun _ => []) := by
 refine con_of_J (args := [lv, str (v)]) (n := 9) Tryz.func72 rfl (Nat.le_of_ble_eq_true rfl) rfl (fun w0 I0 m0 => ?_)
 show J _ [(0, lv), (1, str (v))] [.imm (.list .str) (lv) (l)] _
 refine jc_seq (jc_region (jo_pure rfl (pr_assign rfl) (jo_nil (jq_then (jc_seq ?_)))))
 refine jc_region (jo_pure rfl (pr_move rfl) (jo_pure rfl (pr_move rfl) ?_))
 refine jo_callp cal_112 (c_slices_Index_string_string l lv v (hl)) ⟨rfl, rfl, trivial⟩ rfl (⟨⟨rfl, .head _⟩, trivial⟩) (fun _ => ?_)
 refine jo_pure rfl (pr_geq (n := 0) rfl rfl) ?_
 refine jo_pure rfl (pr_assign rfl) (jo_nil (jq_then (jc_ret (j_drop ?_))))
 exact jq_ret1 rfl () rfl (show (.bool (l.any (fun x => decide (x = v))) : Value) = (.bool (decide ((0 : Int) ≤ idxP (fun x => decide (x = v)) l))) from congrArg Value.bool (idxP_ge _ _).symm) (fun _ h => h)

theorem c_selection_Ranked (ax : (List UInt8) × (List (List UInt8))) (axv : Value) (l : List ((List UInt8) × (List UInt8))) (lv : Value) (strict : Bool) (ha : ax.1.length ≤ 1000000) (hm : ∀ x ∈ ax.2, x.length ≤ 300000) (hl : ax.2.length ≤ 9223372036854775807) (hfl : l.length ≤ 1000000) (hfm : ∀ x ∈ l, x.1.length ≤ 20000 ∧ x.2.length ≤ 20000) : Con Tryz.prog 34 #[.agg #[str (ax.1), axv], lv, .bool (strict)] [.imm (.list .str) (axv) (ax.2), .imm (.list (.pair .str .str)) (lv) (l)] (fun r1 : Value => r1) (fun r1 => [.imm (.list .str) r1 (rankA ax l strict)]) := by
 refine con_of_J (args := [.agg #[str (ax.1), axv], lv, .bool (strict)]) (n := 57) Tryz.func34 rfl (Nat.le_of_ble_eq_true rfl) rfl (fun w0 I0 m0 => ?_)
 show J _ [(0, .agg #[str (ax.1), axv]), (1, lv), (2, .bool (strict))] [.imm (.list .str) (axv) (ax.2), .imm (.list (.pair .str .str)) (lv) (l)] _
 have hf3 : ∀ x ∈ l, x.1.length ≤ 300000 ∧ x.2.length ≤ 300000 := fun x hx => by have := hfm x hx; omega
 have hf6 : ∀ x ∈ l, x.1.length ≤ 1000000 ∧ x.2.length ≤ 1000000 := fun x hx => by have := hfm x hx; omega
 have hone : ∀ x ∈ [ax], x.1.length ≤ 1000000 ∧ (∀ z ∈ x.2, z.length ≤ 300000) ∧ x.2.length ≤ 9223372036854775807 := fun x hx => by obtain rfl := List.mem_singleton.1 hx; exact ⟨ha, hm, hl⟩
 have hpl := prefsF_length (kindF ax.1) l
 have hps : ∀ x ∈ (prefsF (kindF ax.1) l).1, x.1.length ≤ 1000000 := fun x hx => by have := prefsF_short (kind := (kindF ax.1)) (n := 20000) hfm x hx; omega
 have hal64 : (allF l ax.1).length ≤ 64 := allV_length _
 have halm : ∀ x ∈ allF l ax.1, x.length ≤ 20000 := allV_mem (getF_mem (n := 20000) hfm)
 have hm6 : ∀ x ∈ ax.2, x.length ≤ 1000000 := fun x hx => by have := hm x hx; omega
 refine jc_seq (jc_region ?_)
 refine jo_box rfl [str (ax.1), axv] rfl rfl (fun b1 => ?_)
 refine jo_pure rfl (pr_assign rfl) (jo_nil (jq_then (jc_seq (jc_seq (jc_region ?_)))))
 refine jo_pure rfl (pr_load_box (.agg #[str (ax.1), axv]) rfl ty_32 (.head _) rfl (by decide) rfl) ?_
 refine jo_buildSliceL (t := (.pair .str (.list .str))) [ax] [.agg #[str (ax.1), axv]] [[str (ax.1), axv]] (fun a hf => by simp only [List.zipIdx_cons, List.zipIdx_nil, List.map_toArray, List.map_cons, List.map_nil, hf.ev (show ev _ (.tmp 12) = some (.agg #[str (ax.1), axv]) from rfl)] <;> rfl) rfl ⟨⟨[str (ax.1)], [axv], rfl, rfl, ⟨axv, rfl, .tail _ (.head _)⟩⟩, trivial⟩ Tryz.underlying22 ty_32 rfl rfl rfl rfl (fun g1 => ?_)
 refine j_pub_rowg ?_
 refine jo_callp cal_48 (c_variants_Valid [ax] (.slice (some ⟨g1, 0, none⟩) ([ax]).length (([ax]).length)) (by first | omega | exact hf3 | exact hf6 | exact hone | exact hps | exact halm | exact hm6 | exact hm | (simp only [List.length_cons, List.length_nil]; omega)) (by first | omega | exact hf3 | exact hf6 | exact hone | exact hps | exact halm | exact hm6 | exact hm | (simp only [List.length_cons, List.length_nil]; omega))) ⟨rfl, trivial⟩ rfl (⟨⟨rfl, .head _⟩, trivial⟩) (fun _ => ?_)
 refine jo_pure rfl (pr_not rfl) ?_
 refine jo_nil (jq_then ?_)
 refine jc_cond rfl (fun h1b => ?_) (fun h1b => ?_)
 ·have h1 := (fun q => id (bt_not q)) h1b
  refine jc_seq (jc_region (jo_pure rfl (pr_assign rfl) (jo_nil (jq_then (jc_ret ?_)))))
  refine jq_then_ret (j_nil_imm .str ?_)
  refine j_pull1 (j_drop (j_pull1 (j_drop (j_pull1 (j_drop ?_)))))
  refine j_pull1 (j_drop ?_)
  exact jq_ret1 rfl (.slice none 0 0) rfl (show (.slice none 0 0 : Value) = (.slice none 0 0) from rfl) (fun _ h => by rw [ranked_no (valid_one.symm.trans h1)]; exact h)
 ·have h1 := (fun q => id (bf_not q)) h1b
  have hva : validA ax = true := by rw [← valid_one]; exact h1
  have hvl : 0 < ax.2.length ∧ ax.2.length ≤ 16 := by have h9 := hva; unfold validA validV at h9; simp only [Bool.and_eq_true, decide_eq_true_eq] at h9; exact h9.2.1
  refine jc_skip (jq_then (jc_seq (jc_region (jo_pure rfl (pr_assign rfl) (jo_nil ?_)))))
  refine jq_then (jc_seq (jc_seq (jc_region (jo_pure rfl (pr_fieldAddr 0 rfl Tryz.underlying32 rfl ty_9 rfl rfl) ?_))))
  refine jo_pure rfl (pr_load_box (str (ax.1)) rfl ty_9 (.tail _ (.head _)) rfl (by decide) rfl) ?_
  refine jo_callp cal_67 (c_accept_Kind ax.1 (by first | omega | exact hf3 | exact hf6 | exact hone | exact hps | exact halm | exact hm6 | exact hm | (simp only [List.length_cons, List.length_nil]; omega))) ⟨rfl, trivial⟩ rfl (trivial) (fun _ => ?_)
  refine jo_pure rfl (pr_assign rfl) (jo_nil (jq_then (jc_seq (jc_region (jo_pure rfl (pr_move rfl) ?_)))))
  refine jo_pure rfl (pr_neq (n := 0) rfl rfl) ?_
  refine jo_nil (jq_then ?_)
  refine jc_cond rfl (fun h2b => ?_) (fun h2b => ?_)
  ·have h2 := (fun q => of_decide_eq_false (bt_not q)) h2b
   refine jc_seq (jc_region (jo_pure rfl (pr_move rfl) (jo_pure rfl (pr_move rfl) ?_)))
   refine jo_callp cal_68 (c_accept_Prefs (kindF ax.1) l lv (by first | omega | exact hf3 | exact hf6 | exact hone | exact hps | exact halm | exact hm6 | exact hm | (simp only [List.length_cons, List.length_nil]; omega)) (by first | omega | exact hf3 | exact hf6 | exact hone | exact hps | exact halm | exact hm6 | exact hm | (simp only [List.length_cons, List.length_nil]; omega))) ⟨rfl, rfl, trivial⟩ rfl (⟨⟨rfl, .tail _ (.tail _ (.tail _ (.head _)))⟩, trivial⟩) (fun r1 => ?_)
   show J _ _ [.row (r1) 48 (.pair .str (.int .i64)) ((prefsF (kindF ax.1) l).1), .imm (.list (.pair .str (.list .str))) (.slice (some ⟨g1, 0, none⟩) ([ax]).length (([ax]).length)) ([ax]), .box b1 32 [str (ax.1), axv], .imm (.list .str) (axv) (ax.2), .imm (.list (.pair .str .str)) (lv) (l)] _
   refine jo_pure rfl (pr_move rfl) (jo_pure rfl (pr_extract rfl rfl) ?_)
   refine jo_pure rfl (pr_extract rfl rfl) ?_
   refine jo_pure rfl (pr_assign rfl) (jo_pure rfl (pr_assign rfl) (jo_nil (jq_then (jc_region (jo_pure rfl (pr_move rfl) ?_)))))
   refine jo_pure rfl (pr_move rfl) (jo_pure rfl (pr_move rfl) (jo_pure rfl (pr_fieldAddr 1 rfl Tryz.underlying32 rfl ty_29 rfl rfl) ?_))
   refine jo_pure rfl (pr_load_box (axv) rfl ty_29 (.tail _ (.tail _ (.head _))) rfl (by decide) rfl) ?_
   refine j_pub_row ?_
   refine jo_callp cal_69 (c_rank_Rank (kindF ax.1) ((prefsF (kindF ax.1) l).1) r1 ((prefsF (kindF ax.1) l).2) ax.2 axv (by first | omega | exact hf3 | exact hf6 | exact hone | exact hps | exact halm | exact hm6 | exact hm | (simp only [List.length_cons, List.length_nil]; omega)) (by first | omega | exact hf3 | exact hf6 | exact hone | exact hps | exact halm | exact hm6 | exact hm | (simp only [List.length_cons, List.length_nil]; omega)) (by first | omega | exact hf3 | exact hf6 | exact hone | exact hps | exact halm | exact hm6 | exact hm | (simp only [List.length_cons, List.length_nil]; omega)) (by first | omega | exact hf3 | exact hf6 | exact hone | exact hps | exact halm | exact hm6 | exact hm | (simp only [List.length_cons, List.length_nil]; omega))) ⟨rfl, rfl, rfl, rfl, trivial⟩ rfl (⟨⟨rfl, .head _⟩, ⟨⟨rfl, .tail _ (.tail _ (.tail _ (.head _)))⟩, trivial⟩⟩) (fun r2 => ?_)
   show J _ _ [.row (r2) 9 .str ((rankG (kindF ax.1) ((prefsF (kindF ax.1) l).1) ((prefsF (kindF ax.1) l).2) ax.2).1), .imm (.list (.pair .str (.int .i64))) (r1) ((prefsF (kindF ax.1) l).1), .imm (.list (.pair .str (.list .str))) (.slice (some ⟨g1, 0, none⟩) ([ax]).length (([ax]).length)) ([ax]), .box b1 32 [str (ax.1), axv], .imm (.list .str) (axv) (ax.2), .imm (.list (.pair .str .str)) (lv) (l)] _
   refine jo_pure rfl (pr_assign rfl) (jo_nil (jq_then (jc_seq (jc_seq (jc_region ?_)))))
   refine jo_pure rfl (pr_move rfl) (jo_pure rfl (pr_len_row rfl (.head _) Tryz.underlying29) ?_)
   refine jo_pure rfl (pr_eqlN (m := ((rankG (kindF ax.1) ((prefsF (kindF ax.1) l).1) ((prefsF (kindF ax.1) l).2) ax.2).1).length) (n := 0) rfl rfl) ?_
   refine jo_pure rfl (pr_move rfl) (jo_gpure (j := 3) (want := true) rfl rfl rfl rfl (fun hg => pr_move rfl) ?_)
   refine jo_gpure (j := 3) (want := true) rfl rfl rfl rfl (fun hg => pr_not (evg rfl hg)) ?_
   refine jo_pure rfl (pr_pick_and rfl rfl rfl) ?_
   refine jo_nil (jq_then ?_)
   refine jc_cond rfl (fun h3b => ?_) (fun h3b => ?_)
   ·have h3 := (fun q => And.imp of_decide_eq_true (fun q => id (bt_not q)) (bt_and q)) h3b
    refine jc_region (jo_pure rfl (pr_fieldAddr 1 rfl Tryz.underlying32 rfl ty_29 rfl rfl) ?_)
    refine jo_pure rfl (pr_load_box (axv) rfl ty_29 (.tail _ (.tail _ (.tail _ (.head _)))) rfl (by decide) rfl) ?_
    refine jo_pure rfl (pr_idx_imm (i := 0) rfl (.tail _ (.tail _ (.tail _ (.tail _ (.head _))))) rfl Tryz.underlying29 ty_9 (by first | omega | exact hvl.1)) ?_
    refine jo_pure rfl (pr_load_elem_imm (i := 0) (str (ax.2.getD 0 [])) rfl (.tail _ (.tail _ (.tail _ (.tail _ (.head _))))) ty_9 rfl rfl (by first | omega | exact hvl.1) rfl) ?_
    refine jo_buildSlice (t := .str) [ax.2.getD 0 []] [str (ax.2.getD 0 [])] (fun a hf => by simp only [List.zipIdx_cons, List.zipIdx_nil, List.map_toArray, List.map_cons, List.map_nil, hf.ev (show ev _ (.tmp 54) = some (str (ax.2.getD 0 [])) from rfl)] <;> rfl) rfl Tryz.underlying29 ty_9 rfl rfl rfl rfl rfl (fun g2 => ?_)
    refine jo_pure rfl (pr_assign rfl) (jo_nil (jq_then (jc_seq (jc_region (jo_pure rfl (pr_move rfl) ?_)))))
    refine jo_pure rfl (pr_assign rfl) (jo_nil (jq_then (jc_ret (j_row_of_rowg ?_))))
    refine j_pub_row (j_pull1 (j_drop (j_pull1 (j_drop (j_pull1 ?_)))))
    refine j_drop (j_pull1 (j_drop (j_pull1 (j_drop (j_pull1 ?_)))))
    refine j_drop ?_
    exact jq_ret1 rfl (.slice (some ⟨g2, 0, none⟩) ([ax.2.getD 0 []]).length (([ax.2.getD 0 []]).length)) rfl (show (.slice (some ⟨g2, 0, none⟩) ([ax.2.getD 0 []]).length (([ax.2.getD 0 []]).length) : Value) = (.slice (some ⟨g2, 0, none⟩) ([ax.2.getD 0 []]).length (([ax.2.getD 0 []]).length)) from rfl) (fun _ h => by rw [ranked_first hva (by rw [rankO_kind h2]; exact h3.1) (by simpa using h3.2)]; exact h)
   ·have h3 := (fun q => Or.imp of_decide_eq_false (fun q => id (bf_not q)) (bf_and q)) h3b
    refine jc_skip (jq_then (jc_seq (jc_region (jo_pure rfl (pr_move rfl) (jo_pure rfl (pr_assign rfl) ?_)))))
    refine jo_nil (jq_then (jc_ret (j_pub_row (j_pull1 (j_drop ?_)))))
    refine j_pull1 (j_drop (j_pull1 (j_drop (j_pull1 (j_drop ?_)))))
    refine j_pull1 (j_drop ?_)
    exact jq_ret1 rfl r2 rfl (show (r2 : Value) = (r2) from rfl) (fun _ h => by rw [ranked_out hva (by rw [rankO_kind h2]; simpa using h3), rankO_kind h2]; exact h)
  ·have h2 := (fun q => of_decide_eq_true (bf_not q)) h2b
   refine jc_seq (jc_region (jo_pure rfl (pr_move rfl) (jo_pure rfl (pr_fieldAddr 0 rfl Tryz.underlying32 rfl ty_9 rfl rfl) ?_)))
   refine jo_pure rfl (pr_load_box (str (ax.1)) rfl ty_9 (.tail _ (.head _)) rfl (by decide) rfl) ?_
   refine jo_callp cal_71 (c_list_All l lv ax.1 (by first | omega | exact hf3 | exact hf6 | exact hone | exact hps | exact halm | exact hm6 | exact hm | (simp only [List.length_cons, List.length_nil]; omega)) (by first | omega | exact hf3 | exact hf6 | exact hone | exact hps | exact halm | exact hm6 | exact hm | (simp only [List.length_cons, List.length_nil]; omega)) (by first | omega | exact hf3 | exact hf6 | exact hone | exact hps | exact halm | exact hm6 | exact hm | (simp only [List.length_cons, List.length_nil]; omega))) ⟨rfl, rfl, trivial⟩ rfl (⟨⟨rfl, .tail _ (.tail _ (.tail _ (.head _)))⟩, trivial⟩) (fun r3 => ?_)
   show J _ _ [.imm (.list .str) (r3) (allF l ax.1), .imm (.list (.pair .str (.list .str))) (.slice (some ⟨g1, 0, none⟩) ([ax]).length (([ax]).length)) ([ax]), .box b1 32 [str (ax.1), axv], .imm (.list .str) (axv) (ax.2), .imm (.list (.pair .str .str)) (lv) (l)] _
   refine jo_callp cal_70 (c_list_Join (allF l ax.1) r3 (by first | omega | exact hf3 | exact hf6 | exact hone | exact hps | exact halm | exact hm6 | exact hm | (simp only [List.length_cons, List.length_nil]; omega)) (by first | omega | exact hf3 | exact hf6 | exact hone | exact hps | exact halm | exact hm6 | exact hm | (simp only [List.length_cons, List.length_nil]; omega))) ⟨rfl, trivial⟩ rfl (⟨⟨rfl, .head _⟩, trivial⟩) (fun _ => ?_)
   refine jo_pure rfl (pr_assign rfl) (jo_nil (jq_then (jc_seq (jc_region (jo_pure rfl (pr_fieldAddr 1 rfl Tryz.underlying32 rfl ty_29 rfl rfl) ?_)))))
   refine jo_pure rfl (pr_load_box (axv) rfl ty_29 (.tail _ (.tail _ (.head _))) rfl (by decide) rfl) ?_
   refine jo_pure rfl (pr_move rfl) ?_
   refine jo_callp cal_72 (c_slices_Contains_string_string ax.2 axv (joinS [44, 32] (allF l ax.1)) (by first | omega | exact hf3 | exact hf6 | exact hone | exact hps | exact halm | exact hm6 | exact hm | (simp only [List.length_cons, List.length_nil]; omega))) ⟨rfl, rfl, trivial⟩ rfl (⟨⟨rfl, .tail _ (.tail _ (.tail _ (.head _)))⟩, trivial⟩) (fun _ => ?_)
   refine jo_nil (jq_then ?_)
   refine jc_cond rfl (fun h4b => ?_) (fun h4b => ?_)
   ·have h4 := id h4b
    refine jc_region (jo_pure rfl (pr_move rfl) ?_)
    refine jo_buildSlice (t := .str) [joinS [44, 32] (allF l ax.1)] [str (joinS [44, 32] (allF l ax.1))] (fun a hf => by simp only [List.zipIdx_cons, List.zipIdx_nil, List.map_toArray, List.map_cons, List.map_nil, hf.ev (show ev _ (.tmp 42) = some (str (joinS [44, 32] (allF l ax.1))) from rfl)] <;> rfl) rfl Tryz.underlying29 ty_9 rfl rfl rfl rfl rfl (fun g3 => ?_)
    refine jo_pure rfl (pr_assign rfl) (jo_nil (jq_then (jc_seq (jc_seq (jc_region ?_)))))
    refine jo_pure rfl (pr_move rfl) (jo_pure rfl (pr_len rfl Tryz.underlying29) ?_)
    refine jo_pure rfl (pr_eqlN (m := ([joinS [44, 32] (allF l ax.1)]).length) (n := 0) rfl rfl) ?_
    refine jo_pure rfl (pr_move rfl) (jo_gpure (j := 3) (want := true) rfl rfl rfl rfl (fun hg => pr_move rfl) ?_)
    refine jo_gpure (j := 3) (want := true) rfl rfl rfl rfl (fun hg => pr_not (evg rfl hg)) ?_
    refine jo_pure rfl (pr_pick_and rfl rfl rfl) ?_
    refine jo_nil (jq_then ?_)
    refine jc_cond rfl (fun h5b => ?_) (fun h5b => ?_)
    ·have h5 := (fun q => And.imp of_decide_eq_true (fun q => id (bt_not q)) (bt_and q)) h5b
     exact absurd h5.1 (by simp)
    ·have h5 := (fun q => Or.imp of_decide_eq_false (fun q => id (bf_not q)) (bf_and q)) h5b
     refine jc_skip (jq_then (jc_seq (jc_region (jo_pure rfl (pr_move rfl) (jo_pure rfl (pr_assign rfl) ?_)))))
     refine jo_nil (jq_then (jc_ret (j_row_of_rowg ?_)))
     refine j_pub_row (j_pull1 (j_drop (j_pull1 (j_drop (j_pull1 ?_)))))
     refine j_drop (j_pull1 (j_drop (j_pull1 (j_drop ?_))))
     exact jq_ret1 rfl (.slice (some ⟨g3, 0, none⟩) ([joinS [44, 32] (allF l ax.1)]).length (([joinS [44, 32] (allF l ax.1)]).length)) rfl (show (.slice (some ⟨g3, 0, none⟩) ([joinS [44, 32] (allF l ax.1)]).length (([joinS [44, 32] (allF l ax.1)]).length) : Value) = (.slice (some ⟨g3, 0, none⟩) ([joinS [44, 32] (allF l ax.1)]).length (([joinS [44, 32] (allF l ax.1)]).length)) from rfl) (fun _ h => by rw [ranked_out hva (.inl (by rw [rankO_have (by simpa using h2) h4]; simp)), rankO_have (by simpa using h2) h4]; exact h)
   ·have h4 := id h4b
    refine jc_skip (jq_then (jc_seq (jc_seq (jc_region (jo_pure rfl (pr_move rfl) ?_)))))
    refine jo_pure rfl (pr_len rfl Tryz.underlying29) ?_
    refine jo_pure rfl (pr_eqlN (m := 0) (n := 0) rfl rfl) ?_
    refine jo_pure rfl (pr_move rfl) (jo_gpure (j := 3) (want := true) rfl rfl rfl rfl (fun hg => pr_move rfl) ?_)
    refine jo_gpure (j := 3) (want := true) rfl rfl rfl rfl (fun hg => pr_not (evg rfl hg)) ?_
    refine jo_pure rfl (pr_pick_and rfl rfl rfl) ?_
    refine jo_nil (jq_then ?_)
    refine jc_cond rfl (fun h6b => ?_) (fun h6b => ?_)
    ·have h6 := (fun q => And.imp of_decide_eq_true (fun q => id (bt_not q)) (bt_and q)) h6b
     refine jc_region (jo_pure rfl (pr_fieldAddr 1 rfl Tryz.underlying32 rfl ty_29 rfl rfl) ?_)
     refine jo_pure rfl (pr_load_box (axv) rfl ty_29 (.tail _ (.tail _ (.head _))) rfl (by decide) rfl) ?_
     refine jo_pure rfl (pr_idx_imm (i := 0) rfl (.tail _ (.tail _ (.tail _ (.head _)))) rfl Tryz.underlying29 ty_9 (by first | omega | exact hvl.1)) ?_
     refine jo_pure rfl (pr_load_elem_imm (i := 0) (str (ax.2.getD 0 [])) rfl (.tail _ (.tail _ (.tail _ (.head _)))) ty_9 rfl rfl (by first | omega | exact hvl.1) rfl) ?_
     refine jo_buildSlice (t := .str) [ax.2.getD 0 []] [str (ax.2.getD 0 [])] (fun a hf => by simp only [List.zipIdx_cons, List.zipIdx_nil, List.map_toArray, List.map_cons, List.map_nil, hf.ev (show ev _ (.tmp 54) = some (str (ax.2.getD 0 [])) from rfl)] <;> rfl) rfl Tryz.underlying29 ty_9 rfl rfl rfl rfl rfl (fun g4 => ?_)
     refine jo_pure rfl (pr_assign rfl) (jo_nil (jq_then (jc_seq (jc_region (jo_pure rfl (pr_move rfl) ?_)))))
     refine jo_pure rfl (pr_assign rfl) (jo_nil (jq_then (jc_ret (j_row_of_rowg ?_))))
     refine j_pub_row (j_pull1 (j_drop (j_pull1 (j_drop (j_pull1 ?_)))))
     refine j_drop (j_pull1 (j_drop (j_pull1 (j_drop ?_))))
     exact jq_ret1 rfl (.slice (some ⟨g4, 0, none⟩) ([ax.2.getD 0 []]).length (([ax.2.getD 0 []]).length)) rfl (show (.slice (some ⟨g4, 0, none⟩) ([ax.2.getD 0 []]).length (([ax.2.getD 0 []]).length) : Value) = (.slice (some ⟨g4, 0, none⟩) ([ax.2.getD 0 []]).length (([ax.2.getD 0 []]).length)) from rfl) (fun _ h => by rw [ranked_first hva (by rw [rankO_none (by simpa using h2) h4]; rfl) (by simpa using h6)]; exact h)
    ·have h6 := (fun q => Or.imp of_decide_eq_false (fun q => id (bf_not q)) (bf_and q)) h6b
     refine jc_skip (jq_then (jc_seq (jc_region (jo_pure rfl (pr_move rfl) (jo_pure rfl (pr_assign rfl) ?_)))))
     refine jo_nil (jq_then (jc_ret (j_nil_imm .str ?_)))
     refine j_pull1 (j_drop (j_pull1 (j_drop (j_pull1 (j_drop ?_)))))
     refine j_pull1 (j_drop (j_pull1 (j_drop ?_)))
     exact jq_ret1 rfl (.slice none 0 0) rfl (show (.slice none 0 0 : Value) = (.slice none 0 0) from rfl) (fun _ h => by rw [ranked_out hva (.inr (by simpa using h6)), rankO_none (by simpa using h2) h4]; exact h)

theorem c_selection_keys (axes : List ((List UInt8) × (List (List UInt8)))) (axesv : Value) (l : List ((List UInt8) × (List UInt8))) (lv : Value) (strict : Bool) (most : Nat) (hal : axes.length ≤ 1000) (ham : ∀ a ∈ axes, a.1.length ≤ 1000000 ∧ (∀ x ∈ a.2, x.length ≤ 300000) ∧ a.2.length ≤ 9223372036854775807) (hfl : l.length ≤ 1000000) (hfm : ∀ x ∈ l, x.1.length ≤ 20000 ∧ x.2.length ≤ 20000) (hmo : most ≤ 64) : Con Tryz.prog 76 #[axesv, lv, .bool (strict), .int .i64 ((most : Nat) : Int)] [.imm (.list (.pair .str (.list .str))) (axesv) (axes), .imm (.list (.pair .str .str)) (lv) (l)] (fun r1 : Value => r1) (fun r1 => [.imm (.list (.list .str)) r1 (keysF axes l strict most)]) := by
 refine con_of_J (args := [axesv, lv, .bool (strict), .int .i64 ((most : Nat) : Int)]) (n := 109) Tryz.func76 rfl (Nat.le_of_ble_eq_true rfl) rfl (fun w0 I0 m0 => ?_)
 show J _ [(0, axesv), (1, lv), (2, .bool (strict)), (3, .int .i64 ((most : Nat) : Int))] [.imm (.list (.pair .str (.list .str))) (axesv) (axes), .imm (.list (.pair .str .str)) (lv) (l)] _
 have hf3 : ∀ x ∈ l, x.1.length ≤ 300000 ∧ x.2.length ≤ 300000 := fun x hx => by have := hfm x hx; omega
 have hf6 : ∀ x ∈ l, x.1.length ≤ 1000000 ∧ x.2.length ≤ 1000000 := fun x hx => by have := hfm x hx; omega
 refine jc_seq (jc_region (jo_pure rfl (pr_assign rfl) (jo_nil (jq_then (jc_seq ?_)))))
 refine jc_seq (jc_region (jo_pure rfl (pr_move rfl) ?_))
 refine jo_callp cal_48 (c_variants_Valid axes axesv (by first | omega | exact ham | exact hfm | exact hf3 | exact hA.1 | exact hA.2.1 | exact hA.2.2) (by first | omega | exact ham | exact hfm | exact hf3 | exact hA.1 | exact hA.2.1 | exact hA.2.2)) ⟨rfl, trivial⟩ rfl (⟨⟨rfl, .head _⟩, trivial⟩) (fun _ => ?_)
 refine jo_pure rfl (pr_not rfl) ?_
 refine jo_nil (jq_then ?_)
 refine jc_cond rfl (fun h1b => ?_) (fun h1b => ?_)
 ·have h1 := (fun q => id (bt_not q)) h1b
  refine jc_seq (jc_region (jo_pure rfl (pr_assign rfl) (jo_nil (jq_then (jc_ret ?_)))))
  refine jq_then_ret (j_nil_imm (.list .str) ?_)
  refine j_pull1 (j_drop (j_pull1 (j_drop ?_)))
  exact jq_ret1 rfl (.slice none 0 0) rfl (show (.slice none 0 0 : Value) = (.slice none 0 0) from rfl) (fun _ h => by rw [keys_range h1]; exact h)
 ·have h1 := (fun q => id (bf_not q)) h1b
  have hv4 := validL_len h1
  have hva := valid_all h1
  refine jc_skip (jq_then (jc_seq (jc_region (jo_pure rfl (pr_move rfl) (jo_pure rfl (pr_len_imm rfl (.head _) Tryz.underlying22) ?_)))))
  refine jo_makeSliceL (n := axes.length) (t := .str) rfl Tryz.underlying53 ty_29 (by simp only [maxLen]; omega) (by omega) rfl (fun g1 => ?_)
  refine jo_pure rfl (pr_assign rfl) (jo_nil (jq_then (jc_seq (jc_seq (jc_region ?_)))))
  refine jo_pure rfl (pr_move rfl) (jo_pure rfl (pr_len_imm rfl (.tail _ (.head _)) Tryz.underlying22) ?_)
  refine jo_pure rfl (pr_move rfl) (jo_nil (jq_then (jc_block ?_)))
  refine jc_loop2 (fun (i : Nat) (xs : List (List (List UInt8))) => [(0, axesv), (1, lv), (2, .bool (strict)), (3, .int .i64 ((most : Nat) : Int)), (9, .slice (some ⟨g1, 0, none⟩) (axes.length) (axes.length)), (24, axesv), (25, .int .i64 ((axes.length : Nat) : Int)), (26, .int .i64 ((i : Nat) : Int))]) (fun (i : Nat) (xs : List (List (List UInt8))) => [.rowg g1 (axes.length) 29 (.list .str) (xs), .imm (.list (.pair .str (.list .str))) (axesv) (axes), .imm (.list (.pair .str .str)) (lv) (l)]) (fun (i : Nat) (xs : List (List (List UInt8))) => i ≤ axes.length ∧ xs.length = axes.length ∧ xs.take i = rankL (axes.take i) l strict ∧ ∀ r ∈ xs.take i, r ≠ []) (fun (i : Nat) (xs : List (List (List UInt8))) => axes.length - i) 0 (List.replicate axes.length []) (⟨Nat.zero_le _, by rw [List.length_replicate], rfl, by simp⟩) (⟨rfl, rfl, rfl, rfl, rfl, rfl, rfl, rfl, trivial⟩) (fun _ h => h) (fun i xs hinv => ?_)
  refine jc_seq (jc_region (jo_pure rfl (pr_lssN (m := i) (n := axes.length) rfl rfl) ?_))
  refine jo_nil (jq_then (jc_seq ?_))
  refine jc_cond rfl (fun h2b => ?_) (fun h2b => ?_)
  ·have h2 := of_decide_eq_true h2b
   have hA := ham _ (getD_mem (dd := ([], [])) h2)
   refine jc_skip (jq_then (jc_seq (jc_block (jc_seq (jc_region ?_)))))
   refine jo_pure rfl (pr_move rfl) ?_
   refine j_open_elem (t := (.pair .str (.list .str))) (i := i) ([], []) (.tail _ (.head _)) (by first | omega | (rw [List.length_set]; omega) | (have := hin2.2.2.2 i2 (by omega); omega)) (fun ⟨_, e1⟩ => ?_)
   show J _ _ (.imm (.list .str) (e1) (((axes.getD i ([], []))).2) :: .fact (fun w_ I_ => ElemAt w_ I_ (axesv) (i) 2 [str (((axes.getD i ([], []))).1), e1]) :: _) _
   refine jo_pure rfl (pr_idx_imm (i := i) rfl (.tail _ (.tail _ (.tail _ (.head _)))) rfl Tryz.underlying22 ty_32 (by first | omega | (rw [List.length_set]; omega) | (have := hin2.2.2.2 i2 (by omega); omega))) ?_
   refine jo_pure rfl (pr_load_at (.agg #[str (((axes.getD i ([], []))).1), e1]) rfl (.tail _ (.head _)) ty_32 (by decide) rfl) ?_
   refine jo_alloc ty_32 [str ([]), .slice none 0 0] rfl rfl (fun b1 => ?_)
   refine jo_pure rfl (pr_assign rfl) (jo_storeV rfl rfl ty_32 [str (((axes.getD i ([], []))).1), e1] (fun _ _ _ _ => rfl) rfl (fun w I m hs => by simp only [List.all_cons, List.all_nil, Bool.and_true, Bool.and_eq_true]; exact ⟨rfl, (SliceV.one (imm_slice (.tail _ (.head _)) hs))⟩) [str (((axes.getD i ([], []))).1), e1] rfl rfl ?_)
   refine jo_nil (jq_then (jc_seq (jc_region (jo_pure rfl (pr_move rfl) (jo_pure rfl (pr_move rfl) ?_)))))
   refine jo_pure rfl (pr_load_box (.agg #[str (((axes.getD i ([], []))).1), e1]) rfl ty_32 (.head _) rfl (by decide) rfl) ?_
   refine jo_pure rfl (pr_move rfl) (jo_pure rfl (pr_move rfl) ?_)
   have con1 := c_selection_Ranked ((axes.getD i ([], []))) e1 l lv strict (by first | omega | exact ham | exact hfm | exact hf3 | exact hA.1 | exact hA.2.1 | exact hA.2.2) (by first | omega | exact ham | exact hfm | exact hf3 | exact hA.1 | exact hA.2.1 | exact hA.2.2) (by first | omega | exact ham | exact hfm | exact hf3 | exact hA.1 | exact hA.2.1 | exact hA.2.2) (by first | omega | exact ham | exact hfm | exact hf3 | exact hA.1 | exact hA.2.1 | exact hA.2.2) (by first | omega | exact ham | exact hfm | exact hf3 | exact hA.1 | exact hA.2.1 | exact hA.2.2)
   refine jo_callp cal_34 con1 (by exact ⟨rfl, rfl, rfl, trivial⟩) rfl (by exact ⟨⟨rfl, .tail _ (.head _)⟩, ⟨⟨rfl, .tail _ (.tail _ (.tail _ (.tail _ (.tail _ (.head _)))))⟩, trivial⟩⟩) (fun r1 => ?_)
   clear con1
   show J _ _ [.imm (.list .str) (r1) (rankA ((axes.getD i ([], []))) l strict), .box b1 32 [str (((axes.getD i ([], []))).1), e1], .imm (.list .str) (e1) (((axes.getD i ([], []))).2), .fact (fun w_ I_ => ElemAt w_ I_ (axesv) (i) 2 [str (((axes.getD i ([], []))).1), e1]), .rowg g1 (axes.length) 29 (.list .str) (xs), .imm (.list (.pair .str (.list .str))) (axesv) (axes), .imm (.list (.pair .str .str)) (lv) (l)] _
   refine jo_pure rfl (pr_idx (i := i) (i) rfl rfl Tryz.underlying53 ty_29 (by first | omega | (rw [List.length_set]; omega) | (have := hin2.2.2.2 i2 (by omega); omega)) (by first | rfl | (simp only [Nat.zero_add, Nat.mul_one]))) ?_
   refine j_dup rfl ?_
   refine j_pull5 ?_
   refine jo_store_gL (t := .str) (i := i) (rankA ((axes.getD i ([], []))) l strict) rfl rfl ty_29 (by omega) (by first | rfl | exact Nat.mul_one _) ?_
   refine jo_nil (jq_then (jc_seq (jc_region (jo_pure rfl (pr_move rfl) (jo_pure rfl (pr_move rfl) ?_)))))
   refine jo_pure rfl (pr_idx (i := i) (i) rfl rfl Tryz.underlying53 ty_29 (by first | omega | (rw [List.length_set]; omega) | (have := hin2.2.2.2 i2 (by omega); omega)) (by first | rfl | (simp only [Nat.zero_add, Nat.mul_one]))) ?_
   refine jo_loadL (i := i) rfl ty_29 (.head _) (by first | omega | (rw [List.length_set]; omega) | (have := hin2.2.2.2 i2 (by omega); omega)) (by first | rfl | exact Nat.mul_one _) rfl (fun r2 => ?_)
   refine jo_pure rfl (pr_len_imm rfl (.head _) Tryz.underlying29) ?_
   refine jo_pure rfl (pr_eqlN (m := ((xs.set i (rankA ((axes.getD i ([], []))) l strict)).getD i []).length) (n := 0) rfl rfl) ?_
   refine jo_nil (jq_then ?_)
   refine jc_cond rfl (fun h3b => ?_) (fun h3b => ?_)
   ·have h3 := of_decide_eq_true h3b
    refine jc_seq (jc_region (jo_pure rfl (pr_assign rfl) (jo_nil (jq_then (jc_ret ?_)))))
    refine jq_in_ret ?_
    refine jq_then_ret (jq_then_ret (jq_in_ret ?_))
    refine jq_then_ret (j_nil_imm (.list .str) ?_)
    refine j_pull1 (j_drop (j_pull1 (j_drop (j_pull1 (j_drop ?_)))))
    refine j_pull1 (j_drop (j_pull1 (j_drop (j_pull1 (j_drop ?_)))))
    refine j_pull1 (j_drop (j_pull1 (j_drop ?_)))
    exact jq_ret1 rfl (.slice none 0 0) rfl (show (.slice none 0 0 : Value) = (.slice none 0 0) from rfl) (fun _ h => by rw [keys_none h1 h2 (by have h9 := h3; rw [set_getD (by omega)] at h9; exact h9)]; exact h)
   ·have h3 := of_decide_eq_false h3b
    refine jc_skip (jq_in_normal (jq_then (jc_region (jo_pure rfl (pr_addN (m := i) (n := 1) rfl rfl (by omega)) ?_))))
    refine jo_pure rfl (pr_move rfl) (jo_nil (j_drop (j_pull1 (j_drop (j_pull1 ?_)))))
    refine j_drop (j_pull1 (j_drop (j_pull1 (j_drop (j_pull2 ?_)))))
    refine j_pull2 (j_pull2 ?_)
    refine jq_round' ((i + 1), (xs.set i (rankA ((axes.getD i ([], []))) l strict))) (by (try dsimp only); exact (⟨by omega, by rw [List.length_set]; exact hinv.2.1, by rw [take_set (by omega), hinv.2.2.1, rankL_step h2], by rw [take_set (by omega)]; exact fun r hr => (List.mem_append.1 hr).elim (hinv.2.2.2 r) (fun h => by obtain rfl := List.mem_singleton.1 h; have h9 := h3; rw [set_getD (by omega)] at h9; exact fun e => h9 (by rw [e]; rfl))⟩)) (by (try dsimp only); exact (by omega)) ⟨rfl, rfl, rfl, rfl, rfl, rfl, rfl, rfl, trivial⟩ (fun _ h => h)
  ·have h2 := of_decide_eq_false h2b
   have hR : xs = rankL axes l strict := by have h9 := hinv.2.2.1; rw [show i = axes.length by omega, List.take_of_length_le (by omega), List.take_length] at h9; exact h9
   have hne : ∀ r ∈ xs, r ≠ [] := by have h9 := hinv.2.2.2; rw [List.take_of_length_le (by omega)] at h9; exact h9
   have hxl := hinv.2.1
   have hxm : ∀ r ∈ xs, r.length ≤ 16 := fun r hr => by rw [hR] at hr; obtain ⟨a, _, rfl⟩ := List.mem_map.1 hr; exact rankA_length
   refine jc_exit ?_
   refine jq_then_exit ?_
   refine jq_then_exit ?_
   refine jq_in_hit ?_
   refine jq_then (jc_seq (j_hide (n := axes.length) (by omega) ?_))
   refine j_pub_row (jc_region (jo_pure rfl (pr_assign rfl) (jo_nil (jq_then (jc_seq ?_)))))
   refine jc_region (jo_pure rfl (pr_move rfl) (jo_pure rfl (pr_len_imm rfl (.tail _ (.head _)) Tryz.underlying22) ?_))
   refine jo_makeSlice (n := axes.length) (t := (.int .i64)) 0 rfl Tryz.underlying108 ty_3 rfl rfl (by simp only [maxLen]; omega) (by omega) rfl (fun g2 => ?_)
   refine jo_pure rfl (pr_assign rfl) (jo_nil (jq_then (jc_seq (jc_block (j_nil_row 29 (.list .str) ?_)))))
   refine jc_loop3 (fun (ow : Value) (out : List (List (List UInt8))) (ds : List Int) => [(0, axesv), (3, .int .i64 ((most : Nat) : Int)), (9, .slice (some ⟨g1, 0, none⟩) (axes.length) (axes.length)), (12, ow), (13, .slice (some ⟨g2, 0, none⟩) (axes.length) (axes.length))]) (fun (ow : Value) (out : List (List (List UInt8))) (ds : List Int) => [.row (ow) 29 (.list .str) (out), .rowg g2 (axes.length) 3 (.int .i64) (ds), .imm (.list (.list .str)) (.slice (some ⟨g1, 0, none⟩) (axes.length) (axes.length)) (xs), .imm (.list (.pair .str (.list .str))) (axesv) (axes), .imm (.list (.pair .str .str)) (lv) (l)]) (fun (ow : Value) (out : List (List (List UInt8))) (ds : List Int) => out.length ≤ most ∧ out ++ restK xs ds = prodL xs ∧ Dig xs ds) (fun (ow : Value) (out : List (List (List UInt8))) (ds : List Int) => most - out.length) (.slice none 0 0) [] (List.replicate axes.length 0) (⟨Nat.zero_le _, (rest_start hxl hne).1, (rest_start hxl hne).2⟩) (⟨rfl, rfl, rfl, rfl, rfl, trivial⟩) (fun _ h => h) (fun ow out ds hin2 => ?_)
   have hdl := hin2.2.2.1
   refine jc_seq (jc_seq (jc_region (jo_pure rfl (pr_move rfl) (jo_pure rfl (pr_len_row rfl (.head _) Tryz.underlying53) ?_))))
   refine jo_pure rfl (pr_move rfl) (jo_pure rfl (pr_lssN (m := out.length) (n := most) rfl rfl) ?_)
   refine jo_nil (jq_then ?_)
   refine jc_cond rfl (fun h4b => ?_) (fun h4b => ?_)
   ·have h4 := of_decide_eq_true h4b
    refine jc_skip (jq_then (jc_block (jc_seq (jc_region (jo_pure rfl (pr_move rfl) ?_)))))
    refine jo_pure rfl (pr_len_imm rfl (.tail _ (.tail _ (.tail _ (.head _)))) Tryz.underlying22) ?_
    refine jo_makeSlice (n := axes.length) (t := .str) [] rfl Tryz.underlying29 ty_9 rfl rfl (by simp only [maxLen]; omega) (by omega) rfl (fun g3 => ?_)
    refine jo_pure rfl (pr_assign rfl) (jo_nil (jq_then (jc_seq (jc_seq (jc_region ?_)))))
    refine jo_pure rfl (pr_move rfl) (jo_pure rfl (pr_len rfl Tryz.underlying108) ?_)
    refine jo_pure rfl (pr_move rfl) (jo_nil (jq_then (jc_block ?_)))
    refine jc_loop2 (fun (i2 : Nat) (ks : List (List UInt8)) => [(0, axesv), (3, .int .i64 ((most : Nat) : Int)), (9, .slice (some ⟨g1, 0, none⟩) (axes.length) (axes.length)), (12, ow), (13, .slice (some ⟨g2, 0, none⟩) (axes.length) (axes.length)), (14, .slice (some ⟨g3, 0, none⟩) (axes.length) (axes.length)), (55, .slice (some ⟨g2, 0, none⟩) (axes.length) (axes.length)), (56, .int .i64 ((axes.length : Nat) : Int)), (57, .int .i64 ((i2 : Nat) : Int))]) (fun (i2 : Nat) (ks : List (List UInt8)) => [.rowg g3 (axes.length) 9 .str (ks), .row (ow) 29 (.list .str) (out), .rowg g2 (axes.length) 3 (.int .i64) (ds), .imm (.list (.list .str)) (.slice (some ⟨g1, 0, none⟩) (axes.length) (axes.length)) (xs), .imm (.list (.pair .str (.list .str))) (axesv) (axes), .imm (.list (.pair .str .str)) (lv) (l)]) (fun (i2 : Nat) (ks : List (List UInt8)) => i2 ≤ xs.length ∧ ks.length = xs.length ∧ ks.take i2 = (keyD xs ds).take i2) (fun (i2 : Nat) (ks : List (List UInt8)) => xs.length - i2) 0 (List.replicate axes.length []) (⟨Nat.zero_le _, by rw [List.length_replicate]; omega, rfl⟩) (⟨rfl, rfl, rfl, rfl, rfl, rfl, rfl, rfl, rfl, trivial⟩) (fun _ h => h) (fun i2 ks hin3 => ?_)
    refine jc_seq (jc_region (jo_pure rfl (pr_lssN (m := i2) (n := axes.length) rfl rfl) ?_))
    refine jo_nil (jq_then (jc_seq ?_))
    refine jc_cond rfl (fun h5b => ?_) (fun h5b => ?_)
    ·have h5 := of_decide_eq_true h5b
     refine jc_skip (jq_then (jc_seq (jc_block (jc_seq (jc_region ?_)))))
     refine jo_pure rfl (pr_move rfl) (jo_pure rfl (pr_idx (i := i2) (i2) rfl rfl Tryz.underlying108 ty_3 (by first | omega | (rw [List.length_set]; omega) | (have := hin2.2.2.2 i2 (by omega); omega)) (by first | rfl | (simp only [Nat.zero_add, Nat.mul_one]))) ?_)
     refine jo_pure rfl (pr_load_rowD (.int .i64 (ds.getD i2 0)) false rfl ty_3 rfl rfl (.tail _ (.tail _ (.head _))) (by first | omega | (rw [List.length_set]; omega) | (have := hin2.2.2.2 i2 (by omega); omega)) (by first | rfl | exact Nat.mul_one _) rfl) ?_
     refine jo_pure rfl (pr_assign rfl) (jo_pure rfl (pr_assign rfl) (jo_nil (jq_then ?_)))
     by_cases ht : True
     ·skip
      rw [show (ds.getD i2 0 : Int) = (((ds.getD i2 0).toNat : Nat) : Int) from (Int.toNat_of_nonneg (by have := hin2.2.2.2 i2 (by omega); omega)).symm]
      refine jc_region (jo_pure rfl (pr_move rfl) (jo_pure rfl (pr_move rfl) (jo_pure rfl (pr_move rfl) (jo_pure rfl (pr_move rfl) ?_))))
      refine j_open_elem (t := (.list .str)) (i := i2) [] (.tail _ (.tail _ (.tail _ (.head _)))) (by first | omega | (rw [List.length_set]; omega) | (have := hin2.2.2.2 i2 (by omega); omega)) (fun e2 => ?_)
      show J _ _ (.imm (.list .str) (e2) ((xs.getD i2 [])) :: .fact (fun w_ I_ => ElemAt w_ I_ (.slice (some ⟨g1, 0, none⟩) (axes.length) (axes.length)) (i2) 1 [e2]) :: _) _
      refine jo_pure rfl (pr_idx_imm (i := i2) rfl (.tail _ (.tail _ (.tail _ (.tail _ (.tail _ (.head _)))))) rfl Tryz.underlying53 ty_29 (by first | omega | (rw [List.length_set]; omega) | (have := hin2.2.2.2 i2 (by omega); omega))) ?_
      refine jo_pure rfl (pr_load_at (e2) rfl (.tail _ (.head _)) ty_29 (by decide) rfl) ?_
      refine jo_pure rfl (pr_move rfl) (jo_pure rfl (pr_idx_imm (i := (ds.getD i2 0).toNat) rfl (.head _) rfl Tryz.underlying29 ty_9 (by first | omega | (rw [List.length_set]; omega) | (have := hin2.2.2.2 i2 (by omega); omega))) ?_)
      refine jo_pure rfl (pr_load_elem_imm (i := (ds.getD i2 0).toNat) (str ((xs.getD i2 []).getD ((ds.getD i2 0).toNat) [])) rfl (.head _) ty_9 rfl rfl (by first | omega | (rw [List.length_set]; omega) | (have := hin2.2.2.2 i2 (by omega); omega)) rfl) ?_
      refine jo_pure rfl (pr_idx (i := i2) (i2) rfl rfl Tryz.underlying29 ty_9 (by first | omega | (rw [List.length_set]; omega) | (have := hin2.2.2.2 i2 (by omega); omega)) (by first | rfl | (simp only [Nat.zero_add, Nat.mul_one]))) ?_
      refine j_pull2 (jo_store_g (i := i2) ((xs.getD i2 []).getD ((ds.getD i2 0).toNat) []) rfl rfl ty_9 rfl (by omega) (by first | rfl | exact Nat.mul_one _) rfl ?_)
      refine jo_nil (jq_in_normal (jq_then (jc_region (jo_pure rfl (pr_addN (m := i2) (n := 1) rfl rfl (by omega)) ?_))))
      refine jo_pure rfl (pr_move rfl) (jo_nil (j_pull1 (j_drop (j_pull1 (j_drop ?_)))))
      refine j_pull5 ?_
      refine j_pull5 ?_
      refine j_pull5 ?_
      refine j_pull5 ?_
      refine j_pull5 ?_
      refine j_pull5 ?_
      refine jq_round' ((i2 + 1), (ks.set i2 ((xs.getD i2 []).getD ((ds.getD i2 0).toNat) []))) (by (try dsimp only); exact (⟨by omega, by rw [List.length_set]; omega, by rw [take_set (by omega), hin3.2.2, keyD_take xs ds i2 (by omega) (by omega)]⟩)) (by (try dsimp only); exact (by omega)) ⟨rfl, rfl, rfl, rfl, rfl, rfl, rfl, rfl, rfl, trivial⟩ (fun _ h => h)
     ·skip
      exact absurd trivial ht
    ·have h5 := of_decide_eq_false h5b
     have hks : ks = keyD xs ds := key_all hin2.2.2 hin3.2.1 (by omega) hin3.2.2
     refine jc_exit ?_
     refine jq_then_exit ?_
     refine jq_then_exit ?_
     refine jq_in_hit ?_
     refine jq_then (jc_seq (j_hide (n := axes.length) (by omega) ?_))
     refine j_pub_row (jc_region (jo_pure rfl (pr_move rfl) (jo_pure rfl (pr_move rfl) ?_)))
     refine jo_buildSliceL (t := (.list .str)) [ks] [.slice (some ⟨g3, 0, none⟩) (axes.length) (axes.length)] [[.slice (some ⟨g3, 0, none⟩) (axes.length) (axes.length)]] (fun a hf => by simp only [List.zipIdx_cons, List.zipIdx_nil, List.map_toArray, List.map_cons, List.map_nil, hf.ev (show ev _ (.tmp 74) = some (.slice (some ⟨g3, 0, none⟩) (axes.length) (axes.length)) from rfl)] <;> rfl) rfl ⟨⟨(.slice (some ⟨g3, 0, none⟩) (axes.length) (axes.length)), rfl, .head _⟩, trivial⟩ Tryz.underlying53 ty_29 rfl rfl rfl rfl (fun g4 => ?_)
     refine j_pull2 ?_
     refine jo_append rfl rfl Tryz.underlying53 ty_29 rfl (by simp only [List.length_append, List.length_cons, List.length_nil, maxLen]; omega) (by simp only [List.length_append, List.length_cons, List.length_nil]; omega) rfl (fun v1 => ?_)
     refine jo_pure rfl (pr_assign rfl) (jo_nil (jq_then (jc_seq (jc_region (jo_pure rfl (pr_move rfl) ?_)))))
     refine jo_pure rfl (pr_len rfl Tryz.underlying108) ?_
     refine jo_pure rfl (pr_subN (m := axes.length) (n := 1) rfl rfl (by omega) (by omega)) ?_
     refine jo_pure rfl (pr_assign rfl) (jo_nil (jq_then (jc_seq (jc_block ?_))))
     refine jc_loop3 (fun (izz : Int) (ds2 : List Int) (j : Nat) => [(0, axesv), (3, .int .i64 ((most : Nat) : Int)), (9, .slice (some ⟨g1, 0, none⟩) (axes.length) (axes.length)), (12, v1), (13, .slice (some ⟨g2, 0, none⟩) (axes.length) (axes.length)), (17, .int .i64 (izz))]) (fun (izz : Int) (ds2 : List Int) (j : Nat) => [.row (v1) 29 (.list .str) (out ++ [ks]), .imm (.list .str) (.slice (some ⟨g3, 0, none⟩) (axes.length) (axes.length)) (ks), .rowg g2 (axes.length) 3 (.int .i64) (ds2), .imm (.list (.list .str)) (.slice (some ⟨g1, 0, none⟩) (axes.length) (axes.length)) (xs), .imm (.list (.pair .str (.list .str))) (axesv) (axes), .imm (.list (.pair .str .str)) (lv) (l)]) (fun (izz : Int) (ds2 : List Int) (j : Nat) => izz + 1 = ((j : Nat) : Int) ∧ Carry xs ds j ds2) (fun (izz : Int) (ds2 : List Int) (j : Nat) => j) ((axes.length - 1 : Nat) : Int) ds xs.length (⟨by omega, carry_start hin2.2.2⟩) (⟨rfl, rfl, rfl, rfl, rfl, rfl, trivial⟩) (fun _ h => h) (fun izz ds2 j hinC => ?_)
     refine jc_seq (jc_seq ?_)
     by_cases hz : 0 < j
     ·skip
      have hcl := hinC.2.length hin2.2.2
      have hj1 : j ≤ xs.length := hinC.2.1
      have hat := hinC.2.at hin2.2.2 (show j - 1 < j by omega)
      have hdg := hin2.2.2.2 (j - 1) (by omega)
      have hxm1 : (xs.getD (j - 1) []).length ≤ 16 := hxm _ (getD_mem (by omega))
      rw [show (izz : Int) = (((j - 1) : Nat) : Int) from by have := hinC.1; omega]
      refine j_open_elem (t := (.list .str)) (i := (j - 1)) [] (.tail _ (.tail _ (.tail _ (.head _)))) (by first | omega | (rw [List.length_set]; omega) | (have := hin2.2.2.2 i2 (by omega); omega)) (fun e3 => ?_)
      show J _ _ (.imm (.list .str) (e3) ((xs.getD (j - 1) [])) :: .fact (fun w_ I_ => ElemAt w_ I_ (.slice (some ⟨g1, 0, none⟩) (axes.length) (axes.length)) ((j - 1)) 1 [e3]) :: _) _
      refine jc_draws mixed (by kernel_rfl) (jd_pure rfl (pr_move rfl) ?_)
      refine jd_pure rfl (pr_geqN (m := (j - 1)) (n := 0) rfl rfl) ?_
      refine jd_pure rfl (pr_move rfl) ?_
      refine jd_run (j := 2) (want := true) rfl rfl (by simp) ?_
      refine jd_pure rfl (pr_move rfl) ?_
      refine jd_run (j := 2) (want := true) rfl rfl (by simp) ?_
      refine jd_pure rfl (pr_move rfl) ?_
      refine jd_run (j := 2) (want := true) rfl rfl (by simp) ?_
      refine jd_pure rfl (pr_idx (i := (j - 1)) ((j - 1)) rfl rfl Tryz.underlying108 ty_3 (by first | omega | (rw [List.length_set]; omega) | (have := hin2.2.2.2 i2 (by omega); omega)) (by first | rfl | (simp only [Nat.zero_add, Nat.mul_one]))) ?_
      refine jd_run (j := 2) (want := true) rfl rfl (by simp) ?_
      refine jd_pure rfl (pr_load_rowD (.int .i64 (ds2.getD (j - 1) 0)) false rfl ty_3 rfl rfl (.tail _ (.tail _ (.tail _ (.tail _ (.head _))))) (by first | omega | (rw [List.length_set]; omega) | (have := hin2.2.2.2 i2 (by omega); omega)) (by first | rfl | exact Nat.mul_one _) rfl) ?_
      refine jd_run (j := 2) (want := true) rfl rfl (by simp) ?_
      refine jd_pure rfl (pr_move rfl) ?_
      refine jd_run (j := 2) (want := true) rfl rfl (by simp) ?_
      refine jd_pure rfl (pr_move rfl) ?_
      refine jd_run (j := 2) (want := true) rfl rfl (by simp) ?_
      refine jd_pure rfl (pr_idx_imm (i := (j - 1)) rfl (.tail _ (.tail _ (.tail _ (.tail _ (.tail _ (.head _)))))) rfl Tryz.underlying53 ty_29 (by first | omega | (rw [List.length_set]; omega) | (have := hin2.2.2.2 i2 (by omega); omega))) ?_
      refine jd_run (j := 2) (want := true) rfl rfl (by simp) ?_
      refine jd_pure rfl (pr_load_at (e3) rfl (.tail _ (.head _)) ty_29 (by decide) rfl) ?_
      refine jd_run (j := 2) (want := true) rfl rfl (by simp) ?_
      refine jd_pure rfl (pr_len_imm rfl (.head _) Tryz.underlying29) ?_
      refine jd_run (j := 2) (want := true) rfl rfl (by simp) ?_
      refine jd_pure rfl (pr_subN (m := (xs.getD (j - 1) []).length) (n := 1) rfl rfl (by omega) (by omega)) ?_
      refine jd_run (j := 2) (want := true) rfl rfl (by simp) ?_
      refine jd_pure rfl (pr_eql (n := ((((xs.getD (j - 1) []).length) - 1 : Nat) : Int)) rfl rfl) ?_
      refine jd_pure rfl (pr_pick_t rfl (by simp) rfl) ?_
      refine jd_nil ?_
      refine jq_then ?_
      refine jc_cond rfl (fun h6b => ?_) (fun h6b => ?_)
      ·have h6 := of_decide_eq_true h6b
       refine jc_skip (jq_then (jc_block (jc_seq (jc_region (jo_pure rfl (pr_move rfl) ?_)))))
       refine jo_pure rfl (pr_move rfl) (jo_pure rfl (pr_idx (i := (j - 1)) ((j - 1)) rfl rfl Tryz.underlying108 ty_3 (by first | omega | (rw [List.length_set]; omega) | (have := hin2.2.2.2 i2 (by omega); omega)) (by first | rfl | (simp only [Nat.zero_add, Nat.mul_one]))) ?_)
       refine j_pull4 ?_
       refine jo_store_g (i := (j - 1)) (((0 : Nat) : Int)) rfl rfl ty_3 rfl (by omega) (by first | rfl | exact Nat.mul_one _) rfl ?_
       refine jo_nil (jq_then (jc_region (jo_pure rfl (pr_move rfl) (jo_pure rfl (pr_sub (m := (((j - 1) : Nat) : Int)) (n := ((1 : Nat) : Int)) rfl rfl (by omega)) ?_))))
       refine jo_pure rfl (pr_assign rfl) (jo_nil (jq_in_normal (j_pull1 (j_drop (j_pull1 ?_)))))
       refine j_drop (j_pull5 ?_)
       refine j_pull5 ?_
       refine j_pull5 ?_
       refine j_pull3 (j_pull5 ?_)
       refine j_pull5 ?_
       refine jq_round' (((((j - 1) : Nat) : Int) - ((1 : Nat) : Int)), (ds2.set (j - 1) ((0 : Nat) : Int)), (j - 1)) (by (try dsimp only); exact (⟨by omega, carry_step hin2.2.2 (j := j - 1) (by rw [show j - 1 + 1 = j by omega]; exact hinC.2) (by have h9 := h6; omega)⟩)) (by (try dsimp only); exact (by omega)) ⟨rfl, rfl, rfl, rfl, rfl, rfl, trivial⟩ (fun _ h => h)
      ·have h6 := of_decide_eq_false h6b
       have hnx := carry_next hin2.2.2 hne (j := j - 1) (by rw [show j - 1 + 1 = j by omega]; exact hinC.2) (by have h9 := h6; omega)
       refine jc_exit ?_
       refine jq_then_exit ?_
       refine jq_then_exit ?_
       refine jq_in_hit ?_
       refine jq_then (jc_seq (jc_seq (jc_region (jo_pure rfl (pr_move rfl) (jo_pure rfl (pr_lssN (m := (j - 1)) (n := 0) rfl rfl) ?_)))))
       refine jo_nil (jq_then (jc_false rfl (by simp) ?_))
       refine jc_skip (jq_then (jc_region (jo_pure rfl (pr_move rfl) (jo_pure rfl (pr_move rfl) (jo_pure rfl (pr_idx (i := (j - 1)) ((j - 1)) rfl rfl Tryz.underlying108 ty_3 (by first | omega | (rw [List.length_set]; omega) | (have := hin2.2.2.2 i2 (by omega); omega)) (by first | rfl | (simp only [Nat.zero_add, Nat.mul_one]))) ?_)))))
       refine jo_pure rfl (pr_load_rowD (.int .i64 (ds2.getD (j - 1) 0)) false rfl ty_3 rfl rfl (.tail _ (.tail _ (.tail _ (.tail _ (.head _))))) (by first | omega | (rw [List.length_set]; omega) | (have := hin2.2.2.2 i2 (by omega); omega)) (by first | rfl | exact Nat.mul_one _) rfl) ?_
       refine jo_pure rfl (pr_add (m := (ds2.getD (j - 1) 0)) (n := ((1 : Nat) : Int)) rfl rfl (by omega)) ?_
       refine jo_pure rfl (pr_idx (i := (j - 1)) ((j - 1)) rfl rfl Tryz.underlying108 ty_3 (by first | omega | (rw [List.length_set]; omega) | (have := hin2.2.2.2 i2 (by omega); omega)) (by first | rfl | (simp only [Nat.zero_add, Nat.mul_one]))) ?_
       refine j_pull4 ?_
       refine jo_store_g (i := (j - 1)) ((ds2.getD (j - 1) 0) + ((1 : Nat) : Int)) rfl rfl ty_3 rfl (by omega) (by first | rfl | exact Nat.mul_one _) rfl ?_
       refine jo_nil (jq_in_normal (j_pull1 (j_drop (j_pull1 (j_drop ?_)))))
       refine j_pull2 (j_drop (j_pull4 ?_))
       refine j_pull4 ?_
       refine j_pull4 ?_
       refine j_pull3 (j_pull4 ?_)
       refine jq_round' (v1, (out ++ [ks]), (ds2.set (j - 1) ((ds2.getD (j - 1) 0) + ((1 : Nat) : Int)))) (by (try dsimp only); exact (⟨by simp only [List.length_append, List.length_cons, List.length_nil]; omega, by rw [hks]; exact rest_go hin2.2.1 hnx.1, hnx.2⟩)) (by (try dsimp only); exact (by simp only [List.length_append, List.length_cons, List.length_nil]; omega)) ⟨rfl, rfl, rfl, rfl, rfl, trivial⟩ (fun _ h => h)
     ·skip
      refine jc_draws mixed (by kernel_rfl) (jd_pure rfl (pr_move rfl) ?_)
      refine jd_pure rfl (pr_geq (n := 0) rfl rfl) ?_
      refine jd_pure rfl (pr_move rfl) ?_
      refine jd_skipu (j := 2) (want := true) rfl rfl (decide_eq_false (by have := hinC.1; omega)) rfl ?_
      refine jd_skipu (j := 2) (want := true) rfl rfl (decide_eq_false (by have := hinC.1; omega)) rfl ?_
      refine jd_skipu (j := 2) (want := true) rfl rfl (decide_eq_false (by have := hinC.1; omega)) rfl ?_
      refine jd_skipu (j := 2) (want := true) rfl rfl (decide_eq_false (by have := hinC.1; omega)) rfl ?_
      refine jd_skipu (j := 2) (want := true) rfl rfl (decide_eq_false (by have := hinC.1; omega)) rfl ?_
      refine jd_skipu (j := 2) (want := true) rfl rfl (decide_eq_false (by have := hinC.1; omega)) rfl ?_
      refine jd_skipu (j := 2) (want := true) rfl rfl (decide_eq_false (by have := hinC.1; omega)) rfl ?_
      refine jd_skipu (j := 2) (want := true) rfl rfl (decide_eq_false (by have := hinC.1; omega)) rfl ?_
      refine jd_skipu (j := 2) (want := true) rfl rfl (decide_eq_false (by have := hinC.1; omega)) rfl ?_
      refine jd_skipu (j := 2) (want := true) rfl rfl (decide_eq_false (by have := hinC.1; omega)) rfl ?_
      refine jd_skipu (j := 2) (want := true) rfl rfl (decide_eq_false (by have := hinC.1; omega)) rfl ?_
      refine jd_pure rfl (pr_pick_f rfl (decide_eq_false (by have := hinC.1; omega)) rfl) ?_
      refine jd_nil ?_
      refine jq_then (jc_false rfl (rfl) ?_)
      refine jc_exit ?_
      refine jq_then_exit ?_
      refine jq_then_exit ?_
      refine jq_in_hit ?_
      refine jq_then (jc_seq (jc_seq (jc_region (jo_pure rfl (pr_move rfl) (jo_pure rfl (pr_lss (n := 0) rfl rfl) ?_)))))
      refine jo_nil (jq_then (jc_true rfl (decide_eq_true (by have := hinC.1; omega)) ?_))
      refine jc_exit ?_
      refine jq_then_exit ?_
      refine jq_in_miss rfl ?_
      refine jq_then_exit ?_
      refine jq_in_hit ?_
      refine jq_then (jc_seq (jc_region (jo_pure rfl (pr_move rfl) (jo_pure rfl (pr_assign rfl) (jo_nil ?_)))))
      refine jq_then (jc_ret (j_pub_row (j_pull1 (j_drop (j_pull1 ?_)))))
      refine j_drop (j_pull1 (j_drop (j_pull1 (j_drop (j_pull1 ?_)))))
      refine j_drop ?_
      exact jq_ret1 rfl v1 rfl (show (v1 : Value) = (v1) from rfl) (fun _ h => by rw [keys_all (out := out) (k := ks) h1 h4 (by rw [hks, ← hR, ← hin2.2.1, carry_end hin2.2.2 (xs := ds2) (by have h9 := hinC.2; rw [show j = 0 by omega] at h9; exact h9)])]; exact h)
   ·have h4 := of_decide_eq_false h4b
    refine jc_exit ?_
    refine jq_then_exit ?_
    refine jq_then_exit ?_
    refine jq_in_hit ?_
    refine jq_then (jc_seq (jc_region (jo_pure rfl (pr_move rfl) (jo_pure rfl (pr_assign rfl) (jo_nil ?_)))))
    refine jq_then (jc_ret (j_pub_row (j_pull1 (j_drop (j_pull1 ?_)))))
    refine j_drop (j_pull1 (j_drop (j_pull1 (j_drop ?_))))
    exact jq_ret1 rfl ow rfl (show (ow : Value) = (ow) from rfl) (fun _ h => by rw [keys_full (out := out) (most := most) h1 (by omega) (by rw [← hR]; exact hin2.2.1)]; exact h)

theorem c_selection_Keys (axes : List ((List UInt8) × (List (List UInt8)))) (axesv : Value) (l : List ((List UInt8) × (List UInt8))) (lv : Value) (strict : Bool) (hal : axes.length ≤ 1000) (ham : ∀ a ∈ axes, a.1.length ≤ 1000000 ∧ (∀ x ∈ a.2, x.length ≤ 300000) ∧ a.2.length ≤ 9223372036854775807) (hfl : l.length ≤ 1000000) (hfm : ∀ x ∈ l, x.1.length ≤ 20000 ∧ x.2.length ≤ 20000) : Con Tryz.prog 37 #[axesv, lv, .bool (strict)] [.imm (.list (.pair .str (.list .str))) (axesv) (axes), .imm (.list (.pair .str .str)) (lv) (l)] (fun r1 : Value => r1) (fun r1 => [.imm (.list (.list .str)) r1 (keysF axes l strict 64)]) := by
 refine con_of_J (args := [axesv, lv, .bool (strict)]) (n := 11) Tryz.func37 rfl (Nat.le_of_ble_eq_true rfl) rfl (fun w0 I0 m0 => ?_)
 show J _ [(0, axesv), (1, lv), (2, .bool (strict))] [.imm (.list (.pair .str (.list .str))) (axesv) (axes), .imm (.list (.pair .str .str)) (lv) (l)] _
 refine jc_seq (jc_region (jo_pure rfl (pr_assign rfl) (jo_nil (jq_then (jc_seq ?_)))))
 refine jc_region (jo_pure rfl (pr_move rfl) (jo_pure rfl (pr_move rfl) (jo_pure rfl (pr_move rfl) ?_)))
 refine jo_callp cal_76 (c_selection_keys axes axesv l lv strict 64 (by first | omega | exact ham | exact hfm | exact hf3 | exact hA.1 | exact hA.2.1 | exact hA.2.2) (by first | omega | exact ham | exact hfm | exact hf3 | exact hA.1 | exact hA.2.1 | exact hA.2.2) (by first | omega | exact ham | exact hfm | exact hf3 | exact hA.1 | exact hA.2.1 | exact hA.2.2) (by first | omega | exact ham | exact hfm | exact hf3 | exact hA.1 | exact hA.2.1 | exact hA.2.2) (by first | omega | exact ham | exact hfm | exact hf3 | exact hA.1 | exact hA.2.1 | exact hA.2.2)) ⟨rfl, rfl, rfl, rfl, trivial⟩ rfl (⟨⟨rfl, .head _⟩, ⟨⟨rfl, .tail _ (.head _)⟩, trivial⟩⟩) (fun r1 => ?_)
 show J _ _ [.imm (.list (.list .str)) (r1) (keysF axes l strict 64), .imm (.list (.pair .str (.list .str))) (axesv) (axes), .imm (.list (.pair .str .str)) (lv) (l)] _
 refine jo_pure rfl (pr_assign rfl) (jo_nil (jq_then (jc_ret (j_pull1 (j_drop ?_)))))
 refine j_pull1 (j_drop ?_)
 exact jq_ret1 rfl r1 rfl (show (r1 : Value) = (r1) from rfl) (fun _ h => h)

theorem c_selection_Best (axes : List ((List UInt8) × (List (List UInt8)))) (axesv : Value) (l : List ((List UInt8) × (List UInt8))) (lv : Value) (strict : Bool) (hal : axes.length ≤ 1000) (ham : ∀ a ∈ axes, a.1.length ≤ 1000000 ∧ (∀ x ∈ a.2, x.length ≤ 300000) ∧ a.2.length ≤ 9223372036854775807) (hfl : l.length ≤ 1000000) (hfm : ∀ x ∈ l, x.1.length ≤ 20000 ∧ x.2.length ≤ 20000) : Con Tryz.prog 40 #[axesv, lv, .bool (strict)] [.imm (.list (.pair .str (.list .str))) (axesv) (axes), .imm (.list (.pair .str .str)) (lv) (l)] (fun r1 : Value => .tuple #[r1, .bool (bestB axes l strict)]) (fun r1 => [.imm (.list .str) r1 (bestK axes l strict)]) := by
 refine con_of_J (args := [axesv, lv, .bool (strict)]) (n := 19) Tryz.func40 rfl (Nat.le_of_ble_eq_true rfl) rfl (fun w0 I0 m0 => ?_)
 show J _ [(0, axesv), (1, lv), (2, .bool (strict))] [.imm (.list (.pair .str (.list .str))) (axesv) (axes), .imm (.list (.pair .str .str)) (lv) (l)] _
 refine jc_seq (jc_region (jo_pure rfl (pr_assign rfl) (jo_pure rfl (pr_assign rfl) (jo_nil (jq_then ?_)))))
 refine jc_seq (jc_region (jo_pure rfl (pr_move rfl) (jo_pure rfl (pr_move rfl) (jo_pure rfl (pr_move rfl) ?_))))
 refine jo_callp cal_76 (c_selection_keys axes axesv l lv strict 1 (by first | omega | exact ham | exact hfm | exact hf3 | exact hA.1 | exact hA.2.1 | exact hA.2.2) (by first | omega | exact ham | exact hfm | exact hf3 | exact hA.1 | exact hA.2.1 | exact hA.2.2) (by first | omega | exact ham | exact hfm | exact hf3 | exact hA.1 | exact hA.2.1 | exact hA.2.2) (by first | omega | exact ham | exact hfm | exact hf3 | exact hA.1 | exact hA.2.1 | exact hA.2.2) (by first | omega | exact ham | exact hfm | exact hf3 | exact hA.1 | exact hA.2.1 | exact hA.2.2)) ⟨rfl, rfl, rfl, rfl, trivial⟩ rfl (⟨⟨rfl, .head _⟩, ⟨⟨rfl, .tail _ (.head _)⟩, trivial⟩⟩) (fun r1 => ?_)
 show J _ _ [.imm (.list (.list .str)) (r1) (keysF axes l strict 1), .imm (.list (.pair .str (.list .str))) (axesv) (axes), .imm (.list (.pair .str .str)) (lv) (l)] _
 refine jo_pure rfl (pr_assign rfl) (jo_nil (jq_then (jc_seq (jc_seq (jc_region ?_)))))
 refine jo_pure rfl (pr_move rfl) (jo_pure rfl (pr_len_imm rfl (.head _) Tryz.underlying53) ?_)
 refine jo_pure rfl (pr_eqlN (m := (keysF axes l strict 1).length) (n := 0) rfl rfl) ?_
 refine jo_nil (jq_then ?_)
 refine jc_cond rfl (fun h1b => ?_) (fun h1b => ?_)
 ·have h1 := of_decide_eq_true h1b
  refine jc_seq (jc_region (jo_pure rfl (pr_assign rfl) (jo_pure rfl (pr_assign rfl) (jo_nil (jq_then ?_)))))
  refine jc_ret (jq_then_ret (j_nil_imm .str ?_))
  refine j_pull1 (j_drop (j_pull1 (j_drop (j_pull1 (j_drop ?_)))))
  exact jq_rets (rs := [.tmp 6, .tmp 7]) (vs := [.slice none 0 0, .bool (false)]) rfl (.slice none 0 0) ⟨resV_tmp rfl, resV_tmp rfl, trivial⟩ rfl (show (.tuple #[(.slice none 0 0), .bool (bestB axes l strict)] : Value) = (.tuple #[.slice none 0 0, .bool (false)]) from by rw [best_no (show (keysF axes l strict 1).length = 0 from h1)]) (fun _ h => by rw [bestK_no (best_no (show (keysF axes l strict 1).length = 0 from h1))]; exact h)
 ·have h1 := of_decide_eq_false h1b
  refine jc_skip (jq_then (jc_seq (jc_region (jo_pure rfl (pr_move rfl) ?_))))
  refine j_open_elem (t := (.list .str)) (i := 0) [] (.head _) (by omega) (fun e1 => ?_)
  show J _ _ (.imm (.list .str) (e1) (((keysF axes l strict 1).getD 0 [])) :: .fact (fun w_ I_ => ElemAt w_ I_ (r1) (0) 1 [e1]) :: _) _
  refine jo_pure rfl (pr_idx_imm (i := 0) rfl (.tail _ (.tail _ (.head _))) rfl Tryz.underlying53 ty_29 (by omega)) ?_
  refine jo_pure rfl (pr_load_at (e1) rfl (.tail _ (.head _)) ty_29 (by decide) rfl) ?_
  refine jo_pure rfl (pr_assign rfl) (jo_pure rfl (pr_assign rfl) (jo_nil (jq_then (jc_ret (j_pull1 ?_)))))
  refine j_drop (j_pull1 (j_drop (j_pull1 (j_drop (j_pull1 ?_)))))
  refine j_drop ?_
  exact jq_rets (rs := [.tmp 6, .tmp 7]) (vs := [e1, .bool (true)]) rfl e1 ⟨resV_tmp rfl, resV_tmp rfl, trivial⟩ rfl (show (.tuple #[e1, .bool (bestB axes l strict)] : Value) = (.tuple #[e1, .bool (true)]) from by rw [best_yes (show ¬ (keysF axes l strict 1).length = 0 from h1)]) (fun _ h => h)
end Go.Proofs.YtjbcomdljmfgjaaGreatDoor
