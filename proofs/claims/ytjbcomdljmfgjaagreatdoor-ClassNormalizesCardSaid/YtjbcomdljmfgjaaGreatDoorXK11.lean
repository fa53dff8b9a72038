/-
 Contracts of functions of the program: each returns what a plain function says, for every input within the bounds named. Conditions: the bounds.
-/
import Derived.Test.YtjbcomdljmfgjaaGreatDoorRows
import Derived.Test.YtjbcomdljmfgjaaGreatDoorXK10
import Derived.Test.YtjbcomdljmfgjaaGreatDoorXSep5
import Derived.Test.YtjbcomdljmfgjaaGreatDoorXLawF
namespace Go.Proofs.YtjbcomdljmfgjaaGreatDoor
open Go Go.Sep
set_option linter.unusedSimpArgs false
set_option linter.unusedVariables false

open Go.Plain

theorem cal_45 : Cal Tryz.prog 45 := cal_of Tryz.func45 (by kernel_rfl) rfl
theorem cal_46 : Cal Tryz.prog 46 := cal_of Tryz.func46 (by kernel_rfl) rfl
theorem cal_47 : Cal Tryz.prog 47 := cal_of Tryz.func47 (by kernel_rfl) rfl
theorem cal_80 : Cal Tryz.prog 80 := cal_of Tryz.func80 (by kernel_rfl) rfl
theorem cal_81 : Cal Tryz.prog 81 := cal_of Tryz.func81 (by kernel_rfl) rfl
theorem cal_82 : Cal Tryz.prog 82 := cal_of Tryz.func82 (by kernel_rfl) rfl
theorem cal_83 : Cal Tryz.prog 83 := cal_of Tryz.func83 (by kernel_rfl) rfl
theorem cal_86 : Cal Tryz.prog 86 := cal_of Tryz.func86 (by kernel_rfl) rfl

theorem c_slices_Clone_api_Field_api_Field (l : List ((List UInt8) × (List UInt8))) (lv : Value) (hl : l.length ≤ 1000000) : Con Tryz.prog 80 #[lv] [.imm (.list (.pair .str .str)) (lv) (l)] (fun r1 : Value => r1) (fun r1 => [.row r1 35 (.pair .str .str) (l)]) := by
 refine con_of_J (args := [lv]) (n := 8) Tryz.func80 rfl (Nat.le_of_ble_eq_true rfl) rfl (fun w0 I0 m0 => ?_)
 show J _ [(0, lv)] [.imm (.list (.pair .str .str)) (lv) (l)] _
 refine jc_seq (jc_region (jo_pure rfl (pr_assign rfl) (jo_nil (jq_then (jc_seq ?_)))))
 refine jc_seq (jc_region (jo_pure rfl (pr_move rfl) ?_))
 refine jo_eqnil rfl rfl (.head _) Tryz.underlying23 rfl (fun b1 hb1 => ?_)
 refine jo_nil (jq_then ?_)
 refine jc_cond rfl (fun h1b => ?_) (fun h1b => ?_)
 ·have h1 := id h1b
  refine jc_seq (jc_region (jo_pure rfl (pr_assign rfl) (jo_nil (jq_then (jc_ret ?_)))))
  refine jq_then_ret (j_nil_row 35 (.pair .str .str) ?_)
  refine j_pull1 (j_drop ?_)
  exact jq_ret1 rfl (.slice none 0 0) rfl (show (.slice none 0 0 : Value) = (.slice none 0 0) from rfl) (fun _ h => by rw [hb1 h1]; exact h)
 ·have h1 := id h1b
  refine jc_skip (jq_then (jc_seq (jc_region ?_)))
  refine jo_buildSlice0 (t := (.pair .str .str)) Tryz.underlying23 ty_35 rfl (fun g1 => ?_)
  refine jo_pure rfl (pr_move rfl) (j_row_of_rowg ?_)
  refine jo_append_imm rfl rfl (.head _) Tryz.underlying23 ty_35 rfl (by simp only [List.length_append, List.length_cons, List.length_nil, maxLen]; omega) (by simp only [List.length_append, List.length_cons, List.length_nil]; omega) rfl (fun v1 => ?_)
  refine jo_pure rfl (pr_assign rfl) (jo_nil (jq_then (jc_ret (j_pull1 (j_drop ?_)))))
  exact jq_ret1 rfl v1 rfl (show (v1 : Value) = (v1) from rfl) (fun _ h => by rw [List.nil_append] at h; exact h)

theorem c_class_readable (kind : Int) (v : List UInt8) (hv : v.length ≤ 300000) : Con Tryz.prog 82 #[.int .i64 (kind), str (v)] [] (fun _ : Unit => .bool (readB kind v)) (fun _ => []) := by
 refine con_of_J (args := [.int .i64 (kind), str (v)]) (n := 26) Tryz.func82 rfl (Nat.le_of_ble_eq_true rfl) rfl (fun w0 I0 m0 => ?_)
 show J _ [(0, .int .i64 (kind)), (1, str (v))] [] _
 refine jc_seq (jc_region (jo_pure rfl (pr_assign rfl) (jo_nil (jq_then (jc_seq ?_)))))
 refine jc_seq (jc_region (jo_pure rfl (pr_move rfl) (jo_nil (jq_then (jc_block ?_)))))
 refine jc_seq (jc_region (jo_pure rfl (pr_eql (n := 1) rfl rfl) ?_))
 refine jo_pure rfl (pr_assign rfl) (jo_nil (jq_then ?_))
 refine jc_cond rfl (fun h1b => ?_) (fun h1b => ?_)
 ·have h1 := of_decide_eq_true h1b
  refine jc_seq (jc_region (jo_pure rfl (pr_move rfl) ?_))
  refine jo_callp cal_114 (c_mediatype_Parse v (by omega)) ⟨rfl, trivial⟩ rfl (trivial) (fun r1 => ?_)
  show J _ _ [.row (r1) 102 (.pair .str .str) ((parseT v).1.2.2)] _
  refine jo_pure rfl (pr_move rfl) (jo_pure rfl (pr_extract rfl rfl) ?_)
  refine jo_pure rfl (pr_extract rfl rfl) ?_
  refine jo_alloc ty_84 [str ([]), str ([]), .slice none 0 0] rfl rfl (fun b1 => ?_)
  refine jo_storeV rfl rfl ty_84 [str ((parseT v).1.1), str ((parseT v).1.2.1), r1] (fun _ _ _ _ => rfl) rfl (fun w I m hs => by simp only [List.all_cons, List.all_nil, Bool.and_true, Bool.and_eq_true]; exact ⟨rfl, rfl, (SliceV.one (row_slice (.tail _ (.head _)) hs))⟩) [str ((parseT v).1.1), str ((parseT v).1.2.1), r1] rfl rfl ?_
  refine jo_pure rfl (pr_assign rfl) (jo_nil (jq_then (jc_seq (jc_region (jo_pure rfl (pr_move rfl) ?_)))))
  refine jo_pure rfl (pr_assign rfl) (jo_nil (jq_then (jc_ret (jq_in_ret ?_))))
  refine jq_then_ret (j_drop (j_drop ?_))
  exact jq_ret1 rfl () rfl (show (.bool (readB kind v) : Value) = (.bool ((parseT v).2)) from congrArg Value.bool (by rw [read_1 h1])) (fun _ h => h)
 ·have h1 := of_decide_eq_false h1b
  refine jc_seq (jc_region (jo_pure rfl (pr_eql (n := 2) rfl rfl) ?_))
  refine jo_pure rfl (pr_assign rfl) (jo_nil (jq_then ?_))
  refine jc_cond rfl (fun h2b => ?_) (fun h2b => ?_)
  ·have h2 := of_decide_eq_true h2b
   refine jc_seq (jc_region (jo_pure rfl (pr_move rfl) ?_))
   refine jo_callp cal_121 (c_language_Tag v (by omega)) ⟨rfl, trivial⟩ rfl (trivial) (fun _ => ?_)
   refine jo_pure rfl (pr_assign rfl) (jo_nil (jq_then (jc_ret (jq_in_ret ?_))))
   refine jq_then_ret ?_
   exact jq_ret1 rfl () rfl (show (.bool (readB kind v) : Value) = (.bool (tagF v)) from congrArg Value.bool (by rw [read_2 h1 h2])) (fun _ h => h)
  ·have h2 := of_decide_eq_false h2b
   refine jc_skip (jq_in_normal (jq_then (jc_seq (jc_region (jo_pure rfl (pr_move rfl) ?_)))))
   refine jo_callp cal_87 (c_ascii_Token v (by omega)) ⟨rfl, trivial⟩ rfl (trivial) (fun _ => ?_)
   refine jo_pure rfl (pr_move rfl) (jo_gpure (j := 2) (want := true) rfl rfl rfl rfl (fun hg => pr_move rfl) ?_)
   refine jo_gpure (j := 2) (want := true) rfl rfl rfl rfl (fun hg => pr_sneq (evg rfl hg) rfl) ?_
   refine jo_pure rfl (pr_pick_and rfl rfl rfl) ?_
   refine jo_pure rfl (pr_assign rfl) (jo_nil (jq_then (jc_ret ?_)))
   exact jq_ret1 rfl () rfl (show (.bool (readB kind v) : Value) = (.bool ((token v && (!decide ((v : List UInt8) = [42]))))) from congrArg Value.bool (by rw [read_3 h1 h2])) (fun _ h => h)

theorem c_class_Normalize (kind : Int) (l : List ((List UInt8) × (List UInt8))) (lv : Value) (vs : List (List UInt8)) (vsv : Value) (hl : l.length ≤ 1000) (hm : ∀ x ∈ l, x.1.length ≤ 20000 ∧ x.2.length ≤ 20000) (hvl : vs.length ≤ 100) (hvm : ∀ v ∈ vs, v.length ≤ 15000) : Con Tryz.prog 46 #[.int .i64 (kind), lv, vsv] [.imm (.list (.pair .str .str)) (lv) (l), .imm (.list .str) (vsv) (vs)] (fun r1 : Value => r1) (fun r1 => [.row r1 35 (.pair .str .str) (normF kind l vs)]) := by
 refine con_of_J (args := [.int .i64 (kind), lv, vsv]) (n := 58) Tryz.func46 rfl (Nat.le_of_ble_eq_true rfl) rfl (fun w0 I0 m0 => ?_)
 show J _ [(0, .int .i64 (kind)), (1, lv), (2, vsv)] [.imm (.list (.pair .str .str)) (lv) (l), .imm (.list .str) (vsv) (vs)] _
 have hm3 : ∀ x ∈ l, x.1.length ≤ 300000 ∧ x.2.length ≤ 300000 := fun x hx => by have := hm x hx; omega
 have hm6 : ∀ x ∈ l, x.1.length ≤ 1000000 ∧ x.2.length ≤ 1000000 := fun x hx => by have := hm x hx; omega
 have hnk := nameK_length kind
 have hpl := prefsF_length kind l
 have hps : ∀ x ∈ (prefsF kind l).1, x.1.length ≤ 1000000 := fun x hx => by have := prefsF_short (kind := kind) (n := 20000) hm x hx; omega
 have hrm := removeF_length l (nameK kind)
 refine jc_seq (jc_region (jo_pure rfl (pr_assign rfl) (jo_nil (jq_then (jc_seq ?_)))))
 refine jc_region (jo_pure rfl (pr_move rfl) ?_)
 refine jo_callp cal_79 (c_accept_Name kind) ⟨rfl, trivial⟩ rfl (trivial) (fun _ => ?_)
 refine jo_pure rfl (pr_assign rfl) (jo_nil (jq_then (jc_seq (jc_seq (jc_region ?_)))))
 refine jo_pure rfl (pr_move rfl) (jo_pure rfl (pr_seql rfl rfl) ?_)
 refine jo_nil (jq_then ?_)
 refine jc_cond rfl (fun h1b => ?_) (fun h1b => ?_)
 ·have h1 := of_decide_eq_true h1b
  refine jc_seq (jc_region (jo_pure rfl (pr_move rfl) ?_))
  refine jo_callp cal_80 (c_slices_Clone_api_Field_api_Field l lv (by first | omega | exact hm3 | exact hm6 | exact hps | (have := hvm _ (getD_mem (dd := []) h3); omega) | exact hem | (rw [hinv.2.2]; exact hem) | (have := hinv.2.1; omega))) ⟨rfl, trivial⟩ rfl (⟨⟨rfl, .head _⟩, trivial⟩) (fun r1 => ?_)
  show J _ _ [.row (r1) 35 (.pair .str .str) (l), .imm (.list (.pair .str .str)) (lv) (l), .imm (.list .str) (vsv) (vs)] _
  refine jo_pure rfl (pr_assign rfl) (jo_nil (jq_then (jc_ret (jq_then_ret (j_pull1 ?_)))))
  refine j_drop (j_pull1 (j_drop ?_))
  exact jq_ret1 rfl r1 rfl (show (r1 : Value) = (r1) from rfl) (fun _ h => by rw [norm_none h1]; exact h)
 ·have h1 := of_decide_eq_false h1b
  refine jc_skip (jq_then (jc_seq (jc_region (jo_pure rfl (pr_move rfl) (jo_pure rfl (pr_move rfl) ?_)))))
  refine jo_callp cal_68 (c_accept_Prefs kind l lv (by first | omega | exact hm3 | exact hm6 | exact hps | (have := hvm _ (getD_mem (dd := []) h3); omega) | exact hem | (rw [hinv.2.2]; exact hem) | (have := hinv.2.1; omega)) (by first | omega | exact hm3 | exact hm6 | exact hps | (have := hvm _ (getD_mem (dd := []) h3); omega) | exact hem | (rw [hinv.2.2]; exact hem) | (have := hinv.2.1; omega))) ⟨rfl, rfl, trivial⟩ rfl (⟨⟨rfl, .head _⟩, trivial⟩) (fun r2 => ?_)
  show J _ _ [.row (r2) 48 (.pair .str (.int .i64)) ((prefsF kind l).1), .imm (.list (.pair .str .str)) (lv) (l), .imm (.list .str) (vsv) (vs)] _
  refine jo_pure rfl (pr_move rfl) (jo_pure rfl (pr_extract rfl rfl) ?_)
  refine jo_pure rfl (pr_extract rfl rfl) ?_
  refine jo_pure rfl (pr_assign rfl) (jo_pure rfl (pr_assign rfl) (jo_nil (jq_then (jc_seq (jc_region ?_)))))
  refine jo_pure rfl (pr_move rfl) (jo_pure rfl (pr_move rfl) ?_)
  refine jo_callp cal_81 (c_fieldline_Remove l lv (nameK kind) (by first | omega | exact hm3 | exact hm6 | exact hps | (have := hvm _ (getD_mem (dd := []) h3); omega) | exact hem | (rw [hinv.2.2]; exact hem) | (have := hinv.2.1; omega)) (by first | omega | exact hm3 | exact hm6 | exact hps | (have := hvm _ (getD_mem (dd := []) h3); omega) | exact hem | (rw [hinv.2.2]; exact hem) | (have := hinv.2.1; omega)) (by first | omega | exact hm3 | exact hm6 | exact hps | (have := hvm _ (getD_mem (dd := []) h3); omega) | exact hem | (rw [hinv.2.2]; exact hem) | (have := hinv.2.1; omega))) ⟨rfl, rfl, trivial⟩ rfl (⟨⟨rfl, .tail _ (.head _)⟩, trivial⟩) (fun r3 => ?_)
  show J _ _ [.row (r3) 35 (.pair .str .str) (removeF l (nameK kind)), .row (r2) 48 (.pair .str (.int .i64)) ((prefsF kind l).1), .imm (.list (.pair .str .str)) (lv) (l), .imm (.list .str) (vsv) (vs)] _
  refine jo_pure rfl (pr_assign rfl) (jo_nil (jq_then (jc_seq (jc_seq (jc_region ?_)))))
  refine jo_pure rfl (pr_move rfl) (jo_pure rfl (pr_not rfl) ?_)
  refine jo_nil (jq_then ?_)
  refine jc_cond rfl (fun h2b => ?_) (fun h2b => ?_)
  ·have h2 := (fun q => id (bt_not q)) h2b
   refine jc_seq (jc_region (jo_pure rfl (pr_move rfl) (jo_pure rfl (pr_assign rfl) (jo_nil (jq_then ?_)))))
   refine jc_ret (jq_then_ret (j_pull1 (j_drop (j_pull1 (j_drop ?_)))))
   refine j_pull1 (j_drop ?_)
   exact jq_ret1 rfl r3 rfl (show (r3 : Value) = (r3) from rfl) (fun _ h => by rw [norm_absent h1 (by simpa using h2)]; exact h)
  ·have h2 := (fun q => id (bf_not q)) h2b
   refine jc_skip (jq_then (jc_seq (jc_region (jo_pure rfl (pr_assign rfl) (jo_nil ?_)))))
   refine jq_then (jc_seq (jc_seq (j_pull1 (j_pub_row (jc_region ?_)))))
   refine jo_pure rfl (pr_move rfl) (jo_pure rfl (pr_len_imm rfl (.tail _ (.tail _ (.tail _ (.head _)))) Tryz.underlying29) ?_)
   refine jo_pure rfl (pr_move rfl) (jo_nil (jq_then (jc_block (j_nil_row 48 (.pair .str (.int .i64)) ?_))))
   refine jc_loop3 (fun (i : Nat) (w : Value) (acc : List (List UInt8 × Int)) => [(0, .int .i64 (kind)), (7, str (nameK kind)), (8, r2), (10, r3), (11, w), (32, vsv), (33, .int .i64 ((vs.length : Nat) : Int)), (34, .int .i64 ((i : Nat) : Int))]) (fun (i : Nat) (w : Value) (acc : List (List UInt8 × Int)) => [.row (w) 48 (.pair .str (.int .i64)) (acc), .imm (.list (.pair .str (.int .i64))) (r2) ((prefsF kind l).1), .row (r3) 35 (.pair .str .str) (removeF l (nameK kind)), .imm (.list (.pair .str .str)) (lv) (l), .imm (.list .str) (vsv) (vs)]) (fun (i : Nat) (w : Value) (acc : List (List UInt8 × Int)) => i ≤ vs.length ∧ acc.length ≤ i ∧ acc = exactF kind (prefsF kind l).1 (vs.take i)) (fun (i : Nat) (w : Value) (acc : List (List UInt8 × Int)) => vs.length - i) 0 (.slice none 0 0) [] (⟨Nat.zero_le _, Nat.le_refl _, rfl⟩) (⟨rfl, rfl, rfl, rfl, rfl, rfl, rfl, rfl, trivial⟩) (fun _ h => h) (fun i w acc hinv => ?_)
   refine jc_seq (jc_region (jo_pure rfl (pr_lssN (m := i) (n := vs.length) rfl rfl) ?_))
   refine jo_nil (jq_then (jc_seq ?_))
   refine jc_cond rfl (fun h3b => ?_) (fun h3b => ?_)
   ·have h3 := of_decide_eq_true h3b
    refine jc_skip (jq_then (jc_seq (jc_block (jc_seq (jc_region ?_)))))
    refine jo_pure rfl (pr_idx_imm (i := i) rfl (.tail _ (.tail _ (.tail _ (.tail _ (.head _))))) rfl Tryz.underlying29 ty_9 (by omega)) ?_
    refine jo_pure rfl (pr_load_elem_imm (i := i) (str (vs.getD i [])) rfl (.tail _ (.tail _ (.tail _ (.tail _ (.head _))))) ty_9 rfl rfl (by omega) rfl) ?_
    refine jo_pure rfl (pr_assign rfl) (jo_nil (jq_then (jc_seq (jc_region (jo_pure rfl (pr_move rfl) ?_)))))
    refine jo_pure rfl (pr_move rfl) ?_
    refine jo_callp cal_82 (c_class_readable kind (vs.getD i []) (by first | omega | exact hm3 | exact hm6 | exact hps | (have := hvm _ (getD_mem (dd := []) h3); omega) | exact hem | (rw [hinv.2.2]; exact hem) | (have := hinv.2.1; omega))) ⟨rfl, rfl, trivial⟩ rfl (trivial) (fun _ => ?_)
    refine jo_nil (jq_then ?_)
    refine jc_cond rfl (fun h4b => ?_) (fun h4b => ?_)
    ·have h4 := id h4b
     refine jc_region (jo_pure rfl (pr_move rfl) (jo_pure rfl (pr_move rfl) (jo_pure rfl (pr_move rfl) (jo_pure rfl (pr_move rfl) (jo_pure rfl (pr_move rfl) ?_)))))
     refine jo_callp cal_43 (c_rank_Quality kind ((prefsF kind l).1) r2 true (vs.getD i []) (by first | omega | exact hm3 | exact hm6 | exact hps | (have := hvm _ (getD_mem (dd := []) h3); omega) | exact hem | (rw [hinv.2.2]; exact hem) | (have := hinv.2.1; omega)) (by first | omega | exact hm3 | exact hm6 | exact hps | (have := hvm _ (getD_mem (dd := []) h3); omega) | exact hem | (rw [hinv.2.2]; exact hem) | (have := hinv.2.1; omega)) (by first | omega | exact hm3 | exact hm6 | exact hps | (have := hvm _ (getD_mem (dd := []) h3); omega) | exact hem | (rw [hinv.2.2]; exact hem) | (have := hinv.2.1; omega))) ⟨rfl, rfl, rfl, rfl, trivial⟩ rfl (⟨⟨rfl, .tail _ (.head _)⟩, trivial⟩) (fun _ => ?_)
     refine jo_pure rfl (pr_build [(0, str (vs.getD i [])), (1, .int .i64 (qualF kind ((prefsF kind l).1) true (vs.getD i [])))] [str (vs.getD i []), .int .i64 (qualF kind ((prefsF kind l).1) true (vs.getD i []))] (fun a hf => by simp only [List.map_toArray, List.map_cons, List.map_nil, hf.ev (show ev _ (.tmp 42) = some (str (vs.getD i [])) from rfl), hf.ev (show ev _ (.tmp 46) = some (.int .i64 (qualF kind ((prefsF kind l).1) true (vs.getD i []))) from rfl)]) (by kernel_rfl)) ?_
     refine jo_buildSlice (t := (.pair .str (.int .i64))) [(vs.getD i [], qualF kind ((prefsF kind l).1) true (vs.getD i []))] [.agg #[str (vs.getD i []), .int .i64 (qualF kind ((prefsF kind l).1) true (vs.getD i []))]] (fun a hf => by simp only [List.zipIdx_cons, List.zipIdx_nil, List.map_toArray, List.map_cons, List.map_nil, hf.ev (show ev _ (.tmp 47) = some (.agg #[str (vs.getD i []), .int .i64 (qualF kind ((prefsF kind l).1) true (vs.getD i []))]) from rfl)] <;> rfl) rfl Tryz.underlying43 ty_48 rfl rfl rfl rfl rfl (fun g1 => ?_)
     refine j_pull1 ?_
     refine jo_append rfl rfl Tryz.underlying43 ty_48 rfl (by simp only [List.length_append, List.length_cons, List.length_nil, maxLen]; omega) (by simp only [List.length_append, List.length_cons, List.length_nil]; omega) rfl (fun v1 => ?_)
     refine jo_pure rfl (pr_assign rfl) (jo_nil (jq_in_normal (jq_then (jc_region (jo_pure rfl (pr_addN (m := i) (n := 1) rfl rfl (by omega)) ?_)))))
     refine jo_pure rfl (pr_move rfl) (jo_nil (j_pull4 ?_))
     refine j_pull4 ?_
     refine j_pull4 ?_
     refine j_pull4 ?_
     refine j_pull4 ?_
     refine jq_round' ((i + 1), v1, (acc ++ [(vs.getD i [], qualF kind ((prefsF kind l).1) true (vs.getD i []))])) (by (try dsimp only); exact (⟨by omega, by simp only [List.length_append, List.length_cons, List.length_nil]; omega, by rw [exact_hit h3 h4, hinv.2.2]⟩)) (by (try dsimp only); exact (by omega)) ⟨rfl, rfl, rfl, rfl, rfl, rfl, rfl, rfl, trivial⟩ (fun _ h => h)
    ·have h4 := id h4b
     refine jc_skip (jq_in_normal (jq_then (jc_region (jo_pure rfl (pr_addN (m := i) (n := 1) rfl rfl (by omega)) ?_))))
     refine jo_pure rfl (pr_move rfl) (jo_nil (j_pull4 ?_))
     refine j_pull4 ?_
     refine j_pull4 ?_
     refine j_pull4 ?_
     refine j_pull4 ?_
     refine jq_round' ((i + 1), w, acc) (by (try dsimp only); exact (⟨by omega, by omega, by rw [exact_miss h3 (by simpa using h4), hinv.2.2]⟩)) (by (try dsimp only); exact (by omega)) ⟨rfl, rfl, rfl, rfl, rfl, rfl, rfl, rfl, trivial⟩ (fun _ h => h)
   ·have h3 := of_decide_eq_false h3b
    have hem : ∀ x ∈ acc, x.1.length ≤ 15000 := by rw [hinv.2.2]; exact exact_mem (fun v hv => hvm v (List.mem_of_mem_take hv))
    have hacf : acc = exactF kind (prefsF kind l).1 vs := by rw [hinv.2.2, take_over (by omega)]
    refine jc_exit ?_
    refine jq_then_exit ?_
    refine jq_then_exit ?_
    refine jq_in_hit ?_
    refine jq_then (jc_seq (jc_region (jo_pure rfl (pr_move rfl) (jo_pure rfl (pr_move rfl) (jo_pure rfl (pr_move rfl) ?_)))))
    refine j_pub_row ?_
    refine jo_callp cal_83 (c_accept_Format acc w (by first | omega | exact hm3 | exact hm6 | exact hps | (have := hvm _ (getD_mem (dd := []) h3); omega) | exact hem | (rw [hinv.2.2]; exact hem) | (have := hinv.2.1; omega)) (by first | omega | exact hm3 | exact hm6 | exact hps | (have := hvm _ (getD_mem (dd := []) h3); omega) | exact hem | (rw [hinv.2.2]; exact hem) | (have := hinv.2.1; omega))) ⟨rfl, trivial⟩ rfl (⟨⟨rfl, .head _⟩, trivial⟩) (fun _ => ?_)
    refine jo_pure rfl (pr_build [(0, str (nameK kind)), (1, str (fmtP acc))] [str (nameK kind), str (fmtP acc)] (fun a hf => by simp only [List.map_toArray, List.map_cons, List.map_nil, hf.ev (show ev _ (.tmp 52) = some (str (nameK kind)) from rfl), hf.ev (show ev _ (.tmp 54) = some (str (fmtP acc)) from rfl)]) (by kernel_rfl)) ?_
    refine jo_buildSlice (t := (.pair .str .str)) [(nameK kind, fmtP acc)] [.agg #[str (nameK kind), str (fmtP acc)]] (fun a hf => by simp only [List.zipIdx_cons, List.zipIdx_nil, List.map_toArray, List.map_cons, List.map_nil, hf.ev (show ev _ (.tmp 55) = some (.agg #[str (nameK kind), str (fmtP acc)]) from rfl)] <;> rfl) rfl Tryz.underlying23 ty_35 rfl rfl rfl rfl rfl (fun g2 => ?_)
    refine j_pull3 ?_
    refine jo_append rfl rfl Tryz.underlying23 ty_35 rfl (by simp only [List.length_append, List.length_cons, List.length_nil, maxLen]; omega) (by simp only [List.length_append, List.length_cons, List.length_nil]; omega) rfl (fun v2 => ?_)
    refine jo_pure rfl (pr_assign rfl) (jo_nil (jq_then (jc_ret (j_pull1 (j_drop ?_)))))
    refine j_pull1 (j_drop (j_pull1 (j_drop (j_pull1 (j_drop ?_)))))
    exact jq_ret1 rfl v2 rfl (show (v2 : Value) = (v2) from rfl) (fun _ h => by rw [norm_yes h1 (by simpa using h2), ← hacf]; exact h)

theorem c_ref10_NormalizeFields (kind : Int) (l : List ((List UInt8) × (List UInt8))) (lv : Value) (vs : List (List UInt8)) (vsv : Value) (hl : l.length ≤ 1000) (hm : ∀ x ∈ l, x.1.length ≤ 20000 ∧ x.2.length ≤ 20000) (hvl : vs.length ≤ 100) (hvm : ∀ v ∈ vs, v.length ≤ 15000) : Con Tryz.prog 47 #[.int .i64 (kind), lv, vsv] [.imm (.list (.pair .str .str)) (lv) (l), .imm (.list .str) (vsv) (vs)] (fun r1 : Value => r1) (fun r1 => [.row r1 35 (.pair .str .str) (normF kind l vs)]) := by
 refine con_of_J (args := [.int .i64 (kind), lv, vsv]) (n := 92) Tryz.func47 rfl (Nat.le_of_ble_eq_true rfl) rfl (fun w0 I0 m0 => ?_)
 show J _ [(0, .int .i64 (kind)), (1, lv), (2, vsv)] [.imm (.list (.pair .str .str)) (lv) (l), .imm (.list .str) (vsv) (vs)] _
 have hm3 : ∀ x ∈ l, x.1.length ≤ 300000 ∧ x.2.length ≤ 300000 := fun x hx => by have := hm x hx; omega
 have hm6 : ∀ x ∈ l, x.1.length ≤ 1000000 ∧ x.2.length ≤ 1000000 := fun x hx => by have := hm x hx; omega
 have hnk := nameK_length kind
 have hpl := prefsF_length kind l
 have hps : ∀ x ∈ (prefsF kind l).1, x.1.length ≤ 1000000 := fun x hx => by have := prefsF_short (kind := kind) (n := 20000) hm x hx; omega
 have hrm := removeF_length l (nameK kind)
 refine jc_seq (jc_region (jo_pure rfl (pr_assign rfl) (jo_nil (jq_then (jc_seq ?_)))))
 refine jc_region (jo_pure rfl (pr_move rfl) ?_)
 refine jo_callp cal_25 (c_ref10_Name kind) ⟨rfl, trivial⟩ rfl (trivial) (fun _ => ?_)
 refine jo_pure rfl (pr_assign rfl) (jo_nil (jq_then (jc_seq (jc_seq (jc_region ?_)))))
 refine jo_pure rfl (pr_move rfl) (jo_pure rfl (pr_seql rfl rfl) ?_)
 refine jo_pure rfl (pr_move rfl) (jo_gpure (j := 2) (want := false) rfl rfl rfl rfl (fun hg => pr_move rfl) ?_)
 refine jo_gpure (j := 2) (want := false) rfl rfl rfl rfl (fun hg => pr_move rfl) ?_
 refine jo_gcall (j := 2) (want := false) rfl rfl rfl cal_28 (fun hg => c_ref01_Has l lv (nameK kind) (by first | omega | exact hm3 | exact hm6 | exact hps | (have := hvm _ (getD_mem (dd := []) h2); omega) | exact hem | (rw [hinv.2.2]; exact hem) | (have := hinv.2.1; omega)) (by first | omega | exact hm3 | exact hm6 | exact hps | (have := hvm _ (getD_mem (dd := []) h2); omega) | exact hem | (rw [hinv.2.2]; exact hem) | (have := hinv.2.1; omega)) (by first | omega | exact hm3 | exact hm6 | exact hps | (have := hvm _ (getD_mem (dd := []) h2); omega) | exact hem | (rw [hinv.2.2]; exact hem) | (have := hinv.2.1; omega))) (fun hg => ⟨evg rfl hg, evg rfl hg, trivial⟩) rfl (fun _ => ⟨⟨rfl, .head _⟩, trivial⟩) ?_
 refine jo_gpure (j := 2) (want := false) rfl rfl rfl rfl (fun hg => pr_not (evg rfl hg)) ?_
 refine jo_pure rfl (pr_pick_or rfl rfl rfl) ?_
 refine jo_nil (jq_then ?_)
 refine jc_cond rfl (fun h1b => ?_) (fun h1b => ?_)
 ·have h1 := (fun q => Or.imp of_decide_eq_true (fun q => id (bt_not q)) (bt_or q)) h1b
  refine jc_seq (jc_region (jo_pure rfl (pr_move rfl) (j_nil_row 35 (.pair .str .str) ?_)))
  refine jo_append_imm rfl rfl (.head _) Tryz.underlying23 ty_35 rfl (by simp only [List.length_append, List.length_cons, List.length_nil, maxLen]; omega) (by simp only [List.length_append, List.length_cons, List.length_nil]; omega) rfl (fun v1 => ?_)
  refine jo_pure rfl (pr_assign rfl) (jo_nil (jq_then (jc_ret (jq_then_ret (j_pull1 ?_)))))
  refine j_drop (j_pull1 (j_drop ?_))
  exact jq_ret1 rfl v1 rfl (show (v1 : Value) = (v1) from rfl) (fun _ h => by rw [norm_same (by simpa using h1)]; exact h)
 ·have h1 := (fun q => And.imp of_decide_eq_false (fun q => id (bf_not q)) (bf_or q)) h1b
  have hnn : ¬ nameK kind = [] ∧ 0 < (getF l (nameK kind)).length := by simpa using h1
  have hpp : (prefsF kind l).2 = true := by rw [prefs_present hnn.1]; exact decide_eq_true hnn.2
  refine jc_skip (jq_then (jc_seq (jc_region (jo_pure rfl (pr_move rfl) (jo_pure rfl (pr_move rfl) ?_)))))
  refine jo_callp cal_31 (c_ref10_Prefs kind l lv (by first | omega | exact hm3 | exact hm6 | exact hps | (have := hvm _ (getD_mem (dd := []) h2); omega) | exact hem | (rw [hinv.2.2]; exact hem) | (have := hinv.2.1; omega)) (by first | omega | exact hm3 | exact hm6 | exact hps | (have := hvm _ (getD_mem (dd := []) h2); omega) | exact hem | (rw [hinv.2.2]; exact hem) | (have := hinv.2.1; omega))) ⟨rfl, rfl, trivial⟩ rfl (⟨⟨rfl, .head _⟩, trivial⟩) (fun r1 => ?_)
  show J _ _ [.row (r1) 48 (.pair .str (.int .i64)) ((prefsF kind l).1), .imm (.list (.pair .str .str)) (lv) (l), .imm (.list .str) (vsv) (vs)] _
  refine jo_pure rfl (pr_move rfl) (jo_pure rfl (pr_extract rfl rfl) ?_)
  refine jo_pure rfl (pr_extract rfl rfl) ?_
  refine jo_pure rfl (pr_assign rfl) (jo_pure rfl (pr_assign rfl) (jo_nil (jq_then (jc_seq (j_pub_row ?_)))))
  refine jc_region (jo_pure rfl (pr_assign rfl) (jo_nil (jq_then (jc_seq (jc_seq ?_)))))
  refine jc_region (jo_pure rfl (pr_assign rfl) (jo_nil (jq_then (jc_block (j_nil_row 48 (.pair .str (.int .i64)) ?_)))))
  refine jc_loop3 (fun (i : Nat) (w : Value) (acc : List (List UInt8 × Int)) => [(0, .int .i64 (kind)), (1, lv), (2, vsv), (7, str (nameK kind)), (8, r1), (9, .bool ((prefsF kind l).2)), (10, w), (11, .int .i64 ((i : Nat) : Int))]) (fun (i : Nat) (w : Value) (acc : List (List UInt8 × Int)) => [.row (w) 48 (.pair .str (.int .i64)) (acc), .imm (.list (.pair .str (.int .i64))) (r1) ((prefsF kind l).1), .imm (.list (.pair .str .str)) (lv) (l), .imm (.list .str) (vsv) (vs)]) (fun (i : Nat) (w : Value) (acc : List (List UInt8 × Int)) => i ≤ vs.length ∧ acc.length ≤ i ∧ acc = exactF kind (prefsF kind l).1 (vs.take i)) (fun (i : Nat) (w : Value) (acc : List (List UInt8 × Int)) => vs.length - i) 0 (.slice none 0 0) [] (⟨Nat.zero_le _, Nat.le_refl _, rfl⟩) (⟨rfl, rfl, rfl, rfl, rfl, rfl, rfl, rfl, trivial⟩) (fun _ h => h) (fun i w acc hinv => ?_)
  refine jc_seq (jc_seq (jc_region (jo_pure rfl (pr_move rfl) (jo_pure rfl (pr_move rfl) (jo_pure rfl (pr_len_imm rfl (.tail _ (.tail _ (.tail _ (.head _)))) Tryz.underlying29) ?_)))))
  refine jo_pure rfl (pr_lssN (m := i) (n := vs.length) rfl rfl) ?_
  refine jo_nil (jq_then ?_)
  refine jc_cond rfl (fun h2b => ?_) (fun h2b => ?_)
  ·have h2 := of_decide_eq_true h2b
   refine jc_skip (jq_then (jc_seq (jc_block (jc_seq (jc_region ?_)))))
   refine jo_pure rfl (pr_move rfl) (jo_pure rfl (pr_move rfl) (jo_pure rfl (pr_idx_imm (i := i) rfl (.tail _ (.tail _ (.tail _ (.head _)))) rfl Tryz.underlying29 ty_9 (by first | omega | (simp at hg; omega))) ?_))
   refine jo_pure rfl (pr_load_elem_imm (i := i) (str (vs.getD i [])) rfl (.tail _ (.tail _ (.tail _ (.head _)))) ty_9 rfl rfl (by first | omega | (simp at hg; omega)) rfl) ?_
   refine jo_callp cal_64 (c_ref01_Token (vs.getD i []) (by first | omega | exact hm3 | exact hm6 | exact hps | (have := hvm _ (getD_mem (dd := []) h2); omega) | exact hem | (rw [hinv.2.2]; exact hem) | (have := hinv.2.1; omega))) ⟨rfl, trivial⟩ rfl (trivial) (fun _ => ?_)
   refine jo_pure rfl (pr_move rfl) (jo_gpure (j := 5) (want := true) rfl rfl rfl rfl (fun hg => pr_move rfl) ?_)
   refine jo_gpure (j := 5) (want := true) rfl rfl rfl rfl (fun hg => pr_move rfl) ?_
   refine jo_gpure (j := 5) (want := true) rfl rfl rfl rfl (fun hg => pr_idx_imm (i := i) (evg rfl hg) (.tail _ (.tail _ (.tail _ (.head _)))) (evg rfl hg) Tryz.underlying29 ty_9 (by first | omega | (simp at hg; omega))) ?_
   refine jo_gpure (j := 5) (want := true) rfl rfl rfl rfl (fun hg => pr_load_elem_imm (i := i) (str (vs.getD i [])) (evg rfl hg) (.tail _ (.tail _ (.tail _ (.head _)))) ty_9 rfl rfl (by first | omega | (simp at hg; omega)) rfl) ?_
   refine jo_gpure (j := 5) (want := true) rfl rfl rfl rfl (fun hg => pr_sneq (evg rfl hg) rfl) ?_
   refine jo_pure rfl (pr_pick_and rfl rfl rfl) ?_
   refine jo_pure rfl (pr_assign rfl) (jo_nil (jq_then (jc_seq (jc_seq (jc_region ?_)))))
   refine jo_pure rfl (pr_move rfl) (jo_pure rfl (pr_eql (n := 1) rfl rfl) ?_)
   refine jo_nil (jq_then ?_)
   refine jc_cond rfl (fun h3b => ?_) (fun h3b => ?_)
   ·have h3 := of_decide_eq_true h3b
    refine jc_region (jo_pure rfl (pr_move rfl) (jo_pure rfl (pr_move rfl) (jo_pure rfl (pr_idx_imm (i := i) rfl (.tail _ (.tail _ (.tail _ (.head _)))) rfl Tryz.underlying29 ty_9 (by first | omega | (simp at hg; omega))) ?_)))
    refine jo_pure rfl (pr_load_elem_imm (i := i) (str (vs.getD i [])) rfl (.tail _ (.tail _ (.tail _ (.head _)))) ty_9 rfl rfl (by first | omega | (simp at hg; omega)) rfl) ?_
    refine jo_callp cal_61 (c_ref10_ParseType (vs.getD i []) (by first | omega | exact hm3 | exact hm6 | exact hps | (have := hvm _ (getD_mem (dd := []) h2); omega) | exact hem | (rw [hinv.2.2]; exact hem) | (have := hinv.2.1; omega))) ⟨rfl, trivial⟩ rfl (trivial) (fun r2 => ?_)
    show J _ _ [.row (r2) 102 (.pair .str .str) ((parseT (vs.getD i [])).1.2.2), .row (w) 48 (.pair .str (.int .i64)) (acc), .imm (.list (.pair .str (.int .i64))) (r1) ((prefsF kind l).1), .imm (.list (.pair .str .str)) (lv) (l), .imm (.list .str) (vsv) (vs)] _
    refine jo_pure rfl (pr_move rfl) (jo_pure rfl (pr_extract rfl rfl) ?_)
    refine jo_pure rfl (pr_extract rfl rfl) ?_
    refine jo_pure rfl (pr_assign rfl) (jo_nil (jq_then (jc_seq (jc_seq (jc_region ?_)))))
    refine jo_pure rfl (pr_move rfl) (jo_pure rfl (pr_eql (n := 2) rfl rfl) ?_)
    refine jo_nil (jq_then ?_)
    refine jc_cond rfl (fun h4b => ?_) (fun h4b => ?_)
    ·have h4 := of_decide_eq_true h4b
     exact absurd h4 (by omega)
    ·have h4 := of_decide_eq_false h4b
     refine jc_skip (jq_then (jc_seq (jc_region (jo_pure rfl (pr_move rfl) (jo_nil ?_)))))
     refine jq_then ?_
     refine jc_cond rfl (fun h5b => ?_) (fun h5b => ?_)
     ·have h5 := id h5b
      refine j_pull1 ?_
      refine jc_held (fun (v2 : Value) => [(0, .int .i64 (kind)), (1, lv), (2, vsv), (7, str (nameK kind)), (8, r1), (9, .bool ((prefsF kind l).2)), (10, v2), (11, .int .i64 ((i : Nat) : Int))]) (fun v2 => [.row (v2) 48 (.pair .str (.int .i64)) (acc ++ [(vs.getD i [], qualF kind ((prefsF kind l).1) ((prefsF kind l).2) (vs.getD i []))]), .row (r2) 102 (.pair .str .str) ((parseT (vs.getD i [])).1.2.2), .imm (.list (.pair .str (.int .i64))) (r1) ((prefsF kind l).1), .imm (.list (.pair .str .str)) (lv) (l), .imm (.list .str) (vsv) (vs)]) [.row (r2) 102 (.pair .str .str) ((parseT (vs.getD i [])).1.2.2), .imm (.list (.pair .str (.int .i64))) (r1) ((prefsF kind l).1), .imm (.list (.pair .str .str)) (lv) (l), .imm (.list .str) (vsv) (vs)] mixed (fun lst hlst => ?_) (fun v2 => ?_)
      ·subst hlst
       refine jh_take (listed' := #[true, false, false, false, false, false, false, false, false, false, false, false, false, false, false, false, false]) 0 rfl (by kernel_rfl) (by kernel_rfl) (by kernel_rfl) rfl (pr_move rfl) (fun _ h => Mem.drop1 (h)) rfl ?_
       refine jh_take (listed' := #[true, true, false, false, false, false, false, false, false, false, false, false, false, false, false, false, false]) 1 rfl (by kernel_rfl) (by kernel_rfl) (by kernel_rfl) rfl (pr_move rfl) (fun _ h => Mem.drop1 (h)) rfl ?_
       refine jh_take (listed' := #[true, true, true, false, false, false, false, false, false, false, false, false, false, false, false, false, false]) 2 rfl (by kernel_rfl) (by kernel_rfl) (by kernel_rfl) rfl (pr_move rfl) (fun _ h => Mem.drop1 (h)) rfl ?_
       refine jh_take (listed' := #[true, true, true, true, false, false, false, false, false, false, false, false, false, false, false, false, false]) 3 rfl (by kernel_rfl) (by kernel_rfl) (by kernel_rfl) rfl (pr_idx_imm (i := i) rfl (.tail _ (.tail _ (.tail _ (.head _)))) rfl Tryz.underlying29 ty_9 (by first | omega | (simp at hg; omega))) (fun _ h => Mem.drop1 (h)) rfl ?_
       refine jh_take (listed' := #[true, true, true, true, true, false, false, false, false, false, false, false, false, false, false, false, false]) 4 rfl (by kernel_rfl) (by kernel_rfl) (by kernel_rfl) rfl (pr_load_elem_imm (i := i) (str (vs.getD i [])) rfl (.tail _ (.tail _ (.tail _ (.head _)))) ty_9 rfl rfl (by first | omega | (simp at hg; omega)) rfl) (fun _ h => Mem.drop1 (h)) rfl ?_
       refine jh_take (listed' := #[true, true, true, true, true, true, false, false, false, false, false, false, false, false, false, false, false]) 5 rfl (by kernel_rfl) (by kernel_rfl) (by kernel_rfl) rfl (pr_move rfl) (fun _ h => Mem.drop1 (h)) rfl ?_
       refine jh_take (listed' := #[true, true, true, true, true, true, true, false, false, false, false, false, false, false, false, false, false]) 6 rfl (by kernel_rfl) (by kernel_rfl) (by kernel_rfl) rfl (pr_move rfl) (fun _ h => Mem.drop1 (h)) rfl ?_
       refine jh_take (listed' := #[true, true, true, true, true, true, true, true, false, false, false, false, false, false, false, false, false]) 7 rfl (by kernel_rfl) (by kernel_rfl) (by kernel_rfl) rfl (pr_move rfl) (fun _ h => Mem.drop1 (h)) rfl ?_
       refine jh_take (listed' := #[true, true, true, true, true, true, true, true, true, false, false, false, false, false, false, false, false]) 8 rfl (by kernel_rfl) (by kernel_rfl) (by kernel_rfl) rfl (pr_move rfl) (fun _ h => Mem.drop1 (h)) rfl ?_
       refine jh_take (listed' := #[true, true, true, true, true, true, true, true, true, true, false, false, false, false, false, false, false]) 9 rfl (by kernel_rfl) (by kernel_rfl) (by kernel_rfl) rfl (pr_move rfl) (fun _ h => Mem.drop1 (h)) rfl ?_
       refine jh_take (listed' := #[true, true, true, true, true, true, true, true, true, true, true, false, false, false, false, false, false]) 10 rfl (by kernel_rfl) (by kernel_rfl) (by kernel_rfl) rfl (pr_idx_imm (i := i) rfl (.tail _ (.tail _ (.tail _ (.head _)))) rfl Tryz.underlying29 ty_9 (by first | omega | (simp at hg; omega))) (fun _ h => Mem.drop1 (h)) rfl ?_
       refine jh_take (listed' := #[true, true, true, true, true, true, true, true, true, true, true, true, false, false, false, false, false]) 11 rfl (by kernel_rfl) (by kernel_rfl) (by kernel_rfl) rfl (pr_load_elem_imm (i := i) (str (vs.getD i [])) rfl (.tail _ (.tail _ (.tail _ (.head _)))) ty_9 rfl rfl (by first | omega | (simp at hg; omega)) rfl) (fun _ h => Mem.drop1 (h)) rfl ?_
       refine jh_all [12] (by kernel_rfl) (by simp) (fun i hi => ?_)
       simp only [List.mem_cons, List.not_mem_nil, or_false] at hi
       subst hi
       ·refine jh_op rfl ?_
        refine jo_callp cal_85 (c_ref10_Quality kind ((prefsF kind l).1) r1 ((prefsF kind l).2) (vs.getD i []) (by first | omega | exact hm3 | exact hm6 | exact hps | (have := hvm _ (getD_mem (dd := []) h2); omega) | exact hem | (rw [hinv.2.2]; exact hem) | (have := hinv.2.1; omega)) (by first | omega | exact hm3 | exact hm6 | exact hps | (have := hvm _ (getD_mem (dd := []) h2); omega) | exact hem | (rw [hinv.2.2]; exact hem) | (have := hinv.2.1; omega)) (by first | omega | exact hm3 | exact hm6 | exact hps | (have := hvm _ (getD_mem (dd := []) h2); omega) | exact hem | (rw [hinv.2.2]; exact hem) | (have := hinv.2.1; omega))) ⟨rfl, rfl, rfl, rfl, trivial⟩ rfl (⟨⟨rfl, .tail _ (.tail _ (.head _))⟩, trivial⟩) (fun _ => ?_)
        refine jh_in (listed' := #[true, true, true, true, true, true, true, true, true, true, true, true, true, false, false, false, false]) (fun _ h => Mem.drop1 (h)) rfl ?_
        refine jh_take (listed' := #[true, true, true, true, true, true, true, true, true, true, true, true, true, true, false, false, false]) 13 rfl (by kernel_rfl) (by kernel_rfl) (by kernel_rfl) rfl (pr_build [(0, str (vs.getD i [])), (1, .int .i64 (qualF kind ((prefsF kind l).1) ((prefsF kind l).2) (vs.getD i [])))] [str (vs.getD i []), .int .i64 (qualF kind ((prefsF kind l).1) ((prefsF kind l).2) (vs.getD i []))] (fun a hf => by simp only [List.map_toArray, List.map_cons, List.map_nil, hf.ev (show ev _ (.tmp 71) = some (str (vs.getD i [])) from rfl), hf.ev (show ev _ (.tmp 79) = some (.int .i64 (qualF kind ((prefsF kind l).1) ((prefsF kind l).2) (vs.getD i []))) from rfl)]) (by kernel_rfl)) (fun _ h => Mem.drop1 (h)) rfl ?_
        refine jh_all [14] (by kernel_rfl) (by simp) (fun i hi => ?_)
        simp only [List.mem_cons, List.not_mem_nil, or_false] at hi
        subst hi
        ·refine jh_op rfl ?_
         refine jo_buildSlice (t := (.pair .str (.int .i64))) [(vs.getD i [], qualF kind ((prefsF kind l).1) ((prefsF kind l).2) (vs.getD i []))] [.agg #[str (vs.getD i []), .int .i64 (qualF kind ((prefsF kind l).1) ((prefsF kind l).2) (vs.getD i []))]] (fun a hf => by simp only [List.zipIdx_cons, List.zipIdx_nil, List.map_toArray, List.map_cons, List.map_nil, hf.ev (show ev _ (.tmp 80) = some (.agg #[str (vs.getD i []), .int .i64 (qualF kind ((prefsF kind l).1) ((prefsF kind l).2) (vs.getD i []))]) from rfl)] <;> rfl) rfl Tryz.underlying43 ty_48 rfl rfl rfl rfl rfl (fun g1 => ?_)
         refine jh_in (listed' := #[true, true, true, true, true, true, true, true, true, true, true, true, true, true, true, false, false]) (fun _ h => Mem.drop1 (Mem.drop1 (h))) rfl ?_
         refine jh_all [15] (by kernel_rfl) (by simp) (fun i hi => ?_)
         simp only [List.mem_cons, List.not_mem_nil, or_false] at hi
         subst hi
         ·refine jh_op rfl ?_
          refine j_pull1 ?_
          refine jo_append rfl rfl Tryz.underlying43 ty_48 rfl (by simp only [List.length_append, List.length_cons, List.length_nil, maxLen]; omega) (by simp only [List.length_append, List.length_cons, List.length_nil]; omega) rfl (fun v2 => ?_)
          refine jh_in (listed' := #[true, true, true, true, true, true, true, true, true, true, true, true, true, true, true, true, false]) (fun _ h => Mem.drop1 (h)) rfl ?_
          refine jh_take (listed' := #[true, true, true, true, true, true, true, true, true, true, true, true, true, true, true, true, true]) 16 rfl (by kernel_rfl) (by kernel_rfl) (by kernel_rfl) rfl (pr_assign rfl) (fun _ h => Mem.drop1 (h)) rfl ?_
          show J _ _ _ _
          refine j_pull4 ?_
          refine j_pull4 ?_
          refine j_pull4 ?_
          refine j_pull4 ?_
          refine j_pull4 ?_
          show JH _ _ _ _ _ _ _ _
          exact jh_done v2 (by kernel_rfl) ⟨rfl, rfl, rfl, rfl, rfl, rfl, rfl, rfl, trivial⟩ (fun _ h => h)
      ·skip
       refine jq_in_normal (jq_then (jc_region (jo_pure rfl (pr_move rfl) (jo_pure rfl (pr_addN (m := i) (n := 1) rfl rfl (by omega)) ?_))))
       refine jo_pure rfl (pr_assign rfl) (jo_nil (j_pull1 (j_drop (j_pull3 (j_pull3 ?_)))))
       refine j_pull3 (j_pull3 ?_)
       refine jq_round' ((i + 1), v2, (acc ++ [(vs.getD i [], qualF kind ((prefsF kind l).1) ((prefsF kind l).2) (vs.getD i []))])) (by (try dsimp only); exact (⟨by omega, by simp only [List.length_append, List.length_cons, List.length_nil]; omega, by rw [exact_hit h2 (by rw [read_1 h3]; exact h5), hinv.2.2, hpp]⟩)) (by (try dsimp only); exact (by omega)) ⟨rfl, rfl, rfl, rfl, rfl, rfl, rfl, rfl, trivial⟩ (fun _ h => h)
     ·have h5 := id h5b
      refine jc_skip (jq_in_normal (jq_then (jc_region (jo_pure rfl (pr_move rfl) (jo_pure rfl (pr_addN (m := i) (n := 1) rfl rfl (by omega)) ?_)))))
      refine jo_pure rfl (pr_assign rfl) (jo_nil (j_drop (j_pull3 (j_pull3 (j_pull3 ?_)))))
      refine j_pull3 ?_
      refine jq_round' ((i + 1), w, acc) (by (try dsimp only); exact (⟨by omega, by omega, by rw [exact_miss h2 (by rw [read_1 h3]; exact h5), hinv.2.2]⟩)) (by (try dsimp only); exact (by omega)) ⟨rfl, rfl, rfl, rfl, rfl, rfl, rfl, rfl, trivial⟩ (fun _ h => h)
   ·have h3 := of_decide_eq_false h3b
    refine jc_skip (jq_then (jc_seq (jc_seq (jc_region (jo_pure rfl (pr_move rfl) ?_)))))
    refine jo_pure rfl (pr_eql (n := 2) rfl rfl) ?_
    refine jo_nil (jq_then ?_)
    refine jc_cond rfl (fun h6b => ?_) (fun h6b => ?_)
    ·have h6 := of_decide_eq_true h6b
     refine jc_region (jo_pure rfl (pr_move rfl) (jo_pure rfl (pr_move rfl) (jo_pure rfl (pr_idx_imm (i := i) rfl (.tail _ (.tail _ (.tail _ (.head _)))) rfl Tryz.underlying29 ty_9 (by first | omega | (simp at hg; omega))) ?_)))
     refine jo_pure rfl (pr_load_elem_imm (i := i) (str (vs.getD i [])) rfl (.tail _ (.tail _ (.tail _ (.head _)))) ty_9 rfl rfl (by first | omega | (simp at hg; omega)) rfl) ?_
     refine jo_callp cal_84 (c_ref10_Tag (vs.getD i []) (by first | omega | exact hm3 | exact hm6 | exact hps | (have := hvm _ (getD_mem (dd := []) h2); omega) | exact hem | (rw [hinv.2.2]; exact hem) | (have := hinv.2.1; omega))) ⟨rfl, trivial⟩ rfl (trivial) (fun _ => ?_)
     refine jo_pure rfl (pr_assign rfl) (jo_nil (jq_then (jc_seq (jc_region (jo_pure rfl (pr_move rfl) ?_)))))
     refine jo_nil (jq_then ?_)
     refine jc_cond rfl (fun h7b => ?_) (fun h7b => ?_)
     ·have h7 := id h7b
      refine jc_held (fun (v3 : Value) => [(0, .int .i64 (kind)), (1, lv), (2, vsv), (7, str (nameK kind)), (8, r1), (9, .bool ((prefsF kind l).2)), (10, v3), (11, .int .i64 ((i : Nat) : Int))]) (fun v3 => [.row (v3) 48 (.pair .str (.int .i64)) (acc ++ [(vs.getD i [], qualF kind ((prefsF kind l).1) ((prefsF kind l).2) (vs.getD i []))]), .imm (.list (.pair .str (.int .i64))) (r1) ((prefsF kind l).1), .imm (.list (.pair .str .str)) (lv) (l), .imm (.list .str) (vsv) (vs)]) [.imm (.list (.pair .str (.int .i64))) (r1) ((prefsF kind l).1), .imm (.list (.pair .str .str)) (lv) (l), .imm (.list .str) (vsv) (vs)] mixed (fun lst hlst => ?_) (fun v3 => ?_)
      ·subst hlst
       refine jh_take (listed' := #[true, false, false, false, false, false, false, false, false, false, false, false, false, false, false, false, false]) 0 rfl (by kernel_rfl) (by kernel_rfl) (by kernel_rfl) rfl (pr_move rfl) (fun _ h => Mem.drop1 (h)) rfl ?_
       refine jh_take (listed' := #[true, true, false, false, false, false, false, false, false, false, false, false, false, false, false, false, false]) 1 rfl (by kernel_rfl) (by kernel_rfl) (by kernel_rfl) rfl (pr_move rfl) (fun _ h => Mem.drop1 (h)) rfl ?_
       refine jh_take (listed' := #[true, true, true, false, false, false, false, false, false, false, false, false, false, false, false, false, false]) 2 rfl (by kernel_rfl) (by kernel_rfl) (by kernel_rfl) rfl (pr_move rfl) (fun _ h => Mem.drop1 (h)) rfl ?_
       refine jh_take (listed' := #[true, true, true, true, false, false, false, false, false, false, false, false, false, false, false, false, false]) 3 rfl (by kernel_rfl) (by kernel_rfl) (by kernel_rfl) rfl (pr_idx_imm (i := i) rfl (.tail _ (.tail _ (.head _))) rfl Tryz.underlying29 ty_9 (by first | omega | (simp at hg; omega))) (fun _ h => Mem.drop1 (h)) rfl ?_
       refine jh_take (listed' := #[true, true, true, true, true, false, false, false, false, false, false, false, false, false, false, false, false]) 4 rfl (by kernel_rfl) (by kernel_rfl) (by kernel_rfl) rfl (pr_load_elem_imm (i := i) (str (vs.getD i [])) rfl (.tail _ (.tail _ (.head _))) ty_9 rfl rfl (by first | omega | (simp at hg; omega)) rfl) (fun _ h => Mem.drop1 (h)) rfl ?_
       refine jh_take (listed' := #[true, true, true, true, true, true, false, false, false, false, false, false, false, false, false, false, false]) 5 rfl (by kernel_rfl) (by kernel_rfl) (by kernel_rfl) rfl (pr_move rfl) (fun _ h => Mem.drop1 (h)) rfl ?_
       refine jh_take (listed' := #[true, true, true, true, true, true, true, false, false, false, false, false, false, false, false, false, false]) 6 rfl (by kernel_rfl) (by kernel_rfl) (by kernel_rfl) rfl (pr_move rfl) (fun _ h => Mem.drop1 (h)) rfl ?_
       refine jh_take (listed' := #[true, true, true, true, true, true, true, true, false, false, false, false, false, false, false, false, false]) 7 rfl (by kernel_rfl) (by kernel_rfl) (by kernel_rfl) rfl (pr_move rfl) (fun _ h => Mem.drop1 (h)) rfl ?_
       refine jh_take (listed' := #[true, true, true, true, true, true, true, true, true, false, false, false, false, false, false, false, false]) 8 rfl (by kernel_rfl) (by kernel_rfl) (by kernel_rfl) rfl (pr_move rfl) (fun _ h => Mem.drop1 (h)) rfl ?_
       refine jh_take (listed' := #[true, true, true, true, true, true, true, true, true, true, false, false, false, false, false, false, false]) 9 rfl (by kernel_rfl) (by kernel_rfl) (by kernel_rfl) rfl (pr_move rfl) (fun _ h => Mem.drop1 (h)) rfl ?_
       refine jh_take (listed' := #[true, true, true, true, true, true, true, true, true, true, true, false, false, false, false, false, false]) 10 rfl (by kernel_rfl) (by kernel_rfl) (by kernel_rfl) rfl (pr_idx_imm (i := i) rfl (.tail _ (.tail _ (.head _))) rfl Tryz.underlying29 ty_9 (by first | omega | (simp at hg; omega))) (fun _ h => Mem.drop1 (h)) rfl ?_
       refine jh_take (listed' := #[true, true, true, true, true, true, true, true, true, true, true, true, false, false, false, false, false]) 11 rfl (by kernel_rfl) (by kernel_rfl) (by kernel_rfl) rfl (pr_load_elem_imm (i := i) (str (vs.getD i [])) rfl (.tail _ (.tail _ (.head _))) ty_9 rfl rfl (by first | omega | (simp at hg; omega)) rfl) (fun _ h => Mem.drop1 (h)) rfl ?_
       refine jh_all [12] (by kernel_rfl) (by simp) (fun i hi => ?_)
       simp only [List.mem_cons, List.not_mem_nil, or_false] at hi
       subst hi
       ·refine jh_op rfl ?_
        refine jo_callp cal_85 (c_ref10_Quality kind ((prefsF kind l).1) r1 ((prefsF kind l).2) (vs.getD i []) (by first | omega | exact hm3 | exact hm6 | exact hps | (have := hvm _ (getD_mem (dd := []) h2); omega) | exact hem | (rw [hinv.2.2]; exact hem) | (have := hinv.2.1; omega)) (by first | omega | exact hm3 | exact hm6 | exact hps | (have := hvm _ (getD_mem (dd := []) h2); omega) | exact hem | (rw [hinv.2.2]; exact hem) | (have := hinv.2.1; omega)) (by first | omega | exact hm3 | exact hm6 | exact hps | (have := hvm _ (getD_mem (dd := []) h2); omega) | exact hem | (rw [hinv.2.2]; exact hem) | (have := hinv.2.1; omega))) ⟨rfl, rfl, rfl, rfl, trivial⟩ rfl (⟨⟨rfl, .tail _ (.head _)⟩, trivial⟩) (fun _ => ?_)
        refine jh_in (listed' := #[true, true, true, true, true, true, true, true, true, true, true, true, true, false, false, false, false]) (fun _ h => Mem.drop1 (h)) rfl ?_
        refine jh_take (listed' := #[true, true, true, true, true, true, true, true, true, true, true, true, true, true, false, false, false]) 13 rfl (by kernel_rfl) (by kernel_rfl) (by kernel_rfl) rfl (pr_build [(0, str (vs.getD i [])), (1, .int .i64 (qualF kind ((prefsF kind l).1) ((prefsF kind l).2) (vs.getD i [])))] [str (vs.getD i []), .int .i64 (qualF kind ((prefsF kind l).1) ((prefsF kind l).2) (vs.getD i []))] (fun a hf => by simp only [List.map_toArray, List.map_cons, List.map_nil, hf.ev (show ev _ (.tmp 71) = some (str (vs.getD i [])) from rfl), hf.ev (show ev _ (.tmp 79) = some (.int .i64 (qualF kind ((prefsF kind l).1) ((prefsF kind l).2) (vs.getD i []))) from rfl)]) (by kernel_rfl)) (fun _ h => Mem.drop1 (h)) rfl ?_
        refine jh_all [14] (by kernel_rfl) (by simp) (fun i hi => ?_)
        simp only [List.mem_cons, List.not_mem_nil, or_false] at hi
        subst hi
        ·refine jh_op rfl ?_
         refine jo_buildSlice (t := (.pair .str (.int .i64))) [(vs.getD i [], qualF kind ((prefsF kind l).1) ((prefsF kind l).2) (vs.getD i []))] [.agg #[str (vs.getD i []), .int .i64 (qualF kind ((prefsF kind l).1) ((prefsF kind l).2) (vs.getD i []))]] (fun a hf => by simp only [List.zipIdx_cons, List.zipIdx_nil, List.map_toArray, List.map_cons, List.map_nil, hf.ev (show ev _ (.tmp 80) = some (.agg #[str (vs.getD i []), .int .i64 (qualF kind ((prefsF kind l).1) ((prefsF kind l).2) (vs.getD i []))]) from rfl)] <;> rfl) rfl Tryz.underlying43 ty_48 rfl rfl rfl rfl rfl (fun g2 => ?_)
         refine jh_in (listed' := #[true, true, true, true, true, true, true, true, true, true, true, true, true, true, true, false, false]) (fun _ h => Mem.drop1 (Mem.drop1 (h))) rfl ?_
         refine jh_all [15] (by kernel_rfl) (by simp) (fun i hi => ?_)
         simp only [List.mem_cons, List.not_mem_nil, or_false] at hi
         subst hi
         ·refine jh_op rfl ?_
          refine j_pull1 ?_
          refine jo_append rfl rfl Tryz.underlying43 ty_48 rfl (by simp only [List.length_append, List.length_cons, List.length_nil, maxLen]; omega) (by simp only [List.length_append, List.length_cons, List.length_nil]; omega) rfl (fun v3 => ?_)
          refine jh_in (listed' := #[true, true, true, true, true, true, true, true, true, true, true, true, true, true, true, true, false]) (fun _ h => Mem.drop1 (h)) rfl ?_
          refine jh_take (listed' := #[true, true, true, true, true, true, true, true, true, true, true, true, true, true, true, true, true]) 16 rfl (by kernel_rfl) (by kernel_rfl) (by kernel_rfl) rfl (pr_assign rfl) (fun _ h => Mem.drop1 (h)) rfl ?_
          show J _ _ _ _
          refine j_pull3 (j_pull3 (j_pull3 (j_pull3 ?_)))
          show JH _ _ _ _ _ _ _ _
          exact jh_done v3 (by kernel_rfl) ⟨rfl, rfl, rfl, rfl, rfl, rfl, rfl, rfl, trivial⟩ (fun _ h => h)
      ·skip
       refine jq_in_normal (jq_then (jc_region (jo_pure rfl (pr_move rfl) (jo_pure rfl (pr_addN (m := i) (n := 1) rfl rfl (by omega)) ?_))))
       refine jo_pure rfl (pr_assign rfl) (jo_nil (j_pull3 (j_pull3 (j_pull3 (j_pull3 ?_)))))
       refine jq_round' ((i + 1), v3, (acc ++ [(vs.getD i [], qualF kind ((prefsF kind l).1) ((prefsF kind l).2) (vs.getD i []))])) (by (try dsimp only); exact (⟨by omega, by simp only [List.length_append, List.length_cons, List.length_nil]; omega, by rw [exact_hit h2 (by rw [read_2 h3 h6]; exact h7), hinv.2.2, hpp]⟩)) (by (try dsimp only); exact (by omega)) ⟨rfl, rfl, rfl, rfl, rfl, rfl, rfl, rfl, trivial⟩ (fun _ h => h)
     ·have h7 := id h7b
      refine jc_skip (jq_in_normal (jq_then (jc_region (jo_pure rfl (pr_move rfl) (jo_pure rfl (pr_addN (m := i) (n := 1) rfl rfl (by omega)) ?_)))))
      refine jo_pure rfl (pr_assign rfl) (jo_nil (j_pull3 (j_pull3 (j_pull3 (j_pull3 ?_)))))
      refine jq_round' ((i + 1), w, acc) (by (try dsimp only); exact (⟨by omega, by omega, by rw [exact_miss h2 (by rw [read_2 h3 h6]; exact h7), hinv.2.2]⟩)) (by (try dsimp only); exact (by omega)) ⟨rfl, rfl, rfl, rfl, rfl, rfl, rfl, rfl, trivial⟩ (fun _ h => h)
    ·have h6 := of_decide_eq_false h6b
     refine jc_skip (jq_then (jc_seq (jc_region (jo_pure rfl (pr_move rfl) (jo_nil ?_)))))
     refine jq_then ?_
     refine jc_cond rfl (fun h8b => ?_) (fun h8b => ?_)
     ·have h8 := (fun q => And.imp id (fun q => of_decide_eq_false (bt_not q)) (bt_and q)) h8b
      refine jc_held (fun (v4 : Value) => [(0, .int .i64 (kind)), (1, lv), (2, vsv), (7, str (nameK kind)), (8, r1), (9, .bool ((prefsF kind l).2)), (10, v4), (11, .int .i64 ((i : Nat) : Int))]) (fun v4 => [.row (v4) 48 (.pair .str (.int .i64)) (acc ++ [(vs.getD i [], qualF kind ((prefsF kind l).1) ((prefsF kind l).2) (vs.getD i []))]), .imm (.list (.pair .str (.int .i64))) (r1) ((prefsF kind l).1), .imm (.list (.pair .str .str)) (lv) (l), .imm (.list .str) (vsv) (vs)]) [.imm (.list (.pair .str (.int .i64))) (r1) ((prefsF kind l).1), .imm (.list (.pair .str .str)) (lv) (l), .imm (.list .str) (vsv) (vs)] mixed (fun lst hlst => ?_) (fun v4 => ?_)
      ·subst hlst
       refine jh_take (listed' := #[true, false, false, false, false, false, false, false, false, false, false, false, false, false, false, false, false]) 0 rfl (by kernel_rfl) (by kernel_rfl) (by kernel_rfl) rfl (pr_move rfl) (fun _ h => Mem.drop1 (h)) rfl ?_
       refine jh_take (listed' := #[true, true, false, false, false, false, false, false, false, false, false, false, false, false, false, false, false]) 1 rfl (by kernel_rfl) (by kernel_rfl) (by kernel_rfl) rfl (pr_move rfl) (fun _ h => Mem.drop1 (h)) rfl ?_
       refine jh_take (listed' := #[true, true, true, false, false, false, false, false, false, false, false, false, false, false, false, false, false]) 2 rfl (by kernel_rfl) (by kernel_rfl) (by kernel_rfl) rfl (pr_move rfl) (fun _ h => Mem.drop1 (h)) rfl ?_
       refine jh_take (listed' := #[true, true, true, true, false, false, false, false, false, false, false, false, false, false, false, false, false]) 3 rfl (by kernel_rfl) (by kernel_rfl) (by kernel_rfl) rfl (pr_idx_imm (i := i) rfl (.tail _ (.tail _ (.head _))) rfl Tryz.underlying29 ty_9 (by first | omega | (simp at hg; omega))) (fun _ h => Mem.drop1 (h)) rfl ?_
       refine jh_take (listed' := #[true, true, true, true, true, false, false, false, false, false, false, false, false, false, false, false, false]) 4 rfl (by kernel_rfl) (by kernel_rfl) (by kernel_rfl) rfl (pr_load_elem_imm (i := i) (str (vs.getD i [])) rfl (.tail _ (.tail _ (.head _))) ty_9 rfl rfl (by first | omega | (simp at hg; omega)) rfl) (fun _ h => Mem.drop1 (h)) rfl ?_
       refine jh_take (listed' := #[true, true, true, true, true, true, false, false, false, false, false, false, false, false, false, false, false]) 5 rfl (by kernel_rfl) (by kernel_rfl) (by kernel_rfl) rfl (pr_move rfl) (fun _ h => Mem.drop1 (h)) rfl ?_
       refine jh_take (listed' := #[true, true, true, true, true, true, true, false, false, false, false, false, false, false, false, false, false]) 6 rfl (by kernel_rfl) (by kernel_rfl) (by kernel_rfl) rfl (pr_move rfl) (fun _ h => Mem.drop1 (h)) rfl ?_
       refine jh_take (listed' := #[true, true, true, true, true, true, true, true, false, false, false, false, false, false, false, false, false]) 7 rfl (by kernel_rfl) (by kernel_rfl) (by kernel_rfl) rfl (pr_move rfl) (fun _ h => Mem.drop1 (h)) rfl ?_
       refine jh_take (listed' := #[true, true, true, true, true, true, true, true, true, false, false, false, false, false, false, false, false]) 8 rfl (by kernel_rfl) (by kernel_rfl) (by kernel_rfl) rfl (pr_move rfl) (fun _ h => Mem.drop1 (h)) rfl ?_
       refine jh_take (listed' := #[true, true, true, true, true, true, true, true, true, true, false, false, false, false, false, false, false]) 9 rfl (by kernel_rfl) (by kernel_rfl) (by kernel_rfl) rfl (pr_move rfl) (fun _ h => Mem.drop1 (h)) rfl ?_
       refine jh_take (listed' := #[true, true, true, true, true, true, true, true, true, true, true, false, false, false, false, false, false]) 10 rfl (by kernel_rfl) (by kernel_rfl) (by kernel_rfl) rfl (pr_idx_imm (i := i) rfl (.tail _ (.tail _ (.head _))) rfl Tryz.underlying29 ty_9 (by first | omega | (simp at hg; omega))) (fun _ h => Mem.drop1 (h)) rfl ?_
       refine jh_take (listed' := #[true, true, true, true, true, true, true, true, true, true, true, true, false, false, false, false, false]) 11 rfl (by kernel_rfl) (by kernel_rfl) (by kernel_rfl) rfl (pr_load_elem_imm (i := i) (str (vs.getD i [])) rfl (.tail _ (.tail _ (.head _))) ty_9 rfl rfl (by first | omega | (simp at hg; omega)) rfl) (fun _ h => Mem.drop1 (h)) rfl ?_
       refine jh_all [12] (by kernel_rfl) (by simp) (fun i hi => ?_)
       simp only [List.mem_cons, List.not_mem_nil, or_false] at hi
       subst hi
       ·refine jh_op rfl ?_
        refine jo_callp cal_85 (c_ref10_Quality kind ((prefsF kind l).1) r1 ((prefsF kind l).2) (vs.getD i []) (by first | omega | exact hm3 | exact hm6 | exact hps | (have := hvm _ (getD_mem (dd := []) h2); omega) | exact hem | (rw [hinv.2.2]; exact hem) | (have := hinv.2.1; omega)) (by first | omega | exact hm3 | exact hm6 | exact hps | (have := hvm _ (getD_mem (dd := []) h2); omega) | exact hem | (rw [hinv.2.2]; exact hem) | (have := hinv.2.1; omega)) (by first | omega | exact hm3 | exact hm6 | exact hps | (have := hvm _ (getD_mem (dd := []) h2); omega) | exact hem | (rw [hinv.2.2]; exact hem) | (have := hinv.2.1; omega))) ⟨rfl, rfl, rfl, rfl, trivial⟩ rfl (⟨⟨rfl, .tail _ (.head _)⟩, trivial⟩) (fun _ => ?_)
        refine jh_in (listed' := #[true, true, true, true, true, true, true, true, true, true, true, true, true, false, false, false, false]) (fun _ h => Mem.drop1 (h)) rfl ?_
        refine jh_take (listed' := #[true, true, true, true, true, true, true, true, true, true, true, true, true, true, false, false, false]) 13 rfl (by kernel_rfl) (by kernel_rfl) (by kernel_rfl) rfl (pr_build [(0, str (vs.getD i [])), (1, .int .i64 (qualF kind ((prefsF kind l).1) ((prefsF kind l).2) (vs.getD i [])))] [str (vs.getD i []), .int .i64 (qualF kind ((prefsF kind l).1) ((prefsF kind l).2) (vs.getD i []))] (fun a hf => by simp only [List.map_toArray, List.map_cons, List.map_nil, hf.ev (show ev _ (.tmp 71) = some (str (vs.getD i [])) from rfl), hf.ev (show ev _ (.tmp 79) = some (.int .i64 (qualF kind ((prefsF kind l).1) ((prefsF kind l).2) (vs.getD i []))) from rfl)]) (by kernel_rfl)) (fun _ h => Mem.drop1 (h)) rfl ?_
        refine jh_all [14] (by kernel_rfl) (by simp) (fun i hi => ?_)
        simp only [List.mem_cons, List.not_mem_nil, or_false] at hi
        subst hi
        ·refine jh_op rfl ?_
         refine jo_buildSlice (t := (.pair .str (.int .i64))) [(vs.getD i [], qualF kind ((prefsF kind l).1) ((prefsF kind l).2) (vs.getD i []))] [.agg #[str (vs.getD i []), .int .i64 (qualF kind ((prefsF kind l).1) ((prefsF kind l).2) (vs.getD i []))]] (fun a hf => by simp only [List.zipIdx_cons, List.zipIdx_nil, List.map_toArray, List.map_cons, List.map_nil, hf.ev (show ev _ (.tmp 80) = some (.agg #[str (vs.getD i []), .int .i64 (qualF kind ((prefsF kind l).1) ((prefsF kind l).2) (vs.getD i []))]) from rfl)] <;> rfl) rfl Tryz.underlying43 ty_48 rfl rfl rfl rfl rfl (fun g3 => ?_)
         refine jh_in (listed' := #[true, true, true, true, true, true, true, true, true, true, true, true, true, true, true, false, false]) (fun _ h => Mem.drop1 (Mem.drop1 (h))) rfl ?_
         refine jh_all [15] (by kernel_rfl) (by simp) (fun i hi => ?_)
         simp only [List.mem_cons, List.not_mem_nil, or_false] at hi
         subst hi
         ·refine jh_op rfl ?_
          refine j_pull1 ?_
          refine jo_append rfl rfl Tryz.underlying43 ty_48 rfl (by simp only [List.length_append, List.length_cons, List.length_nil, maxLen]; omega) (by simp only [List.length_append, List.length_cons, List.length_nil]; omega) rfl (fun v4 => ?_)
          refine jh_in (listed' := #[true, true, true, true, true, true, true, true, true, true, true, true, true, true, true, true, false]) (fun _ h => Mem.drop1 (h)) rfl ?_
          refine jh_take (listed' := #[true, true, true, true, true, true, true, true, true, true, true, true, true, true, true, true, true]) 16 rfl (by kernel_rfl) (by kernel_rfl) (by kernel_rfl) rfl (pr_assign rfl) (fun _ h => Mem.drop1 (h)) rfl ?_
          show J _ _ _ _
          refine j_pull3 (j_pull3 (j_pull3 (j_pull3 ?_)))
          show JH _ _ _ _ _ _ _ _
          exact jh_done v4 (by kernel_rfl) ⟨rfl, rfl, rfl, rfl, rfl, rfl, rfl, rfl, trivial⟩ (fun _ h => h)
      ·skip
       refine jq_in_normal (jq_then (jc_region (jo_pure rfl (pr_move rfl) (jo_pure rfl (pr_addN (m := i) (n := 1) rfl rfl (by omega)) ?_))))
       refine jo_pure rfl (pr_assign rfl) (jo_nil (j_pull3 (j_pull3 (j_pull3 (j_pull3 ?_)))))
       refine jq_round' ((i + 1), v4, (acc ++ [(vs.getD i [], qualF kind ((prefsF kind l).1) ((prefsF kind l).2) (vs.getD i []))])) (by (try dsimp only); exact (⟨by omega, by simp only [List.length_append, List.length_cons, List.length_nil]; omega, by rw [exact_hit h2 (by rw [read_3 h3 h6]; simpa using h8), hinv.2.2, hpp]⟩)) (by (try dsimp only); exact (by omega)) ⟨rfl, rfl, rfl, rfl, rfl, rfl, rfl, rfl, trivial⟩ (fun _ h => h)
     ·have h8 := (fun q => Or.imp id (fun q => of_decide_eq_true (bf_not q)) (bf_and q)) h8b
      refine jc_skip (jq_in_normal (jq_then (jc_region (jo_pure rfl (pr_move rfl) (jo_pure rfl (pr_addN (m := i) (n := 1) rfl rfl (by omega)) ?_)))))
      refine jo_pure rfl (pr_assign rfl) (jo_nil (j_pull3 (j_pull3 (j_pull3 (j_pull3 ?_)))))
      refine jq_round' ((i + 1), w, acc) (by (try dsimp only); exact (⟨by omega, by omega, by rw [exact_miss h2 (by rw [read_3 h3 h6]; exact read_3no (h8.imp id (fun q => by first | exact q | exact Classical.not_not.1 q))), hinv.2.2]⟩)) (by (try dsimp only); exact (by omega)) ⟨rfl, rfl, rfl, rfl, rfl, rfl, rfl, rfl, trivial⟩ (fun _ h => h)
  ·have h2 := of_decide_eq_false h2b
   have hem : ∀ x ∈ acc, x.1.length ≤ 15000 := by rw [hinv.2.2]; exact exact_mem (fun v hv => hvm v (List.mem_of_mem_take hv))
   have hacf : acc = exactF kind (prefsF kind l).1 vs := by rw [hinv.2.2, take_over (by omega)]
   refine jc_exit ?_
   refine jq_then_exit ?_
   refine jq_then_exit ?_
   refine jq_in_hit ?_
   refine jq_then (jc_seq (jc_region (jo_pure rfl (pr_move rfl) (jo_pure rfl (pr_move rfl) ?_))))
   refine jo_callp cal_24 (c_ref01_Remove l lv (nameK kind) (by first | omega | exact hm3 | exact hm6 | exact hps | (have := hvm _ (getD_mem (dd := []) h2); omega) | exact hem | (rw [hinv.2.2]; exact hem) | (have := hinv.2.1; omega)) (by first | omega | exact hm3 | exact hm6 | exact hps | (have := hvm _ (getD_mem (dd := []) h2); omega) | exact hem | (rw [hinv.2.2]; exact hem) | (have := hinv.2.1; omega)) (by first | omega | exact hm3 | exact hm6 | exact hps | (have := hvm _ (getD_mem (dd := []) h2); omega) | exact hem | (rw [hinv.2.2]; exact hem) | (have := hinv.2.1; omega))) ⟨rfl, rfl, trivial⟩ rfl (⟨⟨rfl, .tail _ (.tail _ (.head _))⟩, trivial⟩) (fun r3 => ?_)
   show J _ _ [.row (r3) 35 (.pair .str .str) (removeF l (nameK kind)), .row (w) 48 (.pair .str (.int .i64)) (acc), .imm (.list (.pair .str (.int .i64))) (r1) ((prefsF kind l).1), .imm (.list (.pair .str .str)) (lv) (l), .imm (.list .str) (vsv) (vs)] _
   refine jo_pure rfl (pr_move rfl) (jo_pure rfl (pr_move rfl) (j_pull1 (j_pub_row ?_)))
   refine jo_callp cal_86 (c_ref10_FormatPrefs acc w (by first | omega | exact hm3 | exact hm6 | exact hps | (have := hvm _ (getD_mem (dd := []) h2); omega) | exact hem | (rw [hinv.2.2]; exact hem) | (have := hinv.2.1; omega)) (by first | omega | exact hm3 | exact hm6 | exact hps | (have := hvm _ (getD_mem (dd := []) h2); omega) | exact hem | (rw [hinv.2.2]; exact hem) | (have := hinv.2.1; omega))) ⟨rfl, trivial⟩ rfl (⟨⟨rfl, .head _⟩, trivial⟩) (fun _ => ?_)
   refine jo_pure rfl (pr_build [(0, str (nameK kind)), (1, str (fmtP acc))] [str (nameK kind), str (fmtP acc)] (fun a hf => by simp only [List.map_toArray, List.map_cons, List.map_nil, hf.ev (show ev _ (.tmp 86) = some (str (nameK kind)) from rfl), hf.ev (show ev _ (.tmp 88) = some (str (fmtP acc)) from rfl)]) (by kernel_rfl)) ?_
   refine jo_buildSlice (t := (.pair .str .str)) [(nameK kind, fmtP acc)] [.agg #[str (nameK kind), str (fmtP acc)]] (fun a hf => by simp only [List.zipIdx_cons, List.zipIdx_nil, List.map_toArray, List.map_cons, List.map_nil, hf.ev (show ev _ (.tmp 89) = some (.agg #[str (nameK kind), str (fmtP acc)]) from rfl)] <;> rfl) rfl Tryz.underlying23 ty_35 rfl rfl rfl rfl rfl (fun g4 => ?_)
   refine j_pull2 ?_
   refine jo_append rfl rfl Tryz.underlying23 ty_35 rfl (by simp only [List.length_append, List.length_cons, List.length_nil, maxLen]; omega) (by simp only [List.length_append, List.length_cons, List.length_nil]; omega) rfl (fun v5 => ?_)
   refine jo_pure rfl (pr_assign rfl) (jo_nil (jq_then (jc_ret (j_pull1 (j_drop ?_)))))
   refine j_pull1 (j_drop (j_pull1 (j_drop (j_pull1 (j_drop ?_)))))
   exact jq_ret1 rfl v5 rfl (show (v5 : Value) = (v5) from rfl) (fun _ h => by rw [norm_yes hnn.1 hpp, ← hacf]; exact h)

theorem c_law18_ClassNormalizes (kind : Int) (l : List ((List UInt8) × (List UInt8))) (lv : Value) (vs : List (List UInt8)) (vsv : Value) (hl : l.length ≤ 9223372036854775807) (hv : vs.length ≤ 9223372036854775807) : Con Tryz.prog 14 #[.int .i64 (kind), lv, vsv] [.imm (.list (.pair .str .str)) (lv) (l), .imm (.list .str) (vsv) (vs)] (fun _ : Unit => .bool (true)) (fun _ => []) := by
 refine con_of_J (args := [.int .i64 (kind), lv, vsv]) (n := 27) Tryz.func14 rfl (Nat.le_of_ble_eq_true rfl) rfl (fun w0 I0 m0 => ?_)
 show J _ [(0, .int .i64 (kind)), (1, lv), (2, vsv)] [.imm (.list (.pair .str .str)) (lv) (l), .imm (.list .str) (vsv) (vs)] _
 refine jc_seq (jc_region (jo_pure rfl (pr_assign rfl) (jo_nil (jq_then (jc_seq ?_)))))
 refine jc_seq (jc_region (jo_pure rfl (pr_move rfl) ?_))
 refine jo_callp cal_16 (c_keep_Fields l lv (by first | omega | (have := norm_len (kind := kind) (l := l) (vs := vs); have := keepF_len hkk.1; omega) | exact hl | exact hv | exact hmeml | (have := keepS_len hkk.2; omega) | (have := keepF_len hkk.1; omega) | (exact fun v hv9 => Nat.le_trans (keepS_mem hkk.2 v hv9) (by omega)) | decide)) ⟨rfl, trivial⟩ rfl (⟨⟨rfl, .head _⟩, trivial⟩) (fun _ => ?_)
 refine jo_pure rfl (pr_not rfl) ?_
 refine jo_pure rfl (pr_move rfl) (jo_gpure (j := 3) (want := false) rfl rfl rfl rfl (fun hg => pr_move rfl) ?_)
 refine jo_gcall (j := 3) (want := false) rfl rfl rfl cal_44 (fun hg => c_keep_Strings vs vsv (by first | omega | (have := norm_len (kind := kind) (l := l) (vs := vs); have := keepF_len hkk.1; omega) | exact hl | exact hv | exact hmeml | (have := keepS_len hkk.2; omega) | (have := keepF_len hkk.1; omega) | (exact fun v hv9 => Nat.le_trans (keepS_mem hkk.2 v hv9) (by omega)) | decide)) (fun hg => ⟨evg rfl hg, trivial⟩) rfl (fun _ => ⟨⟨rfl, .tail _ (.head _)⟩, trivial⟩) ?_
 refine jo_gpure (j := 3) (want := false) rfl rfl rfl rfl (fun hg => pr_not (evg rfl hg)) ?_
 refine jo_pure rfl (pr_pick_or rfl rfl rfl) ?_
 refine jo_nil (jq_then ?_)
 refine jc_cond rfl (fun h1b => ?_) (fun h1b => ?_)
 ·have h1 := (fun q => Or.imp (fun q => id (bt_not q)) (fun q => id (bt_not q)) (bt_or q)) h1b
  refine jc_seq (jc_region (jo_pure rfl (pr_assign rfl) (jo_nil (jq_then (jc_ret ?_)))))
  refine jq_then_ret (j_drop (j_drop ?_))
  exact jq_ret1 rfl () rfl (show (.bool (true) : Value) = (.bool (true)) from rfl) (fun _ h => h)
 ·have h1 := (fun q => And.imp (fun q => id (bf_not q)) (fun q => id (bf_not q)) (bf_or q)) h1b
  have hkk : keepF l = true ∧ keepS vs = true := by simpa using h1
  have hlenl : l.length ≤ 1000000 := by have := keepF_len (hkk.1); omega
  have hmeml : ∀ z ∈ l, z.1.length ≤ 20000 ∧ z.2.length ≤ 20000 := fun z hz => by have := keepF_mem (hkk.1) z hz; omega
  have hmem3l : ∀ z ∈ l, z.1.length ≤ 300000 ∧ z.2.length ≤ 300000 := fun z hz => by have := keepF_mem (hkk.1) z hz; omega
  refine jc_skip (jq_then (jc_seq (jc_region (jo_pure rfl (pr_move rfl) (jo_pure rfl (pr_move rfl) ?_)))))
  refine jo_pure rfl (pr_move rfl) ?_
  refine jo_callp cal_46 (c_class_Normalize kind l lv vs vsv (by first | omega | (have := norm_len (kind := kind) (l := l) (vs := vs); have := keepF_len hkk.1; omega) | exact hl | exact hv | exact hmeml | (have := keepS_len hkk.2; omega) | (have := keepF_len hkk.1; omega) | (exact fun v hv9 => Nat.le_trans (keepS_mem hkk.2 v hv9) (by omega)) | decide) (by first | omega | (have := norm_len (kind := kind) (l := l) (vs := vs); have := keepF_len hkk.1; omega) | exact hl | exact hv | exact hmeml | (have := keepS_len hkk.2; omega) | (have := keepF_len hkk.1; omega) | (exact fun v hv9 => Nat.le_trans (keepS_mem hkk.2 v hv9) (by omega)) | decide) (by first | omega | (have := norm_len (kind := kind) (l := l) (vs := vs); have := keepF_len hkk.1; omega) | exact hl | exact hv | exact hmeml | (have := keepS_len hkk.2; omega) | (have := keepF_len hkk.1; omega) | (exact fun v hv9 => Nat.le_trans (keepS_mem hkk.2 v hv9) (by omega)) | decide) (by first | omega | (have := norm_len (kind := kind) (l := l) (vs := vs); have := keepF_len hkk.1; omega) | exact hl | exact hv | exact hmeml | (have := keepS_len hkk.2; omega) | (have := keepF_len hkk.1; omega) | (exact fun v hv9 => Nat.le_trans (keepS_mem hkk.2 v hv9) (by omega)) | decide)) ⟨rfl, rfl, rfl, trivial⟩ rfl (⟨⟨rfl, .head _⟩, ⟨⟨rfl, .tail _ (.head _)⟩, trivial⟩⟩) (fun r1 => ?_)
  show J _ _ [.row (r1) 35 (.pair .str .str) (normF kind l vs), .imm (.list (.pair .str .str)) (lv) (l), .imm (.list .str) (vsv) (vs)] _
  refine jo_pure rfl (pr_move rfl) (jo_pure rfl (pr_move rfl) (jo_pure rfl (pr_move rfl) ?_))
  refine jo_callp cal_47 (c_ref10_NormalizeFields kind l lv vs vsv (by first | omega | (have := norm_len (kind := kind) (l := l) (vs := vs); have := keepF_len hkk.1; omega) | exact hl | exact hv | exact hmeml | (have := keepS_len hkk.2; omega) | (have := keepF_len hkk.1; omega) | (exact fun v hv9 => Nat.le_trans (keepS_mem hkk.2 v hv9) (by omega)) | decide) (by first | omega | (have := norm_len (kind := kind) (l := l) (vs := vs); have := keepF_len hkk.1; omega) | exact hl | exact hv | exact hmeml | (have := keepS_len hkk.2; omega) | (have := keepF_len hkk.1; omega) | (exact fun v hv9 => Nat.le_trans (keepS_mem hkk.2 v hv9) (by omega)) | decide) (by first | omega | (have := norm_len (kind := kind) (l := l) (vs := vs); have := keepF_len hkk.1; omega) | exact hl | exact hv | exact hmeml | (have := keepS_len hkk.2; omega) | (have := keepF_len hkk.1; omega) | (exact fun v hv9 => Nat.le_trans (keepS_mem hkk.2 v hv9) (by omega)) | decide) (by first | omega | (have := norm_len (kind := kind) (l := l) (vs := vs); have := keepF_len hkk.1; omega) | exact hl | exact hv | exact hmeml | (have := keepS_len hkk.2; omega) | (have := keepF_len hkk.1; omega) | (exact fun v hv9 => Nat.le_trans (keepS_mem hkk.2 v hv9) (by omega)) | decide)) ⟨rfl, rfl, rfl, trivial⟩ rfl (⟨⟨rfl, .tail _ (.head _)⟩, ⟨⟨rfl, .tail _ (.tail _ (.head _))⟩, trivial⟩⟩) (fun r2 => ?_)
  show J _ _ [.row (r2) 35 (.pair .str .str) (normF kind l vs), .row (r1) 35 (.pair .str .str) (normF kind l vs), .imm (.list (.pair .str .str)) (lv) (l), .imm (.list .str) (vsv) (vs)] _
  refine j_pull1 (j_pub_row (j_pull1 (j_pub_row ?_)))
  refine jo_callp cal_45 (c_ref26_SameFields (normF kind l vs) r1 (normF kind l vs) r2 (by first | omega | (have := norm_len (kind := kind) (l := l) (vs := vs); have := keepF_len hkk.1; omega) | exact hl | exact hv | exact hmeml | (have := keepS_len hkk.2; omega) | (have := keepF_len hkk.1; omega) | (exact fun v hv9 => Nat.le_trans (keepS_mem hkk.2 v hv9) (by omega)) | decide)) ⟨rfl, rfl, trivial⟩ rfl (⟨⟨rfl, .tail _ (.head _)⟩, ⟨⟨rfl, .head _⟩, trivial⟩⟩) (fun _ => ?_)
  refine jo_pure rfl (pr_move rfl) (jo_gcall (j := 9) (want := true) rfl rfl rfl cal_21 (fun hg => c_law18_awake) (fun hg => trivial) rfl (fun _ => trivial) ?_)
  refine jo_pure rfl (pr_pick_and rfl rfl rfl) ?_
  refine jo_pure rfl (pr_assign rfl) (jo_nil (jq_then (jc_ret (j_drop (j_drop ?_)))))
  refine j_drop (j_drop ?_)
  exact jq_ret1 rfl () rfl (show (.bool (true) : Value) = (.bool ((decide ((normF kind l vs) = (normF kind l vs)) && true))) from congrArg Value.bool (by simp)) (fun _ h => h)
end Go.Proofs.YtjbcomdljmfgjaaGreatDoor
