/-
 Contracts of functions of the program: each returns what a plain function says, for every input within the bounds named. Conditions: the bounds.
-/
import Derived.Test.YtjbcomdljmfgjabGreatDoorRows
import Derived.Test.YtjbcomdljmfgjabGreatDoorZK7
import Derived.Test.YtjbcomdljmfgjabGreatDoorZSep4
import Derived.Test.YtjbcomdljmfgjabGreatDoorZSep5
import Derived.Test.YtjbcomdljmfgjabGreatDoorZLawE
import Derived.Test.YtjbcomdljmfgjabGreatDoorZLawF
import Derived.Test.YtjbcomdljmfgjabGreatDoorZLawH
namespace Go.Proofs.YtjbcomdljmfgjabGreatDoor
open Go Go.Sep
set_option linter.unusedSimpArgs false
set_option linter.unusedVariables false

open Go.Plain

theorem cal_4 : Cal Tryz.prog 4 := cal_of Tryz.func4 (by kernel_rfl) rfl
theorem cal_5 : Cal Tryz.prog 5 := cal_of Tryz.func5 (by kernel_rfl) rfl
theorem cal_6 : Cal Tryz.prog 6 := cal_of Tryz.func6 (by kernel_rfl) rfl
theorem cal_7 : Cal Tryz.prog 7 := cal_of Tryz.func7 (by kernel_rfl) rfl
theorem cal_9 : Cal Tryz.prog 9 := cal_of Tryz.func9 (by kernel_rfl) rfl
theorem cal_10 : Cal Tryz.prog 10 := cal_of Tryz.func10 (by kernel_rfl) rfl
theorem cal_14 : Cal Tryz.prog 14 := cal_of Tryz.func14 (by kernel_rfl) rfl
theorem cal_16 : Cal Tryz.prog 16 := cal_of Tryz.func16 (by kernel_rfl) rfl
theorem cal_17 : Cal Tryz.prog 17 := cal_of Tryz.func17 (by kernel_rfl) rfl
theorem cal_19 : Cal Tryz.prog 19 := cal_of Tryz.func19 (by kernel_rfl) rfl

theorem c_slices_Clone_api_Field_api_Field (l : List ((List UInt8) × (List UInt8))) (lv : Value) (hl : l.length ≤ 1000000) : Con Tryz.prog 14 #[lv] [.imm (.list (.pair .str .str)) (lv) (l)] (fun r1 : Value => r1) (fun r1 => [.row r1 37 (.pair .str .str) (l)]) := by
 refine con_of_J (args := [lv]) (n := 8) Tryz.func14 rfl (Nat.le_of_ble_eq_true rfl) rfl (fun w0 I0 m0 => ?_)
 show J _ [(0, lv)] [.imm (.list (.pair .str .str)) (lv) (l)] _
 refine jc_seq (jc_region (jo_pure rfl (pr_assign rfl) (jo_nil (jq_then (jc_seq ?_)))))
 refine jc_seq (jc_region (jo_pure rfl (pr_move rfl) ?_))
 refine jo_eqnil rfl rfl (.head _) Tryz.underlying23 rfl (fun b1 hb1 => ?_)
 refine jo_nil (jq_then ?_)
 refine jc_cond rfl (fun h1b => ?_) (fun h1b => ?_)
 ·have h1 := id h1b
  refine jc_seq (jc_region (jo_pure rfl (pr_assign rfl) (jo_nil (jq_then (jc_ret ?_)))))
  refine jq_then_ret (j_nil_row 37 (.pair .str .str) ?_)
  refine j_pull1 (j_drop ?_)
  exact jq_ret1 rfl (.slice none 0 0) rfl (show (.slice none 0 0 : Value) = (.slice none 0 0) from rfl) (fun _ h => by rw [hb1 h1]; exact h)
 ·have h1 := id h1b
  refine jc_skip (jq_then (jc_seq (jc_region ?_)))
  refine jo_buildSlice0 (t := (.pair .str .str)) Tryz.underlying23 ty_37 rfl (fun g1 => ?_)
  refine jo_pure rfl (pr_move rfl) (j_row_of_rowg ?_)
  refine jo_append_imm rfl rfl (.head _) Tryz.underlying23 ty_37 rfl (by simp only [List.length_append, List.length_cons, List.length_nil, maxLen]; omega) (by simp only [List.length_append, List.length_cons, List.length_nil]; omega) rfl (fun v1 => ?_)
  refine jo_pure rfl (pr_assign rfl) (jo_nil (jq_then (jc_ret (j_pull1 (j_drop ?_)))))
  exact jq_ret1 rfl v1 rfl (show (v1 : Value) = (v1) from rfl) (fun _ h => by rw [List.nil_append] at h; exact h)

theorem c_class_readable (kind : Int) (v : List UInt8) (hv : v.length ≤ 300000) : Con Tryz.prog 17 #[.int .i64 (kind), str (v)] [] (fun _ : Unit => .bool (readB kind v)) (fun _ => []) := by
 refine con_of_J (args := [.int .i64 (kind), str (v)]) (n := 26) Tryz.func17 rfl (Nat.le_of_ble_eq_true rfl) rfl (fun w0 I0 m0 => ?_)
 show J _ [(0, .int .i64 (kind)), (1, str (v))] [] _
 refine jc_seq (jc_region (jo_pure rfl (pr_assign rfl) (jo_nil (jq_then (jc_seq ?_)))))
 refine jc_seq (jc_region (jo_pure rfl (pr_move rfl) (jo_nil (jq_then (jc_block ?_)))))
 refine jc_seq (jc_region (jo_pure rfl (pr_eql (n := 1) rfl rfl) ?_))
 refine jo_pure rfl (pr_assign rfl) (jo_nil (jq_then ?_))
 refine jc_cond rfl (fun h1b => ?_) (fun h1b => ?_)
 ·have h1 := of_decide_eq_true h1b
  refine jc_seq (jc_region (jo_pure rfl (pr_move rfl) ?_))
  refine jo_callp cal_35 (c_mediatype_Parse v (by omega)) ⟨rfl, trivial⟩ rfl (trivial) (fun r1 => ?_)
  show J _ _ [.row (r1) 81 (.pair .str .str) ((parseT v).1.2.2)] _
  refine jo_pure rfl (pr_move rfl) (jo_pure rfl (pr_extract rfl rfl) ?_)
  refine jo_pure rfl (pr_extract rfl rfl) ?_
  refine jo_alloc ty_64 [str ([]), str ([]), .slice none 0 0] rfl rfl (fun b1 => ?_)
  refine jo_storeV rfl rfl ty_64 [str ((parseT v).1.1), str ((parseT v).1.2.1), r1] (fun _ _ _ _ => rfl) rfl (fun w I m hs => by simp only [List.all_cons, List.all_nil, Bool.and_true, Bool.and_eq_true]; exact ⟨rfl, rfl, (SliceV.one (row_slice (.tail _ (.head _)) hs))⟩) [str ((parseT v).1.1), str ((parseT v).1.2.1), r1] rfl rfl ?_
  refine jo_pure rfl (pr_assign rfl) (jo_nil (jq_then (jc_seq (jc_region (jo_pure rfl (pr_move rfl) ?_)))))
  refine jo_pure rfl (pr_assign rfl) (jo_nil (jq_then (jc_ret (jq_in_ret ?_))))
  refine jq_then_ret (j_drop (j_drop ?_))
  exact jq_ret1 rfl () rfl (show (.bool (readB kind v) : Value) = (.bool ((parseT v).2)) from congrArg Value.bool (by rw [read_1 h1])) (fun _ h => h)
 ·have h1 := of_decide_eq_false h1b
  refine jc_seq (jc_region (jo_pure rfl (pr_eql (n := 2) rfl rfl) ?_))
  refine jo_pure rfl (pr_assign rfl) (jo_nil (jq_then ?_))
  refine jc_cond rfl (fun h2b => ?_) (fun h2b => ?_)
  ·have h2 := of_decide_eq_true h2b
   refine jc_seq (jc_region (jo_pure rfl (pr_move rfl) ?_))
   refine jo_callp cal_36 (c_language_Tag v (by omega)) ⟨rfl, trivial⟩ rfl (trivial) (fun _ => ?_)
   refine jo_pure rfl (pr_assign rfl) (jo_nil (jq_then (jc_ret (jq_in_ret ?_))))
   refine jq_then_ret ?_
   exact jq_ret1 rfl () rfl (show (.bool (readB kind v) : Value) = (.bool (tagF v)) from congrArg Value.bool (by rw [read_2 h1 h2])) (fun _ h => h)
  ·have h2 := of_decide_eq_false h2b
   refine jc_skip (jq_in_normal (jq_then (jc_seq (jc_region (jo_pure rfl (pr_move rfl) ?_)))))
   refine jo_callp cal_37 (c_ascii_Token v (by omega)) ⟨rfl, trivial⟩ rfl (trivial) (fun _ => ?_)
   refine jo_pure rfl (pr_move rfl) (jo_gpure (j := 2) (want := true) rfl rfl rfl rfl (fun hg => pr_move rfl) ?_)
   refine jo_gpure (j := 2) (want := true) rfl rfl rfl rfl (fun hg => pr_sneq (evg rfl hg) rfl) ?_
   refine jo_pure rfl (pr_pick_and rfl rfl rfl) ?_
   refine jo_pure rfl (pr_assign rfl) (jo_nil (jq_then (jc_ret ?_)))
   exact jq_ret1 rfl () rfl (show (.bool (readB kind v) : Value) = (.bool ((token v && (!decide ((v : List UInt8) = [42]))))) from congrArg Value.bool (by rw [read_3 h1 h2])) (fun _ h => h)

theorem c_class_Normalize (kind : Int) (l : List ((List UInt8) × (List UInt8))) (lv : Value) (vs : List (List UInt8)) (vsv : Value) (hl : l.length ≤ 1000) (hm : ∀ x ∈ l, x.1.length ≤ 20000 ∧ x.2.length ≤ 20000) (hvl : vs.length ≤ 100) (hvm : ∀ v ∈ vs, v.length ≤ 15000) : Con Tryz.prog 7 #[.int .i64 (kind), lv, vsv] [.imm (.list (.pair .str .str)) (lv) (l), .imm (.list .str) (vsv) (vs)] (fun r1 : Value => r1) (fun r1 => [.row r1 37 (.pair .str .str) (normF kind l vs)]) := by
 refine con_of_J (args := [.int .i64 (kind), lv, vsv]) (n := 58) Tryz.func7 rfl (Nat.le_of_ble_eq_true rfl) rfl (fun w0 I0 m0 => ?_)
 show J _ [(0, .int .i64 (kind)), (1, lv), (2, vsv)] [.imm (.list (.pair .str .str)) (lv) (l), .imm (.list .str) (vsv) (vs)] _
 have hm3 : ∀ x ∈ l, x.1.length ≤ 300000 ∧ x.2.length ≤ 300000 := fun x hx => by have := hm x hx; omega
 have hm6 : ∀ x ∈ l, x.1.length ≤ 1000000 ∧ x.2.length ≤ 1000000 := fun x hx => by have := hm x hx; omega
 have hnk := nameK_length kind
 have hpl := prefsF_length kind l
 have hps : ∀ x ∈ (prefsF kind l).1, x.1.length ≤ 1000000 := fun x hx => by have := prefsF_short (kind := kind) (n := 20000) hm x hx; omega
 have hrm := removeF_length l (nameK kind)
 refine jc_seq (jc_region (jo_pure rfl (pr_assign rfl) (jo_nil (jq_then (jc_seq ?_)))))
 refine jc_region (jo_pure rfl (pr_move rfl) ?_)
 refine jo_callp cal_13 (c_accept_Name kind) ⟨rfl, trivial⟩ rfl (trivial) (fun _ => ?_)
 refine jo_pure rfl (pr_assign rfl) (jo_nil (jq_then (jc_seq (jc_seq (jc_region ?_)))))
 refine jo_pure rfl (pr_move rfl) (jo_pure rfl (pr_seql rfl rfl) ?_)
 refine jo_nil (jq_then ?_)
 refine jc_cond rfl (fun h1b => ?_) (fun h1b => ?_)
 ·have h1 := of_decide_eq_true h1b
  refine jc_seq (jc_region (jo_pure rfl (pr_move rfl) ?_))
  refine jo_callp cal_14 (c_slices_Clone_api_Field_api_Field l lv (by first | omega | exact hm3 | exact hm6 | exact hps | (have := hvm _ (getD_mem (dd := []) h3); omega) | exact hem | (rw [hinv.2.2]; exact hem) | (have := hinv.2.1; omega))) ⟨rfl, trivial⟩ rfl (⟨⟨rfl, .head _⟩, trivial⟩) (fun r1 => ?_)
  show J _ _ [.row (r1) 37 (.pair .str .str) (l), .imm (.list (.pair .str .str)) (lv) (l), .imm (.list .str) (vsv) (vs)] _
  refine jo_pure rfl (pr_assign rfl) (jo_nil (jq_then (jc_ret (jq_then_ret (j_pull1 ?_)))))
  refine j_drop (j_pull1 (j_drop ?_))
  exact jq_ret1 rfl r1 rfl (show (r1 : Value) = (r1) from rfl) (fun _ h => by rw [norm_none h1]; exact h)
 ·have h1 := of_decide_eq_false h1b
  refine jc_skip (jq_then (jc_seq (jc_region (jo_pure rfl (pr_move rfl) (jo_pure rfl (pr_move rfl) ?_)))))
  refine jo_callp cal_15 (c_accept_Prefs kind l lv (by first | omega | exact hm3 | exact hm6 | exact hps | (have := hvm _ (getD_mem (dd := []) h3); omega) | exact hem | (rw [hinv.2.2]; exact hem) | (have := hinv.2.1; omega)) (by first | omega | exact hm3 | exact hm6 | exact hps | (have := hvm _ (getD_mem (dd := []) h3); omega) | exact hem | (rw [hinv.2.2]; exact hem) | (have := hinv.2.1; omega))) ⟨rfl, rfl, trivial⟩ rfl (⟨⟨rfl, .head _⟩, trivial⟩) (fun r2 => ?_)
  show J _ _ [.row (r2) 47 (.pair .str (.int .i64)) ((prefsF kind l).1), .imm (.list (.pair .str .str)) (lv) (l), .imm (.list .str) (vsv) (vs)] _
  refine jo_pure rfl (pr_move rfl) (jo_pure rfl (pr_extract rfl rfl) ?_)
  refine jo_pure rfl (pr_extract rfl rfl) ?_
  refine jo_pure rfl (pr_assign rfl) (jo_pure rfl (pr_assign rfl) (jo_nil (jq_then (jc_seq (jc_region ?_)))))
  refine jo_pure rfl (pr_move rfl) (jo_pure rfl (pr_move rfl) ?_)
  refine jo_callp cal_16 (c_fieldline_Remove l lv (nameK kind) (by first | omega | exact hm3 | exact hm6 | exact hps | (have := hvm _ (getD_mem (dd := []) h3); omega) | exact hem | (rw [hinv.2.2]; exact hem) | (have := hinv.2.1; omega)) (by first | omega | exact hm3 | exact hm6 | exact hps | (have := hvm _ (getD_mem (dd := []) h3); omega) | exact hem | (rw [hinv.2.2]; exact hem) | (have := hinv.2.1; omega)) (by first | omega | exact hm3 | exact hm6 | exact hps | (have := hvm _ (getD_mem (dd := []) h3); omega) | exact hem | (rw [hinv.2.2]; exact hem) | (have := hinv.2.1; omega))) ⟨rfl, rfl, trivial⟩ rfl (⟨⟨rfl, .tail _ (.head _)⟩, trivial⟩) (fun r3 => ?_)
  show J _ _ [.row (r3) 37 (.pair .str .str) (removeF l (nameK kind)), .row (r2) 47 (.pair .str (.int .i64)) ((prefsF kind l).1), .imm (.list (.pair .str .str)) (lv) (l), .imm (.list .str) (vsv) (vs)] _
  refine jo_pure rfl (pr_assign rfl) (jo_nil (jq_then (jc_seq (jc_seq (jc_region ?_)))))
  refine jo_pure rfl (pr_move rfl) (jo_pure rfl (pr_not rfl) ?_)
  refine jo_nil (jq_then ?_)
  refine jc_cond rfl (fun h2b => ?_) (fun h2b => ?_)
  ·have h2 := (fun q => id (bt_not q)) h2b
   refine jc_seq (jc_region (jo_pure rfl (pr_move rfl) (jo_pure rfl (pr_assign rfl) (jo_nil (jq_then ?_)))))
   refine jc_ret (jq_then_ret (j_pull1 (j_drop (j_pull1 (j_drop ?_)))))
   refine j_pull1 (j_drop ?_)
   exact jq_ret1 rfl r3 rfl (show (r3 : Value) = (r3) from rfl) (fun _ h => by rw [norm_absent h1 (by simpa using h2)]; exact h)
  ·have h2 := (fun q => id (bf_not q)) h2b
   refine jc_skip (jq_then (jc_seq (jc_region (jo_pure rfl (pr_assign rfl) (jo_nil ?_)))))
   refine jq_then (jc_seq (jc_seq (j_pull1 (j_pub_row (jc_region ?_)))))
   refine jo_pure rfl (pr_move rfl) (jo_pure rfl (pr_len_imm rfl (.tail _ (.tail _ (.tail _ (.head _)))) Tryz.underlying28) ?_)
   refine jo_pure rfl (pr_move rfl) (jo_nil (jq_then (jc_block (j_nil_row 47 (.pair .str (.int .i64)) ?_))))
   refine jc_loop3 (fun (i : Nat) (w : Value) (acc : List (List UInt8 × Int)) => [(0, .int .i64 (kind)), (7, str (nameK kind)), (8, r2), (10, r3), (11, w), (32, vsv), (33, .int .i64 ((vs.length : Nat) : Int)), (34, .int .i64 ((i : Nat) : Int))]) (fun (i : Nat) (w : Value) (acc : List (List UInt8 × Int)) => [.row (w) 47 (.pair .str (.int .i64)) (acc), .imm (.list (.pair .str (.int .i64))) (r2) ((prefsF kind l).1), .row (r3) 37 (.pair .str .str) (removeF l (nameK kind)), .imm (.list (.pair .str .str)) (lv) (l), .imm (.list .str) (vsv) (vs)]) (fun (i : Nat) (w : Value) (acc : List (List UInt8 × Int)) => i ≤ vs.length ∧ acc.length ≤ i ∧ acc = exactF kind (prefsF kind l).1 (vs.take i)) (fun (i : Nat) (w : Value) (acc : List (List UInt8 × Int)) => vs.length - i) 0 (.slice none 0 0) [] (⟨Nat.zero_le _, Nat.le_refl _, rfl⟩) (⟨rfl, rfl, rfl, rfl, rfl, rfl, rfl, rfl, trivial⟩) (fun _ h => h) (fun i w acc hinv => ?_)
   refine jc_seq (jc_region (jo_pure rfl (pr_lssN (m := i) (n := vs.length) rfl rfl) ?_))
   refine jo_nil (jq_then (jc_seq ?_))
   refine jc_cond rfl (fun h3b => ?_) (fun h3b => ?_)
   ·have h3 := of_decide_eq_true h3b
    refine jc_skip (jq_then (jc_seq (jc_block (jc_seq (jc_region ?_)))))
    refine jo_pure rfl (pr_idx_imm (i := i) rfl (.tail _ (.tail _ (.tail _ (.tail _ (.head _))))) rfl Tryz.underlying28 ty_9 (by omega)) ?_
    refine jo_pure rfl (pr_load_elem_imm (i := i) (str (vs.getD i [])) rfl (.tail _ (.tail _ (.tail _ (.tail _ (.head _))))) ty_9 rfl rfl (by omega) rfl) ?_
    refine jo_pure rfl (pr_assign rfl) (jo_nil (jq_then (jc_seq (jc_region (jo_pure rfl (pr_move rfl) ?_)))))
    refine jo_pure rfl (pr_move rfl) ?_
    refine jo_callp cal_17 (c_class_readable kind (vs.getD i []) (by first | omega | exact hm3 | exact hm6 | exact hps | (have := hvm _ (getD_mem (dd := []) h3); omega) | exact hem | (rw [hinv.2.2]; exact hem) | (have := hinv.2.1; omega))) ⟨rfl, rfl, trivial⟩ rfl (trivial) (fun _ => ?_)
    refine jo_nil (jq_then ?_)
    refine jc_cond rfl (fun h4b => ?_) (fun h4b => ?_)
    ·have h4 := id h4b
     refine jc_region (jo_pure rfl (pr_move rfl) (jo_pure rfl (pr_move rfl) (jo_pure rfl (pr_move rfl) (jo_pure rfl (pr_move rfl) (jo_pure rfl (pr_move rfl) ?_)))))
     refine jo_callp cal_18 (c_rank_Quality kind ((prefsF kind l).1) r2 true (vs.getD i []) (by first | omega | exact hm3 | exact hm6 | exact hps | (have := hvm _ (getD_mem (dd := []) h3); omega) | exact hem | (rw [hinv.2.2]; exact hem) | (have := hinv.2.1; omega)) (by first | omega | exact hm3 | exact hm6 | exact hps | (have := hvm _ (getD_mem (dd := []) h3); omega) | exact hem | (rw [hinv.2.2]; exact hem) | (have := hinv.2.1; omega)) (by first | omega | exact hm3 | exact hm6 | exact hps | (have := hvm _ (getD_mem (dd := []) h3); omega) | exact hem | (rw [hinv.2.2]; exact hem) | (have := hinv.2.1; omega))) ⟨rfl, rfl, rfl, rfl, trivial⟩ rfl (⟨⟨rfl, .tail _ (.head _)⟩, trivial⟩) (fun _ => ?_)
     refine jo_pure rfl (pr_build [(0, str (vs.getD i [])), (1, .int .i64 (qualF kind ((prefsF kind l).1) true (vs.getD i [])))] [str (vs.getD i []), .int .i64 (qualF kind ((prefsF kind l).1) true (vs.getD i []))] (fun a hf => by simp only [List.map_toArray, List.map_cons, List.map_nil, hf.ev (show ev _ (.tmp 42) = some (str (vs.getD i [])) from rfl), hf.ev (show ev _ (.tmp 46) = some (.int .i64 (qualF kind ((prefsF kind l).1) true (vs.getD i []))) from rfl)]) (by kernel_rfl)) ?_
     refine jo_buildSlice (t := (.pair .str (.int .i64))) [(vs.getD i [], qualF kind ((prefsF kind l).1) true (vs.getD i []))] [.agg #[str (vs.getD i []), .int .i64 (qualF kind ((prefsF kind l).1) true (vs.getD i []))]] (fun a hf => by simp only [List.zipIdx_cons, List.zipIdx_nil, List.map_toArray, List.map_cons, List.map_nil, hf.ev (show ev _ (.tmp 47) = some (.agg #[str (vs.getD i []), .int .i64 (qualF kind ((prefsF kind l).1) true (vs.getD i []))]) from rfl)] <;> rfl) rfl Tryz.underlying40 ty_47 rfl rfl rfl rfl rfl (fun g1 => ?_)
     refine j_pull1 ?_
     refine jo_append rfl rfl Tryz.underlying40 ty_47 rfl (by simp only [List.length_append, List.length_cons, List.length_nil, maxLen]; omega) (by simp only [List.length_append, List.length_cons, List.length_nil]; omega) rfl (fun v1 => ?_)
     refine jo_pure rfl (pr_assign rfl) (jo_nil (jq_in_normal (jq_then (jc_region (jo_pure rfl (pr_addN (m := i) (n := 1) rfl rfl (by omega)) ?_)))))
     refine jo_pure rfl (pr_move rfl) (jo_nil (j_pull4 ?_))
     refine j_pull4 ?_
     refine j_pull4 ?_
     refine j_pull4 ?_
     refine j_pull4 ?_
     refine jq_round' ((i + 1), v1, (acc ++ [(vs.getD i [], qualF kind ((prefsF kind l).1) true (vs.getD i []))])) (by (try dsimp only); exact (⟨by omega, by simp only [List.length_append, List.length_cons, List.length_nil]; omega, by rw [exact_hit h3 h4, hinv.2.2]⟩)) (by (try dsimp only); exact (by omega)) ⟨rfl, rfl, rfl, rfl, rfl, rfl, rfl, rfl, trivial⟩ (fun _ h => h)
    ·have h4 := id h4b
     refine jc_skip (jq_in_normal (jq_then (jc_region (jo_pure rfl (pr_addN (m := i) (n := 1) rfl rfl (by omega)) ?_))))
     refine jo_pure rfl (pr_move rfl) (jo_nil (j_pull4 ?_))
     refine j_pull4 ?_
     refine j_pull4 ?_
     refine j_pull4 ?_
     refine j_pull4 ?_
     refine jq_round' ((i + 1), w, acc) (by (try dsimp only); exact (⟨by omega, by omega, by rw [exact_miss h3 (by simpa using h4), hinv.2.2]⟩)) (by (try dsimp only); exact (by omega)) ⟨rfl, rfl, rfl, rfl, rfl, rfl, rfl, rfl, trivial⟩ (fun _ h => h)
   ·have h3 := of_decide_eq_false h3b
    have hem : ∀ x ∈ acc, x.1.length ≤ 15000 := by rw [hinv.2.2]; exact exact_mem (fun v hv => hvm v (List.mem_of_mem_take hv))
    have hacf : acc = exactF kind (prefsF kind l).1 vs := by rw [hinv.2.2, take_over (by omega)]
    refine jc_exit ?_
    refine jq_then_exit ?_
    refine jq_then_exit ?_
    refine jq_in_hit ?_
    refine jq_then (jc_seq (jc_region (jo_pure rfl (pr_move rfl) (jo_pure rfl (pr_move rfl) (jo_pure rfl (pr_move rfl) ?_)))))
    refine j_pub_row ?_
    refine jo_callp cal_19 (c_accept_Format acc w (by first | omega | exact hm3 | exact hm6 | exact hps | (have := hvm _ (getD_mem (dd := []) h3); omega) | exact hem | (rw [hinv.2.2]; exact hem) | (have := hinv.2.1; omega)) (by first | omega | exact hm3 | exact hm6 | exact hps | (have := hvm _ (getD_mem (dd := []) h3); omega) | exact hem | (rw [hinv.2.2]; exact hem) | (have := hinv.2.1; omega))) ⟨rfl, trivial⟩ rfl (⟨⟨rfl, .head _⟩, trivial⟩) (fun _ => ?_)
    refine jo_pure rfl (pr_build [(0, str (nameK kind)), (1, str (fmtP acc))] [str (nameK kind), str (fmtP acc)] (fun a hf => by simp only [List.map_toArray, List.map_cons, List.map_nil, hf.ev (show ev _ (.tmp 52) = some (str (nameK kind)) from rfl), hf.ev (show ev _ (.tmp 54) = some (str (fmtP acc)) from rfl)]) (by kernel_rfl)) ?_
    refine jo_buildSlice (t := (.pair .str .str)) [(nameK kind, fmtP acc)] [.agg #[str (nameK kind), str (fmtP acc)]] (fun a hf => by simp only [List.zipIdx_cons, List.zipIdx_nil, List.map_toArray, List.map_cons, List.map_nil, hf.ev (show ev _ (.tmp 55) = some (.agg #[str (nameK kind), str (fmtP acc)]) from rfl)] <;> rfl) rfl Tryz.underlying23 ty_37 rfl rfl rfl rfl rfl (fun g2 => ?_)
    refine j_pull3 ?_
    refine jo_append rfl rfl Tryz.underlying23 ty_37 rfl (by simp only [List.length_append, List.length_cons, List.length_nil, maxLen]; omega) (by simp only [List.length_append, List.length_cons, List.length_nil]; omega) rfl (fun v2 => ?_)
    refine jo_pure rfl (pr_assign rfl) (jo_nil (jq_then (jc_ret (j_pull1 (j_drop ?_)))))
    refine j_pull1 (j_drop (j_pull1 (j_drop (j_pull1 (j_drop ?_)))))
    exact jq_ret1 rfl v2 rfl (show (v2 : Value) = (v2) from rfl) (fun _ h => by rw [norm_yes h1 (by simpa using h2), ← hacf]; exact h)

set_option maxHeartbeats 2000000 in
theorem c_law18_ClassNormal (x : List ((List UInt8) × (List (List UInt8)))) (xv : Value) (l : List ((List UInt8) × (List UInt8))) (lv : Value) (azz : Int) (strict : Bool) (hlx : x.length ≤ 9223372036854775807) (hmx : ∀ a ∈ x, a.2.length ≤ 9223372036854775807) (hl : l.length ≤ 9223372036854775807) : Con Tryz.prog 3 #[xv, lv, .int .i64 (azz), .bool (strict)] [.imm (.list (.pair .str (.list .str))) (xv) (x), .imm (.list (.pair .str .str)) (lv) (l)] (fun _ : Unit => .bool (true)) (fun _ => []) := by
 refine con_of_J (args := [xv, lv, .int .i64 (azz), .bool (strict)]) (n := 54) Tryz.func3 rfl (Nat.le_of_ble_eq_true rfl) rfl (fun w0 I0 m0 => ?_)
 show J _ [(0, xv), (1, lv), (2, .int .i64 (azz)), (3, .bool (strict))] [.imm (.list (.pair .str (.list .str))) (xv) (x), .imm (.list (.pair .str .str)) (lv) (l)] _
 refine jc_seq (jc_region (jo_pure rfl (pr_assign rfl) (jo_nil (jq_then (jc_seq ?_)))))
 refine jc_seq ?_
 by_cases hz : keepA x = true
 ·skip
  have hxl : x.length ≤ 1000 := by have := keepA_len (hz); omega
  have hxv : ∀ a ∈ x, a.1.length ≤ 1000000 ∧ (∀ z ∈ a.2, z.length ≤ 300000) ∧ a.2.length ≤ 9223372036854775807 := fun a ha => by have h9 := keepA_mem (hz) a ha; exact ⟨by omega, fun z hz => Nat.le_trans (h9.2.2 z hz) (by omega), by omega⟩
  have hav : ∀ a ∈ x, a.1.length ≤ 300 ∧ a.2.length ≤ 1000 ∧ ∀ z ∈ a.2, z.length ≤ 300 := fun a ha => by have h9 := keepA_mem hz a ha; exact ⟨by omega, by omega, fun z hz => Nat.le_trans (h9.2.2 z hz) (by omega)⟩
  have hav1 : ∀ a ∈ x, a.1.length ≤ 100 := fun a ha => (keepA_mem hz a ha).1
  by_cases hv : validL x = true
  ·skip
   have hv4 := validL_len hv
   by_cases hkl : keepF l = true
   ·skip
    have hlenl : l.length ≤ 1000000 := by have := keepF_len (hkl); omega
    have hmeml : ∀ z ∈ l, z.1.length ≤ 20000 ∧ z.2.length ≤ 20000 := fun z hz => by have := keepF_mem (hkl) z hz; omega
    have hmem3l : ∀ z ∈ l, z.1.length ≤ 300000 ∧ z.2.length ≤ 300000 := fun z hz => by have := keepF_mem (hkl) z hz; omega
    have hmem6l : ∀ z ∈ l, z.1.length ≤ 1000000 ∧ z.2.length ≤ 1000000 := fun z hz => by have := hmeml z hz; omega
    refine jc_region (jo_pure rfl (pr_move rfl) ?_)
    refine jo_callp cal_4 (c_keep_Axes x xv (by first | omega | exact hl | exact hlx | exact hmx | exact hxl | exact hxv | exact hav | exact hlenl | exact hmeml | exact hmem3l | exact hmem6l | exact hnl | exact hnm | (have := keepF_len hkl; omega) | (exact fun v hv9 => Nat.le_trans (hAv.2.2 v hv9) (by omega)) | decide) (by first | omega | exact hl | exact hlx | exact hmx | exact hxl | exact hxv | exact hav | exact hlenl | exact hmeml | exact hmem3l | exact hmem6l | exact hnl | exact hnm | (have := keepF_len hkl; omega) | (exact fun v hv9 => Nat.le_trans (hAv.2.2 v hv9) (by omega)) | decide)) ⟨rfl, trivial⟩ rfl (⟨⟨rfl, .head _⟩, trivial⟩) (fun _ => ?_)
    refine jo_pure rfl (pr_not rfl) ?_
    refine jo_pure rfl (pr_move rfl) (jo_run (j := 3) (want := false) rfl rfl (by rw [hz]; rfl) ?_)
    refine jo_pure rfl (pr_move rfl) (jo_run (j := 3) (want := false) rfl rfl (by rw [hz]; rfl) ?_)
    refine jo_callp cal_5 (c_ref10_Valid x xv (by first | omega | exact hl | exact hlx | exact hmx | exact hxl | exact hxv | exact hav | exact hlenl | exact hmeml | exact hmem3l | exact hmem6l | exact hnl | exact hnm | (have := keepF_len hkl; omega) | (exact fun v hv9 => Nat.le_trans (hAv.2.2 v hv9) (by omega)) | decide) (by first | omega | exact hl | exact hlx | exact hmx | exact hxl | exact hxv | exact hav | exact hlenl | exact hmeml | exact hmem3l | exact hmem6l | exact hnl | exact hnm | (have := keepF_len hkl; omega) | (exact fun v hv9 => Nat.le_trans (hAv.2.2 v hv9) (by omega)) | decide)) ⟨rfl, trivial⟩ rfl (⟨⟨rfl, .head _⟩, trivial⟩) (fun _ => ?_)
    refine jo_run (j := 3) (want := false) rfl rfl (by rw [hz]; rfl) ?_
    refine jo_pure rfl (pr_not rfl) ?_
    refine jo_pure rfl (pr_pick_f rfl (by rw [hz]; rfl) rfl) ?_
    refine jo_pure rfl (pr_move rfl) (jo_run (j := 8) (want := false) rfl rfl (by rw [hv]; rfl) ?_)
    refine jo_pure rfl (pr_move rfl) (jo_run (j := 8) (want := false) rfl rfl (by rw [hv]; rfl) ?_)
    refine jo_callp cal_6 (c_keep_Fields l lv (by first | omega | exact hl | exact hlx | exact hmx | exact hxl | exact hxv | exact hav | exact hlenl | exact hmeml | exact hmem3l | exact hmem6l | exact hnl | exact hnm | (have := keepF_len hkl; omega) | (exact fun v hv9 => Nat.le_trans (hAv.2.2 v hv9) (by omega)) | decide)) ⟨rfl, trivial⟩ rfl (⟨⟨rfl, .tail _ (.head _)⟩, trivial⟩) (fun _ => ?_)
    refine jo_run (j := 8) (want := false) rfl rfl (by rw [hv]; rfl) ?_
    refine jo_pure rfl (pr_not rfl) ?_
    refine jo_pure rfl (pr_pick_f rfl (by rw [hv]; rfl) rfl) ?_
    refine jo_pure rfl (pr_move rfl) (jo_run (j := 13) (want := false) rfl rfl (by rw [hkl]; rfl) ?_)
    refine jo_pure rfl (pr_move rfl) (jo_run (j := 13) (want := false) rfl rfl (by rw [hkl]; rfl) ?_)
    refine jo_pure rfl (pr_lss (n := 0) rfl rfl) ?_
    refine jo_pure rfl (pr_pick_f rfl (by rw [hkl]; rfl) rfl) ?_
    refine jo_pure rfl (pr_move rfl) (jo_gpure (j := 17) (want := false) rfl rfl rfl rfl (fun hg => pr_move rfl) ?_)
    refine jo_gpure (j := 17) (want := false) rfl rfl rfl rfl (fun hg => pr_move rfl) ?_
    refine jo_gpure (j := 17) (want := false) rfl rfl rfl rfl (fun hg => pr_len_imm (evg rfl hg) (.head _) Tryz.underlying22) ?_
    refine jo_gpure (j := 17) (want := false) rfl rfl rfl rfl (fun hg => pr_geq (n := ((x.length : Nat) : Int)) (evg rfl hg) (evg rfl hg)) ?_
    refine jo_pure rfl (pr_pick_or rfl rfl rfl) ?_
    refine jo_nil (jq_then ?_)
    refine jc_cond rfl (fun h1b => ?_) (fun h1b => ?_)
    ·have h1 := (fun q => Or.imp of_decide_eq_true of_decide_eq_true (bt_or q)) h1b
     refine jc_seq (jc_region (jo_pure rfl (pr_assign rfl) (jo_nil (jq_then (jc_ret ?_)))))
     refine jq_then_ret (j_drop (j_drop ?_))
     exact jq_ret1 rfl () rfl (show (.bool (true) : Value) = (.bool (true)) from rfl) (fun _ h => h)
    ·have h1 := (fun q => And.imp of_decide_eq_false of_decide_eq_false (bf_or q)) h1b
     have hr1 : 0 ≤ azz ∧ azz.toNat < x.length := by have h9 := h1; omega
     have hAv := keepA_mem hz _ (getD_mem (dd := ([], [])) hr1.2)
     have hnl : (normF (kindF (x.getD azz.toNat ([], [])).1) l (x.getD azz.toNat ([], [])).2).length ≤ 1000000 := by have := norm_len (kind := kindF (x.getD azz.toNat ([], [])).1) (l := l) (vs := (x.getD azz.toNat ([], [])).2); have := keepF_len hkl; omega
     have hnm := norm_mem (k := kindF (x.getD azz.toNat ([], [])).1) hmeml (show (x.getD azz.toNat ([], [])).2.length ≤ 20 by omega) hAv.2.2
     have hfin := normal_class (l := l) (strict := strict) hv hr1.2
     rw [show (azz : Int) = ((azz.toNat : Nat) : Int) from (Int.toNat_of_nonneg hr1.1).symm]
     refine jc_skip (jq_then (jc_seq ?_))
     refine j_open_elem (t := (.pair .str (.list .str))) (i := azz.toNat) ([], []) (.head _) (by omega) (fun ⟨_, e1⟩ => ?_)
     show J _ _ (.imm (.list .str) (e1) (((x.getD azz.toNat ([], []))).2) :: .fact (fun w_ I_ => ElemAt w_ I_ (xv) (azz.toNat) 2 [str (((x.getD azz.toNat ([], []))).1), e1]) :: _) _
     refine jc_held (fun (r1 : Value) => [(0, xv), (1, lv), (3, .bool (strict)), (9, r1)]) (fun r1 => [.row (r1) 37 (.pair .str .str) (normF (kindF (((x.getD azz.toNat ([], []))).1)) l (((x.getD azz.toNat ([], []))).2)), .imm (.list .str) (e1) (((x.getD azz.toNat ([], []))).2), .fact (fun w_ I_ => ElemAt w_ I_ (xv) (azz.toNat) 2 [str (((x.getD azz.toNat ([], []))).1), e1]), .imm (.list (.pair .str (.list .str))) (xv) (x), .imm (.list (.pair .str .str)) (lv) (l)]) [.imm (.list .str) (e1) (((x.getD azz.toNat ([], []))).2), .fact (fun w_ I_ => ElemAt w_ I_ (xv) (azz.toNat) 2 [str (((x.getD azz.toNat ([], []))).1), e1]), .imm (.list (.pair .str (.list .str))) (xv) (x), .imm (.list (.pair .str .str)) (lv) (l)] mixed (fun lst hlst => ?_) (fun r1 => ?_)
     ·subst hlst
      refine jh_take (listed' := #[true, false, false, false, false, false, false, false, false, false, false, false, false, false]) 0 rfl (by kernel_rfl) (by kernel_rfl) (by kernel_rfl) rfl (pr_move rfl) (fun _ h => h) rfl ?_
      refine jh_take (listed' := #[true, true, false, false, false, false, false, false, false, false, false, false, false, false]) 1 rfl (by kernel_rfl) (by kernel_rfl) (by kernel_rfl) rfl (pr_move rfl) (fun _ h => h) rfl ?_
      refine jh_take (listed' := #[true, true, true, false, false, false, false, false, false, false, false, false, false, false]) 2 rfl (by kernel_rfl) (by kernel_rfl) (by kernel_rfl) rfl (pr_idx_imm (i := azz.toNat) rfl (.tail _ (.tail _ (.head _))) rfl Tryz.underlying22 ty_30 (by omega)) (fun _ h => h) rfl ?_
      refine jh_take (listed' := #[true, true, true, true, false, false, false, false, false, false, false, false, false, false]) 3 rfl (by kernel_rfl) (by kernel_rfl) (by kernel_rfl) rfl (pr_fieldAddr_imm (i := azz.toNat) rfl (.tail _ (.tail _ (.head _))) Tryz.underlying30 rfl ty_9 rfl rfl (by omega)) (fun _ h => h) rfl ?_
      refine jh_take (listed' := #[true, true, true, true, true, false, false, false, false, false, false, false, false, false]) 4 rfl (by kernel_rfl) (by kernel_rfl) (by kernel_rfl) rfl (pr_load_off_at (o := 0) (str (((x.getD azz.toNat ([], []))).1)) rfl (.tail _ (.head _)) ty_9 (by decide) rfl rfl) (fun _ h => h) rfl ?_
      refine jh_take (listed' := #[true, true, true, true, true, false, true, false, false, false, false, false, false, false]) 6 rfl (by kernel_rfl) (by kernel_rfl) (by kernel_rfl) rfl (pr_move rfl) (fun _ h => h) rfl ?_
      refine jh_take (listed' := #[true, true, true, true, true, false, true, true, false, false, false, false, false, false]) 7 rfl (by kernel_rfl) (by kernel_rfl) (by kernel_rfl) rfl (pr_move rfl) (fun _ h => h) rfl ?_
      refine jh_take (listed' := #[true, true, true, true, true, false, true, true, true, false, false, false, false, false]) 8 rfl (by kernel_rfl) (by kernel_rfl) (by kernel_rfl) rfl (pr_move rfl) (fun _ h => h) rfl ?_
      refine jh_take (listed' := #[true, true, true, true, true, false, true, true, true, true, false, false, false, false]) 9 rfl (by kernel_rfl) (by kernel_rfl) (by kernel_rfl) rfl (pr_idx_imm (i := azz.toNat) rfl (.tail _ (.tail _ (.head _))) rfl Tryz.underlying22 ty_30 (by omega)) (fun _ h => h) rfl ?_
      refine jh_take (listed' := #[true, true, true, true, true, false, true, true, true, true, true, false, false, false]) 10 rfl (by kernel_rfl) (by kernel_rfl) (by kernel_rfl) rfl (pr_fieldAddr_imm (i := azz.toNat) rfl (.tail _ (.tail _ (.head _))) Tryz.underlying30 rfl ty_28 rfl rfl (by omega)) (fun _ h => h) rfl ?_
      refine jh_take (listed' := #[true, true, true, true, true, false, true, true, true, true, true, true, false, false]) 11 rfl (by kernel_rfl) (by kernel_rfl) (by kernel_rfl) rfl (pr_load_off_at (o := 1) (e1) rfl (.tail _ (.head _)) ty_28 (by decide) rfl rfl) (fun _ h => h) rfl ?_
      refine jh_all [5] (by kernel_rfl) (by simp) (fun i hi => ?_)
      simp only [List.mem_cons, List.not_mem_nil, or_false] at hi
      subst hi
      ·refine jh_op rfl ?_
       refine jo_callp cal_8 (c_ref10_Kind (((x.getD azz.toNat ([], []))).1) (by first | omega | exact hl | exact hlx | exact hmx | exact hxl | exact hxv | exact hav | exact hlenl | exact hmeml | exact hmem3l | exact hmem6l | exact hnl | exact hnm | (have := keepF_len hkl; omega) | (exact fun v hv9 => Nat.le_trans (hAv.2.2 v hv9) (by omega)) | decide)) ⟨rfl, trivial⟩ rfl (trivial) (fun _ => ?_)
       refine jh_in (listed' := #[true, true, true, true, true, true, true, true, true, true, true, true, false, false]) (fun _ h => h) rfl ?_
       refine jh_all [12] (by kernel_rfl) (by simp) (fun i hi => ?_)
       simp only [List.mem_cons, List.not_mem_nil, or_false] at hi
       subst hi
       ·refine jh_op rfl ?_
        refine jo_callp cal_7 (c_class_Normalize (kindF (((x.getD azz.toNat ([], []))).1)) l lv (((x.getD azz.toNat ([], []))).2) e1 (by first | omega | exact hl | exact hlx | exact hmx | exact hxl | exact hxv | exact hav | exact hlenl | exact hmeml | exact hmem3l | exact hmem6l | exact hnl | exact hnm | (have := keepF_len hkl; omega) | (exact fun v hv9 => Nat.le_trans (hAv.2.2 v hv9) (by omega)) | decide) (by first | omega | exact hl | exact hlx | exact hmx | exact hxl | exact hxv | exact hav | exact hlenl | exact hmeml | exact hmem3l | exact hmem6l | exact hnl | exact hnm | (have := keepF_len hkl; omega) | (exact fun v hv9 => Nat.le_trans (hAv.2.2 v hv9) (by omega)) | decide) (by first | omega | exact hl | exact hlx | exact hmx | exact hxl | exact hxv | exact hav | exact hlenl | exact hmeml | exact hmem3l | exact hmem6l | exact hnl | exact hnm | (have := keepF_len hkl; omega) | (exact fun v hv9 => Nat.le_trans (hAv.2.2 v hv9) (by omega)) | decide) (by first | omega | exact hl | exact hlx | exact hmx | exact hxl | exact hxv | exact hav | exact hlenl | exact hmeml | exact hmem3l | exact hmem6l | exact hnl | exact hnm | (have := keepF_len hkl; omega) | (exact fun v hv9 => Nat.le_trans (hAv.2.2 v hv9) (by omega)) | decide)) ⟨rfl, rfl, rfl, trivial⟩ rfl (⟨⟨rfl, .tail _ (.tail _ (.tail _ (.head _)))⟩, ⟨⟨rfl, .head _⟩, trivial⟩⟩) (fun r1 => ?_)
        show J _ _ [.row (r1) 37 (.pair .str .str) (normF (kindF (((x.getD azz.toNat ([], []))).1)) l (((x.getD azz.toNat ([], []))).2)), .imm (.list .str) (e1) (((x.getD azz.toNat ([], []))).2), .fact (fun w_ I_ => ElemAt w_ I_ (xv) (azz.toNat) 2 [str (((x.getD azz.toNat ([], []))).1), e1]), .imm (.list (.pair .str (.list .str))) (xv) (x), .imm (.list (.pair .str .str)) (lv) (l)] _
        refine jh_in (listed' := #[true, true, true, true, true, true, true, true, true, true, true, true, true, false]) (fun _ h => Mem.drop1 (h)) rfl ?_
        refine jh_take (listed' := #[true, true, true, true, true, true, true, true, true, true, true, true, true, true]) 13 rfl (by kernel_rfl) (by kernel_rfl) (by kernel_rfl) rfl (pr_assign rfl) (fun _ h => Mem.drop1 (h)) rfl ?_
        show J _ _ _ _
        refine j_pull4 ?_
        refine j_pull4 ?_
        refine j_pull4 ?_
        refine j_pull4 ?_
        refine j_pull4 ?_
        show JH _ _ _ _ _ _ _ _
        exact jh_done r1 (by kernel_rfl) ⟨rfl, rfl, rfl, rfl, trivial⟩ (fun _ h => h)
     ·skip
      refine jq_then (jc_seq (jc_region (jo_pure rfl (pr_move rfl) (jo_pure rfl (pr_move rfl) (jo_pure rfl (pr_move rfl) ?_)))))
      refine jo_pure rfl (pr_move rfl) (j_pub_row ?_)
      refine jo_callp cal_9 (c_class_Same x xv l lv (normF (kindF (((x.getD azz.toNat ([], []))).1)) l (((x.getD azz.toNat ([], []))).2)) r1 strict (by first | omega | exact hl | exact hlx | exact hmx | exact hxl | exact hxv | exact hav | exact hlenl | exact hmeml | exact hmem3l | exact hmem6l | exact hnl | exact hnm | (have := keepF_len hkl; omega) | (exact fun v hv9 => Nat.le_trans (hAv.2.2 v hv9) (by omega)) | decide) (by first | omega | exact hl | exact hlx | exact hmx | exact hxl | exact hxv | exact hav | exact hlenl | exact hmeml | exact hmem3l | exact hmem6l | exact hnl | exact hnm | (have := keepF_len hkl; omega) | (exact fun v hv9 => Nat.le_trans (hAv.2.2 v hv9) (by omega)) | decide) (by first | omega | exact hl | exact hlx | exact hmx | exact hxl | exact hxv | exact hav | exact hlenl | exact hmeml | exact hmem3l | exact hmem6l | exact hnl | exact hnm | (have := keepF_len hkl; omega) | (exact fun v hv9 => Nat.le_trans (hAv.2.2 v hv9) (by omega)) | decide) (by first | omega | exact hl | exact hlx | exact hmx | exact hxl | exact hxv | exact hav | exact hlenl | exact hmeml | exact hmem3l | exact hmem6l | exact hnl | exact hnm | (have := keepF_len hkl; omega) | (exact fun v hv9 => Nat.le_trans (hAv.2.2 v hv9) (by omega)) | decide) (by first | omega | exact hl | exact hlx | exact hmx | exact hxl | exact hxv | exact hav | exact hlenl | exact hmeml | exact hmem3l | exact hmem6l | exact hnl | exact hnm | (have := keepF_len hkl; omega) | (exact fun v hv9 => Nat.le_trans (hAv.2.2 v hv9) (by omega)) | decide) (by first | omega | exact hl | exact hlx | exact hmx | exact hxl | exact hxv | exact hav | exact hlenl | exact hmeml | exact hmem3l | exact hmem6l | exact hnl | exact hnm | (have := keepF_len hkl; omega) | (exact fun v hv9 => Nat.le_trans (hAv.2.2 v hv9) (by omega)) | decide)) ⟨rfl, rfl, rfl, rfl, trivial⟩ rfl (⟨⟨rfl, .tail _ (.tail _ (.tail _ (.head _)))⟩, ⟨⟨rfl, .tail _ (.tail _ (.tail _ (.tail _ (.head _))))⟩, ⟨⟨rfl, .head _⟩, trivial⟩⟩⟩) (fun _ => ?_)
      refine jo_pure rfl (pr_move rfl) (jo_gcall (j := 5) (want := true) rfl rfl rfl cal_10 (fun hg => c_law18_awake) (fun hg => trivial) rfl (fun _ => trivial) ?_)
      refine jo_pure rfl (pr_pick_and rfl rfl rfl) ?_
      refine jo_pure rfl (pr_assign rfl) (jo_nil (jq_then (jc_ret (j_drop (j_drop ?_)))))
      refine j_drop (j_drop (j_drop ?_))
      refine jq_ret1 rfl () rfl ?_ (fun _ h => h)
      exact congrArg Value.bool (by rw [hfin]; rfl)
   ·skip
    refine jc_region (jo_pure rfl (pr_move rfl) ?_)
    refine jo_callp cal_4 (c_keep_Axes x xv (by first | omega | exact hl | exact hlx | exact hmx | exact hxl | exact hxv | exact hav | exact hlenl | exact hmeml | exact hmem3l | exact hmem6l | exact hnl | exact hnm | (have := keepF_len hkl; omega) | (exact fun v hv9 => Nat.le_trans (hAv.2.2 v hv9) (by omega)) | decide) (by first | omega | exact hl | exact hlx | exact hmx | exact hxl | exact hxv | exact hav | exact hlenl | exact hmeml | exact hmem3l | exact hmem6l | exact hnl | exact hnm | (have := keepF_len hkl; omega) | (exact fun v hv9 => Nat.le_trans (hAv.2.2 v hv9) (by omega)) | decide)) ⟨rfl, trivial⟩ rfl (⟨⟨rfl, .head _⟩, trivial⟩) (fun _ => ?_)
    refine jo_pure rfl (pr_not rfl) ?_
    refine jo_pure rfl (pr_move rfl) (jo_run (j := 3) (want := false) rfl rfl (by rw [hz]; rfl) ?_)
    refine jo_pure rfl (pr_move rfl) (jo_run (j := 3) (want := false) rfl rfl (by rw [hz]; rfl) ?_)
    refine jo_callp cal_5 (c_ref10_Valid x xv (by first | omega | exact hl | exact hlx | exact hmx | exact hxl | exact hxv | exact hav | exact hlenl | exact hmeml | exact hmem3l | exact hmem6l | exact hnl | exact hnm | (have := keepF_len hkl; omega) | (exact fun v hv9 => Nat.le_trans (hAv.2.2 v hv9) (by omega)) | decide) (by first | omega | exact hl | exact hlx | exact hmx | exact hxl | exact hxv | exact hav | exact hlenl | exact hmeml | exact hmem3l | exact hmem6l | exact hnl | exact hnm | (have := keepF_len hkl; omega) | (exact fun v hv9 => Nat.le_trans (hAv.2.2 v hv9) (by omega)) | decide)) ⟨rfl, trivial⟩ rfl (⟨⟨rfl, .head _⟩, trivial⟩) (fun _ => ?_)
    refine jo_run (j := 3) (want := false) rfl rfl (by rw [hz]; rfl) ?_
    refine jo_pure rfl (pr_not rfl) ?_
    refine jo_pure rfl (pr_pick_f rfl (by rw [hz]; rfl) rfl) ?_
    refine jo_pure rfl (pr_move rfl) (jo_run (j := 8) (want := false) rfl rfl (by rw [hv]; rfl) ?_)
    refine jo_pure rfl (pr_move rfl) (jo_run (j := 8) (want := false) rfl rfl (by rw [hv]; rfl) ?_)
    refine jo_callp cal_6 (c_keep_Fields l lv (by first | omega | exact hl | exact hlx | exact hmx | exact hxl | exact hxv | exact hav | exact hlenl | exact hmeml | exact hmem3l | exact hmem6l | exact hnl | exact hnm | (have := keepF_len hkl; omega) | (exact fun v hv9 => Nat.le_trans (hAv.2.2 v hv9) (by omega)) | decide)) ⟨rfl, trivial⟩ rfl (⟨⟨rfl, .tail _ (.head _)⟩, trivial⟩) (fun _ => ?_)
    refine jo_run (j := 8) (want := false) rfl rfl (by rw [hv]; rfl) ?_
    refine jo_pure rfl (pr_not rfl) ?_
    refine jo_pure rfl (pr_pick_f rfl (by rw [hv]; rfl) rfl) ?_
    refine jo_pure rfl (pr_move rfl) (jo_skipu (j := 13) (want := false) rfl rfl (by simpa using hkl) rfl ?_)
    refine jo_skipu (j := 13) (want := false) rfl rfl (by simpa using hkl) rfl ?_
    refine jo_pure rfl (pr_pick_t rfl (by simpa using hkl) rfl) ?_
    refine jo_pure rfl (pr_move rfl) (jo_skipu (j := 17) (want := false) rfl rfl (rfl) rfl ?_)
    refine jo_skipu (j := 17) (want := false) rfl rfl (rfl) rfl ?_
    refine jo_skipu (j := 17) (want := false) rfl rfl (rfl) rfl ?_
    refine jo_skipu (j := 17) (want := false) rfl rfl (rfl) rfl ?_
    refine jo_pure rfl (pr_pick_t rfl (rfl) rfl) ?_
    refine jo_nil (jq_then (jc_true rfl (rfl) ?_))
    refine jc_seq (jc_region (jo_pure rfl (pr_assign rfl) (jo_nil (jq_then (jc_ret ?_)))))
    refine jq_then_ret (j_drop (j_drop ?_))
    exact jq_ret1 rfl () rfl (show (.bool (true) : Value) = (.bool (true)) from rfl) (fun _ h => h)
  ·skip
   refine jc_region (jo_pure rfl (pr_move rfl) ?_)
   refine jo_callp cal_4 (c_keep_Axes x xv (by first | omega | exact hl | exact hlx | exact hmx | exact hxl | exact hxv | exact hav | exact hlenl | exact hmeml | exact hmem3l | exact hmem6l | exact hnl | exact hnm | (have := keepF_len hkl; omega) | (exact fun v hv9 => Nat.le_trans (hAv.2.2 v hv9) (by omega)) | decide) (by first | omega | exact hl | exact hlx | exact hmx | exact hxl | exact hxv | exact hav | exact hlenl | exact hmeml | exact hmem3l | exact hmem6l | exact hnl | exact hnm | (have := keepF_len hkl; omega) | (exact fun v hv9 => Nat.le_trans (hAv.2.2 v hv9) (by omega)) | decide)) ⟨rfl, trivial⟩ rfl (⟨⟨rfl, .head _⟩, trivial⟩) (fun _ => ?_)
   refine jo_pure rfl (pr_not rfl) ?_
   refine jo_pure rfl (pr_move rfl) (jo_run (j := 3) (want := false) rfl rfl (by rw [hz]; rfl) ?_)
   refine jo_pure rfl (pr_move rfl) (jo_run (j := 3) (want := false) rfl rfl (by rw [hz]; rfl) ?_)
   refine jo_callp cal_5 (c_ref10_Valid x xv (by first | omega | exact hl | exact hlx | exact hmx | exact hxl | exact hxv | exact hav | exact hlenl | exact hmeml | exact hmem3l | exact hmem6l | exact hnl | exact hnm | (have := keepF_len hkl; omega) | (exact fun v hv9 => Nat.le_trans (hAv.2.2 v hv9) (by omega)) | decide) (by first | omega | exact hl | exact hlx | exact hmx | exact hxl | exact hxv | exact hav | exact hlenl | exact hmeml | exact hmem3l | exact hmem6l | exact hnl | exact hnm | (have := keepF_len hkl; omega) | (exact fun v hv9 => Nat.le_trans (hAv.2.2 v hv9) (by omega)) | decide)) ⟨rfl, trivial⟩ rfl (⟨⟨rfl, .head _⟩, trivial⟩) (fun _ => ?_)
   refine jo_run (j := 3) (want := false) rfl rfl (by rw [hz]; rfl) ?_
   refine jo_pure rfl (pr_not rfl) ?_
   refine jo_pure rfl (pr_pick_f rfl (by rw [hz]; rfl) rfl) ?_
   refine jo_pure rfl (pr_move rfl) (jo_skipu (j := 8) (want := false) rfl rfl (by simpa using hv) rfl ?_)
   refine jo_skipu (j := 8) (want := false) rfl rfl (by simpa using hv) rfl ?_
   refine jo_skipu (j := 8) (want := false) rfl rfl (by simpa using hv) rfl ?_
   refine jo_pure rfl (pr_pick_t rfl (by simpa using hv) rfl) ?_
   refine jo_pure rfl (pr_move rfl) (jo_skipu (j := 13) (want := false) rfl rfl (rfl) rfl ?_)
   refine jo_skipu (j := 13) (want := false) rfl rfl (rfl) rfl ?_
   refine jo_pure rfl (pr_pick_t rfl (rfl) rfl) ?_
   refine jo_pure rfl (pr_move rfl) (jo_skipu (j := 17) (want := false) rfl rfl (rfl) rfl ?_)
   refine jo_skipu (j := 17) (want := false) rfl rfl (rfl) rfl ?_
   refine jo_skipu (j := 17) (want := false) rfl rfl (rfl) rfl ?_
   refine jo_skipu (j := 17) (want := false) rfl rfl (rfl) rfl ?_
   refine jo_pure rfl (pr_pick_t rfl (rfl) rfl) ?_
   refine jo_nil (jq_then (jc_true rfl (rfl) ?_))
   refine jc_seq (jc_region (jo_pure rfl (pr_assign rfl) (jo_nil (jq_then (jc_ret ?_)))))
   refine jq_then_ret (j_drop (j_drop ?_))
   exact jq_ret1 rfl () rfl (show (.bool (true) : Value) = (.bool (true)) from rfl) (fun _ h => h)
 ·skip
  refine jc_region (jo_pure rfl (pr_move rfl) ?_)
  refine jo_callp cal_4 (c_keep_Axes x xv (by first | omega | exact hl | exact hlx | exact hmx | exact hxl | exact hxv | exact hav | exact hlenl | exact hmeml | exact hmem3l | exact hmem6l | exact hnl | exact hnm | (have := keepF_len hkl; omega) | (exact fun v hv9 => Nat.le_trans (hAv.2.2 v hv9) (by omega)) | decide) (by first | omega | exact hl | exact hlx | exact hmx | exact hxl | exact hxv | exact hav | exact hlenl | exact hmeml | exact hmem3l | exact hmem6l | exact hnl | exact hnm | (have := keepF_len hkl; omega) | (exact fun v hv9 => Nat.le_trans (hAv.2.2 v hv9) (by omega)) | decide)) ⟨rfl, trivial⟩ rfl (⟨⟨rfl, .head _⟩, trivial⟩) (fun _ => ?_)
  refine jo_pure rfl (pr_not rfl) ?_
  refine jo_pure rfl (pr_move rfl) (jo_skipu (j := 3) (want := false) rfl rfl (by simpa using hz) rfl ?_)
  refine jo_skipu (j := 3) (want := false) rfl rfl (by simpa using hz) rfl ?_
  refine jo_skipu (j := 3) (want := false) rfl rfl (by simpa using hz) rfl ?_
  refine jo_pure rfl (pr_pick_t rfl (by simpa using hz) rfl) ?_
  refine jo_pure rfl (pr_move rfl) (jo_skipu (j := 8) (want := false) rfl rfl (rfl) rfl ?_)
  refine jo_skipu (j := 8) (want := false) rfl rfl (rfl) rfl ?_
  refine jo_skipu (j := 8) (want := false) rfl rfl (rfl) rfl ?_
  refine jo_pure rfl (pr_pick_t rfl (rfl) rfl) ?_
  refine jo_pure rfl (pr_move rfl) (jo_skipu (j := 13) (want := false) rfl rfl (rfl) rfl ?_)
  refine jo_skipu (j := 13) (want := false) rfl rfl (rfl) rfl ?_
  refine jo_pure rfl (pr_pick_t rfl (rfl) rfl) ?_
  refine jo_pure rfl (pr_move rfl) (jo_skipu (j := 17) (want := false) rfl rfl (rfl) rfl ?_)
  refine jo_skipu (j := 17) (want := false) rfl rfl (rfl) rfl ?_
  refine jo_skipu (j := 17) (want := false) rfl rfl (rfl) rfl ?_
  refine jo_skipu (j := 17) (want := false) rfl rfl (rfl) rfl ?_
  refine jo_pure rfl (pr_pick_t rfl (rfl) rfl) ?_
  refine jo_nil (jq_then (jc_true rfl (rfl) ?_))
  refine jc_seq (jc_region (jo_pure rfl (pr_assign rfl) (jo_nil (jq_then (jc_ret ?_)))))
  refine jq_then_ret (j_drop (j_drop ?_))
  exact jq_ret1 rfl () rfl (show (.bool (true) : Value) = (.bool (true)) from rfl) (fun _ h => h)
end Go.Proofs.YtjbcomdljmfgjabGreatDoor
