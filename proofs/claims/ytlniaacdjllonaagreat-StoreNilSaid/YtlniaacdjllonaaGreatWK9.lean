/-
 Contracts of functions of the program: each returns what a plain function says, for every input within the bounds named. Conditions: the bounds.
-/
import Derived.Test.YtlniaacdjllonaaGreatRows
import Derived.Test.YtlniaacdjllonaaGreatWK8
import Derived.Test.YtlniaacdjllonaaGreatWSep8
namespace Go.Proofs.YtlniaacdjllonaaGreat
open Go Go.Sep
set_option linter.unusedSimpArgs false
set_option linter.unusedVariables false

open Go.Plain

theorem cal_19 : Cal Tryz.prog 19 := cal_of Tryz.func19 (by kernel_rfl) rfl
theorem cal_31 : Cal Tryz.prog 31 := cal_of Tryz.func31 (by kernel_rfl) rfl
theorem cal_43 : Cal Tryz.prog 43 := cal_of Tryz.func43 (by kernel_rfl) rfl
theorem cal_49 : Cal Tryz.prog 49 := cal_of Tryz.func49 (by kernel_rfl) rfl
theorem cal_50 : Cal Tryz.prog 50 := cal_of Tryz.func50 (by kernel_rfl) rfl
theorem cal_59 : Cal Tryz.prog 59 := cal_of Tryz.func59 (by kernel_rfl) rfl
theorem cal_75 : Cal Tryz.prog 75 := cal_of Tryz.func75 (by kernel_rfl) rfl
theorem ty_66 : TyF Tryz.prog 66 false 1 8 (some (.map none)) := ⟨by kernel_rfl, by kernel_rfl⟩

theorem c_made (b r : Nat) (c0 c1 c2 c3 c4 : Value)  : Con Tryz.prog 31 #[.pointer (some ⟨b, 0, none⟩)] [.ibox b 68 [c0, c1, c2, c3, c4, .map (some r)]] (fun _ : Unit => .bool (true)) (fun _ => []) := by
 refine con_of_J (args := [.pointer (some ⟨b, 0, none⟩)]) (n := 12) Tryz.func31 rfl (Nat.le_of_ble_eq_true rfl) rfl (fun w0 I0 m0 => ?_)
 refine jc_seq (jc_region (jo_pure rfl (pr_assign rfl) (jo_nil (jq_then (jc_seq (jc_region (jo_pure rfl (pr_move rfl) (jo_pure rfl (pr_neq_ptrnil rfl rfl Tryz.underlying22) ?_))))))))
 refine jo_pure rfl (pr_move rfl) (jo_run (j := 2) (want := true) rfl rfl (rfl) ?_)
 refine jo_pure rfl (pr_move rfl) (jo_run (j := 2) (want := true) rfl rfl (rfl) ?_)
 refine jo_pure rfl (pr_nilCheck rfl) ?_
 refine jo_run (j := 2) (want := true) rfl rfl (rfl) ?_
 refine jo_pure rfl (pr_fieldAddr 5 rfl Tryz.underlying68 rfl ty_66 rfl rfl) ?_
 refine jo_run (j := 2) (want := true) rfl rfl (rfl) ?_
 refine jo_pure rfl (pr_load_ibox (.map (some r)) rfl ty_66 (.head _) rfl (by decide) rfl) ?_
 refine jo_run (j := 2) (want := true) rfl rfl (rfl) ?_
 refine jo_pure rfl (pr_neq_mapnil rfl rfl Tryz.underlying66) ?_
 refine jo_pure rfl (pr_pick_t rfl (rfl) rfl) ?_
 refine jo_pure rfl (pr_assign rfl) (jo_nil (jq_then (jc_ret (j_drop ?_))))
 exact jq_ret1 rfl () rfl (show (.bool (true) : Value) = (.bool (true)) from rfl) (fun _ h => h)

theorem c_clone_row (l : List Str) (lv : Value) (hl : l.length ≤ 1000000000) : Con Tryz.prog 32 #[lv] [.imm (.list .str) (lv) (l)] (fun r1 : Value => r1) (fun r1 => [.row r1 9 .str (l)]) := by
 refine con_of_J (args := [lv]) (n := 8) Tryz.func32 rfl (Nat.le_of_ble_eq_true rfl) rfl (fun w0 I0 m0 => ?_)
 refine jc_seq (jc_region (jo_pure rfl (pr_assign rfl) (jo_nil (jq_then (jc_seq (jc_seq (jc_region (jo_pure rfl (pr_move rfl) ?_))))))))
 refine jo_eqnil rfl rfl (.head _) Tryz.underlying28 rfl (fun b1 hb1 => ?_)
 refine jo_nil (jq_then ?_)
 refine jc_cond rfl (fun h1b => ?_) (fun h1b => ?_)
 ·have h1 := id h1b
  refine jc_seq (jc_region (jo_pure rfl (pr_assign rfl) (jo_nil (jq_then (jc_ret (jq_then_ret (j_nil_row 9 .str ?_)))))))
  refine j_pull1 (j_drop ?_)
  exact jq_ret1 rfl (.slice none 0 0) rfl (show (.slice none 0 0 : Value) = (.slice none 0 0) from rfl) (fun _ h => by rw [hb1 h1]; exact h)
 ·have h1 := id h1b
  refine jc_skip (jq_then (jc_seq (jc_region ?_)))
  refine jo_buildSlice0 (t := .str) Tryz.underlying28 ty_9 rfl (fun g1 => ?_)
  refine jo_pure rfl (pr_move rfl) (j_row_of_rowg ?_)
  refine jo_append_imm rfl rfl (.head _) Tryz.underlying28 ty_9 rfl (by simp only [List.length_append, List.length_cons, List.length_nil, maxLen]; omega) (by simp only [List.length_append, List.length_cons, List.length_nil]; omega) rfl (fun v1 => ?_)
  refine jo_pure rfl (pr_assign rfl) (jo_nil (jq_then (jc_ret (j_pull1 (j_drop ?_)))))
  exact jq_ret1 rfl v1 rfl (show (v1 : Value) = (v1) from rfl) (fun _ h => by rw [List.nil_append] at h; exact h)

theorem c_store_Keys (b r : Nat) (bu va ta u : Nat) (ov : Value) (os : List Str) (ho : os.length ≤ 1000000) : Con Tryz.prog 12 #[.pointer (some ⟨b, 0, none⟩)] [.box b 68 [.int .i64 ((bu : Nat) : Int), .int .i64 ((va : Nat) : Int), .int .i64 ((ta : Nat) : Int), .int .i64 ((u : Nat) : Int), ov, .map (some r)], .row (ov) 9 .str (os)] (fun r1 : Value => r1) (fun r1 => [.row (r1) 9 .str (os), .box b 68 [.int .i64 ((bu : Nat) : Int), .int .i64 ((va : Nat) : Int), .int .i64 ((ta : Nat) : Int), .int .i64 ((u : Nat) : Int), ov, .map (some r)], .row (ov) 9 .str (os)]) := by
 refine con_of_J (args := [.pointer (some ⟨b, 0, none⟩)]) (n := 11) Tryz.func12 rfl (Nat.le_of_ble_eq_true rfl) rfl (fun w0 I0 m0 => ?_)
 refine jc_seq (jc_region (jo_pure rfl (pr_assign rfl) (jo_nil (jq_then (jc_seq (jc_seq (jc_region (jo_pure rfl (pr_move rfl) ?_))))))))
 refine jo_callq cal_31 (c_made b r (.int .i64 ((bu : Nat) : Int)) (.int .i64 ((va : Nat) : Int)) (.int .i64 ((ta : Nat) : Int)) (.int .i64 ((u : Nat) : Int)) ov) ⟨rfl, trivial⟩ rfl (⟨peek_box (.head _), trivial⟩) (fun _ => ?_)
 refine jo_pure rfl (pr_not rfl) ?_
 refine jo_nil (jq_then (jc_false rfl (rfl) ?_))
 refine jc_skip (jq_then (jc_seq (jc_region (jo_pure rfl (pr_move rfl) (jo_pure rfl (pr_nilCheck rfl) (jo_pure rfl (pr_fieldAddr 4 rfl Tryz.underlying68 rfl ty_28 rfl rfl) ?_))))))
 refine jo_pure rfl (pr_load_box (ov) rfl ty_28 (.head _) rfl (by decide) rfl) ?_
 refine jo_callqr rfl cal_32 (c_clone_row os ov (by omega)) ⟨rfl, trivial⟩ rfl (⟨peek_row (.tail _ (.head _)), trivial⟩) (fun r1 => ?_)
 refine jo_pure rfl (pr_assign rfl) (jo_nil (jq_then (jc_ret (j_pull2 (j_pull2 (j_pull2 ?_))))))
 exact jq_ret1 rfl r1 rfl (show (_ : Value) = (r1) from rfl) (fun _ h => h)

theorem c_store_Bytes (b r : Nat) (bu va ta u : Nat) (ov : Value)  : Con Tryz.prog 13 #[.pointer (some ⟨b, 0, none⟩)] [.ibox b 68 [.int .i64 ((bu : Nat) : Int), .int .i64 ((va : Nat) : Int), .int .i64 ((ta : Nat) : Int), .int .i64 ((u : Nat) : Int), ov, .map (some r)]] (fun _ : Unit => .int .i64 ((u : Nat) : Int)) (fun _ => []) := by
 refine con_of_J (args := [.pointer (some ⟨b, 0, none⟩)]) (n := 10) Tryz.func13 rfl (Nat.le_of_ble_eq_true rfl) rfl (fun w0 I0 m0 => ?_)
 refine jc_seq (jc_region (jo_pure rfl (pr_assign rfl) (jo_nil (jq_then (jc_seq (jc_seq (jc_region (jo_pure rfl (pr_move rfl) ?_))))))))
 refine jo_callp cal_31 (c_made b r (.int .i64 ((bu : Nat) : Int)) (.int .i64 ((va : Nat) : Int)) (.int .i64 ((ta : Nat) : Int)) (.int .i64 ((u : Nat) : Int)) ov) ⟨rfl, trivial⟩ rfl (⟨⟨rfl, .head _⟩, trivial⟩) (fun _ => ?_)
 refine jo_pure rfl (pr_not rfl) ?_
 refine jo_nil (jq_then (jc_false rfl (rfl) ?_))
 refine jc_skip (jq_then (jc_seq (jc_region (jo_pure rfl (pr_move rfl) (jo_pure rfl (pr_nilCheck rfl) (jo_pure rfl (pr_fieldAddr 3 rfl Tryz.underlying68 rfl ty_3 rfl rfl) ?_))))))
 refine jo_pure rfl (pr_load_ibox (.int .i64 ((u : Nat) : Int)) rfl ty_3 (.head _) rfl (by decide) rfl) ?_
 refine jo_pure rfl (pr_assign rfl) (jo_nil (jq_then (jc_ret (j_drop ?_))))
 exact jq_ret1 rfl () rfl (show (.int .i64 ((u : Nat) : Int) : Value) = (.int .i64 ((u : Nat) : Int)) from rfl) (fun _ h => h)

theorem c_store_has (b r : Nat) (bu va ta : Nat) (u : Value) (ov : Value) (A : List (Str × (List (Axs)) × (List Ent))) (key : Str)  : Con Tryz.prog 43 #[.pointer (some ⟨b, 0, none⟩), str (key)] [.box b 68 [.int .i64 ((bu : Nat) : Int), .int .i64 ((va : Nat) : Int), .int .i64 ((ta : Nat) : Int), u, ov, .map (some r)], .mpt r tyT (A)] (fun rr : Value × Value => .tuple #[.agg #[rr.1, rr.2], .bool (inA A key)]) (fun rr => [.imm (.list (.pair .str (.list .str))) rr.1 ((findA A key).1), .imm (.list tyE) rr.2 ((findA A key).2), .box b 68 [.int .i64 ((bu : Nat) : Int), .int .i64 ((va : Nat) : Int), .int .i64 ((ta : Nat) : Int), u, ov, .map (some r)], .mpt r tyT (A)]) := by
 refine con_of_J (args := [.pointer (some ⟨b, 0, none⟩), str (key)]) (n := 23) Tryz.func43 rfl (Nat.le_of_ble_eq_true rfl) rfl (fun w0 I0 m0 => ?_)
 refine jc_seq (jc_region ?_)
 refine jo_alloc ty_50 [.slice none 0 0, .slice none 0 0] rfl rfl (fun b1 => ?_)
 refine jo_pure rfl (pr_assign rfl) (jo_nil (jq_then (jc_seq (jc_seq (jc_region (jo_pure rfl (pr_move rfl) ?_))))))
 refine jo_callq cal_31 (c_made b r (.int .i64 ((bu : Nat) : Int)) (.int .i64 ((va : Nat) : Int)) (.int .i64 ((ta : Nat) : Int)) u ov) ⟨rfl, trivial⟩ rfl (⟨peek_box (.tail _ (.head _)), trivial⟩) (fun _ => ?_)
 refine jo_pure rfl (pr_not rfl) ?_
 refine jo_nil (jq_then (jc_false rfl (rfl) ?_))
 refine jc_skip (jq_then (jc_seq (jc_region (jo_pure rfl (pr_move rfl) (jo_pure rfl (pr_nilCheck rfl) (jo_pure rfl (pr_fieldAddr 5 rfl Tryz.underlying68 rfl ty_66 rfl rfl) ?_))))))
 refine jo_pure rfl (pr_load_box (.map (some r)) rfl ty_66 (.tail _ (.head _)) rfl (by decide) rfl) ?_
 refine jo_pure rfl (pr_move rfl) ?_
 refine jo_lookT2 (ty := tyT) ([], []) rfl rfl (.tail _ (.tail _ (.head _))) Tryz.underlying66 Tryz.underlying9 ty_50 (fun w I => ⟨[.slice none 0 0, .slice none 0 0], rfl, [.slice none 0 0], [.slice none 0 0], rfl, repC_nil, repC_nil⟩) rfl (fun ⟨e1, e2⟩ => ?_)
 refine jo_pure rfl (pr_move rfl) (jo_pure rfl (pr_extract rfl rfl) (jo_pure rfl (pr_extract rfl rfl) ?_))
 refine jo_alloc ty_50 [.slice none 0 0, .slice none 0 0] rfl rfl (fun b2 => ?_)
 refine jo_storeV rfl rfl ty_50 [e1, e2] (fun _ _ _ _ => rfl) rfl (fun w I m hs => by simp only [List.all_cons, List.all_nil, Bool.and_true, Bool.and_eq_true]; exact ⟨(SliceV.one (imm_slice (.tail _ (.head _)) hs)), (SliceV.one (imm_slice (.tail _ (.tail _ (.head _))) hs))⟩) [e1, e2] rfl rfl ?_
 refine jo_pure rfl (pr_assign rfl) (jo_nil (jq_then (jc_seq (jc_region (jo_pure rfl (pr_load_box (.agg #[e1, e2]) rfl ty_50 (.head _) rfl (by decide) rfl) ?_)))))
 refine jo_pure rfl (pr_move rfl) (j_pull3 (jo_storeV rfl rfl ty_50 [e1, e2] (fun _ _ _ _ => rfl) rfl (fun w I m hs => by simp only [List.all_cons, List.all_nil, Bool.and_true, Bool.and_eq_true]; exact ⟨(SliceV.one (imm_slice (.tail _ (.tail _ (.head _))) hs)), (SliceV.one (imm_slice (.tail _ (.tail _ (.tail _ (.head _)))) hs))⟩) [e1, e2] rfl rfl ?_))
 refine jo_pure rfl (pr_assign rfl) (jo_nil (jq_then (jc_ret (j_pull1 (j_drop (j_pull4 ?_))))))
 refine j_pull4 ?_
 refine j_pull4 ?_
 refine j_pull4 ?_
 exact jq_rets (rs := [.cell 4 50, .tmp 5]) (vs := [.agg #[e1, e2], .bool ((lookS A key).isSome)]) rfl (e1, e2) ⟨resV_box (.agg #[e1, e2]) rfl ty_50 (.tail _ (.tail _ (.tail _ (.tail _ (.head _))))) rfl (by decide) rfl, resV_tmp rfl, trivial⟩ rfl (show (_ : Value) = (.tuple #[.agg #[e1, e2], .bool ((lookS A key).isSome)]) from rfl) (fun w h => (fun h => h) (Mem.front (As := [.imm (.list (.pair .str (.list .str))) (e1) ((((lookS A key).getD ([], []))).1), .imm (.list tyE) (e2) ((((lookS A key).getD ([], []))).2), .box b 68 [.int .i64 ((bu : Nat) : Int), .int .i64 ((va : Nat) : Int), .int .i64 ((ta : Nat) : Int), u, ov, .map (some r)], .mpt r tyT (A)]) h))

theorem c_store_first (b r : Nat) (bu va ta : Nat) (u ov : Value) (os : List Str) (key : Str) (ho : os.length ≤ 1000000) : Con Tryz.prog 50 #[.pointer (some ⟨b, 0, none⟩), str (key)] [.box b 68 [.int .i64 ((bu : Nat) : Int), .int .i64 ((va : Nat) : Int), .int .i64 ((ta : Nat) : Int), u, ov, .map (some r)], .row (ov) 9 .str (os)] (fun r1 : Value => .tuple #[]) (fun r1 => [.box b 68 [.int .i64 ((bu : Nat) : Int), .int .i64 ((va : Nat) : Int), .int .i64 ((ta : Nat) : Int), u, r1, .map (some r)], .row (r1) 9 .str (frontS os key)]) := by
 refine con_of_J (args := [.pointer (some ⟨b, 0, none⟩), str (key)]) (n := 16) Tryz.func50 rfl (Nat.le_of_ble_eq_true rfl) rfl (fun w0 I0 m0 => ?_)
 refine jc_seq (jc_region ?_)
 refine jo_box rfl [str (key)] rfl rfl (fun b1 => ?_)
 refine jo_nil (jq_then (j_pub_box ?_))
 refine j_pull2 ?_
 refine jc_heldI (fun (v1 : Value) => []) (fun v1 => [.box b 68 [.int .i64 ((bu : Nat) : Int), .int .i64 ((va : Nat) : Int), .int .i64 ((ta : Nat) : Int), u, v1, .map (some r)], .row (v1) 9 .str ((os.filter (fun o => !(fun s => decide (s = key)) o)) ++ [key]), .ibox b1 9 [str (key)]]) [.ibox b1 9 [str (key)], .box b 68 [.int .i64 ((bu : Nat) : Int), .int .i64 ((va : Nat) : Int), .int .i64 ((ta : Nat) : Int), u, ov, .map (some r)]] [12] mixed (fun lst hlst => ?_) (fun v1 => ?_)
 ·subst hlst
  refine ji_take (listed' := #[true, false, false, false, false, false, false, false, false, false, false, false, false]) 0 rfl (by kernel_rfl) (by kernel_rfl) (by kernel_rfl) (by kernel_rfl) rfl (pr_move rfl) (fun _ h => Mem.drop1 (h)) rfl ?_
  refine ji_take (listed' := #[true, true, false, false, false, false, false, false, false, false, false, false, false]) 1 rfl (by kernel_rfl) (by kernel_rfl) (by kernel_rfl) (by kernel_rfl) rfl (pr_move rfl) (fun _ h => Mem.drop1 (h)) rfl ?_
  refine ji_take (listed' := #[true, true, true, false, false, false, false, false, false, false, false, false, false]) 2 rfl (by kernel_rfl) (by kernel_rfl) (by kernel_rfl) (by kernel_rfl) rfl (pr_nilCheck rfl) (fun _ h => Mem.drop1 (h)) rfl ?_
  refine ji_take (listed' := #[true, true, true, true, false, false, false, false, false, false, false, false, false]) 3 rfl (by kernel_rfl) (by kernel_rfl) (by kernel_rfl) (by kernel_rfl) rfl (pr_fieldAddr 4 rfl Tryz.underlying68 rfl ty_28 rfl rfl) (fun _ h => Mem.drop1 (h)) rfl ?_
  refine ji_take (listed' := #[true, true, true, true, true, false, false, false, false, false, false, false, false]) 4 rfl (by kernel_rfl) (by kernel_rfl) (by kernel_rfl) (by kernel_rfl) rfl (pr_load_box (ov) rfl ty_28 (.tail _ (.head _)) rfl (by decide) rfl) (fun _ h => Mem.drop1 (h)) rfl ?_
  refine ji_take (listed' := #[true, true, true, true, true, true, false, false, false, false, false, false, false]) 5 rfl (by kernel_rfl) (by kernel_rfl) (by kernel_rfl) (by kernel_rfl) rfl (pr_makeFunc (fs := #[]) (cs := #[.pointer (some ⟨b1, 0, none⟩)]) (fun a hf => by simp) (fun a hf => by simp only [List.map_toArray, List.map_cons, List.map_nil, hf.ev (show ev _ (.tmp 3) = some (.pointer (some ⟨b1, 0, none⟩)) from rfl)])) (fun _ h => Mem.drop1 (h)) rfl ?_
  refine ji_take (listed' := #[true, true, true, true, true, true, false, true, false, false, false, false, false]) 7 rfl (by kernel_rfl) (by kernel_rfl) (by kernel_rfl) (by kernel_rfl) rfl (pr_load_ibox (str (key)) rfl ty_9 (.head _) rfl (by decide) rfl) (fun _ h => Mem.drop1 (h)) rfl ?_
  refine ji_all [6, 8] (by kernel_rfl) (by simp) (fun i hi => ?_)
  simp only [List.mem_cons, List.not_mem_nil, or_false] at hi
  rcases hi with rfl | rfl
  ·refine jh_op rfl ?_
   refine j_pull1 (j_dup rfl ?_)
   refine j_pull2 ?_
   refine jo_callm [.ibox b1 9 [str (key)], .box b 68 [.int .i64 ((bu : Nat) : Int), .int .i64 ((va : Nat) : Int), .int .i64 ((ta : Nat) : Int), u, ov, .map (some r)]] rfl cal_75 (c_deleteFunc_first os ov key b1 (by omega)) ⟨rfl, rfl, trivial⟩ rfl (fun r1 => ?_)
   refine ji_in (listed' := #[true, true, true, true, true, true, true, true, false, false, false, false, false]) (fun _ h => Mem.drop1 (h)) rfl ?_
   refine ji_all [8] (by kernel_rfl) (by simp) (fun i hi => ?_)
   simp only [List.mem_cons, List.not_mem_nil, or_false] at hi
   subst hi
   ·refine jh_op rfl ?_
    refine jo_buildSlice (t := .str) [key] [str (key)] (fun a hf => by simp only [List.zipIdx_cons, List.zipIdx_nil, List.map_toArray, List.map_cons, List.map_nil, hf.ev (show ev _ (.tmp 11) = some (str (key)) from rfl)] <;> rfl) rfl Tryz.underlying28 ty_9 rfl rfl rfl rfl rfl (fun g1 => ?_)
    refine ji_in (listed' := #[true, true, true, true, true, true, true, true, true, false, false, false, false]) (fun _ h => Mem.drop1 (Mem.drop1 (h))) rfl ?_
    refine ji_all [9] (by kernel_rfl) (by simp) (fun i hi => ?_)
    simp only [List.mem_cons, List.not_mem_nil, or_false] at hi
    subst hi
    ·refine jh_op rfl ?_
     refine j_pull1 ?_
     refine jo_append rfl rfl Tryz.underlying28 ty_9 rfl (by simp only [List.length_append, List.length_cons, List.length_nil, maxLen]; exact Nat.le_trans (Nat.add_le_add_right (List.length_filter_le _ _) _) (by omega)) (by simp only [List.length_append, List.length_cons, List.length_nil]; exact Nat.le_trans (Nat.mul_le_mul_right _ (Nat.add_le_add_right (List.length_filter_le _ _) _)) (by omega)) rfl (fun v1 => ?_)
     refine ji_in (listed' := #[true, true, true, true, true, true, true, true, true, true, false, false, false]) (fun _ h => Mem.drop1 (h)) rfl ?_
     refine ji_all [10] (by kernel_rfl) (by simp) (fun i hi => ?_)
     simp only [List.mem_cons, List.not_mem_nil, or_false] at hi
     subst hi
     ·refine jh_op rfl ?_
      refine jo_pure rfl (pr_nilCheck rfl) ?_
      refine ji_in (listed' := #[true, true, true, true, true, true, true, true, true, true, true, false, false]) (fun _ h => Mem.drop1 (h)) rfl ?_
      refine ji_take (listed' := #[true, true, true, true, true, true, true, true, true, true, true, true, false]) 11 rfl (by kernel_rfl) (by kernel_rfl) (by kernel_rfl) (by kernel_rfl) rfl (pr_fieldAddr 4 rfl Tryz.underlying68 rfl ty_28 rfl rfl) (fun _ h => Mem.drop1 (h)) rfl ?_
      refine ji_all [12] (by kernel_rfl) (by simp) (fun i hi => ?_)
      simp only [List.mem_cons, List.not_mem_nil, or_false] at hi
      subst hi
      ·refine jh_op rfl ?_
       refine j_pull2 (jo_storeV rfl rfl ty_28 [v1] (fun w I m hs => (SliceV.cells (row_slice (.tail _ (.head _)) hs))) rfl (fun w I m hs => by simp only [List.all_cons, List.all_nil, Bool.and_true, Bool.and_eq_true]; exact (SliceV.one (row_slice (.tail _ (.head _)) hs))) [.int .i64 ((bu : Nat) : Int), .int .i64 ((va : Nat) : Int), .int .i64 ((ta : Nat) : Int), u, v1, .map (some r)] rfl rfl ?_)
       refine ji_in2 (listed' := #[true, true, true, true, true, true, true, true, true, true, true, true, true]) (by kernel_rfl) rfl ?_
       refine j_pull2 (j_pull2 (j_pull2 ?_))
       show JI _ _ _ _ _ _ _ _ _
       exact ji_done v1 (by kernel_rfl) trivial (fun _ h => h)
  ·refine jh_op rfl ?_
   refine jo_buildSlice (t := .str) [key] [str (key)] (fun a hf => by simp only [List.zipIdx_cons, List.zipIdx_nil, List.map_toArray, List.map_cons, List.map_nil, hf.ev (show ev _ (.tmp 11) = some (str (key)) from rfl)] <;> rfl) rfl Tryz.underlying28 ty_9 rfl rfl rfl rfl rfl (fun g2 => ?_)
   refine ji_in (listed' := #[true, true, true, true, true, true, false, true, true, false, false, false, false]) (fun _ h => Mem.drop1 (Mem.drop1 (h))) rfl ?_
   refine ji_all [6] (by kernel_rfl) (by simp) (fun i hi => ?_)
   simp only [List.mem_cons, List.not_mem_nil, or_false] at hi
   subst hi
   ·refine jh_op rfl ?_
    refine j_pull2 (j_dup rfl ?_)
    refine j_pull3 ?_
    refine jo_callm [.ibox b1 9 [str (key)], .rowg g2 (([key]).length) 9 .str ([key]), .box b 68 [.int .i64 ((bu : Nat) : Int), .int .i64 ((va : Nat) : Int), .int .i64 ((ta : Nat) : Int), u, ov, .map (some r)]] rfl cal_75 (c_deleteFunc_first os ov key b1 (by omega)) ⟨rfl, rfl, trivial⟩ rfl (fun r2 => ?_)
    refine ji_in (listed' := #[true, true, true, true, true, true, true, true, true, false, false, false, false]) (fun _ h => Mem.drop1 (Mem.pull (As := [_]) (Mem.drop1 (h)))) rfl ?_
    refine ji_all [9] (by kernel_rfl) (by simp) (fun i hi => ?_)
    simp only [List.mem_cons, List.not_mem_nil, or_false] at hi
    subst hi
    ·refine jh_op rfl ?_
     refine j_pull2 (j_pull1 ?_)
     refine jo_append rfl rfl Tryz.underlying28 ty_9 rfl (by simp only [List.length_append, List.length_cons, List.length_nil, maxLen]; exact Nat.le_trans (Nat.add_le_add_right (List.length_filter_le _ _) _) (by omega)) (by simp only [List.length_append, List.length_cons, List.length_nil]; exact Nat.le_trans (Nat.mul_le_mul_right _ (Nat.add_le_add_right (List.length_filter_le _ _) _)) (by omega)) rfl (fun v2 => ?_)
     refine ji_in (listed' := #[true, true, true, true, true, true, true, true, true, true, false, false, false]) (fun _ h => Mem.drop1 (h)) rfl ?_
     refine ji_all [10] (by kernel_rfl) (by simp) (fun i hi => ?_)
     simp only [List.mem_cons, List.not_mem_nil, or_false] at hi
     subst hi
     ·refine jh_op rfl ?_
      refine jo_pure rfl (pr_nilCheck rfl) ?_
      refine ji_in (listed' := #[true, true, true, true, true, true, true, true, true, true, true, false, false]) (fun _ h => Mem.drop1 (h)) rfl ?_
      refine ji_take (listed' := #[true, true, true, true, true, true, true, true, true, true, true, true, false]) 11 rfl (by kernel_rfl) (by kernel_rfl) (by kernel_rfl) (by kernel_rfl) rfl (pr_fieldAddr 4 rfl Tryz.underlying68 rfl ty_28 rfl rfl) (fun _ h => Mem.drop1 (h)) rfl ?_
      refine ji_all [12] (by kernel_rfl) (by simp) (fun i hi => ?_)
      simp only [List.mem_cons, List.not_mem_nil, or_false] at hi
      subst hi
      ·refine jh_op rfl ?_
       refine j_pull2 (jo_storeV rfl rfl ty_28 [v2] (fun w I m hs => (SliceV.cells (row_slice (.tail _ (.head _)) hs))) rfl (fun w I m hs => by simp only [List.all_cons, List.all_nil, Bool.and_true, Bool.and_eq_true]; exact (SliceV.one (row_slice (.tail _ (.head _)) hs))) [.int .i64 ((bu : Nat) : Int), .int .i64 ((va : Nat) : Int), .int .i64 ((ta : Nat) : Int), u, v2, .map (some r)] rfl rfl ?_)
       refine ji_in2 (listed' := #[true, true, true, true, true, true, true, true, true, true, true, true, true]) (by kernel_rfl) rfl ?_
       refine j_pull2 (j_pull2 (j_pull2 ?_))
       show JI _ _ _ _ _ _ _ _ _
       exact ji_done v2 (by kernel_rfl) trivial (fun _ h => h)
 ·skip
  refine jq_fall (j_pull2 (j_drop (j_pull1 (j_pull1 ?_))))
  exact jq_ret0 rfl v1 (show (_ : Value) = (.tuple #[]) from rfl) (fun _ h => h)

theorem c_store_set (b r : Nat) (bu va ta u : Nat) (ov : Value) (os : List Str) (A : List (Str × (List (Axs)) × (List Ent))) (key : Str) (t : (List (Axs)) × (List Ent)) (tv tv2 : Value) (ho : os.length ≤ 1000000) (hok : ∀ x ∈ A, OkT x.2) (ht : OkT t) (hu : sizeL (findA A key).2 ≤ u + sizeL t.2) (hub : u ≤ 1000000000000) : Con Tryz.prog 49 #[.pointer (some ⟨b, 0, none⟩), str (key), .agg #[tv, tv2]] [.box b 68 [.int .i64 ((bu : Nat) : Int), .int .i64 ((va : Nat) : Int), .int .i64 ((ta : Nat) : Int), .int .i64 ((u : Nat) : Int), ov, .map (some r)], .row (ov) 9 .str (os), .mpt r tyT (A), .imm (.list (.pair .str (.list .str))) (tv) (t.1), .imm (.list tyE) (tv2) (t.2)] (fun r1 : Value => .tuple #[]) (fun r1 => [.box b 68 [.int .i64 ((bu : Nat) : Int), .int .i64 ((va : Nat) : Int), .int .i64 ((ta : Nat) : Int), .int .i64 ((u + sizeL t.2 - sizeL (findA A key).2 : Nat) : Int), r1, .map (some r)], .row (r1) 9 .str (setO os key t), .mpt r tyT (setM A key t)]) := by
 refine con_of_J (args := [.pointer (some ⟨b, 0, none⟩), str (key), .agg #[tv, tv2]]) (n := 47) Tryz.func49 rfl (Nat.le_of_ble_eq_true rfl) rfl (fun w0 I0 m0 => ?_)
 have hfo := okT_find hok key
 have hfs := hfo.size
 have hts := ht.size
 have hfs2 : sizeL ((lookS A key).getD ([], [])).2 ≤ 10000000000 := hfs
 have hu2 : sizeL ((lookS A key).getD ([], [])).2 ≤ u + sizeL t.2 := hu
 refine jc_seq (jc_region ?_)
 refine jo_box rfl [str (key)] rfl rfl (fun b1 => ?_)
 refine jo_box rfl [tv, tv2] rfl rfl (fun b2 => ?_)
 refine jo_nil (jq_then (jc_seq ?_))
 refine jc_heldI (fun (_ : Unit) => [(0, .pointer (some ⟨b, 0, none⟩)), (4, .pointer (some ⟨b1, 0, none⟩)), (5, .pointer (some ⟨b2, 0, none⟩))]) (fun _ => [.box b 68 [.int .i64 ((bu : Nat) : Int), .int .i64 ((va : Nat) : Int), .int .i64 ((ta : Nat) : Int), .int .i64 (((u : Nat) : Int) + (((sizeL t.2 : Nat) : Int) - ((sizeL (((lookS A key).getD ([], []))).2 : Nat) : Int))), ov, .map (some r)], .box b2 50 [tv, tv2], .box b1 9 [str (key)], .row (ov) 9 .str (os), .mpt r tyT (A), .imm (.list (.pair .str (.list .str))) (tv) (t.1), .imm (.list tyE) (tv2) (t.2)]) [.box b2 50 [tv, tv2], .box b1 9 [str (key)], .box b 68 [.int .i64 ((bu : Nat) : Int), .int .i64 ((va : Nat) : Int), .int .i64 ((ta : Nat) : Int), .int .i64 ((u : Nat) : Int), ov, .map (some r)], .row (ov) 9 .str (os), .mpt r tyT (A), .imm (.list (.pair .str (.list .str))) (tv) (t.1), .imm (.list tyE) (tv2) (t.2)] [17] mixed (fun lst hlst => ?_) (fun _ => ?_)
 ·subst hlst
  refine ji_take (listed' := #[true, false, false, false, false, false, false, false, false, false, false, false, false, false, false, false, false, false]) 0 rfl (by kernel_rfl) (by kernel_rfl) (by kernel_rfl) (by kernel_rfl) rfl (pr_move rfl) (fun _ h => h) rfl ?_
  refine ji_take (listed' := #[true, true, false, false, false, false, false, false, false, false, false, false, false, false, false, false, false, false]) 1 rfl (by kernel_rfl) (by kernel_rfl) (by kernel_rfl) (by kernel_rfl) rfl (pr_nilCheck rfl) (fun _ h => h) rfl ?_
  refine ji_take (listed' := #[true, true, true, false, false, false, false, false, false, false, false, false, false, false, false, false, false, false]) 2 rfl (by kernel_rfl) (by kernel_rfl) (by kernel_rfl) (by kernel_rfl) rfl (pr_fieldAddr 3 rfl Tryz.underlying68 rfl ty_3 rfl rfl) (fun _ h => h) rfl ?_
  refine ji_take (listed' := #[true, true, true, true, false, false, false, false, false, false, false, false, false, false, false, false, false, false]) 3 rfl (by kernel_rfl) (by kernel_rfl) (by kernel_rfl) (by kernel_rfl) rfl (pr_load_box (.int .i64 ((u : Nat) : Int)) rfl ty_3 (.tail _ (.tail _ (.head _))) rfl (by decide) rfl) (fun _ h => h) rfl ?_
  refine ji_take (listed' := #[true, true, true, true, true, false, false, false, false, false, false, false, false, false, false, false, false, false]) 4 rfl (by kernel_rfl) (by kernel_rfl) (by kernel_rfl) (by kernel_rfl) rfl (pr_load_box (.agg #[tv, tv2]) rfl ty_50 (.head _) rfl (by decide) rfl) (fun _ h => h) rfl ?_
  refine ji_take (listed' := #[true, true, true, true, true, false, true, false, false, false, false, false, false, false, false, false, false, false]) 6 rfl (by kernel_rfl) (by kernel_rfl) (by kernel_rfl) (by kernel_rfl) rfl (pr_move rfl) (fun _ h => h) rfl ?_
  refine ji_take (listed' := #[true, true, true, true, true, false, true, true, false, false, false, false, false, false, false, false, false, false]) 7 rfl (by kernel_rfl) (by kernel_rfl) (by kernel_rfl) (by kernel_rfl) rfl (pr_nilCheck rfl) (fun _ h => h) rfl ?_
  refine ji_take (listed' := #[true, true, true, true, true, false, true, true, true, false, false, false, false, false, false, false, false, false]) 8 rfl (by kernel_rfl) (by kernel_rfl) (by kernel_rfl) (by kernel_rfl) rfl (pr_fieldAddr 5 rfl Tryz.underlying68 rfl ty_66 rfl rfl) (fun _ h => h) rfl ?_
  refine ji_take (listed' := #[true, true, true, true, true, false, true, true, true, true, false, false, false, false, false, false, false, false]) 9 rfl (by kernel_rfl) (by kernel_rfl) (by kernel_rfl) (by kernel_rfl) rfl (pr_load_box (.map (some r)) rfl ty_66 (.tail _ (.tail _ (.head _))) rfl (by decide) rfl) (fun _ h => h) rfl ?_
  refine ji_take (listed' := #[true, true, true, true, true, false, true, true, true, true, true, false, false, false, false, false, false, false]) 10 rfl (by kernel_rfl) (by kernel_rfl) (by kernel_rfl) (by kernel_rfl) rfl (pr_load_box (str (key)) rfl ty_9 (.tail _ (.head _)) rfl (by decide) rfl) (fun _ h => h) rfl ?_
  refine ji_all [5, 11] (by kernel_rfl) (by simp) (fun i hi => ?_)
  simp only [List.mem_cons, List.not_mem_nil, or_false] at hi
  rcases hi with rfl | rfl
  ·refine jh_op rfl ?_
   have con1 := c_table_Size t tv tv2 (by first | omega | exact ht.ents | exact hfo.ents | exact Nat.le_trans hfs (by decide) | exact Nat.le_trans hts (by decide) | omega) (by first | omega | exact ht.ents | exact hfo.ents | exact Nat.le_trans hfs (by decide) | exact Nat.le_trans hts (by decide) | omega)
   refine jo_callp cal_19 con1 (by exact ⟨rfl, trivial⟩) rfl (by exact ⟨⟨rfl, .tail _ (.tail _ (.tail _ (.tail _ (.tail _ (.head _)))))⟩, ⟨⟨rfl, .tail _ (.tail _ (.tail _ (.tail _ (.tail _ (.tail _ (.head _))))))⟩, trivial⟩⟩) (fun _ => ?_)
   clear con1
   refine ji_in (listed' := #[true, true, true, true, true, true, true, true, true, true, true, false, false, false, false, false, false, false]) (fun _ h => h) rfl ?_
   refine ji_all [11] (by kernel_rfl) (by simp) (fun i hi => ?_)
   simp only [List.mem_cons, List.not_mem_nil, or_false] at hi
   subst hi
   ·refine jh_op rfl ?_
    refine jo_lookT (ty := tyT) ([], []) rfl rfl (.tail _ (.tail _ (.tail _ (.tail _ (.head _))))) Tryz.underlying66 Tryz.underlying9 ty_50 (fun w I => ⟨[.slice none 0 0, .slice none 0 0], rfl, [.slice none 0 0], [.slice none 0 0], rfl, repC_nil, repC_nil⟩) rfl (fun ⟨e1, e2⟩ => ?_)
    refine ji_in (listed' := #[true, true, true, true, true, true, true, true, true, true, true, true, false, false, false, false, false, false]) (fun _ h => Mem.drop1 (Mem.drop1 (h))) rfl ?_
    refine ji_all [12] (by kernel_rfl) (by simp) (fun i hi => ?_)
    simp only [List.mem_cons, List.not_mem_nil, or_false] at hi
    subst hi
    ·refine jh_op rfl ?_
     have con2 := c_table_Size (((lookS A key).getD ([], []))) e1 e2 (by first | omega | exact ht.ents | exact hfo.ents | exact Nat.le_trans hfs (by decide) | exact Nat.le_trans hts (by decide) | omega) (by first | omega | exact ht.ents | exact hfo.ents | exact Nat.le_trans hfs (by decide) | exact Nat.le_trans hts (by decide) | omega)
     refine jo_callp cal_19 con2 (by exact ⟨rfl, trivial⟩) rfl (by exact ⟨⟨rfl, .head _⟩, ⟨⟨rfl, .tail _ (.head _)⟩, trivial⟩⟩) (fun _ => ?_)
     clear con2
     refine ji_in (listed' := #[true, true, true, true, true, true, true, true, true, true, true, true, true, false, false, false, false, false]) (fun _ h => Mem.drop1 (Mem.drop1 (h))) rfl ?_
     refine ji_take (listed' := #[true, true, true, true, true, true, true, true, true, true, true, true, true, true, false, false, false, false]) 13 rfl (by kernel_rfl) (by kernel_rfl) (by kernel_rfl) (by kernel_rfl) rfl (pr_sub (m := ((sizeL t.2 : Nat) : Int)) (n := ((sizeL (((lookS A key).getD ([], []))).2 : Nat) : Int)) rfl rfl (by omega)) (fun _ h => Mem.drop1 (Mem.drop1 (h))) rfl ?_
     refine ji_take (listed' := #[true, true, true, true, true, true, true, true, true, true, true, true, true, true, true, false, false, false]) 14 rfl (by kernel_rfl) (by kernel_rfl) (by kernel_rfl) (by kernel_rfl) rfl (pr_add (m := ((u : Nat) : Int)) (n := (((sizeL t.2 : Nat) : Int) - ((sizeL (((lookS A key).getD ([], []))).2 : Nat) : Int))) rfl rfl (by omega)) (fun _ h => Mem.drop1 (Mem.drop1 (h))) rfl ?_
     refine ji_all [15] (by kernel_rfl) (by simp) (fun i hi => ?_)
     simp only [List.mem_cons, List.not_mem_nil, or_false] at hi
     subst hi
     ·refine jh_op rfl ?_
      refine jo_pure rfl (pr_nilCheck rfl) ?_
      refine ji_in (listed' := #[true, true, true, true, true, true, true, true, true, true, true, true, true, true, true, true, false, false]) (fun _ h => Mem.drop1 (Mem.drop1 (h))) rfl ?_
      refine ji_take (listed' := #[true, true, true, true, true, true, true, true, true, true, true, true, true, true, true, true, true, false]) 16 rfl (by kernel_rfl) (by kernel_rfl) (by kernel_rfl) (by kernel_rfl) rfl (pr_fieldAddr 3 rfl Tryz.underlying68 rfl ty_3 rfl rfl) (fun _ h => Mem.drop1 (Mem.drop1 (h))) rfl ?_
      refine ji_all [17] (by kernel_rfl) (by simp) (fun i hi => ?_)
      simp only [List.mem_cons, List.not_mem_nil, or_false] at hi
      subst hi
      ·refine jh_op rfl ?_
       refine j_pull4 ?_
       refine jo_store rfl rfl ty_3 [.int .i64 (((u : Nat) : Int) + (((sizeL t.2 : Nat) : Int) - ((sizeL (((lookS A key).getD ([], []))).2 : Nat) : Int)))] rfl rfl rfl [.int .i64 ((bu : Nat) : Int), .int .i64 ((va : Nat) : Int), .int .i64 ((ta : Nat) : Int), .int .i64 (((u : Nat) : Int) + (((sizeL t.2 : Nat) : Int) - ((sizeL (((lookS A key).getD ([], []))).2 : Nat) : Int))), ov, .map (some r)] rfl rfl ?_
       refine ji_in2 (listed' := #[true, true, true, true, true, true, true, true, true, true, true, true, true, true, true, true, true, true]) (by kernel_rfl) rfl ?_
       refine j_pull1 (j_drop (j_pull1 (j_drop (j_pull6 ?_))))
       refine j_pull6 ?_
       refine j_pull6 ?_
       refine j_pull6 ?_
       refine j_pull6 ?_
       refine j_pull6 ?_
       refine j_pull6 ?_
       show JI _ _ _ _ _ _ _ _ _
       exact ji_done () (by kernel_rfl) ⟨rfl, rfl, rfl, trivial⟩ (fun _ h => h)
  ·refine jh_op rfl ?_
   refine jo_lookT (ty := tyT) ([], []) rfl rfl (.tail _ (.tail _ (.tail _ (.tail _ (.head _))))) Tryz.underlying66 Tryz.underlying9 ty_50 (fun w I => ⟨[.slice none 0 0, .slice none 0 0], rfl, [.slice none 0 0], [.slice none 0 0], rfl, repC_nil, repC_nil⟩) rfl (fun ⟨e3, e4⟩ => ?_)
   refine ji_in (listed' := #[true, true, true, true, true, false, true, true, true, true, true, true, false, false, false, false, false, false]) (fun _ h => Mem.drop1 (Mem.drop1 (h))) rfl ?_
   refine ji_all [5] (by kernel_rfl) (by simp) (fun i hi => ?_)
   simp only [List.mem_cons, List.not_mem_nil, or_false] at hi
   subst hi
   ·refine jh_op rfl ?_
    have con3 := c_table_Size t tv tv2 (by first | omega | exact ht.ents | exact hfo.ents | exact Nat.le_trans hfs (by decide) | exact Nat.le_trans hts (by decide) | omega) (by first | omega | exact ht.ents | exact hfo.ents | exact Nat.le_trans hfs (by decide) | exact Nat.le_trans hts (by decide) | omega)
    refine jo_callp cal_19 con3 (by exact ⟨rfl, trivial⟩) rfl (by exact ⟨⟨rfl, .tail _ (.tail _ (.tail _ (.tail _ (.tail _ (.tail _ (.tail _ (.head _)))))))⟩, ⟨⟨rfl, .tail _ (.tail _ (.tail _ (.tail _ (.tail _ (.tail _ (.tail _ (.tail _ (.head _))))))))⟩, trivial⟩⟩) (fun _ => ?_)
    clear con3
    refine ji_in (listed' := #[true, true, true, true, true, true, true, true, true, true, true, true, false, false, false, false, false, false]) (fun _ h => Mem.drop1 (Mem.drop1 (h))) rfl ?_
    refine ji_all [12] (by kernel_rfl) (by simp) (fun i hi => ?_)
    simp only [List.mem_cons, List.not_mem_nil, or_false] at hi
    subst hi
    ·refine jh_op rfl ?_
     have con4 := c_table_Size (((lookS A key).getD ([], []))) e3 e4 (by first | omega | exact ht.ents | exact hfo.ents | exact Nat.le_trans hfs (by decide) | exact Nat.le_trans hts (by decide) | omega) (by first | omega | exact ht.ents | exact hfo.ents | exact Nat.le_trans hfs (by decide) | exact Nat.le_trans hts (by decide) | omega)
     refine jo_callp cal_19 con4 (by exact ⟨rfl, trivial⟩) rfl (by exact ⟨⟨rfl, .head _⟩, ⟨⟨rfl, .tail _ (.head _)⟩, trivial⟩⟩) (fun _ => ?_)
     clear con4
     refine ji_in (listed' := #[true, true, true, true, true, true, true, true, true, true, true, true, true, false, false, false, false, false]) (fun _ h => Mem.drop1 (Mem.drop1 (h))) rfl ?_
     refine ji_take (listed' := #[true, true, true, true, true, true, true, true, true, true, true, true, true, true, false, false, false, false]) 13 rfl (by kernel_rfl) (by kernel_rfl) (by kernel_rfl) (by kernel_rfl) rfl (pr_sub (m := ((sizeL t.2 : Nat) : Int)) (n := ((sizeL (((lookS A key).getD ([], []))).2 : Nat) : Int)) rfl rfl (by omega)) (fun _ h => Mem.drop1 (Mem.drop1 (h))) rfl ?_
     refine ji_take (listed' := #[true, true, true, true, true, true, true, true, true, true, true, true, true, true, true, false, false, false]) 14 rfl (by kernel_rfl) (by kernel_rfl) (by kernel_rfl) (by kernel_rfl) rfl (pr_add (m := ((u : Nat) : Int)) (n := (((sizeL t.2 : Nat) : Int) - ((sizeL (((lookS A key).getD ([], []))).2 : Nat) : Int))) rfl rfl (by omega)) (fun _ h => Mem.drop1 (Mem.drop1 (h))) rfl ?_
     refine ji_all [15] (by kernel_rfl) (by simp) (fun i hi => ?_)
     simp only [List.mem_cons, List.not_mem_nil, or_false] at hi
     subst hi
     ·refine jh_op rfl ?_
      refine jo_pure rfl (pr_nilCheck rfl) ?_
      refine ji_in (listed' := #[true, true, true, true, true, true, true, true, true, true, true, true, true, true, true, true, false, false]) (fun _ h => Mem.drop1 (Mem.drop1 (h))) rfl ?_
      refine ji_take (listed' := #[true, true, true, true, true, true, true, true, true, true, true, true, true, true, true, true, true, false]) 16 rfl (by kernel_rfl) (by kernel_rfl) (by kernel_rfl) (by kernel_rfl) rfl (pr_fieldAddr 3 rfl Tryz.underlying68 rfl ty_3 rfl rfl) (fun _ h => Mem.drop1 (Mem.drop1 (h))) rfl ?_
      refine ji_all [17] (by kernel_rfl) (by simp) (fun i hi => ?_)
      simp only [List.mem_cons, List.not_mem_nil, or_false] at hi
      subst hi
      ·refine jh_op rfl ?_
       refine j_pull4 ?_
       refine jo_store rfl rfl ty_3 [.int .i64 (((u : Nat) : Int) + (((sizeL t.2 : Nat) : Int) - ((sizeL (((lookS A key).getD ([], []))).2 : Nat) : Int)))] rfl rfl rfl [.int .i64 ((bu : Nat) : Int), .int .i64 ((va : Nat) : Int), .int .i64 ((ta : Nat) : Int), .int .i64 (((u : Nat) : Int) + (((sizeL t.2 : Nat) : Int) - ((sizeL (((lookS A key).getD ([], []))).2 : Nat) : Int))), ov, .map (some r)] rfl rfl ?_
       refine ji_in2 (listed' := #[true, true, true, true, true, true, true, true, true, true, true, true, true, true, true, true, true, true]) (by kernel_rfl) rfl ?_
       refine j_pull1 (j_drop (j_pull1 (j_drop (j_pull6 ?_))))
       refine j_pull6 ?_
       refine j_pull6 ?_
       refine j_pull6 ?_
       refine j_pull6 ?_
       refine j_pull6 ?_
       refine j_pull6 ?_
       show JI _ _ _ _ _ _ _ _ _
       exact ji_done () (by kernel_rfl) ⟨rfl, rfl, rfl, trivial⟩ (fun _ h => h)
 ·skip
  refine jq_then (jc_seq (jc_seq (jc_region (jo_pure rfl (pr_fieldAddr 1 rfl Tryz.underlying50 rfl ty_48 rfl rfl) ?_))))
  refine jo_pure rfl (pr_load_box (tv2) rfl ty_48 (.tail _ (.head _)) rfl (by decide) rfl) ?_
  refine jo_pure rfl (pr_len_imm rfl (.tail _ (.tail _ (.tail _ (.tail _ (.tail _ (.tail _ (.head _))))))) Tryz.underlying48) ?_
  refine jo_pure rfl (pr_gtrN (m := t.2.length) (n := 0) rfl rfl) ?_
  refine jo_nil (jq_then ?_)
  refine jc_cond rfl (fun h1b => ?_) (fun h1b => ?_)
  ·have h1 := of_decide_eq_true h1b
   refine jc_seq ?_
   refine jc_heldI (fun (_ : Unit) => []) (fun _ => [.mpt r tyT (delS A key ++ [(key, t)]), .box b 68 [.int .i64 ((bu : Nat) : Int), .int .i64 ((va : Nat) : Int), .int .i64 ((ta : Nat) : Int), .int .i64 (((u : Nat) : Int) + (((sizeL t.2 : Nat) : Int) - ((sizeL (((lookS A key).getD ([], []))).2 : Nat) : Int))), ov, .map (some r)], .box b2 50 [tv, tv2], .box b1 9 [str (key)], .row (ov) 9 .str (os), .imm (.list (.pair .str (.list .str))) (tv) (t.1), .imm (.list tyE) (tv2) (t.2)]) [.box b 68 [.int .i64 ((bu : Nat) : Int), .int .i64 ((va : Nat) : Int), .int .i64 ((ta : Nat) : Int), .int .i64 (((u : Nat) : Int) + (((sizeL t.2 : Nat) : Int) - ((sizeL (((lookS A key).getD ([], []))).2 : Nat) : Int))), ov, .map (some r)], .box b2 50 [tv, tv2], .box b1 9 [str (key)], .row (ov) 9 .str (os), .mpt r tyT (A), .imm (.list (.pair .str (.list .str))) (tv) (t.1), .imm (.list tyE) (tv2) (t.2)] [6] mixed (fun lst hlst => ?_) (fun _ => ?_)
   ·subst hlst
    refine ji_take (listed' := #[true, false, false, false, false, false, false]) 0 rfl (by kernel_rfl) (by kernel_rfl) (by kernel_rfl) (by kernel_rfl) rfl (pr_move rfl) (fun _ h => h) rfl ?_
    refine ji_take (listed' := #[true, true, false, false, false, false, false]) 1 rfl (by kernel_rfl) (by kernel_rfl) (by kernel_rfl) (by kernel_rfl) rfl (pr_nilCheck rfl) (fun _ h => h) rfl ?_
    refine ji_take (listed' := #[true, true, true, false, false, false, false]) 2 rfl (by kernel_rfl) (by kernel_rfl) (by kernel_rfl) (by kernel_rfl) rfl (pr_fieldAddr 5 rfl Tryz.underlying68 rfl ty_66 rfl rfl) (fun _ h => h) rfl ?_
    refine ji_take (listed' := #[true, true, true, true, false, false, false]) 3 rfl (by kernel_rfl) (by kernel_rfl) (by kernel_rfl) (by kernel_rfl) rfl (pr_load_box (.map (some r)) rfl ty_66 (.head _) rfl (by decide) rfl) (fun _ h => h) rfl ?_
    refine ji_take (listed' := #[true, true, true, true, true, false, false]) 4 rfl (by kernel_rfl) (by kernel_rfl) (by kernel_rfl) (by kernel_rfl) rfl (pr_load_box (str (key)) rfl ty_9 (.tail _ (.tail _ (.head _))) rfl (by decide) rfl) (fun _ h => h) rfl ?_
    refine ji_take (listed' := #[true, true, true, true, true, true, false]) 5 rfl (by kernel_rfl) (by kernel_rfl) (by kernel_rfl) (by kernel_rfl) rfl (pr_load_box (.agg #[tv, tv2]) rfl ty_50 (.tail _ (.head _)) rfl (by decide) rfl) (fun _ h => h) rfl ?_
    refine ji_all [6] (by kernel_rfl) (by simp) (fun i hi => ?_)
    simp only [List.mem_cons, List.not_mem_nil, or_false] at hi
    subst hi
    ·refine jh_op rfl ?_
     refine j_pull4 ?_
     refine jo_updT (ty := tyT) (l := A) (k := key) (cs := [tv, tv2]) t rfl rfl rfl rfl (⟨[tv], [tv2], rfl, ⟨tv, rfl, .tail _ (.tail _ (.tail _ (.tail _ (.head _))))⟩, ⟨tv2, rfl, .tail _ (.tail _ (.tail _ (.tail _ (.tail _ (.head _)))))⟩⟩) Tryz.underlying66 Tryz.underlying9 ?_
     refine ji_in2 (listed' := #[true, true, true, true, true, true, true]) (by kernel_rfl) rfl ?_
     refine j_pull6 ?_
     refine j_pull6 ?_
     refine j_pull6 ?_
     refine j_pull6 ?_
     refine j_pull6 ?_
     refine j_pull6 ?_
     refine j_pull6 ?_
     show JI _ _ _ _ _ _ _ _ _
     exact ji_done () (by kernel_rfl) trivial (fun _ h => h)
   ·skip
    refine jq_then (jc_ret (jq_then_ret (j_pull2 (j_drop (j_pull2 (j_drop (j_pull3 (j_drop (j_pull3 (j_drop (j_pull2 (j_pull2 ?_))))))))))))
    exact jq_ret0 rfl ov (show (_ : Value) = (.tuple #[]) from rfl) (fun _ h => by rw [setO_yes h1, setM_yes h1, show ((u + sizeL t.2 - sizeL (findA A key).2 : Nat) : Int) = ((u : Nat) : Int) + (((sizeL t.2 : Nat) : Int) - ((sizeL (findA A key).2 : Nat) : Int)) from by omega]; exact h)
  ·have h1 := of_decide_eq_false h1b
   refine jc_skip (jq_then (jc_seq ?_))
   refine jc_heldI (fun (_ : Unit) => [(0, .pointer (some ⟨b, 0, none⟩)), (4, .pointer (some ⟨b1, 0, none⟩))]) (fun _ => [.mpt r tyT (delS A key), .box b 68 [.int .i64 ((bu : Nat) : Int), .int .i64 ((va : Nat) : Int), .int .i64 ((ta : Nat) : Int), .int .i64 (((u : Nat) : Int) + (((sizeL t.2 : Nat) : Int) - ((sizeL (((lookS A key).getD ([], []))).2 : Nat) : Int))), ov, .map (some r)], .box b2 50 [tv, tv2], .box b1 9 [str (key)], .row (ov) 9 .str (os), .imm (.list (.pair .str (.list .str))) (tv) (t.1), .imm (.list tyE) (tv2) (t.2)]) [.box b 68 [.int .i64 ((bu : Nat) : Int), .int .i64 ((va : Nat) : Int), .int .i64 ((ta : Nat) : Int), .int .i64 (((u : Nat) : Int) + (((sizeL t.2 : Nat) : Int) - ((sizeL (((lookS A key).getD ([], []))).2 : Nat) : Int))), ov, .map (some r)], .box b2 50 [tv, tv2], .box b1 9 [str (key)], .row (ov) 9 .str (os), .mpt r tyT (A), .imm (.list (.pair .str (.list .str))) (tv) (t.1), .imm (.list tyE) (tv2) (t.2)] [5] mixed (fun lst hlst => ?_) (fun _ => ?_)
   ·subst hlst
    refine ji_take (listed' := #[false, false, false, false, true, false]) 4 rfl (by kernel_rfl) (by kernel_rfl) (by kernel_rfl) (by kernel_rfl) rfl (pr_load_box (str (key)) rfl ty_9 (.tail _ (.tail _ (.head _))) rfl (by decide) rfl) (fun _ h => h) rfl ?_
    refine ji_all [0] (by kernel_rfl) (by simp) (fun i hi => ?_)
    simp only [List.mem_cons, List.not_mem_nil, or_false] at hi
    subst hi
    ·refine jh_op rfl ?_
     refine jo_pure rfl (pr_move rfl) (ji_in (listed' := #[true, false, false, false, true, false]) (fun _ h => h) rfl ?_)
     refine ji_all [1] (by kernel_rfl) (by simp) (fun i hi => ?_)
     simp only [List.mem_cons, List.not_mem_nil, or_false] at hi
     subst hi
     ·refine jh_op rfl ?_
      refine jo_pure rfl (pr_nilCheck rfl) ?_
      refine ji_in (listed' := #[true, true, false, false, true, false]) (fun _ h => h) rfl ?_
      refine ji_all [2] (by kernel_rfl) (by simp) (fun i hi => ?_)
      simp only [List.mem_cons, List.not_mem_nil, or_false] at hi
      subst hi
      ·refine jh_op rfl ?_
       refine jo_pure rfl (pr_fieldAddr 5 rfl Tryz.underlying68 rfl ty_66 rfl rfl) ?_
       refine ji_in (listed' := #[true, true, true, false, true, false]) (fun _ h => h) rfl ?_
       refine ji_take (listed' := #[true, true, true, true, true, false]) 3 rfl (by kernel_rfl) (by kernel_rfl) (by kernel_rfl) (by kernel_rfl) rfl (pr_load_box (.map (some r)) rfl ty_66 (.head _) rfl (by decide) rfl) (fun _ h => h) rfl ?_
       refine ji_all [5] (by kernel_rfl) (by simp) (fun i hi => ?_)
       simp only [List.mem_cons, List.not_mem_nil, or_false] at hi
       subst hi
       ·refine jh_op rfl ?_
        refine j_pull4 ?_
        refine jo_delT (ty := tyT) (l := A) (k := key) rfl rfl Tryz.underlying66 Tryz.underlying9 ?_
        refine ji_in2 (listed' := #[true, true, true, true, true, true]) (by kernel_rfl) rfl ?_
        refine j_pull6 ?_
        refine j_pull6 ?_
        refine j_pull6 ?_
        refine j_pull6 ?_
        refine j_pull6 ?_
        refine j_pull6 ?_
        refine j_pull6 ?_
        show JI _ _ _ _ _ _ _ _ _
        exact ji_done () (by kernel_rfl) ⟨rfl, rfl, trivial⟩ (fun _ h => h)
   ·skip
    refine jq_then (jc_region (jo_pure rfl (pr_move rfl) (jo_pure rfl (pr_move rfl) (jo_pure rfl (pr_nilCheck rfl) (jo_pure rfl (pr_fieldAddr 4 rfl Tryz.underlying68 rfl ty_28 rfl rfl) ?_)))))
    refine jo_pure rfl (pr_load_box (ov) rfl ty_28 (.tail _ (.head _)) rfl (by decide) rfl) ?_
    refine jo_pure rfl (pr_makeFunc (fs := #[]) (cs := #[.pointer (some ⟨b1, 0, none⟩)]) (fun a hf => by simp) (fun a hf => by simp only [List.map_toArray, List.map_cons, List.map_nil, hf.ev (show ev _ (.tmp 4) = some (.pointer (some ⟨b1, 0, none⟩)) from rfl)])) ?_
    refine j_pull3 (j_pub_box ?_)
    refine j_dup rfl ?_
    refine j_pull5 ?_
    refine jo_callm [.ibox b1 9 [str (key)], .mpt r tyT (delS A key), .box b 68 [.int .i64 ((bu : Nat) : Int), .int .i64 ((va : Nat) : Int), .int .i64 ((ta : Nat) : Int), .int .i64 (((u : Nat) : Int) + (((sizeL t.2 : Nat) : Int) - ((sizeL (((lookS A key).getD ([], []))).2 : Nat) : Int))), ov, .map (some r)], .box b2 50 [tv, tv2], .imm (.list (.pair .str (.list .str))) (tv) (t.1), .imm (.list tyE) (tv2) (t.2)] rfl cal_75 (c_deleteFunc_set os ov key b1 (by first | omega | exact ht.ents | exact hfo.ents | exact Nat.le_trans hfs (by decide) | exact Nat.le_trans hts (by decide) | omega)) ⟨rfl, rfl, trivial⟩ rfl (fun r1 => ?_)
    refine jo_pure rfl (pr_nilCheck rfl) ?_
    refine jo_pure rfl (pr_fieldAddr 4 rfl Tryz.underlying68 rfl ty_28 rfl rfl) ?_
    refine j_pull3 (jo_storeV rfl rfl ty_28 [r1] (fun w I m hs => (SliceV.cells (row_slice (.tail _ (.head _)) hs))) rfl (fun w I m hs => by simp only [List.all_cons, List.all_nil, Bool.and_true, Bool.and_eq_true]; exact (SliceV.one (row_slice (.tail _ (.head _)) hs))) [.int .i64 ((bu : Nat) : Int), .int .i64 ((va : Nat) : Int), .int .i64 ((ta : Nat) : Int), .int .i64 (((u : Nat) : Int) + (((sizeL t.2 : Nat) : Int) - ((sizeL (((lookS A key).getD ([], []))).2 : Nat) : Int))), r1, .map (some r)] rfl rfl ?_)
    refine jo_nil (jq_fall (j_pull2 (j_drop (j_pull3 (j_drop (j_pull3 (j_drop (j_pull3 (j_drop (j_pull2 (j_pull2 (j_pull2 ?_))))))))))))
    exact jq_ret0 rfl r1 (show (_ : Value) = (.tuple #[]) from rfl) (fun _ h => by rw [setO_no (by omega), setM_no (by omega), show ((u + sizeL t.2 - sizeL (findA A key).2 : Nat) : Int) = ((u : Nat) : Int) + (((sizeL t.2 : Nat) : Int) - ((sizeL (findA A key).2 : Nat) : Int)) from by omega]; exact h)

theorem c_store_Touch (b r : Nat) (bu va ta : Nat) (ov : Value) (A : List (Str × (List (Axs)) × (List Ent))) (key : Str) (hal : A.length ≤ 1000000) : Con Tryz.prog 30 #[.pointer (some ⟨b, 0, none⟩), str (key)] [.box b 68 [.int .i64 ((bu : Nat) : Int), .int .i64 ((va : Nat) : Int), .int .i64 ((ta : Nat) : Int), .int .i64 ((totA A : Nat) : Int), ov, .map (some r)], .row (ov) 9 .str (keysA A), .mpt r tyT (A)] (fun r1 : Value => .bool (inA A key)) (fun r1 => [.mpt r tyT (touchA A key), .box b 68 [.int .i64 ((bu : Nat) : Int), .int .i64 ((va : Nat) : Int), .int .i64 ((ta : Nat) : Int), .int .i64 ((totA (touchA A key) : Nat) : Int), r1, .map (some r)], .row (r1) 9 .str (keysA (touchA A key))]) := by
 refine con_of_J (args := [.pointer (some ⟨b, 0, none⟩), str (key)]) (n := 18) Tryz.func30 rfl (Nat.le_of_ble_eq_true rfl) rfl (fun w0 I0 m0 => ?_)
 refine j_mpt_nodup (.tail _ (.tail _ (.head _))) (fun hnd => ?_)
 refine jc_seq (jc_region (jo_pure rfl (pr_assign rfl) (jo_nil (jq_then (jc_seq (jc_seq (jc_region (jo_pure rfl (pr_move rfl) (jo_pure rfl (pr_move rfl) (j_pull2 (j_pull1 ?_)))))))))))
 refine jo_callm [.row (ov) 9 .str (keysA A)] rfl cal_43 (c_store_has b r bu va ta (.int .i64 ((totA A : Nat) : Int)) ov A key) ⟨rfl, rfl, trivial⟩ rfl (fun ⟨r1, r2⟩ => ?_)
 refine jo_pure rfl (pr_move rfl) (jo_pure rfl (pr_extract rfl rfl) (jo_pure rfl (pr_extract rfl rfl) ?_))
 refine jo_alloc ty_50 [.slice none 0 0, .slice none 0 0] rfl rfl (fun b1 => ?_)
 refine jo_storeV rfl rfl ty_50 [r1, r2] (fun _ _ _ _ => rfl) rfl (fun w I m hs => by simp only [List.all_cons, List.all_nil, Bool.and_true, Bool.and_eq_true]; exact ⟨(SliceV.one (imm_slice (.tail _ (.head _)) hs)), (SliceV.one (imm_slice (.tail _ (.tail _ (.head _))) hs))⟩) [r1, r2] rfl rfl ?_
 refine jo_pure rfl (pr_assign rfl) (jo_nil (jq_then (jc_seq (jc_region (jo_pure rfl (pr_move rfl) (jo_pure rfl (pr_not rfl) (jo_nil (jq_then ?_))))))))
 refine jc_cond rfl (fun h1b => ?_) (fun h1b => ?_)
 ·have h1 := (fun q => id (bt_not q)) h1b
  refine jc_seq (jc_region (jo_pure rfl (pr_assign rfl) (jo_nil (jq_then (jc_ret (jq_then_ret (j_drop (j_drop (j_drop (j_pull2 (j_pull1 (j_pull2 ?_))))))))))))
  exact jq_ret1 rfl ov rfl (show (_ : Value) = (.bool (false)) from congrArg Value.bool (by simpa using h1b)) (fun _ h => by rw [touch_no (by simpa using h1b)]; exact h)
 ·have h1 := (fun q => id (bf_not q)) h1b
  refine jc_skip (jq_then (jc_seq (jc_region (jo_pure rfl (pr_move rfl) (jo_pure rfl (pr_move rfl) (j_pull5 ?_))))))
  refine j_pull4 ?_
  refine jo_callm [.box b1 50 [r1, r2], .imm (.list (.pair .str (.list .str))) (r1) ((findA A key).1), .imm (.list tyE) (r2) ((findA A key).2), .mpt r tyT (A)] rfl cal_50 (c_store_first b r bu va ta (.int .i64 ((totA A : Nat) : Int)) ov (keysA A) key (by rw [len_keys]; exact hal)) ⟨rfl, rfl, trivial⟩ rfl (fun r3 => ?_)
  refine jo_nil (jq_then (jc_seq (jc_region (jo_pure rfl (pr_assign rfl) (jo_nil (jq_then (jc_ret (j_pull2 (j_drop (j_pull2 (j_drop (j_pull2 (j_drop (j_pull1 (j_pull1 (j_pull2 (j_mpt_perm (touch_perm (k := key) hnd) ?_)))))))))))))))))
  exact jq_ret1 rfl r3 rfl (show (_ : Value) = (.bool (true)) from congrArg Value.bool (by simpa using h1b)) (fun _ h => by rw [← totA_perm (touch_perm (k := key) hnd), show keysA (touchA A key) = frontS (keysA A) key from by rw [touch_yes (by simpa using h1b)]; exact keys_front]; exact h)

theorem c_store_New (bu va ta : Nat) (hb : 1 ≤ bu ∧ bu ≤ 100000000) (hv : 1 ≤ va ∧ va ≤ 64) (ht : 1 ≤ ta ∧ ta ≤ 1000) : Con Tryz.prog 9 #[.int .i64 ((bu : Nat) : Int), .int .i64 ((va : Nat) : Int), .int .i64 ((ta : Nat) : Int)] [] (fun rr : Nat × Nat => .tuple #[.pointer (some ⟨rr.1, 0, none⟩), .int .i64 ((0 : Nat) : Int)]) (fun rr => [.box rr.1 68 [.int .i64 ((bu : Nat) : Int), .int .i64 ((va : Nat) : Int), .int .i64 ((ta : Nat) : Int), .int .i64 ((0 : Nat) : Int), .slice none 0 0, .map (some rr.2)], .mpt rr.2 tyT []]) := by
 refine con_of_J (args := [.int .i64 ((bu : Nat) : Int), .int .i64 ((va : Nat) : Int), .int .i64 ((ta : Nat) : Int)]) (n := 36) Tryz.func9 rfl (Nat.le_of_ble_eq_true rfl) rfl (fun w0 I0 m0 => ?_)
 refine jc_seq (jc_region (jo_pure rfl (pr_assign rfl) (jo_pure rfl (pr_assign rfl) (jo_nil (jq_then (jc_seq (jc_seq (jc_region (jo_pure rfl (pr_move rfl) (jo_pure rfl (pr_lssN (m := bu) (n := 1) rfl rfl) ?_))))))))))
 refine jo_pure rfl (pr_move rfl) (jo_gpure (j := 2) (want := false) rfl rfl rfl rfl (fun hg=>pr_move rfl) (jo_gpure (j := 2) (want := false) rfl rfl rfl rfl (fun hg=>pr_gtrN (m := bu) (n := 100000000) (evg rfl hg) rfl) ?_))
 refine jo_pure rfl (pr_pick_or rfl rfl rfl) ?_
 refine jo_pure rfl (pr_move rfl) (jo_gpure (j := 6) (want := false) rfl rfl rfl rfl (fun hg=>pr_move rfl) (jo_gpure (j := 6) (want := false) rfl rfl rfl rfl (fun hg=>pr_lssN (m := va) (n := 1) (evg rfl hg) rfl) ?_))
 refine jo_pure rfl (pr_pick_or rfl rfl rfl) ?_
 refine jo_pure rfl (pr_move rfl) (jo_gpure (j := 10) (want := false) rfl rfl rfl rfl (fun hg=>pr_move rfl) (jo_gpure (j := 10) (want := false) rfl rfl rfl rfl (fun hg=>pr_gtrN (m := va) (n := 64) (evg rfl hg) rfl) ?_))
 refine jo_pure rfl (pr_pick_or rfl rfl rfl) ?_
 refine jo_pure rfl (pr_move rfl) (jo_gpure (j := 14) (want := false) rfl rfl rfl rfl (fun hg=>pr_move rfl) (jo_gpure (j := 14) (want := false) rfl rfl rfl rfl (fun hg=>pr_lssN (m := ta) (n := 1) (evg rfl hg) rfl) ?_))
 refine jo_pure rfl (pr_pick_or rfl rfl rfl) ?_
 refine jo_pure rfl (pr_move rfl) (jo_gpure (j := 18) (want := false) rfl rfl rfl rfl (fun hg=>pr_move rfl) (jo_gpure (j := 18) (want := false) rfl rfl rfl rfl (fun hg=>pr_gtrN (m := ta) (n := 1000) (evg rfl hg) rfl) ?_))
 refine jo_pure rfl (pr_pick_or rfl rfl rfl) ?_
 refine jo_nil (jq_then ?_)
 refine jc_cond rfl (fun h1b => ?_) (fun h1b => ?_)
 ·have h1 := (fun q => Or.imp (fun q => Or.imp (fun q => Or.imp (fun q => Or.imp (fun q => Or.imp of_decide_eq_true of_decide_eq_true (bt_or q)) of_decide_eq_true (bt_or q)) of_decide_eq_true (bt_or q)) of_decide_eq_true (bt_or q)) of_decide_eq_true (bt_or q)) h1b
  exact absurd h1 (by omega)
 ·have h1 := (fun q => And.imp (fun q => And.imp (fun q => And.imp (fun q => And.imp (fun q => And.imp of_decide_eq_false of_decide_eq_false (bf_or q)) of_decide_eq_false (bf_or q)) of_decide_eq_false (bf_or q)) of_decide_eq_false (bf_or q)) of_decide_eq_false (bf_or q)) h1b
  refine jc_skip (jq_then (jc_seq (jc_region (jo_pure rfl (pr_move rfl) (jo_pure rfl (pr_move rfl) (jo_pure rfl (pr_move rfl) ?_))))))
  refine jo_makeMap rfl (fun m1 => ?_)
  refine j_mpt_new (t := tyT) ?_
  refine jo_pure rfl (pr_build [(0, .int .i64 ((bu : Nat) : Int)), (1, .int .i64 ((va : Nat) : Int)), (2, .int .i64 ((ta : Nat) : Int)), (5, .map (some m1))] [.int .i64 ((bu : Nat) : Int), .int .i64 ((va : Nat) : Int), .int .i64 ((ta : Nat) : Int), .int .i64 ((0 : Nat) : Int), .slice none 0 0, .map (some m1)] (fun a hf => by simp only [List.map_toArray, List.map_cons, List.map_nil, hf.ev (show ev _ (.tmp 30) = some (.int .i64 ((bu : Nat) : Int)) from rfl), hf.ev (show ev _ (.tmp 31) = some (.int .i64 ((va : Nat) : Int)) from rfl), hf.ev (show ev _ (.tmp 32) = some (.int .i64 ((ta : Nat) : Int)) from rfl), hf.ev (show ev _ (.tmp 33) = some (.map (some m1)) from rfl)]) (by kernel_rfl)) ?_
  refine jo_box rfl [.int .i64 ((bu : Nat) : Int), .int .i64 ((va : Nat) : Int), .int .i64 ((ta : Nat) : Int), .int .i64 ((0 : Nat) : Int), .slice none 0 0, .map (some m1)] rfl rfl (fun b1 => ?_)
  refine jo_pure rfl (pr_assign rfl) (jo_pure rfl (pr_assign rfl) (jo_nil (jq_then (jc_ret (j_pull1 (j_pull1 ?_))))))
  exact jq_rets (rs := [.tmp 6, .tmp 7]) (vs := [.pointer (some ⟨b1, 0, none⟩), .int .i64 ((0 : Nat) : Int)]) rfl (b1, m1) ⟨resV_tmp rfl, resV_tmp rfl, trivial⟩ rfl (show (_ : Value) = (.tuple #[.pointer (some ⟨b1, 0, none⟩), .int .i64 ((0 : Nat) : Int)]) from rfl) (fun _ h => h)

set_option maxHeartbeats 4000000 in
theorem c_store_shrink (b r : Nat) (bu va ta : Nat) (ov : Value) (A : List (Str × (List (Axs)) × (List Ent))) (key : Str) (keep : Int) (lst : Bool) (axs : List (Axs)) (en : Ent) (hg : GoodE lst key axs en A keep) (hB : sizeE en ≤ bu) (hT : 1 ≤ ta) (hok : ∀ x ∈ A, OkT x.2) (hat : totA A ≤ 1000000000) (hal : A.length ≤ 1000000) : Con Tryz.prog 51 #[.pointer (some ⟨b, 0, none⟩), str (key), .int .i64 (keep)] [.box b 68 [.int .i64 ((bu : Nat) : Int), .int .i64 ((va : Nat) : Int), .int .i64 ((ta : Nat) : Int), .int .i64 ((totA A : Nat) : Int), ov, .map (some r)], .row (ov) 9 .str (keysA A), .mpt r tyT (A)] (fun r1 : Value => .tuple #[]) (fun r1 => [.mpt r tyT (evF bu ta A keep), .box b 68 [.int .i64 ((bu : Nat) : Int), .int .i64 ((va : Nat) : Int), .int .i64 ((ta : Nat) : Int), .int .i64 ((totA (evF bu ta A keep) : Nat) : Int), r1, .map (some r)], .row (r1) 9 .str (keysA (evF bu ta A keep))]) := by
 refine con_of_J (args := [.pointer (some ⟨b, 0, none⟩), str (key), .int .i64 (keep)]) (n := 62) Tryz.func51 rfl (Nat.le_of_ble_eq_true rfl) rfl (fun w0 I0 m0 => ?_)
 refine jc_block ?_
 refine jc_loop3 (fun (A2 : List (Str × (List (Axs)) × (List Ent))) (ow : Value) (kp : Int) => [(0, .pointer (some ⟨b, 0, none⟩)), (1, str (key)), (2, .int .i64 (kp))]) (fun (A2 : List (Str × (List (Axs)) × (List Ent))) (ow : Value) (kp : Int) => [.box b 68 [.int .i64 ((bu : Nat) : Int), .int .i64 ((va : Nat) : Int), .int .i64 ((ta : Nat) : Int), .int .i64 ((totA A2 : Nat) : Int), ow, .map (some r)], .row (ow) 9 .str (keysA A2), .mpt r tyT (A2)]) (fun (A2 : List (Str × (List (Axs)) × (List Ent))) (ow : Value) (kp : Int) => evF bu ta A2 kp = evF bu ta A keep ∧ GoodE lst key axs en A2 kp ∧ (∀ x ∈ A2, OkT x.2) ∧ totA A2 ≤ 1000000000 ∧ A2.length ≤ 1000000) (fun (A2 : List (Str × (List (Axs)) × (List Ent))) (ow : Value) (kp : Int) => cntA A2) A ov keep (⟨rfl, hg, hok, hat, hal⟩) (⟨rfl, rfl, rfl, trivial⟩) (fun _ h => h) (fun A2 ow kp hinv => ?_)
 refine jc_seq (jc_seq (jc_draws mixed (by kernel_rfl) (jd_pure rfl (pr_move rfl) ?_)))
 refine jd_pure rfl (pr_nilCheck rfl) ?_
 refine jd_pure rfl (pr_fieldAddr 3 rfl Tryz.underlying68 rfl ty_3 rfl rfl) ?_
 refine jd_pure rfl (pr_load_box (.int .i64 ((totA A2 : Nat) : Int)) rfl ty_3 (.head _) rfl (by decide) rfl) ?_
 refine jd_pure rfl (pr_move rfl) ?_
 refine jd_pure rfl (pr_nilCheck rfl) ?_
 refine jd_pure rfl (pr_fieldAddr 0 rfl Tryz.underlying68 rfl ty_3 rfl rfl) ?_
 refine jd_pure rfl (pr_load_box (.int .i64 ((bu : Nat) : Int)) rfl ty_3 (.head _) rfl (by decide) rfl) ?_
 refine jd_pure rfl (pr_gtrN (m := totA A2) (n := bu) rfl rfl) ?_
 refine jd_pure rfl (pr_move rfl) ?_
 refine jd_gpure (j := 9) (want := false) rfl rfl rfl rfl (fun hg=>pr_move rfl) ?_
 refine jd_gpure (j := 9) (want := false) rfl rfl rfl rfl (fun hg=>pr_nilCheck (evg rfl hg)) ?_
 refine jd_gpure (j := 9) (want := false) rfl rfl rfl rfl (fun hg=>pr_fieldAddr 4 (evg rfl hg) Tryz.underlying68 rfl ty_28 rfl rfl) ?_
 refine jd_gpure (j := 9) (want := false) rfl rfl rfl rfl (fun hg=>pr_load_box (ow) (evg rfl hg) ty_28 (.head _) rfl (by decide) rfl) ?_
 refine jd_gpure (j := 9) (want := false) rfl rfl rfl rfl (fun hg=>pr_len_row (evg rfl hg) (.tail _ (.head _)) Tryz.underlying28) ?_
 refine jd_gpure (j := 9) (want := false) rfl rfl rfl rfl (fun hg=>pr_move rfl) ?_
 refine jd_gpure (j := 9) (want := false) rfl rfl rfl rfl (fun hg=>pr_nilCheck (evg rfl hg)) ?_
 refine jd_gpure (j := 9) (want := false) rfl rfl rfl rfl (fun hg=>pr_fieldAddr 2 (evg rfl hg) Tryz.underlying68 rfl ty_3 rfl rfl) ?_
 refine jd_gpure (j := 9) (want := false) rfl rfl rfl rfl (fun hg=>pr_load_box (.int .i64 ((ta : Nat) : Int)) (evg rfl hg) ty_3 (.head _) rfl (by decide) rfl) ?_
 refine jd_gpure (j := 9) (want := false) rfl rfl rfl rfl (fun hg=>pr_gtrN (m := (keysA A2).length) (n := ta) (evg rfl hg) (evg rfl hg)) ?_
 refine jd_pure rfl (pr_pick_or rfl rfl rfl) ?_
 refine jd_nil ?_
 refine jq_then ?_
 refine jc_cond rfl (fun h1b => ?_) (fun h1b => ?_)
 ·have h1 := (fun q => Or.imp of_decide_eq_true of_decide_eq_true (bt_or q)) h1b
  have hov : overA bu ta A2 = true := by have h9 := h1b; rw [len_keys] at h9; exact h9
  have hne := good_ne hinv.2.1
  have hgs := good_step hB hT hinv.2.1 hov
  have hfo := okT_find hinv.2.2.1 (headK A2)
  have hfl := hfo.len
  have hone := good_one hinv.2.1
  have hdt := del_tot (k := headK A2) hinv.2.1.1
  have hstl := step_len A2 kp
  have hstt := step_tot A2 kp
  have hml := len_keys A2
  have hsp := good_sp hinv.2.1 hinv.2.2.1
  refine jc_skip (jq_then (jc_block (jc_seq (jc_region (jo_pure rfl (pr_move rfl) (jo_pure rfl (pr_nilCheck rfl) (jo_pure rfl (pr_fieldAddr 4 rfl Tryz.underlying68 rfl ty_28 rfl rfl) ?_)))))))
  refine jo_pure rfl (pr_load_box (ow) rfl ty_28 (.head _) rfl (by decide) rfl) ?_
  refine jo_pure rfl (pr_idx_row (i := 0) rfl (.tail _ (.head _)) rfl Tryz.underlying28 ty_9 (by rw [len_keys]; exact hne)) ?_
  refine jo_pure rfl (pr_load_elem_row (i := 0) (str ((keysA A2).getD 0 [])) rfl (.tail _ (.head _)) ty_9 rfl rfl (by rw [len_keys]; exact hne) rfl) ?_
  refine jo_pure rfl (pr_assign rfl) (jo_nil (jq_then (jc_seq (jc_region (jo_pure rfl (pr_assign rfl) (jo_nil (jq_then (jc_seq (jc_seq (jc_region (jo_pure rfl (pr_move rfl) (jo_pure rfl (pr_move rfl) (jo_pure rfl (pr_seql rfl rfl) (jo_pure rfl (pr_move rfl) (jo_gpure (j := 3) (want := true) rfl rfl rfl rfl (fun hg=>pr_move rfl) (jo_gpure (j := 3) (want := true) rfl rfl rfl rfl (fun hg=>pr_eql (n := 0) (evg rfl hg) rfl) ?_))))))))))))))))
  refine jo_pure rfl (pr_pick_and rfl rfl rfl) ?_
  refine jo_nil (jq_then ?_)
  refine jc_cond rfl (fun h2b => ?_) (fun h2b => ?_)
  ·have h2 := (fun q => And.imp of_decide_eq_true of_decide_eq_true (bt_and q)) h2b
   refine jc_region (jo_pure rfl (pr_assign rfl) (jo_nil (jq_then (jc_seq (jc_seq (jc_region (jo_pure rfl (pr_move rfl) (jo_pure rfl (pr_move rfl) (jo_pure rfl (pr_seql rfl rfl) (jo_pure rfl (pr_move rfl) (jo_gpure (j := 3) (want := true) rfl rfl rfl rfl (fun hg=>pr_move rfl) (jo_gpure (j := 3) (want := true) rfl rfl rfl rfl (fun hg=>pr_eqlN (m := 1) (n := 0) (evg rfl hg) rfl) ?_))))))))))))
   refine jo_pure rfl (pr_pick_and rfl rfl rfl) ?_
   refine jo_nil (jq_then ?_)
   refine jc_cond rfl (fun h3b => ?_) (fun h3b => ?_)
   ·have h3 := (fun q => And.imp of_decide_eq_true of_decide_eq_true (bt_and q)) h3b
    exact absurd h3.2 (by omega)
   ·have h3 := (fun q => Or.imp of_decide_eq_false of_decide_eq_false (bf_and q)) h3b
    have ho1 : oneA A2 = true := by rw [← hone]; exact decide_eq_true h2.1
    have hnx : nextI (oneA A2) kp = kp := by rw [ho1, h2.2]; rfl
    have hst := step_eq (A := A2) (sp := kp) (t := ((findA A2 (headK A2)).1, remL (findA A2 (headK A2)).2 ((1 : Nat) : Int))) hne hinv.2.1.1 (by rw [show dropI (oneA A2) kp = ((1 : Nat) : Int) from by rw [ho1, h2.2]; rfl])
    refine jc_skip (jq_then (jc_region (jo_pure rfl (pr_move rfl) (jo_pure rfl (pr_move rfl) (jo_pure rfl (pr_move rfl) (jo_pure rfl (pr_nilCheck rfl) (jo_pure rfl (pr_fieldAddr 5 rfl Tryz.underlying68 rfl ty_66 rfl rfl) ?_)))))))
    refine jo_pure rfl (pr_load_box (.map (some r)) rfl ty_66 (.head _) rfl (by decide) rfl) ?_
    refine jo_pure rfl (pr_move rfl) ?_
    refine jo_lookT (ty := tyT) ([], []) rfl rfl (.tail _ (.tail _ (.head _))) Tryz.underlying66 Tryz.underlying9 ty_50 (fun w I => ⟨[.slice none 0 0, .slice none 0 0], rfl, [.slice none 0 0], [.slice none 0 0], rfl, repC_nil, repC_nil⟩) rfl (fun ⟨e1, e2⟩ => ?_)
    refine jo_pure rfl (pr_move rfl) ?_
    have con1 := c_table_Remove (((lookS A2 ((keysA A2).getD 0 [])).getD ([], []))) e1 e2 ((1 : Nat) : Int) (by first | omega | exact hfo.axes | exact Nat.le_trans hfl (by decide) | exact hfo.ents) (by first | omega | exact hfo.axes | exact Nat.le_trans hfl (by decide) | exact hfo.ents) (by first | omega | exact hfo.axes | exact Nat.le_trans hfl (by decide) | exact hfo.ents)
    refine jo_callp cal_59 con1 (by exact ⟨rfl, rfl, trivial⟩) rfl (by exact ⟨⟨rfl, .head _⟩, ⟨⟨rfl, .tail _ (.head _)⟩, trivial⟩⟩) (fun ⟨r1, r2⟩ => ?_)
    clear con1
    refine j_dup rfl ?_
    refine j_pull2 (j_dup rfl ?_)
    refine j_pull2 (j_pull8 ?_)
    refine j_pull8 ?_
    refine j_pull8 ?_
    refine jo_callm [.imm (.list tyE) (r2) (remL (((lookS A2 ((keysA A2).getD 0 [])).getD ([], []))).2 ((1 : Nat) : Int)), .imm (.list (.pair .str (.list .str))) (r1) ((((lookS A2 ((keysA A2).getD 0 [])).getD ([], []))).1), .imm (.list (.pair .str (.list .str))) (e1) ((((lookS A2 ((keysA A2).getD 0 [])).getD ([], []))).1), .imm (.list tyE) (e2) ((((lookS A2 ((keysA A2).getD 0 [])).getD ([], []))).2)] rfl cal_49 (c_store_set b r bu va ta (totA A2) ow (keysA A2) A2 ((keysA A2).getD 0 []) ((((lookS A2 ((keysA A2).getD 0 [])).getD ([], []))).1, remL (((lookS A2 ((keysA A2).getD 0 [])).getD ([], []))).2 ((1 : Nat) : Int)) r1 r2 (by rw [len_keys]; exact hinv.2.2.2.2) (hinv.2.2.1) (by exact okT_rem hfo _) (by have h9 := hdt; unfold headK at h9; omega) (by omega)) ⟨rfl, rfl, rfl, trivial⟩ rfl (fun r3 => ?_)
    refine jo_nil (jq_in_normal (j_pull3 (j_drop (j_pull3 (j_drop (j_pull3 (j_drop (j_pull3 (j_drop (j_pull2 (j_pull2 (j_pull2 ?_))))))))))))
    refine jq_round' ((stepA A2 kp), r3, kp) (by (try dsimp only); exact (⟨by rw [← hinv.1, evF_over hB hT hinv.2.1 hov, hnx], by have h9 := hgs.1; rw [hnx] at h9; exact h9, okT_step hinv.2.2.1, by omega, by omega⟩)) (by (try dsimp only); exact (by have := hgs.2; omega)) ⟨rfl, rfl, rfl, trivial⟩ (fun _ h => by rw [hst.2.2, ← hst.2.1]; exact Mem.pull (As := [_, _]) (Mem.pull (As := [_, _]) (Mem.mptp hst.1 (Mem.pull (As := [_, _]) h))))
  ·have h2 := (fun q => Or.imp of_decide_eq_false of_decide_eq_false (bf_and q)) h2b
   refine jc_skip (jq_then (jc_seq (jc_seq (jc_region (jo_pure rfl (pr_move rfl) (jo_pure rfl (pr_move rfl) (jo_pure rfl (pr_seql rfl rfl) (jo_pure rfl (pr_move rfl) (jo_gpure (j := 3) (want := true) rfl rfl rfl rfl (fun hg=>pr_move rfl) (jo_gpure (j := 3) (want := true) rfl rfl rfl rfl (fun hg=>pr_eqlN (m := 0) (n := 0) (evg rfl hg) rfl) ?_))))))))))
   refine jo_pure rfl (pr_pick_and rfl rfl rfl) ?_
   refine jo_nil (jq_then ?_)
   refine jc_cond rfl (fun h4b => ?_) (fun h4b => ?_)
   ·have h4 := (fun q => And.imp of_decide_eq_true of_decide_eq_true (bt_and q)) h4b
    have ho1 : oneA A2 = true := by rw [← hone]; exact decide_eq_true h4.1
    have hk0 : ¬ kp = 0 := fun e => by rcases h2 with q | q; exact q h4.1; exact q e
    have hnx : nextI (oneA A2) kp = kp - ((1 : Nat) : Int) := by unfold nextI; rw [if_pos ⟨ho1, hk0⟩]; rfl
    have hst := step_eq (A := A2) (sp := kp) (t := ((findA A2 (headK A2)).1, remL (findA A2 (headK A2)).2 ((0 : Nat) : Int))) hne hinv.2.1.1 (by rw [show dropI (oneA A2) kp = ((0 : Nat) : Int) from if_neg (fun q => hk0 q.2)])
    refine jc_region (jo_pure rfl (pr_move rfl) (jo_pure rfl (pr_sub (m := kp) (n := ((1 : Nat) : Int)) rfl rfl (by omega)) ?_))
    refine jo_pure rfl (pr_assign rfl) (jo_nil (jq_then (jc_region (jo_pure rfl (pr_move rfl) (jo_pure rfl (pr_move rfl) (jo_pure rfl (pr_move rfl) (jo_pure rfl (pr_nilCheck rfl) (jo_pure rfl (pr_fieldAddr 5 rfl Tryz.underlying68 rfl ty_66 rfl rfl) ?_))))))))
    refine jo_pure rfl (pr_load_box (.map (some r)) rfl ty_66 (.head _) rfl (by decide) rfl) ?_
    refine jo_pure rfl (pr_move rfl) ?_
    refine jo_lookT (ty := tyT) ([], []) rfl rfl (.tail _ (.tail _ (.head _))) Tryz.underlying66 Tryz.underlying9 ty_50 (fun w I => ⟨[.slice none 0 0, .slice none 0 0], rfl, [.slice none 0 0], [.slice none 0 0], rfl, repC_nil, repC_nil⟩) rfl (fun ⟨e3, e4⟩ => ?_)
    refine jo_pure rfl (pr_move rfl) ?_
    have con2 := c_table_Remove (((lookS A2 ((keysA A2).getD 0 [])).getD ([], []))) e3 e4 ((0 : Nat) : Int) (by first | omega | exact hfo.axes | exact Nat.le_trans hfl (by decide) | exact hfo.ents) (by first | omega | exact hfo.axes | exact Nat.le_trans hfl (by decide) | exact hfo.ents) (by first | omega | exact hfo.axes | exact Nat.le_trans hfl (by decide) | exact hfo.ents)
    refine jo_callp cal_59 con2 (by exact ⟨rfl, rfl, trivial⟩) rfl (by exact ⟨⟨rfl, .head _⟩, ⟨⟨rfl, .tail _ (.head _)⟩, trivial⟩⟩) (fun ⟨r4, r5⟩ => ?_)
    clear con2
    refine j_dup rfl ?_
    refine j_pull2 (j_dup rfl ?_)
    refine j_pull2 (j_pull8 ?_)
    refine j_pull8 ?_
    refine j_pull8 ?_
    refine jo_callm [.imm (.list tyE) (r5) (remL (((lookS A2 ((keysA A2).getD 0 [])).getD ([], []))).2 ((0 : Nat) : Int)), .imm (.list (.pair .str (.list .str))) (r4) ((((lookS A2 ((keysA A2).getD 0 [])).getD ([], []))).1), .imm (.list (.pair .str (.list .str))) (e3) ((((lookS A2 ((keysA A2).getD 0 [])).getD ([], []))).1), .imm (.list tyE) (e4) ((((lookS A2 ((keysA A2).getD 0 [])).getD ([], []))).2)] rfl cal_49 (c_store_set b r bu va ta (totA A2) ow (keysA A2) A2 ((keysA A2).getD 0 []) ((((lookS A2 ((keysA A2).getD 0 [])).getD ([], []))).1, remL (((lookS A2 ((keysA A2).getD 0 [])).getD ([], []))).2 ((0 : Nat) : Int)) r4 r5 (by rw [len_keys]; exact hinv.2.2.2.2) (hinv.2.2.1) (by exact okT_rem hfo _) (by have h9 := hdt; unfold headK at h9; omega) (by omega)) ⟨rfl, rfl, rfl, trivial⟩ rfl (fun r6 => ?_)
    refine jo_nil (jq_in_normal (j_pull3 (j_drop (j_pull3 (j_drop (j_pull3 (j_drop (j_pull3 (j_drop (j_pull2 (j_pull2 (j_pull2 ?_))))))))))))
    refine jq_round' ((stepA A2 kp), r6, (kp - ((1 : Nat) : Int))) (by (try dsimp only); exact (⟨by rw [← hinv.1, evF_over hB hT hinv.2.1 hov, hnx], by have h9 := hgs.1; rw [hnx] at h9; exact h9, okT_step hinv.2.2.1, by omega, by omega⟩)) (by (try dsimp only); exact (by have := hgs.2; omega)) ⟨rfl, rfl, rfl, trivial⟩ (fun _ h => by rw [hst.2.2, ← hst.2.1]; exact Mem.pull (As := [_, _]) (Mem.pull (As := [_, _]) (Mem.mptp hst.1 (Mem.pull (As := [_, _]) h))))
   ·have h4 := (fun q => Or.imp of_decide_eq_false of_decide_eq_false (bf_and q)) h4b
    have ho1 : oneA A2 = false := by rw [← hone]; exact decide_eq_false (fun e => by rcases h4 with q | q; exact q e; exact q rfl)
    have hnx : nextI (oneA A2) kp = kp := by rw [ho1]; exact if_neg (fun q => by cases q.1)
    have hst := step_eq (A := A2) (sp := kp) (t := ((findA A2 (headK A2)).1, remL (findA A2 (headK A2)).2 ((0 : Nat) : Int))) hne hinv.2.1.1 (by rw [show dropI (oneA A2) kp = ((0 : Nat) : Int) from by rw [ho1]; exact if_neg (fun q => by cases q.1)])
    refine jc_skip (jq_then (jc_region (jo_pure rfl (pr_move rfl) (jo_pure rfl (pr_move rfl) (jo_pure rfl (pr_move rfl) (jo_pure rfl (pr_nilCheck rfl) (jo_pure rfl (pr_fieldAddr 5 rfl Tryz.underlying68 rfl ty_66 rfl rfl) ?_)))))))
    refine jo_pure rfl (pr_load_box (.map (some r)) rfl ty_66 (.head _) rfl (by decide) rfl) ?_
    refine jo_pure rfl (pr_move rfl) ?_
    refine jo_lookT (ty := tyT) ([], []) rfl rfl (.tail _ (.tail _ (.head _))) Tryz.underlying66 Tryz.underlying9 ty_50 (fun w I => ⟨[.slice none 0 0, .slice none 0 0], rfl, [.slice none 0 0], [.slice none 0 0], rfl, repC_nil, repC_nil⟩) rfl (fun ⟨e5, e6⟩ => ?_)
    refine jo_pure rfl (pr_move rfl) ?_
    have con3 := c_table_Remove (((lookS A2 ((keysA A2).getD 0 [])).getD ([], []))) e5 e6 ((0 : Nat) : Int) (by first | omega | exact hfo.axes | exact Nat.le_trans hfl (by decide) | exact hfo.ents) (by first | omega | exact hfo.axes | exact Nat.le_trans hfl (by decide) | exact hfo.ents) (by first | omega | exact hfo.axes | exact Nat.le_trans hfl (by decide) | exact hfo.ents)
    refine jo_callp cal_59 con3 (by exact ⟨rfl, rfl, trivial⟩) rfl (by exact ⟨⟨rfl, .head _⟩, ⟨⟨rfl, .tail _ (.head _)⟩, trivial⟩⟩) (fun ⟨r7, r8⟩ => ?_)
    clear con3
    refine j_dup rfl ?_
    refine j_pull2 (j_dup rfl ?_)
    refine j_pull2 (j_pull8 ?_)
    refine j_pull8 ?_
    refine j_pull8 ?_
    refine jo_callm [.imm (.list tyE) (r8) (remL (((lookS A2 ((keysA A2).getD 0 [])).getD ([], []))).2 ((0 : Nat) : Int)), .imm (.list (.pair .str (.list .str))) (r7) ((((lookS A2 ((keysA A2).getD 0 [])).getD ([], []))).1), .imm (.list (.pair .str (.list .str))) (e5) ((((lookS A2 ((keysA A2).getD 0 [])).getD ([], []))).1), .imm (.list tyE) (e6) ((((lookS A2 ((keysA A2).getD 0 [])).getD ([], []))).2)] rfl cal_49 (c_store_set b r bu va ta (totA A2) ow (keysA A2) A2 ((keysA A2).getD 0 []) ((((lookS A2 ((keysA A2).getD 0 [])).getD ([], []))).1, remL (((lookS A2 ((keysA A2).getD 0 [])).getD ([], []))).2 ((0 : Nat) : Int)) r7 r8 (by rw [len_keys]; exact hinv.2.2.2.2) (hinv.2.2.1) (by exact okT_rem hfo _) (by have h9 := hdt; unfold headK at h9; omega) (by omega)) ⟨rfl, rfl, rfl, trivial⟩ rfl (fun r9 => ?_)
    refine jo_nil (jq_in_normal (j_pull3 (j_drop (j_pull3 (j_drop (j_pull3 (j_drop (j_pull3 (j_drop (j_pull2 (j_pull2 (j_pull2 ?_))))))))))))
    refine jq_round' ((stepA A2 kp), r9, kp) (by (try dsimp only); exact (⟨by rw [← hinv.1, evF_over hB hT hinv.2.1 hov, hnx], by have h9 := hgs.1; rw [hnx] at h9; exact h9, okT_step hinv.2.2.1, by omega, by omega⟩)) (by (try dsimp only); exact (by have := hgs.2; omega)) ⟨rfl, rfl, rfl, trivial⟩ (fun _ h => by rw [hst.2.2, ← hst.2.1]; exact Mem.pull (As := [_, _]) (Mem.pull (As := [_, _]) (Mem.mptp hst.1 (Mem.pull (As := [_, _]) h))))
 ·have h1 := (fun q => And.imp of_decide_eq_false of_decide_eq_false (bf_or q)) h1b
  refine jc_exit ?_
  refine jq_then_exit ?_
  refine jq_then_exit ?_
  refine jq_in_hit ?_
  refine jq_fall (j_pull1 (j_pull1 (j_pull2 ?_)))
  exact jq_ret0 rfl ow (show (_ : Value) = (.tuple #[]) from rfl) (fun _ h => by rw [← hinv.1, evF_done (by have h9 := h1b; rw [len_keys] at h9; exact h9)]; exact h)
end Go.Proofs.YtlniaacdjllonaaGreat
