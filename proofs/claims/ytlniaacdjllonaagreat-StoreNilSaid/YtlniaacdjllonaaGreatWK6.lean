/-
 Contracts of functions of the program: each returns what a plain function says, for every input within the bounds named. Conditions: the bounds.
-/
import Derived.Test.YtlniaacdjllonaaGreatRows
import Derived.Test.YtlniaacdjllonaaGreatWK5
namespace Go.Proofs.YtlniaacdjllonaaGreat
open Go Go.Sep
set_option linter.unusedSimpArgs false
set_option linter.unusedVariables false

open Go.Plain

theorem cal_32 : Cal Tryz.prog 32 := cal_of Tryz.func32 (by kernel_rfl) rfl
theorem cal_83 : Cal Tryz.prog 83 := cal_of Tryz.func83 (by kernel_rfl) rfl

theorem c_slices_Clone_string_string (l : List Str) (lv : Value) (hl : l.length ≤ 1000000000) : Con Tryz.prog 32 #[lv] [.imm (.list .str) (lv) (l)] (fun r1 : Value => r1) (fun r1 => [.imm (.list .str) r1 (l)]) := by
 refine con_of_J (args := [lv]) (n := 8) Tryz.func32 rfl (Nat.le_of_ble_eq_true rfl) rfl (fun w0 I0 m0 => ?_)
 refine jc_seq (jc_region (jo_pure rfl (pr_assign rfl) (jo_nil (jq_then (jc_seq (jc_seq (jc_region (jo_pure rfl (pr_move rfl) ?_))))))))
 refine jo_eqnil rfl rfl (.head _) Tryz.underlying28 rfl (fun b1 hb1 => ?_)
 refine jo_nil (jq_then ?_)
 refine jc_cond rfl (fun h1b => ?_) (fun h1b => ?_)
 ·have h1 := id h1b
  refine jc_seq (jc_region (jo_pure rfl (pr_assign rfl) (jo_nil (jq_then (jc_ret (jq_then_ret (j_nil_imm .str ?_)))))))
  refine j_pull1 (j_drop ?_)
  exact jq_ret1 rfl (.slice none 0 0) rfl (show (.slice none 0 0 : Value) = (.slice none 0 0) from rfl) (fun _ h => by rw [hb1 h1]; exact h)
 ·have h1 := id h1b
  refine jc_skip (jq_then (jc_seq (jc_region ?_)))
  refine jo_buildSlice0 (t := .str) Tryz.underlying28 ty_9 rfl (fun g1 => ?_)
  refine jo_pure rfl (pr_move rfl) (j_row_of_rowg ?_)
  refine jo_append_imm rfl rfl (.head _) Tryz.underlying28 ty_9 rfl (by simp only [List.length_append, List.length_cons, List.length_nil, maxLen]; omega) (by simp only [List.length_append, List.length_cons, List.length_nil]; omega) rfl (fun v1 => ?_)
  refine jo_pure rfl (pr_assign rfl) (jo_nil (jq_then (jc_ret (j_pub_row (j_pull1 (j_drop ?_))))))
  exact jq_ret1 rfl v1 rfl (show (v1 : Value) = (v1) from rfl) (fun _ h => by rw [List.nil_append] at h; exact h)

theorem c_slices_Clone_api_Field_api_Field (l : List (Str × Str)) (lv : Value) (hl : l.length ≤ 1000000000) : Con Tryz.prog 83 #[lv] [.imm (.list (.pair .str .str)) (lv) (l)] (fun r1 : Value => r1) (fun r1 => [.imm (.list (.pair .str .str)) r1 (l)]) := by
 refine con_of_J (args := [lv]) (n := 8) Tryz.func83 rfl (Nat.le_of_ble_eq_true rfl) rfl (fun w0 I0 m0 => ?_)
 refine jc_seq (jc_region (jo_pure rfl (pr_assign rfl) (jo_nil (jq_then (jc_seq (jc_seq (jc_region (jo_pure rfl (pr_move rfl) ?_))))))))
 refine jo_eqnil rfl rfl (.head _) Tryz.underlying38 rfl (fun b1 hb1 => ?_)
 refine jo_nil (jq_then ?_)
 refine jc_cond rfl (fun h1b => ?_) (fun h1b => ?_)
 ·have h1 := id h1b
  refine jc_seq (jc_region (jo_pure rfl (pr_assign rfl) (jo_nil (jq_then (jc_ret (jq_then_ret (j_nil_imm (.pair .str .str) ?_)))))))
  refine j_pull1 (j_drop ?_)
  exact jq_ret1 rfl (.slice none 0 0) rfl (show (.slice none 0 0 : Value) = (.slice none 0 0) from rfl) (fun _ h => by rw [hb1 h1]; exact h)
 ·have h1 := id h1b
  refine jc_skip (jq_then (jc_seq (jc_region ?_)))
  refine jo_buildSlice0 (t := (.pair .str .str)) Tryz.underlying38 ty_80 rfl (fun g1 => ?_)
  refine jo_pure rfl (pr_move rfl) (j_row_of_rowg ?_)
  refine jo_append_imm rfl rfl (.head _) Tryz.underlying38 ty_80 rfl (by simp only [List.length_append, List.length_cons, List.length_nil, maxLen]; omega) (by simp only [List.length_append, List.length_cons, List.length_nil]; omega) rfl (fun v1 => ?_)
  refine jo_pure rfl (pr_assign rfl) (jo_nil (jq_then (jc_ret (j_pub_row (j_pull1 (j_drop ?_))))))
  exact jq_ret1 rfl v1 rfl (show (v1 : Value) = (v1) from rfl) (fun _ h => by rw [List.nil_append] at h; exact h)

theorem c_clone_Entry (en : Ent) (env : Value) (env2 : Value) (env3 : Value) (env4 : Value) (he : OkE en) : Con Tryz.prog 60 #[.agg #[env, env2, env3, str (en.2.2.2.1), env4, str (en.2.2.2.2.2.1), .int .i64 (en.2.2.2.2.2.2.1), .int .i64 (en.2.2.2.2.2.2.2)]] [.imm (.list (.list .str)) (env) (en.1), .imm (.list .str) (env2) (en.2.1), .imm (.list .str) (env3) (en.2.2.1), .imm (.list (.pair .str .str)) (env4) (en.2.2.2.2.1)] (fun r : Value × Value × Value × Value => .agg #[r.1, r.2.1, r.2.2.1, str (en.2.2.2.1), r.2.2.2, str (en.2.2.2.2.2.1), .int .i64 (en.2.2.2.2.2.2.1), .int .i64 (en.2.2.2.2.2.2.2)]) (fun r => [.imm (.list (.list .str)) r.1 (en.1), .imm (.list .str) r.2.1 (en.2.1), .imm (.list .str) r.2.2.1 (en.2.2.1), .imm (.list (.pair .str .str)) r.2.2.2 (en.2.2.2.2.1)]) := by
 refine con_of_J (args := [.agg #[env, env2, env3, str (en.2.2.2.1), env4, str (en.2.2.2.2.2.1), .int .i64 (en.2.2.2.2.2.2.1), .int .i64 (en.2.2.2.2.2.2.2)]]) (n := 36) Tryz.func60 rfl (Nat.le_of_ble_eq_true rfl) rfl (fun w0 I0 m0 => ?_)
 have hbe := he.size
 unfold sizeE at hbe
 obtain ⟨hkl, hkm, hvl, hsl, hfl⟩ := he.lens
 refine jc_seq (jc_region ?_)
 refine jo_box rfl [env, env2, env3, str (en.2.2.2.1), env4, str (en.2.2.2.2.2.1), .int .i64 (en.2.2.2.2.2.2.1), .int .i64 (en.2.2.2.2.2.2.2)] rfl rfl (fun b1 => ?_)
 refine jo_alloc ty_40 [.slice none 0 0, .slice none 0 0, .slice none 0 0, str ([]), .slice none 0 0, str ([]), .int .i64 ((0 : Nat) : Int), .int .i64 ((0 : Nat) : Int)] rfl rfl (fun b2 => ?_)
 refine jo_nil (jq_then (jc_seq (jc_region (jo_pure rfl (pr_fieldAddr 0 rfl Tryz.underlying40 rfl ty_37 rfl rfl) ?_))))
 refine jo_pure rfl (pr_load_box (env) rfl ty_37 (.tail _ (.head _)) rfl (by decide) rfl) ?_
 refine jo_pure rfl (pr_assign rfl) (jo_nil (jq_then (jc_seq (jc_region (jo_pure rfl (pr_fieldAddr 0 rfl Tryz.underlying40 rfl ty_37 rfl rfl) ?_)))))
 refine j_pull1 (jo_store rfl rfl ty_37 [.slice none 0 0] rfl rfl rfl [.slice none 0 0, env2, env3, str (en.2.2.2.1), env4, str (en.2.2.2.2.2.1), .int .i64 (en.2.2.2.2.2.2.1), .int .i64 (en.2.2.2.2.2.2.2)] rfl rfl ?_)
 refine jo_nil (jq_then (jc_seq (jc_seq (jc_region (jo_pure rfl (pr_move rfl) (jo_pure rfl (pr_len_imm rfl (.tail _ (.tail _ (.head _))) Tryz.underlying37) ?_))))))
 refine jo_pure rfl (pr_move rfl) (jo_nil (jq_then (jc_block (j_nil_row 28 (.list .str) ?_))))
 refine jc_loop3 (fun (i : Nat) (kw : Value) (acc : List (List Str)) => [(1, .pointer (some ⟨b1, 0, none⟩)), (2, .pointer (some ⟨b2, 0, none⟩)), (9, env), (10, .int .i64 ((en.1.length : Nat) : Int)), (11, .int .i64 ((i : Nat) : Int))]) (fun (i : Nat) (kw : Value) (acc : List (List Str)) => [.row (kw) 28 (.list .str) (acc), .box b1 40 [kw, env2, env3, str (en.2.2.2.1), env4, str (en.2.2.2.2.2.1), .int .i64 (en.2.2.2.2.2.2.1), .int .i64 (en.2.2.2.2.2.2.2)], .box b2 40 [.slice none 0 0, .slice none 0 0, .slice none 0 0, str ([]), .slice none 0 0, str ([]), .int .i64 ((0 : Nat) : Int), .int .i64 ((0 : Nat) : Int)], .imm (.list (.list .str)) (env) (en.1), .imm (.list .str) (env2) (en.2.1), .imm (.list .str) (env3) (en.2.2.1), .imm (.list (.pair .str .str)) (env4) (en.2.2.2.2.1)]) (fun (i : Nat) (kw : Value) (acc : List (List Str)) => i ≤ en.1.length ∧ acc = en.1.take i) (fun (i : Nat) (kw : Value) (acc : List (List Str)) => en.1.length - i) 0 (.slice none 0 0) [] (⟨Nat.zero_le _, rfl⟩) (⟨rfl, rfl, rfl, rfl, rfl, trivial⟩) (fun _ h => h) (fun i kw acc hinv => ?_)
 have hal : acc.length ≤ 1000000000 := by rw [hinv.2, List.length_take]; omega
 refine jc_seq (jc_region (jo_pure rfl (pr_lssN (m := i) (n := en.1.length) rfl rfl) ?_))
 refine jo_nil (jq_then (jc_seq ?_))
 refine jc_cond rfl (fun h1b => ?_) (fun h1b => ?_)
 ·have h1 := of_decide_eq_true h1b
  refine jc_skip (jq_then (jc_seq (jc_block (jc_seq (jc_region ?_)))))
  refine j_open_elem (t := (.list .str)) (i := i) [] (.tail _ (.tail _ (.tail _ (.head _)))) (by omega) (fun e1 => ?_)
  refine jo_pure rfl (pr_idx_imm (i := i) rfl (.tail _ (.tail _ (.tail _ (.tail _ (.tail _ (.head _)))))) rfl Tryz.underlying37 ty_28 (by omega)) ?_
  refine jo_pure rfl (pr_load_at (e1) rfl (.tail _ (.head _)) ty_28 (by decide) rfl) ?_
  refine jo_pure rfl (pr_assign rfl) (jo_nil (jq_then (j_pull2 ?_)))
  refine jc_heldI (fun (iq : Value × Value) => [(1, .pointer (some ⟨b1, 0, none⟩)), (2, .pointer (some ⟨b2, 0, none⟩)), (9, env), (10, .int .i64 ((en.1.length : Nat) : Int)), (11, .int .i64 ((i : Nat) : Int))]) (fun iq => [.box b1 40 [iq.1, env2, env3, str (en.2.2.2.1), env4, str (en.2.2.2.2.2.1), .int .i64 (en.2.2.2.2.2.2.1), .int .i64 (en.2.2.2.2.2.2.2)], .row (iq.1) 28 (.list .str) (acc ++ [(en.1.getD i [])]), .imm (.list .str) (iq.2) ((en.1.getD i [])), .imm (.list .str) (e1) ((en.1.getD i [])), .fact (fun w_ I_ => ElemAt w_ I_ (env) (i) 1 [e1]), .box b2 40 [.slice none 0 0, .slice none 0 0, .slice none 0 0, str ([]), .slice none 0 0, str ([]), .int .i64 ((0 : Nat) : Int), .int .i64 ((0 : Nat) : Int)], .imm (.list (.list .str)) (env) (en.1), .imm (.list .str) (env2) (en.2.1), .imm (.list .str) (env3) (en.2.2.1), .imm (.list (.pair .str .str)) (env4) (en.2.2.2.2.1)]) [.imm (.list .str) (e1) ((en.1.getD i [])), .fact (fun w_ I_ => ElemAt w_ I_ (env) (i) 1 [e1]), .box b1 40 [kw, env2, env3, str (en.2.2.2.1), env4, str (en.2.2.2.2.2.1), .int .i64 (en.2.2.2.2.2.2.1), .int .i64 (en.2.2.2.2.2.2.2)], .box b2 40 [.slice none 0 0, .slice none 0 0, .slice none 0 0, str ([]), .slice none 0 0, str ([]), .int .i64 ((0 : Nat) : Int), .int .i64 ((0 : Nat) : Int)], .imm (.list (.list .str)) (env) (en.1), .imm (.list .str) (env2) (en.2.1), .imm (.list .str) (env3) (en.2.2.1), .imm (.list (.pair .str .str)) (env4) (en.2.2.2.2.1)] [7] mixed (fun lst hlst => ?_) (fun ⟨v1, r1⟩ => ?_)
  ·subst hlst
   refine ji_take (listed' := #[true, false, false, false, false, false, false, false]) 0 rfl (by kernel_rfl) (by kernel_rfl) (by kernel_rfl) (by kernel_rfl) rfl (pr_fieldAddr 0 rfl Tryz.underlying40 rfl ty_37 rfl rfl) (fun _ h => Mem.drop1 (h)) rfl ?_
   refine ji_take (listed' := #[true, true, false, false, false, false, false, false]) 1 rfl (by kernel_rfl) (by kernel_rfl) (by kernel_rfl) (by kernel_rfl) rfl (pr_load_box (kw) rfl ty_37 (.tail _ (.tail _ (.head _))) rfl (by decide) rfl) (fun _ h => Mem.drop1 (h)) rfl ?_
   refine ji_take (listed' := #[true, true, true, false, false, false, false, false]) 2 rfl (by kernel_rfl) (by kernel_rfl) (by kernel_rfl) (by kernel_rfl) rfl (pr_move rfl) (fun _ h => Mem.drop1 (h)) rfl ?_
   refine ji_all [3] (by kernel_rfl) (by simp) (fun i hi => ?_)
   simp only [List.mem_cons, List.not_mem_nil, or_false] at hi
   subst hi
   ·refine jh_op rfl ?_
    refine jo_callp cal_32 (c_slices_Clone_string_string (en.1.getD i []) e1 (by first | omega | exact hkm _ (getD_mem h1))) ⟨rfl, trivial⟩ rfl (⟨⟨rfl, .tail _ (.head _)⟩, trivial⟩) (fun r1 => ?_)
    refine ji_in (listed' := #[true, true, true, true, false, false, false, false]) (fun _ h => Mem.drop1 (Mem.drop1 (h))) rfl ?_
    refine ji_all [4] (by kernel_rfl) (by simp) (fun i hi => ?_)
    simp only [List.mem_cons, List.not_mem_nil, or_false] at hi
    subst hi
    ·refine jh_op rfl ?_
     refine jo_buildSliceLV (t := (.list .str)) [(en.1.getD i [])] [r1] [[r1]] (fun a hf => by simp only [List.zipIdx_cons, List.zipIdx_nil, List.map_toArray, List.map_cons, List.map_nil, hf.ev (show ev _ (.tmp 18) = some (r1) from rfl)] <;> rfl) (fun w I m hs => by obtain ⟨_, _, _, e0⟩ := imm_slice (.head _) hs; rw [e0]; rfl) ⟨⟨r1, rfl, .head _⟩, trivial⟩ Tryz.underlying37 ty_28 rfl rfl rfl rfl (fun g1 => ?_)
     refine ji_in (listed' := #[true, true, true, true, true, false, false, false]) (fun _ h => Mem.drop1 (Mem.drop1 (Mem.drop1 (h)))) rfl ?_
     refine ji_all [5] (by kernel_rfl) (by simp) (fun i hi => ?_)
     simp only [List.mem_cons, List.not_mem_nil, or_false] at hi
     subst hi
     ·refine jh_op rfl ?_
      refine j_pull2 ?_
      refine jo_append rfl rfl Tryz.underlying37 ty_28 rfl (by simp only [List.length_append, List.length_cons, List.length_nil, maxLen]; omega) (by simp only [List.length_append, List.length_cons, List.length_nil]; omega) rfl (fun v1 => ?_)
      refine ji_in (listed' := #[true, true, true, true, true, true, false, false]) (fun _ h => Mem.drop1 (Mem.drop1 (h))) rfl ?_
      refine ji_take (listed' := #[true, true, true, true, true, true, true, false]) 6 rfl (by kernel_rfl) (by kernel_rfl) (by kernel_rfl) (by kernel_rfl) rfl (pr_fieldAddr 0 rfl Tryz.underlying40 rfl ty_37 rfl rfl) (fun _ h => Mem.drop1 (Mem.drop1 (h))) rfl ?_
      refine ji_all [7] (by kernel_rfl) (by simp) (fun i hi => ?_)
      simp only [List.mem_cons, List.not_mem_nil, or_false] at hi
      subst hi
      ·refine jh_op rfl ?_
       refine j_pull4 ?_
       refine jo_storeV rfl rfl ty_37 [v1] (fun w I m hs => (SliceV.cells (row_slice (.tail _ (.head _)) hs))) rfl (fun w I m hs => by simp only [List.all_cons, List.all_nil, Bool.and_true, Bool.and_eq_true]; exact (SliceV.one (row_slice (.tail _ (.head _)) hs))) [v1, env2, env3, str (en.2.2.2.1), env4, str (en.2.2.2.2.2.1), .int .i64 (en.2.2.2.2.2.2.1), .int .i64 (en.2.2.2.2.2.2.2)] rfl rfl ?_
       refine ji_in2 (listed' := #[true, true, true, true, true, true, true, true]) (by kernel_rfl) rfl ?_
       refine j_pull9 ?_
       refine j_pull9 ?_
       refine j_pull9 ?_
       refine j_pull9 ?_
       refine j_pull9 ?_
       refine j_pull9 ?_
       refine j_pull9 ?_
       refine j_pull9 ?_
       refine j_pull9 ?_
       refine j_pull9 ?_
       show JI _ _ _ _ _ _ _ _ _
       exact ji_done ⟨v1, r1⟩ (by kernel_rfl) ⟨rfl, rfl, rfl, rfl, rfl, trivial⟩ (fun _ h => h)
  ·skip
   refine jq_in_normal (jq_then (jc_region (jo_pure rfl (pr_addN (m := i) (n := 1) rfl rfl (by omega)) ?_)))
   refine jo_pure rfl (pr_move rfl) (jo_nil (j_pull2 (j_drop (j_pull2 (j_drop (j_pull2 (j_drop (j_pull6 ?_))))))))
   refine j_pull6 ?_
   refine j_pull6 ?_
   refine j_pull6 ?_
   refine j_pull6 ?_
   refine j_pull5 ?_
   refine j_pull6 ?_
   refine jq_round' ((i + 1), v1, (acc ++ [(en.1.getD i [])])) (by (try dsimp only); exact (⟨by omega, by rw [take_next (dd := []) h1, hinv.2]⟩)) (by (try dsimp only); exact (by omega)) ⟨rfl, rfl, rfl, rfl, rfl, trivial⟩ (fun _ h => h)
 ·have h1 := of_decide_eq_false h1b
  refine jc_exit ?_
  refine jq_then_exit ?_
  refine jq_then_exit ?_
  refine jq_in_hit ?_
  refine jq_then (jc_seq ?_)
  refine jc_heldI (fun (iq : Value × Value × Value) => [(1, .pointer (some ⟨b1, 0, none⟩)), (2, .pointer (some ⟨b2, 0, none⟩))]) (fun iq => [.box b1 40 [kw, iq.2.2, iq.2.1, str (en.2.2.2.1), iq.1, str (en.2.2.2.2.2.1), .int .i64 (en.2.2.2.2.2.2.1), .int .i64 (en.2.2.2.2.2.2.2)], .imm (.list (.pair .str .str)) (iq.1) (en.2.2.2.2.1), .imm (.list .str) (iq.2.1) (en.2.2.1), .imm (.list .str) (iq.2.2) (en.2.1), .row (kw) 28 (.list .str) (acc), .box b2 40 [.slice none 0 0, .slice none 0 0, .slice none 0 0, str ([]), .slice none 0 0, str ([]), .int .i64 ((0 : Nat) : Int), .int .i64 ((0 : Nat) : Int)], .imm (.list (.list .str)) (env) (en.1), .imm (.list .str) (env2) (en.2.1), .imm (.list .str) (env3) (en.2.2.1), .imm (.list (.pair .str .str)) (env4) (en.2.2.2.2.1)]) [.row (kw) 28 (.list .str) (acc), .box b1 40 [kw, env2, env3, str (en.2.2.2.1), env4, str (en.2.2.2.2.2.1), .int .i64 (en.2.2.2.2.2.2.1), .int .i64 (en.2.2.2.2.2.2.2)], .box b2 40 [.slice none 0 0, .slice none 0 0, .slice none 0 0, str ([]), .slice none 0 0, str ([]), .int .i64 ((0 : Nat) : Int), .int .i64 ((0 : Nat) : Int)], .imm (.list (.list .str)) (env) (en.1), .imm (.list .str) (env2) (en.2.1), .imm (.list .str) (env3) (en.2.2.1), .imm (.list (.pair .str .str)) (env4) (en.2.2.2.2.1)] [10, 12, 14] mixed (fun lst hlst => ?_) (fun ⟨r4, r3, r2⟩ => ?_)
  ·subst hlst
   refine ji_take (listed' := #[true, false, false, false, false, false, false, false, false, false, false, false, false, false, false]) 0 rfl (by kernel_rfl) (by kernel_rfl) (by kernel_rfl) (by kernel_rfl) rfl (pr_fieldAddr 1 rfl Tryz.underlying40 rfl ty_28 rfl rfl) (fun _ h => h) rfl ?_
   refine ji_take (listed' := #[true, true, false, false, false, false, false, false, false, false, false, false, false, false, false]) 1 rfl (by kernel_rfl) (by kernel_rfl) (by kernel_rfl) (by kernel_rfl) rfl (pr_load_box (env2) rfl ty_28 (.tail _ (.head _)) rfl (by decide) rfl) (fun _ h => h) rfl ?_
   refine ji_take (listed' := #[true, true, false, true, false, false, false, false, false, false, false, false, false, false, false]) 3 rfl (by kernel_rfl) (by kernel_rfl) (by kernel_rfl) (by kernel_rfl) rfl (pr_fieldAddr 2 rfl Tryz.underlying40 rfl ty_28 rfl rfl) (fun _ h => h) rfl ?_
   refine ji_take (listed' := #[true, true, false, true, true, false, false, false, false, false, false, false, false, false, false]) 4 rfl (by kernel_rfl) (by kernel_rfl) (by kernel_rfl) (by kernel_rfl) rfl (pr_load_box (env3) rfl ty_28 (.tail _ (.head _)) rfl (by decide) rfl) (fun _ h => h) rfl ?_
   refine ji_take (listed' := #[true, true, false, true, true, false, true, false, false, false, false, false, false, false, false]) 6 rfl (by kernel_rfl) (by kernel_rfl) (by kernel_rfl) (by kernel_rfl) rfl (pr_fieldAddr 4 rfl Tryz.underlying40 rfl ty_38 rfl rfl) (fun _ h => h) rfl ?_
   refine ji_take (listed' := #[true, true, false, true, true, false, true, true, false, false, false, false, false, false, false]) 7 rfl (by kernel_rfl) (by kernel_rfl) (by kernel_rfl) (by kernel_rfl) rfl (pr_load_box (env4) rfl ty_38 (.tail _ (.head _)) rfl (by decide) rfl) (fun _ h => h) rfl ?_
   refine ji_all [2] (by kernel_rfl) (by simp) (fun i hi => ?_)
   simp only [List.mem_cons, List.not_mem_nil, or_false] at hi
   subst hi
   ·refine jh_op rfl ?_
    refine jo_callp cal_32 (c_slices_Clone_string_string en.2.1 env2 (by first | omega | exact hkm _ (getD_mem h1))) ⟨rfl, trivial⟩ rfl (⟨⟨rfl, .tail _ (.tail _ (.tail _ (.tail _ (.head _))))⟩, trivial⟩) (fun r2 => ?_)
    refine ji_in (listed' := #[true, true, true, true, true, false, true, true, false, false, false, false, false, false, false]) (fun _ h => Mem.drop1 (h)) rfl ?_
    refine ji_take (listed' := #[true, true, true, true, true, false, true, true, false, true, false, false, false, false, false]) 9 rfl (by kernel_rfl) (by kernel_rfl) (by kernel_rfl) (by kernel_rfl) rfl (pr_fieldAddr 1 rfl Tryz.underlying40 rfl ty_28 rfl rfl) (fun _ h => Mem.drop1 (h)) rfl ?_
    refine ji_all [5] (by kernel_rfl) (by simp) (fun i hi => ?_)
    simp only [List.mem_cons, List.not_mem_nil, or_false] at hi
    subst hi
    ·refine jh_op rfl ?_
     refine jo_callp cal_32 (c_slices_Clone_string_string en.2.2.1 env3 (by first | omega | exact hkm _ (getD_mem h1))) ⟨rfl, trivial⟩ rfl (⟨⟨rfl, .tail _ (.tail _ (.tail _ (.tail _ (.tail _ (.tail _ (.head _))))))⟩, trivial⟩) (fun r3 => ?_)
     refine ji_in (listed' := #[true, true, true, true, true, true, true, true, false, true, false, false, false, false, false]) (fun _ h => Mem.drop1 (Mem.drop1 (h))) rfl ?_
     refine ji_all [8] (by kernel_rfl) (by simp) (fun i hi => ?_)
     simp only [List.mem_cons, List.not_mem_nil, or_false] at hi
     subst hi
     ·refine jh_op rfl ?_
      refine jo_callp cal_83 (c_slices_Clone_api_Field_api_Field en.2.2.2.2.1 env4 (by first | omega | exact hkm _ (getD_mem h1))) ⟨rfl, trivial⟩ rfl (⟨⟨rfl, .tail _ (.tail _ (.tail _ (.tail _ (.tail _ (.tail _ (.tail _ (.tail _ (.head _))))))))⟩, trivial⟩) (fun r4 => ?_)
      refine ji_in (listed' := #[true, true, true, true, true, true, true, true, true, true, false, false, false, false, false]) (fun _ h => Mem.drop1 (Mem.drop1 (Mem.drop1 (h)))) rfl ?_
      refine ji_all [10] (by kernel_rfl) (by simp) (fun i hi => ?_)
      simp only [List.mem_cons, List.not_mem_nil, or_false] at hi
      subst hi
      ·refine jh_op rfl ?_
       refine j_pull4 ?_
       refine jo_storeV rfl rfl ty_28 [r2] (fun w I m hs => (SliceV.cells (imm_slice (.tail _ (.tail _ (.tail _ (.head _)))) hs))) rfl (fun w I m hs => by simp only [List.all_cons, List.all_nil, Bool.and_true, Bool.and_eq_true]; exact (SliceV.one (imm_slice (.tail _ (.tail _ (.tail _ (.head _)))) hs))) [kw, r2, env3, str (en.2.2.2.1), env4, str (en.2.2.2.2.2.1), .int .i64 (en.2.2.2.2.2.2.1), .int .i64 (en.2.2.2.2.2.2.2)] rfl rfl ?_
       refine ji_in2 (listed' := #[true, true, true, true, true, true, true, true, true, true, true, false, false, false, false]) (by kernel_rfl) rfl ?_
       refine ji_all [11] (by kernel_rfl) (by simp) (fun i hi => ?_)
       simp only [List.mem_cons, List.not_mem_nil, or_false] at hi
       subst hi
       ·refine jh_op rfl ?_
        refine jo_pure rfl (pr_fieldAddr 2 rfl Tryz.underlying40 rfl ty_28 rfl rfl) ?_
        refine ji_in2 (listed' := #[true, true, true, true, true, true, true, true, true, true, true, true, false, false, false]) (by kernel_rfl) rfl ?_
        refine ji_all [12] (by kernel_rfl) (by simp) (fun i hi => ?_)
        simp only [List.mem_cons, List.not_mem_nil, or_false] at hi
        subst hi
        ·refine jh_op rfl ?_
         refine jo_storeV rfl rfl ty_28 [r3] (fun w I m hs => (SliceV.cells (imm_slice (.tail _ (.tail _ (.head _))) hs))) rfl (fun w I m hs => by simp only [List.all_cons, List.all_nil, Bool.and_true, Bool.and_eq_true]; exact (SliceV.one (imm_slice (.tail _ (.tail _ (.head _))) hs))) [kw, r2, r3, str (en.2.2.2.1), env4, str (en.2.2.2.2.2.1), .int .i64 (en.2.2.2.2.2.2.1), .int .i64 (en.2.2.2.2.2.2.2)] rfl rfl ?_
         refine ji_in2 (listed' := #[true, true, true, true, true, true, true, true, true, true, true, true, true, false, false]) (by kernel_rfl) rfl ?_
         refine ji_all [13] (by kernel_rfl) (by simp) (fun i hi => ?_)
         simp only [List.mem_cons, List.not_mem_nil, or_false] at hi
         subst hi
         ·refine jh_op rfl ?_
          refine jo_pure rfl (pr_fieldAddr 4 rfl Tryz.underlying40 rfl ty_38 rfl rfl) ?_
          refine ji_in2 (listed' := #[true, true, true, true, true, true, true, true, true, true, true, true, true, true, false]) (by kernel_rfl) rfl ?_
          refine ji_all [14] (by kernel_rfl) (by simp) (fun i hi => ?_)
          simp only [List.mem_cons, List.not_mem_nil, or_false] at hi
          subst hi
          ·refine jh_op rfl ?_
           refine jo_storeV rfl rfl ty_38 [r4] (fun w I m hs => (SliceV.cells (imm_slice (.tail _ (.head _)) hs))) rfl (fun w I m hs => by simp only [List.all_cons, List.all_nil, Bool.and_true, Bool.and_eq_true]; exact (SliceV.one (imm_slice (.tail _ (.head _)) hs))) [kw, r2, r3, str (en.2.2.2.1), r4, str (en.2.2.2.2.2.1), .int .i64 (en.2.2.2.2.2.2.1), .int .i64 (en.2.2.2.2.2.2.2)] rfl rfl ?_
           refine ji_in2 (listed' := #[true, true, true, true, true, true, true, true, true, true, true, true, true, true, true]) (by kernel_rfl) rfl ?_
           refine j_pull9 ?_
           refine j_pull9 ?_
           refine j_pull9 ?_
           refine j_pull9 ?_
           refine j_pull9 ?_
           refine j_pull9 ?_
           refine j_pull9 ?_
           refine j_pull9 ?_
           refine j_pull9 ?_
           refine j_pull9 ?_
           show JI _ _ _ _ _ _ _ _ _
           exact ji_done ⟨r4, r3, r2⟩ (by kernel_rfl) ⟨rfl, rfl, trivial⟩ (fun _ h => h)
  ·skip
   refine jq_then (jc_seq (jc_region (jo_pure rfl (pr_load_box (.agg #[kw, r2, r3, str (en.2.2.2.1), r4, str (en.2.2.2.2.2.1), .int .i64 (en.2.2.2.2.2.2.1), .int .i64 (en.2.2.2.2.2.2.2)]) rfl ty_40 (.head _) rfl (by decide) rfl) ?_)))
   refine j_pull5 ?_
   refine jo_storeV rfl rfl ty_40 [kw, r2, r3, str (en.2.2.2.1), r4, str (en.2.2.2.2.2.1), .int .i64 (en.2.2.2.2.2.2.1), .int .i64 (en.2.2.2.2.2.2.2)] (fun _ _ _ _ => rfl) rfl (fun w I m hs => by simp only [List.all_cons, List.all_nil, Bool.and_true, Bool.and_eq_true]; exact ⟨(SliceV.one (row_slice (.tail _ (.tail _ (.tail _ (.tail _ (.tail _ (.head _)))))) hs)), (SliceV.one (imm_slice (.tail _ (.tail _ (.tail _ (.tail _ (.head _))))) hs)), (SliceV.one (imm_slice (.tail _ (.tail _ (.tail _ (.head _)))) hs)), rfl, (SliceV.one (imm_slice (.tail _ (.tail _ (.head _))) hs)), rfl, rfl, rfl⟩) [kw, r2, r3, str (en.2.2.2.1), r4, str (en.2.2.2.2.2.1), .int .i64 (en.2.2.2.2.2.2.1), .int .i64 (en.2.2.2.2.2.2.2)] rfl rfl ?_
   refine jo_nil (jq_then (jc_ret (j_pull5 ?_)))
   refine j_pub_row (j_pull2 (j_drop (j_pull5 ?_)))
   refine j_drop (j_pull5 ?_)
   refine j_drop (j_pull5 ?_)
   refine j_drop (j_pull5 ?_)
   refine j_drop (j_pull1 (j_pull2 (j_pull3 (j_pull4 ?_))))
   refine j_pull4 ?_
   exact jq_retc rfl (kw, r2, r3, r4) (resV_box (.agg #[kw, r2, r3, str (en.2.2.2.1), r4, str (en.2.2.2.2.2.1), .int .i64 (en.2.2.2.2.2.2.1), .int .i64 (en.2.2.2.2.2.2.2)]) rfl ty_40 (.tail _ (.tail _ (.tail _ (.tail _ (.head _))))) rfl (by decide) rfl) (show (.agg #[kw, r2, r3, str (en.2.2.2.1), r4, str (en.2.2.2.2.2.1), .int .i64 (en.2.2.2.2.2.2.1), .int .i64 (en.2.2.2.2.2.2.2)] : Value) = (.agg #[kw, r2, r3, str (en.2.2.2.1), r4, str (en.2.2.2.2.2.1), .int .i64 (en.2.2.2.2.2.2.1), .int .i64 (en.2.2.2.2.2.2.2)]) from rfl) (fun w h => (fun h => by rw [hinv.2, List.take_of_length_le (by omega)] at h; exact h) (Mem.front (As := [.imm (.list (.list .str)) (kw) (acc), .imm (.list .str) (r2) (en.2.1), .imm (.list .str) (r3) (en.2.2.1), .imm (.list (.pair .str .str)) (r4) (en.2.2.2.2.1)]) h))

theorem c_ref26_OwnEntry (en : Ent) (env : Value) (env2 : Value) (env3 : Value) (env4 : Value) (he : OkE en) : Con Tryz.prog 46 #[.agg #[env, env2, env3, str (en.2.2.2.1), env4, str (en.2.2.2.2.2.1), .int .i64 (en.2.2.2.2.2.2.1), .int .i64 (en.2.2.2.2.2.2.2)]] [.imm (.list (.list .str)) (env) (en.1), .imm (.list .str) (env2) (en.2.1), .imm (.list .str) (env3) (en.2.2.1), .imm (.list (.pair .str .str)) (env4) (en.2.2.2.2.1)] (fun r : Value × Value × Value × Value => .agg #[r.1, r.2.1, r.2.2.1, str (en.2.2.2.1), r.2.2.2, str (en.2.2.2.2.2.1), .int .i64 (en.2.2.2.2.2.2.1), .int .i64 (en.2.2.2.2.2.2.2)]) (fun r => [.imm (.list (.list .str)) r.1 (en.1), .imm (.list .str) r.2.1 (en.2.1), .imm (.list .str) r.2.2.1 (en.2.2.1), .imm (.list (.pair .str .str)) r.2.2.2 (en.2.2.2.2.1)]) := by
 refine con_of_J (args := [.agg #[env, env2, env3, str (en.2.2.2.1), env4, str (en.2.2.2.2.2.1), .int .i64 (en.2.2.2.2.2.2.1), .int .i64 (en.2.2.2.2.2.2.2)]]) (n := 38) Tryz.func46 rfl (Nat.le_of_ble_eq_true rfl) rfl (fun w0 I0 m0 => ?_)
 have hbe := he.size
 unfold sizeE at hbe
 obtain ⟨hkl, hkm, hvl, hsl, hfl⟩ := he.lens
 refine jc_seq (jc_region ?_)
 refine jo_box rfl [env, env2, env3, str (en.2.2.2.1), env4, str (en.2.2.2.2.2.1), .int .i64 (en.2.2.2.2.2.2.1), .int .i64 (en.2.2.2.2.2.2.2)] rfl rfl (fun b1 => ?_)
 refine jo_alloc ty_40 [.slice none 0 0, .slice none 0 0, .slice none 0 0, str ([]), .slice none 0 0, str ([]), .int .i64 ((0 : Nat) : Int), .int .i64 ((0 : Nat) : Int)] rfl rfl (fun b2 => ?_)
 refine jo_nil (jq_then (jc_seq (jc_region (jo_pure rfl (pr_load_box (.agg #[env, env2, env3, str (en.2.2.2.1), env4, str (en.2.2.2.2.2.1), .int .i64 (en.2.2.2.2.2.2.1), .int .i64 (en.2.2.2.2.2.2.2)]) rfl ty_40 (.tail _ (.head _)) rfl (by decide) rfl) ?_))))
 refine jo_alloc ty_40 [.slice none 0 0, .slice none 0 0, .slice none 0 0, str ([]), .slice none 0 0, str ([]), .int .i64 ((0 : Nat) : Int), .int .i64 ((0 : Nat) : Int)] rfl rfl (fun b3 => ?_)
 refine jo_storeV rfl rfl ty_40 [env, env2, env3, str (en.2.2.2.1), env4, str (en.2.2.2.2.2.1), .int .i64 (en.2.2.2.2.2.2.1), .int .i64 (en.2.2.2.2.2.2.2)] (fun _ _ _ _ => rfl) rfl (fun w I m hs => by simp only [List.all_cons, List.all_nil, Bool.and_true, Bool.and_eq_true]; exact ⟨(SliceV.one (imm_slice (.tail _ (.tail _ (.tail _ (.head _)))) hs)), (SliceV.one (imm_slice (.tail _ (.tail _ (.tail _ (.tail _ (.head _))))) hs)), (SliceV.one (imm_slice (.tail _ (.tail _ (.tail _ (.tail _ (.tail _ (.head _)))))) hs)), rfl, (SliceV.one (imm_slice (.tail _ (.tail _ (.tail _ (.tail _ (.tail _ (.tail _ (.head _))))))) hs)), rfl, rfl, rfl⟩) [env, env2, env3, str (en.2.2.2.1), env4, str (en.2.2.2.2.2.1), .int .i64 (en.2.2.2.2.2.2.1), .int .i64 (en.2.2.2.2.2.2.2)] rfl rfl ?_
 refine jo_nil (jq_then (jc_seq (jc_region (jo_pure rfl (pr_fieldAddr 0 rfl Tryz.underlying40 rfl ty_37 rfl rfl) ?_))))
 refine jo_store rfl rfl ty_37 [.slice none 0 0] rfl rfl rfl [.slice none 0 0, env2, env3, str (en.2.2.2.1), env4, str (en.2.2.2.2.2.1), .int .i64 (en.2.2.2.2.2.2.1), .int .i64 (en.2.2.2.2.2.2.2)] rfl rfl ?_
 refine jo_nil (jq_then (jc_seq (jc_seq (jc_region (jo_pure rfl (pr_assign rfl) (jo_nil (jq_then (jc_block (j_nil_row 28 (.list .str) ?_)))))))))
 refine jc_loop3 (fun (i : Nat) (kw : Value) (acc : List (List Str)) => [(1, .pointer (some ⟨b1, 0, none⟩)), (2, .pointer (some ⟨b2, 0, none⟩)), (3, .pointer (some ⟨b3, 0, none⟩)), (4, .int .i64 ((i : Nat) : Int))]) (fun (i : Nat) (kw : Value) (acc : List (List Str)) => [.row (kw) 28 (.list .str) (acc), .box b3 40 [kw, env2, env3, str (en.2.2.2.1), env4, str (en.2.2.2.2.2.1), .int .i64 (en.2.2.2.2.2.2.1), .int .i64 (en.2.2.2.2.2.2.2)], .box b2 40 [.slice none 0 0, .slice none 0 0, .slice none 0 0, str ([]), .slice none 0 0, str ([]), .int .i64 ((0 : Nat) : Int), .int .i64 ((0 : Nat) : Int)], .box b1 40 [env, env2, env3, str (en.2.2.2.1), env4, str (en.2.2.2.2.2.1), .int .i64 (en.2.2.2.2.2.2.1), .int .i64 (en.2.2.2.2.2.2.2)], .imm (.list (.list .str)) (env) (en.1), .imm (.list .str) (env2) (en.2.1), .imm (.list .str) (env3) (en.2.2.1), .imm (.list (.pair .str .str)) (env4) (en.2.2.2.2.1)]) (fun (i : Nat) (kw : Value) (acc : List (List Str)) => i ≤ en.1.length ∧ acc = en.1.take i) (fun (i : Nat) (kw : Value) (acc : List (List Str)) => en.1.length - i) 0 (.slice none 0 0) [] (⟨Nat.zero_le _, rfl⟩) (⟨rfl, rfl, rfl, rfl, trivial⟩) (fun _ h => h) (fun i kw acc hinv => ?_)
 have hal : acc.length ≤ 1000000000 := by rw [hinv.2, List.length_take]; omega
 refine jc_seq (jc_seq (jc_region (jo_pure rfl (pr_move rfl) (jo_pure rfl (pr_fieldAddr 0 rfl Tryz.underlying40 rfl ty_37 rfl rfl) ?_))))
 refine jo_pure rfl (pr_load_box (env) rfl ty_37 (.tail _ (.tail _ (.tail _ (.head _)))) rfl (by decide) rfl) ?_
 refine jo_pure rfl (pr_len_imm rfl (.tail _ (.tail _ (.tail _ (.tail _ (.head _))))) Tryz.underlying37) ?_
 refine jo_pure rfl (pr_lssN (m := i) (n := en.1.length) rfl rfl) ?_
 refine jo_nil (jq_then ?_)
 refine jc_cond rfl (fun h1b => ?_) (fun h1b => ?_)
 ·have h1 := of_decide_eq_true h1b
  have hki := hkm _ (getD_mem (dd := []) h1)
  refine jc_skip (jq_then (jc_seq (jc_block ?_)))
  refine j_open_elem (t := (.list .str)) (i := i) [] (.tail _ (.tail _ (.tail _ (.tail _ (.head _))))) (by omega) (fun e1 => ?_)
  refine j_pull2 ?_
  refine jc_heldI (fun (v2 : Value) => [(1, .pointer (some ⟨b1, 0, none⟩)), (2, .pointer (some ⟨b2, 0, none⟩)), (3, .pointer (some ⟨b3, 0, none⟩)), (4, .int .i64 ((i : Nat) : Int))]) (fun v2 => [.box b3 40 [v2, env2, env3, str (en.2.2.2.1), env4, str (en.2.2.2.2.2.1), .int .i64 (en.2.2.2.2.2.2.1), .int .i64 (en.2.2.2.2.2.2.2)], .row (v2) 28 (.list .str) (acc ++ [[] ++ (en.1.getD i [])]), .imm (.list .str) (e1) ((en.1.getD i [])), .fact (fun w_ I_ => ElemAt w_ I_ (env) (i) 1 [e1]), .box b2 40 [.slice none 0 0, .slice none 0 0, .slice none 0 0, str ([]), .slice none 0 0, str ([]), .int .i64 ((0 : Nat) : Int), .int .i64 ((0 : Nat) : Int)], .box b1 40 [env, env2, env3, str (en.2.2.2.1), env4, str (en.2.2.2.2.2.1), .int .i64 (en.2.2.2.2.2.2.1), .int .i64 (en.2.2.2.2.2.2.2)], .imm (.list (.list .str)) (env) (en.1), .imm (.list .str) (env2) (en.2.1), .imm (.list .str) (env3) (en.2.2.1), .imm (.list (.pair .str .str)) (env4) (en.2.2.2.2.1)]) [.imm (.list .str) (e1) ((en.1.getD i [])), .fact (fun w_ I_ => ElemAt w_ I_ (env) (i) 1 [e1]), .box b3 40 [kw, env2, env3, str (en.2.2.2.1), env4, str (en.2.2.2.2.2.1), .int .i64 (en.2.2.2.2.2.2.1), .int .i64 (en.2.2.2.2.2.2.2)], .box b2 40 [.slice none 0 0, .slice none 0 0, .slice none 0 0, str ([]), .slice none 0 0, str ([]), .int .i64 ((0 : Nat) : Int), .int .i64 ((0 : Nat) : Int)], .box b1 40 [env, env2, env3, str (en.2.2.2.1), env4, str (en.2.2.2.2.2.1), .int .i64 (en.2.2.2.2.2.2.1), .int .i64 (en.2.2.2.2.2.2.2)], .imm (.list (.list .str)) (env) (en.1), .imm (.list .str) (env2) (en.2.1), .imm (.list .str) (env3) (en.2.2.1), .imm (.list (.pair .str .str)) (env4) (en.2.2.2.2.1)] [11] mixed (fun lst hlst => ?_) (fun v2 => ?_)
  ·subst hlst
   refine ji_take (listed' := #[true, false, false, false, false, false, false, false, false, false, false, false]) 0 rfl (by kernel_rfl) (by kernel_rfl) (by kernel_rfl) (by kernel_rfl) rfl (pr_fieldAddr 0 rfl Tryz.underlying40 rfl ty_37 rfl rfl) (fun _ h => Mem.drop1 (h)) rfl ?_
   refine ji_take (listed' := #[true, true, false, false, false, false, false, false, false, false, false, false]) 1 rfl (by kernel_rfl) (by kernel_rfl) (by kernel_rfl) (by kernel_rfl) rfl (pr_load_box (kw) rfl ty_37 (.tail _ (.tail _ (.head _))) rfl (by decide) rfl) (fun _ h => Mem.drop1 (h)) rfl ?_
   refine ji_take (listed' := #[true, true, true, false, false, false, false, false, false, false, false, false]) 2 rfl (by kernel_rfl) (by kernel_rfl) (by kernel_rfl) (by kernel_rfl) rfl (pr_fieldAddr 0 rfl Tryz.underlying40 rfl ty_37 rfl rfl) (fun _ h => Mem.drop1 (h)) rfl ?_
   refine ji_take (listed' := #[true, true, true, true, false, false, false, false, false, false, false, false]) 3 rfl (by kernel_rfl) (by kernel_rfl) (by kernel_rfl) (by kernel_rfl) rfl (pr_load_box (env) rfl ty_37 (.tail _ (.tail _ (.tail _ (.tail _ (.head _))))) rfl (by decide) rfl) (fun _ h => Mem.drop1 (h)) rfl ?_
   refine ji_take (listed' := #[true, true, true, true, true, false, false, false, false, false, false, false]) 4 rfl (by kernel_rfl) (by kernel_rfl) (by kernel_rfl) (by kernel_rfl) rfl (pr_move rfl) (fun _ h => Mem.drop1 (h)) rfl ?_
   refine ji_take (listed' := #[true, true, true, true, true, true, false, false, false, false, false, false]) 5 rfl (by kernel_rfl) (by kernel_rfl) (by kernel_rfl) (by kernel_rfl) rfl (pr_idx_imm (i := i) rfl (.tail _ (.tail _ (.tail _ (.tail _ (.tail _ (.head _)))))) rfl Tryz.underlying37 ty_28 (by omega)) (fun _ h => Mem.drop1 (h)) rfl ?_
   refine ji_take (listed' := #[true, true, true, true, true, true, true, false, false, false, false, false]) 6 rfl (by kernel_rfl) (by kernel_rfl) (by kernel_rfl) (by kernel_rfl) rfl (pr_load_at (e1) rfl (.tail _ (.head _)) ty_28 (by decide) rfl) (fun _ h => Mem.drop1 (h)) rfl ?_
   refine ji_all [7] (by kernel_rfl) (by simp) (fun i hi => ?_)
   simp only [List.mem_cons, List.not_mem_nil, or_false] at hi
   subst hi
   ·refine jh_op rfl ?_
    refine j_nil_row 9 .str ?_
    refine jo_append_imm rfl rfl (.tail _ (.head _)) Tryz.underlying28 ty_9 rfl (by simp only [List.length_append, List.length_cons, List.length_nil, maxLen]; omega) (by simp only [List.length_append, List.length_cons, List.length_nil]; omega) rfl (fun v1 => ?_)
    refine ji_in (listed' := #[true, true, true, true, true, true, true, true, false, false, false, false]) (fun _ h => Mem.drop1 (Mem.drop1 (h))) rfl ?_
    refine ji_all [8] (by kernel_rfl) (by simp) (fun i hi => ?_)
    simp only [List.mem_cons, List.not_mem_nil, or_false] at hi
    subst hi
    ·refine jh_op rfl ?_
     refine j_pub_row ?_
     refine jo_buildSliceLV (t := (.list .str)) [[] ++ (en.1.getD i [])] [v1] [[v1]] (fun a hf => by simp only [List.zipIdx_cons, List.zipIdx_nil, List.map_toArray, List.map_cons, List.map_nil, hf.ev (show ev _ (.tmp 21) = some (v1) from rfl)] <;> rfl) (fun w I m hs => by obtain ⟨_, _, _, e0⟩ := imm_slice (.head _) hs; rw [e0]; rfl) ⟨⟨v1, rfl, .head _⟩, trivial⟩ Tryz.underlying37 ty_28 rfl rfl rfl rfl (fun g1 => ?_)
     refine ji_in (listed' := #[true, true, true, true, true, true, true, true, true, false, false, false]) (fun _ h => Mem.drop1 (Mem.drop1 (Mem.drop1 (h)))) rfl ?_
     refine ji_all [9] (by kernel_rfl) (by simp) (fun i hi => ?_)
     simp only [List.mem_cons, List.not_mem_nil, or_false] at hi
     subst hi
     ·refine jh_op rfl ?_
      refine j_pull2 ?_
      refine jo_append rfl rfl Tryz.underlying37 ty_28 rfl (by simp only [List.length_append, List.length_cons, List.length_nil, maxLen]; omega) (by simp only [List.length_append, List.length_cons, List.length_nil]; omega) rfl (fun v2 => ?_)
      refine ji_in (listed' := #[true, true, true, true, true, true, true, true, true, true, false, false]) (fun _ h => Mem.drop1 (Mem.drop1 (h))) rfl ?_
      refine ji_take (listed' := #[true, true, true, true, true, true, true, true, true, true, true, false]) 10 rfl (by kernel_rfl) (by kernel_rfl) (by kernel_rfl) (by kernel_rfl) rfl (pr_fieldAddr 0 rfl Tryz.underlying40 rfl ty_37 rfl rfl) (fun _ h => Mem.drop1 (Mem.drop1 (h))) rfl ?_
      refine ji_all [11] (by kernel_rfl) (by simp) (fun i hi => ?_)
      simp only [List.mem_cons, List.not_mem_nil, or_false] at hi
      subst hi
      ·refine jh_op rfl ?_
       refine j_pull4 ?_
       refine jo_storeV rfl rfl ty_37 [v2] (fun w I m hs => (SliceV.cells (row_slice (.tail _ (.head _)) hs))) rfl (fun w I m hs => by simp only [List.all_cons, List.all_nil, Bool.and_true, Bool.and_eq_true]; exact (SliceV.one (row_slice (.tail _ (.head _)) hs))) [v2, env2, env3, str (en.2.2.2.1), env4, str (en.2.2.2.2.2.1), .int .i64 (en.2.2.2.2.2.2.1), .int .i64 (en.2.2.2.2.2.2.2)] rfl rfl ?_
       refine ji_in2 (listed' := #[true, true, true, true, true, true, true, true, true, true, true, true]) (by kernel_rfl) rfl ?_
       refine j_pull2 (j_drop (j_pull9 ?_))
       refine j_pull9 ?_
       refine j_pull9 ?_
       refine j_pull9 ?_
       refine j_pull9 ?_
       refine j_pull9 ?_
       refine j_pull9 ?_
       refine j_pull9 ?_
       refine j_pull9 ?_
       refine j_pull9 ?_
       show JI _ _ _ _ _ _ _ _ _
       exact ji_done v2 (by kernel_rfl) ⟨rfl, rfl, rfl, rfl, trivial⟩ (fun _ h => h)
  ·skip
   refine jq_in_normal (jq_then (jc_region (jo_pure rfl (pr_move rfl) (jo_pure rfl (pr_addN (m := i) (n := 1) rfl rfl (by omega)) ?_))))
   refine jo_pure rfl (pr_assign rfl) (jo_nil (j_pull2 (j_drop (j_pull2 (j_drop (j_pull7 ?_))))))
   refine j_pull7 ?_
   refine j_pull7 ?_
   refine j_pull7 ?_
   refine j_pull7 ?_
   refine j_pull7 ?_
   refine j_pull6 ?_
   refine j_pull7 ?_
   refine jq_round' ((i + 1), v2, (acc ++ [[] ++ (en.1.getD i [])])) (by (try dsimp only); exact (⟨by omega, by rw [take_next (dd := []) h1, hinv.2, List.nil_append]⟩)) (by (try dsimp only); exact (by omega)) ⟨rfl, rfl, rfl, rfl, trivial⟩ (fun _ h => h)
 ·have h1 := of_decide_eq_false h1b
  refine jc_exit ?_
  refine jq_then_exit ?_
  refine jq_then_exit ?_
  refine jq_in_hit ?_
  refine jq_then (jc_seq (jc_region (jo_pure rfl (pr_fieldAddr 1 rfl Tryz.underlying40 rfl ty_28 rfl rfl) ?_)))
  refine jo_pure rfl (pr_load_box (env2) rfl ty_28 (.tail _ (.tail _ (.tail _ (.head _)))) rfl (by decide) rfl) ?_
  refine j_nil_row 9 .str ?_
  refine jo_append_imm rfl rfl (.tail _ (.tail _ (.tail _ (.tail _ (.tail _ (.head _)))))) Tryz.underlying28 ty_9 rfl (by simp only [List.length_append, List.length_cons, List.length_nil, maxLen]; omega) (by simp only [List.length_append, List.length_cons, List.length_nil]; omega) rfl (fun v3 => ?_)
  refine jo_pure rfl (pr_fieldAddr 1 rfl Tryz.underlying40 rfl ty_28 rfl rfl) ?_
  refine j_pull2 (jo_storeV rfl rfl ty_28 [v3] (fun w I m hs => (SliceV.cells (row_slice (.tail _ (.head _)) hs))) rfl (fun w I m hs => by simp only [List.all_cons, List.all_nil, Bool.and_true, Bool.and_eq_true]; exact (SliceV.one (row_slice (.tail _ (.head _)) hs))) [kw, v3, env3, str (en.2.2.2.1), env4, str (en.2.2.2.2.2.1), .int .i64 (en.2.2.2.2.2.2.1), .int .i64 (en.2.2.2.2.2.2.2)] rfl rfl ?_)
  refine jo_nil (jq_then (jc_seq (jc_region (jo_pure rfl (pr_fieldAddr 2 rfl Tryz.underlying40 rfl ty_28 rfl rfl) ?_))))
  refine jo_pure rfl (pr_load_box (env3) rfl ty_28 (.tail _ (.tail _ (.tail _ (.tail _ (.head _))))) rfl (by decide) rfl) ?_
  refine j_nil_row 9 .str ?_
  refine jo_append_imm rfl rfl (.tail _ (.tail _ (.tail _ (.tail _ (.tail _ (.tail _ (.tail _ (.head _)))))))) Tryz.underlying28 ty_9 rfl (by simp only [List.length_append, List.length_cons, List.length_nil, maxLen]; omega) (by simp only [List.length_append, List.length_cons, List.length_nil]; omega) rfl (fun v4 => ?_)
  refine jo_pure rfl (pr_fieldAddr 2 rfl Tryz.underlying40 rfl ty_28 rfl rfl) ?_
  refine j_pull1 (jo_storeV rfl rfl ty_28 [v4] (fun w I m hs => (SliceV.cells (row_slice (.tail _ (.head _)) hs))) rfl (fun w I m hs => by simp only [List.all_cons, List.all_nil, Bool.and_true, Bool.and_eq_true]; exact (SliceV.one (row_slice (.tail _ (.head _)) hs))) [kw, v3, v4, str (en.2.2.2.1), env4, str (en.2.2.2.2.2.1), .int .i64 (en.2.2.2.2.2.2.1), .int .i64 (en.2.2.2.2.2.2.2)] rfl rfl ?_)
  refine jo_nil (jq_then (jc_seq (jc_region (jo_pure rfl (pr_fieldAddr 4 rfl Tryz.underlying40 rfl ty_38 rfl rfl) ?_))))
  refine jo_pure rfl (pr_load_box (env4) rfl ty_38 (.tail _ (.tail _ (.tail _ (.tail _ (.tail _ (.head _)))))) rfl (by decide) rfl) ?_
  refine j_nil_row 80 (.pair .str .str) ?_
  refine jo_append_imm rfl rfl (.tail _ (.tail _ (.tail _ (.tail _ (.tail _ (.tail _ (.tail _ (.tail _ (.tail _ (.head _)))))))))) Tryz.underlying38 ty_80 rfl (by simp only [List.length_append, List.length_cons, List.length_nil, maxLen]; omega) (by simp only [List.length_append, List.length_cons, List.length_nil]; omega) rfl (fun v5 => ?_)
  refine jo_pure rfl (pr_fieldAddr 4 rfl Tryz.underlying40 rfl ty_38 rfl rfl) ?_
  refine j_pull1 (jo_storeV rfl rfl ty_38 [v5] (fun w I m hs => (SliceV.cells (row_slice (.tail _ (.head _)) hs))) rfl (fun w I m hs => by simp only [List.all_cons, List.all_nil, Bool.and_true, Bool.and_eq_true]; exact (SliceV.one (row_slice (.tail _ (.head _)) hs))) [kw, v3, v4, str (en.2.2.2.1), v5, str (en.2.2.2.2.2.1), .int .i64 (en.2.2.2.2.2.2.1), .int .i64 (en.2.2.2.2.2.2.2)] rfl rfl ?_)
  refine jo_nil (jq_then (jc_seq (jc_region (jo_pure rfl (pr_load_box (.agg #[kw, v3, v4, str (en.2.2.2.1), v5, str (en.2.2.2.2.2.1), .int .i64 (en.2.2.2.2.2.2.1), .int .i64 (en.2.2.2.2.2.2.2)]) rfl ty_40 (.head _) rfl (by decide) rfl) ?_))))
  refine j_pull5 ?_
  refine jo_storeV rfl rfl ty_40 [kw, v3, v4, str (en.2.2.2.1), v5, str (en.2.2.2.2.2.1), .int .i64 (en.2.2.2.2.2.2.1), .int .i64 (en.2.2.2.2.2.2.2)] (fun _ _ _ _ => rfl) rfl (fun w I m hs => by simp only [List.all_cons, List.all_nil, Bool.and_true, Bool.and_eq_true]; exact ⟨(SliceV.one (row_slice (.tail _ (.tail _ (.tail _ (.tail _ (.tail _ (.head _)))))) hs)), (SliceV.one (row_slice (.tail _ (.tail _ (.tail _ (.tail _ (.head _))))) hs)), (SliceV.one (row_slice (.tail _ (.tail _ (.tail _ (.head _)))) hs)), rfl, (SliceV.one (row_slice (.tail _ (.tail _ (.head _))) hs)), rfl, rfl, rfl⟩) [kw, v3, v4, str (en.2.2.2.1), v5, str (en.2.2.2.2.2.1), .int .i64 (en.2.2.2.2.2.2.1), .int .i64 (en.2.2.2.2.2.2.2)] rfl rfl ?_
  refine jo_nil (jq_then (jc_ret (j_pull5 ?_)))
  refine j_pub_row (j_pull5 ?_)
  refine j_pub_row (j_pull5 ?_)
  refine j_pub_row (j_pull5 ?_)
  refine j_pub_row (j_pull5 ?_)
  refine j_drop (j_pull5 ?_)
  refine j_drop (j_pull5 ?_)
  refine j_drop (j_pull5 ?_)
  refine j_drop (j_pull5 ?_)
  refine j_drop (j_pull5 ?_)
  refine j_drop (j_pull4 ?_)
  refine j_pull1 (j_pull2 (j_pull3 (j_pull4 ?_)))
  exact jq_retc rfl (kw, v3, v4, v5) (resV_box (.agg #[kw, v3, v4, str (en.2.2.2.1), v5, str (en.2.2.2.2.2.1), .int .i64 (en.2.2.2.2.2.2.1), .int .i64 (en.2.2.2.2.2.2.2)]) rfl ty_40 (.tail _ (.tail _ (.tail _ (.tail _ (.head _))))) rfl (by decide) rfl) (show (.agg #[kw, v3, v4, str (en.2.2.2.1), v5, str (en.2.2.2.2.2.1), .int .i64 (en.2.2.2.2.2.2.1), .int .i64 (en.2.2.2.2.2.2.2)] : Value) = (.agg #[kw, v3, v4, str (en.2.2.2.1), v5, str (en.2.2.2.2.2.1), .int .i64 (en.2.2.2.2.2.2.1), .int .i64 (en.2.2.2.2.2.2.2)]) from rfl) (fun w h => (fun h => by rw [hinv.2, List.take_of_length_le (by omega)] at h; exact h) (Mem.front (As := [.imm (.list (.list .str)) (kw) (acc), .imm (.list .str) (v3) ([] ++ en.2.1), .imm (.list .str) (v4) ([] ++ en.2.2.1), .imm (.list (.pair .str .str)) (v5) ([] ++ en.2.2.2.2.1)]) h))

theorem c_clone_Axes (l : List (Axs)) (lv : Value) (hl : l.length ≤ 1000000000) (hm : ∀ a ∈ l, a.2.length ≤ 1000000000) : Con Tryz.prog 66 #[lv] [.imm (.list (.pair .str (.list .str))) (lv) (l)] (fun r1 : Value => r1) (fun r1 => [.imm (.list (.pair .str (.list .str))) r1 (l)]) := by
 refine con_of_J (args := [lv]) (n := 23) Tryz.func66 rfl (Nat.le_of_ble_eq_true rfl) rfl (fun w0 I0 m0 => ?_)
 refine jc_seq (jc_region (jo_pure rfl (pr_assign rfl) (jo_nil (jq_then (jc_seq (jc_region (jo_pure rfl (pr_assign rfl) (jo_nil (jq_then (jc_seq (jc_seq (jc_region (jo_pure rfl (pr_move rfl) (jo_pure rfl (pr_len_imm rfl (.head _) Tryz.underlying41) ?_))))))))))))))
 refine jo_pure rfl (pr_move rfl) (jo_nil (jq_then (jc_block (j_nil_row 83 (.pair .str (.list .str)) ?_))))
 refine jc_loop3 (fun (i : Nat) (kw : Value) (acc : List (Axs)) => [(3, kw), (6, lv), (7, .int .i64 ((l.length : Nat) : Int)), (8, .int .i64 ((i : Nat) : Int))]) (fun (i : Nat) (kw : Value) (acc : List (Axs)) => [.row (kw) 83 (.pair .str (.list .str)) (acc), .imm (.list (.pair .str (.list .str))) (lv) (l)]) (fun (i : Nat) (kw : Value) (acc : List (Axs)) => i ≤ l.length ∧ acc = l.take i) (fun (i : Nat) (kw : Value) (acc : List (Axs)) => l.length - i) 0 (.slice none 0 0) [] (⟨Nat.zero_le _, rfl⟩) (⟨rfl, rfl, rfl, rfl, trivial⟩) (fun _ h => h) (fun i kw acc hinv => ?_)
 have hal : acc.length ≤ 1000000000 := by rw [hinv.2, List.length_take]; omega
 refine jc_seq (jc_region (jo_pure rfl (pr_lssN (m := i) (n := l.length) rfl rfl) ?_))
 refine jo_nil (jq_then (jc_seq ?_))
 refine jc_cond rfl (fun h1b => ?_) (fun h1b => ?_)
 ·have h1 := of_decide_eq_true h1b
  refine jc_skip (jq_then (jc_seq (jc_block (jc_seq (jc_region ?_)))))
  refine j_open_elem (t := (.pair .str (.list .str))) (i := i) ([], []) (.tail _ (.head _)) (by omega) (fun ⟨_, e1⟩ => ?_)
  refine jo_pure rfl (pr_idx_imm (i := i) rfl (.tail _ (.tail _ (.tail _ (.head _)))) rfl Tryz.underlying41 ty_83 (by omega)) ?_
  refine jo_pure rfl (pr_load_at (.agg #[str (((l.getD i ([], []))).1), e1]) rfl (.tail _ (.head _)) ty_83 (by decide) rfl) ?_
  refine jo_alloc ty_83 [str ([]), .slice none 0 0] rfl rfl (fun b1 => ?_)
  refine jo_storeV rfl rfl ty_83 [str (((l.getD i ([], []))).1), e1] (fun _ _ _ _ => rfl) rfl (fun w I m hs => by simp only [List.all_cons, List.all_nil, Bool.and_true, Bool.and_eq_true]; exact ⟨rfl, (SliceV.one (imm_slice (.tail _ (.head _)) hs))⟩) [str (((l.getD i ([], []))).1), e1] rfl rfl ?_
  refine jo_nil (jq_then (j_pull3 ?_))
  refine jc_heldI (fun (iq : Value × Value) => [(3, iq.1), (6, lv), (7, .int .i64 ((l.length : Nat) : Int)), (8, .int .i64 ((i : Nat) : Int))]) (fun iq => [.row (iq.1) 83 (.pair .str (.list .str)) (acc ++ [(((l.getD i ([], []))).1, (((l.getD i ([], []))).2))]), .imm (.list .str) (iq.2) ((((l.getD i ([], []))).2)), .box b1 83 [str (((l.getD i ([], []))).1), e1], .imm (.list .str) (e1) (((l.getD i ([], []))).2), .fact (fun w_ I_ => ElemAt w_ I_ (lv) (i) 2 [str (((l.getD i ([], []))).1), e1]), .imm (.list (.pair .str (.list .str))) (lv) (l)]) [.box b1 83 [str (((l.getD i ([], []))).1), e1], .imm (.list .str) (e1) (((l.getD i ([], []))).2), .fact (fun w_ I_ => ElemAt w_ I_ (lv) (i) 2 [str (((l.getD i ([], []))).1), e1]), .imm (.list (.pair .str (.list .str))) (lv) (l)] [] mixed (fun lst hlst => ?_) (fun ⟨v1, r1⟩ => ?_)
  ·subst hlst
   refine ji_take (listed' := #[true, false, false, false, false, false, false, false, false, false]) 0 rfl (by kernel_rfl) (by kernel_rfl) (by kernel_rfl) (by kernel_rfl) rfl (pr_move rfl) (fun _ h => Mem.drop1 (h)) rfl ?_
   refine ji_take (listed' := #[true, true, false, false, false, false, false, false, false, false]) 1 rfl (by kernel_rfl) (by kernel_rfl) (by kernel_rfl) (by kernel_rfl) rfl (pr_fieldAddr 0 rfl Tryz.underlying83 rfl ty_9 rfl rfl) (fun _ h => Mem.drop1 (h)) rfl ?_
   refine ji_take (listed' := #[true, true, true, false, false, false, false, false, false, false]) 2 rfl (by kernel_rfl) (by kernel_rfl) (by kernel_rfl) (by kernel_rfl) rfl (pr_load_box (str (((l.getD i ([], []))).1)) rfl ty_9 (.head _) rfl (by decide) rfl) (fun _ h => Mem.drop1 (h)) rfl ?_
   refine ji_take (listed' := #[true, true, true, true, false, false, false, false, false, false]) 3 rfl (by kernel_rfl) (by kernel_rfl) (by kernel_rfl) (by kernel_rfl) rfl (pr_fieldAddr 1 rfl Tryz.underlying83 rfl ty_28 rfl rfl) (fun _ h => Mem.drop1 (h)) rfl ?_
   refine ji_take (listed' := #[true, true, true, true, true, false, false, false, false, false]) 4 rfl (by kernel_rfl) (by kernel_rfl) (by kernel_rfl) (by kernel_rfl) rfl (pr_load_box (e1) rfl ty_28 (.head _) rfl (by decide) rfl) (fun _ h => Mem.drop1 (h)) rfl ?_
   refine ji_all [5] (by kernel_rfl) (by simp) (fun i hi => ?_)
   simp only [List.mem_cons, List.not_mem_nil, or_false] at hi
   subst hi
   ·refine jh_op rfl ?_
    refine jo_callp cal_32 (c_slices_Clone_string_string (((l.getD i ([], []))).2) e1 (by first | omega | exact hm _ (getD_mem h1))) ⟨rfl, trivial⟩ rfl (⟨⟨rfl, .tail _ (.tail _ (.head _))⟩, trivial⟩) (fun r1 => ?_)
    refine ji_in (listed' := #[true, true, true, true, true, true, false, false, false, false]) (fun _ h => Mem.drop1 (Mem.drop1 (h))) rfl ?_
    refine ji_all [6] (by kernel_rfl) (by simp) (fun i hi => ?_)
    simp only [List.mem_cons, List.not_mem_nil, or_false] at hi
    subst hi
    ·refine jh_op rfl ?_
     refine jo_pure rfl (pr_buildV [(0, str (((l.getD i ([], []))).1)), (1, r1)] [str (((l.getD i ([], []))).1), r1] (fun a hf => by simp only [List.map_toArray, List.map_cons, List.map_nil, hf.ev (show ev _ (.tmp 14) = some (str (((l.getD i ([], []))).1)) from rfl), hf.ev (show ev _ (.tmp 17) = some (r1) from rfl)]) (fun w I m hs => by obtain ⟨_, _, _, e0⟩ := imm_slice (.head _) hs; rw [e0]; kernel_rfl)) ?_
     refine ji_in (listed' := #[true, true, true, true, true, true, true, false, false, false]) (fun _ h => Mem.drop1 (Mem.drop1 (h))) rfl ?_
     refine ji_all [7] (by kernel_rfl) (by simp) (fun i hi => ?_)
     simp only [List.mem_cons, List.not_mem_nil, or_false] at hi
     subst hi
     ·refine jh_op rfl ?_
      refine jo_buildSliceL (t := (.pair .str (.list .str))) [(((l.getD i ([], []))).1, (((l.getD i ([], []))).2))] [.agg #[str (((l.getD i ([], []))).1), r1]] [[str (((l.getD i ([], []))).1), r1]] (fun a hf => by simp only [List.zipIdx_cons, List.zipIdx_nil, List.map_toArray, List.map_cons, List.map_nil, hf.ev (show ev _ (.tmp 18) = some (.agg #[str (((l.getD i ([], []))).1), r1]) from rfl)] <;> rfl) rfl ⟨⟨[str (((l.getD i ([], []))).1)], [r1], rfl, rfl, ⟨r1, rfl, .head _⟩⟩, trivial⟩ Tryz.underlying41 ty_83 rfl rfl rfl rfl (fun g1 => ?_)
      refine ji_in (listed' := #[true, true, true, true, true, true, true, true, false, false]) (fun _ h => Mem.drop1 (Mem.drop1 (Mem.drop1 (h)))) rfl ?_
      refine ji_all [8] (by kernel_rfl) (by simp) (fun i hi => ?_)
      simp only [List.mem_cons, List.not_mem_nil, or_false] at hi
      subst hi
      ·refine jh_op rfl ?_
       refine j_pull2 ?_
       refine jo_append rfl rfl Tryz.underlying41 ty_83 rfl (by simp only [List.length_append, List.length_cons, List.length_nil, maxLen]; omega) (by simp only [List.length_append, List.length_cons, List.length_nil]; omega) rfl (fun v1 => ?_)
       refine ji_in (listed' := #[true, true, true, true, true, true, true, true, true, false]) (fun _ h => Mem.drop1 (Mem.drop1 (h))) rfl ?_
       refine ji_take (listed' := #[true, true, true, true, true, true, true, true, true, true]) 9 rfl (by kernel_rfl) (by kernel_rfl) (by kernel_rfl) (by kernel_rfl) rfl (pr_assign rfl) (fun _ h => Mem.drop1 (Mem.drop1 (h))) rfl ?_
       refine j_pull5 ?_
       refine j_pull5 ?_
       refine j_pull5 ?_
       refine j_pull5 ?_
       refine j_pull5 ?_
       refine j_pull5 ?_
       show JI _ _ _ _ _ _ _ _ _
       exact ji_done ⟨v1, r1⟩ (by kernel_rfl) ⟨rfl, rfl, rfl, rfl, trivial⟩ (fun _ h => h)
  ·skip
   refine jq_in_normal (jq_then (jc_region (jo_pure rfl (pr_addN (m := i) (n := 1) rfl rfl (by omega)) ?_)))
   refine jo_pure rfl (pr_move rfl) (jo_nil (j_pull1 (j_drop (j_pull1 (j_drop (j_pull1 (j_drop (j_pull1 (j_drop (j_pull1 (j_pull1 ?_)))))))))))
   refine jq_round' ((i + 1), v1, (acc ++ [(((l.getD i ([], []))).1, (((l.getD i ([], []))).2))])) (by (try dsimp only); exact (⟨by omega, by rw [take_next (dd := ([], [])) h1, hinv.2]⟩)) (by (try dsimp only); exact (by omega)) ⟨rfl, rfl, rfl, rfl, trivial⟩ (fun _ h => h)
 ·have h1 := of_decide_eq_false h1b
  refine jc_exit ?_
  refine jq_then_exit ?_
  refine jq_then_exit ?_
  refine jq_in_hit ?_
  refine jq_then (jc_seq (jc_region (jo_pure rfl (pr_move rfl) (jo_pure rfl (pr_assign rfl) (jo_nil (jq_then (jc_ret (j_pub_row (j_pull1 (j_drop ?_))))))))))
  exact jq_ret1 rfl kw rfl (show (kw : Value) = (kw) from rfl) (fun _ h => by rw [hinv.2, List.take_of_length_le (by omega)] at h; exact h)
end Go.Proofs.YtlniaacdjllonaaGreat
