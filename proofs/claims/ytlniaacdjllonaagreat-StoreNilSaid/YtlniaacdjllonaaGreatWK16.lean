/-
 Contracts of functions of the program: each returns what a plain function says, for every input within the bounds named. Conditions: the bounds.
-/
import Derived.Test.YtlniaacdjllonaaGreatRows
import Derived.Test.YtlniaacdjllonaaGreatWK12
namespace Go.Proofs.YtlniaacdjllonaaGreat
open Go Go.Sep
set_option linter.unusedSimpArgs false
set_option linter.unusedVariables false

open Go.Plain

theorem cal_11 : Cal Tryz.prog 11 := cal_of Tryz.func11 (by kernel_rfl) rfl
theorem cal_14 : Cal Tryz.prog 14 := cal_of Tryz.func14 (by kernel_rfl) rfl
theorem cal_15 : Cal Tryz.prog 15 := cal_of Tryz.func15 (by kernel_rfl) rfl
theorem cal_18 : Cal Tryz.prog 18 := cal_of Tryz.func18 (by kernel_rfl) rfl

theorem c_made_nil    : Con Tryz.prog 31 #[.pointer none] [] (fun _ : Unit => .bool (false)) (fun _ => []) := by
 refine con_of_J (args := [.pointer none]) (n := 12) Tryz.func31 rfl (Nat.le_of_ble_eq_true rfl) rfl (fun w0 I0 m0 => ?_)
 refine jc_seq (jc_region (jo_pure rfl (pr_assign rfl) (jo_nil (jq_then (jc_seq (jc_region (jo_pure rfl (pr_move rfl) (jo_pure rfl (pr_neq_nilptr rfl rfl Tryz.underlying22) ?_))))))))
 refine jo_pure rfl (pr_move rfl) (jo_skipu (j := 2) (want := true) rfl rfl (rfl) rfl ?_)
 refine jo_skipu (j := 2) (want := true) rfl rfl (rfl) rfl ?_
 refine jo_skipu (j := 2) (want := true) rfl rfl (rfl) rfl ?_
 refine jo_skipu (j := 2) (want := true) rfl rfl (rfl) rfl ?_
 refine jo_skipu (j := 2) (want := true) rfl rfl (rfl) rfl ?_
 refine jo_pure rfl (pr_pick_f rfl (rfl) rfl) ?_
 refine jo_pure rfl (pr_assign rfl) (jo_nil (jq_then (jc_ret ?_)))
 exact jq_ret1 rfl () rfl (show (_ : Value) = (.bool (false)) from rfl) (fun _ h => h)

theorem c_has_nil  (key : Str)  : Con Tryz.prog 43 #[.pointer none, str (key)] [] (fun _ : Unit => .tuple #[.agg #[.slice none 0 0, .slice none 0 0], .bool (false)]) (fun _ => []) := by
 refine con_of_J (args := [.pointer none, str (key)]) (n := 23) Tryz.func43 rfl (Nat.le_of_ble_eq_true rfl) rfl (fun w0 I0 m0 => ?_)
 refine jc_seq (jc_region ?_)
 refine jo_alloc ty_50 [.slice none 0 0, .slice none 0 0] rfl rfl (fun b1 => ?_)
 refine jo_pure rfl (pr_assign rfl) (jo_nil (jq_then (jc_seq (jc_seq (jc_region (jo_pure rfl (pr_move rfl) ?_))))))
 refine jo_callp cal_31 (c_made_nil ) ⟨rfl, trivial⟩ rfl (trivial) (fun _ => ?_)
 refine jo_pure rfl (pr_not rfl) ?_
 refine jo_nil (jq_then (jc_true rfl (rfl) ?_))
 refine jc_seq (jc_region (jo_pure rfl (pr_build [] [.slice none 0 0, .slice none 0 0] (fun a hf => by simp) (by kernel_rfl)) ?_))
 refine jo_store rfl rfl ty_50 [.slice none 0 0, .slice none 0 0] rfl rfl rfl [.slice none 0 0, .slice none 0 0] rfl rfl ?_
 refine jo_pure rfl (pr_assign rfl) (jo_nil (jq_then (jc_ret (jq_then_ret ?_))))
 exact jq_rets (rs := [.cell 4 50, .tmp 5]) (vs := [.agg #[.slice none 0 0, .slice none 0 0], .bool (false)]) rfl () ⟨resV_box (.agg #[.slice none 0 0, .slice none 0 0]) rfl ty_50 (.head _) rfl (by decide) rfl, resV_tmp rfl, trivial⟩ rfl (show (_ : Value) = (.tuple #[.agg #[.slice none 0 0, .slice none 0 0], .bool (false)]) from rfl) (fun w h => (fun h => h) (Mem.front (As := []) h))

theorem c_Get_nil  (key : Str)  : Con Tryz.prog 18 #[.pointer none, str (key)] [] (fun rr : Value × Value => .tuple #[.agg #[rr.1, rr.2], .bool (false)]) (fun rr => [.imm (.list (.pair .str (.list .str))) rr.1 [], .row rr.2 40 tyE []]) := by
 refine con_of_J (args := [.pointer none, str (key)]) (n := 17) Tryz.func18 rfl (Nat.le_of_ble_eq_true rfl) rfl (fun w0 I0 m0 => ?_)
 refine jc_seq (jc_region ?_)
 refine jo_alloc ty_50 [.slice none 0 0, .slice none 0 0] rfl rfl (fun b1 => ?_)
 refine jo_pure rfl (pr_assign rfl) (jo_nil (jq_then (jc_seq (jc_region (jo_pure rfl (pr_move rfl) (jo_pure rfl (pr_move rfl) ?_))))))
 refine jo_callp cal_43 (c_has_nil  key) ⟨rfl, rfl, trivial⟩ rfl (trivial) (fun _ => ?_)
 refine jo_pure rfl (pr_move rfl) (jo_pure rfl (pr_extract rfl rfl) (jo_pure rfl (pr_extract rfl rfl) ?_))
 refine jo_alloc ty_50 [.slice none 0 0, .slice none 0 0] rfl rfl (fun b2 => ?_)
 refine jo_store rfl rfl ty_50 [.slice none 0 0, .slice none 0 0] rfl rfl rfl [.slice none 0 0, .slice none 0 0] rfl rfl ?_
 refine jo_pure rfl (pr_assign rfl) (jo_nil (jq_then (jc_seq (jc_region (jo_pure rfl (pr_load_box (.agg #[.slice none 0 0, .slice none 0 0]) rfl ty_50 (.head _) rfl (by decide) rfl) ?_)))))
 refine j_nil_imm (.pair .str (.list .str)) ?_
 refine j_nil_imm tyE ?_
 have con1 := c_clone_Table ([], []) (.slice none 0 0) (.slice none 0 0) (by first | exact okA_nil | exact Nat.zero_le _ | exact (fun _ h => (List.not_mem_nil h).elim)) (by first | exact okA_nil | exact Nat.zero_le _ | exact (fun _ h => (List.not_mem_nil h).elim)) (by first | exact okA_nil | exact Nat.zero_le _ | exact (fun _ h => (List.not_mem_nil h).elim))
 refine jo_callp cal_44 con1 (by exact ⟨rfl, trivial⟩) rfl (by exact ⟨⟨rfl, .tail _ (.head _)⟩, ⟨⟨rfl, .head _⟩, trivial⟩⟩) (fun ⟨r1, r2⟩ => ?_)
 clear con1
 refine jo_pure rfl (pr_move rfl) (j_pull5 ?_)
 refine jo_storeV rfl rfl ty_50 [r1, r2] (fun _ _ _ _ => rfl) rfl (fun w I m hs => by simp only [List.all_cons, List.all_nil, Bool.and_true, Bool.and_eq_true]; exact ⟨(SliceV.one (imm_slice (.tail _ (.head _)) hs)), (SliceV.one (row_slice (.tail _ (.tail _ (.head _))) hs))⟩) [r1, r2] rfl rfl ?_
 refine jo_pure rfl (pr_assign rfl) (jo_nil (jq_then (jc_ret (j_pull3 (j_drop (j_pull3 (j_drop (j_pull3 (j_drop (j_pull2 (j_pull2 ?_)))))))))))
 exact jq_rets (rs := [.cell 4 50, .tmp 5]) (vs := [.agg #[r1, r2], .bool (false)]) rfl (r1, r2) ⟨resV_box (.agg #[r1, r2]) rfl ty_50 (.tail _ (.tail _ (.head _))) rfl (by decide) rfl, resV_tmp rfl, trivial⟩ rfl (show (_ : Value) = (.tuple #[.agg #[r1, r2], .bool (false)]) from rfl) (fun w h => (fun h => h) (Mem.front (As := [.imm (.list (.pair .str (.list .str))) (r1) (([], []).1), .row (r2) 40 tyE (([], []).2)]) h))

theorem c_Keys_nil    : Con Tryz.prog 12 #[.pointer none] [] (fun _ : Unit => .slice none 0 0) (fun _ => []) := by
 refine con_of_J (args := [.pointer none]) (n := 11) Tryz.func12 rfl (Nat.le_of_ble_eq_true rfl) rfl (fun w0 I0 m0 => ?_)
 refine jc_seq (jc_region (jo_pure rfl (pr_assign rfl) (jo_nil (jq_then (jc_seq (jc_seq (jc_region (jo_pure rfl (pr_move rfl) ?_))))))))
 refine jo_callp cal_31 (c_made_nil ) ⟨rfl, trivial⟩ rfl (trivial) (fun _ => ?_)
 refine jo_pure rfl (pr_not rfl) ?_
 refine jo_nil (jq_then (jc_true rfl (rfl) ?_))
 refine jc_seq (jc_region (jo_pure rfl (pr_assign rfl) (jo_nil (jq_then (jc_ret (jq_then_ret ?_))))))
 exact jq_ret1 rfl () rfl (show (_ : Value) = (.slice none 0 0) from rfl) (fun _ h => h)

theorem c_Bytes_nil    : Con Tryz.prog 13 #[.pointer none] [] (fun _ : Unit => .int .i64 ((0 : Nat) : Int)) (fun _ => []) := by
 refine con_of_J (args := [.pointer none]) (n := 10) Tryz.func13 rfl (Nat.le_of_ble_eq_true rfl) rfl (fun w0 I0 m0 => ?_)
 refine jc_seq (jc_region (jo_pure rfl (pr_assign rfl) (jo_nil (jq_then (jc_seq (jc_seq (jc_region (jo_pure rfl (pr_move rfl) ?_))))))))
 refine jo_callp cal_31 (c_made_nil ) ⟨rfl, trivial⟩ rfl (trivial) (fun _ => ?_)
 refine jo_pure rfl (pr_not rfl) ?_
 refine jo_nil (jq_then (jc_true rfl (rfl) ?_))
 refine jc_seq (jc_region (jo_pure rfl (pr_assign rfl) (jo_nil (jq_then (jc_ret (jq_then_ret ?_))))))
 exact jq_ret1 rfl () rfl (show (_ : Value) = (.int .i64 ((0 : Nat) : Int)) from rfl) (fun _ h => h)

theorem c_Touch_nil  (key : Str)  : Con Tryz.prog 30 #[.pointer none, str (key)] [] (fun _ : Unit => .bool (false)) (fun _ => []) := by
 refine con_of_J (args := [.pointer none, str (key)]) (n := 18) Tryz.func30 rfl (Nat.le_of_ble_eq_true rfl) rfl (fun w0 I0 m0 => ?_)
 refine jc_seq (jc_region (jo_pure rfl (pr_assign rfl) (jo_nil (jq_then (jc_seq (jc_seq (jc_region (jo_pure rfl (pr_move rfl) (jo_pure rfl (pr_move rfl) ?_)))))))))
 refine jo_callp cal_43 (c_has_nil  key) ⟨rfl, rfl, trivial⟩ rfl (trivial) (fun _ => ?_)
 refine jo_pure rfl (pr_move rfl) (jo_pure rfl (pr_extract rfl rfl) (jo_pure rfl (pr_extract rfl rfl) ?_))
 refine jo_alloc ty_50 [.slice none 0 0, .slice none 0 0] rfl rfl (fun b1 => ?_)
 refine jo_store rfl rfl ty_50 [.slice none 0 0, .slice none 0 0] rfl rfl rfl [.slice none 0 0, .slice none 0 0] rfl rfl ?_
 refine jo_pure rfl (pr_assign rfl) (jo_nil (jq_then (jc_seq (jc_region (jo_pure rfl (pr_move rfl) (jo_pure rfl (pr_not rfl) (jo_nil (jq_then (jc_true rfl (rfl) ?_)))))))))
 refine jc_seq (jc_region (jo_pure rfl (pr_assign rfl) (jo_nil (jq_then (jc_ret (jq_then_ret (j_drop ?_)))))))
 exact jq_ret1 rfl () rfl (show (_ : Value) = (.bool (false)) from rfl) (fun _ h => h)

theorem c_Remove_nil  (key : Str)  : Con Tryz.prog 36 #[.pointer none, str (key)] [] (fun _ : Unit => .bool (false)) (fun _ => []) := by
 refine con_of_J (args := [.pointer none, str (key)]) (n := 19) Tryz.func36 rfl (Nat.le_of_ble_eq_true rfl) rfl (fun w0 I0 m0 => ?_)
 refine jc_seq (jc_region (jo_pure rfl (pr_assign rfl) (jo_nil (jq_then (jc_seq (jc_seq (jc_region (jo_pure rfl (pr_move rfl) (jo_pure rfl (pr_move rfl) ?_)))))))))
 refine jo_callp cal_43 (c_has_nil  key) ⟨rfl, rfl, trivial⟩ rfl (trivial) (fun _ => ?_)
 refine jo_pure rfl (pr_move rfl) (jo_pure rfl (pr_extract rfl rfl) (jo_pure rfl (pr_extract rfl rfl) ?_))
 refine jo_alloc ty_50 [.slice none 0 0, .slice none 0 0] rfl rfl (fun b1 => ?_)
 refine jo_store rfl rfl ty_50 [.slice none 0 0, .slice none 0 0] rfl rfl rfl [.slice none 0 0, .slice none 0 0] rfl rfl ?_
 refine jo_pure rfl (pr_assign rfl) (jo_nil (jq_then (jc_seq (jc_region (jo_pure rfl (pr_move rfl) (jo_pure rfl (pr_not rfl) (jo_nil (jq_then (jc_true rfl (rfl) ?_)))))))))
 refine jc_seq (jc_region (jo_pure rfl (pr_assign rfl) (jo_nil (jq_then (jc_ret (jq_then_ret (j_drop ?_)))))))
 exact jq_ret1 rfl () rfl (show (_ : Value) = (.bool (false)) from rfl) (fun _ h => h)

theorem c_Put_nil  (key : Str) (en : Ent) (env : Value) (env2 : Value) (env3 : Value) (env4 : Value) (axes : List (Axs)) (axesv : Value)  : Con Tryz.prog 21 #[.pointer none, str (key), .agg #[env, env2, env3, str (en.2.2.2.1), env4, str (en.2.2.2.2.2.1), .int .i64 (en.2.2.2.2.2.2.1), .int .i64 (en.2.2.2.2.2.2.2)], axesv] [.imm (.list (.list .str)) (env) (en.1), .imm (.list .str) (env2) (en.2.1), .imm (.list .str) (env3) (en.2.2.1), .imm (.list (.pair .str .str)) (env4) (en.2.2.2.2.1), .imm (.list (.pair .str (.list .str))) (axesv) (axes)] (fun _ : Unit => .bool (false)) (fun _ => []) := by
 refine con_of_J (args := [.pointer none, str (key), .agg #[env, env2, env3, str (en.2.2.2.1), env4, str (en.2.2.2.2.2.1), .int .i64 (en.2.2.2.2.2.2.1), .int .i64 (en.2.2.2.2.2.2.2)], axesv]) (n := 59) Tryz.func21 rfl (Nat.le_of_ble_eq_true rfl) rfl (fun w0 I0 m0 => ?_)
 refine jc_seq (jc_region ?_)
 refine jo_box rfl [env, env2, env3, str (en.2.2.2.1), env4, str (en.2.2.2.2.2.1), .int .i64 (en.2.2.2.2.2.2.1), .int .i64 (en.2.2.2.2.2.2.2)] rfl rfl (fun b1 => ?_)
 refine jo_pure rfl (pr_assign rfl) (jo_nil (jq_then (jc_seq (jc_seq (jc_draws mixed (by kernel_rfl) (jd_pure rfl (pr_move rfl) ?_))))))
 refine jd_callp cal_31 (c_made_nil ) ⟨rfl, trivial⟩ rfl (trivial) ?_
 refine jd_pure rfl (pr_not rfl) ?_
 refine jd_pure rfl (pr_move rfl) ?_
 refine jd_skipu (j := 3) (want := false) rfl rfl (rfl) rfl ?_
 refine jd_skipu (j := 3) (want := false) rfl rfl (rfl) rfl ?_
 refine jd_skipu (j := 3) (want := false) rfl rfl (rfl) rfl ?_
 refine jd_skipu (j := 3) (want := false) rfl rfl (rfl) rfl ?_
 refine jd_skipu (j := 3) (want := false) rfl rfl (rfl) rfl ?_
 refine jd_skipu (j := 3) (want := false) rfl rfl (rfl) rfl ?_
 refine jd_skipu (j := 3) (want := false) rfl rfl (rfl) rfl ?_
 refine jd_pure rfl (pr_pick_t rfl (rfl) rfl) ?_
 refine jd_pure rfl (pr_move rfl) ?_
 refine jd_skipu (j := 12) (want := false) rfl rfl (rfl) rfl ?_
 refine jd_skipu (j := 12) (want := false) rfl rfl (rfl) rfl ?_
 refine jd_skipu (j := 12) (want := false) rfl rfl (rfl) rfl ?_
 refine jd_skipu (j := 12) (want := false) rfl rfl (rfl) rfl ?_
 refine jd_skipn (j := 16) rfl rfl rfl ?_
 refine jd_skipn (j := 16) rfl rfl rfl ?_
 refine jd_skipn (j := 16) rfl rfl rfl ?_
 refine jd_skipu (j := 12) (want := false) rfl rfl (rfl) rfl ?_
 refine jd_pure rfl (pr_pick_t rfl (rfl) rfl) ?_
 refine jd_nil ?_
 refine jq_then (jc_true rfl (rfl) ?_)
 refine jc_seq (jc_region (jo_pure rfl (pr_assign rfl) (jo_nil (jq_then (jc_ret (jq_then_ret (j_drop (j_drop (j_drop (j_drop (j_drop (j_drop ?_))))))))))))
 exact jq_ret1 rfl () rfl (show (_ : Value) = (.bool (false)) from rfl) (fun _ h => h)

theorem c_Replace_nil  (key : Str) (iz : Int) (en : Ent) (env : Value) (env2 : Value) (env3 : Value) (env4 : Value)  : Con Tryz.prog 35 #[.pointer none, str (key), .int .i64 (iz), .agg #[env, env2, env3, str (en.2.2.2.1), env4, str (en.2.2.2.2.2.1), .int .i64 (en.2.2.2.2.2.2.1), .int .i64 (en.2.2.2.2.2.2.2)]] [.imm (.list (.list .str)) (env) (en.1), .imm (.list .str) (env2) (en.2.1), .imm (.list .str) (env3) (en.2.2.1), .imm (.list (.pair .str .str)) (env4) (en.2.2.2.2.1)] (fun _ : Unit => .bool (false)) (fun _ => []) := by
 refine con_of_J (args := [.pointer none, str (key), .int .i64 (iz), .agg #[env, env2, env3, str (en.2.2.2.1), env4, str (en.2.2.2.2.2.1), .int .i64 (en.2.2.2.2.2.2.1), .int .i64 (en.2.2.2.2.2.2.2)]]) (n := 77) Tryz.func35 rfl (Nat.le_of_ble_eq_true rfl) rfl (fun w0 I0 m0 => ?_)
 refine jc_seq (jc_region ?_)
 refine jo_box rfl [env, env2, env3, str (en.2.2.2.1), env4, str (en.2.2.2.2.2.1), .int .i64 (en.2.2.2.2.2.2.1), .int .i64 (en.2.2.2.2.2.2.2)] rfl rfl (fun b1 => ?_)
 refine jo_pure rfl (pr_assign rfl) (jo_nil (jq_then (jc_seq (jc_region (jo_pure rfl (pr_move rfl) (jo_pure rfl (pr_move rfl) ?_))))))
 refine jo_callp cal_43 (c_has_nil  key) ⟨rfl, rfl, trivial⟩ rfl (trivial) (fun _ => ?_)
 refine jo_pure rfl (pr_move rfl) (jo_pure rfl (pr_extract rfl rfl) (jo_pure rfl (pr_extract rfl rfl) ?_))
 refine jo_alloc ty_50 [.slice none 0 0, .slice none 0 0] rfl rfl (fun b2 => ?_)
 refine jo_store rfl rfl ty_50 [.slice none 0 0, .slice none 0 0] rfl rfl rfl [.slice none 0 0, .slice none 0 0] rfl rfl ?_
 refine jo_pure rfl (pr_assign rfl) (jo_nil (jq_then (jc_seq (jc_seq (jc_region (jo_pure rfl (pr_move rfl) (jo_pure rfl (pr_not rfl) (jo_pure rfl (pr_move rfl) (jo_skipu (j := 2) (want := false) rfl rfl (rfl) rfl ?_)))))))))
 refine jo_skipu (j := 2) (want := false) rfl rfl (rfl) rfl ?_
 refine jo_pure rfl (pr_pick_t rfl (rfl) rfl) ?_
 refine jo_pure rfl (pr_move rfl) (jo_skipu (j := 6) (want := false) rfl rfl (rfl) rfl ?_)
 refine jo_skipu (j := 6) (want := false) rfl rfl (rfl) rfl ?_
 refine jo_skipu (j := 6) (want := false) rfl rfl (rfl) rfl ?_
 refine jo_skipu (j := 6) (want := false) rfl rfl (rfl) rfl ?_
 refine jo_skipu (j := 6) (want := false) rfl rfl (rfl) rfl ?_
 refine jo_pure rfl (pr_pick_t rfl (rfl) rfl) ?_
 refine jo_nil (jq_then (jc_true rfl (rfl) ?_))
 refine jc_seq (jc_region (jo_pure rfl (pr_assign rfl) (jo_nil (jq_then (jc_ret (jq_then_ret (j_drop (j_drop (j_drop (j_drop (j_drop (j_drop ?_))))))))))))
 exact jq_ret1 rfl () rfl (show (_ : Value) = (.bool (false)) from rfl) (fun _ h => h)

theorem c_do_nil  (q : Int × Int × Int × Int × Ent × (List (Axs))) (qv : Value) (qv2 : Value) (qv3 : Value) (qv4 : Value) (qv5 : Value) (hko : keepO q = true) : Con Tryz.prog 15 #[.agg #[.int .i64 (q.1), .int .i64 (q.2.1), .int .i64 (q.2.2.1), .int .i64 (q.2.2.2.1), qv, qv2, qv3, str (q.2.2.2.2.1.2.2.2.1), qv4, str (q.2.2.2.2.1.2.2.2.2.2.1), .int .i64 (q.2.2.2.2.1.2.2.2.2.2.2.1), .int .i64 (q.2.2.2.2.1.2.2.2.2.2.2.2), qv5], .pointer none] [.imm (.list (.list .str)) (qv) (q.2.2.2.2.1.1), .imm (.list .str) (qv2) (q.2.2.2.2.1.2.1), .imm (.list .str) (qv3) (q.2.2.2.2.1.2.2.1), .imm (.list (.pair .str .str)) (qv4) (q.2.2.2.2.1.2.2.2.2.1), .imm (.list (.pair .str (.list .str))) (qv5) (q.2.2.2.2.2)] (fun _ : Unit => .bool (false)) (fun _ => []) := by
 refine con_of_J (args := [.agg #[.int .i64 (q.1), .int .i64 (q.2.1), .int .i64 (q.2.2.1), .int .i64 (q.2.2.2.1), qv, qv2, qv3, str (q.2.2.2.2.1.2.2.2.1), qv4, str (q.2.2.2.2.1.2.2.2.2.2.1), .int .i64 (q.2.2.2.2.1.2.2.2.2.2.2.1), .int .i64 (q.2.2.2.2.1.2.2.2.2.2.2.2), qv5], .pointer none]) (n := 42) Tryz.func15 rfl (Nat.le_of_ble_eq_true rfl) rfl (fun w0 I0 m0 => ?_)
 have hka : keepE q.2.2.2.2.1 = true ∧ keepA q.2.2.2.2.2 = true := by have h9 := hko; unfold keepO at h9; rw [Bool.and_eq_true] at h9; exact h9
 refine jc_seq (jc_region ?_)
 refine jo_box rfl [.int .i64 (q.1), .int .i64 (q.2.1), .int .i64 (q.2.2.1), .int .i64 (q.2.2.2.1), qv, qv2, qv3, str (q.2.2.2.2.1.2.2.2.1), qv4, str (q.2.2.2.2.1.2.2.2.2.2.1), .int .i64 (q.2.2.2.2.1.2.2.2.2.2.2.1), .int .i64 (q.2.2.2.2.1.2.2.2.2.2.2.2), qv5] rfl rfl (fun b1 => ?_)
 refine jo_pure rfl (pr_assign rfl) (jo_nil (jq_then (jc_seq (jc_seq (jc_region (jo_pure rfl (pr_fieldAddr 0 rfl Tryz.underlying43 rfl ty_3 rfl rfl) ?_))))))
 refine jo_pure rfl (pr_load_box (.int .i64 (q.1)) rfl ty_3 (.head _) rfl (by decide) rfl) ?_
 refine jo_pure rfl (pr_and3 (m := q.1) rfl rfl) ?_
 refine jo_nil (jq_then (jc_block (jc_seq (jc_region (jo_pure rfl (pr_eqlN (m := (q.1 % 4).toNat) (n := 0) rfl rfl) ?_)))))
 refine jo_pure rfl (pr_assign rfl) (jo_nil (jq_then ?_))
 refine jc_cond rfl (fun h1b => ?_) (fun h1b => ?_)
 ·have h1 := of_decide_eq_true h1b
  refine jc_seq ?_
  refine jc_held (fun (iq : Value × Value × Value × Value) => [(4, .bool (false))]) (fun iq => [.imm (.list (.list .str)) (iq.1) ((ofE q).1), .imm (.list .str) (iq.2.1) ((ofE q).2.1), .imm (.list .str) (iq.2.2.1) ((ofE q).2.2.1), .imm (.list (.pair .str .str)) (iq.2.2.2) ((ofE q).2.2.2.2.1), .box b1 43 [.int .i64 (q.1), .int .i64 (q.2.1), .int .i64 (q.2.2.1), .int .i64 (q.2.2.2.1), qv, qv2, qv3, str (q.2.2.2.2.1.2.2.2.1), qv4, str (q.2.2.2.2.1.2.2.2.2.2.1), .int .i64 (q.2.2.2.2.1.2.2.2.2.2.2.1), .int .i64 (q.2.2.2.2.1.2.2.2.2.2.2.2), qv5], .imm (.list (.list .str)) (qv) (q.2.2.2.2.1.1), .imm (.list .str) (qv2) (q.2.2.2.2.1.2.1), .imm (.list .str) (qv3) (q.2.2.2.2.1.2.2.1), .imm (.list (.pair .str .str)) (qv4) (q.2.2.2.2.1.2.2.2.2.1), .imm (.list (.pair .str (.list .str))) (qv5) (q.2.2.2.2.2)]) [.box b1 43 [.int .i64 (q.1), .int .i64 (q.2.1), .int .i64 (q.2.2.1), .int .i64 (q.2.2.2.1), qv, qv2, qv3, str (q.2.2.2.2.1.2.2.2.1), qv4, str (q.2.2.2.2.1.2.2.2.2.2.1), .int .i64 (q.2.2.2.2.1.2.2.2.2.2.2.1), .int .i64 (q.2.2.2.2.1.2.2.2.2.2.2.2), qv5], .imm (.list (.list .str)) (qv) (q.2.2.2.2.1.1), .imm (.list .str) (qv2) (q.2.2.2.2.1.2.1), .imm (.list .str) (qv3) (q.2.2.2.2.1.2.2.1), .imm (.list (.pair .str .str)) (qv4) (q.2.2.2.2.1.2.2.2.2.1), .imm (.list (.pair .str (.list .str))) (qv5) (q.2.2.2.2.2)] mixed (fun lst hlst => ?_) (fun ⟨r1, r2, r3, r4⟩ => ?_)
  ·subst hlst
   refine jh_take (listed' := #[true, false, false, false, false, false, false, false, false, false]) 0 rfl (by kernel_rfl) (by kernel_rfl) (by kernel_rfl) rfl (pr_move rfl) (fun _ h => h) rfl ?_
   refine jh_take (listed' := #[true, true, false, false, false, false, false, false, false, false]) 1 rfl (by kernel_rfl) (by kernel_rfl) (by kernel_rfl) rfl (pr_fieldAddr 1 rfl Tryz.underlying43 rfl ty_3 rfl rfl) (fun _ h => h) rfl ?_
   refine jh_take (listed' := #[true, true, true, false, false, false, false, false, false, false]) 2 rfl (by kernel_rfl) (by kernel_rfl) (by kernel_rfl) rfl (pr_load_box (.int .i64 (q.2.1)) rfl ty_3 (.head _) rfl (by decide) rfl) (fun _ h => h) rfl ?_
   refine jh_take (listed' := #[true, true, true, false, true, false, false, false, false, false]) 4 rfl (by kernel_rfl) (by kernel_rfl) (by kernel_rfl) rfl (pr_load_box (.agg #[.int .i64 (q.1), .int .i64 (q.2.1), .int .i64 (q.2.2.1), .int .i64 (q.2.2.2.1), qv, qv2, qv3, str (q.2.2.2.2.1.2.2.2.1), qv4, str (q.2.2.2.2.1.2.2.2.2.2.1), .int .i64 (q.2.2.2.2.1.2.2.2.2.2.2.1), .int .i64 (q.2.2.2.2.1.2.2.2.2.2.2.2), qv5]) rfl ty_43 (.head _) rfl (by decide) rfl) (fun _ h => h) rfl ?_
   refine jh_take (listed' := #[true, true, true, false, true, false, true, false, false, false]) 6 rfl (by kernel_rfl) (by kernel_rfl) (by kernel_rfl) rfl (pr_fieldAddr 12 rfl Tryz.underlying43 rfl ty_41 rfl rfl) (fun _ h => h) rfl ?_
   refine jh_take (listed' := #[true, true, true, false, true, false, true, true, false, false]) 7 rfl (by kernel_rfl) (by kernel_rfl) (by kernel_rfl) rfl (pr_load_box (qv5) rfl ty_41 (.head _) rfl (by decide) rfl) (fun _ h => h) rfl ?_
   refine jh_all [3] (by kernel_rfl) (by simp) (fun i hi => ?_)
   simp only [List.mem_cons, List.not_mem_nil, or_false] at hi
   subst hi
   ·refine jh_op rfl ?_
    refine jo_callp cal_22 (c_law28_name q.2.1) ⟨rfl, trivial⟩ rfl (trivial) (fun _ => ?_)
    refine jh_in (listed' := #[true, true, true, true, true, false, true, true, false, false]) (fun _ h => h) rfl ?_
    refine jh_all [5] (by kernel_rfl) (by simp) (fun i hi => ?_)
    simp only [List.mem_cons, List.not_mem_nil, or_false] at hi
    subst hi
    ·refine jh_op rfl ?_
     have con1 := c_law28_Op_of q qv qv2 qv3 qv4 qv5 (by exact hka.1)
     refine jo_callp cal_20 con1 (by exact ⟨rfl, trivial⟩) rfl (by exact ⟨⟨rfl, .tail _ (.head _)⟩, ⟨⟨rfl, .tail _ (.tail _ (.head _))⟩, ⟨⟨rfl, .tail _ (.tail _ (.tail _ (.head _)))⟩, ⟨⟨rfl, .tail _ (.tail _ (.tail _ (.tail _ (.head _))))⟩, ⟨⟨rfl, .tail _ (.tail _ (.tail _ (.tail _ (.tail _ (.head _)))))⟩, trivial⟩⟩⟩⟩⟩) (fun ⟨r1, r2, r3, r4⟩ => ?_)
     clear con1
     refine jh_in (listed' := #[true, true, true, true, true, true, true, true, false, false]) (fun _ h => Mem.drop1 (Mem.drop1 (Mem.drop1 (Mem.drop1 (h))))) rfl ?_
     refine jh_all [8] (by kernel_rfl) (by simp) (fun i hi => ?_)
     simp only [List.mem_cons, List.not_mem_nil, or_false] at hi
     subst hi
     ·refine jh_op rfl ?_
      have con2 := c_Put_nil  (nameF q.2.1) (ofE q) r1 r2 r3 r4 q.2.2.2.2.2 qv5
      refine jo_callp cal_21 con2 (by exact ⟨rfl, rfl, rfl, rfl, trivial⟩) rfl (by exact ⟨⟨rfl, .head _⟩, ⟨⟨rfl, .tail _ (.head _)⟩, ⟨⟨rfl, .tail _ (.tail _ (.head _))⟩, ⟨⟨rfl, .tail _ (.tail _ (.tail _ (.head _)))⟩, ⟨⟨rfl, .tail _ (.tail _ (.tail _ (.tail _ (.tail _ (.tail _ (.tail _ (.tail _ (.tail _ (.head _)))))))))⟩, trivial⟩⟩⟩⟩⟩) (fun _ => ?_)
      clear con2
      refine jh_in (listed' := #[true, true, true, true, true, true, true, true, true, false]) (fun _ h => Mem.drop1 (Mem.drop1 (Mem.drop1 (Mem.drop1 (h))))) rfl ?_
      refine jh_take (listed' := #[true, true, true, true, true, true, true, true, true, true]) 9 rfl (by kernel_rfl) (by kernel_rfl) (by kernel_rfl) rfl (pr_assign rfl) (fun _ h => Mem.drop1 (Mem.drop1 (Mem.drop1 (Mem.drop1 (h))))) rfl ?_
      refine j_pull9 ?_
      refine j_pull9 ?_
      refine j_pull9 ?_
      refine j_pull9 ?_
      refine j_pull9 ?_
      refine j_pull9 ?_
      refine j_pull9 ?_
      refine j_pull9 ?_
      refine j_pull9 ?_
      refine j_pull9 ?_
      show JH _ _ _ _ _ _ _ _
      exact jh_done ⟨r1, r2, r3, r4⟩ (by kernel_rfl) ⟨rfl, trivial⟩ (fun _ h => h)
  ·skip
   refine jq_then (jc_ret (jq_in_ret ?_))
   refine jq_then_ret (j_drop (j_drop (j_drop (j_drop (j_drop (j_drop (j_drop (j_drop (j_drop (j_drop ?_))))))))))
   exact jq_ret1 rfl () rfl (show (_ : Value) = (.bool (false)) from rfl) (fun _ h => h)
 ·have h1 := of_decide_eq_false h1b
  refine jc_seq (jc_region (jo_pure rfl (pr_eqlN (m := (q.1 % 4).toNat) (n := 1) rfl rfl) ?_))
  refine jo_pure rfl (pr_assign rfl) (jo_nil (jq_then ?_))
  refine jc_cond rfl (fun h2b => ?_) (fun h2b => ?_)
  ·have h2 := of_decide_eq_true h2b
   refine jc_seq (jc_region (jo_pure rfl (pr_move rfl) (jo_pure rfl (pr_fieldAddr 1 rfl Tryz.underlying43 rfl ty_3 rfl rfl) ?_)))
   refine jo_pure rfl (pr_load_box (.int .i64 (q.2.1)) rfl ty_3 (.head _) rfl (by decide) rfl) ?_
   refine jo_callp cal_22 (c_law28_name q.2.1) ⟨rfl, trivial⟩ rfl (trivial) (fun _ => ?_)
   refine jo_callp cal_30 (c_Touch_nil  (nameF q.2.1)) ⟨rfl, rfl, trivial⟩ rfl (trivial) (fun _ => ?_)
   refine jo_pure rfl (pr_assign rfl) (jo_nil (jq_then (jc_ret (jq_in_ret ?_))))
   refine jq_then_ret (j_drop (j_drop (j_drop (j_drop (j_drop (j_drop ?_))))))
   exact jq_ret1 rfl () rfl (show (_ : Value) = (.bool (false)) from rfl) (fun _ h => h)
  ·have h2 := of_decide_eq_false h2b
   refine jc_seq (jc_region (jo_pure rfl (pr_eqlN (m := (q.1 % 4).toNat) (n := 2) rfl rfl) ?_))
   refine jo_pure rfl (pr_assign rfl) (jo_nil (jq_then ?_))
   refine jc_cond rfl (fun h3b => ?_) (fun h3b => ?_)
   ·have h3 := of_decide_eq_true h3b
    refine jc_seq ?_
    refine jc_held (fun (iq : Value × Value × Value × Value) => [(4, .bool (false))]) (fun iq => [.imm (.list (.list .str)) (iq.1) ((ofE q).1), .imm (.list .str) (iq.2.1) ((ofE q).2.1), .imm (.list .str) (iq.2.2.1) ((ofE q).2.2.1), .imm (.list (.pair .str .str)) (iq.2.2.2) ((ofE q).2.2.2.2.1), .box b1 43 [.int .i64 (q.1), .int .i64 (q.2.1), .int .i64 (q.2.2.1), .int .i64 (q.2.2.2.1), qv, qv2, qv3, str (q.2.2.2.2.1.2.2.2.1), qv4, str (q.2.2.2.2.1.2.2.2.2.2.1), .int .i64 (q.2.2.2.2.1.2.2.2.2.2.2.1), .int .i64 (q.2.2.2.2.1.2.2.2.2.2.2.2), qv5], .imm (.list (.list .str)) (qv) (q.2.2.2.2.1.1), .imm (.list .str) (qv2) (q.2.2.2.2.1.2.1), .imm (.list .str) (qv3) (q.2.2.2.2.1.2.2.1), .imm (.list (.pair .str .str)) (qv4) (q.2.2.2.2.1.2.2.2.2.1), .imm (.list (.pair .str (.list .str))) (qv5) (q.2.2.2.2.2)]) [.box b1 43 [.int .i64 (q.1), .int .i64 (q.2.1), .int .i64 (q.2.2.1), .int .i64 (q.2.2.2.1), qv, qv2, qv3, str (q.2.2.2.2.1.2.2.2.1), qv4, str (q.2.2.2.2.1.2.2.2.2.2.1), .int .i64 (q.2.2.2.2.1.2.2.2.2.2.2.1), .int .i64 (q.2.2.2.2.1.2.2.2.2.2.2.2), qv5], .imm (.list (.list .str)) (qv) (q.2.2.2.2.1.1), .imm (.list .str) (qv2) (q.2.2.2.2.1.2.1), .imm (.list .str) (qv3) (q.2.2.2.2.1.2.2.1), .imm (.list (.pair .str .str)) (qv4) (q.2.2.2.2.1.2.2.2.2.1), .imm (.list (.pair .str (.list .str))) (qv5) (q.2.2.2.2.2)] mixed (fun lst hlst => ?_) (fun ⟨r5, r6, r7, r8⟩ => ?_)
    ·subst hlst
     refine jh_take (listed' := #[true, false, false, false, false, false, false, false, false, false]) 0 rfl (by kernel_rfl) (by kernel_rfl) (by kernel_rfl) rfl (pr_move rfl) (fun _ h => h) rfl ?_
     refine jh_take (listed' := #[true, true, false, false, false, false, false, false, false, false]) 1 rfl (by kernel_rfl) (by kernel_rfl) (by kernel_rfl) rfl (pr_fieldAddr 1 rfl Tryz.underlying43 rfl ty_3 rfl rfl) (fun _ h => h) rfl ?_
     refine jh_take (listed' := #[true, true, true, false, false, false, false, false, false, false]) 2 rfl (by kernel_rfl) (by kernel_rfl) (by kernel_rfl) rfl (pr_load_box (.int .i64 (q.2.1)) rfl ty_3 (.head _) rfl (by decide) rfl) (fun _ h => h) rfl ?_
     refine jh_take (listed' := #[true, true, true, false, true, false, false, false, false, false]) 4 rfl (by kernel_rfl) (by kernel_rfl) (by kernel_rfl) rfl (pr_fieldAddr 2 rfl Tryz.underlying43 rfl ty_3 rfl rfl) (fun _ h => h) rfl ?_
     refine jh_take (listed' := #[true, true, true, false, true, true, false, false, false, false]) 5 rfl (by kernel_rfl) (by kernel_rfl) (by kernel_rfl) rfl (pr_load_box (.int .i64 (q.2.2.1)) rfl ty_3 (.head _) rfl (by decide) rfl) (fun _ h => h) rfl ?_
     refine jh_take (listed' := #[true, true, true, false, true, true, true, false, false, false]) 6 rfl (by kernel_rfl) (by kernel_rfl) (by kernel_rfl) rfl (pr_load_box (.agg #[.int .i64 (q.1), .int .i64 (q.2.1), .int .i64 (q.2.2.1), .int .i64 (q.2.2.2.1), qv, qv2, qv3, str (q.2.2.2.2.1.2.2.2.1), qv4, str (q.2.2.2.2.1.2.2.2.2.2.1), .int .i64 (q.2.2.2.2.1.2.2.2.2.2.2.1), .int .i64 (q.2.2.2.2.1.2.2.2.2.2.2.2), qv5]) rfl ty_43 (.head _) rfl (by decide) rfl) (fun _ h => h) rfl ?_
     refine jh_all [3] (by kernel_rfl) (by simp) (fun i hi => ?_)
     simp only [List.mem_cons, List.not_mem_nil, or_false] at hi
     subst hi
     ·refine jh_op rfl ?_
      refine jo_callp cal_22 (c_law28_name q.2.1) ⟨rfl, trivial⟩ rfl (trivial) (fun _ => ?_)
      refine jh_in (listed' := #[true, true, true, true, true, true, true, false, false, false]) (fun _ h => h) rfl ?_
      refine jh_all [7] (by kernel_rfl) (by simp) (fun i hi => ?_)
      simp only [List.mem_cons, List.not_mem_nil, or_false] at hi
      subst hi
      ·refine jh_op rfl ?_
       have con3 := c_law28_Op_of q qv qv2 qv3 qv4 qv5 (by exact hka.1)
       refine jo_callp cal_20 con3 (by exact ⟨rfl, trivial⟩) rfl (by exact ⟨⟨rfl, .tail _ (.head _)⟩, ⟨⟨rfl, .tail _ (.tail _ (.head _))⟩, ⟨⟨rfl, .tail _ (.tail _ (.tail _ (.head _)))⟩, ⟨⟨rfl, .tail _ (.tail _ (.tail _ (.tail _ (.head _))))⟩, ⟨⟨rfl, .tail _ (.tail _ (.tail _ (.tail _ (.tail _ (.head _)))))⟩, trivial⟩⟩⟩⟩⟩) (fun ⟨r5, r6, r7, r8⟩ => ?_)
       clear con3
       refine jh_in (listed' := #[true, true, true, true, true, true, true, true, false, false]) (fun _ h => Mem.drop1 (Mem.drop1 (Mem.drop1 (Mem.drop1 (h))))) rfl ?_
       refine jh_all [8] (by kernel_rfl) (by simp) (fun i hi => ?_)
       simp only [List.mem_cons, List.not_mem_nil, or_false] at hi
       subst hi
       ·refine jh_op rfl ?_
        have con4 := c_Replace_nil  (nameF q.2.1) q.2.2.1 (ofE q) r5 r6 r7 r8
        refine jo_callp cal_35 con4 (by exact ⟨rfl, rfl, rfl, rfl, trivial⟩) rfl (by exact ⟨⟨rfl, .head _⟩, ⟨⟨rfl, .tail _ (.head _)⟩, ⟨⟨rfl, .tail _ (.tail _ (.head _))⟩, ⟨⟨rfl, .tail _ (.tail _ (.tail _ (.head _)))⟩, trivial⟩⟩⟩⟩) (fun _ => ?_)
        clear con4
        refine jh_in (listed' := #[true, true, true, true, true, true, true, true, true, false]) (fun _ h => Mem.drop1 (Mem.drop1 (Mem.drop1 (Mem.drop1 (h))))) rfl ?_
        refine jh_take (listed' := #[true, true, true, true, true, true, true, true, true, true]) 9 rfl (by kernel_rfl) (by kernel_rfl) (by kernel_rfl) rfl (pr_assign rfl) (fun _ h => Mem.drop1 (Mem.drop1 (Mem.drop1 (Mem.drop1 (h))))) rfl ?_
        refine j_pull9 ?_
        refine j_pull9 ?_
        refine j_pull9 ?_
        refine j_pull9 ?_
        refine j_pull9 ?_
        refine j_pull9 ?_
        refine j_pull9 ?_
        refine j_pull9 ?_
        refine j_pull9 ?_
        refine j_pull9 ?_
        show JH _ _ _ _ _ _ _ _
        exact jh_done ⟨r5, r6, r7, r8⟩ (by kernel_rfl) ⟨rfl, trivial⟩ (fun _ h => h)
    ·skip
     refine jq_then (jc_ret (jq_in_ret ?_))
     refine jq_then_ret (j_drop (j_drop (j_drop (j_drop (j_drop (j_drop (j_drop (j_drop (j_drop (j_drop ?_))))))))))
     exact jq_ret1 rfl () rfl (show (_ : Value) = (.bool (false)) from rfl) (fun _ h => h)
   ·have h3 := of_decide_eq_false h3b
    refine jc_skip (jq_in_normal (jq_then (jc_seq (jc_region (jo_pure rfl (pr_move rfl) (jo_pure rfl (pr_fieldAddr 1 rfl Tryz.underlying43 rfl ty_3 rfl rfl) ?_))))))
    refine jo_pure rfl (pr_load_box (.int .i64 (q.2.1)) rfl ty_3 (.head _) rfl (by decide) rfl) ?_
    refine jo_callp cal_22 (c_law28_name q.2.1) ⟨rfl, trivial⟩ rfl (trivial) (fun _ => ?_)
    refine jo_callp cal_36 (c_Remove_nil  (nameF q.2.1)) ⟨rfl, rfl, trivial⟩ rfl (trivial) (fun _ => ?_)
    refine jo_pure rfl (pr_assign rfl) (jo_nil (jq_then (jc_ret (j_drop (j_drop (j_drop (j_drop (j_drop (j_drop ?_)))))))))
    exact jq_ret1 rfl () rfl (show (_ : Value) = (.bool (false)) from rfl) (fun _ h => h)

theorem c_made_zero (b : Nat)   : Con Tryz.prog 31 #[.pointer (some ⟨b, 0, none⟩)] [.ibox b 68 [.int .i64 ((0 : Nat) : Int), .int .i64 ((0 : Nat) : Int), .int .i64 ((0 : Nat) : Int), .int .i64 ((0 : Nat) : Int), .slice none 0 0, .map none]] (fun _ : Unit => .bool (false)) (fun _ => []) := by
 refine con_of_J (args := [.pointer (some ⟨b, 0, none⟩)]) (n := 12) Tryz.func31 rfl (Nat.le_of_ble_eq_true rfl) rfl (fun w0 I0 m0 => ?_)
 refine jc_seq (jc_region (jo_pure rfl (pr_assign rfl) (jo_nil (jq_then (jc_seq (jc_region (jo_pure rfl (pr_move rfl) (jo_pure rfl (pr_neq_ptrnil rfl rfl Tryz.underlying22) ?_))))))))
 refine jo_pure rfl (pr_move rfl) (jo_run (j := 2) (want := true) rfl rfl (rfl) ?_)
 refine jo_pure rfl (pr_move rfl) (jo_run (j := 2) (want := true) rfl rfl (rfl) ?_)
 refine jo_pure rfl (pr_nilCheck rfl) ?_
 refine jo_run (j := 2) (want := true) rfl rfl (rfl) ?_
 refine jo_pure rfl (pr_fieldAddr 5 rfl Tryz.underlying68 rfl ty_66 rfl rfl) ?_
 refine jo_run (j := 2) (want := true) rfl rfl (rfl) ?_
 refine jo_pure rfl (pr_load_ibox (.map none) rfl ty_66 (.head _) rfl (by decide) rfl) ?_
 refine jo_run (j := 2) (want := true) rfl rfl (rfl) ?_
 refine jo_pure rfl (pr_neq_nilmap rfl rfl Tryz.underlying66) ?_
 refine jo_pure rfl (pr_pick_t rfl (rfl) rfl) ?_
 refine jo_pure rfl (pr_assign rfl) (jo_nil (jq_then (jc_ret (j_drop ?_))))
 exact jq_ret1 rfl () rfl (show (_ : Value) = (.bool (false)) from rfl) (fun _ h => h)

theorem c_has_zero (b : Nat) (key : Str)  : Con Tryz.prog 43 #[.pointer (some ⟨b, 0, none⟩), str (key)] [.ibox b 68 [.int .i64 ((0 : Nat) : Int), .int .i64 ((0 : Nat) : Int), .int .i64 ((0 : Nat) : Int), .int .i64 ((0 : Nat) : Int), .slice none 0 0, .map none]] (fun _ : Unit => .tuple #[.agg #[.slice none 0 0, .slice none 0 0], .bool (false)]) (fun _ => []) := by
 refine con_of_J (args := [.pointer (some ⟨b, 0, none⟩), str (key)]) (n := 23) Tryz.func43 rfl (Nat.le_of_ble_eq_true rfl) rfl (fun w0 I0 m0 => ?_)
 refine jc_seq (jc_region ?_)
 refine jo_alloc ty_50 [.slice none 0 0, .slice none 0 0] rfl rfl (fun b1 => ?_)
 refine jo_pure rfl (pr_assign rfl) (jo_nil (jq_then (jc_seq (jc_seq (jc_region (jo_pure rfl (pr_move rfl) ?_))))))
 refine jo_callp cal_31 (c_made_zero b) ⟨rfl, trivial⟩ rfl (⟨⟨rfl, .tail _ (.head _)⟩, trivial⟩) (fun _ => ?_)
 refine jo_pure rfl (pr_not rfl) ?_
 refine jo_nil (jq_then (jc_true rfl (rfl) ?_))
 refine jc_seq (jc_region (jo_pure rfl (pr_build [] [.slice none 0 0, .slice none 0 0] (fun a hf => by simp) (by kernel_rfl)) ?_))
 refine jo_store rfl rfl ty_50 [.slice none 0 0, .slice none 0 0] rfl rfl rfl [.slice none 0 0, .slice none 0 0] rfl rfl ?_
 refine jo_pure rfl (pr_assign rfl) (jo_nil (jq_then (jc_ret (jq_then_ret (j_pull1 (j_drop ?_))))))
 exact jq_rets (rs := [.cell 4 50, .tmp 5]) (vs := [.agg #[.slice none 0 0, .slice none 0 0], .bool (false)]) rfl () ⟨resV_box (.agg #[.slice none 0 0, .slice none 0 0]) rfl ty_50 (.head _) rfl (by decide) rfl, resV_tmp rfl, trivial⟩ rfl (show (_ : Value) = (.tuple #[.agg #[.slice none 0 0, .slice none 0 0], .bool (false)]) from rfl) (fun w h => (fun h => h) (Mem.front (As := []) h))

theorem c_Get_zero (b : Nat) (key : Str)  : Con Tryz.prog 18 #[.pointer (some ⟨b, 0, none⟩), str (key)] [.ibox b 68 [.int .i64 ((0 : Nat) : Int), .int .i64 ((0 : Nat) : Int), .int .i64 ((0 : Nat) : Int), .int .i64 ((0 : Nat) : Int), .slice none 0 0, .map none]] (fun rr : Value × Value => .tuple #[.agg #[rr.1, rr.2], .bool (false)]) (fun rr => [.imm (.list (.pair .str (.list .str))) rr.1 [], .row rr.2 40 tyE []]) := by
 refine con_of_J (args := [.pointer (some ⟨b, 0, none⟩), str (key)]) (n := 17) Tryz.func18 rfl (Nat.le_of_ble_eq_true rfl) rfl (fun w0 I0 m0 => ?_)
 refine jc_seq (jc_region ?_)
 refine jo_alloc ty_50 [.slice none 0 0, .slice none 0 0] rfl rfl (fun b1 => ?_)
 refine jo_pure rfl (pr_assign rfl) (jo_nil (jq_then (jc_seq (jc_region (jo_pure rfl (pr_move rfl) (jo_pure rfl (pr_move rfl) ?_))))))
 refine jo_callp cal_43 (c_has_zero b key) ⟨rfl, rfl, trivial⟩ rfl (⟨⟨rfl, .tail _ (.head _)⟩, trivial⟩) (fun _ => ?_)
 refine jo_pure rfl (pr_move rfl) (jo_pure rfl (pr_extract rfl rfl) (jo_pure rfl (pr_extract rfl rfl) ?_))
 refine jo_alloc ty_50 [.slice none 0 0, .slice none 0 0] rfl rfl (fun b2 => ?_)
 refine jo_store rfl rfl ty_50 [.slice none 0 0, .slice none 0 0] rfl rfl rfl [.slice none 0 0, .slice none 0 0] rfl rfl ?_
 refine jo_pure rfl (pr_assign rfl) (jo_nil (jq_then (jc_seq (jc_region (jo_pure rfl (pr_load_box (.agg #[.slice none 0 0, .slice none 0 0]) rfl ty_50 (.head _) rfl (by decide) rfl) ?_)))))
 refine j_nil_imm (.pair .str (.list .str)) ?_
 refine j_nil_imm tyE ?_
 have con1 := c_clone_Table ([], []) (.slice none 0 0) (.slice none 0 0) (by first | exact okA_nil | exact Nat.zero_le _ | exact (fun _ h => (List.not_mem_nil h).elim)) (by first | exact okA_nil | exact Nat.zero_le _ | exact (fun _ h => (List.not_mem_nil h).elim)) (by first | exact okA_nil | exact Nat.zero_le _ | exact (fun _ h => (List.not_mem_nil h).elim))
 refine jo_callp cal_44 con1 (by exact ⟨rfl, trivial⟩) rfl (by exact ⟨⟨rfl, .tail _ (.head _)⟩, ⟨⟨rfl, .head _⟩, trivial⟩⟩) (fun ⟨r1, r2⟩ => ?_)
 clear con1
 refine jo_pure rfl (pr_move rfl) (j_pull5 ?_)
 refine jo_storeV rfl rfl ty_50 [r1, r2] (fun _ _ _ _ => rfl) rfl (fun w I m hs => by simp only [List.all_cons, List.all_nil, Bool.and_true, Bool.and_eq_true]; exact ⟨(SliceV.one (imm_slice (.tail _ (.head _)) hs)), (SliceV.one (row_slice (.tail _ (.tail _ (.head _))) hs))⟩) [r1, r2] rfl rfl ?_
 refine jo_pure rfl (pr_assign rfl) (jo_nil (jq_then (jc_ret (j_pull3 (j_drop (j_pull3 (j_drop (j_pull3 (j_drop (j_pull3 (j_drop (j_pull2 (j_pull2 ?_)))))))))))))
 exact jq_rets (rs := [.cell 4 50, .tmp 5]) (vs := [.agg #[r1, r2], .bool (false)]) rfl (r1, r2) ⟨resV_box (.agg #[r1, r2]) rfl ty_50 (.tail _ (.tail _ (.head _))) rfl (by decide) rfl, resV_tmp rfl, trivial⟩ rfl (show (_ : Value) = (.tuple #[.agg #[r1, r2], .bool (false)]) from rfl) (fun w h => (fun h => h) (Mem.front (As := [.imm (.list (.pair .str (.list .str))) (r1) (([], []).1), .row (r2) 40 tyE (([], []).2)]) h))

theorem c_Keys_zero (b : Nat)   : Con Tryz.prog 12 #[.pointer (some ⟨b, 0, none⟩)] [.ibox b 68 [.int .i64 ((0 : Nat) : Int), .int .i64 ((0 : Nat) : Int), .int .i64 ((0 : Nat) : Int), .int .i64 ((0 : Nat) : Int), .slice none 0 0, .map none]] (fun _ : Unit => .slice none 0 0) (fun _ => []) := by
 refine con_of_J (args := [.pointer (some ⟨b, 0, none⟩)]) (n := 11) Tryz.func12 rfl (Nat.le_of_ble_eq_true rfl) rfl (fun w0 I0 m0 => ?_)
 refine jc_seq (jc_region (jo_pure rfl (pr_assign rfl) (jo_nil (jq_then (jc_seq (jc_seq (jc_region (jo_pure rfl (pr_move rfl) ?_))))))))
 refine jo_callp cal_31 (c_made_zero b) ⟨rfl, trivial⟩ rfl (⟨⟨rfl, .head _⟩, trivial⟩) (fun _ => ?_)
 refine jo_pure rfl (pr_not rfl) ?_
 refine jo_nil (jq_then (jc_true rfl (rfl) ?_))
 refine jc_seq (jc_region (jo_pure rfl (pr_assign rfl) (jo_nil (jq_then (jc_ret (jq_then_ret (j_drop ?_)))))))
 exact jq_ret1 rfl () rfl (show (_ : Value) = (.slice none 0 0) from rfl) (fun _ h => h)

theorem c_Bytes_zero (b : Nat)   : Con Tryz.prog 13 #[.pointer (some ⟨b, 0, none⟩)] [.ibox b 68 [.int .i64 ((0 : Nat) : Int), .int .i64 ((0 : Nat) : Int), .int .i64 ((0 : Nat) : Int), .int .i64 ((0 : Nat) : Int), .slice none 0 0, .map none]] (fun _ : Unit => .int .i64 ((0 : Nat) : Int)) (fun _ => []) := by
 refine con_of_J (args := [.pointer (some ⟨b, 0, none⟩)]) (n := 10) Tryz.func13 rfl (Nat.le_of_ble_eq_true rfl) rfl (fun w0 I0 m0 => ?_)
 refine jc_seq (jc_region (jo_pure rfl (pr_assign rfl) (jo_nil (jq_then (jc_seq (jc_seq (jc_region (jo_pure rfl (pr_move rfl) ?_))))))))
 refine jo_callp cal_31 (c_made_zero b) ⟨rfl, trivial⟩ rfl (⟨⟨rfl, .head _⟩, trivial⟩) (fun _ => ?_)
 refine jo_pure rfl (pr_not rfl) ?_
 refine jo_nil (jq_then (jc_true rfl (rfl) ?_))
 refine jc_seq (jc_region (jo_pure rfl (pr_assign rfl) (jo_nil (jq_then (jc_ret (jq_then_ret (j_drop ?_)))))))
 exact jq_ret1 rfl () rfl (show (_ : Value) = (.int .i64 ((0 : Nat) : Int)) from rfl) (fun _ h => h)

theorem c_Touch_zero (b : Nat) (key : Str)  : Con Tryz.prog 30 #[.pointer (some ⟨b, 0, none⟩), str (key)] [.ibox b 68 [.int .i64 ((0 : Nat) : Int), .int .i64 ((0 : Nat) : Int), .int .i64 ((0 : Nat) : Int), .int .i64 ((0 : Nat) : Int), .slice none 0 0, .map none]] (fun _ : Unit => .bool (false)) (fun _ => []) := by
 refine con_of_J (args := [.pointer (some ⟨b, 0, none⟩), str (key)]) (n := 18) Tryz.func30 rfl (Nat.le_of_ble_eq_true rfl) rfl (fun w0 I0 m0 => ?_)
 refine jc_seq (jc_region (jo_pure rfl (pr_assign rfl) (jo_nil (jq_then (jc_seq (jc_seq (jc_region (jo_pure rfl (pr_move rfl) (jo_pure rfl (pr_move rfl) ?_)))))))))
 refine jo_callp cal_43 (c_has_zero b key) ⟨rfl, rfl, trivial⟩ rfl (⟨⟨rfl, .head _⟩, trivial⟩) (fun _ => ?_)
 refine jo_pure rfl (pr_move rfl) (jo_pure rfl (pr_extract rfl rfl) (jo_pure rfl (pr_extract rfl rfl) ?_))
 refine jo_alloc ty_50 [.slice none 0 0, .slice none 0 0] rfl rfl (fun b1 => ?_)
 refine jo_store rfl rfl ty_50 [.slice none 0 0, .slice none 0 0] rfl rfl rfl [.slice none 0 0, .slice none 0 0] rfl rfl ?_
 refine jo_pure rfl (pr_assign rfl) (jo_nil (jq_then (jc_seq (jc_region (jo_pure rfl (pr_move rfl) (jo_pure rfl (pr_not rfl) (jo_nil (jq_then (jc_true rfl (rfl) ?_)))))))))
 refine jc_seq (jc_region (jo_pure rfl (pr_assign rfl) (jo_nil (jq_then (jc_ret (jq_then_ret (j_drop (j_drop ?_))))))))
 exact jq_ret1 rfl () rfl (show (_ : Value) = (.bool (false)) from rfl) (fun _ h => h)

theorem c_Remove_zero (b : Nat) (key : Str)  : Con Tryz.prog 36 #[.pointer (some ⟨b, 0, none⟩), str (key)] [.ibox b 68 [.int .i64 ((0 : Nat) : Int), .int .i64 ((0 : Nat) : Int), .int .i64 ((0 : Nat) : Int), .int .i64 ((0 : Nat) : Int), .slice none 0 0, .map none]] (fun _ : Unit => .bool (false)) (fun _ => []) := by
 refine con_of_J (args := [.pointer (some ⟨b, 0, none⟩), str (key)]) (n := 19) Tryz.func36 rfl (Nat.le_of_ble_eq_true rfl) rfl (fun w0 I0 m0 => ?_)
 refine jc_seq (jc_region (jo_pure rfl (pr_assign rfl) (jo_nil (jq_then (jc_seq (jc_seq (jc_region (jo_pure rfl (pr_move rfl) (jo_pure rfl (pr_move rfl) ?_)))))))))
 refine jo_callp cal_43 (c_has_zero b key) ⟨rfl, rfl, trivial⟩ rfl (⟨⟨rfl, .head _⟩, trivial⟩) (fun _ => ?_)
 refine jo_pure rfl (pr_move rfl) (jo_pure rfl (pr_extract rfl rfl) (jo_pure rfl (pr_extract rfl rfl) ?_))
 refine jo_alloc ty_50 [.slice none 0 0, .slice none 0 0] rfl rfl (fun b1 => ?_)
 refine jo_store rfl rfl ty_50 [.slice none 0 0, .slice none 0 0] rfl rfl rfl [.slice none 0 0, .slice none 0 0] rfl rfl ?_
 refine jo_pure rfl (pr_assign rfl) (jo_nil (jq_then (jc_seq (jc_region (jo_pure rfl (pr_move rfl) (jo_pure rfl (pr_not rfl) (jo_nil (jq_then (jc_true rfl (rfl) ?_)))))))))
 refine jc_seq (jc_region (jo_pure rfl (pr_assign rfl) (jo_nil (jq_then (jc_ret (jq_then_ret (j_drop (j_drop ?_))))))))
 exact jq_ret1 rfl () rfl (show (_ : Value) = (.bool (false)) from rfl) (fun _ h => h)

theorem c_Put_zero (b : Nat) (key : Str) (en : Ent) (env : Value) (env2 : Value) (env3 : Value) (env4 : Value) (axes : List (Axs)) (axesv : Value)  : Con Tryz.prog 21 #[.pointer (some ⟨b, 0, none⟩), str (key), .agg #[env, env2, env3, str (en.2.2.2.1), env4, str (en.2.2.2.2.2.1), .int .i64 (en.2.2.2.2.2.2.1), .int .i64 (en.2.2.2.2.2.2.2)], axesv] [.ibox b 68 [.int .i64 ((0 : Nat) : Int), .int .i64 ((0 : Nat) : Int), .int .i64 ((0 : Nat) : Int), .int .i64 ((0 : Nat) : Int), .slice none 0 0, .map none], .imm (.list (.list .str)) (env) (en.1), .imm (.list .str) (env2) (en.2.1), .imm (.list .str) (env3) (en.2.2.1), .imm (.list (.pair .str .str)) (env4) (en.2.2.2.2.1), .imm (.list (.pair .str (.list .str))) (axesv) (axes)] (fun _ : Unit => .bool (false)) (fun _ => []) := by
 refine con_of_J (args := [.pointer (some ⟨b, 0, none⟩), str (key), .agg #[env, env2, env3, str (en.2.2.2.1), env4, str (en.2.2.2.2.2.1), .int .i64 (en.2.2.2.2.2.2.1), .int .i64 (en.2.2.2.2.2.2.2)], axesv]) (n := 59) Tryz.func21 rfl (Nat.le_of_ble_eq_true rfl) rfl (fun w0 I0 m0 => ?_)
 refine jc_seq (jc_region ?_)
 refine jo_box rfl [env, env2, env3, str (en.2.2.2.1), env4, str (en.2.2.2.2.2.1), .int .i64 (en.2.2.2.2.2.2.1), .int .i64 (en.2.2.2.2.2.2.2)] rfl rfl (fun b1 => ?_)
 refine jo_pure rfl (pr_assign rfl) (jo_nil (jq_then (jc_seq (jc_seq (jc_draws mixed (by kernel_rfl) (jd_pure rfl (pr_move rfl) ?_))))))
 refine jd_callp cal_31 (c_made_zero b) ⟨rfl, trivial⟩ rfl (⟨⟨rfl, .tail _ (.head _)⟩, trivial⟩) ?_
 refine jd_pure rfl (pr_not rfl) ?_
 refine jd_pure rfl (pr_move rfl) ?_
 refine jd_skipu (j := 3) (want := false) rfl rfl (rfl) rfl ?_
 refine jd_skipu (j := 3) (want := false) rfl rfl (rfl) rfl ?_
 refine jd_skipu (j := 3) (want := false) rfl rfl (rfl) rfl ?_
 refine jd_skipu (j := 3) (want := false) rfl rfl (rfl) rfl ?_
 refine jd_skipu (j := 3) (want := false) rfl rfl (rfl) rfl ?_
 refine jd_skipu (j := 3) (want := false) rfl rfl (rfl) rfl ?_
 refine jd_skipu (j := 3) (want := false) rfl rfl (rfl) rfl ?_
 refine jd_pure rfl (pr_pick_t rfl (rfl) rfl) ?_
 refine jd_pure rfl (pr_move rfl) ?_
 refine jd_skipu (j := 12) (want := false) rfl rfl (rfl) rfl ?_
 refine jd_skipu (j := 12) (want := false) rfl rfl (rfl) rfl ?_
 refine jd_skipu (j := 12) (want := false) rfl rfl (rfl) rfl ?_
 refine jd_skipu (j := 12) (want := false) rfl rfl (rfl) rfl ?_
 refine jd_skipn (j := 16) rfl rfl rfl ?_
 refine jd_skipn (j := 16) rfl rfl rfl ?_
 refine jd_skipn (j := 16) rfl rfl rfl ?_
 refine jd_skipu (j := 12) (want := false) rfl rfl (rfl) rfl ?_
 refine jd_pure rfl (pr_pick_t rfl (rfl) rfl) ?_
 refine jd_nil ?_
 refine jq_then (jc_true rfl (rfl) ?_)
 refine jc_seq (jc_region (jo_pure rfl (pr_assign rfl) (jo_nil (jq_then (jc_ret (jq_then_ret (j_drop (j_drop (j_drop (j_drop (j_drop (j_drop (j_drop ?_)))))))))))))
 exact jq_ret1 rfl () rfl (show (_ : Value) = (.bool (false)) from rfl) (fun _ h => h)

theorem c_Replace_zero (b : Nat) (key : Str) (iz : Int) (en : Ent) (env : Value) (env2 : Value) (env3 : Value) (env4 : Value)  : Con Tryz.prog 35 #[.pointer (some ⟨b, 0, none⟩), str (key), .int .i64 (iz), .agg #[env, env2, env3, str (en.2.2.2.1), env4, str (en.2.2.2.2.2.1), .int .i64 (en.2.2.2.2.2.2.1), .int .i64 (en.2.2.2.2.2.2.2)]] [.ibox b 68 [.int .i64 ((0 : Nat) : Int), .int .i64 ((0 : Nat) : Int), .int .i64 ((0 : Nat) : Int), .int .i64 ((0 : Nat) : Int), .slice none 0 0, .map none], .imm (.list (.list .str)) (env) (en.1), .imm (.list .str) (env2) (en.2.1), .imm (.list .str) (env3) (en.2.2.1), .imm (.list (.pair .str .str)) (env4) (en.2.2.2.2.1)] (fun _ : Unit => .bool (false)) (fun _ => []) := by
 refine con_of_J (args := [.pointer (some ⟨b, 0, none⟩), str (key), .int .i64 (iz), .agg #[env, env2, env3, str (en.2.2.2.1), env4, str (en.2.2.2.2.2.1), .int .i64 (en.2.2.2.2.2.2.1), .int .i64 (en.2.2.2.2.2.2.2)]]) (n := 77) Tryz.func35 rfl (Nat.le_of_ble_eq_true rfl) rfl (fun w0 I0 m0 => ?_)
 refine jc_seq (jc_region ?_)
 refine jo_box rfl [env, env2, env3, str (en.2.2.2.1), env4, str (en.2.2.2.2.2.1), .int .i64 (en.2.2.2.2.2.2.1), .int .i64 (en.2.2.2.2.2.2.2)] rfl rfl (fun b1 => ?_)
 refine jo_pure rfl (pr_assign rfl) (jo_nil (jq_then (jc_seq (jc_region (jo_pure rfl (pr_move rfl) (jo_pure rfl (pr_move rfl) ?_))))))
 refine jo_callp cal_43 (c_has_zero b key) ⟨rfl, rfl, trivial⟩ rfl (⟨⟨rfl, .tail _ (.head _)⟩, trivial⟩) (fun _ => ?_)
 refine jo_pure rfl (pr_move rfl) (jo_pure rfl (pr_extract rfl rfl) (jo_pure rfl (pr_extract rfl rfl) ?_))
 refine jo_alloc ty_50 [.slice none 0 0, .slice none 0 0] rfl rfl (fun b2 => ?_)
 refine jo_store rfl rfl ty_50 [.slice none 0 0, .slice none 0 0] rfl rfl rfl [.slice none 0 0, .slice none 0 0] rfl rfl ?_
 refine jo_pure rfl (pr_assign rfl) (jo_nil (jq_then (jc_seq (jc_seq (jc_region (jo_pure rfl (pr_move rfl) (jo_pure rfl (pr_not rfl) (jo_pure rfl (pr_move rfl) (jo_skipu (j := 2) (want := false) rfl rfl (rfl) rfl ?_)))))))))
 refine jo_skipu (j := 2) (want := false) rfl rfl (rfl) rfl ?_
 refine jo_pure rfl (pr_pick_t rfl (rfl) rfl) ?_
 refine jo_pure rfl (pr_move rfl) (jo_skipu (j := 6) (want := false) rfl rfl (rfl) rfl ?_)
 refine jo_skipu (j := 6) (want := false) rfl rfl (rfl) rfl ?_
 refine jo_skipu (j := 6) (want := false) rfl rfl (rfl) rfl ?_
 refine jo_skipu (j := 6) (want := false) rfl rfl (rfl) rfl ?_
 refine jo_skipu (j := 6) (want := false) rfl rfl (rfl) rfl ?_
 refine jo_pure rfl (pr_pick_t rfl (rfl) rfl) ?_
 refine jo_nil (jq_then (jc_true rfl (rfl) ?_))
 refine jc_seq (jc_region (jo_pure rfl (pr_assign rfl) (jo_nil (jq_then (jc_ret (jq_then_ret (j_drop (j_drop (j_drop (j_drop (j_drop (j_drop (j_drop ?_)))))))))))))
 exact jq_ret1 rfl () rfl (show (_ : Value) = (.bool (false)) from rfl) (fun _ h => h)

theorem c_do_zero (b : Nat) (q : Int × Int × Int × Int × Ent × (List (Axs))) (qv : Value) (qv2 : Value) (qv3 : Value) (qv4 : Value) (qv5 : Value) (hko : keepO q = true) : Con Tryz.prog 15 #[.agg #[.int .i64 (q.1), .int .i64 (q.2.1), .int .i64 (q.2.2.1), .int .i64 (q.2.2.2.1), qv, qv2, qv3, str (q.2.2.2.2.1.2.2.2.1), qv4, str (q.2.2.2.2.1.2.2.2.2.2.1), .int .i64 (q.2.2.2.2.1.2.2.2.2.2.2.1), .int .i64 (q.2.2.2.2.1.2.2.2.2.2.2.2), qv5], .pointer (some ⟨b, 0, none⟩)] [.ibox b 68 [.int .i64 ((0 : Nat) : Int), .int .i64 ((0 : Nat) : Int), .int .i64 ((0 : Nat) : Int), .int .i64 ((0 : Nat) : Int), .slice none 0 0, .map none], .imm (.list (.list .str)) (qv) (q.2.2.2.2.1.1), .imm (.list .str) (qv2) (q.2.2.2.2.1.2.1), .imm (.list .str) (qv3) (q.2.2.2.2.1.2.2.1), .imm (.list (.pair .str .str)) (qv4) (q.2.2.2.2.1.2.2.2.2.1), .imm (.list (.pair .str (.list .str))) (qv5) (q.2.2.2.2.2)] (fun _ : Unit => .bool (false)) (fun _ => []) := by
 refine con_of_J (args := [.agg #[.int .i64 (q.1), .int .i64 (q.2.1), .int .i64 (q.2.2.1), .int .i64 (q.2.2.2.1), qv, qv2, qv3, str (q.2.2.2.2.1.2.2.2.1), qv4, str (q.2.2.2.2.1.2.2.2.2.2.1), .int .i64 (q.2.2.2.2.1.2.2.2.2.2.2.1), .int .i64 (q.2.2.2.2.1.2.2.2.2.2.2.2), qv5], .pointer (some ⟨b, 0, none⟩)]) (n := 42) Tryz.func15 rfl (Nat.le_of_ble_eq_true rfl) rfl (fun w0 I0 m0 => ?_)
 have hka : keepE q.2.2.2.2.1 = true ∧ keepA q.2.2.2.2.2 = true := by have h9 := hko; unfold keepO at h9; rw [Bool.and_eq_true] at h9; exact h9
 refine jc_seq (jc_region ?_)
 refine jo_box rfl [.int .i64 (q.1), .int .i64 (q.2.1), .int .i64 (q.2.2.1), .int .i64 (q.2.2.2.1), qv, qv2, qv3, str (q.2.2.2.2.1.2.2.2.1), qv4, str (q.2.2.2.2.1.2.2.2.2.2.1), .int .i64 (q.2.2.2.2.1.2.2.2.2.2.2.1), .int .i64 (q.2.2.2.2.1.2.2.2.2.2.2.2), qv5] rfl rfl (fun b1 => ?_)
 refine jo_pure rfl (pr_assign rfl) (jo_nil (jq_then (jc_seq (jc_seq (jc_region (jo_pure rfl (pr_fieldAddr 0 rfl Tryz.underlying43 rfl ty_3 rfl rfl) ?_))))))
 refine jo_pure rfl (pr_load_box (.int .i64 (q.1)) rfl ty_3 (.head _) rfl (by decide) rfl) ?_
 refine jo_pure rfl (pr_and3 (m := q.1) rfl rfl) ?_
 refine jo_nil (jq_then (jc_block (jc_seq (jc_region (jo_pure rfl (pr_eqlN (m := (q.1 % 4).toNat) (n := 0) rfl rfl) ?_)))))
 refine jo_pure rfl (pr_assign rfl) (jo_nil (jq_then ?_))
 refine jc_cond rfl (fun h1b => ?_) (fun h1b => ?_)
 ·have h1 := of_decide_eq_true h1b
  refine jc_seq ?_
  refine jc_held (fun (iq : Value × Value × Value × Value) => [(4, .bool (false))]) (fun iq => [.imm (.list (.list .str)) (iq.1) ((ofE q).1), .imm (.list .str) (iq.2.1) ((ofE q).2.1), .imm (.list .str) (iq.2.2.1) ((ofE q).2.2.1), .imm (.list (.pair .str .str)) (iq.2.2.2) ((ofE q).2.2.2.2.1), .box b1 43 [.int .i64 (q.1), .int .i64 (q.2.1), .int .i64 (q.2.2.1), .int .i64 (q.2.2.2.1), qv, qv2, qv3, str (q.2.2.2.2.1.2.2.2.1), qv4, str (q.2.2.2.2.1.2.2.2.2.2.1), .int .i64 (q.2.2.2.2.1.2.2.2.2.2.2.1), .int .i64 (q.2.2.2.2.1.2.2.2.2.2.2.2), qv5], .ibox b 68 [.int .i64 ((0 : Nat) : Int), .int .i64 ((0 : Nat) : Int), .int .i64 ((0 : Nat) : Int), .int .i64 ((0 : Nat) : Int), .slice none 0 0, .map none], .imm (.list (.list .str)) (qv) (q.2.2.2.2.1.1), .imm (.list .str) (qv2) (q.2.2.2.2.1.2.1), .imm (.list .str) (qv3) (q.2.2.2.2.1.2.2.1), .imm (.list (.pair .str .str)) (qv4) (q.2.2.2.2.1.2.2.2.2.1), .imm (.list (.pair .str (.list .str))) (qv5) (q.2.2.2.2.2)]) [.box b1 43 [.int .i64 (q.1), .int .i64 (q.2.1), .int .i64 (q.2.2.1), .int .i64 (q.2.2.2.1), qv, qv2, qv3, str (q.2.2.2.2.1.2.2.2.1), qv4, str (q.2.2.2.2.1.2.2.2.2.2.1), .int .i64 (q.2.2.2.2.1.2.2.2.2.2.2.1), .int .i64 (q.2.2.2.2.1.2.2.2.2.2.2.2), qv5], .ibox b 68 [.int .i64 ((0 : Nat) : Int), .int .i64 ((0 : Nat) : Int), .int .i64 ((0 : Nat) : Int), .int .i64 ((0 : Nat) : Int), .slice none 0 0, .map none], .imm (.list (.list .str)) (qv) (q.2.2.2.2.1.1), .imm (.list .str) (qv2) (q.2.2.2.2.1.2.1), .imm (.list .str) (qv3) (q.2.2.2.2.1.2.2.1), .imm (.list (.pair .str .str)) (qv4) (q.2.2.2.2.1.2.2.2.2.1), .imm (.list (.pair .str (.list .str))) (qv5) (q.2.2.2.2.2)] mixed (fun lst hlst => ?_) (fun ⟨r1, r2, r3, r4⟩ => ?_)
  ·subst hlst
   refine jh_take (listed' := #[true, false, false, false, false, false, false, false, false, false]) 0 rfl (by kernel_rfl) (by kernel_rfl) (by kernel_rfl) rfl (pr_move rfl) (fun _ h => h) rfl ?_
   refine jh_take (listed' := #[true, true, false, false, false, false, false, false, false, false]) 1 rfl (by kernel_rfl) (by kernel_rfl) (by kernel_rfl) rfl (pr_fieldAddr 1 rfl Tryz.underlying43 rfl ty_3 rfl rfl) (fun _ h => h) rfl ?_
   refine jh_take (listed' := #[true, true, true, false, false, false, false, false, false, false]) 2 rfl (by kernel_rfl) (by kernel_rfl) (by kernel_rfl) rfl (pr_load_box (.int .i64 (q.2.1)) rfl ty_3 (.head _) rfl (by decide) rfl) (fun _ h => h) rfl ?_
   refine jh_take (listed' := #[true, true, true, false, true, false, false, false, false, false]) 4 rfl (by kernel_rfl) (by kernel_rfl) (by kernel_rfl) rfl (pr_load_box (.agg #[.int .i64 (q.1), .int .i64 (q.2.1), .int .i64 (q.2.2.1), .int .i64 (q.2.2.2.1), qv, qv2, qv3, str (q.2.2.2.2.1.2.2.2.1), qv4, str (q.2.2.2.2.1.2.2.2.2.2.1), .int .i64 (q.2.2.2.2.1.2.2.2.2.2.2.1), .int .i64 (q.2.2.2.2.1.2.2.2.2.2.2.2), qv5]) rfl ty_43 (.head _) rfl (by decide) rfl) (fun _ h => h) rfl ?_
   refine jh_take (listed' := #[true, true, true, false, true, false, true, false, false, false]) 6 rfl (by kernel_rfl) (by kernel_rfl) (by kernel_rfl) rfl (pr_fieldAddr 12 rfl Tryz.underlying43 rfl ty_41 rfl rfl) (fun _ h => h) rfl ?_
   refine jh_take (listed' := #[true, true, true, false, true, false, true, true, false, false]) 7 rfl (by kernel_rfl) (by kernel_rfl) (by kernel_rfl) rfl (pr_load_box (qv5) rfl ty_41 (.head _) rfl (by decide) rfl) (fun _ h => h) rfl ?_
   refine jh_all [3] (by kernel_rfl) (by simp) (fun i hi => ?_)
   simp only [List.mem_cons, List.not_mem_nil, or_false] at hi
   subst hi
   ·refine jh_op rfl ?_
    refine jo_callp cal_22 (c_law28_name q.2.1) ⟨rfl, trivial⟩ rfl (trivial) (fun _ => ?_)
    refine jh_in (listed' := #[true, true, true, true, true, false, true, true, false, false]) (fun _ h => h) rfl ?_
    refine jh_all [5] (by kernel_rfl) (by simp) (fun i hi => ?_)
    simp only [List.mem_cons, List.not_mem_nil, or_false] at hi
    subst hi
    ·refine jh_op rfl ?_
     have con1 := c_law28_Op_of q qv qv2 qv3 qv4 qv5 (by exact hka.1)
     refine jo_callp cal_20 con1 (by exact ⟨rfl, trivial⟩) rfl (by exact ⟨⟨rfl, .tail _ (.tail _ (.head _))⟩, ⟨⟨rfl, .tail _ (.tail _ (.tail _ (.head _)))⟩, ⟨⟨rfl, .tail _ (.tail _ (.tail _ (.tail _ (.head _))))⟩, ⟨⟨rfl, .tail _ (.tail _ (.tail _ (.tail _ (.tail _ (.head _)))))⟩, ⟨⟨rfl, .tail _ (.tail _ (.tail _ (.tail _ (.tail _ (.tail _ (.head _))))))⟩, trivial⟩⟩⟩⟩⟩) (fun ⟨r1, r2, r3, r4⟩ => ?_)
     clear con1
     refine jh_in (listed' := #[true, true, true, true, true, true, true, true, false, false]) (fun _ h => Mem.drop1 (Mem.drop1 (Mem.drop1 (Mem.drop1 (h))))) rfl ?_
     refine jh_all [8] (by kernel_rfl) (by simp) (fun i hi => ?_)
     simp only [List.mem_cons, List.not_mem_nil, or_false] at hi
     subst hi
     ·refine jh_op rfl ?_
      have con2 := c_Put_zero b (nameF q.2.1) (ofE q) r1 r2 r3 r4 q.2.2.2.2.2 qv5
      refine jo_callp cal_21 con2 (by exact ⟨rfl, rfl, rfl, rfl, trivial⟩) rfl (by exact ⟨⟨rfl, .tail _ (.tail _ (.tail _ (.tail _ (.tail _ (.head _)))))⟩, ⟨⟨rfl, .head _⟩, ⟨⟨rfl, .tail _ (.head _)⟩, ⟨⟨rfl, .tail _ (.tail _ (.head _))⟩, ⟨⟨rfl, .tail _ (.tail _ (.tail _ (.head _)))⟩, ⟨⟨rfl, .tail _ (.tail _ (.tail _ (.tail _ (.tail _ (.tail _ (.tail _ (.tail _ (.tail _ (.tail _ (.head _))))))))))⟩, trivial⟩⟩⟩⟩⟩⟩) (fun _ => ?_)
      clear con2
      refine jh_in (listed' := #[true, true, true, true, true, true, true, true, true, false]) (fun _ h => Mem.drop1 (Mem.drop1 (Mem.drop1 (Mem.drop1 (h))))) rfl ?_
      refine jh_take (listed' := #[true, true, true, true, true, true, true, true, true, true]) 9 rfl (by kernel_rfl) (by kernel_rfl) (by kernel_rfl) rfl (pr_assign rfl) (fun _ h => Mem.drop1 (Mem.drop1 (Mem.drop1 (Mem.drop1 (h))))) rfl ?_
      refine j_pull10 ?_
      refine j_pull10 ?_
      refine j_pull10 ?_
      refine j_pull10 ?_
      refine j_pull10 ?_
      refine j_pull10 ?_
      refine j_pull10 ?_
      refine j_pull10 ?_
      refine j_pull10 ?_
      refine j_pull10 ?_
      refine j_pull10 ?_
      show JH _ _ _ _ _ _ _ _
      exact jh_done ⟨r1, r2, r3, r4⟩ (by kernel_rfl) ⟨rfl, trivial⟩ (fun _ h => h)
  ·skip
   refine jq_then (jc_ret (jq_in_ret ?_))
   refine jq_then_ret (j_drop (j_drop (j_drop (j_drop (j_drop (j_drop (j_drop (j_drop (j_drop (j_drop (j_drop ?_)))))))))))
   exact jq_ret1 rfl () rfl (show (_ : Value) = (.bool (false)) from rfl) (fun _ h => h)
 ·have h1 := of_decide_eq_false h1b
  refine jc_seq (jc_region (jo_pure rfl (pr_eqlN (m := (q.1 % 4).toNat) (n := 1) rfl rfl) ?_))
  refine jo_pure rfl (pr_assign rfl) (jo_nil (jq_then ?_))
  refine jc_cond rfl (fun h2b => ?_) (fun h2b => ?_)
  ·have h2 := of_decide_eq_true h2b
   refine jc_seq (jc_region (jo_pure rfl (pr_move rfl) (jo_pure rfl (pr_fieldAddr 1 rfl Tryz.underlying43 rfl ty_3 rfl rfl) ?_)))
   refine jo_pure rfl (pr_load_box (.int .i64 (q.2.1)) rfl ty_3 (.head _) rfl (by decide) rfl) ?_
   refine jo_callp cal_22 (c_law28_name q.2.1) ⟨rfl, trivial⟩ rfl (trivial) (fun _ => ?_)
   refine jo_callp cal_30 (c_Touch_zero b (nameF q.2.1)) ⟨rfl, rfl, trivial⟩ rfl (⟨⟨rfl, .tail _ (.head _)⟩, trivial⟩) (fun _ => ?_)
   refine jo_pure rfl (pr_assign rfl) (jo_nil (jq_then (jc_ret (jq_in_ret ?_))))
   refine jq_then_ret (j_drop (j_drop (j_drop (j_drop (j_drop (j_drop (j_drop ?_)))))))
   exact jq_ret1 rfl () rfl (show (_ : Value) = (.bool (false)) from rfl) (fun _ h => h)
  ·have h2 := of_decide_eq_false h2b
   refine jc_seq (jc_region (jo_pure rfl (pr_eqlN (m := (q.1 % 4).toNat) (n := 2) rfl rfl) ?_))
   refine jo_pure rfl (pr_assign rfl) (jo_nil (jq_then ?_))
   refine jc_cond rfl (fun h3b => ?_) (fun h3b => ?_)
   ·have h3 := of_decide_eq_true h3b
    refine jc_seq ?_
    refine jc_held (fun (iq : Value × Value × Value × Value) => [(4, .bool (false))]) (fun iq => [.imm (.list (.list .str)) (iq.1) ((ofE q).1), .imm (.list .str) (iq.2.1) ((ofE q).2.1), .imm (.list .str) (iq.2.2.1) ((ofE q).2.2.1), .imm (.list (.pair .str .str)) (iq.2.2.2) ((ofE q).2.2.2.2.1), .box b1 43 [.int .i64 (q.1), .int .i64 (q.2.1), .int .i64 (q.2.2.1), .int .i64 (q.2.2.2.1), qv, qv2, qv3, str (q.2.2.2.2.1.2.2.2.1), qv4, str (q.2.2.2.2.1.2.2.2.2.2.1), .int .i64 (q.2.2.2.2.1.2.2.2.2.2.2.1), .int .i64 (q.2.2.2.2.1.2.2.2.2.2.2.2), qv5], .ibox b 68 [.int .i64 ((0 : Nat) : Int), .int .i64 ((0 : Nat) : Int), .int .i64 ((0 : Nat) : Int), .int .i64 ((0 : Nat) : Int), .slice none 0 0, .map none], .imm (.list (.list .str)) (qv) (q.2.2.2.2.1.1), .imm (.list .str) (qv2) (q.2.2.2.2.1.2.1), .imm (.list .str) (qv3) (q.2.2.2.2.1.2.2.1), .imm (.list (.pair .str .str)) (qv4) (q.2.2.2.2.1.2.2.2.2.1), .imm (.list (.pair .str (.list .str))) (qv5) (q.2.2.2.2.2)]) [.box b1 43 [.int .i64 (q.1), .int .i64 (q.2.1), .int .i64 (q.2.2.1), .int .i64 (q.2.2.2.1), qv, qv2, qv3, str (q.2.2.2.2.1.2.2.2.1), qv4, str (q.2.2.2.2.1.2.2.2.2.2.1), .int .i64 (q.2.2.2.2.1.2.2.2.2.2.2.1), .int .i64 (q.2.2.2.2.1.2.2.2.2.2.2.2), qv5], .ibox b 68 [.int .i64 ((0 : Nat) : Int), .int .i64 ((0 : Nat) : Int), .int .i64 ((0 : Nat) : Int), .int .i64 ((0 : Nat) : Int), .slice none 0 0, .map none], .imm (.list (.list .str)) (qv) (q.2.2.2.2.1.1), .imm (.list .str) (qv2) (q.2.2.2.2.1.2.1), .imm (.list .str) (qv3) (q.2.2.2.2.1.2.2.1), .imm (.list (.pair .str .str)) (qv4) (q.2.2.2.2.1.2.2.2.2.1), .imm (.list (.pair .str (.list .str))) (qv5) (q.2.2.2.2.2)] mixed (fun lst hlst => ?_) (fun ⟨r5, r6, r7, r8⟩ => ?_)
    ·subst hlst
     refine jh_take (listed' := #[true, false, false, false, false, false, false, false, false, false]) 0 rfl (by kernel_rfl) (by kernel_rfl) (by kernel_rfl) rfl (pr_move rfl) (fun _ h => h) rfl ?_
     refine jh_take (listed' := #[true, true, false, false, false, false, false, false, false, false]) 1 rfl (by kernel_rfl) (by kernel_rfl) (by kernel_rfl) rfl (pr_fieldAddr 1 rfl Tryz.underlying43 rfl ty_3 rfl rfl) (fun _ h => h) rfl ?_
     refine jh_take (listed' := #[true, true, true, false, false, false, false, false, false, false]) 2 rfl (by kernel_rfl) (by kernel_rfl) (by kernel_rfl) rfl (pr_load_box (.int .i64 (q.2.1)) rfl ty_3 (.head _) rfl (by decide) rfl) (fun _ h => h) rfl ?_
     refine jh_take (listed' := #[true, true, true, false, true, false, false, false, false, false]) 4 rfl (by kernel_rfl) (by kernel_rfl) (by kernel_rfl) rfl (pr_fieldAddr 2 rfl Tryz.underlying43 rfl ty_3 rfl rfl) (fun _ h => h) rfl ?_
     refine jh_take (listed' := #[true, true, true, false, true, true, false, false, false, false]) 5 rfl (by kernel_rfl) (by kernel_rfl) (by kernel_rfl) rfl (pr_load_box (.int .i64 (q.2.2.1)) rfl ty_3 (.head _) rfl (by decide) rfl) (fun _ h => h) rfl ?_
     refine jh_take (listed' := #[true, true, true, false, true, true, true, false, false, false]) 6 rfl (by kernel_rfl) (by kernel_rfl) (by kernel_rfl) rfl (pr_load_box (.agg #[.int .i64 (q.1), .int .i64 (q.2.1), .int .i64 (q.2.2.1), .int .i64 (q.2.2.2.1), qv, qv2, qv3, str (q.2.2.2.2.1.2.2.2.1), qv4, str (q.2.2.2.2.1.2.2.2.2.2.1), .int .i64 (q.2.2.2.2.1.2.2.2.2.2.2.1), .int .i64 (q.2.2.2.2.1.2.2.2.2.2.2.2), qv5]) rfl ty_43 (.head _) rfl (by decide) rfl) (fun _ h => h) rfl ?_
     refine jh_all [3] (by kernel_rfl) (by simp) (fun i hi => ?_)
     simp only [List.mem_cons, List.not_mem_nil, or_false] at hi
     subst hi
     ·refine jh_op rfl ?_
      refine jo_callp cal_22 (c_law28_name q.2.1) ⟨rfl, trivial⟩ rfl (trivial) (fun _ => ?_)
      refine jh_in (listed' := #[true, true, true, true, true, true, true, false, false, false]) (fun _ h => h) rfl ?_
      refine jh_all [7] (by kernel_rfl) (by simp) (fun i hi => ?_)
      simp only [List.mem_cons, List.not_mem_nil, or_false] at hi
      subst hi
      ·refine jh_op rfl ?_
       have con3 := c_law28_Op_of q qv qv2 qv3 qv4 qv5 (by exact hka.1)
       refine jo_callp cal_20 con3 (by exact ⟨rfl, trivial⟩) rfl (by exact ⟨⟨rfl, .tail _ (.tail _ (.head _))⟩, ⟨⟨rfl, .tail _ (.tail _ (.tail _ (.head _)))⟩, ⟨⟨rfl, .tail _ (.tail _ (.tail _ (.tail _ (.head _))))⟩, ⟨⟨rfl, .tail _ (.tail _ (.tail _ (.tail _ (.tail _ (.head _)))))⟩, ⟨⟨rfl, .tail _ (.tail _ (.tail _ (.tail _ (.tail _ (.tail _ (.head _))))))⟩, trivial⟩⟩⟩⟩⟩) (fun ⟨r5, r6, r7, r8⟩ => ?_)
       clear con3
       refine jh_in (listed' := #[true, true, true, true, true, true, true, true, false, false]) (fun _ h => Mem.drop1 (Mem.drop1 (Mem.drop1 (Mem.drop1 (h))))) rfl ?_
       refine jh_all [8] (by kernel_rfl) (by simp) (fun i hi => ?_)
       simp only [List.mem_cons, List.not_mem_nil, or_false] at hi
       subst hi
       ·refine jh_op rfl ?_
        have con4 := c_Replace_zero b (nameF q.2.1) q.2.2.1 (ofE q) r5 r6 r7 r8
        refine jo_callp cal_35 con4 (by exact ⟨rfl, rfl, rfl, rfl, trivial⟩) rfl (by exact ⟨⟨rfl, .tail _ (.tail _ (.tail _ (.tail _ (.tail _ (.head _)))))⟩, ⟨⟨rfl, .head _⟩, ⟨⟨rfl, .tail _ (.head _)⟩, ⟨⟨rfl, .tail _ (.tail _ (.head _))⟩, ⟨⟨rfl, .tail _ (.tail _ (.tail _ (.head _)))⟩, trivial⟩⟩⟩⟩⟩) (fun _ => ?_)
        clear con4
        refine jh_in (listed' := #[true, true, true, true, true, true, true, true, true, false]) (fun _ h => Mem.drop1 (Mem.drop1 (Mem.drop1 (Mem.drop1 (h))))) rfl ?_
        refine jh_take (listed' := #[true, true, true, true, true, true, true, true, true, true]) 9 rfl (by kernel_rfl) (by kernel_rfl) (by kernel_rfl) rfl (pr_assign rfl) (fun _ h => Mem.drop1 (Mem.drop1 (Mem.drop1 (Mem.drop1 (h))))) rfl ?_
        refine j_pull10 ?_
        refine j_pull10 ?_
        refine j_pull10 ?_
        refine j_pull10 ?_
        refine j_pull10 ?_
        refine j_pull10 ?_
        refine j_pull10 ?_
        refine j_pull10 ?_
        refine j_pull10 ?_
        refine j_pull10 ?_
        refine j_pull10 ?_
        show JH _ _ _ _ _ _ _ _
        exact jh_done ⟨r5, r6, r7, r8⟩ (by kernel_rfl) ⟨rfl, trivial⟩ (fun _ h => h)
    ·skip
     refine jq_then (jc_ret (jq_in_ret ?_))
     refine jq_then_ret (j_drop (j_drop (j_drop (j_drop (j_drop (j_drop (j_drop (j_drop (j_drop (j_drop (j_drop ?_)))))))))))
     exact jq_ret1 rfl () rfl (show (_ : Value) = (.bool (false)) from rfl) (fun _ h => h)
   ·have h3 := of_decide_eq_false h3b
    refine jc_skip (jq_in_normal (jq_then (jc_seq (jc_region (jo_pure rfl (pr_move rfl) (jo_pure rfl (pr_fieldAddr 1 rfl Tryz.underlying43 rfl ty_3 rfl rfl) ?_))))))
    refine jo_pure rfl (pr_load_box (.int .i64 (q.2.1)) rfl ty_3 (.head _) rfl (by decide) rfl) ?_
    refine jo_callp cal_22 (c_law28_name q.2.1) ⟨rfl, trivial⟩ rfl (trivial) (fun _ => ?_)
    refine jo_callp cal_36 (c_Remove_zero b (nameF q.2.1)) ⟨rfl, rfl, trivial⟩ rfl (⟨⟨rfl, .tail _ (.head _)⟩, trivial⟩) (fun _ => ?_)
    refine jo_pure rfl (pr_assign rfl) (jo_nil (jq_then (jc_ret (j_drop (j_drop (j_drop (j_drop (j_drop (j_drop (j_drop ?_))))))))))
    exact jq_ret1 rfl () rfl (show (_ : Value) = (.bool (false)) from rfl) (fun _ h => h)

theorem c_law28_StoreNil (o : Int × Int × Int × Int × Ent × (List (Axs))) (ov : Value) (ov2 : Value) (ov3 : Value) (ov4 : Value) (ov5 : Value) (zero : Bool) (ho : (o.2.2.2.2.1.1.length ≤ 9223372036854775807 ∧ (∀ k ∈ o.2.2.2.2.1.1, k.length ≤ 9223372036854775807) ∧ o.2.2.2.2.1.2.1.length ≤ 9223372036854775807 ∧ o.2.2.2.2.1.2.2.1.length ≤ 9223372036854775807 ∧ o.2.2.2.2.1.2.2.2.2.1.length ≤ 9223372036854775807) ∧ o.2.2.2.2.2.length ≤ 9223372036854775807 ∧ ∀ a ∈ o.2.2.2.2.2, a.2.length ≤ 9223372036854775807) : Con Tryz.prog 8 #[.agg #[.int .i64 (o.1), .int .i64 (o.2.1), .int .i64 (o.2.2.1), .int .i64 (o.2.2.2.1), ov, ov2, ov3, str (o.2.2.2.2.1.2.2.2.1), ov4, str (o.2.2.2.2.1.2.2.2.2.2.1), .int .i64 (o.2.2.2.2.1.2.2.2.2.2.2.1), .int .i64 (o.2.2.2.2.1.2.2.2.2.2.2.2), ov5], .bool (zero)] [.imm (.list (.list .str)) (ov) (o.2.2.2.2.1.1), .imm (.list .str) (ov2) (o.2.2.2.2.1.2.1), .imm (.list .str) (ov3) (o.2.2.2.2.1.2.2.1), .imm (.list (.pair .str .str)) (ov4) (o.2.2.2.2.1.2.2.2.2.1), .imm (.list (.pair .str (.list .str))) (ov5) (o.2.2.2.2.2)] (fun _ : Unit => .bool (true)) (fun _ => []) := by
 refine con_of_J (args := [.agg #[.int .i64 (o.1), .int .i64 (o.2.1), .int .i64 (o.2.2.1), .int .i64 (o.2.2.2.1), ov, ov2, ov3, str (o.2.2.2.2.1.2.2.2.1), ov4, str (o.2.2.2.2.1.2.2.2.2.2.1), .int .i64 (o.2.2.2.2.1.2.2.2.2.2.2.1), .int .i64 (o.2.2.2.2.1.2.2.2.2.2.2.2), ov5], .bool (zero)]) (n := 47) Tryz.func8 rfl (Nat.le_of_ble_eq_true rfl) rfl (fun w0 I0 m0 => ?_)
 refine jc_seq (jc_region ?_)
 refine jo_box rfl [.int .i64 (o.1), .int .i64 (o.2.1), .int .i64 (o.2.2.1), .int .i64 (o.2.2.2.1), ov, ov2, ov3, str (o.2.2.2.2.1.2.2.2.1), ov4, str (o.2.2.2.2.1.2.2.2.2.2.1), .int .i64 (o.2.2.2.2.1.2.2.2.2.2.2.1), .int .i64 (o.2.2.2.2.1.2.2.2.2.2.2.2), ov5] rfl rfl (fun b1 => ?_)
 refine jo_pure rfl (pr_assign rfl) (jo_nil (jq_then (jc_seq (jc_seq (jc_region (jo_pure rfl (pr_load_box (.agg #[.int .i64 (o.1), .int .i64 (o.2.1), .int .i64 (o.2.2.1), .int .i64 (o.2.2.2.1), ov, ov2, ov3, str (o.2.2.2.2.1.2.2.2.1), ov4, str (o.2.2.2.2.1.2.2.2.2.2.1), .int .i64 (o.2.2.2.2.1.2.2.2.2.2.2.1), .int .i64 (o.2.2.2.2.1.2.2.2.2.2.2.2), ov5]) rfl ty_43 (.head _) rfl (by decide) rfl) ?_))))))
 refine jo_buildSliceL (t := (.pair (.int .i64) (.pair (.int .i64) (.pair (.int .i64) (.pair (.int .i64) (.pair tyE (.list (.pair .str (.list .str))))))))) [o] [.agg #[.int .i64 (o.1), .int .i64 (o.2.1), .int .i64 (o.2.2.1), .int .i64 (o.2.2.2.1), ov, ov2, ov3, str (o.2.2.2.2.1.2.2.2.1), ov4, str (o.2.2.2.2.1.2.2.2.2.2.1), .int .i64 (o.2.2.2.2.1.2.2.2.2.2.2.1), .int .i64 (o.2.2.2.2.1.2.2.2.2.2.2.2), ov5]] [[.int .i64 (o.1), .int .i64 (o.2.1), .int .i64 (o.2.2.1), .int .i64 (o.2.2.2.1), ov, ov2, ov3, str (o.2.2.2.2.1.2.2.2.1), ov4, str (o.2.2.2.2.1.2.2.2.2.2.1), .int .i64 (o.2.2.2.2.1.2.2.2.2.2.2.1), .int .i64 (o.2.2.2.2.1.2.2.2.2.2.2.2), ov5]] (fun a hf => by simp only [List.zipIdx_cons, List.zipIdx_nil, List.map_toArray, List.map_cons, List.map_nil, hf.ev (show ev _ (.tmp 9) = some (.agg #[.int .i64 (o.1), .int .i64 (o.2.1), .int .i64 (o.2.2.1), .int .i64 (o.2.2.2.1), ov, ov2, ov3, str (o.2.2.2.2.1.2.2.2.1), ov4, str (o.2.2.2.2.1.2.2.2.2.2.1), .int .i64 (o.2.2.2.2.1.2.2.2.2.2.2.1), .int .i64 (o.2.2.2.2.1.2.2.2.2.2.2.2), ov5]) from rfl)] <;> rfl) rfl ⟨⟨[.int .i64 (o.1)], [.int .i64 (o.2.1), .int .i64 (o.2.2.1), .int .i64 (o.2.2.2.1), ov, ov2, ov3, str (o.2.2.2.2.1.2.2.2.1), ov4, str (o.2.2.2.2.1.2.2.2.2.2.1), .int .i64 (o.2.2.2.2.1.2.2.2.2.2.2.1), .int .i64 (o.2.2.2.2.1.2.2.2.2.2.2.2), ov5], rfl, rfl, ⟨[.int .i64 (o.2.1)], [.int .i64 (o.2.2.1), .int .i64 (o.2.2.2.1), ov, ov2, ov3, str (o.2.2.2.2.1.2.2.2.1), ov4, str (o.2.2.2.2.1.2.2.2.2.2.1), .int .i64 (o.2.2.2.2.1.2.2.2.2.2.2.1), .int .i64 (o.2.2.2.2.1.2.2.2.2.2.2.2), ov5], rfl, rfl, ⟨[.int .i64 (o.2.2.1)], [.int .i64 (o.2.2.2.1), ov, ov2, ov3, str (o.2.2.2.2.1.2.2.2.1), ov4, str (o.2.2.2.2.1.2.2.2.2.2.1), .int .i64 (o.2.2.2.2.1.2.2.2.2.2.2.1), .int .i64 (o.2.2.2.2.1.2.2.2.2.2.2.2), ov5], rfl, rfl, ⟨[.int .i64 (o.2.2.2.1)], [ov, ov2, ov3, str (o.2.2.2.2.1.2.2.2.1), ov4, str (o.2.2.2.2.1.2.2.2.2.2.1), .int .i64 (o.2.2.2.2.1.2.2.2.2.2.2.1), .int .i64 (o.2.2.2.2.1.2.2.2.2.2.2.2), ov5], rfl, rfl, ⟨[ov, ov2, ov3, str (o.2.2.2.2.1.2.2.2.1), ov4, str (o.2.2.2.2.1.2.2.2.2.2.1), .int .i64 (o.2.2.2.2.1.2.2.2.2.2.2.1), .int .i64 (o.2.2.2.2.1.2.2.2.2.2.2.2)], [ov5], rfl, ⟨[ov], [ov2, ov3, str (o.2.2.2.2.1.2.2.2.1), ov4, str (o.2.2.2.2.1.2.2.2.2.2.1), .int .i64 (o.2.2.2.2.1.2.2.2.2.2.2.1), .int .i64 (o.2.2.2.2.1.2.2.2.2.2.2.2)], rfl, ⟨ov, rfl, .tail _ (.head _)⟩, ⟨[ov2], [ov3, str (o.2.2.2.2.1.2.2.2.1), ov4, str (o.2.2.2.2.1.2.2.2.2.2.1), .int .i64 (o.2.2.2.2.1.2.2.2.2.2.2.1), .int .i64 (o.2.2.2.2.1.2.2.2.2.2.2.2)], rfl, ⟨ov2, rfl, .tail _ (.tail _ (.head _))⟩, ⟨[ov3], [str (o.2.2.2.2.1.2.2.2.1), ov4, str (o.2.2.2.2.1.2.2.2.2.2.1), .int .i64 (o.2.2.2.2.1.2.2.2.2.2.2.1), .int .i64 (o.2.2.2.2.1.2.2.2.2.2.2.2)], rfl, ⟨ov3, rfl, .tail _ (.tail _ (.tail _ (.head _)))⟩, ⟨[str (o.2.2.2.2.1.2.2.2.1)], [ov4, str (o.2.2.2.2.1.2.2.2.2.2.1), .int .i64 (o.2.2.2.2.1.2.2.2.2.2.2.1), .int .i64 (o.2.2.2.2.1.2.2.2.2.2.2.2)], rfl, rfl, ⟨[ov4], [str (o.2.2.2.2.1.2.2.2.2.2.1), .int .i64 (o.2.2.2.2.1.2.2.2.2.2.2.1), .int .i64 (o.2.2.2.2.1.2.2.2.2.2.2.2)], rfl, ⟨ov4, rfl, .tail _ (.tail _ (.tail _ (.tail _ (.head _))))⟩, ⟨[str (o.2.2.2.2.1.2.2.2.2.2.1)], [.int .i64 (o.2.2.2.2.1.2.2.2.2.2.2.1), .int .i64 (o.2.2.2.2.1.2.2.2.2.2.2.2)], rfl, rfl, ⟨[.int .i64 (o.2.2.2.2.1.2.2.2.2.2.2.1)], [.int .i64 (o.2.2.2.2.1.2.2.2.2.2.2.2)], rfl, rfl, rfl⟩⟩⟩⟩⟩⟩⟩, ⟨ov5, rfl, .tail _ (.tail _ (.tail _ (.tail _ (.tail _ (.head _)))))⟩⟩⟩⟩⟩⟩, trivial⟩ Tryz.underlying31 ty_43 rfl rfl rfl rfl (fun g1 => ?_)
 refine j_pub_rowg ?_
 refine jo_callp cal_14 (c_law28_small [o] (.slice (some ⟨g1, 0, none⟩) ([o]).length (([o]).length)) (by first | exact (fun x hx => by rw [List.mem_singleton.1 hx]; exact ho) | (simp; done)) (by first | exact (fun x hx => by rw [List.mem_singleton.1 hx]; exact ho) | (simp; done))) ⟨rfl, trivial⟩ rfl (⟨⟨rfl, .head _⟩, trivial⟩) (fun _ => ?_)
 refine jo_pure rfl (pr_not rfl) ?_
 refine jo_nil (jq_then ?_)
 refine jc_cond rfl (fun h1b => ?_) (fun h1b => ?_)
 ·have h1 := (fun q => id (bt_not q)) h1b
  refine jc_seq (jc_region (jo_pure rfl (pr_assign rfl) (jo_nil (jq_then (jc_ret (jq_then_ret (j_drop (j_drop (j_drop (j_drop (j_drop (j_drop (j_drop ?_)))))))))))))
  exact jq_ret1 rfl () rfl (show (.bool (true) : Value) = (.bool (true)) from rfl) (fun _ h => h)
 ·have h1 := (fun q => id (bf_not q)) h1b
  refine jc_skip (jq_then (jc_seq (jc_region (jo_pure rfl (pr_assign rfl) (jo_nil (jq_then (jc_seq (jc_seq (jc_region (jo_pure rfl (pr_move rfl) (jo_nil (jq_then ?_))))))))))))
  refine jc_cond rfl (fun h2b => ?_) (fun h2b => ?_)
  ·have h2 := id h2b
   refine jc_region (jo_pure rfl (pr_build [] [.int .i64 ((0 : Nat) : Int), .int .i64 ((0 : Nat) : Int), .int .i64 ((0 : Nat) : Int), .int .i64 ((0 : Nat) : Int), .slice none 0 0, .map none] (fun a hf => by simp) (by kernel_rfl)) ?_)
   refine jo_box rfl [.int .i64 ((0 : Nat) : Int), .int .i64 ((0 : Nat) : Int), .int .i64 ((0 : Nat) : Int), .int .i64 ((0 : Nat) : Int), .slice none 0 0, .map none] rfl rfl (fun b2 => ?_)
   refine jo_pure rfl (pr_assign rfl) (jo_nil (jq_then (jc_seq (jc_region (jo_pure rfl (pr_load_box (.agg #[.int .i64 (o.1), .int .i64 (o.2.1), .int .i64 (o.2.2.1), .int .i64 (o.2.2.2.1), ov, ov2, ov3, str (o.2.2.2.2.1.2.2.2.1), ov4, str (o.2.2.2.2.1.2.2.2.2.2.1), .int .i64 (o.2.2.2.2.1.2.2.2.2.2.2.1), .int .i64 (o.2.2.2.2.1.2.2.2.2.2.2.2), ov5]) rfl ty_43 (.tail _ (.tail _ (.head _))) rfl (by decide) rfl) ?_)))))
   refine jo_pure rfl (pr_move rfl) (j_pub_box ?_)
   have con1 := c_do_zero b2 o ov ov2 ov3 ov4 ov5 (small_mem (by simpa using h1b) o (by simp))
   refine jo_callp cal_15 con1 (by exact ⟨rfl, rfl, trivial⟩) rfl (by exact ⟨⟨rfl, .head _⟩, ⟨⟨rfl, .tail _ (.tail _ (.tail _ (.head _)))⟩, ⟨⟨rfl, .tail _ (.tail _ (.tail _ (.tail _ (.head _))))⟩, ⟨⟨rfl, .tail _ (.tail _ (.tail _ (.tail _ (.tail _ (.head _)))))⟩, ⟨⟨rfl, .tail _ (.tail _ (.tail _ (.tail _ (.tail _ (.tail _ (.head _))))))⟩, ⟨⟨rfl, .tail _ (.tail _ (.tail _ (.tail _ (.tail _ (.tail _ (.tail _ (.head _)))))))⟩, trivial⟩⟩⟩⟩⟩⟩) (fun _ => ?_)
   clear con1
   refine jo_pure rfl (pr_assign rfl) (jo_nil (jq_then (jc_seq (jc_region (jo_pure rfl (pr_move rfl) (jo_pure rfl (pr_fieldAddr 1 rfl Tryz.underlying43 rfl ty_3 rfl rfl) ?_))))))
   refine jo_pure rfl (pr_load_box (.int .i64 (o.2.1)) rfl ty_3 (.tail _ (.tail _ (.head _))) rfl (by decide) rfl) ?_
   refine jo_callp cal_22 (c_law28_name o.2.1) ⟨rfl, trivial⟩ rfl (trivial) (fun _ => ?_)
   refine jo_callp cal_18 (c_Get_zero b2 (nameF o.2.1)) ⟨rfl, rfl, trivial⟩ rfl (⟨⟨rfl, .head _⟩, trivial⟩) (fun ⟨r1, r2⟩ => ?_)
   refine jo_pure rfl (pr_move rfl) (jo_pure rfl (pr_extract rfl rfl) (jo_pure rfl (pr_extract rfl rfl) ?_))
   refine jo_alloc ty_50 [.slice none 0 0, .slice none 0 0] rfl rfl (fun b3 => ?_)
   refine jo_storeV rfl rfl ty_50 [r1, r2] (fun _ _ _ _ => rfl) rfl (fun w I m hs => by simp only [List.all_cons, List.all_nil, Bool.and_true, Bool.and_eq_true]; exact ⟨(SliceV.one (imm_slice (.tail _ (.head _)) hs)), (SliceV.one (row_slice (.tail _ (.tail _ (.head _))) hs))⟩) [r1, r2] rfl rfl ?_
   refine jo_pure rfl (pr_assign rfl) (jo_nil (jq_then (jc_seq (jc_region (jo_pure rfl (pr_move rfl) (jo_pure rfl (pr_not rfl) (jo_pure rfl (pr_move rfl) (jo_run (j := 2) (want := true) rfl rfl (rfl) ?_))))))))
   refine jo_pure rfl (pr_move rfl) (jo_run (j := 2) (want := true) rfl rfl (rfl) ?_)
   refine jo_pure rfl (pr_not rfl) ?_
   refine jo_pure rfl (pr_pick_t rfl (rfl) rfl) ?_
   refine jo_pure rfl (pr_move rfl) (jo_run (j := 6) (want := true) rfl rfl (rfl) ?_)
   refine jo_pure rfl (pr_move rfl) (jo_run (j := 6) (want := true) rfl rfl (rfl) ?_)
   refine jo_callp cal_12 (c_Keys_zero b2) ⟨rfl, trivial⟩ rfl (⟨⟨rfl, .tail _ (.tail _ (.tail _ (.head _)))⟩, trivial⟩) (fun _ => ?_)
   refine jo_run (j := 6) (want := true) rfl rfl (rfl) ?_
   refine jo_pure rfl (pr_len rfl Tryz.underlying28) ?_
   refine jo_run (j := 6) (want := true) rfl rfl (rfl) ?_
   refine jo_pure rfl (pr_eqlN (m := 0) (n := 0) rfl rfl) ?_
   refine jo_pure rfl (pr_pick_t rfl (rfl) rfl) ?_
   refine jo_pure rfl (pr_move rfl) ?_
   have ht1 : (decide ((0 : Nat) = 0)) = true := by decide
   refine jo_run (j := 12) (want := true) rfl rfl (ht1) ?_
   refine jo_pure rfl (pr_move rfl) (jo_run (j := 12) (want := true) rfl rfl (ht1) ?_)
   refine jo_callp cal_13 (c_Bytes_zero b2) ⟨rfl, trivial⟩ rfl (⟨⟨rfl, .tail _ (.tail _ (.tail _ (.head _)))⟩, trivial⟩) (fun _ => ?_)
   refine jo_run (j := 12) (want := true) rfl rfl (ht1) ?_
   refine jo_pure rfl (pr_eqlN (m := 0) (n := 0) rfl rfl) ?_
   refine jo_pure rfl (pr_pick_t rfl (ht1) rfl) ?_
   refine jo_pure rfl (pr_move rfl) (jo_run (j := 17) (want := true) rfl rfl (ht1) ?_)
   refine jo_callp cal_11 (c_law28_awake) trivial rfl (trivial) (fun _ => ?_)
   refine jo_pure rfl (pr_pick_t rfl (ht1) rfl) ?_
   refine jo_pure rfl (pr_assign rfl) (jo_nil (jq_then (jc_ret (j_drop (j_drop (j_drop (j_drop (j_drop (j_drop (j_drop (j_drop (j_drop (j_drop (j_drop ?_))))))))))))))
   exact jq_ret1 rfl () rfl (show (.bool (true) : Value) = (.bool (true)) from rfl) (fun _ h => h)
  ·have h2 := id h2b
   refine jc_skip (jq_then (jc_seq (jc_region (jo_pure rfl (pr_load_box (.agg #[.int .i64 (o.1), .int .i64 (o.2.1), .int .i64 (o.2.2.1), .int .i64 (o.2.2.2.1), ov, ov2, ov3, str (o.2.2.2.2.1.2.2.2.1), ov4, str (o.2.2.2.2.1.2.2.2.2.2.1), .int .i64 (o.2.2.2.2.1.2.2.2.2.2.2.1), .int .i64 (o.2.2.2.2.1.2.2.2.2.2.2.2), ov5]) rfl ty_43 (.tail _ (.head _)) rfl (by decide) rfl) ?_))))
   refine jo_pure rfl (pr_move rfl) ?_
   have con2 := c_do_nil  o ov ov2 ov3 ov4 ov5 (small_mem (by simpa using h1b) o (by simp))
   refine jo_callp cal_15 con2 (by exact ⟨rfl, rfl, trivial⟩) rfl (by exact ⟨⟨rfl, .tail _ (.tail _ (.head _))⟩, ⟨⟨rfl, .tail _ (.tail _ (.tail _ (.head _)))⟩, ⟨⟨rfl, .tail _ (.tail _ (.tail _ (.tail _ (.head _))))⟩, ⟨⟨rfl, .tail _ (.tail _ (.tail _ (.tail _ (.tail _ (.head _)))))⟩, ⟨⟨rfl, .tail _ (.tail _ (.tail _ (.tail _ (.tail _ (.tail _ (.head _))))))⟩, trivial⟩⟩⟩⟩⟩) (fun _ => ?_)
   clear con2
   refine jo_pure rfl (pr_assign rfl) (jo_nil (jq_then (jc_seq (jc_region (jo_pure rfl (pr_move rfl) (jo_pure rfl (pr_fieldAddr 1 rfl Tryz.underlying43 rfl ty_3 rfl rfl) ?_))))))
   refine jo_pure rfl (pr_load_box (.int .i64 (o.2.1)) rfl ty_3 (.tail _ (.head _)) rfl (by decide) rfl) ?_
   refine jo_callp cal_22 (c_law28_name o.2.1) ⟨rfl, trivial⟩ rfl (trivial) (fun _ => ?_)
   refine jo_callp cal_18 (c_Get_nil  (nameF o.2.1)) ⟨rfl, rfl, trivial⟩ rfl (trivial) (fun ⟨r3, r4⟩ => ?_)
   refine jo_pure rfl (pr_move rfl) (jo_pure rfl (pr_extract rfl rfl) (jo_pure rfl (pr_extract rfl rfl) ?_))
   refine jo_alloc ty_50 [.slice none 0 0, .slice none 0 0] rfl rfl (fun b4 => ?_)
   refine jo_storeV rfl rfl ty_50 [r3, r4] (fun _ _ _ _ => rfl) rfl (fun w I m hs => by simp only [List.all_cons, List.all_nil, Bool.and_true, Bool.and_eq_true]; exact ⟨(SliceV.one (imm_slice (.tail _ (.head _)) hs)), (SliceV.one (row_slice (.tail _ (.tail _ (.head _))) hs))⟩) [r3, r4] rfl rfl ?_
   refine jo_pure rfl (pr_assign rfl) (jo_nil (jq_then (jc_seq (jc_region (jo_pure rfl (pr_move rfl) (jo_pure rfl (pr_not rfl) (jo_pure rfl (pr_move rfl) (jo_run (j := 2) (want := true) rfl rfl (rfl) ?_))))))))
   refine jo_pure rfl (pr_move rfl) (jo_run (j := 2) (want := true) rfl rfl (rfl) ?_)
   refine jo_pure rfl (pr_not rfl) ?_
   refine jo_pure rfl (pr_pick_t rfl (rfl) rfl) ?_
   refine jo_pure rfl (pr_move rfl) (jo_run (j := 6) (want := true) rfl rfl (rfl) ?_)
   refine jo_pure rfl (pr_move rfl) (jo_run (j := 6) (want := true) rfl rfl (rfl) ?_)
   refine jo_callp cal_12 (c_Keys_nil ) ⟨rfl, trivial⟩ rfl (trivial) (fun _ => ?_)
   refine jo_run (j := 6) (want := true) rfl rfl (rfl) ?_
   refine jo_pure rfl (pr_len rfl Tryz.underlying28) ?_
   refine jo_run (j := 6) (want := true) rfl rfl (rfl) ?_
   refine jo_pure rfl (pr_eqlN (m := 0) (n := 0) rfl rfl) ?_
   refine jo_pure rfl (pr_pick_t rfl (rfl) rfl) ?_
   refine jo_pure rfl (pr_move rfl) ?_
   have ht2 : (decide ((0 : Nat) = 0)) = true := by decide
   refine jo_run (j := 12) (want := true) rfl rfl (ht2) ?_
   refine jo_pure rfl (pr_move rfl) (jo_run (j := 12) (want := true) rfl rfl (ht2) ?_)
   refine jo_callp cal_13 (c_Bytes_nil ) ⟨rfl, trivial⟩ rfl (trivial) (fun _ => ?_)
   refine jo_run (j := 12) (want := true) rfl rfl (ht2) ?_
   refine jo_pure rfl (pr_eqlN (m := 0) (n := 0) rfl rfl) ?_
   refine jo_pure rfl (pr_pick_t rfl (ht2) rfl) ?_
   refine jo_pure rfl (pr_move rfl) (jo_run (j := 17) (want := true) rfl rfl (ht2) ?_)
   refine jo_callp cal_11 (c_law28_awake) trivial rfl (trivial) (fun _ => ?_)
   refine jo_pure rfl (pr_pick_t rfl (ht2) rfl) ?_
   refine jo_pure rfl (pr_assign rfl) (jo_nil (jq_then (jc_ret (j_drop (j_drop (j_drop (j_drop (j_drop (j_drop (j_drop (j_drop (j_drop (j_drop ?_)))))))))))))
   exact jq_ret1 rfl () rfl (show (.bool (true) : Value) = (.bool (true)) from rfl) (fun _ h => h)
end Go.Proofs.YtlniaacdjllonaaGreat
