/-
 Contracts of functions of the program: each returns what a plain function says, for every input within the bounds named. Conditions: the bounds.
-/
import Derived.Test.YtlniaacdjllonaaGreatRows
import Derived.Test.YtlniaacdjllonaaGreatZK9
import Derived.Test.YtlniaacdjllonaaGreatZLawJ
namespace Go.Proofs.YtlniaacdjllonaaGreat
open Go Go.Sep
set_option linter.unusedSimpArgs false
set_option linter.unusedVariables false

open Go.Plain

theorem cal_47 : Cal Tryz.prog 47 := cal_of Tryz.func47 (by kernel_rfl) rfl
theorem cal_48 : Cal Tryz.prog 48 := cal_of Tryz.func48 (by kernel_rfl) rfl
theorem cal_51 : Cal Tryz.prog 51 := cal_of Tryz.func51 (by kernel_rfl) rfl

theorem c_store_Put (b r : Nat) (bu va ta : Nat) (ov : Value) (A : List (Str × (List (Axs)) × (List Ent))) (key : Str) (en : Ent) (env : Value) (env2 : Value) (env3 : Value) (env4 : Value) (axes : List (Axs)) (axesv : Value) (hi : InvA bu va ta A) (hok : ∀ x ∈ A, OkT x.2) (hbu : bu ≤ 100000000) (hva : 1 ≤ va ∧ va ≤ 1000) (hta : 1 ≤ ta ∧ ta ≤ 1000) (he : OkE en) (hxx : OkA axes) : Con Tryz.prog 21 #[.pointer (some ⟨b, 0, none⟩), str (key), .agg #[env, env2, env3, str (en.2.2.2.1), env4, str (en.2.2.2.2.2.1), .int .i64 (en.2.2.2.2.2.2.1), .int .i64 (en.2.2.2.2.2.2.2)], axesv] [.box b 68 [.int .i64 ((bu : Nat) : Int), .int .i64 ((va : Nat) : Int), .int .i64 ((ta : Nat) : Int), .int .i64 ((totA A : Nat) : Int), ov, .map (some r)], .row (ov) 9 .str (keysA A), .mpt r tyT (A), .imm (.list (.list .str)) (env) (en.1), .imm (.list .str) (env2) (en.2.1), .imm (.list .str) (env3) (en.2.2.1), .imm (.list (.pair .str .str)) (env4) (en.2.2.2.2.1), .imm (.list (.pair .str (.list .str))) (axesv) (axes)] (fun r1 : Value => .bool (fitsB bu en axes)) (fun r1 => [.mpt r tyT (putA bu va ta A key en axes), .box b 68 [.int .i64 ((bu : Nat) : Int), .int .i64 ((va : Nat) : Int), .int .i64 ((ta : Nat) : Int), .int .i64 ((totA (putA bu va ta A key en axes) : Nat) : Int), r1, .map (some r)], .row (r1) 9 .str (keysA (putA bu va ta A key en axes))]) := by
 refine con_of_J (args := [.pointer (some ⟨b, 0, none⟩), str (key), .agg #[env, env2, env3, str (en.2.2.2.1), env4, str (en.2.2.2.2.2.1), .int .i64 (en.2.2.2.2.2.2.1), .int .i64 (en.2.2.2.2.2.2.2)], axesv]) (n := 59) Tryz.func21 rfl (Nat.le_of_ble_eq_true rfl) rfl (fun w0 I0 m0 => ?_)
 have hn := hi.keys
 have htot := hi.tot
 have hfo := okT_find hok key
 have hfl := hfo.len
 have hfz := find_tot (k := key) hn
 have hlk := len_keys A
 refine jc_seq (jc_region ?_)
 refine jo_box rfl [env, env2, env3, str (en.2.2.2.1), env4, str (en.2.2.2.2.2.1), .int .i64 (en.2.2.2.2.2.2.1), .int .i64 (en.2.2.2.2.2.2.2)] rfl rfl (fun b1 => ?_)
 refine jo_pure rfl (pr_assign rfl) (jo_nil (jq_then (jc_seq (jc_seq (jc_draws mixed (by kernel_rfl) (jd_pure rfl (pr_move rfl) ?_))))))
 refine jd_callq cal_31 (c_made b r (.int .i64 ((bu : Nat) : Int)) (.int .i64 ((va : Nat) : Int)) (.int .i64 ((ta : Nat) : Int)) (.int .i64 ((totA A : Nat) : Int)) ov) ⟨rfl, trivial⟩ rfl (⟨peek_box (.tail _ (.head _)), trivial⟩) ?_
 refine jd_pure rfl (pr_not rfl) ?_
 refine jd_pure rfl (pr_move rfl) ?_
 refine jd_run (j := 3) (want := false) rfl rfl (rfl) ?_
 refine jd_pure rfl (pr_load_box (.agg #[env, env2, env3, str (en.2.2.2.1), env4, str (en.2.2.2.2.2.1), .int .i64 (en.2.2.2.2.2.2.1), .int .i64 (en.2.2.2.2.2.2.2)]) rfl ty_40 (.head _) rfl (by decide) rfl) ?_
 refine jd_run (j := 3) (want := false) rfl rfl (rfl) ?_
 refine jd_callp cal_45 (c_entry_Size en env env2 env3 env4 (by first | omega | exact he | exact hxx | exact hfo.axes | exact Nat.le_trans hfl (by decide) | exact hfo.ents | (have := hxx.len; omega) | exact (fun a ha => ⟨hxx.names a ha, hxx.strs a ha, Nat.le_trans (hxx.vals a ha) (by decide)⟩))) ⟨rfl, trivial⟩ rfl (⟨⟨rfl, .tail _ (.tail _ (.tail _ (.tail _ (.head _))))⟩, ⟨⟨rfl, .tail _ (.tail _ (.tail _ (.tail _ (.tail _ (.head _)))))⟩, ⟨⟨rfl, .tail _ (.tail _ (.tail _ (.tail _ (.tail _ (.tail _ (.head _))))))⟩, ⟨⟨rfl, .tail _ (.tail _ (.tail _ (.tail _ (.tail _ (.tail _ (.tail _ (.head _)))))))⟩, trivial⟩⟩⟩⟩) ?_
 refine jd_run (j := 3) (want := false) rfl rfl (rfl) ?_
 refine jd_pure rfl (pr_move rfl) ?_
 refine jd_run (j := 3) (want := false) rfl rfl (rfl) ?_
 refine jd_pure rfl (pr_nilCheck rfl) ?_
 refine jd_run (j := 3) (want := false) rfl rfl (rfl) ?_
 refine jd_pure rfl (pr_fieldAddr 0 rfl Tryz.underlying68 rfl ty_3 rfl rfl) ?_
 refine jd_run (j := 3) (want := false) rfl rfl (rfl) ?_
 refine jd_pure rfl (pr_load_box (.int .i64 ((bu : Nat) : Int)) rfl ty_3 (.tail _ (.head _)) rfl (by decide) rfl) ?_
 refine jd_run (j := 3) (want := false) rfl rfl (rfl) ?_
 refine jd_pure rfl (pr_gtrN (m := sizeE en) (n := bu) rfl rfl) ?_
 refine jd_pure rfl (pr_pick_f rfl (rfl) rfl) ?_
 refine jd_pure rfl (pr_move rfl) ?_
 refine jd_gpure (j := 12) (want := false) rfl rfl rfl rfl (fun hg=>pr_move rfl) ?_
 refine jd_gpure (j := 12) (want := false) rfl rfl rfl rfl (fun hg=>pr_len_imm (evg rfl hg) (.tail _ (.tail _ (.tail _ (.tail _ (.tail _ (.tail _ (.tail _ (.tail _ (.head _))))))))) Tryz.underlying41) ?_
 refine jd_gpure (j := 12) (want := false) rfl rfl rfl rfl (fun hg=>pr_gtrN (m := axes.length) (n := 0) (evg rfl hg) rfl) ?_
 refine jd_gpure (j := 12) (want := false) rfl rfl rfl rfl (fun hg=>pr_move (evg rfl hg)) ?_
 refine jd_gpure2 (j := 16) (want := true) rfl rfl rfl rfl (fun hg=>pr_move rfl) ?_
 refine jd_gcall2 (j := 16) (want := true) rfl rfl rfl cal_47 (fun hg => c_variants_Valid axes axesv (by first | omega | exact he | exact hxx | exact hfo.axes | exact Nat.le_trans hfl (by decide) | exact hfo.ents | (have := hxx.len; omega) | exact (fun a ha => ⟨hxx.names a ha, hxx.strs a ha, Nat.le_trans (hxx.vals a ha) (by decide)⟩)) (by first | omega | exact he | exact hxx | exact hfo.axes | exact Nat.le_trans hfl (by decide) | exact hfo.ents | (have := hxx.len; omega) | exact (fun a ha => ⟨hxx.names a ha, hxx.strs a ha, Nat.le_trans (hxx.vals a ha) (by decide)⟩))) (fun hg => ⟨evg rfl hg, trivial⟩) rfl (fun _ => ⟨⟨rfl, .tail _ (.tail _ (.tail _ (.tail _ (.tail _ (.tail _ (.tail _ (.tail _ (.head _))))))))⟩, trivial⟩) ?_
 refine jd_gpure2 (j := 16) (want := true) rfl rfl rfl rfl (fun hg=>pr_not (evg rfl hg)) ?_
 refine jd_gpure (j := 12) (want := false) rfl rfl rfl rfl (fun hg=>pr_pick_and (evg rfl hg) (evg2 rfl hg) rfl) ?_
 refine jd_pure rfl (pr_pick_or rfl rfl rfl) ?_
 refine jd_nil ?_
 refine jq_then ?_
 refine jc_cond rfl (fun h1b => ?_) (fun h1b => ?_)
 ·have h1 := (fun q => Or.imp of_decide_eq_true (fun q => And.imp of_decide_eq_true (fun q => id (bt_not q)) (bt_and q)) (bt_or q)) h1b
  refine jc_seq (jc_region (jo_pure rfl (pr_assign rfl) (jo_nil (jq_then (jc_ret (jq_then_ret (j_drop (j_pull3 (j_drop (j_pull3 (j_drop (j_pull3 (j_drop (j_pull3 (j_drop (j_pull3 (j_drop (j_pull1 (j_pull1 (j_pull2 ?_))))))))))))))))))))
  exact jq_ret1 rfl ov rfl (show (_ : Value) = (.bool (false)) from congrArg Value.bool (fits_no h1b)) (fun _ h => by rw [put_no (fits_no h1b)]; exact h)
 ·have h1 := (fun q => And.imp of_decide_eq_false (fun q => Or.imp of_decide_eq_false (fun q => id (bf_not q)) (bf_and q)) (bf_or q)) h1b
  have hf := fits_yes h1b
  have hsz := fits_size hf
  have hT2 := putT_get (t := findA A key) (e := en) (axes := axes) (V := va) hva.1
  have hto : OkT (putT (findA A key) en axes va) := okT_put hfo he hxx (by omega)
  have hft := front_put_tot (k := key) (e := en) (axes := axes) (V := va) hn
  have hfl2 := front_len A key (putT (findA A key) en axes va)
  refine jc_skip (jq_then (jc_seq ?_))
  refine jc_heldI (fun (iq : Nat × Value × Value) => [(0, .pointer (some ⟨b, 0, none⟩)), (1, str (key)), (9, .pointer (some ⟨iq.1, 0, none⟩))]) (fun iq => [.box iq.1 50 [iq.2.1, iq.2.2], .imm (.list (.pair .str (.list .str))) (iq.2.1) (axes), .imm (.list tyE) (iq.2.2) ((putT (((lookS A key).getD ([], []))) en axes va).2), .box b1 40 [env, env2, env3, str (en.2.2.2.1), env4, str (en.2.2.2.2.2.1), .int .i64 (en.2.2.2.2.2.2.1), .int .i64 (en.2.2.2.2.2.2.2)], .box b 68 [.int .i64 ((bu : Nat) : Int), .int .i64 ((va : Nat) : Int), .int .i64 ((ta : Nat) : Int), .int .i64 ((totA A : Nat) : Int), ov, .map (some r)], .row (ov) 9 .str (keysA A), .mpt r tyT (A), .imm (.list (.list .str)) (env) (en.1), .imm (.list .str) (env2) (en.2.1), .imm (.list .str) (env3) (en.2.2.1), .imm (.list (.pair .str .str)) (env4) (en.2.2.2.2.1), .imm (.list (.pair .str (.list .str))) (axesv) (axes)]) [.box b1 40 [env, env2, env3, str (en.2.2.2.1), env4, str (en.2.2.2.2.2.1), .int .i64 (en.2.2.2.2.2.2.1), .int .i64 (en.2.2.2.2.2.2.2)], .box b 68 [.int .i64 ((bu : Nat) : Int), .int .i64 ((va : Nat) : Int), .int .i64 ((ta : Nat) : Int), .int .i64 ((totA A : Nat) : Int), ov, .map (some r)], .row (ov) 9 .str (keysA A), .mpt r tyT (A), .imm (.list (.list .str)) (env) (en.1), .imm (.list .str) (env2) (en.2.1), .imm (.list .str) (env3) (en.2.2.1), .imm (.list (.pair .str .str)) (env4) (en.2.2.2.2.1), .imm (.list (.pair .str (.list .str))) (axesv) (axes)] [14] mixed (fun lst hlst => ?_) (fun ⟨b2, r1, r2⟩ => ?_)
  ·subst hlst
   refine ji_take (listed' := #[true, false, false, false, false, false, false, false, false, false, false, false, false, false, false]) 0 rfl (by kernel_rfl) (by kernel_rfl) (by kernel_rfl) (by kernel_rfl) rfl (pr_move rfl) (fun _ h => h) rfl ?_
   refine ji_take (listed' := #[true, true, false, false, false, false, false, false, false, false, false, false, false, false, false]) 1 rfl (by kernel_rfl) (by kernel_rfl) (by kernel_rfl) (by kernel_rfl) rfl (pr_nilCheck rfl) (fun _ h => h) rfl ?_
   refine ji_take (listed' := #[true, true, true, false, false, false, false, false, false, false, false, false, false, false, false]) 2 rfl (by kernel_rfl) (by kernel_rfl) (by kernel_rfl) (by kernel_rfl) rfl (pr_fieldAddr 5 rfl Tryz.underlying68 rfl ty_66 rfl rfl) (fun _ h => h) rfl ?_
   refine ji_take (listed' := #[true, true, true, true, false, false, false, false, false, false, false, false, false, false, false]) 3 rfl (by kernel_rfl) (by kernel_rfl) (by kernel_rfl) (by kernel_rfl) rfl (pr_load_box (.map (some r)) rfl ty_66 (.tail _ (.head _)) rfl (by decide) rfl) (fun _ h => h) rfl ?_
   refine ji_take (listed' := #[true, true, true, true, true, false, false, false, false, false, false, false, false, false, false]) 4 rfl (by kernel_rfl) (by kernel_rfl) (by kernel_rfl) (by kernel_rfl) rfl (pr_move rfl) (fun _ h => h) rfl ?_
   refine ji_take (listed' := #[true, true, true, true, true, false, true, false, false, false, false, false, false, false, false]) 6 rfl (by kernel_rfl) (by kernel_rfl) (by kernel_rfl) (by kernel_rfl) rfl (pr_load_box (.agg #[env, env2, env3, str (en.2.2.2.1), env4, str (en.2.2.2.2.2.1), .int .i64 (en.2.2.2.2.2.2.1), .int .i64 (en.2.2.2.2.2.2.2)]) rfl ty_40 (.head _) rfl (by decide) rfl) (fun _ h => h) rfl ?_
   refine ji_take (listed' := #[true, true, true, true, true, false, true, true, false, false, false, false, false, false, false]) 7 rfl (by kernel_rfl) (by kernel_rfl) (by kernel_rfl) (by kernel_rfl) rfl (pr_move rfl) (fun _ h => h) rfl ?_
   refine ji_take (listed' := #[true, true, true, true, true, false, true, true, true, false, false, false, false, false, false]) 8 rfl (by kernel_rfl) (by kernel_rfl) (by kernel_rfl) (by kernel_rfl) rfl (pr_move rfl) (fun _ h => h) rfl ?_
   refine ji_take (listed' := #[true, true, true, true, true, false, true, true, true, true, false, false, false, false, false]) 9 rfl (by kernel_rfl) (by kernel_rfl) (by kernel_rfl) (by kernel_rfl) rfl (pr_nilCheck rfl) (fun _ h => h) rfl ?_
   refine ji_take (listed' := #[true, true, true, true, true, false, true, true, true, true, true, false, false, false, false]) 10 rfl (by kernel_rfl) (by kernel_rfl) (by kernel_rfl) (by kernel_rfl) rfl (pr_fieldAddr 1 rfl Tryz.underlying68 rfl ty_3 rfl rfl) (fun _ h => h) rfl ?_
   refine ji_take (listed' := #[true, true, true, true, true, false, true, true, true, true, true, true, false, false, false]) 11 rfl (by kernel_rfl) (by kernel_rfl) (by kernel_rfl) (by kernel_rfl) rfl (pr_load_box (.int .i64 ((va : Nat) : Int)) rfl ty_3 (.tail _ (.head _)) rfl (by decide) rfl) (fun _ h => h) rfl ?_
   refine ji_all [5, 13] (by kernel_rfl) (by simp) (fun i hi => ?_)
   simp only [List.mem_cons, List.not_mem_nil, or_false] at hi
   rcases hi with rfl | rfl
   ·refine jh_op rfl ?_
    refine jo_lookT (ty := tyT) ([], []) rfl rfl (.tail _ (.tail _ (.tail _ (.head _)))) Tryz.underlying66 Tryz.underlying9 ty_50 (fun w I => ⟨[.slice none 0 0, .slice none 0 0], rfl, [.slice none 0 0], [.slice none 0 0], rfl, repC_nil, repC_nil⟩) rfl (fun ⟨e1, e2⟩ => ?_)
    refine ji_in (listed' := #[true, true, true, true, true, true, true, true, true, true, true, true, false, false, false]) (fun _ h => Mem.drop1 (Mem.drop1 (h))) rfl ?_
    refine ji_all [12, 13] (by kernel_rfl) (by simp) (fun i hi => ?_)
    simp only [List.mem_cons, List.not_mem_nil, or_false] at hi
    rcases hi with rfl | rfl
    ·refine jh_op rfl ?_
     have con1 := c_table_Put (((lookS A key).getD ([], []))) e1 e2 en env env2 env3 env4 axes axesv va (by first | omega | exact he | exact hxx | exact hfo.axes | exact Nat.le_trans hfl (by decide) | exact hfo.ents | (have := hxx.len; omega) | exact (fun a ha => ⟨hxx.names a ha, hxx.strs a ha, Nat.le_trans (hxx.vals a ha) (by decide)⟩)) (by first | omega | exact he | exact hxx | exact hfo.axes | exact Nat.le_trans hfl (by decide) | exact hfo.ents | (have := hxx.len; omega) | exact (fun a ha => ⟨hxx.names a ha, hxx.strs a ha, Nat.le_trans (hxx.vals a ha) (by decide)⟩)) (by first | omega | exact he | exact hxx | exact hfo.axes | exact Nat.le_trans hfl (by decide) | exact hfo.ents | (have := hxx.len; omega) | exact (fun a ha => ⟨hxx.names a ha, hxx.strs a ha, Nat.le_trans (hxx.vals a ha) (by decide)⟩)) (by first | omega | exact he | exact hxx | exact hfo.axes | exact Nat.le_trans hfl (by decide) | exact hfo.ents | (have := hxx.len; omega) | exact (fun a ha => ⟨hxx.names a ha, hxx.strs a ha, Nat.le_trans (hxx.vals a ha) (by decide)⟩)) (by first | omega | exact he | exact hxx | exact hfo.axes | exact Nat.le_trans hfl (by decide) | exact hfo.ents | (have := hxx.len; omega) | exact (fun a ha => ⟨hxx.names a ha, hxx.strs a ha, Nat.le_trans (hxx.vals a ha) (by decide)⟩)) (by first | omega | exact he | exact hxx | exact hfo.axes | exact Nat.le_trans hfl (by decide) | exact hfo.ents | (have := hxx.len; omega) | exact (fun a ha => ⟨hxx.names a ha, hxx.strs a ha, Nat.le_trans (hxx.vals a ha) (by decide)⟩))
     refine jo_callp cal_48 con1 (by exact ⟨rfl, rfl, rfl, rfl, trivial⟩) rfl (by exact ⟨⟨rfl, .head _⟩, ⟨⟨rfl, .tail _ (.head _)⟩, ⟨⟨rfl, .tail _ (.tail _ (.tail _ (.tail _ (.tail _ (.tail _ (.head _))))))⟩, ⟨⟨rfl, .tail _ (.tail _ (.tail _ (.tail _ (.tail _ (.tail _ (.tail _ (.head _)))))))⟩, ⟨⟨rfl, .tail _ (.tail _ (.tail _ (.tail _ (.tail _ (.tail _ (.tail _ (.tail _ (.head _))))))))⟩, ⟨⟨rfl, .tail _ (.tail _ (.tail _ (.tail _ (.tail _ (.tail _ (.tail _ (.tail _ (.tail _ (.head _)))))))))⟩, ⟨⟨rfl, .tail _ (.tail _ (.tail _ (.tail _ (.tail _ (.tail _ (.tail _ (.tail _ (.tail _ (.tail _ (.head _))))))))))⟩, trivial⟩⟩⟩⟩⟩⟩⟩) (fun ⟨r1, r2⟩ => ?_)
     clear con1
     refine ji_in (listed' := #[true, true, true, true, true, true, true, true, true, true, true, true, true, false, false]) (fun _ h => Mem.drop1 (Mem.drop1 (Mem.drop1 (Mem.drop1 (h))))) rfl ?_
     refine ji_all [13] (by kernel_rfl) (by simp) (fun i hi => ?_)
     simp only [List.mem_cons, List.not_mem_nil, or_false] at hi
     subst hi
     ·refine jh_op rfl ?_
      refine jo_alloc ty_50 [.slice none 0 0, .slice none 0 0] rfl rfl (fun b2 => ?_)
      refine ji_in (listed' := #[true, true, true, true, true, true, true, true, true, true, true, true, true, true, false]) (fun _ h => Mem.drop1 (Mem.drop1 (Mem.drop1 (Mem.drop1 (Mem.drop1 (h)))))) rfl ?_
      refine ji_all [14] (by kernel_rfl) (by simp) (fun i hi => ?_)
      simp only [List.mem_cons, List.not_mem_nil, or_false] at hi
      subst hi
      ·refine jh_op rfl ?_
       refine jo_storeV rfl rfl ty_50 [r1, r2] (fun _ _ _ _ => rfl) rfl (fun w I m hs => by simp only [List.all_cons, List.all_nil, Bool.and_true, Bool.and_eq_true]; exact ⟨(SliceV.one (imm_slice (.tail _ (.head _)) hs)), (SliceV.one (imm_slice (.tail _ (.tail _ (.head _))) hs))⟩) [r1, r2] rfl rfl ?_
       refine ji_in2 (listed' := #[true, true, true, true, true, true, true, true, true, true, true, true, true, true, true]) (by kernel_rfl) rfl ?_
       refine j_pull3 (j_drop (j_pull3 (j_drop (j_pull11 ?_))))
       refine j_pull11 ?_
       refine j_pull11 ?_
       refine j_pull11 ?_
       refine j_pull11 ?_
       refine j_pull11 ?_
       refine j_pull11 ?_
       refine j_pull11 ?_
       refine j_pull11 ?_
       refine j_pull11 ?_
       refine j_pull11 ?_
       refine j_pull11 ?_
       show JI _ _ _ _ _ _ _ _ _
       exact ji_done ⟨b2, r1, r2⟩ (by kernel_rfl) ⟨rfl, rfl, rfl, trivial⟩ (fun _ h => h)
    ·refine jh_op rfl ?_
     refine jo_alloc ty_50 [.slice none 0 0, .slice none 0 0] rfl rfl (fun b3 => ?_)
     refine ji_in (listed' := #[true, true, true, true, true, true, true, true, true, true, true, true, false, true, false]) (fun _ h => Mem.drop1 (Mem.drop1 (Mem.drop1 (h)))) rfl ?_
     refine ji_all [12] (by kernel_rfl) (by simp) (fun i hi => ?_)
     simp only [List.mem_cons, List.not_mem_nil, or_false] at hi
     subst hi
     ·refine jh_op rfl ?_
      have con2 := c_table_Put (((lookS A key).getD ([], []))) e1 e2 en env env2 env3 env4 axes axesv va (by first | omega | exact he | exact hxx | exact hfo.axes | exact Nat.le_trans hfl (by decide) | exact hfo.ents | (have := hxx.len; omega) | exact (fun a ha => ⟨hxx.names a ha, hxx.strs a ha, Nat.le_trans (hxx.vals a ha) (by decide)⟩)) (by first | omega | exact he | exact hxx | exact hfo.axes | exact Nat.le_trans hfl (by decide) | exact hfo.ents | (have := hxx.len; omega) | exact (fun a ha => ⟨hxx.names a ha, hxx.strs a ha, Nat.le_trans (hxx.vals a ha) (by decide)⟩)) (by first | omega | exact he | exact hxx | exact hfo.axes | exact Nat.le_trans hfl (by decide) | exact hfo.ents | (have := hxx.len; omega) | exact (fun a ha => ⟨hxx.names a ha, hxx.strs a ha, Nat.le_trans (hxx.vals a ha) (by decide)⟩)) (by first | omega | exact he | exact hxx | exact hfo.axes | exact Nat.le_trans hfl (by decide) | exact hfo.ents | (have := hxx.len; omega) | exact (fun a ha => ⟨hxx.names a ha, hxx.strs a ha, Nat.le_trans (hxx.vals a ha) (by decide)⟩)) (by first | omega | exact he | exact hxx | exact hfo.axes | exact Nat.le_trans hfl (by decide) | exact hfo.ents | (have := hxx.len; omega) | exact (fun a ha => ⟨hxx.names a ha, hxx.strs a ha, Nat.le_trans (hxx.vals a ha) (by decide)⟩)) (by first | omega | exact he | exact hxx | exact hfo.axes | exact Nat.le_trans hfl (by decide) | exact hfo.ents | (have := hxx.len; omega) | exact (fun a ha => ⟨hxx.names a ha, hxx.strs a ha, Nat.le_trans (hxx.vals a ha) (by decide)⟩))
      refine jo_callp cal_48 con2 (by exact ⟨rfl, rfl, rfl, rfl, trivial⟩) rfl (by exact ⟨⟨rfl, .tail _ (.head _)⟩, ⟨⟨rfl, .tail _ (.tail _ (.head _))⟩, ⟨⟨rfl, .tail _ (.tail _ (.tail _ (.tail _ (.tail _ (.tail _ (.tail _ (.head _)))))))⟩, ⟨⟨rfl, .tail _ (.tail _ (.tail _ (.tail _ (.tail _ (.tail _ (.tail _ (.tail _ (.head _))))))))⟩, ⟨⟨rfl, .tail _ (.tail _ (.tail _ (.tail _ (.tail _ (.tail _ (.tail _ (.tail _ (.tail _ (.head _)))))))))⟩, ⟨⟨rfl, .tail _ (.tail _ (.tail _ (.tail _ (.tail _ (.tail _ (.tail _ (.tail _ (.tail _ (.tail _ (.head _))))))))))⟩, ⟨⟨rfl, .tail _ (.tail _ (.tail _ (.tail _ (.tail _ (.tail _ (.tail _ (.tail _ (.tail _ (.tail _ (.tail _ (.head _)))))))))))⟩, trivial⟩⟩⟩⟩⟩⟩⟩) (fun ⟨r3, r4⟩ => ?_)
      clear con2
      refine ji_in (listed' := #[true, true, true, true, true, true, true, true, true, true, true, true, true, true, false]) (fun _ h => Mem.drop1 (Mem.drop1 (Mem.drop1 (Mem.drop1 (Mem.drop1 (h)))))) rfl ?_
      refine ji_all [14] (by kernel_rfl) (by simp) (fun i hi => ?_)
      simp only [List.mem_cons, List.not_mem_nil, or_false] at hi
      subst hi
      ·refine jh_op rfl ?_
       refine j_pull2 (jo_storeV rfl rfl ty_50 [r3, r4] (fun _ _ _ _ => rfl) rfl (fun w I m hs => by simp only [List.all_cons, List.all_nil, Bool.and_true, Bool.and_eq_true]; exact ⟨(SliceV.one (imm_slice (.tail _ (.head _)) hs)), (SliceV.one (imm_slice (.tail _ (.tail _ (.head _))) hs))⟩) [r3, r4] rfl rfl ?_)
       refine ji_in2 (listed' := #[true, true, true, true, true, true, true, true, true, true, true, true, true, true, true]) (by kernel_rfl) rfl ?_
       refine j_pull3 (j_drop (j_pull3 (j_drop (j_pull11 ?_))))
       refine j_pull11 ?_
       refine j_pull11 ?_
       refine j_pull11 ?_
       refine j_pull11 ?_
       refine j_pull11 ?_
       refine j_pull11 ?_
       refine j_pull11 ?_
       refine j_pull11 ?_
       refine j_pull11 ?_
       refine j_pull11 ?_
       refine j_pull11 ?_
       show JI _ _ _ _ _ _ _ _ _
       exact ji_done ⟨b3, r3, r4⟩ (by kernel_rfl) ⟨rfl, rfl, rfl, trivial⟩ (fun _ h => h)
   ·refine jh_op rfl ?_
    refine jo_alloc ty_50 [.slice none 0 0, .slice none 0 0] rfl rfl (fun b4 => ?_)
    refine ji_in (listed' := #[true, true, true, true, true, false, true, true, true, true, true, true, false, true, false]) (fun _ h => Mem.drop1 (h)) rfl ?_
    refine ji_all [5] (by kernel_rfl) (by simp) (fun i hi => ?_)
    simp only [List.mem_cons, List.not_mem_nil, or_false] at hi
    subst hi
    ·refine jh_op rfl ?_
     refine jo_lookT (ty := tyT) ([], []) rfl rfl (.tail _ (.tail _ (.tail _ (.tail _ (.head _))))) Tryz.underlying66 Tryz.underlying9 ty_50 (fun w I => ⟨[.slice none 0 0, .slice none 0 0], rfl, [.slice none 0 0], [.slice none 0 0], rfl, repC_nil, repC_nil⟩) rfl (fun ⟨e3, e4⟩ => ?_)
     refine ji_in (listed' := #[true, true, true, true, true, true, true, true, true, true, true, true, false, true, false]) (fun _ h => Mem.drop1 (Mem.drop1 (Mem.drop1 (h)))) rfl ?_
     refine ji_all [12] (by kernel_rfl) (by simp) (fun i hi => ?_)
     simp only [List.mem_cons, List.not_mem_nil, or_false] at hi
     subst hi
     ·refine jh_op rfl ?_
      have con3 := c_table_Put (((lookS A key).getD ([], []))) e3 e4 en env env2 env3 env4 axes axesv va (by first | omega | exact he | exact hxx | exact hfo.axes | exact Nat.le_trans hfl (by decide) | exact hfo.ents | (have := hxx.len; omega) | exact (fun a ha => ⟨hxx.names a ha, hxx.strs a ha, Nat.le_trans (hxx.vals a ha) (by decide)⟩)) (by first | omega | exact he | exact hxx | exact hfo.axes | exact Nat.le_trans hfl (by decide) | exact hfo.ents | (have := hxx.len; omega) | exact (fun a ha => ⟨hxx.names a ha, hxx.strs a ha, Nat.le_trans (hxx.vals a ha) (by decide)⟩)) (by first | omega | exact he | exact hxx | exact hfo.axes | exact Nat.le_trans hfl (by decide) | exact hfo.ents | (have := hxx.len; omega) | exact (fun a ha => ⟨hxx.names a ha, hxx.strs a ha, Nat.le_trans (hxx.vals a ha) (by decide)⟩)) (by first | omega | exact he | exact hxx | exact hfo.axes | exact Nat.le_trans hfl (by decide) | exact hfo.ents | (have := hxx.len; omega) | exact (fun a ha => ⟨hxx.names a ha, hxx.strs a ha, Nat.le_trans (hxx.vals a ha) (by decide)⟩)) (by first | omega | exact he | exact hxx | exact hfo.axes | exact Nat.le_trans hfl (by decide) | exact hfo.ents | (have := hxx.len; omega) | exact (fun a ha => ⟨hxx.names a ha, hxx.strs a ha, Nat.le_trans (hxx.vals a ha) (by decide)⟩)) (by first | omega | exact he | exact hxx | exact hfo.axes | exact Nat.le_trans hfl (by decide) | exact hfo.ents | (have := hxx.len; omega) | exact (fun a ha => ⟨hxx.names a ha, hxx.strs a ha, Nat.le_trans (hxx.vals a ha) (by decide)⟩))
      refine jo_callp cal_48 con3 (by exact ⟨rfl, rfl, rfl, rfl, trivial⟩) rfl (by exact ⟨⟨rfl, .head _⟩, ⟨⟨rfl, .tail _ (.head _)⟩, ⟨⟨rfl, .tail _ (.tail _ (.tail _ (.tail _ (.tail _ (.tail _ (.tail _ (.head _)))))))⟩, ⟨⟨rfl, .tail _ (.tail _ (.tail _ (.tail _ (.tail _ (.tail _ (.tail _ (.tail _ (.head _))))))))⟩, ⟨⟨rfl, .tail _ (.tail _ (.tail _ (.tail _ (.tail _ (.tail _ (.tail _ (.tail _ (.tail _ (.head _)))))))))⟩, ⟨⟨rfl, .tail _ (.tail _ (.tail _ (.tail _ (.tail _ (.tail _ (.tail _ (.tail _ (.tail _ (.tail _ (.head _))))))))))⟩, ⟨⟨rfl, .tail _ (.tail _ (.tail _ (.tail _ (.tail _ (.tail _ (.tail _ (.tail _ (.tail _ (.tail _ (.tail _ (.head _)))))))))))⟩, trivial⟩⟩⟩⟩⟩⟩⟩) (fun ⟨r5, r6⟩ => ?_)
      clear con3
      refine ji_in (listed' := #[true, true, true, true, true, true, true, true, true, true, true, true, true, true, false]) (fun _ h => Mem.drop1 (Mem.drop1 (Mem.drop1 (Mem.drop1 (Mem.drop1 (h)))))) rfl ?_
      refine ji_all [14] (by kernel_rfl) (by simp) (fun i hi => ?_)
      simp only [List.mem_cons, List.not_mem_nil, or_false] at hi
      subst hi
      ·refine jh_op rfl ?_
       refine j_pull4 ?_
       refine jo_storeV rfl rfl ty_50 [r5, r6] (fun _ _ _ _ => rfl) rfl (fun w I m hs => by simp only [List.all_cons, List.all_nil, Bool.and_true, Bool.and_eq_true]; exact ⟨(SliceV.one (imm_slice (.tail _ (.head _)) hs)), (SliceV.one (imm_slice (.tail _ (.tail _ (.head _))) hs))⟩) [r5, r6] rfl rfl ?_
       refine ji_in2 (listed' := #[true, true, true, true, true, true, true, true, true, true, true, true, true, true, true]) (by kernel_rfl) rfl ?_
       refine j_pull3 (j_drop (j_pull3 (j_drop (j_pull11 ?_))))
       refine j_pull11 ?_
       refine j_pull11 ?_
       refine j_pull11 ?_
       refine j_pull11 ?_
       refine j_pull11 ?_
       refine j_pull11 ?_
       refine j_pull11 ?_
       refine j_pull11 ?_
       refine j_pull11 ?_
       refine j_pull11 ?_
       refine j_pull11 ?_
       show JI _ _ _ _ _ _ _ _ _
       exact ji_done ⟨b4, r5, r6⟩ (by kernel_rfl) ⟨rfl, rfl, rfl, trivial⟩ (fun _ h => h)
  ·skip
   refine jq_then (jc_seq (jc_region (jo_pure rfl (pr_move rfl) (jo_pure rfl (pr_move rfl) (jo_pure rfl (pr_load_box (.agg #[r1, r2]) rfl ty_50 (.head _) rfl (by decide) rfl) ?_)))))
   refine j_pull1 (j_dup rfl ?_)
   refine j_pull3 (j_dup rfl ?_)
   refine j_pull2 (j_pull8 ?_)
   refine j_pull8 ?_
   refine j_pull8 ?_
   refine jo_callm [.imm (.list tyE) (r2) ((putT (((lookS A key).getD ([], []))) en axes va).2), .imm (.list (.pair .str (.list .str))) (r1) (axes), .box b2 50 [r1, r2], .box b1 40 [env, env2, env3, str (en.2.2.2.1), env4, str (en.2.2.2.2.2.1), .int .i64 (en.2.2.2.2.2.2.1), .int .i64 (en.2.2.2.2.2.2.2)], .imm (.list (.list .str)) (env) (en.1), .imm (.list .str) (env2) (en.2.1), .imm (.list .str) (env3) (en.2.2.1), .imm (.list (.pair .str .str)) (env4) (en.2.2.2.2.1), .imm (.list (.pair .str (.list .str))) (axesv) (axes)] rfl cal_49 (c_store_set b r bu va ta (totA A) ov (keysA A) A key (axes, (putT (((lookS A key).getD ([], []))) en axes va).2) r1 r2 (by omega) (hok) (hto) (Nat.le_trans hfz (Nat.le_add_right _ _)) (by omega)) ⟨rfl, rfl, rfl, trivial⟩ rfl (fun r7 => ?_)
   refine jo_nil (jq_then (jc_seq (jc_region (jo_pure rfl (pr_move rfl) (jo_pure rfl (pr_move rfl) (j_pull1 (j_pull1 ?_)))))))
   refine jo_callm [.mpt r tyT (setM A key (axes, (putT (((lookS A key).getD ([], []))) en axes va).2)), .imm (.list tyE) (r2) ((putT (((lookS A key).getD ([], []))) en axes va).2), .imm (.list (.pair .str (.list .str))) (r1) (axes), .box b2 50 [r1, r2], .box b1 40 [env, env2, env3, str (en.2.2.2.1), env4, str (en.2.2.2.2.2.1), .int .i64 (en.2.2.2.2.2.2.1), .int .i64 (en.2.2.2.2.2.2.2)], .imm (.list (.list .str)) (env) (en.1), .imm (.list .str) (env2) (en.2.1), .imm (.list .str) (env3) (en.2.2.1), .imm (.list (.pair .str .str)) (env4) (en.2.2.2.2.1), .imm (.list (.pair .str (.list .str))) (axesv) (axes)] rfl cal_50 (c_store_first b r bu va ta (.int .i64 (((totA A) + sizeL (axes, (putT (((lookS A key).getD ([], []))) en axes va).2).2 - sizeL (findA A key).2 : Nat) : Int)) r7 (setO (keysA A) key (axes, (putT (((lookS A key).getD ([], []))) en axes va).2)) key (by rw [setO_yes (by exact hT2.1)]; omega)) ⟨rfl, rfl, trivial⟩ rfl (fun r8 => ?_)
   refine jo_nil (jq_then (jc_seq ?_))
   rw [show setM A key (axes, (putT (((lookS A key).getD ([], []))) en axes va).2) = frontA A key (putT (findA A key) en axes va) from setM_yes hT2.1, show frontS (setO (keysA A) key (axes, (putT (((lookS A key).getD ([], []))) en axes va).2)) key = keysA (frontA A key (putT (findA A key) en axes va)) from by rw [keys_front]; exact congrArg (fun q => frontS q key) (setO_yes hT2.1), show (totA A) + sizeL (axes, (putT (((lookS A key).getD ([], []))) en axes va).2).2 - sizeL (findA A key).2 = totA (frontA A key (putT (findA A key) en axes va)) from front_used hn]
   refine jc_region (jo_pure rfl (pr_move rfl) (jo_pure rfl (pr_move rfl) (jo_pure rfl (pr_fieldAddr 1 rfl Tryz.underlying50 rfl ty_48 rfl rfl) ?_)))
   refine jo_pure rfl (pr_load_box (r2) rfl ty_48 (.tail _ (.tail _ (.tail _ (.tail _ (.tail _ (.head _)))))) rfl (by decide) rfl) ?_
   refine jo_pure rfl (pr_len_imm rfl (.tail _ (.tail _ (.tail _ (.head _)))) Tryz.underlying48) ?_
   refine jo_pure rfl (pr_sub (m := ((((putT (((lookS A key).getD ([], []))) en axes va).2).length : Nat) : Int)) (n := ((1 : Nat) : Int)) rfl rfl (by have h9 : (putT ((lookS A key).getD ([], [])) en axes va).2.length ≤ 100000000 := hto.len; omega)) ?_
   refine j_pull2 (j_pull2 (j_pull2 ?_))
   refine jo_callm [.imm (.list tyE) (r2) ((putT (((lookS A key).getD ([], []))) en axes va).2), .imm (.list (.pair .str (.list .str))) (r1) (axes), .box b2 50 [r1, r2], .box b1 40 [env, env2, env3, str (en.2.2.2.1), env4, str (en.2.2.2.2.2.1), .int .i64 (en.2.2.2.2.2.2.1), .int .i64 (en.2.2.2.2.2.2.2)], .imm (.list (.list .str)) (env) (en.1), .imm (.list .str) (env2) (en.2.1), .imm (.list .str) (env3) (en.2.2.1), .imm (.list (.pair .str .str)) (env4) (en.2.2.2.2.1), .imm (.list (.pair .str (.list .str))) (axesv) (axes)] rfl cal_51 (c_store_shrink b r bu va ta r8 (frontA A key (putT (findA A key) en axes va)) key (((((putT (((lookS A key).getD ([], []))) en axes va).2).length : Nat) : Int) - ((1 : Nat) : Int)) true axes en (put_good hva.1 hn hi.some_) (hsz) (hta.1) (okT_front hok hto) (by omega) (by omega)) ⟨rfl, rfl, rfl, trivial⟩ rfl (fun r9 => ?_)
   refine jo_nil (jq_then (jc_seq (jc_region (jo_pure rfl (pr_assign rfl) (jo_nil (jq_then (jc_ret (j_pull3 (j_drop (j_pull3 (j_drop (j_pull3 (j_drop (j_pull3 (j_drop (j_pull3 (j_drop (j_pull3 (j_drop (j_pull3 (j_drop (j_pull3 (j_drop ?_)))))))))))))))))))))))
   refine j_pull3 (j_drop (j_pull2 (j_pull2 (j_pull2 ?_))))
   exact jq_ret1 rfl r9 rfl (show (_ : Value) = (.bool (true)) from congrArg Value.bool hf) (fun _ h => by rw [put_yes hf]; exact h)

theorem c_store_Replace (b r : Nat) (bu va ta : Nat) (ov : Value) (A : List (Str × (List (Axs)) × (List Ent))) (key : Str) (iz : Int) (en : Ent) (env : Value) (env2 : Value) (env3 : Value) (env4 : Value) (hi : InvA bu va ta A) (hok : ∀ x ∈ A, OkT x.2) (hbu : bu ≤ 100000000) (hva : 1 ≤ va ∧ va ≤ 1000) (hta : 1 ≤ ta ∧ ta ≤ 1000) (he : OkE en) (hes : sizeE en ≤ 500000000) : Con Tryz.prog 35 #[.pointer (some ⟨b, 0, none⟩), str (key), .int .i64 (iz), .agg #[env, env2, env3, str (en.2.2.2.1), env4, str (en.2.2.2.2.2.1), .int .i64 (en.2.2.2.2.2.2.1), .int .i64 (en.2.2.2.2.2.2.2)]] [.box b 68 [.int .i64 ((bu : Nat) : Int), .int .i64 ((va : Nat) : Int), .int .i64 ((ta : Nat) : Int), .int .i64 ((totA A : Nat) : Int), ov, .map (some r)], .row (ov) 9 .str (keysA A), .mpt r tyT (A), .imm (.list (.list .str)) (env) (en.1), .imm (.list .str) (env2) (en.2.1), .imm (.list .str) (env3) (en.2.2.1), .imm (.list (.pair .str .str)) (env4) (en.2.2.2.2.1)] (fun r1 : Value => .bool (replB2 bu A key iz en)) (fun r1 => [.mpt r tyT (replA bu ta A key iz en), .box b 68 [.int .i64 ((bu : Nat) : Int), .int .i64 ((va : Nat) : Int), .int .i64 ((ta : Nat) : Int), .int .i64 ((totA (replA bu ta A key iz en) : Nat) : Int), r1, .map (some r)], .row (r1) 9 .str (keysA (replA bu ta A key iz en))]) := by
 refine con_of_J (args := [.pointer (some ⟨b, 0, none⟩), str (key), .int .i64 (iz), .agg #[env, env2, env3, str (en.2.2.2.1), env4, str (en.2.2.2.2.2.1), .int .i64 (en.2.2.2.2.2.2.1), .int .i64 (en.2.2.2.2.2.2.2)]]) (n := 77) Tryz.func35 rfl (Nat.le_of_ble_eq_true rfl) rfl (fun w0 I0 m0 => ?_)
 have hn := hi.keys
 have htot := hi.tot
 have hfo := okT_find hok key
 have hfl := hfo.len
 have hfz := find_tot (k := key) hn
 have hlk := len_keys A
 refine jc_seq (jc_region ?_)
 refine jo_box rfl [env, env2, env3, str (en.2.2.2.1), env4, str (en.2.2.2.2.2.1), .int .i64 (en.2.2.2.2.2.2.1), .int .i64 (en.2.2.2.2.2.2.2)] rfl rfl (fun b1 => ?_)
 refine jo_pure rfl (pr_assign rfl) (jo_nil (jq_then (jc_seq (jc_region (jo_pure rfl (pr_move rfl) (jo_pure rfl (pr_move rfl) (j_pull3 (j_pull2 ?_))))))))
 refine jo_callm [.box b1 40 [env, env2, env3, str (en.2.2.2.1), env4, str (en.2.2.2.2.2.1), .int .i64 (en.2.2.2.2.2.2.1), .int .i64 (en.2.2.2.2.2.2.2)], .row (ov) 9 .str (keysA A), .imm (.list (.list .str)) (env) (en.1), .imm (.list .str) (env2) (en.2.1), .imm (.list .str) (env3) (en.2.2.1), .imm (.list (.pair .str .str)) (env4) (en.2.2.2.2.1)] rfl cal_43 (c_store_has b r bu va ta (.int .i64 ((totA A : Nat) : Int)) ov A key) ⟨rfl, rfl, trivial⟩ rfl (fun ⟨r1, r2⟩ => ?_)
 refine jo_pure rfl (pr_move rfl) (jo_pure rfl (pr_extract rfl rfl) (jo_pure rfl (pr_extract rfl rfl) ?_))
 refine jo_alloc ty_50 [.slice none 0 0, .slice none 0 0] rfl rfl (fun b2 => ?_)
 refine jo_storeV rfl rfl ty_50 [r1, r2] (fun _ _ _ _ => rfl) rfl (fun w I m hs => by simp only [List.all_cons, List.all_nil, Bool.and_true, Bool.and_eq_true]; exact ⟨(SliceV.one (imm_slice (.tail _ (.head _)) hs)), (SliceV.one (imm_slice (.tail _ (.tail _ (.head _))) hs))⟩) [r1, r2] rfl rfl ?_
 refine jo_pure rfl (pr_assign rfl) (jo_nil (jq_then (jc_seq (jc_seq (jc_region (jo_pure rfl (pr_move rfl) (jo_pure rfl (pr_not rfl) (jo_pure rfl (pr_move rfl) (jo_gpure (j := 2) (want := false) rfl rfl rfl rfl (fun hg=>pr_move rfl) (jo_gpure (j := 2) (want := false) rfl rfl rfl rfl (fun hg=>pr_lss (n := 0) (evg rfl hg) rfl) ?_))))))))))
 refine jo_pure rfl (pr_pick_or rfl rfl rfl) ?_
 refine jo_pure rfl (pr_move rfl) (jo_gpure (j := 6) (want := false) rfl rfl rfl rfl (fun hg=>pr_move rfl) (jo_gpure (j := 6) (want := false) rfl rfl rfl rfl (fun hg=>pr_fieldAddr 1 rfl Tryz.underlying50 rfl ty_48 rfl rfl) ?_))
 refine jo_gpure (j := 6) (want := false) rfl rfl rfl rfl (fun hg=>pr_load_box (r2) (evg rfl hg) ty_48 (.head _) rfl (by decide) rfl) ?_
 refine jo_gpure (j := 6) (want := false) rfl rfl rfl rfl (fun hg=>pr_len_imm (evg rfl hg) (.tail _ (.tail _ (.head _))) Tryz.underlying48) ?_
 refine jo_gpure (j := 6) (want := false) rfl rfl rfl rfl (fun hg=>pr_geq (n := ((((findA A key).2).length : Nat) : Int)) (evg rfl hg) (evg rfl hg)) ?_
 refine jo_pure rfl (pr_pick_or rfl rfl rfl) ?_
 refine jo_nil (jq_then ?_)
 refine jc_cond rfl (fun h1b => ?_) (fun h1b => ?_)
 ·have h1 := (fun q => Or.imp (fun q => Or.imp (fun q => id (bt_not q)) of_decide_eq_true (bt_or q)) of_decide_eq_true (bt_or q)) h1b
  have hoff : onB A key iz = false := by have h9 := h1b; rw [on_eq] at h9; simpa using h9
  refine jc_seq (jc_region (jo_pure rfl (pr_assign rfl) (jo_nil (jq_then (jc_ret (jq_then_ret (j_drop (j_drop (j_drop (j_pull2 (j_drop (j_pull3 (j_drop (j_pull3 (j_drop (j_pull3 (j_drop (j_pull3 (j_drop (j_pull2 (j_pull1 (j_pull2 ?_))))))))))))))))))))))
  exact jq_ret1 rfl ov rfl (show (_ : Value) = (.bool (false)) from congrArg Value.bool (replB_off hoff)) (fun _ h => by rw [repl_off hoff]; exact h)
 ·have h1 := (fun q => And.imp (fun q => And.imp (fun q => id (bf_not q)) of_decide_eq_false (bf_or q)) of_decide_eq_false (bf_or q)) h1b
  have hon : onB A key iz = true := by have h9 := h1b; rw [on_eq] at h9; simpa using h9
  obtain ⟨hin, hi0, hil⟩ := onB_lt hon
  have ixe : ((iz.toNat : Nat) : Int) = iz := Int.toNat_of_nonneg hi0
  have ixr : remL (findA A key).2 iz = remL (findA A key).2 ((iz.toNat : Nat) : Int) := by rw [ixe]
  have hso := sizeL_mem (old_mem hon)
  have hne : OkE (newE A key iz en) := okE_new hok hon he (by omega)
  rw [show (iz : Int) = ((iz.toNat : Nat) : Int) from (Int.toNat_of_nonneg hi0).symm]
  refine jc_skip (jq_then (jc_seq (jc_region (jo_pure rfl (pr_fieldAddr 1 rfl Tryz.underlying50 rfl ty_48 rfl rfl) ?_))))
  refine jo_pure rfl (pr_load_box (r2) rfl ty_48 (.head _) rfl (by decide) rfl) ?_
  refine jo_pure rfl (pr_move rfl) ?_
  refine j_open_elem (t := tyE) (i := iz.toNat) ([],[],[],[],[],[],0,0) (.tail _ (.tail _ (.head _))) (by omega) (fun ⟨e1, ⟨e2, ⟨e3, ⟨_, ⟨e4, ⟨_, ⟨_, _⟩⟩⟩⟩⟩⟩⟩ => ?_)
  refine jo_pure rfl (pr_idx_imm (i := iz.toNat) rfl (.tail _ (.tail _ (.tail _ (.tail _ (.tail _ (.tail _ (.tail _ (.head _)))))))) rfl Tryz.underlying48 ty_40 (by omega)) ?_
  refine jo_pure rfl (pr_load_at (.agg #[e1, e2, e3, str ((((((((findA A key).2).getD iz.toNat ([],[],[],[],[],[],0,0))).2).2).2).1), e4, str ((((((((((findA A key).2).getD iz.toNat ([],[],[],[],[],[],0,0))).2).2).2).2).2).1), .int .i64 (((((((((((findA A key).2).getD iz.toNat ([],[],[],[],[],[],0,0))).2).2).2).2).2).2).1), .int .i64 (((((((((((findA A key).2).getD iz.toNat ([],[],[],[],[],[],0,0))).2).2).2).2).2).2).2)]) rfl (.tail _ (.tail _ (.tail _ (.tail _ (.head _))))) ty_40 (by decide) rfl) ?_
  refine jo_alloc ty_40 [.slice none 0 0, .slice none 0 0, .slice none 0 0, str ([]), .slice none 0 0, str ([]), .int .i64 ((0 : Nat) : Int), .int .i64 ((0 : Nat) : Int)] rfl rfl (fun b3 => ?_)
  refine jo_storeV rfl rfl ty_40 [e1, e2, e3, str ((((((((findA A key).2).getD iz.toNat ([],[],[],[],[],[],0,0))).2).2).2).1), e4, str ((((((((((findA A key).2).getD iz.toNat ([],[],[],[],[],[],0,0))).2).2).2).2).2).1), .int .i64 (((((((((((findA A key).2).getD iz.toNat ([],[],[],[],[],[],0,0))).2).2).2).2).2).2).1), .int .i64 (((((((((((findA A key).2).getD iz.toNat ([],[],[],[],[],[],0,0))).2).2).2).2).2).2).2)] (fun _ _ _ _ => rfl) rfl (fun w I m hs => by simp only [List.all_cons, List.all_nil, Bool.and_true, Bool.and_eq_true]; exact ⟨(SliceV.one (imm_slice (.tail _ (.head _)) hs)), (SliceV.one (imm_slice (.tail _ (.tail _ (.head _))) hs)), (SliceV.one (imm_slice (.tail _ (.tail _ (.tail _ (.head _)))) hs)), rfl, (SliceV.one (imm_slice (.tail _ (.tail _ (.tail _ (.tail _ (.head _))))) hs)), rfl, rfl, rfl⟩) [e1, e2, e3, str ((((((((findA A key).2).getD iz.toNat ([],[],[],[],[],[],0,0))).2).2).2).1), e4, str ((((((((((findA A key).2).getD iz.toNat ([],[],[],[],[],[],0,0))).2).2).2).2).2).1), .int .i64 (((((((((((findA A key).2).getD iz.toNat ([],[],[],[],[],[],0,0))).2).2).2).2).2).2).1), .int .i64 (((((((((((findA A key).2).getD iz.toNat ([],[],[],[],[],[],0,0))).2).2).2).2).2).2).2)] rfl rfl ?_
  refine jo_nil (jq_then (jc_seq (j_pull11 ?_)))
  refine jc_held (fun (_ : Unit) => [(0, .pointer (some ⟨b, 0, none⟩)), (1, str (key)), (2, .int .i64 ((iz.toNat : Nat) : Int)), (7, .pointer (some ⟨b1, 0, none⟩)), (9, .pointer (some ⟨b2, 0, none⟩))]) (fun _ => [.box b1 40 [e1, e2, e3, str (en.2.2.2.1), env4, str (en.2.2.2.2.2.1), .int .i64 (en.2.2.2.2.2.2.1), .int .i64 (en.2.2.2.2.2.2.2)], .box b3 40 [e1, e2, e3, str ((((((((findA A key).2).getD iz.toNat ([],[],[],[],[],[],0,0))).2).2).2).1), e4, str ((((((((((findA A key).2).getD iz.toNat ([],[],[],[],[],[],0,0))).2).2).2).2).2).1), .int .i64 (((((((((((findA A key).2).getD iz.toNat ([],[],[],[],[],[],0,0))).2).2).2).2).2).2).1), .int .i64 (((((((((((findA A key).2).getD iz.toNat ([],[],[],[],[],[],0,0))).2).2).2).2).2).2).2)], .imm (.list (.list .str)) (e1) (((((findA A key).2).getD iz.toNat ([],[],[],[],[],[],0,0))).1), .imm (.list .str) (e2) ((((((findA A key).2).getD iz.toNat ([],[],[],[],[],[],0,0))).2).1), .imm (.list .str) (e3) (((((((findA A key).2).getD iz.toNat ([],[],[],[],[],[],0,0))).2).2).1), .imm (.list (.pair .str .str)) (e4) (((((((((findA A key).2).getD iz.toNat ([],[],[],[],[],[],0,0))).2).2).2).2).1), .fact (fun w_ I_ => ElemAt w_ I_ (r2) (iz.toNat) 8 [e1, e2, e3, str ((((((((findA A key).2).getD iz.toNat ([],[],[],[],[],[],0,0))).2).2).2).1), e4, str ((((((((((findA A key).2).getD iz.toNat ([],[],[],[],[],[],0,0))).2).2).2).2).2).1), .int .i64 (((((((((((findA A key).2).getD iz.toNat ([],[],[],[],[],[],0,0))).2).2).2).2).2).2).1), .int .i64 (((((((((((findA A key).2).getD iz.toNat ([],[],[],[],[],[],0,0))).2).2).2).2).2).2).2)]), .box b2 50 [r1, r2], .imm (.list (.pair .str (.list .str))) (r1) ((findA A key).1), .imm (.list tyE) (r2) ((findA A key).2), .box b 68 [.int .i64 ((bu : Nat) : Int), .int .i64 ((va : Nat) : Int), .int .i64 ((ta : Nat) : Int), .int .i64 ((totA A : Nat) : Int), ov, .map (some r)], .mpt r tyT (A), .row (ov) 9 .str (keysA A), .imm (.list (.list .str)) (env) (en.1), .imm (.list .str) (env2) (en.2.1), .imm (.list .str) (env3) (en.2.2.1), .imm (.list (.pair .str .str)) (env4) (en.2.2.2.2.1)]) [.box b3 40 [e1, e2, e3, str ((((((((findA A key).2).getD iz.toNat ([],[],[],[],[],[],0,0))).2).2).2).1), e4, str ((((((((((findA A key).2).getD iz.toNat ([],[],[],[],[],[],0,0))).2).2).2).2).2).1), .int .i64 (((((((((((findA A key).2).getD iz.toNat ([],[],[],[],[],[],0,0))).2).2).2).2).2).2).1), .int .i64 (((((((((((findA A key).2).getD iz.toNat ([],[],[],[],[],[],0,0))).2).2).2).2).2).2).2)], .imm (.list (.list .str)) (e1) (((((findA A key).2).getD iz.toNat ([],[],[],[],[],[],0,0))).1), .imm (.list .str) (e2) ((((((findA A key).2).getD iz.toNat ([],[],[],[],[],[],0,0))).2).1), .imm (.list .str) (e3) (((((((findA A key).2).getD iz.toNat ([],[],[],[],[],[],0,0))).2).2).1), .imm (.list (.pair .str .str)) (e4) (((((((((findA A key).2).getD iz.toNat ([],[],[],[],[],[],0,0))).2).2).2).2).1), .fact (fun w_ I_ => ElemAt w_ I_ (r2) (iz.toNat) 8 [e1, e2, e3, str ((((((((findA A key).2).getD iz.toNat ([],[],[],[],[],[],0,0))).2).2).2).1), e4, str ((((((((((findA A key).2).getD iz.toNat ([],[],[],[],[],[],0,0))).2).2).2).2).2).1), .int .i64 (((((((((((findA A key).2).getD iz.toNat ([],[],[],[],[],[],0,0))).2).2).2).2).2).2).1), .int .i64 (((((((((((findA A key).2).getD iz.toNat ([],[],[],[],[],[],0,0))).2).2).2).2).2).2).2)]), .box b2 50 [r1, r2], .imm (.list (.pair .str (.list .str))) (r1) ((findA A key).1), .imm (.list tyE) (r2) ((findA A key).2), .box b 68 [.int .i64 ((bu : Nat) : Int), .int .i64 ((va : Nat) : Int), .int .i64 ((ta : Nat) : Int), .int .i64 ((totA A : Nat) : Int), ov, .map (some r)], .mpt r tyT (A), .row (ov) 9 .str (keysA A), .imm (.list (.list .str)) (env) (en.1), .imm (.list .str) (env2) (en.2.1), .imm (.list .str) (env3) (en.2.2.1), .imm (.list (.pair .str .str)) (env4) (en.2.2.2.2.1)] mixed (fun lst hlst => ?_) (fun _ => ?_)
  ·subst hlst
   refine jh_take (listed' := #[true, false, false, false, false, false, false, false, false, false, false, false]) 0 rfl (by kernel_rfl) (by kernel_rfl) (by kernel_rfl) rfl (pr_fieldAddr 0 rfl Tryz.underlying40 rfl ty_37 rfl rfl) (fun _ h => Mem.drop1 (h)) rfl ?_
   refine jh_take (listed' := #[true, true, false, false, false, false, false, false, false, false, false, false]) 1 rfl (by kernel_rfl) (by kernel_rfl) (by kernel_rfl) rfl (pr_load_box (e1) rfl ty_37 (.head _) rfl (by decide) rfl) (fun _ h => Mem.drop1 (h)) rfl ?_
   refine jh_take (listed' := #[true, true, true, false, false, false, false, false, false, false, false, false]) 2 rfl (by kernel_rfl) (by kernel_rfl) (by kernel_rfl) rfl (pr_fieldAddr 1 rfl Tryz.underlying40 rfl ty_28 rfl rfl) (fun _ h => Mem.drop1 (h)) rfl ?_
   refine jh_take (listed' := #[true, true, true, true, false, false, false, false, false, false, false, false]) 3 rfl (by kernel_rfl) (by kernel_rfl) (by kernel_rfl) rfl (pr_load_box (e2) rfl ty_28 (.head _) rfl (by decide) rfl) (fun _ h => Mem.drop1 (h)) rfl ?_
   refine jh_take (listed' := #[true, true, true, true, true, false, false, false, false, false, false, false]) 4 rfl (by kernel_rfl) (by kernel_rfl) (by kernel_rfl) rfl (pr_fieldAddr 2 rfl Tryz.underlying40 rfl ty_28 rfl rfl) (fun _ h => Mem.drop1 (h)) rfl ?_
   refine jh_take (listed' := #[true, true, true, true, true, true, false, false, false, false, false, false]) 5 rfl (by kernel_rfl) (by kernel_rfl) (by kernel_rfl) rfl (pr_load_box (e3) rfl ty_28 (.head _) rfl (by decide) rfl) (fun _ h => Mem.drop1 (h)) rfl ?_
   refine jh_all [6] (by kernel_rfl) (by simp) (fun i hi => ?_)
   simp only [List.mem_cons, List.not_mem_nil, or_false] at hi
   subst hi
   ·refine jh_op rfl ?_
    refine jo_pure rfl (pr_fieldAddr 0 rfl Tryz.underlying40 rfl ty_37 rfl rfl) ?_
    refine jh_in (listed' := #[true, true, true, true, true, true, true, false, false, false, false, false]) (fun _ h => Mem.drop1 (h)) rfl ?_
    refine jh_all [7] (by kernel_rfl) (by simp) (fun i hi => ?_)
    simp only [List.mem_cons, List.not_mem_nil, or_false] at hi
    subst hi
    ·refine jh_op rfl ?_
     refine jo_storeV rfl rfl ty_37 [e1] (fun w I m hs => (SliceV.cells (imm_slice (.tail _ (.tail _ (.head _))) hs))) rfl (fun w I m hs => by simp only [List.all_cons, List.all_nil, Bool.and_true, Bool.and_eq_true]; exact (SliceV.one (imm_slice (.tail _ (.tail _ (.head _))) hs))) [e1, env2, env3, str (en.2.2.2.1), env4, str (en.2.2.2.2.2.1), .int .i64 (en.2.2.2.2.2.2.1), .int .i64 (en.2.2.2.2.2.2.2)] rfl rfl ?_
     refine jh_in (listed' := #[true, true, true, true, true, true, true, true, false, false, false, false]) (fun _ h => Mem.drop1 (h)) rfl ?_
     refine jh_all [8] (by kernel_rfl) (by simp) (fun i hi => ?_)
     simp only [List.mem_cons, List.not_mem_nil, or_false] at hi
     subst hi
     ·refine jh_op rfl ?_
      refine jo_pure rfl (pr_fieldAddr 1 rfl Tryz.underlying40 rfl ty_28 rfl rfl) ?_
      refine jh_in (listed' := #[true, true, true, true, true, true, true, true, true, false, false, false]) (fun _ h => Mem.drop1 (h)) rfl ?_
      refine jh_all [9] (by kernel_rfl) (by simp) (fun i hi => ?_)
      simp only [List.mem_cons, List.not_mem_nil, or_false] at hi
      subst hi
      ·refine jh_op rfl ?_
       refine jo_storeV rfl rfl ty_28 [e2] (fun w I m hs => (SliceV.cells (imm_slice (.tail _ (.tail _ (.tail _ (.head _)))) hs))) rfl (fun w I m hs => by simp only [List.all_cons, List.all_nil, Bool.and_true, Bool.and_eq_true]; exact (SliceV.one (imm_slice (.tail _ (.tail _ (.tail _ (.head _)))) hs))) [e1, e2, env3, str (en.2.2.2.1), env4, str (en.2.2.2.2.2.1), .int .i64 (en.2.2.2.2.2.2.1), .int .i64 (en.2.2.2.2.2.2.2)] rfl rfl ?_
       refine jh_in (listed' := #[true, true, true, true, true, true, true, true, true, true, false, false]) (fun _ h => Mem.drop1 (h)) rfl ?_
       refine jh_all [10] (by kernel_rfl) (by simp) (fun i hi => ?_)
       simp only [List.mem_cons, List.not_mem_nil, or_false] at hi
       subst hi
       ·refine jh_op rfl ?_
        refine jo_pure rfl (pr_fieldAddr 2 rfl Tryz.underlying40 rfl ty_28 rfl rfl) ?_
        refine jh_in (listed' := #[true, true, true, true, true, true, true, true, true, true, true, false]) (fun _ h => Mem.drop1 (h)) rfl ?_
        refine jh_all [11] (by kernel_rfl) (by simp) (fun i hi => ?_)
        simp only [List.mem_cons, List.not_mem_nil, or_false] at hi
        subst hi
        ·refine jh_op rfl ?_
         refine jo_storeV rfl rfl ty_28 [e3] (fun w I m hs => (SliceV.cells (imm_slice (.tail _ (.tail _ (.tail _ (.tail _ (.head _))))) hs))) rfl (fun w I m hs => by simp only [List.all_cons, List.all_nil, Bool.and_true, Bool.and_eq_true]; exact (SliceV.one (imm_slice (.tail _ (.tail _ (.tail _ (.tail _ (.head _))))) hs))) [e1, e2, e3, str (en.2.2.2.1), env4, str (en.2.2.2.2.2.1), .int .i64 (en.2.2.2.2.2.2.1), .int .i64 (en.2.2.2.2.2.2.2)] rfl rfl ?_
         refine jh_in (listed' := #[true, true, true, true, true, true, true, true, true, true, true, true]) (fun _ h => Mem.drop1 (h)) rfl ?_
         refine j_pull16 ?_
         refine j_pull16 ?_
         refine j_pull16 ?_
         refine j_pull16 ?_
         refine j_pull16 ?_
         refine j_pull16 ?_
         refine j_pull16 ?_
         refine j_pull16 ?_
         refine j_pull16 ?_
         refine j_pull16 ?_
         refine j_pull16 ?_
         refine j_pull16 ?_
         refine j_pull16 ?_
         refine j_pull16 ?_
         refine j_pull16 ?_
         refine j_pull16 ?_
         refine j_pull16 ?_
         show JH _ _ _ _ _ _ _ _
         exact jh_done () (by kernel_rfl) ⟨rfl, rfl, rfl, rfl, rfl, trivial⟩ (fun _ h => h)
  ·skip
   refine jq_then (jc_seq (jc_seq (jc_draws mixed (by kernel_rfl) (jd_pure rfl (pr_load_box (.agg #[e1, e2, e3, str (en.2.2.2.1), env4, str (en.2.2.2.2.2.1), .int .i64 (en.2.2.2.2.2.2.1), .int .i64 (en.2.2.2.2.2.2.2)]) rfl ty_40 (.head _) rfl (by decide) rfl) ?_))))
   refine jd_callp cal_45 (c_entry_Size (((((findA A key).2).getD iz.toNat ([],[],[],[],[],[],0,0))).1, ((((((findA A key).2).getD iz.toNat ([],[],[],[],[],[],0,0))).2).1, (((((((findA A key).2).getD iz.toNat ([],[],[],[],[],[],0,0))).2).2).1, en.2.2.2))) e1 e2 e3 env4 (by first | omega | exact hne | exact hfo.axes | exact Nat.le_trans hfl (by decide) | exact hfo.ents)) ⟨rfl, trivial⟩ rfl (⟨⟨rfl, .tail _ (.tail _ (.head _))⟩, ⟨⟨rfl, .tail _ (.tail _ (.tail _ (.head _)))⟩, ⟨⟨rfl, .tail _ (.tail _ (.tail _ (.tail _ (.head _))))⟩, ⟨⟨rfl, .tail _ (.tail _ (.tail _ (.tail _ (.tail _ (.tail _ (.tail _ (.tail _ (.tail _ (.tail _ (.tail _ (.tail _ (.tail _ (.tail _ (.tail _ (.tail _ (.head _))))))))))))))))⟩, trivial⟩⟩⟩⟩) ?_
   refine jd_pure rfl (pr_move rfl) ?_
   refine jd_pure rfl (pr_nilCheck rfl) ?_
   refine jd_pure rfl (pr_fieldAddr 0 rfl Tryz.underlying68 rfl ty_3 rfl rfl) ?_
   refine jd_pure rfl (pr_load_box (.int .i64 ((bu : Nat) : Int)) rfl ty_3 (.tail _ (.tail _ (.tail _ (.tail _ (.tail _ (.tail _ (.tail _ (.tail _ (.tail _ (.tail _ (.head _))))))))))) rfl (by decide) rfl) ?_
   refine jd_pure rfl (pr_gtrN (m := sizeE (((((findA A key).2).getD iz.toNat ([],[],[],[],[],[],0,0))).1, ((((((findA A key).2).getD iz.toNat ([],[],[],[],[],[],0,0))).2).1, (((((((findA A key).2).getD iz.toNat ([],[],[],[],[],[],0,0))).2).2).1, en.2.2.2)))) (n := bu) rfl rfl) ?_
   refine jd_nil ?_
   refine jq_then ?_
   refine jc_cond rfl (fun h2b => ?_) (fun h2b => ?_)
   ·have h2 := of_decide_eq_true h2b
    have hbig : bu < sizeE (newE A key iz en) := h2
    refine jc_seq (jc_region (jo_pure rfl (pr_move rfl) (jo_pure rfl (pr_move rfl) (jo_pure rfl (pr_load_box (.agg #[r1, r2]) rfl ty_50 (.tail _ (.tail _ (.tail _ (.tail _ (.tail _ (.tail _ (.tail _ (.head _)))))))) rfl (by decide) rfl) ?_))))
    refine jo_pure rfl (pr_move rfl) ?_
    have con1 := c_table_Remove (findA A key) r1 r2 ((iz.toNat : Nat) : Int) (by first | omega | exact hne | exact hfo.axes | exact Nat.le_trans hfl (by decide) | exact hfo.ents) (by first | omega | exact hne | exact hfo.axes | exact Nat.le_trans hfl (by decide) | exact hfo.ents) (by first | omega | exact hne | exact hfo.axes | exact Nat.le_trans hfl (by decide) | exact hfo.ents)
    refine jo_callp cal_59 con1 (by exact ⟨rfl, rfl, trivial⟩) rfl (by exact ⟨⟨rfl, .tail _ (.tail _ (.tail _ (.tail _ (.tail _ (.tail _ (.tail _ (.tail _ (.head _))))))))⟩, ⟨⟨rfl, .tail _ (.tail _ (.tail _ (.tail _ (.tail _ (.tail _ (.tail _ (.tail _ (.tail _ (.head _)))))))))⟩, trivial⟩⟩) (fun ⟨r3, r4⟩ => ?_)
    clear con1
    refine j_dup rfl ?_
    refine j_pull2 (j_dup rfl ?_)
    refine j_pull2 (j_pull15 ?_)
    refine j_pull16 ?_
    refine j_pull16 ?_
    refine jo_callm [.imm (.list tyE) (r4) (remL (findA A key).2 ((iz.toNat : Nat) : Int)), .imm (.list (.pair .str (.list .str))) (r3) ((findA A key).1), .box b1 40 [e1, e2, e3, str (en.2.2.2.1), env4, str (en.2.2.2.2.2.1), .int .i64 (en.2.2.2.2.2.2.1), .int .i64 (en.2.2.2.2.2.2.2)], .box b3 40 [e1, e2, e3, str ((((((((findA A key).2).getD iz.toNat ([],[],[],[],[],[],0,0))).2).2).2).1), e4, str ((((((((((findA A key).2).getD iz.toNat ([],[],[],[],[],[],0,0))).2).2).2).2).2).1), .int .i64 (((((((((((findA A key).2).getD iz.toNat ([],[],[],[],[],[],0,0))).2).2).2).2).2).2).1), .int .i64 (((((((((((findA A key).2).getD iz.toNat ([],[],[],[],[],[],0,0))).2).2).2).2).2).2).2)], .imm (.list (.list .str)) (e1) (((((findA A key).2).getD iz.toNat ([],[],[],[],[],[],0,0))).1), .imm (.list .str) (e2) ((((((findA A key).2).getD iz.toNat ([],[],[],[],[],[],0,0))).2).1), .imm (.list .str) (e3) (((((((findA A key).2).getD iz.toNat ([],[],[],[],[],[],0,0))).2).2).1), .imm (.list (.pair .str .str)) (e4) (((((((((findA A key).2).getD iz.toNat ([],[],[],[],[],[],0,0))).2).2).2).2).1), .fact (fun w_ I_ => ElemAt w_ I_ (r2) (iz.toNat) 8 [e1, e2, e3, str ((((((((findA A key).2).getD iz.toNat ([],[],[],[],[],[],0,0))).2).2).2).1), e4, str ((((((((((findA A key).2).getD iz.toNat ([],[],[],[],[],[],0,0))).2).2).2).2).2).1), .int .i64 (((((((((((findA A key).2).getD iz.toNat ([],[],[],[],[],[],0,0))).2).2).2).2).2).2).1), .int .i64 (((((((((((findA A key).2).getD iz.toNat ([],[],[],[],[],[],0,0))).2).2).2).2).2).2).2)]), .box b2 50 [r1, r2], .imm (.list (.pair .str (.list .str))) (r1) ((findA A key).1), .imm (.list tyE) (r2) ((findA A key).2), .imm (.list (.list .str)) (env) (en.1), .imm (.list .str) (env2) (en.2.1), .imm (.list .str) (env3) (en.2.2.1), .imm (.list (.pair .str .str)) (env4) (en.2.2.2.2.1)] rfl cal_49 (c_store_set b r bu va ta (totA A) ov (keysA A) A key ((findA A key).1, remL (findA A key).2 ((iz.toNat : Nat) : Int)) r3 r4 (by omega) (hok) (by first | exact hto | exact okT_rem hfo _) (Nat.le_trans hfz (Nat.le_add_right _ _)) (by omega)) ⟨rfl, rfl, rfl, trivial⟩ rfl (fun r5 => ?_)
    refine jo_nil (jq_then (jc_seq (j_pull2 (j_mpt_perm (cut_perm hn hin) ?_))))
    rw [show setO (keysA A) key ((findA A key).1, remL (findA A key).2 ((iz.toNat : Nat) : Int)) = keysA (cutA A key ((findA A key).1, remL (findA A key).2 ((iz.toNat : Nat) : Int))) from cut_keys, show (totA A) + sizeL ((findA A key).1, remL (findA A key).2 ((iz.toNat : Nat) : Int)).2 - sizeL (findA A key).2 = totA (cutA A key ((findA A key).1, remL (findA A key).2 ((iz.toNat : Nat) : Int))) from cut_used hn hin]
    refine jc_region (jo_pure rfl (pr_assign rfl) (jo_nil (jq_then (jc_ret (jq_then_ret (j_pull3 (j_drop (j_pull3 (j_drop (j_pull3 (j_drop (j_pull3 (j_drop (j_pull3 (j_drop (j_pull3 (j_drop (j_pull3 (j_drop (j_pull3 (j_drop (j_pull3 (j_drop ?_)))))))))))))))))))))))
    refine j_pull3 (j_drop (j_pull3 (j_drop (j_pull3 (j_drop (j_pull3 (j_drop (j_pull3 (j_drop (j_pull3 (j_drop (j_pull3 (j_drop (j_pull2 (j_pull2 (j_pull2 ?_))))))))))))))))
    exact jq_ret1 rfl r5 rfl (show (_ : Value) = (.bool (false)) from congrArg Value.bool (by rw [ixe]; exact replB_big hon hbig)) (fun _ h => by rw [ixe] at h; rw [ixe, repl_big hon hbig]; exact h)
   ·have h2 := of_decide_eq_false h2b
    have hfit : ¬ bu < sizeE (newE A key iz en) := h2
    have hsz : sizeE (newE A key iz en) ≤ bu := by omega
    have hrt := repl_tot (e := (newE A key iz en)) hn hon
    have hss := sizeL_set _ _ hil (newE A key iz en)
    have hto : OkT ((findA A key).1, (findA A key).2.set iz.toNat (newE A key iz en)) := okT_set hfo hne (by omega)
    have hsl : 0 < ((findA A key).2.set iz.toNat (newE A key iz en)).length := by rw [List.length_set]; omega
    have hfl2 := front_len A key ((findA A key).1, (findA A key).2.set iz.toNat (newE A key iz en))
    refine jc_skip (jq_then (jc_seq (jc_region (jo_pure rfl (pr_load_box (.agg #[r1, r2]) rfl ty_50 (.tail _ (.tail _ (.tail _ (.tail _ (.tail _ (.tail _ (.tail _ (.head _)))))))) rfl (by decide) rfl) ?_))))
    have con2 := c_clone_Table (findA A key) r1 r2 (by first | omega | exact hne | exact hfo.axes | exact Nat.le_trans hfl (by decide) | exact hfo.ents) (by first | omega | exact hne | exact hfo.axes | exact Nat.le_trans hfl (by decide) | exact hfo.ents) (by first | omega | exact hne | exact hfo.axes | exact Nat.le_trans hfl (by decide) | exact hfo.ents)
    refine jo_callp cal_44 con2 (by exact ⟨rfl, trivial⟩) rfl (by exact ⟨⟨rfl, .tail _ (.tail _ (.tail _ (.tail _ (.tail _ (.tail _ (.tail _ (.tail _ (.head _))))))))⟩, ⟨⟨rfl, .tail _ (.tail _ (.tail _ (.tail _ (.tail _ (.tail _ (.tail _ (.tail _ (.tail _ (.head _)))))))))⟩, trivial⟩⟩) (fun ⟨r6, r7⟩ => ?_)
    clear con2
    refine j_pull9 ?_
    refine jo_storeV rfl rfl ty_50 [r6, r7] (fun _ _ _ _ => rfl) rfl (fun w I m hs => by simp only [List.all_cons, List.all_nil, Bool.and_true, Bool.and_eq_true]; exact ⟨(SliceV.one (imm_slice (.tail _ (.head _)) hs)), (SliceV.one (row_slice (.tail _ (.tail _ (.head _))) hs))⟩) [r6, r7] rfl rfl ?_
    refine jo_nil (jq_then (jc_seq ?_))
    refine jc_heldI (fun (iq : Value × Value × Value × Value) => [(0, .pointer (some ⟨b, 0, none⟩)), (1, str (key)), (2, .int .i64 ((iz.toNat : Nat) : Int)), (9, .pointer (some ⟨b2, 0, none⟩))]) (fun iq => [.row (r7) 40 tyE (((findA A key).2).set iz.toNat (((((findA A key).2).getD iz.toNat ([],[],[],[],[],[],0,0))).1, ((((((findA A key).2).getD iz.toNat ([],[],[],[],[],[],0,0))).2).1, (((((((findA A key).2).getD iz.toNat ([],[],[],[],[],[],0,0))).2).2).1, en.2.2.2)))), .imm (.list (.list .str)) (iq.1) ((((((findA A key).2).getD iz.toNat ([],[],[],[],[],[],0,0))).1, ((((((findA A key).2).getD iz.toNat ([],[],[],[],[],[],0,0))).2).1, (((((((findA A key).2).getD iz.toNat ([],[],[],[],[],[],0,0))).2).2).1, en.2.2.2))).1), .imm (.list .str) (iq.2.1) ((((((findA A key).2).getD iz.toNat ([],[],[],[],[],[],0,0))).1, ((((((findA A key).2).getD iz.toNat ([],[],[],[],[],[],0,0))).2).1, (((((((findA A key).2).getD iz.toNat ([],[],[],[],[],[],0,0))).2).2).1, en.2.2.2))).2.1), .imm (.list .str) (iq.2.2.1) ((((((findA A key).2).getD iz.toNat ([],[],[],[],[],[],0,0))).1, ((((((findA A key).2).getD iz.toNat ([],[],[],[],[],[],0,0))).2).1, (((((((findA A key).2).getD iz.toNat ([],[],[],[],[],[],0,0))).2).2).1, en.2.2.2))).2.2.1), .imm (.list (.pair .str .str)) (iq.2.2.2) ((((((findA A key).2).getD iz.toNat ([],[],[],[],[],[],0,0))).1, ((((((findA A key).2).getD iz.toNat ([],[],[],[],[],[],0,0))).2).1, (((((((findA A key).2).getD iz.toNat ([],[],[],[],[],[],0,0))).2).2).1, en.2.2.2))).2.2.2.2.1), .box b2 50 [r6, r7], .imm (.list (.pair .str (.list .str))) (r6) ((findA A key).1), .box b1 40 [e1, e2, e3, str (en.2.2.2.1), env4, str (en.2.2.2.2.2.1), .int .i64 (en.2.2.2.2.2.2.1), .int .i64 (en.2.2.2.2.2.2.2)], .box b3 40 [e1, e2, e3, str ((((((((findA A key).2).getD iz.toNat ([],[],[],[],[],[],0,0))).2).2).2).1), e4, str ((((((((((findA A key).2).getD iz.toNat ([],[],[],[],[],[],0,0))).2).2).2).2).2).1), .int .i64 (((((((((((findA A key).2).getD iz.toNat ([],[],[],[],[],[],0,0))).2).2).2).2).2).2).1), .int .i64 (((((((((((findA A key).2).getD iz.toNat ([],[],[],[],[],[],0,0))).2).2).2).2).2).2).2)], .imm (.list (.list .str)) (e1) (((((findA A key).2).getD iz.toNat ([],[],[],[],[],[],0,0))).1), .imm (.list .str) (e2) ((((((findA A key).2).getD iz.toNat ([],[],[],[],[],[],0,0))).2).1), .imm (.list .str) (e3) (((((((findA A key).2).getD iz.toNat ([],[],[],[],[],[],0,0))).2).2).1), .imm (.list (.pair .str .str)) (e4) (((((((((findA A key).2).getD iz.toNat ([],[],[],[],[],[],0,0))).2).2).2).2).1), .fact (fun w_ I_ => ElemAt w_ I_ (r2) (iz.toNat) 8 [e1, e2, e3, str ((((((((findA A key).2).getD iz.toNat ([],[],[],[],[],[],0,0))).2).2).2).1), e4, str ((((((((((findA A key).2).getD iz.toNat ([],[],[],[],[],[],0,0))).2).2).2).2).2).1), .int .i64 (((((((((((findA A key).2).getD iz.toNat ([],[],[],[],[],[],0,0))).2).2).2).2).2).2).1), .int .i64 (((((((((((findA A key).2).getD iz.toNat ([],[],[],[],[],[],0,0))).2).2).2).2).2).2).2)]), .imm (.list (.pair .str (.list .str))) (r1) ((findA A key).1), .imm (.list tyE) (r2) ((findA A key).2), .box b 68 [.int .i64 ((bu : Nat) : Int), .int .i64 ((va : Nat) : Int), .int .i64 ((ta : Nat) : Int), .int .i64 ((totA A : Nat) : Int), ov, .map (some r)], .mpt r tyT (A), .row (ov) 9 .str (keysA A), .imm (.list (.list .str)) (env) (en.1), .imm (.list .str) (env2) (en.2.1), .imm (.list .str) (env3) (en.2.2.1), .imm (.list (.pair .str .str)) (env4) (en.2.2.2.2.1)]) [.box b2 50 [r6, r7], .imm (.list (.pair .str (.list .str))) (r6) ((findA A key).1), .row (r7) 40 tyE ((findA A key).2), .box b1 40 [e1, e2, e3, str (en.2.2.2.1), env4, str (en.2.2.2.2.2.1), .int .i64 (en.2.2.2.2.2.2.1), .int .i64 (en.2.2.2.2.2.2.2)], .box b3 40 [e1, e2, e3, str ((((((((findA A key).2).getD iz.toNat ([],[],[],[],[],[],0,0))).2).2).2).1), e4, str ((((((((((findA A key).2).getD iz.toNat ([],[],[],[],[],[],0,0))).2).2).2).2).2).1), .int .i64 (((((((((((findA A key).2).getD iz.toNat ([],[],[],[],[],[],0,0))).2).2).2).2).2).2).1), .int .i64 (((((((((((findA A key).2).getD iz.toNat ([],[],[],[],[],[],0,0))).2).2).2).2).2).2).2)], .imm (.list (.list .str)) (e1) (((((findA A key).2).getD iz.toNat ([],[],[],[],[],[],0,0))).1), .imm (.list .str) (e2) ((((((findA A key).2).getD iz.toNat ([],[],[],[],[],[],0,0))).2).1), .imm (.list .str) (e3) (((((((findA A key).2).getD iz.toNat ([],[],[],[],[],[],0,0))).2).2).1), .imm (.list (.pair .str .str)) (e4) (((((((((findA A key).2).getD iz.toNat ([],[],[],[],[],[],0,0))).2).2).2).2).1), .fact (fun w_ I_ => ElemAt w_ I_ (r2) (iz.toNat) 8 [e1, e2, e3, str ((((((((findA A key).2).getD iz.toNat ([],[],[],[],[],[],0,0))).2).2).2).1), e4, str ((((((((((findA A key).2).getD iz.toNat ([],[],[],[],[],[],0,0))).2).2).2).2).2).1), .int .i64 (((((((((((findA A key).2).getD iz.toNat ([],[],[],[],[],[],0,0))).2).2).2).2).2).2).1), .int .i64 (((((((((((findA A key).2).getD iz.toNat ([],[],[],[],[],[],0,0))).2).2).2).2).2).2).2)]), .imm (.list (.pair .str (.list .str))) (r1) ((findA A key).1), .imm (.list tyE) (r2) ((findA A key).2), .box b 68 [.int .i64 ((bu : Nat) : Int), .int .i64 ((va : Nat) : Int), .int .i64 ((ta : Nat) : Int), .int .i64 ((totA A : Nat) : Int), ov, .map (some r)], .mpt r tyT (A), .row (ov) 9 .str (keysA A), .imm (.list (.list .str)) (env) (en.1), .imm (.list .str) (env2) (en.2.1), .imm (.list .str) (env3) (en.2.2.1), .imm (.list (.pair .str .str)) (env4) (en.2.2.2.2.1)] [6] mixed (fun lst hlst => ?_) (fun ⟨r8, r9, r10, r11⟩ => ?_)
    ·subst hlst
     refine ji_take (listed' := #[true, false, false, false, false, false, false]) 0 rfl (by kernel_rfl) (by kernel_rfl) (by kernel_rfl) (by kernel_rfl) rfl (pr_fieldAddr 1 rfl Tryz.underlying50 rfl ty_48 rfl rfl) (fun _ h => h) rfl ?_
     refine ji_take (listed' := #[true, true, false, false, false, false, false]) 1 rfl (by kernel_rfl) (by kernel_rfl) (by kernel_rfl) (by kernel_rfl) rfl (pr_load_box (r7) rfl ty_48 (.head _) rfl (by decide) rfl) (fun _ h => h) rfl ?_
     refine ji_take (listed' := #[true, true, true, false, false, false, false]) 2 rfl (by kernel_rfl) (by kernel_rfl) (by kernel_rfl) (by kernel_rfl) rfl (pr_move rfl) (fun _ h => h) rfl ?_
     refine ji_take (listed' := #[true, true, true, true, false, false, false]) 3 rfl (by kernel_rfl) (by kernel_rfl) (by kernel_rfl) (by kernel_rfl) rfl (pr_load_box (.agg #[e1, e2, e3, str (en.2.2.2.1), env4, str (en.2.2.2.2.2.1), .int .i64 (en.2.2.2.2.2.2.1), .int .i64 (en.2.2.2.2.2.2.2)]) rfl ty_40 (.tail _ (.tail _ (.tail _ (.head _)))) rfl (by decide) rfl) (fun _ h => h) rfl ?_
     refine ji_all [4] (by kernel_rfl) (by simp) (fun i hi => ?_)
     simp only [List.mem_cons, List.not_mem_nil, or_false] at hi
     subst hi
     ·refine jh_op rfl ?_
      have con3 := c_clone_Entry (((((findA A key).2).getD iz.toNat ([],[],[],[],[],[],0,0))).1, ((((((findA A key).2).getD iz.toNat ([],[],[],[],[],[],0,0))).2).1, (((((((findA A key).2).getD iz.toNat ([],[],[],[],[],[],0,0))).2).2).1, en.2.2.2))) e1 e2 e3 env4 (by first | omega | exact hne | exact hfo.axes | exact Nat.le_trans hfl (by decide) | exact hfo.ents)
      refine jo_callp cal_60 con3 (by exact ⟨rfl, trivial⟩) rfl (by exact ⟨⟨rfl, .tail _ (.tail _ (.tail _ (.tail _ (.tail _ (.head _)))))⟩, ⟨⟨rfl, .tail _ (.tail _ (.tail _ (.tail _ (.tail _ (.tail _ (.head _))))))⟩, ⟨⟨rfl, .tail _ (.tail _ (.tail _ (.tail _ (.tail _ (.tail _ (.tail _ (.head _)))))))⟩, ⟨⟨rfl, .tail _ (.tail _ (.tail _ (.tail _ (.tail _ (.tail _ (.tail _ (.tail _ (.tail _ (.tail _ (.tail _ (.tail _ (.tail _ (.tail _ (.tail _ (.tail _ (.tail _ (.tail _ (.head _))))))))))))))))))⟩, trivial⟩⟩⟩⟩) (fun ⟨r8, r9, r10, r11⟩ => ?_)
      clear con3
      refine ji_in (listed' := #[true, true, true, true, true, false, false]) (fun _ h => Mem.drop1 (Mem.drop1 (Mem.drop1 (Mem.drop1 (h))))) rfl ?_
      refine ji_take (listed' := #[true, true, true, true, true, true, false]) 5 rfl (by kernel_rfl) (by kernel_rfl) (by kernel_rfl) (by kernel_rfl) rfl (pr_idx_row (i := iz.toNat) rfl (.tail _ (.tail _ (.head _))) rfl Tryz.underlying48 ty_40 (by omega)) (fun _ h => Mem.drop1 (Mem.drop1 (Mem.drop1 (Mem.drop1 (h))))) rfl ?_
      refine ji_all [6] (by kernel_rfl) (by simp) (fun i hi => ?_)
      simp only [List.mem_cons, List.not_mem_nil, or_false] at hi
      subst hi
      ·refine jh_op rfl ?_
       refine j_pull6 ?_
       refine jo_storeRowO (t := tyE) (i := iz.toNat) (((((findA A key).2).getD iz.toNat ([],[],[],[],[],[],0,0))).1, ((((((findA A key).2).getD iz.toNat ([],[],[],[],[],[],0,0))).2).1, (((((((findA A key).2).getD iz.toNat ([],[],[],[],[],[],0,0))).2).2).1, en.2.2.2))) [r8, r9, r10, str ((((((findA A key).2).getD iz.toNat ([],[],[],[],[],[],0,0))).1, ((((((findA A key).2).getD iz.toNat ([],[],[],[],[],[],0,0))).2).1, (((((((findA A key).2).getD iz.toNat ([],[],[],[],[],[],0,0))).2).2).1, en.2.2.2))).2.2.2.1), r11, str ((((((findA A key).2).getD iz.toNat ([],[],[],[],[],[],0,0))).1, ((((((findA A key).2).getD iz.toNat ([],[],[],[],[],[],0,0))).2).1, (((((((findA A key).2).getD iz.toNat ([],[],[],[],[],[],0,0))).2).2).1, en.2.2.2))).2.2.2.2.2.1), .int .i64 ((((((findA A key).2).getD iz.toNat ([],[],[],[],[],[],0,0))).1, ((((((findA A key).2).getD iz.toNat ([],[],[],[],[],[],0,0))).2).1, (((((((findA A key).2).getD iz.toNat ([],[],[],[],[],[],0,0))).2).2).1, en.2.2.2))).2.2.2.2.2.2.1), .int .i64 ((((((findA A key).2).getD iz.toNat ([],[],[],[],[],[],0,0))).1, ((((((findA A key).2).getD iz.toNat ([],[],[],[],[],[],0,0))).2).1, (((((((findA A key).2).getD iz.toNat ([],[],[],[],[],[],0,0))).2).2).1, en.2.2.2))).2.2.2.2.2.2.2)] rfl rfl rfl (⟨[r8], [r9, r10, str ((((((findA A key).2).getD iz.toNat ([],[],[],[],[],[],0,0))).1, ((((((findA A key).2).getD iz.toNat ([],[],[],[],[],[],0,0))).2).1, (((((((findA A key).2).getD iz.toNat ([],[],[],[],[],[],0,0))).2).2).1, en.2.2.2))).2.2.2.1), r11, str ((((((findA A key).2).getD iz.toNat ([],[],[],[],[],[],0,0))).1, ((((((findA A key).2).getD iz.toNat ([],[],[],[],[],[],0,0))).2).1, (((((((findA A key).2).getD iz.toNat ([],[],[],[],[],[],0,0))).2).2).1, en.2.2.2))).2.2.2.2.2.1), .int .i64 ((((((findA A key).2).getD iz.toNat ([],[],[],[],[],[],0,0))).1, ((((((findA A key).2).getD iz.toNat ([],[],[],[],[],[],0,0))).2).1, (((((((findA A key).2).getD iz.toNat ([],[],[],[],[],[],0,0))).2).2).1, en.2.2.2))).2.2.2.2.2.2.1), .int .i64 ((((((findA A key).2).getD iz.toNat ([],[],[],[],[],[],0,0))).1, ((((((findA A key).2).getD iz.toNat ([],[],[],[],[],[],0,0))).2).1, (((((((findA A key).2).getD iz.toNat ([],[],[],[],[],[],0,0))).2).2).1, en.2.2.2))).2.2.2.2.2.2.2)], rfl, ⟨r8, rfl, .head _⟩, ⟨[r9], [r10, str ((((((findA A key).2).getD iz.toNat ([],[],[],[],[],[],0,0))).1, ((((((findA A key).2).getD iz.toNat ([],[],[],[],[],[],0,0))).2).1, (((((((findA A key).2).getD iz.toNat ([],[],[],[],[],[],0,0))).2).2).1, en.2.2.2))).2.2.2.1), r11, str ((((((findA A key).2).getD iz.toNat ([],[],[],[],[],[],0,0))).1, ((((((findA A key).2).getD iz.toNat ([],[],[],[],[],[],0,0))).2).1, (((((((findA A key).2).getD iz.toNat ([],[],[],[],[],[],0,0))).2).2).1, en.2.2.2))).2.2.2.2.2.1), .int .i64 ((((((findA A key).2).getD iz.toNat ([],[],[],[],[],[],0,0))).1, ((((((findA A key).2).getD iz.toNat ([],[],[],[],[],[],0,0))).2).1, (((((((findA A key).2).getD iz.toNat ([],[],[],[],[],[],0,0))).2).2).1, en.2.2.2))).2.2.2.2.2.2.1), .int .i64 ((((((findA A key).2).getD iz.toNat ([],[],[],[],[],[],0,0))).1, ((((((findA A key).2).getD iz.toNat ([],[],[],[],[],[],0,0))).2).1, (((((((findA A key).2).getD iz.toNat ([],[],[],[],[],[],0,0))).2).2).1, en.2.2.2))).2.2.2.2.2.2.2)], rfl, ⟨r9, rfl, .tail _ (.head _)⟩, ⟨[r10], [str ((((((findA A key).2).getD iz.toNat ([],[],[],[],[],[],0,0))).1, ((((((findA A key).2).getD iz.toNat ([],[],[],[],[],[],0,0))).2).1, (((((((findA A key).2).getD iz.toNat ([],[],[],[],[],[],0,0))).2).2).1, en.2.2.2))).2.2.2.1), r11, str ((((((findA A key).2).getD iz.toNat ([],[],[],[],[],[],0,0))).1, ((((((findA A key).2).getD iz.toNat ([],[],[],[],[],[],0,0))).2).1, (((((((findA A key).2).getD iz.toNat ([],[],[],[],[],[],0,0))).2).2).1, en.2.2.2))).2.2.2.2.2.1), .int .i64 ((((((findA A key).2).getD iz.toNat ([],[],[],[],[],[],0,0))).1, ((((((findA A key).2).getD iz.toNat ([],[],[],[],[],[],0,0))).2).1, (((((((findA A key).2).getD iz.toNat ([],[],[],[],[],[],0,0))).2).2).1, en.2.2.2))).2.2.2.2.2.2.1), .int .i64 ((((((findA A key).2).getD iz.toNat ([],[],[],[],[],[],0,0))).1, ((((((findA A key).2).getD iz.toNat ([],[],[],[],[],[],0,0))).2).1, (((((((findA A key).2).getD iz.toNat ([],[],[],[],[],[],0,0))).2).2).1, en.2.2.2))).2.2.2.2.2.2.2)], rfl, ⟨r10, rfl, .tail _ (.tail _ (.head _))⟩, ⟨[str ((((((findA A key).2).getD iz.toNat ([],[],[],[],[],[],0,0))).1, ((((((findA A key).2).getD iz.toNat ([],[],[],[],[],[],0,0))).2).1, (((((((findA A key).2).getD iz.toNat ([],[],[],[],[],[],0,0))).2).2).1, en.2.2.2))).2.2.2.1)], [r11, str ((((((findA A key).2).getD iz.toNat ([],[],[],[],[],[],0,0))).1, ((((((findA A key).2).getD iz.toNat ([],[],[],[],[],[],0,0))).2).1, (((((((findA A key).2).getD iz.toNat ([],[],[],[],[],[],0,0))).2).2).1, en.2.2.2))).2.2.2.2.2.1), .int .i64 ((((((findA A key).2).getD iz.toNat ([],[],[],[],[],[],0,0))).1, ((((((findA A key).2).getD iz.toNat ([],[],[],[],[],[],0,0))).2).1, (((((((findA A key).2).getD iz.toNat ([],[],[],[],[],[],0,0))).2).2).1, en.2.2.2))).2.2.2.2.2.2.1), .int .i64 ((((((findA A key).2).getD iz.toNat ([],[],[],[],[],[],0,0))).1, ((((((findA A key).2).getD iz.toNat ([],[],[],[],[],[],0,0))).2).1, (((((((findA A key).2).getD iz.toNat ([],[],[],[],[],[],0,0))).2).2).1, en.2.2.2))).2.2.2.2.2.2.2)], rfl, rfl, ⟨[r11], [str ((((((findA A key).2).getD iz.toNat ([],[],[],[],[],[],0,0))).1, ((((((findA A key).2).getD iz.toNat ([],[],[],[],[],[],0,0))).2).1, (((((((findA A key).2).getD iz.toNat ([],[],[],[],[],[],0,0))).2).2).1, en.2.2.2))).2.2.2.2.2.1), .int .i64 ((((((findA A key).2).getD iz.toNat ([],[],[],[],[],[],0,0))).1, ((((((findA A key).2).getD iz.toNat ([],[],[],[],[],[],0,0))).2).1, (((((((findA A key).2).getD iz.toNat ([],[],[],[],[],[],0,0))).2).2).1, en.2.2.2))).2.2.2.2.2.2.1), .int .i64 ((((((findA A key).2).getD iz.toNat ([],[],[],[],[],[],0,0))).1, ((((((findA A key).2).getD iz.toNat ([],[],[],[],[],[],0,0))).2).1, (((((((findA A key).2).getD iz.toNat ([],[],[],[],[],[],0,0))).2).2).1, en.2.2.2))).2.2.2.2.2.2.2)], rfl, ⟨r11, rfl, .tail _ (.tail _ (.tail _ (.head _)))⟩, ⟨[str ((((((findA A key).2).getD iz.toNat ([],[],[],[],[],[],0,0))).1, ((((((findA A key).2).getD iz.toNat ([],[],[],[],[],[],0,0))).2).1, (((((((findA A key).2).getD iz.toNat ([],[],[],[],[],[],0,0))).2).2).1, en.2.2.2))).2.2.2.2.2.1)], [.int .i64 ((((((findA A key).2).getD iz.toNat ([],[],[],[],[],[],0,0))).1, ((((((findA A key).2).getD iz.toNat ([],[],[],[],[],[],0,0))).2).1, (((((((findA A key).2).getD iz.toNat ([],[],[],[],[],[],0,0))).2).2).1, en.2.2.2))).2.2.2.2.2.2.1), .int .i64 ((((((findA A key).2).getD iz.toNat ([],[],[],[],[],[],0,0))).1, ((((((findA A key).2).getD iz.toNat ([],[],[],[],[],[],0,0))).2).1, (((((((findA A key).2).getD iz.toNat ([],[],[],[],[],[],0,0))).2).2).1, en.2.2.2))).2.2.2.2.2.2.2)], rfl, rfl, ⟨[.int .i64 ((((((findA A key).2).getD iz.toNat ([],[],[],[],[],[],0,0))).1, ((((((findA A key).2).getD iz.toNat ([],[],[],[],[],[],0,0))).2).1, (((((((findA A key).2).getD iz.toNat ([],[],[],[],[],[],0,0))).2).2).1, en.2.2.2))).2.2.2.2.2.2.1)], [.int .i64 ((((((findA A key).2).getD iz.toNat ([],[],[],[],[],[],0,0))).1, ((((((findA A key).2).getD iz.toNat ([],[],[],[],[],[],0,0))).2).1, (((((((findA A key).2).getD iz.toNat ([],[],[],[],[],[],0,0))).2).2).1, en.2.2.2))).2.2.2.2.2.2.2)], rfl, rfl, rfl⟩⟩⟩⟩⟩⟩⟩) ty_40 (by omega) ?_
       refine ji_in2 (listed' := #[true, true, true, true, true, true, true]) (by kernel_rfl) rfl ?_
       refine j_pull22 ?_
       refine j_pull22 ?_
       refine j_pull22 ?_
       refine j_pull22 ?_
       refine j_pull22 ?_
       refine j_pull22 ?_
       refine j_pull22 ?_
       refine j_pull22 ?_
       refine j_pull22 ?_
       refine j_pull22 ?_
       refine j_pull22 ?_
       refine j_pull22 ?_
       refine j_pull22 ?_
       refine j_pull22 ?_
       refine j_pull22 ?_
       refine j_pull22 ?_
       refine j_pull22 ?_
       refine j_pull22 ?_
       refine j_pull22 ?_
       refine j_pull22 ?_
       refine j_pull22 ?_
       refine j_pull22 ?_
       refine j_pull22 ?_
       show JI _ _ _ _ _ _ _ _ _
       exact ji_done ⟨r8, r9, r10, r11⟩ (by kernel_rfl) ⟨rfl, rfl, rfl, rfl, trivial⟩ (fun _ h => h)
    ·skip
     refine jq_then (jc_seq (jc_region (jo_pure rfl (pr_move rfl) (jo_pure rfl (pr_move rfl) (jo_pure rfl (pr_load_box (.agg #[r6, r7]) rfl ty_50 (.tail _ (.tail _ (.tail _ (.tail _ (.tail _ (.head _)))))) rfl (by decide) rfl) ?_)))))
     refine j_pub_row (j_pull6 ?_)
     refine j_dup rfl ?_
     refine j_pull2 (j_dup rfl ?_)
     refine j_pull2 (j_pull19 ?_)
     refine j_pull20 ?_
     refine j_pull20 ?_
     refine jo_callm [.imm (.list tyE) (r7) (((findA A key).2).set iz.toNat (((((findA A key).2).getD iz.toNat ([],[],[],[],[],[],0,0))).1, ((((((findA A key).2).getD iz.toNat ([],[],[],[],[],[],0,0))).2).1, (((((((findA A key).2).getD iz.toNat ([],[],[],[],[],[],0,0))).2).2).1, en.2.2.2)))), .imm (.list (.pair .str (.list .str))) (r6) ((findA A key).1), .imm (.list (.list .str)) (r8) ((((((findA A key).2).getD iz.toNat ([],[],[],[],[],[],0,0))).1, ((((((findA A key).2).getD iz.toNat ([],[],[],[],[],[],0,0))).2).1, (((((((findA A key).2).getD iz.toNat ([],[],[],[],[],[],0,0))).2).2).1, en.2.2.2))).1), .imm (.list .str) (r9) ((((((findA A key).2).getD iz.toNat ([],[],[],[],[],[],0,0))).1, ((((((findA A key).2).getD iz.toNat ([],[],[],[],[],[],0,0))).2).1, (((((((findA A key).2).getD iz.toNat ([],[],[],[],[],[],0,0))).2).2).1, en.2.2.2))).2.1), .imm (.list .str) (r10) ((((((findA A key).2).getD iz.toNat ([],[],[],[],[],[],0,0))).1, ((((((findA A key).2).getD iz.toNat ([],[],[],[],[],[],0,0))).2).1, (((((((findA A key).2).getD iz.toNat ([],[],[],[],[],[],0,0))).2).2).1, en.2.2.2))).2.2.1), .imm (.list (.pair .str .str)) (r11) ((((((findA A key).2).getD iz.toNat ([],[],[],[],[],[],0,0))).1, ((((((findA A key).2).getD iz.toNat ([],[],[],[],[],[],0,0))).2).1, (((((((findA A key).2).getD iz.toNat ([],[],[],[],[],[],0,0))).2).2).1, en.2.2.2))).2.2.2.2.1), .box b2 50 [r6, r7], .box b1 40 [e1, e2, e3, str (en.2.2.2.1), env4, str (en.2.2.2.2.2.1), .int .i64 (en.2.2.2.2.2.2.1), .int .i64 (en.2.2.2.2.2.2.2)], .box b3 40 [e1, e2, e3, str ((((((((findA A key).2).getD iz.toNat ([],[],[],[],[],[],0,0))).2).2).2).1), e4, str ((((((((((findA A key).2).getD iz.toNat ([],[],[],[],[],[],0,0))).2).2).2).2).2).1), .int .i64 (((((((((((findA A key).2).getD iz.toNat ([],[],[],[],[],[],0,0))).2).2).2).2).2).2).1), .int .i64 (((((((((((findA A key).2).getD iz.toNat ([],[],[],[],[],[],0,0))).2).2).2).2).2).2).2)], .imm (.list (.list .str)) (e1) (((((findA A key).2).getD iz.toNat ([],[],[],[],[],[],0,0))).1), .imm (.list .str) (e2) ((((((findA A key).2).getD iz.toNat ([],[],[],[],[],[],0,0))).2).1), .imm (.list .str) (e3) (((((((findA A key).2).getD iz.toNat ([],[],[],[],[],[],0,0))).2).2).1), .imm (.list (.pair .str .str)) (e4) (((((((((findA A key).2).getD iz.toNat ([],[],[],[],[],[],0,0))).2).2).2).2).1), .fact (fun w_ I_ => ElemAt w_ I_ (r2) (iz.toNat) 8 [e1, e2, e3, str ((((((((findA A key).2).getD iz.toNat ([],[],[],[],[],[],0,0))).2).2).2).1), e4, str ((((((((((findA A key).2).getD iz.toNat ([],[],[],[],[],[],0,0))).2).2).2).2).2).1), .int .i64 (((((((((((findA A key).2).getD iz.toNat ([],[],[],[],[],[],0,0))).2).2).2).2).2).2).1), .int .i64 (((((((((((findA A key).2).getD iz.toNat ([],[],[],[],[],[],0,0))).2).2).2).2).2).2).2)]), .imm (.list (.pair .str (.list .str))) (r1) ((findA A key).1), .imm (.list tyE) (r2) ((findA A key).2), .imm (.list (.list .str)) (env) (en.1), .imm (.list .str) (env2) (en.2.1), .imm (.list .str) (env3) (en.2.2.1), .imm (.list (.pair .str .str)) (env4) (en.2.2.2.2.1)] rfl cal_49 (c_store_set b r bu va ta (totA A) ov (keysA A) A key ((findA A key).1, ((findA A key).2).set iz.toNat (((((findA A key).2).getD iz.toNat ([],[],[],[],[],[],0,0))).1, ((((((findA A key).2).getD iz.toNat ([],[],[],[],[],[],0,0))).2).1, (((((((findA A key).2).getD iz.toNat ([],[],[],[],[],[],0,0))).2).2).1, en.2.2.2)))) r6 r7 (by omega) (hok) (by first | exact hto | exact okT_rem hfo _) (Nat.le_trans hfz (Nat.le_add_right _ _)) (by omega)) ⟨rfl, rfl, rfl, trivial⟩ rfl (fun r12 => ?_)
     refine jo_nil (jq_then (jc_seq (jc_region (jo_pure rfl (pr_move rfl) (jo_pure rfl (pr_move rfl) (j_pull1 (j_pull1 ?_)))))))
     refine jo_callm [.mpt r tyT (setM A key ((findA A key).1, ((findA A key).2).set iz.toNat (((((findA A key).2).getD iz.toNat ([],[],[],[],[],[],0,0))).1, ((((((findA A key).2).getD iz.toNat ([],[],[],[],[],[],0,0))).2).1, (((((((findA A key).2).getD iz.toNat ([],[],[],[],[],[],0,0))).2).2).1, en.2.2.2))))), .imm (.list tyE) (r7) (((findA A key).2).set iz.toNat (((((findA A key).2).getD iz.toNat ([],[],[],[],[],[],0,0))).1, ((((((findA A key).2).getD iz.toNat ([],[],[],[],[],[],0,0))).2).1, (((((((findA A key).2).getD iz.toNat ([],[],[],[],[],[],0,0))).2).2).1, en.2.2.2)))), .imm (.list (.pair .str (.list .str))) (r6) ((findA A key).1), .imm (.list (.list .str)) (r8) ((((((findA A key).2).getD iz.toNat ([],[],[],[],[],[],0,0))).1, ((((((findA A key).2).getD iz.toNat ([],[],[],[],[],[],0,0))).2).1, (((((((findA A key).2).getD iz.toNat ([],[],[],[],[],[],0,0))).2).2).1, en.2.2.2))).1), .imm (.list .str) (r9) ((((((findA A key).2).getD iz.toNat ([],[],[],[],[],[],0,0))).1, ((((((findA A key).2).getD iz.toNat ([],[],[],[],[],[],0,0))).2).1, (((((((findA A key).2).getD iz.toNat ([],[],[],[],[],[],0,0))).2).2).1, en.2.2.2))).2.1), .imm (.list .str) (r10) ((((((findA A key).2).getD iz.toNat ([],[],[],[],[],[],0,0))).1, ((((((findA A key).2).getD iz.toNat ([],[],[],[],[],[],0,0))).2).1, (((((((findA A key).2).getD iz.toNat ([],[],[],[],[],[],0,0))).2).2).1, en.2.2.2))).2.2.1), .imm (.list (.pair .str .str)) (r11) ((((((findA A key).2).getD iz.toNat ([],[],[],[],[],[],0,0))).1, ((((((findA A key).2).getD iz.toNat ([],[],[],[],[],[],0,0))).2).1, (((((((findA A key).2).getD iz.toNat ([],[],[],[],[],[],0,0))).2).2).1, en.2.2.2))).2.2.2.2.1), .box b2 50 [r6, r7], .box b1 40 [e1, e2, e3, str (en.2.2.2.1), env4, str (en.2.2.2.2.2.1), .int .i64 (en.2.2.2.2.2.2.1), .int .i64 (en.2.2.2.2.2.2.2)], .box b3 40 [e1, e2, e3, str ((((((((findA A key).2).getD iz.toNat ([],[],[],[],[],[],0,0))).2).2).2).1), e4, str ((((((((((findA A key).2).getD iz.toNat ([],[],[],[],[],[],0,0))).2).2).2).2).2).1), .int .i64 (((((((((((findA A key).2).getD iz.toNat ([],[],[],[],[],[],0,0))).2).2).2).2).2).2).1), .int .i64 (((((((((((findA A key).2).getD iz.toNat ([],[],[],[],[],[],0,0))).2).2).2).2).2).2).2)], .imm (.list (.list .str)) (e1) (((((findA A key).2).getD iz.toNat ([],[],[],[],[],[],0,0))).1), .imm (.list .str) (e2) ((((((findA A key).2).getD iz.toNat ([],[],[],[],[],[],0,0))).2).1), .imm (.list .str) (e3) (((((((findA A key).2).getD iz.toNat ([],[],[],[],[],[],0,0))).2).2).1), .imm (.list (.pair .str .str)) (e4) (((((((((findA A key).2).getD iz.toNat ([],[],[],[],[],[],0,0))).2).2).2).2).1), .fact (fun w_ I_ => ElemAt w_ I_ (r2) (iz.toNat) 8 [e1, e2, e3, str ((((((((findA A key).2).getD iz.toNat ([],[],[],[],[],[],0,0))).2).2).2).1), e4, str ((((((((((findA A key).2).getD iz.toNat ([],[],[],[],[],[],0,0))).2).2).2).2).2).1), .int .i64 (((((((((((findA A key).2).getD iz.toNat ([],[],[],[],[],[],0,0))).2).2).2).2).2).2).1), .int .i64 (((((((((((findA A key).2).getD iz.toNat ([],[],[],[],[],[],0,0))).2).2).2).2).2).2).2)]), .imm (.list (.pair .str (.list .str))) (r1) ((findA A key).1), .imm (.list tyE) (r2) ((findA A key).2), .imm (.list (.list .str)) (env) (en.1), .imm (.list .str) (env2) (en.2.1), .imm (.list .str) (env3) (en.2.2.1), .imm (.list (.pair .str .str)) (env4) (en.2.2.2.2.1)] rfl cal_50 (c_store_first b r bu va ta (.int .i64 (((totA A) + sizeL ((findA A key).1, ((findA A key).2).set iz.toNat (((((findA A key).2).getD iz.toNat ([],[],[],[],[],[],0,0))).1, ((((((findA A key).2).getD iz.toNat ([],[],[],[],[],[],0,0))).2).1, (((((((findA A key).2).getD iz.toNat ([],[],[],[],[],[],0,0))).2).2).1, en.2.2.2)))).2 - sizeL (findA A key).2 : Nat) : Int)) r12 (setO (keysA A) key ((findA A key).1, ((findA A key).2).set iz.toNat (((((findA A key).2).getD iz.toNat ([],[],[],[],[],[],0,0))).1, ((((((findA A key).2).getD iz.toNat ([],[],[],[],[],[],0,0))).2).1, (((((((findA A key).2).getD iz.toNat ([],[],[],[],[],[],0,0))).2).2).1, en.2.2.2))))) key (by rw [setO_yes (by exact hsl)]; omega)) ⟨rfl, rfl, trivial⟩ rfl (fun r13 => ?_)
     refine jo_nil (jq_then (jc_seq ?_))
     rw [show setM A key ((findA A key).1, ((findA A key).2).set iz.toNat (((((findA A key).2).getD iz.toNat ([],[],[],[],[],[],0,0))).1, ((((((findA A key).2).getD iz.toNat ([],[],[],[],[],[],0,0))).2).1, (((((((findA A key).2).getD iz.toNat ([],[],[],[],[],[],0,0))).2).2).1, en.2.2.2)))) = frontA A key ((findA A key).1, (findA A key).2.set iz.toNat (newE A key iz en)) from setM_yes hsl, show frontS (setO (keysA A) key ((findA A key).1, ((findA A key).2).set iz.toNat (((((findA A key).2).getD iz.toNat ([],[],[],[],[],[],0,0))).1, ((((((findA A key).2).getD iz.toNat ([],[],[],[],[],[],0,0))).2).1, (((((((findA A key).2).getD iz.toNat ([],[],[],[],[],[],0,0))).2).2).1, en.2.2.2))))) key = keysA (frontA A key ((findA A key).1, (findA A key).2.set iz.toNat (newE A key iz en))) from by rw [keys_front]; exact congrArg (fun q => frontS q key) (setO_yes hsl), show (totA A) + sizeL ((findA A key).1, ((findA A key).2).set iz.toNat (((((findA A key).2).getD iz.toNat ([],[],[],[],[],[],0,0))).1, ((((((findA A key).2).getD iz.toNat ([],[],[],[],[],[],0,0))).2).1, (((((((findA A key).2).getD iz.toNat ([],[],[],[],[],[],0,0))).2).2).1, en.2.2.2)))).2 - sizeL (findA A key).2 = totA (frontA A key ((findA A key).1, (findA A key).2.set iz.toNat (newE A key iz en))) from front_used hn]
     refine jc_region (jo_pure rfl (pr_move rfl) (jo_pure rfl (pr_move rfl) (jo_pure rfl (pr_move rfl) (j_pull2 (j_pull2 (j_pull2 ?_))))))
     refine jo_callm [.imm (.list tyE) (r7) (((findA A key).2).set iz.toNat (((((findA A key).2).getD iz.toNat ([],[],[],[],[],[],0,0))).1, ((((((findA A key).2).getD iz.toNat ([],[],[],[],[],[],0,0))).2).1, (((((((findA A key).2).getD iz.toNat ([],[],[],[],[],[],0,0))).2).2).1, en.2.2.2)))), .imm (.list (.pair .str (.list .str))) (r6) ((findA A key).1), .imm (.list (.list .str)) (r8) ((((((findA A key).2).getD iz.toNat ([],[],[],[],[],[],0,0))).1, ((((((findA A key).2).getD iz.toNat ([],[],[],[],[],[],0,0))).2).1, (((((((findA A key).2).getD iz.toNat ([],[],[],[],[],[],0,0))).2).2).1, en.2.2.2))).1), .imm (.list .str) (r9) ((((((findA A key).2).getD iz.toNat ([],[],[],[],[],[],0,0))).1, ((((((findA A key).2).getD iz.toNat ([],[],[],[],[],[],0,0))).2).1, (((((((findA A key).2).getD iz.toNat ([],[],[],[],[],[],0,0))).2).2).1, en.2.2.2))).2.1), .imm (.list .str) (r10) ((((((findA A key).2).getD iz.toNat ([],[],[],[],[],[],0,0))).1, ((((((findA A key).2).getD iz.toNat ([],[],[],[],[],[],0,0))).2).1, (((((((findA A key).2).getD iz.toNat ([],[],[],[],[],[],0,0))).2).2).1, en.2.2.2))).2.2.1), .imm (.list (.pair .str .str)) (r11) ((((((findA A key).2).getD iz.toNat ([],[],[],[],[],[],0,0))).1, ((((((findA A key).2).getD iz.toNat ([],[],[],[],[],[],0,0))).2).1, (((((((findA A key).2).getD iz.toNat ([],[],[],[],[],[],0,0))).2).2).1, en.2.2.2))).2.2.2.2.1), .box b2 50 [r6, r7], .box b1 40 [e1, e2, e3, str (en.2.2.2.1), env4, str (en.2.2.2.2.2.1), .int .i64 (en.2.2.2.2.2.2.1), .int .i64 (en.2.2.2.2.2.2.2)], .box b3 40 [e1, e2, e3, str ((((((((findA A key).2).getD iz.toNat ([],[],[],[],[],[],0,0))).2).2).2).1), e4, str ((((((((((findA A key).2).getD iz.toNat ([],[],[],[],[],[],0,0))).2).2).2).2).2).1), .int .i64 (((((((((((findA A key).2).getD iz.toNat ([],[],[],[],[],[],0,0))).2).2).2).2).2).2).1), .int .i64 (((((((((((findA A key).2).getD iz.toNat ([],[],[],[],[],[],0,0))).2).2).2).2).2).2).2)], .imm (.list (.list .str)) (e1) (((((findA A key).2).getD iz.toNat ([],[],[],[],[],[],0,0))).1), .imm (.list .str) (e2) ((((((findA A key).2).getD iz.toNat ([],[],[],[],[],[],0,0))).2).1), .imm (.list .str) (e3) (((((((findA A key).2).getD iz.toNat ([],[],[],[],[],[],0,0))).2).2).1), .imm (.list (.pair .str .str)) (e4) (((((((((findA A key).2).getD iz.toNat ([],[],[],[],[],[],0,0))).2).2).2).2).1), .fact (fun w_ I_ => ElemAt w_ I_ (r2) (iz.toNat) 8 [e1, e2, e3, str ((((((((findA A key).2).getD iz.toNat ([],[],[],[],[],[],0,0))).2).2).2).1), e4, str ((((((((((findA A key).2).getD iz.toNat ([],[],[],[],[],[],0,0))).2).2).2).2).2).1), .int .i64 (((((((((((findA A key).2).getD iz.toNat ([],[],[],[],[],[],0,0))).2).2).2).2).2).2).1), .int .i64 (((((((((((findA A key).2).getD iz.toNat ([],[],[],[],[],[],0,0))).2).2).2).2).2).2).2)]), .imm (.list (.pair .str (.list .str))) (r1) ((findA A key).1), .imm (.list tyE) (r2) ((findA A key).2), .imm (.list (.list .str)) (env) (en.1), .imm (.list .str) (env2) (en.2.1), .imm (.list .str) (env3) (en.2.2.1), .imm (.list (.pair .str .str)) (env4) (en.2.2.2.2.1)] rfl cal_51 (c_store_shrink b r bu va ta r13 (frontA A key ((findA A key).1, (findA A key).2.set iz.toNat (newE A key iz en))) key ((iz.toNat : Nat) : Int) false (findA A key).1 (newE A key iz en) (by rw [ixe]; exact repl_good hn hi.some_ hon) (hsz) (hta.1) (okT_front hok hto) (by omega) (by omega)) ⟨rfl, rfl, rfl, trivial⟩ rfl (fun r14 => ?_)
     refine jo_nil (jq_then (jc_seq (jc_region (jo_pure rfl (pr_assign rfl) (jo_nil (jq_then (jc_ret (j_pull3 (j_drop (j_pull3 (j_drop (j_pull3 (j_drop (j_pull3 (j_drop (j_pull3 (j_drop (j_pull3 (j_drop (j_pull3 (j_drop (j_pull3 (j_drop ?_)))))))))))))))))))))))
     refine j_pull3 (j_drop (j_pull3 (j_drop (j_pull3 (j_drop (j_pull3 (j_drop (j_pull3 (j_drop (j_pull3 (j_drop (j_pull3 (j_drop (j_pull3 (j_drop (j_pull3 (j_drop (j_pull3 (j_drop (j_pull3 (j_drop (j_pull3 (j_drop ?_)))))))))))))))))))))))
     refine j_pull2 (j_pull2 (j_pull2 ?_))
     exact jq_ret1 rfl r14 rfl (show (_ : Value) = (.bool (true)) from congrArg Value.bool (by rw [ixe]; exact replB_fit hon hfit)) (fun _ h => by rw [ixe] at h; rw [ixe, repl_fit hon hfit]; exact h)
end Go.Proofs.YtlniaacdjllonaaGreat
