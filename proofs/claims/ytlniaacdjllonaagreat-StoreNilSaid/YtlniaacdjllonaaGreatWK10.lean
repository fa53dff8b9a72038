/-
 Contracts of functions of the program: each returns what a plain function says, for every input within the bounds named. Conditions: the bounds.
-/
import Derived.Test.YtlniaacdjllonaaGreatRows
import Derived.Test.YtlniaacdjllonaaGreatWK9
import Derived.Test.YtlniaacdjllonaaGreatWLawJ
namespace Go.Proofs.YtlniaacdjllonaaGreat
open Go Go.Sep
set_option linter.unusedSimpArgs false
set_option linter.unusedVariables false

open Go.Plain

theorem cal_47 : Cal Tryz.prog 47 := cal_of Tryz.func47 (by kernel_rfl) rfl
theorem cal_48 : Cal Tryz.prog 48 := cal_of Tryz.func48 (by kernel_rfl) rfl
theorem cal_51 : Cal Tryz.prog 51 := cal_of Tryz.func51 (by kernel_rfl) rfl

theorem c_store_Put (b r : Nat) (bu va ta : Nat) (ov : Value) (A : List (Str × (List (Axs)) × (List Ent))) (key : Str) (en : Ent) (env : Value) (env2 : Value) (env3 : Value) (env4 : Value) (axes : List (Axs)) (axesv : Value) (hi : InvA bu va ta A) (hok : ∀ x ∈ A, OkT x.2) (hbu : bu ≤ 100000000) (hva : 1 ≤ va ∧ va ≤ 1000) (hta : 1 ≤ ta ∧ ta ≤ 1000) (he : OkE en) (hxx : OkA axes) : Con Tryz.prog 21 #[.pointer (some ⟨b, 0, none⟩), str (key), .agg #[env, env2, env3, str (en.2.2.2.1), env4, str (en.2.2.2.2.2.1), .int .i64 (en.2.2.2.2.2.2.1), .int .i64 (en.2.2.2.2.2.2.2)], axesv] [.box b 68 [.int .i64 ((bu : Nat) : Int), .int .i64 ((va : Nat) : Int), .int .i64 ((ta : Nat) : Int), .int .i64 ((totA A : Nat) : Int), ov, .map (some r)], .row (ov) 9 .str (keysA A), .mpt r tyT (A), .imm (.list (.list .str)) (env) (en.1), .imm (.list .str) (env2) (en.2.1), .imm (.list .str) (env3) (en.2.2.1), .imm (.list (.pair .str .str)) (env4) (en.2.2.2.2.1), .imm (.list (.pair .str (.list .str))) (axesv) (axes)] (fun r1 : Value => .bool (fitsB bu en axes)) (fun r1 => [.mpt r tyT (putA bu va ta A key en axes), .box b 68 [.int .i64 ((bu : Nat) : Int), .int .i64 ((va : Nat) : Int), .int .i64 ((ta : Nat) : Int), .int .i64 ((totA (putA bu va ta A key en axes) : Nat) : Int), r1, .map (some r)], .row (r1) 9 .str (keysA (putA bu va ta A key en axes))]) := by
 refine con_of_J (args := [.pointer (some ⟨b, 0, none⟩), str (key), .agg #[env, env2, env3, str (en.2.2.2.1), env4, str (en.2.2.2.2.2.1), .int .i64 (en.2.2.2.2.2.2.1), .int .i64 (en.2.2.2.2.2.2.2)], axesv]) (n := 59) Tryz.func21 rfl (Nat.le_of_ble_eq_true rfl) rfl (fun w0 I0 m0 => ?_)
 have hn := hi.keys
 have htot := hi.tot
 have hfo := okT_find hok key
 have hfl := hfo.len
 have hfz := find_tot (k := key) hn
 have hlk := len_keys A
 refine jc_seq (jc_region ?_)
 refine jo_box rfl [env, env2, env3, str (en.2.2.2.1), env4, str (en.2.2.2.2.2.1), .int .i64 (en.2.2.2.2.2.2.1), .int .i64 (en.2.2.2.2.2.2.2)] rfl rfl (fun b1 => ?_)
 refine jo_pure rfl (pr_assign rfl) (jo_nil (jq_then (jc_seq (jc_seq (jc_draws mixed (by kernel_rfl) (jd_pure rfl (pr_move rfl) ?_))))))
 refine jd_callq cal_31 (c_made b r (.int .i64 ((bu : Nat) : Int)) (.int .i64 ((va : Nat) : Int)) (.int .i64 ((ta : Nat) : Int)) (.int .i64 ((totA A : Nat) : Int)) ov) ⟨rfl, trivial⟩ rfl (⟨peek_box (.tail _ (.head _)), trivial⟩) ?_
 refine jd_pure rfl (pr_not rfl) ?_
 refine jd_pure rfl (pr_move rfl) ?_
 refine jd_run (j := 3) (want := false) rfl rfl (rfl) ?_
 refine jd_pure rfl (pr_load_box (.agg #[env, env2, env3, str (en.2.2.2.1), env4, str (en.2.2.2.2.2.1), .int .i64 (en.2.2.2.2.2.2.1), .int .i64 (en.2.2.2.2.2.2.2)]) rfl ty_40 (.head _) rfl (by decide) rfl) ?_
 refine jd_run (j := 3) (want := false) rfl rfl (rfl) ?_
 refine jd_callp cal_45 (c_entry_Size en env env2 env3 env4 (by first | omega | exact he | exact hxx | exact hfo.axes | exact Nat.le_trans hfl (by decide) | exact hfo.ents | (have := hxx.len; omega) | exact (fun a ha => ⟨hxx.names a ha, hxx.strs a ha, Nat.le_trans (hxx.vals a ha) (by decide)⟩))) ⟨rfl, trivial⟩ rfl (⟨⟨rfl, .tail _ (.tail _ (.tail _ (.tail _ (.head _))))⟩, ⟨⟨rfl, .tail _ (.tail _ (.tail _ (.tail _ (.tail _ (.head _)))))⟩, ⟨⟨rfl, .tail _ (.tail _ (.tail _ (.tail _ (.tail _ (.tail _ (.head _))))))⟩, ⟨⟨rfl, .tail _ (.tail _ (.tail _ (.tail _ (.tail _ (.tail _ (.tail _ (.head _)))))))⟩, trivial⟩⟩⟩⟩) ?_
 refine jd_run (j := 3) (want := false) rfl rfl (rfl) ?_
 refine jd_pure rfl (pr_move rfl) ?_
 refine jd_run (j := 3) (want := false) rfl rfl (rfl) ?_
 refine jd_pure rfl (pr_nilCheck rfl) ?_
 refine jd_run (j := 3) (want := false) rfl rfl (rfl) ?_
 refine jd_pure rfl (pr_fieldAddr 0 rfl Tryz.underlying68 rfl ty_3 rfl rfl) ?_
 refine jd_run (j := 3) (want := false) rfl rfl (rfl) ?_
 refine jd_pure rfl (pr_load_box (.int .i64 ((bu : Nat) : Int)) rfl ty_3 (.tail _ (.head _)) rfl (by decide) rfl) ?_
 refine jd_run (j := 3) (want := false) rfl rfl (rfl) ?_
 refine jd_pure rfl (pr_gtrN (m := sizeE en) (n := bu) rfl rfl) ?_
 refine jd_pure rfl (pr_pick_f rfl (rfl) rfl) ?_
 refine jd_pure rfl (pr_move rfl) ?_
 refine jd_gpure (j := 12) (want := false) rfl rfl rfl rfl (fun hg=>pr_move rfl) ?_
 refine jd_gpure (j := 12) (want := false) rfl rfl rfl rfl (fun hg=>pr_len_imm (evg rfl hg) (.tail _ (.tail _ (.tail _ (.tail _ (.tail _ (.tail _ (.tail _ (.tail _ (.head _))))))))) Tryz.underlying41) ?_
 refine jd_gpure (j := 12) (want := false) rfl rfl rfl rfl (fun hg=>pr_gtrN (m := axes.length) (n := 0) (evg rfl hg) rfl) ?_
 refine jd_gpure (j := 12) (want := false) rfl rfl rfl rfl (fun hg=>pr_move (evg rfl hg)) ?_
 refine jd_gpure2 (j := 16) (want := true) rfl rfl rfl rfl (fun hg=>pr_move rfl) ?_
 refine jd_gcall2 (j := 16) (want := true) rfl rfl rfl cal_47 (fun hg => c_variants_Valid axes axesv (by first | omega | exact he | exact hxx | exact hfo.axes | exact Nat.le_trans hfl (by decide) | exact hfo.ents | (have := hxx.len; omega) | exact (fun a ha => ⟨hxx.names a ha, hxx.strs a ha, Nat.le_trans (hxx.vals a ha) (by decide)⟩)) (by first | omega | exact he | exact hxx | exact hfo.axes | exact Nat.le_trans hfl (by decide) | exact hfo.ents | (have := hxx.len; omega) | exact (fun a ha => ⟨hxx.names a ha, hxx.strs a ha, Nat.le_trans (hxx.vals a ha) (by decide)⟩))) (fun hg => ⟨evg rfl hg, trivial⟩) rfl (fun _ => ⟨⟨rfl, .tail _ (.tail _ (.tail _ (.tail _ (.tail _ (.tail _ (.tail _ (.tail _ (.head _))))))))⟩, trivial⟩) ?_
 refine jd_gpure2 (j := 16) (want := true) rfl rfl rfl rfl (fun hg=>pr_not (evg rfl hg)) ?_
 refine jd_gpure (j := 12) (want := false) rfl rfl rfl rfl (fun hg=>pr_pick_and (evg rfl hg) (evg2 rfl hg) rfl) ?_
 refine jd_pure rfl (pr_pick_or rfl rfl rfl) ?_
 refine jd_nil ?_
 refine jq_then ?_
 refine jc_cond rfl (fun h1b => ?_) (fun h1b => ?_)
 ·have h1 := (fun q => Or.imp of_decide_eq_true (fun q => And.imp of_decide_eq_true (fun q => id (bt_not q)) (bt_and q)) (bt_or q)) h1b
  refine jc_seq (jc_region (jo_pure rfl (pr_assign rfl) (jo_nil (jq_then (jc_ret (jq_then_ret (j_drop (j_pull3 (j_drop (j_pull3 (j_drop (j_pull3 (j_drop (j_pull3 (j_drop (j_pull3 (j_drop (j_pull1 (j_pull1 (j_pull2 ?_))))))))))))))))))))
  exact jq_ret1 rfl ov rfl (show (_ : Value) = (.bool (false)) from congrArg Value.bool (fits_no h1b)) (fun _ h => by rw [put_no (fits_no h1b)]; exact h)
 ·have h1 := (fun q => And.imp of_decide_eq_false (fun q => Or.imp of_decide_eq_false (fun q => id (bf_not q)) (bf_and q)) (bf_or q)) h1b
  have hf := fits_yes h1b
  have hsz := fits_size hf
  have hT2 := putT_get (t := findA A key) (e := en) (axes := axes) (V := va) hva.1
  have hto : OkT (putT (findA A key) en axes va) := okT_put hfo he hxx (by omega)
  have hft := front_put_tot (k := key) (e := en) (axes := axes) (V := va) hn
  have hfl2 := front_len A key (putT (findA A key) en axes va)
  refine jc_skip (jq_then (jc_seq ?_))
  refine jc_heldI (fun (iq : Nat × Value × Value) => [(0, .pointer (some ⟨b, 0, none⟩)), (1, str (key)), (9, .pointer (some ⟨iq.1, 0, none⟩))]) (fun iq => [.box iq.1 50 [iq.2.1, iq.2.2], .imm (.list (.pair .str (.list .str))) (iq.2.1) (axes), .imm (.list tyE) (iq.2.2) ((putT (((lookS A key).getD ([], []))) en axes va).2), .box b1 40 [env, env2, env3, str (en.2.2.2.1), env4, str (en.2.2.2.2.2.1), .int .i64 (en.2.2.2.2.2.2.1), .int .i64 (en.2.2.2.2.2.2.2)], .box b 68 [.int .i64 ((bu : Nat) : Int), .int .i64 ((va : Nat) : Int), .int .i64 ((ta : Nat) : Int), .int .i64 ((totA A : Nat) : Int), ov, .map (some r)], .row (ov) 9 .str (keysA A), .mpt r tyT (A), .imm (.list (.list .str)) (env) (en.1), .imm (.list .str) (env2) (en.2.1), .imm (.list .str) (env3) (en.2.2.1), .imm (.list (.pair .str .str)) (env4) (en.2.2.2.2.1), .imm (.list (.pair .str (.list .str))) (axesv) (axes)]) [.box b1 40 [env, env2, env3, str (en.2.2.2.1), env4, str (en.2.2.2.2.2.1), .int .i64 (en.2.2.2.2.2.2.1), .int .i64 (en.2.2.2.2.2.2.2)], .box b 68 [.int .i64 ((bu : Nat) : Int), .int .i64 ((va : Nat) : Int), .int .i64 ((ta : Nat) : Int), .int .i64 ((totA A : Nat) : Int), ov, .map (some r)], .row (ov) 9 .str (keysA A), .mpt r tyT (A), .imm (.list (.list .str)) (env) (en.1), .imm (.list .str) (env2) (en.2.1), .imm (.list .str) (env3) (en.2.2.1), .imm (.list (.pair .str .str)) (env4) (en.2.2.2.2.1), .imm (.list (.pair .str (.list .str))) (axesv) (axes)] [14] mixed (fun lst hlst => ?_) (fun ⟨b2, r1, r2⟩ => ?_)
  ·subst hlst
   refine ji_take (listed' := #[true, false, false, false, false, false, false, false, false, false, false, false, false, false, false]) 0 rfl (by kernel_rfl) (by kernel_rfl) (by kernel_rfl) (by kernel_rfl) rfl (pr_move rfl) (fun _ h => h) rfl ?_
   refine ji_take (listed' := #[true, true, false, false, false, false, false, false, false, false, false, false, false, false, false]) 1 rfl (by kernel_rfl) (by kernel_rfl) (by kernel_rfl) (by kernel_rfl) rfl (pr_nilCheck rfl) (fun _ h => h) rfl ?_
   refine ji_take (listed' := #[true, true, true, false, false, false, false, false, false, false, false, false, false, false, false]) 2 rfl (by kernel_rfl) (by kernel_rfl) (by kernel_rfl) (by kernel_rfl) rfl (pr_fieldAddr 5 rfl Tryz.underlying68 rfl ty_66 rfl rfl) (fun _ h => h) rfl ?_
   refine ji_take (listed' := #[true, true, true, true, false, false, false, false, false, false, false, false, false, false, false]) 3 rfl (by kernel_rfl) (by kernel_rfl) (by kernel_rfl) (by kernel_rfl) rfl (pr_load_box (.map (some r)) rfl ty_66 (.tail _ (.head _)) rfl (by decide) rfl) (fun _ h => h) rfl ?_
   refine ji_take (listed' := #[true, true, true, true, true, false, false, false, false, false, false, false, false, false, false]) 4 rfl (by kernel_rfl) (by kernel_rfl) (by kernel_rfl) (by kernel_rfl) rfl (pr_move rfl) (fun _ h => h) rfl ?_
   refine ji_take (listed' := #[true, true, true, true, true, false, true, false, false, false, false, false, false, false, false]) 6 rfl (by kernel_rfl) (by kernel_rfl) (by kernel_rfl) (by kernel_rfl) rfl (pr_load_box (.agg #[env, env2, env3, str (en.2.2.2.1), env4, str (en.2.2.2.2.2.1), .int .i64 (en.2.2.2.2.2.2.1), .int .i64 (en.2.2.2.2.2.2.2)]) rfl ty_40 (.head _) rfl (by decide) rfl) (fun _ h => h) rfl ?_
   refine ji_take (listed' := #[true, true, true, true, true, false, true, true, false, false, false, false, false, false, false]) 7 rfl (by kernel_rfl) (by kernel_rfl) (by kernel_rfl) (by kernel_rfl) rfl (pr_move rfl) (fun _ h => h) rfl ?_
   refine ji_take (listed' := #[true, true, true, true, true, false, true, true, true, false, false, false, false, false, false]) 8 rfl (by kernel_rfl) (by kernel_rfl) (by kernel_rfl) (by kernel_rfl) rfl (pr_move rfl) (fun _ h => h) rfl ?_
   refine ji_take (listed' := #[true, true, true, true, true, false, true, true, true, true, false, false, false, false, false]) 9 rfl (by kernel_rfl) (by kernel_rfl) (by kernel_rfl) (by kernel_rfl) rfl (pr_nilCheck rfl) (fun _ h => h) rfl ?_
   refine ji_take (listed' := #[true, true, true, true, true, false, true, true, true, true, true, false, false, false, false]) 10 rfl (by kernel_rfl) (by kernel_rfl) (by kernel_rfl) (by kernel_rfl) rfl (pr_fieldAddr 1 rfl Tryz.underlying68 rfl ty_3 rfl rfl) (fun _ h => h) rfl ?_
   refine ji_take (listed' := #[true, true, true, true, true, false, true, true, true, true, true, true, false, false, false]) 11 rfl (by kernel_rfl) (by kernel_rfl) (by kernel_rfl) (by kernel_rfl) rfl (pr_load_box (.int .i64 ((va : Nat) : Int)) rfl ty_3 (.tail _ (.head _)) rfl (by decide) rfl) (fun _ h => h) rfl ?_
   refine ji_all [5, 13] (by kernel_rfl) (by simp) (fun i hi => ?_)
   simp only [List.mem_cons, List.not_mem_nil, or_false] at hi
   rcases hi with rfl | rfl
   ·refine jh_op rfl ?_
    refine jo_lookT (ty := tyT) ([], []) rfl rfl (.tail _ (.tail _ (.tail _ (.head _)))) Tryz.underlying66 Tryz.underlying9 ty_50 (fun w I => ⟨[.slice none 0 0, .slice none 0 0], rfl, [.slice none 0 0], [.slice none 0 0], rfl, repC_nil, repC_nil⟩) rfl (fun ⟨e1, e2⟩ => ?_)
    refine ji_in (listed' := #[true, true, true, true, true, true, true, true, true, true, true, true, false, false, false]) (fun _ h => Mem.drop1 (Mem.drop1 (h))) rfl ?_
    refine ji_all [12, 13] (by kernel_rfl) (by simp) (fun i hi => ?_)
    simp only [List.mem_cons, List.not_mem_nil, or_false] at hi
    rcases hi with rfl | rfl
    ·refine jh_op rfl ?_
     have con1 := c_table_Put (((lookS A key).getD ([], []))) e1 e2 en env env2 env3 env4 axes axesv va (by first | omega | exact he | exact hxx | exact hfo.axes | exact Nat.le_trans hfl (by decide) | exact hfo.ents | (have := hxx.len; omega) | exact (fun a ha => ⟨hxx.names a ha, hxx.strs a ha, Nat.le_trans (hxx.vals a ha) (by decide)⟩)) (by first | omega | exact he | exact hxx | exact hfo.axes | exact Nat.le_trans hfl (by decide) | exact hfo.ents | (have := hxx.len; omega) | exact (fun a ha => ⟨hxx.names a ha, hxx.strs a ha, Nat.le_trans (hxx.vals a ha) (by decide)⟩)) (by first | omega | exact he | exact hxx | exact hfo.axes | exact Nat.le_trans hfl (by decide) | exact hfo.ents | (have := hxx.len; omega) | exact (fun a ha => ⟨hxx.names a ha, hxx.strs a ha, Nat.le_trans (hxx.vals a ha) (by decide)⟩)) (by first | omega | exact he | exact hxx | exact hfo.axes | exact Nat.le_trans hfl (by decide) | exact hfo.ents | (have := hxx.len; omega) | exact (fun a ha => ⟨hxx.names a ha, hxx.strs a ha, Nat.le_trans (hxx.vals a ha) (by decide)⟩)) (by first | omega | exact he | exact hxx | exact hfo.axes | exact Nat.le_trans hfl (by decide) | exact hfo.ents | (have := hxx.len; omega) | exact (fun a ha => ⟨hxx.names a ha, hxx.strs a ha, Nat.le_trans (hxx.vals a ha) (by decide)⟩)) (by first | omega | exact he | exact hxx | exact hfo.axes | exact Nat.le_trans hfl (by decide) | exact hfo.ents | (have := hxx.len; omega) | exact (fun a ha => ⟨hxx.names a ha, hxx.strs a ha, Nat.le_trans (hxx.vals a ha) (by decide)⟩))
     refine jo_callp cal_48 con1 (by exact ⟨rfl, rfl, rfl, rfl, trivial⟩) rfl (by exact ⟨⟨rfl, .head _⟩, ⟨⟨rfl, .tail _ (.head _)⟩, ⟨⟨rfl, .tail _ (.tail _ (.tail _ (.tail _ (.tail _ (.tail _ (.head _))))))⟩, ⟨⟨rfl, .tail _ (.tail _ (.tail _ (.tail _ (.tail _ (.tail _ (.tail _ (.head _)))))))⟩, ⟨⟨rfl, .tail _ (.tail _ (.tail _ (.tail _ (.tail _ (.tail _ (.tail _ (.tail _ (.head _))))))))⟩, ⟨⟨rfl, .tail _ (.tail _ (.tail _ (.tail _ (.tail _ (.tail _ (.tail _ (.tail _ (.tail _ (.head _)))))))))⟩, ⟨⟨rfl, .tail _ (.tail _ (.tail _ (.tail _ (.tail _ (.tail _ (.tail _ (.tail _ (.tail _ (.tail _ (.head _))))))))))⟩, trivial⟩⟩⟩⟩⟩⟩⟩) (fun ⟨r1, r2⟩ => ?_)
     clear con1
     refine ji_in (listed' := #[true, true, true, true, true, true, true, true, true, true, true, true, true, false, false]) (fun _ h => Mem.drop1 (Mem.drop1 (Mem.drop1 (Mem.drop1 (h))))) rfl ?_
     refine ji_all [13] (by kernel_rfl) (by simp) (fun i hi => ?_)
     simp only [List.mem_cons, List.not_mem_nil, or_false] at hi
     subst hi
     ·refine jh_op rfl ?_
      refine jo_alloc ty_50 [.slice none 0 0, .slice none 0 0] rfl rfl (fun b2 => ?_)
      refine ji_in (listed' := #[true, true, true, true, true, true, true, true, true, true, true, true, true, true, false]) (fun _ h => Mem.drop1 (Mem.drop1 (Mem.drop1 (Mem.drop1 (Mem.drop1 (h)))))) rfl ?_
      refine ji_all [14] (by kernel_rfl) (by simp) (fun i hi => ?_)
      simp only [List.mem_cons, List.not_mem_nil, or_false] at hi
      subst hi
      ·refine jh_op rfl ?_
       refine jo_storeV rfl rfl ty_50 [r1, r2] (fun _ _ _ _ => rfl) rfl (fun w I m hs => by simp only [List.all_cons, List.all_nil, Bool.and_true, Bool.and_eq_true]; exact ⟨(SliceV.one (imm_slice (.tail _ (.head _)) hs)), (SliceV.one (imm_slice (.tail _ (.tail _ (.head _))) hs))⟩) [r1, r2] rfl rfl ?_
       refine ji_in2 (listed' := #[true, true, true, true, true, true, true, true, true, true, true, true, true, true, true]) (by kernel_rfl) rfl ?_
       refine j_pull3 (j_drop (j_pull3 (j_drop (j_pull11 ?_))))
       refine j_pull11 ?_
       refine j_pull11 ?_
       refine j_pull11 ?_
       refine j_pull11 ?_
       refine j_pull11 ?_
       refine j_pull11 ?_
       refine j_pull11 ?_
       refine j_pull11 ?_
       refine j_pull11 ?_
       refine j_pull11 ?_
       refine j_pull11 ?_
       show JI _ _ _ _ _ _ _ _ _
       exact ji_done ⟨b2, r1, r2⟩ (by kernel_rfl) ⟨rfl, rfl, rfl, trivial⟩ (fun _ h => h)
    ·refine jh_op rfl ?_
     refine jo_alloc ty_50 [.slice none 0 0, .slice none 0 0] rfl rfl (fun b3 => ?_)
     refine ji_in (listed' := #[true, true, true, true, true, true, true, true, true, true, true, true, false, true, false]) (fun _ h => Mem.drop1 (Mem.drop1 (Mem.drop1 (h)))) rfl ?_
     refine ji_all [12] (by kernel_rfl) (by simp) (fun i hi => ?_)
     simp only [List.mem_cons, List.not_mem_nil, or_false] at hi
     subst hi
     ·refine jh_op rfl ?_
      have con2 := c_table_Put (((lookS A key).getD ([], []))) e1 e2 en env env2 env3 env4 axes axesv va (by first | omega | exact he | exact hxx | exact hfo.axes | exact Nat.le_trans hfl (by decide) | exact hfo.ents | (have := hxx.len; omega) | exact (fun a ha => ⟨hxx.names a ha, hxx.strs a ha, Nat.le_trans (hxx.vals a ha) (by decide)⟩)) (by first | omega | exact he | exact hxx | exact hfo.axes | exact Nat.le_trans hfl (by decide) | exact hfo.ents | (have := hxx.len; omega) | exact (fun a ha => ⟨hxx.names a ha, hxx.strs a ha, Nat.le_trans (hxx.vals a ha) (by decide)⟩)) (by first | omega | exact he | exact hxx | exact hfo.axes | exact Nat.le_trans hfl (by decide) | exact hfo.ents | (have := hxx.len; omega) | exact (fun a ha => ⟨hxx.names a ha, hxx.strs a ha, Nat.le_trans (hxx.vals a ha) (by decide)⟩)) (by first | omega | exact he | exact hxx | exact hfo.axes | exact Nat.le_trans hfl (by decide) | exact hfo.ents | (have := hxx.len; omega) | exact (fun a ha => ⟨hxx.names a ha, hxx.strs a ha, Nat.le_trans (hxx.vals a ha) (by decide)⟩)) (by first | omega | exact he | exact hxx | exact hfo.axes | exact Nat.le_trans hfl (by decide) | exact hfo.ents | (have := hxx.len; omega) | exact (fun a ha => ⟨hxx.names a ha, hxx.strs a ha, Nat.le_trans (hxx.vals a ha) (by decide)⟩)) (by first | omega | exact he | exact hxx | exact hfo.axes | exact Nat.le_trans hfl (by decide) | exact hfo.ents | (have := hxx.len; omega) | exact (fun a ha => ⟨hxx.names a ha, hxx.strs a ha, Nat.le_trans (hxx.vals a ha) (by decide)⟩))
      refine jo_callp cal_48 con2 (by exact ⟨rfl, rfl, rfl, rfl, trivial⟩) rfl (by exact ⟨⟨rfl, .tail _ (.head _)⟩, ⟨⟨rfl, .tail _ (.tail _ (.head _))⟩, ⟨⟨rfl, .tail _ (.tail _ (.tail _ (.tail _ (.tail _ (.tail _ (.tail _ (.head _)))))))⟩, ⟨⟨rfl, .tail _ (.tail _ (.tail _ (.tail _ (.tail _ (.tail _ (.tail _ (.tail _ (.head _))))))))⟩, ⟨⟨rfl, .tail _ (.tail _ (.tail _ (.tail _ (.tail _ (.tail _ (.tail _ (.tail _ (.tail _ (.head _)))))))))⟩, ⟨⟨rfl, .tail _ (.tail _ (.tail _ (.tail _ (.tail _ (.tail _ (.tail _ (.tail _ (.tail _ (.tail _ (.head _))))))))))⟩, ⟨⟨rfl, .tail _ (.tail _ (.tail _ (.tail _ (.tail _ (.tail _ (.tail _ (.tail _ (.tail _ (.tail _ (.tail _ (.head _)))))))))))⟩, trivial⟩⟩⟩⟩⟩⟩⟩) (fun ⟨r3, r4⟩ => ?_)
      clear con2
      refine ji_in (listed' := #[true, true, true, true, true, true, true, true, true, true, true, true, true, true, false]) (fun _ h => Mem.drop1 (Mem.drop1 (Mem.drop1 (Mem.drop1 (Mem.drop1 (h)))))) rfl ?_
      refine ji_all [14] (by kernel_rfl) (by simp) (fun i hi => ?_)
      simp only [List.mem_cons, List.not_mem_nil, or_false] at hi
      subst hi
      ·refine jh_op rfl ?_
       refine j_pull2 (jo_storeV rfl rfl ty_50 [r3, r4] (fun _ _ _ _ => rfl) rfl (fun w I m hs => by simp only [List.all_cons, List.all_nil, Bool.and_true, Bool.and_eq_true]; exact ⟨(SliceV.one (imm_slice (.tail _ (.head _)) hs)), (SliceV.one (imm_slice (.tail _ (.tail _ (.head _))) hs))⟩) [r3, r4] rfl rfl ?_)
       refine ji_in2 (listed' := #[true, true, true, true, true, true, true, true, true, true, true, true, true, true, true]) (by kernel_rfl) rfl ?_
       refine j_pull3 (j_drop (j_pull3 (j_drop (j_pull11 ?_))))
       refine j_pull11 ?_
       refine j_pull11 ?_
       refine j_pull11 ?_
       refine j_pull11 ?_
       refine j_pull11 ?_
       refine j_pull11 ?_
       refine j_pull11 ?_
       refine j_pull11 ?_
       refine j_pull11 ?_
       refine j_pull11 ?_
       refine j_pull11 ?_
       show JI _ _ _ _ _ _ _ _ _
       exact ji_done ⟨b3, r3, r4⟩ (by kernel_rfl) ⟨rfl, rfl, rfl, trivial⟩ (fun _ h => h)
   ·refine jh_op rfl ?_
    refine jo_alloc ty_50 [.slice none 0 0, .slice none 0 0] rfl rfl (fun b4 => ?_)
    refine ji_in (listed' := #[true, true, true, true, true, false, true, true, true, true, true, true, false, true, false]) (fun _ h => Mem.drop1 (h)) rfl ?_
    refine ji_all [5] (by kernel_rfl) (by simp) (fun i hi => ?_)
    simp only [List.mem_cons, List.not_mem_nil, or_false] at hi
    subst hi
    ·refine jh_op rfl ?_
     refine jo_lookT (ty := tyT) ([], []) rfl rfl (.tail _ (.tail _ (.tail _ (.tail _ (.head _))))) Tryz.underlying66 Tryz.underlying9 ty_50 (fun w I => ⟨[.slice none 0 0, .slice none 0 0], rfl, [.slice none 0 0], [.slice none 0 0], rfl, repC_nil, repC_nil⟩) rfl (fun ⟨e3, e4⟩ => ?_)
     refine ji_in (listed' := #[true, true, true, true, true, true, true, true, true, true, true, true, false, true, false]) (fun _ h => Mem.drop1 (Mem.drop1 (Mem.drop1 (h)))) rfl ?_
     refine ji_all [12] (by kernel_rfl) (by simp) (fun i hi => ?_)
     simp only [List.mem_cons, List.not_mem_nil, or_false] at hi
     subst hi
     ·refine jh_op rfl ?_
      have con3 := c_table_Put (((lookS A key).getD ([], []))) e3 e4 en env env2 env3 env4 axes axesv va (by first | omega | exact he | exact hxx | exact hfo.axes | exact Nat.le_trans hfl (by decide) | exact hfo.ents | (have := hxx.len; omega) | exact (fun a ha => ⟨hxx.names a ha, hxx.strs a ha, Nat.le_trans (hxx.vals a ha) (by decide)⟩)) (by first | omega | exact he | exact hxx | exact hfo.axes | exact Nat.le_trans hfl (by decide) | exact hfo.ents | (have := hxx.len; omega) | exact (fun a ha => ⟨hxx.names a ha, hxx.strs a ha, Nat.le_trans (hxx.vals a ha) (by decide)⟩)) (by first | omega | exact he | exact hxx | exact hfo.axes | exact Nat.le_trans hfl (by decide) | exact hfo.ents | (have := hxx.len; omega) | exact (fun a ha => ⟨hxx.names a ha, hxx.strs a ha, Nat.le_trans (hxx.vals a ha) (by decide)⟩)) (by first | omega | exact he | exact hxx | exact hfo.axes | exact Nat.le_trans hfl (by decide) | exact hfo.ents | (have := hxx.len; omega) | exact (fun a ha => ⟨hxx.names a ha, hxx.strs a ha, Nat.le_trans (hxx.vals a ha) (by decide)⟩)) (by first | omega | exact he | exact hxx | exact hfo.axes | exact Nat.le_trans hfl (by decide) | exact hfo.ents | (have := hxx.len; omega) | exact (fun a ha => ⟨hxx.names a ha, hxx.strs a ha, Nat.le_trans (hxx.vals a ha) (by decide)⟩)) (by first | omega | exact he | exact hxx | exact hfo.axes | exact Nat.le_trans hfl (by decide) | exact hfo.ents | (have := hxx.len; omega) | exact (fun a ha => ⟨hxx.names a ha, hxx.strs a ha, Nat.le_trans (hxx.vals a ha) (by decide)⟩))
      refine jo_callp cal_48 con3 (by exact ⟨rfl, rfl, rfl, rfl, trivial⟩) rfl (by exact ⟨⟨rfl, .head _⟩, ⟨⟨rfl, .tail _ (.head _)⟩, ⟨⟨rfl, .tail _ (.tail _ (.tail _ (.tail _ (.tail _ (.tail _ (.tail _ (.head _)))))))⟩, ⟨⟨rfl, .tail _ (.tail _ (.tail _ (.tail _ (.tail _ (.tail _ (.tail _ (.tail _ (.head _))))))))⟩, ⟨⟨rfl, .tail _ (.tail _ (.tail _ (.tail _ (.tail _ (.tail _ (.tail _ (.tail _ (.tail _ (.head _)))))))))⟩, ⟨⟨rfl, .tail _ (.tail _ (.tail _ (.tail _ (.tail _ (.tail _ (.tail _ (.tail _ (.tail _ (.tail _ (.head _))))))))))⟩, ⟨⟨rfl, .tail _ (.tail _ (.tail _ (.tail _ (.tail _ (.tail _ (.tail _ (.tail _ (.tail _ (.tail _ (.tail _ (.head _)))))))))))⟩, trivial⟩⟩⟩⟩⟩⟩⟩) (fun ⟨r5, r6⟩ => ?_)
      clear con3
      refine ji_in (listed' := #[true, true, true, true, true, true, true, true, true, true, true, true, true, true, false]) (fun _ h => Mem.drop1 (Mem.drop1 (Mem.drop1 (Mem.drop1 (Mem.drop1 (h)))))) rfl ?_
      refine ji_all [14] (by kernel_rfl) (by simp) (fun i hi => ?_)
      simp only [List.mem_cons, List.not_mem_nil, or_false] at hi
      subst hi
      ·refine jh_op rfl ?_
       refine j_pull4 ?_
       refine jo_storeV rfl rfl ty_50 [r5, r6] (fun _ _ _ _ => rfl) rfl (fun w I m hs => by simp only [List.all_cons, List.all_nil, Bool.and_true, Bool.and_eq_true]; exact ⟨(SliceV.one (imm_slice (.tail _ (.head _)) hs)), (SliceV.one (imm_slice (.tail _ (.tail _ (.head _))) hs))⟩) [r5, r6] rfl rfl ?_
       refine ji_in2 (listed' := #[true, true, true, true, true, true, true, true, true, true, true, true, true, true, true]) (by kernel_rfl) rfl ?_
       refine j_pull3 (j_drop (j_pull3 (j_drop (j_pull11 ?_))))
       refine j_pull11 ?_
       refine j_pull11 ?_
       refine j_pull11 ?_
       refine j_pull11 ?_
       refine j_pull11 ?_
       refine j_pull11 ?_
       refine j_pull11 ?_
       refine j_pull11 ?_
       refine j_pull11 ?_
       refine j_pull11 ?_
       refine j_pull11 ?_
       show JI _ _ _ _ _ _ _ _ _
       exact ji_done ⟨b4, r5, r6⟩ (by kernel_rfl) ⟨rfl, rfl, rfl, trivial⟩ (fun _ h => h)
  ·skip
   refine jq_then (jc_seq (jc_region (jo_pure rfl (pr_move rfl) (jo_pure rfl (pr_move rfl) (jo_pure rfl (pr_load_box (.agg #[r1, r2]) rfl ty_50 (.head _) rfl (by decide) rfl) ?_)))))
   refine j_pull1 (j_dup rfl ?_)
   refine j_pull3 (j_dup rfl ?_)
   refine j_pull2 (j_pull8 ?_)
   refine j_pull8 ?_
   refine j_pull8 ?_
   refine jo_callm [.imm (.list tyE) (r2) ((putT (((lookS A key).getD ([], []))) en axes va).2), .imm (.list (.pair .str (.list .str))) (r1) (axes), .box b2 50 [r1, r2], .box b1 40 [env, env2, env3, str (en.2.2.2.1), env4, str (en.2.2.2.2.2.1), .int .i64 (en.2.2.2.2.2.2.1), .int .i64 (en.2.2.2.2.2.2.2)], .imm (.list (.list .str)) (env) (en.1), .imm (.list .str) (env2) (en.2.1), .imm (.list .str) (env3) (en.2.2.1), .imm (.list (.pair .str .str)) (env4) (en.2.2.2.2.1), .imm (.list (.pair .str (.list .str))) (axesv) (axes)] rfl cal_49 (c_store_set b r bu va ta (totA A) ov (keysA A) A key (axes, (putT (((lookS A key).getD ([], []))) en axes va).2) r1 r2 (by omega) (hok) (hto) (Nat.le_trans hfz (Nat.le_add_right _ _)) (by omega)) ⟨rfl, rfl, rfl, trivial⟩ rfl (fun r7 => ?_)
   refine jo_nil (jq_then (jc_seq (jc_region (jo_pure rfl (pr_move rfl) (jo_pure rfl (pr_move rfl) (j_pull1 (j_pull1 ?_)))))))
   refine jo_callm [.mpt r tyT (setM A key (axes, (putT (((lookS A key).getD ([], []))) en axes va).2)), .imm (.list tyE) (r2) ((putT (((lookS A key).getD ([], []))) en axes va).2), .imm (.list (.pair .str (.list .str))) (r1) (axes), .box b2 50 [r1, r2], .box b1 40 [env, env2, env3, str (en.2.2.2.1), env4, str (en.2.2.2.2.2.1), .int .i64 (en.2.2.2.2.2.2.1), .int .i64 (en.2.2.2.2.2.2.2)], .imm (.list (.list .str)) (env) (en.1), .imm (.list .str) (env2) (en.2.1), .imm (.list .str) (env3) (en.2.2.1), .imm (.list (.pair .str .str)) (env4) (en.2.2.2.2.1), .imm (.list (.pair .str (.list .str))) (axesv) (axes)] rfl cal_50 (c_store_first b r bu va ta (.int .i64 (((totA A) + sizeL (axes, (putT (((lookS A key).getD ([], []))) en axes va).2).2 - sizeL (findA A key).2 : Nat) : Int)) r7 (setO (keysA A) key (axes, (putT (((lookS A key).getD ([], []))) en axes va).2)) key (by rw [setO_yes (by exact hT2.1)]; omega)) ⟨rfl, rfl, trivial⟩ rfl (fun r8 => ?_)
   refine jo_nil (jq_then (jc_seq ?_))
   rw [show setM A key (axes, (putT (((lookS A key).getD ([], []))) en axes va).2) = frontA A key (putT (findA A key) en axes va) from setM_yes hT2.1, show frontS (setO (keysA A) key (axes, (putT (((lookS A key).getD ([], []))) en axes va).2)) key = keysA (frontA A key (putT (findA A key) en axes va)) from by rw [keys_front]; exact congrArg (fun q => frontS q key) (setO_yes hT2.1), show (totA A) + sizeL (axes, (putT (((lookS A key).getD ([], []))) en axes va).2).2 - sizeL (findA A key).2 = totA (frontA A key (putT (findA A key) en axes va)) from front_used hn]
   refine jc_region (jo_pure rfl (pr_move rfl) (jo_pure rfl (pr_move rfl) (jo_pure rfl (pr_fieldAddr 1 rfl Tryz.underlying50 rfl ty_48 rfl rfl) ?_)))
   refine jo_pure rfl (pr_load_box (r2) rfl ty_48 (.tail _ (.tail _ (.tail _ (.tail _ (.tail _ (.head _)))))) rfl (by decide) rfl) ?_
   refine jo_pure rfl (pr_len_imm rfl (.tail _ (.tail _ (.tail _ (.head _)))) Tryz.underlying48) ?_
   refine jo_pure rfl (pr_sub (m := ((((putT (((lookS A key).getD ([], []))) en axes va).2).length : Nat) : Int)) (n := ((1 : Nat) : Int)) rfl rfl (by have h9 : (putT ((lookS A key).getD ([], [])) en axes va).2.length ≤ 100000000 := hto.len; omega)) ?_
   refine j_pull2 (j_pull2 (j_pull2 ?_))
   refine jo_callm [.imm (.list tyE) (r2) ((putT (((lookS A key).getD ([], []))) en axes va).2), .imm (.list (.pair .str (.list .str))) (r1) (axes), .box b2 50 [r1, r2], .box b1 40 [env, env2, env3, str (en.2.2.2.1), env4, str (en.2.2.2.2.2.1), .int .i64 (en.2.2.2.2.2.2.1), .int .i64 (en.2.2.2.2.2.2.2)], .imm (.list (.list .str)) (env) (en.1), .imm (.list .str) (env2) (en.2.1), .imm (.list .str) (env3) (en.2.2.1), .imm (.list (.pair .str .str)) (env4) (en.2.2.2.2.1), .imm (.list (.pair .str (.list .str))) (axesv) (axes)] rfl cal_51 (c_store_shrink b r bu va ta r8 (frontA A key (putT (findA A key) en axes va)) key (((((putT (((lookS A key).getD ([], []))) en axes va).2).length : Nat) : Int) - ((1 : Nat) : Int)) true axes en (put_good hva.1 hn hi.some_) (hsz) (hta.1) (okT_front hok hto) (by omega) (by omega)) ⟨rfl, rfl, rfl, trivial⟩ rfl (fun r9 => ?_)
   refine jo_nil (jq_then (jc_seq (jc_region (jo_pure rfl (pr_assign rfl) (jo_nil (jq_then (jc_ret (j_pull3 (j_drop (j_pull3 (j_drop (j_pull3 (j_drop (j_pull3 (j_drop (j_pull3 (j_drop (j_pull3 (j_drop (j_pull3 (j_drop (j_pull3 (j_drop ?_)))))))))))))))))))))))
   refine j_pull3 (j_drop (j_pull2 (j_pull2 (j_pull2 ?_))))
   exact jq_ret1 rfl r9 rfl (show (_ : Value) = (.bool (true)) from congrArg Value.bool hf) (fun _ h => by rw [put_yes hf]; exact h)

end Go.Proofs.YtlniaacdjllonaaGreat
