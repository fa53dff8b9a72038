/-
 Contracts of functions of the program: each returns what a plain function says, for every input within the bounds named. Conditions: the bounds.
-/
import Derived.Test.YtlniaacdjllonaaGreatRows
import Derived.Test.YtlniaacdjllonaaGreatWK10
namespace Go.Proofs.YtlniaacdjllonaaGreat
open Go Go.Sep
set_option linter.unusedSimpArgs false
set_option linter.unusedVariables false

open Go.Plain

theorem cal_20 : Cal Tryz.prog 20 := cal_of Tryz.func20 (by kernel_rfl) rfl
theorem cal_21 : Cal Tryz.prog 21 := cal_of Tryz.func21 (by kernel_rfl) rfl
theorem cal_22 : Cal Tryz.prog 22 := cal_of Tryz.func22 (by kernel_rfl) rfl
theorem cal_30 : Cal Tryz.prog 30 := cal_of Tryz.func30 (by kernel_rfl) rfl
theorem cal_33 : Cal Tryz.prog 33 := cal_of Tryz.func33 (by kernel_rfl) rfl
theorem cal_34 : Cal Tryz.prog 34 := cal_of Tryz.func34 (by kernel_rfl) rfl
theorem cal_35 : Cal Tryz.prog 35 := cal_of Tryz.func35 (by kernel_rfl) rfl
theorem cal_36 : Cal Tryz.prog 36 := cal_of Tryz.func36 (by kernel_rfl) rfl
theorem cal_46 : Cal Tryz.prog 46 := cal_of Tryz.func46 (by kernel_rfl) rfl
theorem cal_56 : Cal Tryz.prog 56 := cal_of Tryz.func56 (by kernel_rfl) rfl
theorem cal_58 : Cal Tryz.prog 58 := cal_of Tryz.func58 (by kernel_rfl) rfl
theorem ty_43 : TyF Tryz.prog 43 true 13 200 (some (.agg #[.int .i64 ((0 : Nat) : Int), .int .i64 ((0 : Nat) : Int), .int .i64 ((0 : Nat) : Int), .int .i64 ((0 : Nat) : Int), .slice none 0 0, .slice none 0 0, .slice none 0 0, str ([]), .slice none 0 0, str ([]), .int .i64 ((0 : Nat) : Int), .int .i64 ((0 : Nat) : Int), .slice none 0 0])) := ⟨by kernel_rfl, by kernel_rfl⟩

theorem c_keep_Entry (en : Ent) (env : Value) (env2 : Value) (env3 : Value) (env4 : Value) (hkl : en.1.length ≤ 9223372036854775807) (hkm : ∀ k ∈ en.1, k.length ≤ 9223372036854775807) (hvl : en.2.1.length ≤ 9223372036854775807) (hnl : en.2.2.1.length ≤ 9223372036854775807) (hfl : en.2.2.2.2.1.length ≤ 9223372036854775807) : Con Tryz.prog 33 #[.agg #[env, env2, env3, str (en.2.2.2.1), env4, str (en.2.2.2.2.2.1), .int .i64 (en.2.2.2.2.2.2.1), .int .i64 (en.2.2.2.2.2.2.2)]] [.imm (.list (.list .str)) (env) (en.1), .imm (.list .str) (env2) (en.2.1), .imm (.list .str) (env3) (en.2.2.1), .imm (.list (.pair .str .str)) (env4) (en.2.2.2.2.1)] (fun _ : Unit => .bool (keepE en)) (fun _ => []) := by
 refine con_of_J (args := [.agg #[env, env2, env3, str (en.2.2.2.1), env4, str (en.2.2.2.2.2.1), .int .i64 (en.2.2.2.2.2.2.1), .int .i64 (en.2.2.2.2.2.2.2)]]) (n := 33) Tryz.func33 rfl (Nat.le_of_ble_eq_true rfl) rfl (fun w0 I0 m0 => ?_)
 refine jc_seq (jc_region ?_)
 refine jo_box rfl [env, env2, env3, str (en.2.2.2.1), env4, str (en.2.2.2.2.2.1), .int .i64 (en.2.2.2.2.2.2.1), .int .i64 (en.2.2.2.2.2.2.2)] rfl rfl (fun b1 => ?_)
 refine jo_pure rfl (pr_assign rfl) (jo_nil (jq_then (jc_seq (jc_region (jo_pure rfl (pr_fieldAddr 0 rfl Tryz.underlying40 rfl ty_37 rfl rfl) ?_)))))
 refine jo_pure rfl (pr_load_box (env) rfl ty_37 (.head _) rfl (by decide) rfl) ?_
 refine jo_callp cal_56 (c_keep_Keys en.1 env (by assumption) (by assumption)) ⟨rfl, trivial⟩ rfl (⟨⟨rfl, .tail _ (.head _)⟩, trivial⟩) (fun _ => ?_)
 refine jo_pure rfl (pr_move rfl) (jo_gpure (j := 3) (want := true) rfl rfl rfl rfl (fun hg=>pr_fieldAddr 1 rfl Tryz.underlying40 rfl ty_28 rfl rfl) ?_)
 refine jo_gpure (j := 3) (want := true) rfl rfl rfl rfl (fun hg=>pr_load_box (env2) (evg rfl hg) ty_28 (.head _) rfl (by decide) rfl) ?_
 refine jo_gcall (j := 3) (want := true) rfl rfl rfl cal_57 (fun hg => c_keep_Strings en.2.1 env2 (by assumption)) (fun hg => ⟨evg rfl hg, trivial⟩) rfl (fun _ => ⟨⟨rfl, .tail _ (.tail _ (.head _))⟩, trivial⟩) ?_
 refine jo_pure rfl (pr_pick_and rfl rfl rfl) ?_
 refine jo_pure rfl (pr_move rfl) (jo_gpure (j := 8) (want := true) rfl rfl rfl rfl (fun hg=>pr_fieldAddr 2 rfl Tryz.underlying40 rfl ty_28 rfl rfl) ?_)
 refine jo_gpure (j := 8) (want := true) rfl rfl rfl rfl (fun hg=>pr_load_box (env3) (evg rfl hg) ty_28 (.head _) rfl (by decide) rfl) ?_
 refine jo_gcall (j := 8) (want := true) rfl rfl rfl cal_57 (fun hg => c_keep_Strings en.2.2.1 env3 (by assumption)) (fun hg => ⟨evg rfl hg, trivial⟩) rfl (fun _ => ⟨⟨rfl, .tail _ (.tail _ (.tail _ (.head _)))⟩, trivial⟩) ?_
 refine jo_pure rfl (pr_pick_and rfl rfl rfl) ?_
 refine jo_pure rfl (pr_move rfl) (jo_gpure (j := 13) (want := true) rfl rfl rfl rfl (fun hg=>pr_fieldAddr 3 rfl Tryz.underlying40 rfl ty_9 rfl rfl) ?_)
 refine jo_gpure (j := 13) (want := true) rfl rfl rfl rfl (fun hg=>pr_load_box (str (en.2.2.2.1)) (evg rfl hg) ty_9 (.head _) rfl (by decide) rfl) ?_
 refine jo_gpure (j := 13) (want := true) rfl rfl rfl rfl (fun hg=>pr_slen (evg rfl hg) Tryz.underlying9) ?_
 refine jo_gpure (j := 13) (want := true) rfl rfl rfl rfl (fun hg=>pr_leqN (m := en.2.2.2.1.length) (n := 100) (evg rfl hg) rfl) ?_
 refine jo_pure rfl (pr_pick_and rfl rfl rfl) ?_
 refine jo_pure rfl (pr_move rfl) (jo_gpure (j := 19) (want := true) rfl rfl rfl rfl (fun hg=>pr_fieldAddr 5 rfl Tryz.underlying40 rfl ty_9 rfl rfl) ?_)
 refine jo_gpure (j := 19) (want := true) rfl rfl rfl rfl (fun hg=>pr_load_box (str (en.2.2.2.2.2.1)) (evg rfl hg) ty_9 (.head _) rfl (by decide) rfl) ?_
 refine jo_gpure (j := 19) (want := true) rfl rfl rfl rfl (fun hg=>pr_slen (evg rfl hg) Tryz.underlying9) ?_
 refine jo_gpure (j := 19) (want := true) rfl rfl rfl rfl (fun hg=>pr_leqN (m := en.2.2.2.2.2.1.length) (n := 2000) (evg rfl hg) rfl) ?_
 refine jo_pure rfl (pr_pick_and rfl rfl rfl) ?_
 refine jo_pure rfl (pr_move rfl) (jo_gpure (j := 25) (want := true) rfl rfl rfl rfl (fun hg=>pr_fieldAddr 4 rfl Tryz.underlying40 rfl ty_38 rfl rfl) ?_)
 refine jo_gpure (j := 25) (want := true) rfl rfl rfl rfl (fun hg=>pr_load_box (env4) (evg rfl hg) ty_38 (.head _) rfl (by decide) rfl) ?_
 refine jo_gcall (j := 25) (want := true) rfl rfl rfl cal_58 (fun hg => c_keep_Fields en.2.2.2.2.1 env4 (by assumption)) (fun hg => ⟨evg rfl hg, trivial⟩) rfl (fun _ => ⟨⟨rfl, .tail _ (.tail _ (.tail _ (.tail _ (.head _))))⟩, trivial⟩) ?_
 refine jo_pure rfl (pr_pick_and rfl rfl rfl) ?_
 refine jo_pure rfl (pr_assign rfl) (jo_nil (jq_then (jc_ret (j_drop (j_drop (j_drop (j_drop (j_drop ?_))))))))
 exact jq_ret1 rfl () rfl (show (.bool (keepE en) : Value) = (.bool ((((((keepK en.1 && keepS en.2.1) && keepS en.2.2.1) && decide ((en.2.2.2.1.length : Nat) ≤ 100)) && decide ((en.2.2.2.2.2.1.length : Nat) ≤ 2000)) && keepF en.2.2.2.2.1))) from rfl) (fun _ h => h)

theorem c_law28_small (l : List (Int × Int × Int × Int × Ent × (List (Axs)))) (lv : Value) (hl : l.length ≤ 9223372036854775807) (hme : ∀ o ∈ l, (o.2.2.2.2.1.1.length ≤ 9223372036854775807 ∧ (∀ k ∈ o.2.2.2.2.1.1, k.length ≤ 9223372036854775807) ∧ o.2.2.2.2.1.2.1.length ≤ 9223372036854775807 ∧ o.2.2.2.2.1.2.2.1.length ≤ 9223372036854775807 ∧ o.2.2.2.2.1.2.2.2.2.1.length ≤ 9223372036854775807) ∧ o.2.2.2.2.2.length ≤ 9223372036854775807 ∧ ∀ a ∈ o.2.2.2.2.2, a.2.length ≤ 9223372036854775807) : Con Tryz.prog 14 #[lv] [.imm (.list (.pair (.int .i64) (.pair (.int .i64) (.pair (.int .i64) (.pair (.int .i64) (.pair tyE (.list (.pair .str (.list .str))))))))) (lv) (l)] (fun _ : Unit => .bool (smallL l)) (fun _ => []) := by
 refine con_of_J (args := [lv]) (n := 33) Tryz.func14 rfl (Nat.le_of_ble_eq_true rfl) rfl (fun w0 I0 m0 => ?_)
 refine jc_seq (jc_region (jo_pure rfl (pr_assign rfl) (jo_nil (jq_then (jc_seq (jc_seq (jc_region (jo_pure rfl (pr_assign rfl) (jo_nil (jq_then (jc_block ?_)))))))))))
 refine jc_loop (fun (i : Nat) => [(0, lv), (3, .int .i64 ((i : Nat) : Int))]) (fun (i : Nat) => [.imm (.list (.pair (.int .i64) (.pair (.int .i64) (.pair (.int .i64) (.pair (.int .i64) (.pair tyE (.list (.pair .str (.list .str))))))))) (lv) (l)]) (fun (i : Nat) => i ≤ 13 ∧ (l.take i).all keepO = true) (fun (i : Nat) => 13 - i) 0 (⟨Nat.zero_le _, rfl⟩) (⟨rfl, rfl, trivial⟩) (fun _ h => h) (fun i hinv => ?_)
 refine jc_seq (jc_seq (jc_region (jo_pure rfl (pr_move rfl) (jo_pure rfl (pr_move rfl) (jo_pure rfl (pr_len_imm rfl (.head _) Tryz.underlying31) ?_)))))
 refine jo_pure rfl (pr_lssN (m := i) (n := l.length) rfl rfl) ?_
 refine jo_pure rfl (pr_move rfl) (jo_gpure (j := 4) (want := true) rfl rfl rfl rfl (fun hg=>pr_move rfl) (jo_gpure (j := 4) (want := true) rfl rfl rfl rfl (fun hg=>pr_lssN (m := i) (n := 13) (evg rfl hg) rfl) ?_))
 refine jo_pure rfl (pr_pick_and rfl rfl rfl) ?_
 refine jo_nil (jq_then ?_)
 refine jc_cond rfl (fun h1b => ?_) (fun h1b => ?_)
 ·have h1 := (fun q => And.imp of_decide_eq_true of_decide_eq_true (bt_and q)) h1b
  have hM := hme _ (getD_mem (dd := (0, (0, (0, (0, (([],[],[],[],[],[],0,0), [])))))) h1.1)
  refine jc_skip (jq_then (jc_seq (jc_block (jc_seq (jc_region (jo_pure rfl (pr_move rfl) (jo_pure rfl (pr_move rfl) ?_)))))))
  refine j_open_elem (t := (.pair (.int .i64) (.pair (.int .i64) (.pair (.int .i64) (.pair (.int .i64) (.pair tyE (.list (.pair .str (.list .str))))))))) (i := i) (0, (0, (0, (0, (([],[],[],[],[],[],0,0), []))))) (.head _) (by omega) (fun ⟨_, ⟨_, ⟨_, ⟨_, ⟨⟨e1, ⟨e2, ⟨e3, ⟨_, ⟨e4, ⟨_, ⟨_, _⟩⟩⟩⟩⟩⟩⟩, e5⟩⟩⟩⟩⟩ => ?_)
  refine jo_pure rfl (pr_idx_imm (i := i) rfl (.tail _ (.tail _ (.tail _ (.tail _ (.tail _ (.tail _ (.head _))))))) rfl Tryz.underlying31 ty_43 (by omega)) ?_
  refine jo_pure rfl (pr_fieldAddr_imm (i := i) rfl (.tail _ (.tail _ (.tail _ (.tail _ (.tail _ (.tail _ (.head _))))))) Tryz.underlying43 rfl ty_40 rfl rfl (by omega)) ?_
  refine jo_pure rfl (pr_load_off_at (o := 4) (.agg #[e1, e2, e3, str (((((((((((l.getD i (0, (0, (0, (0, (([],[],[],[],[],[],0,0), []))))))).2).2).2).2).1).2).2).2).1), e4, str (((((((((((((l.getD i (0, (0, (0, (0, (([],[],[],[],[],[],0,0), []))))))).2).2).2).2).1).2).2).2).2).2).1), .int .i64 ((((((((((((((l.getD i (0, (0, (0, (0, (([],[],[],[],[],[],0,0), []))))))).2).2).2).2).1).2).2).2).2).2).2).1), .int .i64 ((((((((((((((l.getD i (0, (0, (0, (0, (([],[],[],[],[],[],0,0), []))))))).2).2).2).2).1).2).2).2).2).2).2).2)]) rfl (.tail _ (.tail _ (.tail _ (.tail _ (.tail _ (.head _)))))) ty_40 (by decide) rfl rfl) ?_
  have con1 := c_keep_Entry (((((((l.getD i (0, (0, (0, (0, (([],[],[],[],[],[],0,0), []))))))).2).2).2).2).1) e1 e2 e3 e4 (by first | exact hM.1.1 | exact hM.1.2.1 | exact hM.1.2.2.1 | exact hM.1.2.2.2.1 | exact hM.1.2.2.2.2 | exact hM.2.1 | exact hM.2.2) (by first | exact hM.1.1 | exact hM.1.2.1 | exact hM.1.2.2.1 | exact hM.1.2.2.2.1 | exact hM.1.2.2.2.2 | exact hM.2.1 | exact hM.2.2) (by first | exact hM.1.1 | exact hM.1.2.1 | exact hM.1.2.2.1 | exact hM.1.2.2.2.1 | exact hM.1.2.2.2.2 | exact hM.2.1 | exact hM.2.2) (by first | exact hM.1.1 | exact hM.1.2.1 | exact hM.1.2.2.1 | exact hM.1.2.2.2.1 | exact hM.1.2.2.2.2 | exact hM.2.1 | exact hM.2.2) (by first | exact hM.1.1 | exact hM.1.2.1 | exact hM.1.2.2.1 | exact hM.1.2.2.2.1 | exact hM.1.2.2.2.2 | exact hM.2.1 | exact hM.2.2)
  refine jo_callp cal_33 con1 (by exact ⟨rfl, trivial⟩) rfl (by exact ⟨⟨rfl, .head _⟩, ⟨⟨rfl, .tail _ (.head _)⟩, ⟨⟨rfl, .tail _ (.tail _ (.head _))⟩, ⟨⟨rfl, .tail _ (.tail _ (.tail _ (.head _)))⟩, trivial⟩⟩⟩⟩) (fun _ => ?_)
  clear con1
  refine jo_pure rfl (pr_not rfl) ?_
  refine jo_pure rfl (pr_move rfl) (jo_gpure (j := 7) (want := false) rfl rfl rfl rfl (fun hg=>pr_move rfl) (jo_gpure (j := 7) (want := false) rfl rfl rfl rfl (fun hg=>pr_move rfl) (jo_gpure (j := 7) (want := false) rfl rfl rfl rfl (fun hg=>pr_idx_imm (i := i) (evg rfl hg) (.tail _ (.tail _ (.tail _ (.tail _ (.tail _ (.tail _ (.head _))))))) (evg rfl hg) Tryz.underlying31 ty_43 (by omega)) ?_)))
  refine jo_gpure (j := 7) (want := false) rfl rfl rfl rfl (fun hg=>pr_fieldAddr_imm (i := i) (evg rfl hg) (.tail _ (.tail _ (.tail _ (.tail _ (.tail _ (.tail _ (.head _))))))) Tryz.underlying43 rfl ty_41 rfl rfl (by omega)) ?_
  refine jo_gpure (j := 7) (want := false) rfl rfl rfl rfl (fun hg=>pr_load_off_at (o := 12) (e5) (evg rfl hg) (.tail _ (.tail _ (.tail _ (.tail _ (.tail _ (.head _)))))) ty_41 (by decide) rfl rfl) ?_
  refine jo_gcall (j := 7) (want := false) rfl rfl rfl cal_34 (fun hg => c_keep_Axes (((((((l.getD i (0, (0, (0, (0, (([],[],[],[],[],[],0,0), []))))))).2).2).2).2).2) e5 (by first | exact hM.1.1 | exact hM.1.2.1 | exact hM.1.2.2.1 | exact hM.1.2.2.2.1 | exact hM.1.2.2.2.2 | exact hM.2.1 | exact hM.2.2) (by first | exact hM.1.1 | exact hM.1.2.1 | exact hM.1.2.2.1 | exact hM.1.2.2.2.1 | exact hM.1.2.2.2.2 | exact hM.2.1 | exact hM.2.2)) (fun hg => ⟨evg rfl hg, trivial⟩) rfl (fun _ => ⟨⟨rfl, .tail _ (.tail _ (.tail _ (.tail _ (.head _))))⟩, trivial⟩) ?_
  refine jo_gpure (j := 7) (want := false) rfl rfl rfl rfl (fun hg=>pr_not (evg rfl hg)) ?_
  refine jo_pure rfl (pr_pick_or rfl rfl rfl) ?_
  refine jo_nil (jq_then ?_)
  refine jc_cond rfl (fun h2b => ?_) (fun h2b => ?_)
  ·have h2 := (fun q => Or.imp (fun q => id (bt_not q)) (fun q => id (bt_not q)) (bt_or q)) h2b
   refine jc_seq (jc_region (jo_pure rfl (pr_assign rfl) (jo_nil (jq_then (jc_ret (jq_in_ret ?_))))))
   refine jq_then_ret (jq_then_ret (jq_in_ret ?_))
   refine jq_then_ret (j_drop (j_drop (j_drop (j_drop (j_drop (j_drop (j_drop ?_)))))))
   exact jq_ret1 rfl () rfl (show (.bool (smallL l) : Value) = (.bool (false)) from congrArg Value.bool (by rw [smallL, keep_miss (dd := (0, (0, (0, (0, (([],[],[],[],[],[],0,0), [])))))) h1.2 h1.1 (nor_true h2b)]; rfl)) (fun _ h => h)
  ·have h2 := (fun q => And.imp (fun q => id (bf_not q)) (fun q => id (bf_not q)) (bf_or q)) h2b
   refine jc_skip (jq_in_normal (jq_then (jc_region (jo_pure rfl (pr_move rfl) (jo_pure rfl (pr_addN (m := i) (n := 1) rfl rfl (by omega)) ?_)))))
   refine jo_pure rfl (pr_assign rfl) (jo_nil (j_drop (j_drop (j_drop (j_drop (j_drop (j_drop ?_)))))))
   refine jq_round' (i + 1) (by (try dsimp only); exact (⟨by omega, all_step (dd := (0, (0, (0, (0, (([],[],[],[],[],[],0,0), [])))))) h1.1 hinv.2 (nor_false h2b)⟩)) (by (try dsimp only); exact (by omega)) ⟨rfl, rfl, trivial⟩ (fun _ h => h)
 ·have h1 := (fun q => Or.imp of_decide_eq_false of_decide_eq_false (bf_and q)) h1b
  refine jc_exit ?_
  refine jq_then_exit ?_
  refine jq_then_exit ?_
  refine jq_in_hit ?_
  refine jq_then (jc_seq (jc_region (jo_pure rfl (pr_move rfl) (jo_pure rfl (pr_len_imm rfl (.head _) Tryz.underlying31) ?_))))
  refine jo_pure rfl (pr_leqN (m := l.length) (n := 12) rfl rfl) ?_
  refine jo_pure rfl (pr_assign rfl) (jo_nil (jq_then (jc_ret (j_drop ?_))))
  exact jq_ret1 rfl () rfl (show (.bool (smallL l) : Value) = (.bool (decide ((l.length : Nat) ≤ 12))) from congrArg Value.bool (by rw [smallL, keep_end hinv.1 h1 hinv.2]; rfl)) (fun _ h => h)

theorem c_law28_name (kz : Int)  : Con Tryz.prog 22 #[.int .i64 (kz)] [] (fun _ : Unit => str (nameF kz)) (fun _ => []) := by
 refine con_of_J (args := [.int .i64 (kz)]) (n := 8) Tryz.func22 rfl (Nat.le_of_ble_eq_true rfl) rfl (fun w0 I0 m0 => ?_)
 refine jc_seq (jc_region (jo_pure rfl (pr_assign rfl) (jo_nil (jq_then (jc_seq (jc_region ?_))))))
 refine jo_buildSlice (t := .str) [[97], [98], [99], [100]] [str ([97]), str ([98]), str ([99]), str ([100])] (fun a hf => by simp only [List.zipIdx_cons, List.zipIdx_nil, List.map_toArray, List.map_cons, List.map_nil] <;> rfl) rfl Tryz.underlying28 ty_9 rfl rfl rfl rfl rfl (fun g1 => ?_)
 refine jo_pure rfl (pr_move rfl) (jo_pure rfl (pr_and3 (m := kz) rfl rfl) ?_)
 refine jo_pure rfl (pr_idx (i := (kz % 4).toNat) ((kz % 4).toNat) rfl rfl Tryz.underlying28 ty_9 (by show (kz % 4).toNat < 4; omega) (by first | rfl | (simp only [Nat.zero_add, Nat.mul_one]))) ?_
 refine jo_pure rfl (pr_load_rowD (str ([[97], [98], [99], [100]].getD ((kz % 4).toNat) [])) false rfl ty_9 rfl rfl (.head _) (by show (kz % 4).toNat < 4; omega) (by first | rfl | exact Nat.mul_one _) rfl) ?_
 refine jo_pure rfl (pr_assign rfl) (jo_nil (jq_then (jc_ret (j_drop ?_))))
 exact jq_ret1 rfl () rfl (show (str (nameF kz) : Value) = (str ([[97], [98], [99], [100]].getD ((kz % 4).toNat) [])) from rfl) (fun _ h => h)

theorem c_law28_Op_of (o : Int × Int × Int × Int × Ent × (List (Axs))) (ov : Value) (ov2 : Value) (ov3 : Value) (ov4 : Value) (ov5 : Value) (hke : keepE o.2.2.2.2.1 = true) : Con Tryz.prog 20 #[.agg #[.int .i64 (o.1), .int .i64 (o.2.1), .int .i64 (o.2.2.1), .int .i64 (o.2.2.2.1), ov, ov2, ov3, str (o.2.2.2.2.1.2.2.2.1), ov4, str (o.2.2.2.2.1.2.2.2.2.2.1), .int .i64 (o.2.2.2.2.1.2.2.2.2.2.2.1), .int .i64 (o.2.2.2.2.1.2.2.2.2.2.2.2), ov5]] [.imm (.list (.list .str)) (ov) (o.2.2.2.2.1.1), .imm (.list .str) (ov2) (o.2.2.2.2.1.2.1), .imm (.list .str) (ov3) (o.2.2.2.2.1.2.2.1), .imm (.list (.pair .str .str)) (ov4) (o.2.2.2.2.1.2.2.2.2.1), .imm (.list (.pair .str (.list .str))) (ov5) (o.2.2.2.2.2)] (fun r : Value × Value × Value × Value => .agg #[r.1, r.2.1, r.2.2.1, str ((ofE o).2.2.2.1), r.2.2.2, str ((ofE o).2.2.2.2.2.1), .int .i64 ((ofE o).2.2.2.2.2.2.1), .int .i64 ((ofE o).2.2.2.2.2.2.2)]) (fun r => [.imm (.list (.list .str)) r.1 ((ofE o).1), .imm (.list .str) r.2.1 ((ofE o).2.1), .imm (.list .str) r.2.2.1 ((ofE o).2.2.1), .imm (.list (.pair .str .str)) r.2.2.2 ((ofE o).2.2.2.2.1)]) := by
 refine con_of_J (args := [.agg #[.int .i64 (o.1), .int .i64 (o.2.1), .int .i64 (o.2.2.1), .int .i64 (o.2.2.2.1), ov, ov2, ov3, str (o.2.2.2.2.1.2.2.2.1), ov4, str (o.2.2.2.2.1.2.2.2.2.2.1), .int .i64 (o.2.2.2.2.1.2.2.2.2.2.2.1), .int .i64 (o.2.2.2.2.1.2.2.2.2.2.2.2), ov5]]) (n := 23) Tryz.func20 rfl (Nat.le_of_ble_eq_true rfl) rfl (fun w0 I0 m0 => ?_)
 have hbl := (keepE_of hke).b
 refine jc_seq (jc_region ?_)
 refine jo_box rfl [.int .i64 (o.1), .int .i64 (o.2.1), .int .i64 (o.2.2.1), .int .i64 (o.2.2.2.1), ov, ov2, ov3, str (o.2.2.2.2.1.2.2.2.1), ov4, str (o.2.2.2.2.1.2.2.2.2.2.1), .int .i64 (o.2.2.2.2.1.2.2.2.2.2.2.1), .int .i64 (o.2.2.2.2.1.2.2.2.2.2.2.2), ov5] rfl rfl (fun b1 => ?_)
 refine jo_alloc ty_40 [.slice none 0 0, .slice none 0 0, .slice none 0 0, str ([]), .slice none 0 0, str ([]), .int .i64 ((0 : Nat) : Int), .int .i64 ((0 : Nat) : Int)] rfl rfl (fun b2 => ?_)
 refine jo_nil (jq_then (jc_seq (jc_region (jo_pure rfl (pr_fieldAddr 4 rfl Tryz.underlying43 rfl ty_40 rfl rfl) ?_))))
 refine jo_pure rfl (pr_load_box (.agg #[ov, ov2, ov3, str (o.2.2.2.2.1.2.2.2.1), ov4, str (o.2.2.2.2.1.2.2.2.2.2.1), .int .i64 (o.2.2.2.2.1.2.2.2.2.2.2.1), .int .i64 (o.2.2.2.2.1.2.2.2.2.2.2.2)]) rfl ty_40 (.tail _ (.head _)) rfl (by decide) rfl) ?_
 have con1 := c_ref26_OwnEntry o.2.2.2.2.1 ov ov2 ov3 ov4 (by exact okE_keep hke)
 refine jo_callp cal_46 con1 (by exact ⟨rfl, trivial⟩) rfl (by exact ⟨⟨rfl, .tail _ (.tail _ (.head _))⟩, ⟨⟨rfl, .tail _ (.tail _ (.tail _ (.head _)))⟩, ⟨⟨rfl, .tail _ (.tail _ (.tail _ (.tail _ (.head _))))⟩, ⟨⟨rfl, .tail _ (.tail _ (.tail _ (.tail _ (.tail _ (.head _)))))⟩, trivial⟩⟩⟩⟩) (fun ⟨r1, r2, r3, r4⟩ => ?_)
 clear con1
 refine jo_alloc ty_40 [.slice none 0 0, .slice none 0 0, .slice none 0 0, str ([]), .slice none 0 0, str ([]), .int .i64 ((0 : Nat) : Int), .int .i64 ((0 : Nat) : Int)] rfl rfl (fun b3 => ?_)
 refine jo_storeV rfl rfl ty_40 [r1, r2, r3, str (o.2.2.2.2.1.2.2.2.1), r4, str (o.2.2.2.2.1.2.2.2.2.2.1), .int .i64 (o.2.2.2.2.1.2.2.2.2.2.2.1), .int .i64 (o.2.2.2.2.1.2.2.2.2.2.2.2)] (fun _ _ _ _ => rfl) rfl (fun w I m hs => by simp only [List.all_cons, List.all_nil, Bool.and_true, Bool.and_eq_true]; exact ⟨(SliceV.one (imm_slice (.tail _ (.head _)) hs)), (SliceV.one (imm_slice (.tail _ (.tail _ (.head _))) hs)), (SliceV.one (imm_slice (.tail _ (.tail _ (.tail _ (.head _)))) hs)), rfl, (SliceV.one (imm_slice (.tail _ (.tail _ (.tail _ (.tail _ (.head _))))) hs)), rfl, rfl, rfl⟩) [r1, r2, r3, str (o.2.2.2.2.1.2.2.2.1), r4, str (o.2.2.2.2.1.2.2.2.2.2.1), .int .i64 (o.2.2.2.2.1.2.2.2.2.2.2.1), .int .i64 (o.2.2.2.2.1.2.2.2.2.2.2.2)] rfl rfl ?_
 refine jo_nil (jq_then (jc_seq (jc_seq (jc_region (jo_pure rfl (pr_assign rfl) (jo_nil (jq_then (jc_block ?_))))))))
 refine jc_loop2 (fun (i : Nat) (bd : Str) => [(1, .pointer (some ⟨b1, 0, none⟩)), (2, .pointer (some ⟨b2, 0, none⟩)), (3, .pointer (some ⟨b3, 0, none⟩)), (4, .int .i64 ((i : Nat) : Int))]) (fun (i : Nat) (bd : Str) => [.box b3 40 [r1, r2, r3, str (o.2.2.2.2.1.2.2.2.1), r4, str (bd), .int .i64 (o.2.2.2.2.1.2.2.2.2.2.2.1), .int .i64 (o.2.2.2.2.1.2.2.2.2.2.2.2)], .imm (.list (.list .str)) (r1) (o.2.2.2.2.1.1), .imm (.list .str) (r2) (o.2.2.2.2.1.2.1), .imm (.list .str) (r3) (o.2.2.2.2.1.2.2.1), .imm (.list (.pair .str .str)) (r4) (o.2.2.2.2.1.2.2.2.2.1), .box b2 40 [.slice none 0 0, .slice none 0 0, .slice none 0 0, str ([]), .slice none 0 0, str ([]), .int .i64 ((0 : Nat) : Int), .int .i64 ((0 : Nat) : Int)], .box b1 43 [.int .i64 (o.1), .int .i64 (o.2.1), .int .i64 (o.2.2.1), .int .i64 (o.2.2.2.1), ov, ov2, ov3, str (o.2.2.2.2.1.2.2.2.1), ov4, str (o.2.2.2.2.1.2.2.2.2.2.1), .int .i64 (o.2.2.2.2.1.2.2.2.2.2.2.1), .int .i64 (o.2.2.2.2.1.2.2.2.2.2.2.2), ov5], .imm (.list (.list .str)) (ov) (o.2.2.2.2.1.1), .imm (.list .str) (ov2) (o.2.2.2.2.1.2.1), .imm (.list .str) (ov3) (o.2.2.2.2.1.2.2.1), .imm (.list (.pair .str .str)) (ov4) (o.2.2.2.2.1.2.2.2.2.1), .imm (.list (.pair .str (.list .str))) (ov5) (o.2.2.2.2.2)]) (fun (i : Nat) (bd : Str) => i ≤ 200 ∧ bd = o.2.2.2.2.1.2.2.2.2.2.1 ++ List.replicate i 120 ∧ i ≤ o.2.2.2.1.toNat) (fun (i : Nat) (bd : Str) => 200 - i) 0 o.2.2.2.2.1.2.2.2.2.2.1 (⟨Nat.zero_le _, (List.append_nil _).symm, Nat.zero_le _⟩) (⟨rfl, rfl, rfl, rfl, trivial⟩) (fun _ h => h) (fun i bd hinv => ?_)
 refine jc_seq (jc_seq (jc_region (jo_pure rfl (pr_move rfl) (jo_pure rfl (pr_fieldAddr 3 rfl Tryz.underlying43 rfl ty_3 rfl rfl) ?_))))
 refine jo_pure rfl (pr_load_box (.int .i64 (o.2.2.2.1)) rfl ty_3 (.tail _ (.tail _ (.tail _ (.tail _ (.tail _ (.tail _ (.head _))))))) rfl (by decide) rfl) ?_
 refine jo_pure rfl (pr_lss (m := ((i : Nat) : Int)) rfl rfl) ?_
 refine jo_pure rfl (pr_move rfl) (jo_gpure (j := 4) (want := true) rfl rfl rfl rfl (fun hg=>pr_move rfl) (jo_gpure (j := 4) (want := true) rfl rfl rfl rfl (fun hg=>pr_lssN (m := i) (n := 200) (evg rfl hg) rfl) ?_))
 refine jo_pure rfl (pr_pick_and rfl rfl rfl) ?_
 refine jo_nil (jq_then ?_)
 refine jc_cond rfl (fun h1b => ?_) (fun h1b => ?_)
 ·have h1 := (fun q => And.imp of_decide_eq_true of_decide_eq_true (bt_and q)) h1b
  refine jc_skip (jq_then (jc_seq (jc_block (jc_region (jo_pure rfl (pr_fieldAddr 5 rfl Tryz.underlying40 rfl ty_9 rfl rfl) ?_)))))
  refine jo_pure rfl (pr_load_box (str (bd)) rfl ty_9 (.head _) rfl (by decide) rfl) ?_
  refine jo_pure rfl (pr_sadd rfl rfl (by rw [hinv.2.1]; simp only [List.length_append, List.length_replicate, List.length_cons, List.length_nil]; omega)) ?_
  refine jo_pure rfl (pr_fieldAddr 5 rfl Tryz.underlying40 rfl ty_9 rfl rfl) ?_
  refine jo_store rfl rfl ty_9 [str (bd ++ [120])] rfl rfl rfl [r1, r2, r3, str (o.2.2.2.2.1.2.2.2.1), r4, str (bd ++ [120]), .int .i64 (o.2.2.2.2.1.2.2.2.2.2.2.1), .int .i64 (o.2.2.2.2.1.2.2.2.2.2.2.2)] rfl rfl ?_
  refine jo_nil (jq_in_normal (jq_then (jc_region (jo_pure rfl (pr_move rfl) (jo_pure rfl (pr_addN (m := i) (n := 1) rfl rfl (by omega)) ?_)))))
  refine jo_pure rfl (pr_assign rfl) (jo_nil (j_pull11 ?_))
  refine j_pull11 ?_
  refine j_pull11 ?_
  refine j_pull11 ?_
  refine j_pull11 ?_
  refine j_pull11 ?_
  refine j_pull11 ?_
  refine j_pull11 ?_
  refine j_pull11 ?_
  refine j_pull11 ?_
  refine j_pull11 ?_
  refine j_pull11 ?_
  refine jq_round' ((i + 1), (bd ++ [120])) (by (try dsimp only); exact (⟨by omega, by rw [hinv.2.1, List.append_assoc, ← List.replicate_succ'], by omega⟩)) (by (try dsimp only); exact (by omega)) ⟨rfl, rfl, rfl, rfl, trivial⟩ (fun _ h => h)
 ·have h1 := (fun q => Or.imp of_decide_eq_false of_decide_eq_false (bf_and q)) h1b
  refine jc_exit ?_
  refine jq_then_exit ?_
  refine jq_then_exit ?_
  refine jq_in_hit ?_
  refine jq_then (jc_seq (jc_region (jo_pure rfl (pr_load_box (.agg #[r1, r2, r3, str (o.2.2.2.2.1.2.2.2.1), r4, str (bd), .int .i64 (o.2.2.2.2.1.2.2.2.2.2.2.1), .int .i64 (o.2.2.2.2.1.2.2.2.2.2.2.2)]) rfl ty_40 (.head _) rfl (by decide) rfl) ?_)))
  refine j_pull5 ?_
  refine jo_storeV rfl rfl ty_40 [r1, r2, r3, str (o.2.2.2.2.1.2.2.2.1), r4, str (bd), .int .i64 (o.2.2.2.2.1.2.2.2.2.2.2.1), .int .i64 (o.2.2.2.2.1.2.2.2.2.2.2.2)] (fun _ _ _ _ => rfl) rfl (fun w I m hs => by simp only [List.all_cons, List.all_nil, Bool.and_true, Bool.and_eq_true]; exact ⟨(SliceV.one (imm_slice (.tail _ (.tail _ (.head _))) hs)), (SliceV.one (imm_slice (.tail _ (.tail _ (.tail _ (.head _)))) hs)), (SliceV.one (imm_slice (.tail _ (.tail _ (.tail _ (.tail _ (.head _))))) hs)), rfl, (SliceV.one (imm_slice (.tail _ (.tail _ (.tail _ (.tail _ (.tail _ (.head _)))))) hs)), rfl, rfl, rfl⟩) [r1, r2, r3, str (o.2.2.2.2.1.2.2.2.1), r4, str (bd), .int .i64 (o.2.2.2.2.1.2.2.2.2.2.2.1), .int .i64 (o.2.2.2.2.1.2.2.2.2.2.2.2)] rfl rfl ?_
  refine jo_nil (jq_then (jc_ret (j_pull1 (j_drop (j_pull5 ?_)))))
  refine j_drop (j_pull5 ?_)
  refine j_drop (j_pull5 ?_)
  refine j_drop (j_pull5 ?_)
  refine j_drop (j_pull5 ?_)
  refine j_drop (j_pull5 ?_)
  refine j_drop (j_pull4 ?_)
  refine j_pull4 ?_
  refine j_pull4 ?_
  refine j_pull4 ?_
  exact jq_retc rfl (r1, r2, r3, r4) (resV_box (.agg #[r1, r2, r3, str (o.2.2.2.2.1.2.2.2.1), r4, str (bd), .int .i64 (o.2.2.2.2.1.2.2.2.2.2.2.1), .int .i64 (o.2.2.2.2.1.2.2.2.2.2.2.2)]) rfl ty_40 (.tail _ (.tail _ (.tail _ (.tail _ (.head _))))) rfl (by decide) rfl) (show (.agg #[r1, r2, r3, str ((ofE o).2.2.2.1), r4, str ((ofE o).2.2.2.2.2.1), .int .i64 ((ofE o).2.2.2.2.2.2.1), .int .i64 ((ofE o).2.2.2.2.2.2.2)] : Value) = (.agg #[r1, r2, r3, str (o.2.2.2.2.1.2.2.2.1), r4, str (bd), .int .i64 (o.2.2.2.2.1.2.2.2.2.2.2.1), .int .i64 (o.2.2.2.2.1.2.2.2.2.2.2.2)]) from by rw [hinv.2.1, show i = min o.2.2.2.1.toNat 200 from by omega]; rfl) (fun w h => (fun h => h) (Mem.front (As := [.imm (.list (.list .str)) (r1) (o.2.2.2.2.1.1), .imm (.list .str) (r2) (o.2.2.2.2.1.2.1), .imm (.list .str) (r3) (o.2.2.2.2.1.2.2.1), .imm (.list (.pair .str .str)) (r4) (o.2.2.2.2.1.2.2.2.2.1)]) h))

end Go.Proofs.YtlniaacdjllonaaGreat
