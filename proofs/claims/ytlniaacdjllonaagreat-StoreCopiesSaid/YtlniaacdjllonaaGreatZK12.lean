/-
 Contracts of functions of the program: each returns what a plain function says, for every input within the bounds named. Conditions: the bounds.
-/
import Derived.Test.YtlniaacdjllonaaGreatRows
import Derived.Test.YtlniaacdjllonaaGreatZK11
namespace Go.Proofs.YtlniaacdjllonaaGreat
open Go Go.Sep
set_option linter.unusedSimpArgs false
set_option linter.unusedVariables false

open Go.Plain

theorem cal_9 : Cal Tryz.prog 9 := cal_of Tryz.func9 (by kernel_rfl) rfl
theorem cal_12 : Cal Tryz.prog 12 := cal_of Tryz.func12 (by kernel_rfl) rfl
theorem cal_13 : Cal Tryz.prog 13 := cal_of Tryz.func13 (by kernel_rfl) rfl
theorem cal_25 : Cal Tryz.prog 25 := cal_of Tryz.func25 (by kernel_rfl) rfl
theorem cal_26 : Cal Tryz.prog 26 := cal_of Tryz.func26 (by kernel_rfl) rfl
theorem cal_27 : Cal Tryz.prog 27 := cal_of Tryz.func27 (by kernel_rfl) rfl
theorem cal_54 : Cal Tryz.prog 54 := cal_of Tryz.func54 (by kernel_rfl) rfl
theorem cal_55 : Cal Tryz.prog 55 := cal_of Tryz.func55 (by kernel_rfl) rfl
theorem ty_2 : TyF Tryz.prog 2 false 1 8 (some (.int .i64 ((0 : Nat) : Int))) := ⟨by kernel_rfl, by kernel_rfl⟩

theorem c_ref26_Allowed (bz : Int) (vz : Int) (tz : Int)  : Con Tryz.prog 10 #[.int .i64 (bz), .int .i64 (vz), .int .i64 (tz)] [] (fun _ : Unit => .bool (allowB bz vz tz)) (fun _ => []) := by
 refine con_of_J (args := [.int .i64 (bz), .int .i64 (vz), .int .i64 (tz)]) (n := 29) Tryz.func10 rfl (Nat.le_of_ble_eq_true rfl) rfl (fun w0 I0 m0 => ?_)
 refine jc_seq (jc_region (jo_pure rfl (pr_assign rfl) (jo_nil (jq_then (jc_seq (jc_region (jo_pure rfl (pr_move rfl) (jo_pure rfl (pr_geq (n := 1) rfl rfl) ?_))))))))
 refine jo_pure rfl (pr_move rfl) (jo_gpure (j := 2) (want := true) rfl rfl rfl rfl (fun hg=>pr_move rfl) (jo_gpure (j := 2) (want := true) rfl rfl rfl rfl (fun hg=>pr_leq (n := 100000000) (evg rfl hg) rfl) ?_))
 refine jo_pure rfl (pr_pick_and rfl rfl rfl) ?_
 refine jo_pure rfl (pr_move rfl) (jo_gpure (j := 6) (want := true) rfl rfl rfl rfl (fun hg=>pr_move rfl) (jo_gpure (j := 6) (want := true) rfl rfl rfl rfl (fun hg=>pr_geq (n := 1) (evg rfl hg) rfl) ?_))
 refine jo_pure rfl (pr_pick_and rfl rfl rfl) ?_
 refine jo_pure rfl (pr_move rfl) (jo_gpure (j := 10) (want := true) rfl rfl rfl rfl (fun hg=>pr_move rfl) (jo_gpure (j := 10) (want := true) rfl rfl rfl rfl (fun hg=>pr_leq (n := 64) (evg rfl hg) rfl) ?_))
 refine jo_pure rfl (pr_pick_and rfl rfl rfl) ?_
 refine jo_pure rfl (pr_move rfl) (jo_gpure (j := 14) (want := true) rfl rfl rfl rfl (fun hg=>pr_move rfl) (jo_gpure (j := 14) (want := true) rfl rfl rfl rfl (fun hg=>pr_geq (n := 1) (evg rfl hg) rfl) ?_))
 refine jo_pure rfl (pr_pick_and rfl rfl rfl) ?_
 refine jo_pure rfl (pr_move rfl) (jo_gpure (j := 18) (want := true) rfl rfl rfl rfl (fun hg=>pr_move rfl) (jo_gpure (j := 18) (want := true) rfl rfl rfl rfl (fun hg=>pr_leq (n := 1000) (evg rfl hg) rfl) ?_))
 refine jo_pure rfl (pr_pick_and rfl rfl rfl) ?_
 refine jo_pure rfl (pr_assign rfl) (jo_nil (jq_then (jc_ret ?_)))
 exact jq_ret1 rfl () rfl (show (.bool (allowB bz vz tz) : Value) = (.bool ((((((decide ((1 : Int) ≤ bz) && decide ((bz : Int) ≤ 100000000)) && decide ((1 : Int) ≤ vz)) && decide ((vz : Int) ≤ 64)) && decide ((1 : Int) ≤ tz)) && decide ((tz : Int) ≤ 1000)))) from rfl) (fun _ h => h)

theorem c_ref26_Equal (a : Ent) (av : Value) (av2 : Value) (av3 : Value) (av4 : Value) (b : Ent) (bv : Value) (bv2 : Value) (bv3 : Value) (bv4 : Value) (hak : a.1.length ≤ 9223372036854775807) (ham : ∀ k ∈ a.1, k.length ≤ 9223372036854775807) (hav : a.2.1.length ≤ 9223372036854775807) (han : a.2.2.1.length ≤ 9223372036854775807) (haf : a.2.2.2.2.1.length ≤ 9223372036854775807) : Con Tryz.prog 26 #[.agg #[av, av2, av3, str (a.2.2.2.1), av4, str (a.2.2.2.2.2.1), .int .i64 (a.2.2.2.2.2.2.1), .int .i64 (a.2.2.2.2.2.2.2)], .agg #[bv, bv2, bv3, str (b.2.2.2.1), bv4, str (b.2.2.2.2.2.1), .int .i64 (b.2.2.2.2.2.2.1), .int .i64 (b.2.2.2.2.2.2.2)]] [.imm (.list (.list .str)) (av) (a.1), .imm (.list .str) (av2) (a.2.1), .imm (.list .str) (av3) (a.2.2.1), .imm (.list (.pair .str .str)) (av4) (a.2.2.2.2.1), .imm (.list (.list .str)) (bv) (b.1), .imm (.list .str) (bv2) (b.2.1), .imm (.list .str) (bv3) (b.2.2.1), .imm (.list (.pair .str .str)) (bv4) (b.2.2.2.2.1)] (fun _ : Unit => .bool (eqE a b)) (fun _ => []) := by
 refine con_of_J (args := [.agg #[av, av2, av3, str (a.2.2.2.1), av4, str (a.2.2.2.2.2.1), .int .i64 (a.2.2.2.2.2.2.1), .int .i64 (a.2.2.2.2.2.2.2)], .agg #[bv, bv2, bv3, str (b.2.2.2.1), bv4, str (b.2.2.2.2.2.1), .int .i64 (b.2.2.2.2.2.2.1), .int .i64 (b.2.2.2.2.2.2.2)]]) (n := 59) Tryz.func26 rfl (Nat.le_of_ble_eq_true rfl) rfl (fun w0 I0 m0 => ?_)
 refine jc_seq (jc_region ?_)
 refine jo_box rfl [av, av2, av3, str (a.2.2.2.1), av4, str (a.2.2.2.2.2.1), .int .i64 (a.2.2.2.2.2.2.1), .int .i64 (a.2.2.2.2.2.2.2)] rfl rfl (fun b1 => ?_)
 refine jo_box rfl [bv, bv2, bv3, str (b.2.2.2.1), bv4, str (b.2.2.2.2.2.1), .int .i64 (b.2.2.2.2.2.2.1), .int .i64 (b.2.2.2.2.2.2.2)] rfl rfl (fun b2 => ?_)
 refine jo_pure rfl (pr_assign rfl) (jo_nil (jq_then (jc_seq (jc_region (jo_pure rfl (pr_fieldAddr 0 rfl Tryz.underlying40 rfl ty_37 rfl rfl) ?_)))))
 refine jo_pure rfl (pr_load_box (av) rfl ty_37 (.tail _ (.head _)) rfl (by decide) rfl) ?_
 refine jo_pure rfl (pr_fieldAddr 0 rfl Tryz.underlying40 rfl ty_37 rfl rfl) ?_
 refine jo_pure rfl (pr_load_box (bv) rfl ty_37 (.head _) rfl (by decide) rfl) ?_
 refine jo_callp cal_54 (c_ref26_SameKeys a.1 av b.1 bv (by assumption) (by assumption)) ⟨rfl, rfl, trivial⟩ rfl (⟨⟨rfl, .tail _ (.tail _ (.head _))⟩, ⟨⟨rfl, .tail _ (.tail _ (.tail _ (.tail _ (.tail _ (.tail _ (.head _))))))⟩, trivial⟩⟩) (fun _ => ?_)
 refine jo_pure rfl (pr_move rfl) (jo_gpure (j := 5) (want := true) rfl rfl rfl rfl (fun hg=>pr_fieldAddr 1 rfl Tryz.underlying40 rfl ty_28 rfl rfl) ?_)
 refine jo_gpure (j := 5) (want := true) rfl rfl rfl rfl (fun hg=>pr_load_box (av2) (evg rfl hg) ty_28 (.tail _ (.head _)) rfl (by decide) rfl) ?_
 refine jo_gpure (j := 5) (want := true) rfl rfl rfl rfl (fun hg=>pr_fieldAddr 1 rfl Tryz.underlying40 rfl ty_28 rfl rfl) ?_
 refine jo_gpure (j := 5) (want := true) rfl rfl rfl rfl (fun hg=>pr_load_box (bv2) (evg rfl hg) ty_28 (.head _) rfl (by decide) rfl) ?_
 refine jo_gcall (j := 5) (want := true) rfl rfl rfl cal_53 (fun hg => c_ref10_SameStrings a.2.1 av2 b.2.1 bv2 (by assumption)) (fun hg => ⟨evg rfl hg, evg rfl hg, trivial⟩) rfl (fun _ => ⟨⟨rfl, .tail _ (.tail _ (.tail _ (.head _)))⟩, ⟨⟨rfl, .tail _ (.tail _ (.tail _ (.tail _ (.tail _ (.tail _ (.tail _ (.head _)))))))⟩, trivial⟩⟩) ?_
 refine jo_pure rfl (pr_pick_and rfl rfl rfl) ?_
 refine jo_pure rfl (pr_move rfl) (jo_gpure (j := 12) (want := true) rfl rfl rfl rfl (fun hg=>pr_fieldAddr 2 rfl Tryz.underlying40 rfl ty_28 rfl rfl) ?_)
 refine jo_gpure (j := 12) (want := true) rfl rfl rfl rfl (fun hg=>pr_load_box (av3) (evg rfl hg) ty_28 (.tail _ (.head _)) rfl (by decide) rfl) ?_
 refine jo_gpure (j := 12) (want := true) rfl rfl rfl rfl (fun hg=>pr_fieldAddr 2 rfl Tryz.underlying40 rfl ty_28 rfl rfl) ?_
 refine jo_gpure (j := 12) (want := true) rfl rfl rfl rfl (fun hg=>pr_load_box (bv3) (evg rfl hg) ty_28 (.head _) rfl (by decide) rfl) ?_
 refine jo_gcall (j := 12) (want := true) rfl rfl rfl cal_53 (fun hg => c_ref10_SameStrings a.2.2.1 av3 b.2.2.1 bv3 (by assumption)) (fun hg => ⟨evg rfl hg, evg rfl hg, trivial⟩) rfl (fun _ => ⟨⟨rfl, .tail _ (.tail _ (.tail _ (.tail _ (.head _))))⟩, ⟨⟨rfl, .tail _ (.tail _ (.tail _ (.tail _ (.tail _ (.tail _ (.tail _ (.tail _ (.head _))))))))⟩, trivial⟩⟩) ?_
 refine jo_pure rfl (pr_pick_and rfl rfl rfl) ?_
 refine jo_pure rfl (pr_move rfl) (jo_gpure (j := 19) (want := true) rfl rfl rfl rfl (fun hg=>pr_fieldAddr 3 rfl Tryz.underlying40 rfl ty_9 rfl rfl) ?_)
 refine jo_gpure (j := 19) (want := true) rfl rfl rfl rfl (fun hg=>pr_load_box (str (a.2.2.2.1)) (evg rfl hg) ty_9 (.tail _ (.head _)) rfl (by decide) rfl) ?_
 refine jo_gpure (j := 19) (want := true) rfl rfl rfl rfl (fun hg=>pr_fieldAddr 3 rfl Tryz.underlying40 rfl ty_9 rfl rfl) ?_
 refine jo_gpure (j := 19) (want := true) rfl rfl rfl rfl (fun hg=>pr_load_box (str (b.2.2.2.1)) (evg rfl hg) ty_9 (.head _) rfl (by decide) rfl) ?_
 refine jo_gpure (j := 19) (want := true) rfl rfl rfl rfl (fun hg=>pr_seql (evg rfl hg) (evg rfl hg)) ?_
 refine jo_pure rfl (pr_pick_and rfl rfl rfl) ?_
 refine jo_pure rfl (pr_move rfl) (jo_gpure (j := 26) (want := true) rfl rfl rfl rfl (fun hg=>pr_fieldAddr 4 rfl Tryz.underlying40 rfl ty_38 rfl rfl) ?_)
 refine jo_gpure (j := 26) (want := true) rfl rfl rfl rfl (fun hg=>pr_load_box (av4) (evg rfl hg) ty_38 (.tail _ (.head _)) rfl (by decide) rfl) ?_
 refine jo_gpure (j := 26) (want := true) rfl rfl rfl rfl (fun hg=>pr_fieldAddr 4 rfl Tryz.underlying40 rfl ty_38 rfl rfl) ?_
 refine jo_gpure (j := 26) (want := true) rfl rfl rfl rfl (fun hg=>pr_load_box (bv4) (evg rfl hg) ty_38 (.head _) rfl (by decide) rfl) ?_
 refine jo_gcall (j := 26) (want := true) rfl rfl rfl cal_55 (fun hg => c_ref26_SameFields a.2.2.2.2.1 av4 b.2.2.2.2.1 bv4 (by assumption)) (fun hg => ⟨evg rfl hg, evg rfl hg, trivial⟩) rfl (fun _ => ⟨⟨rfl, .tail _ (.tail _ (.tail _ (.tail _ (.tail _ (.head _)))))⟩, ⟨⟨rfl, .tail _ (.tail _ (.tail _ (.tail _ (.tail _ (.tail _ (.tail _ (.tail _ (.tail _ (.head _)))))))))⟩, trivial⟩⟩) ?_
 refine jo_pure rfl (pr_pick_and rfl rfl rfl) ?_
 refine jo_pure rfl (pr_move rfl) (jo_gpure (j := 33) (want := true) rfl rfl rfl rfl (fun hg=>pr_fieldAddr 5 rfl Tryz.underlying40 rfl ty_9 rfl rfl) ?_)
 refine jo_gpure (j := 33) (want := true) rfl rfl rfl rfl (fun hg=>pr_load_box (str (a.2.2.2.2.2.1)) (evg rfl hg) ty_9 (.tail _ (.head _)) rfl (by decide) rfl) ?_
 refine jo_gpure (j := 33) (want := true) rfl rfl rfl rfl (fun hg=>pr_fieldAddr 5 rfl Tryz.underlying40 rfl ty_9 rfl rfl) ?_
 refine jo_gpure (j := 33) (want := true) rfl rfl rfl rfl (fun hg=>pr_load_box (str (b.2.2.2.2.2.1)) (evg rfl hg) ty_9 (.head _) rfl (by decide) rfl) ?_
 refine jo_gpure (j := 33) (want := true) rfl rfl rfl rfl (fun hg=>pr_seql (evg rfl hg) (evg rfl hg)) ?_
 refine jo_pure rfl (pr_pick_and rfl rfl rfl) ?_
 refine jo_pure rfl (pr_move rfl) (jo_gpure (j := 40) (want := true) rfl rfl rfl rfl (fun hg=>pr_fieldAddr 6 rfl Tryz.underlying40 rfl ty_2 rfl rfl) ?_)
 refine jo_gpure (j := 40) (want := true) rfl rfl rfl rfl (fun hg=>pr_load_box (.int .i64 (a.2.2.2.2.2.2.1)) (evg rfl hg) ty_2 (.tail _ (.head _)) rfl (by decide) rfl) ?_
 refine jo_gpure (j := 40) (want := true) rfl rfl rfl rfl (fun hg=>pr_fieldAddr 6 rfl Tryz.underlying40 rfl ty_2 rfl rfl) ?_
 refine jo_gpure (j := 40) (want := true) rfl rfl rfl rfl (fun hg=>pr_load_box (.int .i64 (b.2.2.2.2.2.2.1)) (evg rfl hg) ty_2 (.head _) rfl (by decide) rfl) ?_
 refine jo_gpure (j := 40) (want := true) rfl rfl rfl rfl (fun hg=>pr_eql (evg rfl hg) (evg rfl hg)) ?_
 refine jo_pure rfl (pr_pick_and rfl rfl rfl) ?_
 refine jo_pure rfl (pr_move rfl) (jo_gpure (j := 47) (want := true) rfl rfl rfl rfl (fun hg=>pr_fieldAddr 7 rfl Tryz.underlying40 rfl ty_2 rfl rfl) ?_)
 refine jo_gpure (j := 47) (want := true) rfl rfl rfl rfl (fun hg=>pr_load_box (.int .i64 (a.2.2.2.2.2.2.2)) (evg rfl hg) ty_2 (.tail _ (.head _)) rfl (by decide) rfl) ?_
 refine jo_gpure (j := 47) (want := true) rfl rfl rfl rfl (fun hg=>pr_fieldAddr 7 rfl Tryz.underlying40 rfl ty_2 rfl rfl) ?_
 refine jo_gpure (j := 47) (want := true) rfl rfl rfl rfl (fun hg=>pr_load_box (.int .i64 (b.2.2.2.2.2.2.2)) (evg rfl hg) ty_2 (.head _) rfl (by decide) rfl) ?_
 refine jo_gpure (j := 47) (want := true) rfl rfl rfl rfl (fun hg=>pr_eql (evg rfl hg) (evg rfl hg)) ?_
 refine jo_pure rfl (pr_pick_and rfl rfl rfl) ?_
 refine jo_pure rfl (pr_assign rfl) (jo_nil (jq_then (jc_ret (j_drop (j_drop (j_drop (j_drop (j_drop (j_drop (j_drop (j_drop (j_drop (j_drop ?_)))))))))))))
 exact jq_ret1 rfl () rfl (show (.bool (eqE a b) : Value) = (.bool ((((((((decide (a.1 = b.1) && decide (a.2.1 = b.2.1)) && decide (a.2.2.1 = b.2.2.1)) && decide ((a.2.2.2.1 : Str) = b.2.2.2.1)) && decide (a.2.2.2.2.1 = b.2.2.2.2.1)) && decide ((a.2.2.2.2.2.1 : Str) = b.2.2.2.2.2.1)) && decide ((a.2.2.2.2.2.2.1 : Int) = b.2.2.2.2.2.2.1)) && decide ((a.2.2.2.2.2.2.2 : Int) = b.2.2.2.2.2.2.2)))) from rfl) (fun _ h => h)

theorem c_ref26_EqualTable (a : (List (Axs)) × (List Ent)) (av : Value) (av2 : Value) (b : (List (Axs)) × (List Ent)) (bv : Value) (bv2 : Value) (ha : OkT a) (hb : OkT b) : Con Tryz.prog 29 #[.agg #[av, av2], .agg #[bv, bv2]] [.imm (.list (.pair .str (.list .str))) (av) (a.1), .imm (.list tyE) (av2) (a.2), .imm (.list (.pair .str (.list .str))) (bv) (b.1), .imm (.list tyE) (bv2) (b.2)] (fun _ : Unit => .bool (eqT a b)) (fun _ => []) := by
 refine con_of_J (args := [.agg #[av, av2], .agg #[bv, bv2]]) (n := 40) Tryz.func29 rfl (Nat.le_of_ble_eq_true rfl) rfl (fun w0 I0 m0 => ?_)
 have hal := ha.len
 have hbl := hb.len
 refine jc_seq (jc_region ?_)
 refine jo_box rfl [av, av2] rfl rfl (fun b1 => ?_)
 refine jo_box rfl [bv, bv2] rfl rfl (fun b2 => ?_)
 refine jo_pure rfl (pr_assign rfl) (jo_nil (jq_then (jc_seq (jc_seq (jc_region (jo_pure rfl (pr_fieldAddr 0 rfl Tryz.underlying50 rfl ty_41 rfl rfl) ?_))))))
 refine jo_pure rfl (pr_load_box (av) rfl ty_41 (.tail _ (.head _)) rfl (by decide) rfl) ?_
 refine jo_pure rfl (pr_fieldAddr 0 rfl Tryz.underlying50 rfl ty_41 rfl rfl) ?_
 refine jo_pure rfl (pr_load_box (bv) rfl ty_41 (.head _) rfl (by decide) rfl) ?_
 refine jo_callp cal_27 (c_ref10_Equal a.1 av b.1 bv (by first | omega | exact hE.1 | exact hE.2.1 | exact hE.2.2.1 | exact hE.2.2.2.1 | exact hE.2.2.2.2 | (have := ha.axes.len; omega) | (exact fun x hx => by have := ha.axes.vals x hx; omega)) (by first | omega | exact hE.1 | exact hE.2.1 | exact hE.2.2.1 | exact hE.2.2.2.1 | exact hE.2.2.2.2 | (have := ha.axes.len; omega) | (exact fun x hx => by have := ha.axes.vals x hx; omega))) ⟨rfl, rfl, trivial⟩ rfl (⟨⟨rfl, .tail _ (.tail _ (.head _))⟩, ⟨⟨rfl, .tail _ (.tail _ (.tail _ (.tail _ (.head _))))⟩, trivial⟩⟩) (fun _ => ?_)
 refine jo_pure rfl (pr_not rfl) ?_
 refine jo_pure rfl (pr_move rfl) (jo_gpure (j := 6) (want := false) rfl rfl rfl rfl (fun hg=>pr_fieldAddr 1 rfl Tryz.underlying50 rfl ty_48 rfl rfl) ?_)
 refine jo_gpure (j := 6) (want := false) rfl rfl rfl rfl (fun hg=>pr_load_box (av2) (evg rfl hg) ty_48 (.tail _ (.head _)) rfl (by decide) rfl) ?_
 refine jo_gpure (j := 6) (want := false) rfl rfl rfl rfl (fun hg=>pr_len_imm (evg rfl hg) (.tail _ (.tail _ (.tail _ (.head _)))) Tryz.underlying48) ?_
 refine jo_gpure (j := 6) (want := false) rfl rfl rfl rfl (fun hg=>pr_fieldAddr 1 rfl Tryz.underlying50 rfl ty_48 rfl rfl) ?_
 refine jo_gpure (j := 6) (want := false) rfl rfl rfl rfl (fun hg=>pr_load_box (bv2) (evg rfl hg) ty_48 (.head _) rfl (by decide) rfl) ?_
 refine jo_gpure (j := 6) (want := false) rfl rfl rfl rfl (fun hg=>pr_len_imm (evg rfl hg) (.tail _ (.tail _ (.tail _ (.tail _ (.tail _ (.head _)))))) Tryz.underlying48) ?_
 refine jo_gpure (j := 6) (want := false) rfl rfl rfl rfl (fun hg=>pr_neqN (m := a.2.length) (n := b.2.length) (evg rfl hg) (evg rfl hg)) ?_
 refine jo_pure rfl (pr_pick_or rfl rfl rfl) ?_
 refine jo_nil (jq_then ?_)
 refine jc_cond rfl (fun h1b => ?_) (fun h1b => ?_)
 ·have h1 := (fun q => Or.imp (fun q => id (bt_not q)) (fun q => of_decide_eq_false (bt_not q)) (bt_or q)) h1b
  refine jc_seq (jc_region (jo_pure rfl (pr_assign rfl) (jo_nil (jq_then (jc_ret (jq_then_ret (j_drop (j_drop (j_drop (j_drop (j_drop (j_drop ?_))))))))))))
  exact jq_ret1 rfl () rfl (show (.bool (eqT a b) : Value) = (.bool (false)) from congrArg Value.bool (eqT_head h1b)) (fun _ h => h)
 ·have h1 := (fun q => And.imp (fun q => id (bf_not q)) (fun q => of_decide_eq_true (bf_not q)) (bf_or q)) h1b
  have hll : a.2.length = b.2.length := h1.2
  refine jc_skip (jq_then (jc_seq (jc_seq (jc_region (jo_pure rfl (pr_assign rfl) (jo_nil (jq_then (jc_block ?_))))))))
  refine jc_loop (fun (i : Nat) => [(2, .pointer (some ⟨b1, 0, none⟩)), (3, .pointer (some ⟨b2, 0, none⟩)), (5, .int .i64 ((i : Nat) : Int))]) (fun (i : Nat) => [.box b2 50 [bv, bv2], .box b1 50 [av, av2], .imm (.list (.pair .str (.list .str))) (av) (a.1), .imm (.list tyE) (av2) (a.2), .imm (.list (.pair .str (.list .str))) (bv) (b.1), .imm (.list tyE) (bv2) (b.2)]) (fun (i : Nat) => i ≤ a.2.length ∧ eqAll a.2 b.2 i = true) (fun (i : Nat) => a.2.length - i) 0 (⟨Nat.zero_le _, rfl⟩) (⟨rfl, rfl, rfl, trivial⟩) (fun _ h => h) (fun i hinv => ?_)
  refine jc_seq (jc_seq (jc_region (jo_pure rfl (pr_move rfl) (jo_pure rfl (pr_fieldAddr 1 rfl Tryz.underlying50 rfl ty_48 rfl rfl) ?_))))
  refine jo_pure rfl (pr_load_box (av2) rfl ty_48 (.tail _ (.head _)) rfl (by decide) rfl) ?_
  refine jo_pure rfl (pr_len_imm rfl (.tail _ (.tail _ (.tail _ (.head _)))) Tryz.underlying48) ?_
  refine jo_pure rfl (pr_lssN (m := i) (n := a.2.length) rfl rfl) ?_
  refine jo_nil (jq_then ?_)
  refine jc_cond rfl (fun h2b => ?_) (fun h2b => ?_)
  ·have h2 := of_decide_eq_true h2b
   have hE : ((a.2.getD i ([],[],[],[],[],[],0,0)).1.length ≤ 9223372036854775807 ∧ (∀ k ∈ (a.2.getD i ([],[],[],[],[],[],0,0)).1, k.length ≤ 9223372036854775807) ∧ (a.2.getD i ([],[],[],[],[],[],0,0)).2.1.length ≤ 9223372036854775807 ∧ (a.2.getD i ([],[],[],[],[],[],0,0)).2.2.1.length ≤ 9223372036854775807 ∧ (a.2.getD i ([],[],[],[],[],[],0,0)).2.2.2.2.1.length ≤ 9223372036854775807) := by have h9 := (ha.ents _ (getD_mem (dd := ([],[],[],[],[],[],0,0)) h2)).lens; exact ⟨by omega, fun k hk => by have := h9.2.1 k hk; omega, by omega, by omega, by omega⟩
   refine jc_skip (jq_then (jc_seq (jc_block (jc_seq ?_))))
   refine j_open_elem (t := tyE) (i := i) ([],[],[],[],[],[],0,0) (.tail _ (.tail _ (.tail _ (.head _)))) (by omega) (fun ⟨e1, ⟨e2, ⟨e3, ⟨_, ⟨e4, ⟨_, ⟨_, _⟩⟩⟩⟩⟩⟩⟩ => ?_)
   refine j_open_elem (t := tyE) (i := i) ([],[],[],[],[],[],0,0) (.tail _ (.tail _ (.tail _ (.tail _ (.tail _ (.tail _ (.tail _ (.tail _ (.tail _ (.tail _ (.head _))))))))))) (by omega) (fun ⟨e5, ⟨e6, ⟨e7, ⟨_, ⟨e8, ⟨_, ⟨_, _⟩⟩⟩⟩⟩⟩⟩ => ?_)
   refine jc_draws mixed (by kernel_rfl) (jd_pure rfl (pr_fieldAddr 1 rfl Tryz.underlying50 rfl ty_48 rfl rfl) ?_)
   refine jd_pure rfl (pr_load_box (av2) rfl ty_48 (.tail _ (.tail _ (.tail _ (.tail _ (.tail _ (.tail _ (.tail _ (.tail _ (.tail _ (.tail _ (.tail _ (.head _)))))))))))) rfl (by decide) rfl) ?_
   refine jd_pure rfl (pr_move rfl) ?_
   refine jd_pure rfl (pr_idx_imm (i := i) rfl (.tail _ (.tail _ (.tail _ (.tail _ (.tail _ (.tail _ (.tail _ (.tail _ (.tail _ (.tail _ (.tail _ (.tail _ (.tail _ (.head _)))))))))))))) rfl Tryz.underlying48 ty_40 (by omega)) ?_
   refine jd_pure rfl (pr_load_at (.agg #[e1, e2, e3, str ((((((a.2.getD i ([],[],[],[],[],[],0,0))).2).2).2).1), e4, str ((((((((a.2.getD i ([],[],[],[],[],[],0,0))).2).2).2).2).2).1), .int .i64 (((((((((a.2.getD i ([],[],[],[],[],[],0,0))).2).2).2).2).2).2).1), .int .i64 (((((((((a.2.getD i ([],[],[],[],[],[],0,0))).2).2).2).2).2).2).2)]) rfl (.tail _ (.tail _ (.tail _ (.tail _ (.tail _ (.tail _ (.tail _ (.tail _ (.tail _ (.head _)))))))))) ty_40 (by decide) rfl) ?_
   refine jd_pure rfl (pr_fieldAddr 1 rfl Tryz.underlying50 rfl ty_48 rfl rfl) ?_
   refine jd_pure rfl (pr_load_box (bv2) rfl ty_48 (.tail _ (.tail _ (.tail _ (.tail _ (.tail _ (.tail _ (.tail _ (.tail _ (.tail _ (.tail _ (.head _))))))))))) rfl (by decide) rfl) ?_
   refine jd_pure rfl (pr_move rfl) ?_
   refine jd_pure rfl (pr_idx_imm (i := i) rfl (.tail _ (.tail _ (.tail _ (.tail _ (.tail _ (.tail _ (.tail _ (.tail _ (.tail _ (.tail _ (.tail _ (.tail _ (.tail _ (.tail _ (.tail _ (.head _)))))))))))))))) rfl Tryz.underlying48 ty_40 (by omega)) ?_
   refine jd_pure rfl (pr_load_at (.agg #[e5, e6, e7, str ((((((b.2.getD i ([],[],[],[],[],[],0,0))).2).2).2).1), e8, str ((((((((b.2.getD i ([],[],[],[],[],[],0,0))).2).2).2).2).2).1), .int .i64 (((((((((b.2.getD i ([],[],[],[],[],[],0,0))).2).2).2).2).2).2).1), .int .i64 (((((((((b.2.getD i ([],[],[],[],[],[],0,0))).2).2).2).2).2).2).2)]) rfl (.tail _ (.tail _ (.tail _ (.tail _ (.head _))))) ty_40 (by decide) rfl) ?_
   refine jd_callp cal_26 (c_ref26_Equal ((a.2.getD i ([],[],[],[],[],[],0,0))) e1 e2 e3 e4 ((b.2.getD i ([],[],[],[],[],[],0,0))) e5 e6 e7 e8 (by first | omega | exact hE.1 | exact hE.2.1 | exact hE.2.2.1 | exact hE.2.2.2.1 | exact hE.2.2.2.2 | (have := ha.axes.len; omega) | (exact fun x hx => by have := ha.axes.vals x hx; omega)) (by first | omega | exact hE.1 | exact hE.2.1 | exact hE.2.2.1 | exact hE.2.2.2.1 | exact hE.2.2.2.2 | (have := ha.axes.len; omega) | (exact fun x hx => by have := ha.axes.vals x hx; omega)) (by first | omega | exact hE.1 | exact hE.2.1 | exact hE.2.2.1 | exact hE.2.2.2.1 | exact hE.2.2.2.2 | (have := ha.axes.len; omega) | (exact fun x hx => by have := ha.axes.vals x hx; omega)) (by first | omega | exact hE.1 | exact hE.2.1 | exact hE.2.2.1 | exact hE.2.2.2.1 | exact hE.2.2.2.2 | (have := ha.axes.len; omega) | (exact fun x hx => by have := ha.axes.vals x hx; omega)) (by first | omega | exact hE.1 | exact hE.2.1 | exact hE.2.2.1 | exact hE.2.2.2.1 | exact hE.2.2.2.2 | (have := ha.axes.len; omega) | (exact fun x hx => by have := ha.axes.vals x hx; omega))) ⟨rfl, rfl, trivial⟩ rfl (⟨⟨rfl, .tail _ (.tail _ (.tail _ (.tail _ (.tail _ (.head _)))))⟩, ⟨⟨rfl, .tail _ (.tail _ (.tail _ (.tail _ (.tail _ (.tail _ (.head _))))))⟩, ⟨⟨rfl, .tail _ (.tail _ (.tail _ (.tail _ (.tail _ (.tail _ (.tail _ (.head _)))))))⟩, ⟨⟨rfl, .tail _ (.tail _ (.tail _ (.tail _ (.tail _ (.tail _ (.tail _ (.tail _ (.head _))))))))⟩, ⟨⟨rfl, .head _⟩, ⟨⟨rfl, .tail _ (.head _)⟩, ⟨⟨rfl, .tail _ (.tail _ (.head _))⟩, ⟨⟨rfl, .tail _ (.tail _ (.tail _ (.head _)))⟩, trivial⟩⟩⟩⟩⟩⟩⟩⟩) ?_
   refine jd_pure rfl (pr_not rfl) ?_
   refine jd_nil ?_
   refine jq_then ?_
   refine jc_cond rfl (fun h3b => ?_) (fun h3b => ?_)
   ·have h3 := (fun q => id (bt_not q)) h3b
    refine jc_seq (jc_region (jo_pure rfl (pr_assign rfl) (jo_nil (jq_then (jc_ret (jq_in_ret ?_))))))
    refine jq_then_ret (jq_then_ret (jq_in_ret ?_))
    refine jq_then_ret (j_drop (j_drop (j_drop (j_drop (j_drop (j_drop (j_drop (j_drop (j_drop (j_drop (j_drop (j_drop (j_drop (j_drop (j_drop (j_drop ?_))))))))))))))))
    exact jq_ret1 rfl () rfl (show (.bool (eqT a b) : Value) = (.bool (false)) from congrArg Value.bool (eqT_no h2 (by simpa using h3b))) (fun _ h => h)
   ·have h3 := (fun q => id (bf_not q)) h3b
    refine jc_skip (jq_in_normal (jq_then (jc_region (jo_pure rfl (pr_move rfl) (jo_pure rfl (pr_addN (m := i) (n := 1) rfl rfl (by omega)) ?_)))))
    refine jo_pure rfl (pr_assign rfl) (jo_nil (j_drop (j_drop (j_drop (j_drop (j_drop (j_drop (j_drop (j_drop (j_drop (j_drop (j_pull5 ?_))))))))))))
    refine j_pull5 ?_
    refine j_pull5 ?_
    refine j_pull5 ?_
    refine j_pull5 ?_
    refine j_pull5 ?_
    refine jq_round' (i + 1) (by (try dsimp only); exact (⟨by omega, eqAll_next hinv.2 (by simpa using h3b)⟩)) (by (try dsimp only); exact (by omega)) ⟨rfl, rfl, rfl, trivial⟩ (fun _ h => h)
  ·have h2 := of_decide_eq_false h2b
   refine jc_exit ?_
   refine jq_then_exit ?_
   refine jq_then_exit ?_
   refine jq_in_hit ?_
   refine jq_then (jc_seq (jc_region (jo_pure rfl (pr_assign rfl) (jo_nil (jq_then (jc_ret (j_drop (j_drop (j_drop (j_drop (j_drop (j_drop ?_))))))))))))
   exact jq_ret1 rfl () rfl (show (.bool (eqT a b) : Value) = (.bool (true)) from congrArg Value.bool (eqT_yes h1b (by rw [show a.2.length = i from by omega]; exact hinv.2))) (fun _ h => h)

theorem c_ref26_Own (t : (List (Axs)) × (List Ent)) (tv : Value) (tv2 : Value) (ht : OkT t) : Con Tryz.prog 28 #[.agg #[tv, tv2]] [.imm (.list (.pair .str (.list .str))) (tv) (t.1), .imm (.list tyE) (tv2) (t.2)] (fun r : Value × Value => .agg #[r.1, r.2]) (fun r => [.imm (.list (.pair .str (.list .str))) r.1 (t.1), .imm (.list tyE) r.2 (t.2)]) := by
 refine con_of_J (args := [.agg #[tv, tv2]]) (n := 51) Tryz.func28 rfl (Nat.le_of_ble_eq_true rfl) rfl (fun w0 I0 m0 => ?_)
 have htl := ht.len
 have hxl := ht.axes.len
 refine jc_seq (jc_region ?_)
 refine jo_box rfl [tv, tv2] rfl rfl (fun b1 => ?_)
 refine jo_alloc ty_50 [.slice none 0 0, .slice none 0 0] rfl rfl (fun b2 => ?_)
 refine jo_nil (jq_then (jc_seq (jc_region ?_)))
 refine jo_alloc ty_50 [.slice none 0 0, .slice none 0 0] rfl rfl (fun b3 => ?_)
 refine jo_nil (jq_then (jc_seq (jc_seq (jc_region (jo_pure rfl (pr_assign rfl) (jo_nil (jq_then (jc_block (j_nil_row 83 (.pair .str (.list .str)) ?_)))))))))
 refine jc_loop3 (fun (ia : Nat) (kwa : Value) (acca : List (Axs)) => [(1, .pointer (some ⟨b1, 0, none⟩)), (2, .pointer (some ⟨b2, 0, none⟩)), (3, .pointer (some ⟨b3, 0, none⟩)), (4, .int .i64 ((ia : Nat) : Int))]) (fun (ia : Nat) (kwa : Value) (acca : List (Axs)) => [.row (kwa) 83 (.pair .str (.list .str)) (acca), .box b3 50 [kwa, .slice none 0 0], .box b2 50 [.slice none 0 0, .slice none 0 0], .box b1 50 [tv, tv2], .imm (.list (.pair .str (.list .str))) (tv) (t.1), .imm (.list tyE) (tv2) (t.2)]) (fun (ia : Nat) (kwa : Value) (acca : List (Axs)) => ia ≤ t.1.length ∧ acca = t.1.take ia) (fun (ia : Nat) (kwa : Value) (acca : List (Axs)) => t.1.length - ia) 0 (.slice none 0 0) [] (⟨Nat.zero_le _, rfl⟩) (⟨rfl, rfl, rfl, rfl, trivial⟩) (fun _ h => h) (fun ia kwa acca hinv => ?_)
 have hala : acca.length ≤ 1000000000 := by rw [hinv.2, List.length_take]; omega
 refine jc_seq (jc_seq (jc_region (jo_pure rfl (pr_move rfl) (jo_pure rfl (pr_fieldAddr 0 rfl Tryz.underlying50 rfl ty_41 rfl rfl) ?_))))
 refine jo_pure rfl (pr_load_box (tv) rfl ty_41 (.tail _ (.tail _ (.tail _ (.head _)))) rfl (by decide) rfl) ?_
 refine jo_pure rfl (pr_len_imm rfl (.tail _ (.tail _ (.tail _ (.tail _ (.head _))))) Tryz.underlying41) ?_
 refine jo_pure rfl (pr_lssN (m := ia) (n := t.1.length) rfl rfl) ?_
 refine jo_nil (jq_then ?_)
 refine jc_cond rfl (fun h1b => ?_) (fun h1b => ?_)
 ·have h1 := of_decide_eq_true h1b
  have hvl := ht.axes.vals _ (getD_mem (dd := ([], [])) h1)
  refine jc_skip (jq_then (jc_seq (jc_block ?_)))
  refine j_open_elem (t := (.pair .str (.list .str))) (i := ia) ([], []) (.tail _ (.tail _ (.tail _ (.tail _ (.head _))))) (by omega) (fun ⟨_, e1⟩ => ?_)
  refine j_pull2 ?_
  refine jc_heldI (fun (v2 : Value) => [(1, .pointer (some ⟨b1, 0, none⟩)), (2, .pointer (some ⟨b2, 0, none⟩)), (3, .pointer (some ⟨b3, 0, none⟩)), (4, .int .i64 ((ia : Nat) : Int))]) (fun v2 => [.box b3 50 [v2, .slice none 0 0], .row (v2) 83 (.pair .str (.list .str)) (acca ++ [(((t.1.getD ia ([], []))).1, [] ++ (((t.1.getD ia ([], []))).2))]), .imm (.list .str) (e1) (((t.1.getD ia ([], []))).2), .fact (fun w_ I_ => ElemAt w_ I_ (tv) (ia) 2 [str (((t.1.getD ia ([], []))).1), e1]), .box b2 50 [.slice none 0 0, .slice none 0 0], .box b1 50 [tv, tv2], .imm (.list (.pair .str (.list .str))) (tv) (t.1), .imm (.list tyE) (tv2) (t.2)]) [.imm (.list .str) (e1) (((t.1.getD ia ([], []))).2), .fact (fun w_ I_ => ElemAt w_ I_ (tv) (ia) 2 [str (((t.1.getD ia ([], []))).1), e1]), .box b3 50 [kwa, .slice none 0 0], .box b2 50 [.slice none 0 0, .slice none 0 0], .box b1 50 [tv, tv2], .imm (.list (.pair .str (.list .str))) (tv) (t.1), .imm (.list tyE) (tv2) (t.2)] [19] mixed (fun lst hlst => ?_) (fun v2 => ?_)
  ·subst hlst
   refine ji_take (listed' := #[true, false, false, false, false, false, false, false, false, false, false, false, false, false, false, false, false, false, false, false]) 0 rfl (by kernel_rfl) (by kernel_rfl) (by kernel_rfl) (by kernel_rfl) rfl (pr_fieldAddr 0 rfl Tryz.underlying50 rfl ty_41 rfl rfl) (fun _ h => Mem.drop1 (h)) rfl ?_
   refine ji_take (listed' := #[true, true, false, false, false, false, false, false, false, false, false, false, false, false, false, false, false, false, false, false]) 1 rfl (by kernel_rfl) (by kernel_rfl) (by kernel_rfl) (by kernel_rfl) rfl (pr_load_box (kwa) rfl ty_41 (.tail _ (.tail _ (.head _))) rfl (by decide) rfl) (fun _ h => Mem.drop1 (h)) rfl ?_
   refine ji_take (listed' := #[true, true, true, false, false, false, false, false, false, false, false, false, false, false, false, false, false, false, false, false]) 2 rfl (by kernel_rfl) (by kernel_rfl) (by kernel_rfl) (by kernel_rfl) rfl (pr_fieldAddr 0 rfl Tryz.underlying50 rfl ty_41 rfl rfl) (fun _ h => Mem.drop1 (h)) rfl ?_
   refine ji_take (listed' := #[true, true, true, true, false, false, false, false, false, false, false, false, false, false, false, false, false, false, false, false]) 3 rfl (by kernel_rfl) (by kernel_rfl) (by kernel_rfl) (by kernel_rfl) rfl (pr_load_box (tv) rfl ty_41 (.tail _ (.tail _ (.tail _ (.tail _ (.head _))))) rfl (by decide) rfl) (fun _ h => Mem.drop1 (h)) rfl ?_
   refine ji_take (listed' := #[true, true, true, true, true, false, false, false, false, false, false, false, false, false, false, false, false, false, false, false]) 4 rfl (by kernel_rfl) (by kernel_rfl) (by kernel_rfl) (by kernel_rfl) rfl (pr_move rfl) (fun _ h => Mem.drop1 (h)) rfl ?_
   refine ji_take (listed' := #[true, true, true, true, true, true, false, false, false, false, false, false, false, false, false, false, false, false, false, false]) 5 rfl (by kernel_rfl) (by kernel_rfl) (by kernel_rfl) (by kernel_rfl) rfl (pr_idx_imm (i := ia) rfl (.tail _ (.tail _ (.tail _ (.tail _ (.tail _ (.head _)))))) rfl Tryz.underlying41 ty_83 (by omega)) (fun _ h => Mem.drop1 (h)) rfl ?_
   refine ji_take (listed' := #[true, true, true, true, true, true, true, false, false, false, false, false, false, false, false, false, false, false, false, false]) 6 rfl (by kernel_rfl) (by kernel_rfl) (by kernel_rfl) (by kernel_rfl) rfl (pr_fieldAddr_imm (i := ia) rfl (.tail _ (.tail _ (.tail _ (.tail _ (.tail _ (.head _)))))) Tryz.underlying83 rfl ty_9 rfl rfl (by omega)) (fun _ h => Mem.drop1 (h)) rfl ?_
   refine ji_take (listed' := #[true, true, true, true, true, true, true, true, false, false, false, false, false, false, false, false, false, false, false, false]) 7 rfl (by kernel_rfl) (by kernel_rfl) (by kernel_rfl) (by kernel_rfl) rfl (pr_load_off_at (o := 0) (str (((t.1.getD ia ([], []))).1)) rfl (.tail _ (.head _)) ty_9 (by decide) rfl rfl) (fun _ h => Mem.drop1 (h)) rfl ?_
   refine ji_take (listed' := #[true, true, true, true, true, true, true, true, true, false, false, false, false, false, false, false, false, false, false, false]) 8 rfl (by kernel_rfl) (by kernel_rfl) (by kernel_rfl) (by kernel_rfl) rfl (pr_fieldAddr 0 rfl Tryz.underlying50 rfl ty_41 rfl rfl) (fun _ h => Mem.drop1 (h)) rfl ?_
   refine ji_take (listed' := #[true, true, true, true, true, true, true, true, true, true, false, false, false, false, false, false, false, false, false, false]) 9 rfl (by kernel_rfl) (by kernel_rfl) (by kernel_rfl) (by kernel_rfl) rfl (pr_load_box (tv) rfl ty_41 (.tail _ (.tail _ (.tail _ (.tail _ (.head _))))) rfl (by decide) rfl) (fun _ h => Mem.drop1 (h)) rfl ?_
   refine ji_take (listed' := #[true, true, true, true, true, true, true, true, true, true, true, false, false, false, false, false, false, false, false, false]) 10 rfl (by kernel_rfl) (by kernel_rfl) (by kernel_rfl) (by kernel_rfl) rfl (pr_move rfl) (fun _ h => Mem.drop1 (h)) rfl ?_
   refine ji_take (listed' := #[true, true, true, true, true, true, true, true, true, true, true, true, false, false, false, false, false, false, false, false]) 11 rfl (by kernel_rfl) (by kernel_rfl) (by kernel_rfl) (by kernel_rfl) rfl (pr_idx_imm (i := ia) rfl (.tail _ (.tail _ (.tail _ (.tail _ (.tail _ (.head _)))))) rfl Tryz.underlying41 ty_83 (by omega)) (fun _ h => Mem.drop1 (h)) rfl ?_
   refine ji_take (listed' := #[true, true, true, true, true, true, true, true, true, true, true, true, true, false, false, false, false, false, false, false]) 12 rfl (by kernel_rfl) (by kernel_rfl) (by kernel_rfl) (by kernel_rfl) rfl (pr_fieldAddr_imm (i := ia) rfl (.tail _ (.tail _ (.tail _ (.tail _ (.tail _ (.head _)))))) Tryz.underlying83 rfl ty_28 rfl rfl (by omega)) (fun _ h => Mem.drop1 (h)) rfl ?_
   refine ji_take (listed' := #[true, true, true, true, true, true, true, true, true, true, true, true, true, true, false, false, false, false, false, false]) 13 rfl (by kernel_rfl) (by kernel_rfl) (by kernel_rfl) (by kernel_rfl) rfl (pr_load_off_at (o := 1) (e1) rfl (.tail _ (.head _)) ty_28 (by decide) rfl rfl) (fun _ h => Mem.drop1 (h)) rfl ?_
   refine ji_all [14] (by kernel_rfl) (by simp) (fun i hi => ?_)
   simp only [List.mem_cons, List.not_mem_nil, or_false] at hi
   subst hi
   ·refine jh_op rfl ?_
    refine j_nil_row 9 .str ?_
    refine jo_append_imm rfl rfl (.tail _ (.head _)) Tryz.underlying28 ty_9 rfl (by simp only [List.length_append, List.length_cons, List.length_nil, maxLen]; omega) (by simp only [List.length_append, List.length_cons, List.length_nil]; omega) rfl (fun v1 => ?_)
    refine ji_in (listed' := #[true, true, true, true, true, true, true, true, true, true, true, true, true, true, true, false, false, false, false, false]) (fun _ h => Mem.drop1 (Mem.drop1 (h))) rfl ?_
    refine ji_all [15] (by kernel_rfl) (by simp) (fun i hi => ?_)
    simp only [List.mem_cons, List.not_mem_nil, or_false] at hi
    subst hi
    ·refine jh_op rfl ?_
     refine jo_pure rfl (pr_buildV [(0, str (((t.1.getD ia ([], []))).1)), (1, v1)] [str (((t.1.getD ia ([], []))).1), v1] (fun a hf => by simp only [List.map_toArray, List.map_cons, List.map_nil, hf.ev (show ev _ (.tmp 20) = some (str (((t.1.getD ia ([], []))).1)) from rfl), hf.ev (show ev _ (.tmp 27) = some (v1) from rfl)]) (fun w I m hs => by obtain ⟨_, _, _, e0⟩ := row_slice (.head _) hs; rw [e0]; kernel_rfl)) ?_
     refine ji_in (listed' := #[true, true, true, true, true, true, true, true, true, true, true, true, true, true, true, true, false, false, false, false]) (fun _ h => Mem.drop1 (Mem.drop1 (h))) rfl ?_
     refine ji_all [16] (by kernel_rfl) (by simp) (fun i hi => ?_)
     simp only [List.mem_cons, List.not_mem_nil, or_false] at hi
     subst hi
     ·refine jh_op rfl ?_
      refine j_pub_row ?_
      refine jo_buildSliceL (t := (.pair .str (.list .str))) [(((t.1.getD ia ([], []))).1, [] ++ (((t.1.getD ia ([], []))).2))] [.agg #[str (((t.1.getD ia ([], []))).1), v1]] [[str (((t.1.getD ia ([], []))).1), v1]] (fun a hf => by simp only [List.zipIdx_cons, List.zipIdx_nil, List.map_toArray, List.map_cons, List.map_nil, hf.ev (show ev _ (.tmp 28) = some (.agg #[str (((t.1.getD ia ([], []))).1), v1]) from rfl)] <;> rfl) rfl ⟨⟨[str (((t.1.getD ia ([], []))).1)], [v1], rfl, rfl, ⟨v1, rfl, .head _⟩⟩, trivial⟩ Tryz.underlying41 ty_83 rfl rfl rfl rfl (fun g1 => ?_)
      refine ji_in (listed' := #[true, true, true, true, true, true, true, true, true, true, true, true, true, true, true, true, true, false, false, false]) (fun _ h => Mem.drop1 (Mem.drop1 (Mem.drop1 (h)))) rfl ?_
      refine ji_all [17] (by kernel_rfl) (by simp) (fun i hi => ?_)
      simp only [List.mem_cons, List.not_mem_nil, or_false] at hi
      subst hi
      ·refine jh_op rfl ?_
       refine j_pull2 ?_
       refine jo_append rfl rfl Tryz.underlying41 ty_83 rfl (by simp only [List.length_append, List.length_cons, List.length_nil, maxLen]; omega) (by simp only [List.length_append, List.length_cons, List.length_nil]; omega) rfl (fun v2 => ?_)
       refine ji_in (listed' := #[true, true, true, true, true, true, true, true, true, true, true, true, true, true, true, true, true, true, false, false]) (fun _ h => Mem.drop1 (Mem.drop1 (h))) rfl ?_
       refine ji_take (listed' := #[true, true, true, true, true, true, true, true, true, true, true, true, true, true, true, true, true, true, true, false]) 18 rfl (by kernel_rfl) (by kernel_rfl) (by kernel_rfl) (by kernel_rfl) rfl (pr_fieldAddr 0 rfl Tryz.underlying50 rfl ty_41 rfl rfl) (fun _ h => Mem.drop1 (Mem.drop1 (h))) rfl ?_
       refine ji_all [19] (by kernel_rfl) (by simp) (fun i hi => ?_)
       simp only [List.mem_cons, List.not_mem_nil, or_false] at hi
       subst hi
       ·refine jh_op rfl ?_
        refine j_pull4 ?_
        refine jo_storeV rfl rfl ty_41 [v2] (fun w I m hs => (SliceV.cells (row_slice (.tail _ (.head _)) hs))) rfl (fun w I m hs => by simp only [List.all_cons, List.all_nil, Bool.and_true, Bool.and_eq_true]; exact (SliceV.one (row_slice (.tail _ (.head _)) hs))) [v2, .slice none 0 0] rfl rfl ?_
        refine ji_in2 (listed' := #[true, true, true, true, true, true, true, true, true, true, true, true, true, true, true, true, true, true, true, true]) (by kernel_rfl) rfl ?_
        refine j_pull2 (j_drop (j_pull7 ?_))
        refine j_pull7 ?_
        refine j_pull7 ?_
        refine j_pull7 ?_
        refine j_pull7 ?_
        refine j_pull7 ?_
        refine j_pull7 ?_
        refine j_pull7 ?_
        show JI _ _ _ _ _ _ _ _ _
        exact ji_done v2 (by kernel_rfl) ⟨rfl, rfl, rfl, rfl, trivial⟩ (fun _ h => h)
  ·skip
   refine jq_in_normal (jq_then (jc_region (jo_pure rfl (pr_move rfl) (jo_pure rfl (pr_addN (m := ia) (n := 1) rfl rfl (by omega)) ?_))))
   refine jo_pure rfl (pr_assign rfl) (jo_nil (j_pull2 (j_drop (j_pull2 (j_drop (j_pull5 ?_))))))
   refine j_pull5 ?_
   refine j_pull5 ?_
   refine j_pull5 ?_
   refine j_pull4 ?_
   refine j_pull5 ?_
   refine jq_round' ((ia + 1), v2, (acca ++ [(((t.1.getD ia ([], []))).1, [] ++ (((t.1.getD ia ([], []))).2))])) (by (try dsimp only); exact (⟨by omega, by rw [take_next (dd := ([], [])) h1, hinv.2]; rfl⟩)) (by (try dsimp only); exact (by omega)) ⟨rfl, rfl, rfl, rfl, trivial⟩ (fun _ h => h)
 ·have h1 := of_decide_eq_false h1b
  refine jc_exit ?_
  refine jq_then_exit ?_
  refine jq_then_exit ?_
  refine jq_in_hit ?_
  refine jq_then (jc_seq (jc_seq (jc_region (jo_pure rfl (pr_assign rfl) (jo_nil (jq_then (jc_block (j_nil_row 40 tyE ?_))))))))
  refine jc_loop3 (fun (ib : Nat) (kwb : Value) (accb : List Ent) => [(1, .pointer (some ⟨b1, 0, none⟩)), (2, .pointer (some ⟨b2, 0, none⟩)), (3, .pointer (some ⟨b3, 0, none⟩)), (5, .int .i64 ((ib : Nat) : Int))]) (fun (ib : Nat) (kwb : Value) (accb : List Ent) => [.row (kwb) 40 tyE (accb), .row (kwa) 83 (.pair .str (.list .str)) (acca), .box b3 50 [kwa, kwb], .box b2 50 [.slice none 0 0, .slice none 0 0], .box b1 50 [tv, tv2], .imm (.list (.pair .str (.list .str))) (tv) (t.1), .imm (.list tyE) (tv2) (t.2)]) (fun (ib : Nat) (kwb : Value) (accb : List Ent) => ib ≤ t.2.length ∧ accb = t.2.take ib) (fun (ib : Nat) (kwb : Value) (accb : List Ent) => t.2.length - ib) 0 (.slice none 0 0) [] (⟨Nat.zero_le _, rfl⟩) (⟨rfl, rfl, rfl, rfl, trivial⟩) (fun _ h => h) (fun ib kwb accb hin2 => ?_)
  have halb : accb.length ≤ 1000000000 := by rw [hin2.2, List.length_take]; omega
  refine jc_seq (jc_seq (jc_region (jo_pure rfl (pr_move rfl) (jo_pure rfl (pr_fieldAddr 1 rfl Tryz.underlying50 rfl ty_48 rfl rfl) ?_))))
  refine jo_pure rfl (pr_load_box (tv2) rfl ty_48 (.tail _ (.tail _ (.tail _ (.tail _ (.head _))))) rfl (by decide) rfl) ?_
  refine jo_pure rfl (pr_len_imm rfl (.tail _ (.tail _ (.tail _ (.tail _ (.tail _ (.tail _ (.head _))))))) Tryz.underlying48) ?_
  refine jo_pure rfl (pr_lssN (m := ib) (n := t.2.length) rfl rfl) ?_
  refine jo_nil (jq_then ?_)
  refine jc_cond rfl (fun h2b => ?_) (fun h2b => ?_)
  ·have h2 := of_decide_eq_true h2b
   refine jc_skip (jq_then (jc_seq (jc_block ?_)))
   refine j_open_elem (t := tyE) (i := ib) ([],[],[],[],[],[],0,0) (.tail _ (.tail _ (.tail _ (.tail _ (.tail _ (.tail _ (.head _))))))) (by omega) (fun ⟨e2, ⟨e3, ⟨e4, ⟨_, ⟨e5, ⟨_, ⟨_, _⟩⟩⟩⟩⟩⟩⟩ => ?_)
   refine j_pull5 ?_
   refine jc_heldI (fun (iq : Value × Value × Value × Value × Value) => [(1, .pointer (some ⟨b1, 0, none⟩)), (2, .pointer (some ⟨b2, 0, none⟩)), (3, .pointer (some ⟨b3, 0, none⟩)), (5, .int .i64 ((ib : Nat) : Int))]) (fun iq => [.box b3 50 [kwa, iq.1], .row (iq.1) 40 tyE (accb ++ [((t.2.getD ib ([],[],[],[],[],[],0,0)))]), .imm (.list (.list .str)) (iq.2.1) (((t.2.getD ib ([],[],[],[],[],[],0,0))).1), .imm (.list .str) (iq.2.2.1) (((t.2.getD ib ([],[],[],[],[],[],0,0))).2.1), .imm (.list .str) (iq.2.2.2.1) (((t.2.getD ib ([],[],[],[],[],[],0,0))).2.2.1), .imm (.list (.pair .str .str)) (iq.2.2.2.2) (((t.2.getD ib ([],[],[],[],[],[],0,0))).2.2.2.2.1), .imm (.list (.list .str)) (e2) (((t.2.getD ib ([],[],[],[],[],[],0,0))).1), .imm (.list .str) (e3) ((((t.2.getD ib ([],[],[],[],[],[],0,0))).2).1), .imm (.list .str) (e4) (((((t.2.getD ib ([],[],[],[],[],[],0,0))).2).2).1), .imm (.list (.pair .str .str)) (e5) (((((((t.2.getD ib ([],[],[],[],[],[],0,0))).2).2).2).2).1), .fact (fun w_ I_ => ElemAt w_ I_ (tv2) (ib) 8 [e2, e3, e4, str ((((((t.2.getD ib ([],[],[],[],[],[],0,0))).2).2).2).1), e5, str ((((((((t.2.getD ib ([],[],[],[],[],[],0,0))).2).2).2).2).2).1), .int .i64 (((((((((t.2.getD ib ([],[],[],[],[],[],0,0))).2).2).2).2).2).2).1), .int .i64 (((((((((t.2.getD ib ([],[],[],[],[],[],0,0))).2).2).2).2).2).2).2)]), .row (kwa) 83 (.pair .str (.list .str)) (acca), .box b2 50 [.slice none 0 0, .slice none 0 0], .box b1 50 [tv, tv2], .imm (.list (.pair .str (.list .str))) (tv) (t.1), .imm (.list tyE) (tv2) (t.2)]) [.imm (.list (.list .str)) (e2) (((t.2.getD ib ([],[],[],[],[],[],0,0))).1), .imm (.list .str) (e3) ((((t.2.getD ib ([],[],[],[],[],[],0,0))).2).1), .imm (.list .str) (e4) (((((t.2.getD ib ([],[],[],[],[],[],0,0))).2).2).1), .imm (.list (.pair .str .str)) (e5) (((((((t.2.getD ib ([],[],[],[],[],[],0,0))).2).2).2).2).1), .fact (fun w_ I_ => ElemAt w_ I_ (tv2) (ib) 8 [e2, e3, e4, str ((((((t.2.getD ib ([],[],[],[],[],[],0,0))).2).2).2).1), e5, str ((((((((t.2.getD ib ([],[],[],[],[],[],0,0))).2).2).2).2).2).1), .int .i64 (((((((((t.2.getD ib ([],[],[],[],[],[],0,0))).2).2).2).2).2).2).1), .int .i64 (((((((((t.2.getD ib ([],[],[],[],[],[],0,0))).2).2).2).2).2).2).2)]), .row (kwa) 83 (.pair .str (.list .str)) (acca), .box b3 50 [kwa, kwb], .box b2 50 [.slice none 0 0, .slice none 0 0], .box b1 50 [tv, tv2], .imm (.list (.pair .str (.list .str))) (tv) (t.1), .imm (.list tyE) (tv2) (t.2)] [11] mixed (fun lst hlst => ?_) (fun ⟨v3, r1, r2, r3, r4⟩ => ?_)
   ·subst hlst
    refine ji_take (listed' := #[true, false, false, false, false, false, false, false, false, false, false, false]) 0 rfl (by kernel_rfl) (by kernel_rfl) (by kernel_rfl) (by kernel_rfl) rfl (pr_fieldAddr 1 rfl Tryz.underlying50 rfl ty_48 rfl rfl) (fun _ h => Mem.drop1 (h)) rfl ?_
    refine ji_take (listed' := #[true, true, false, false, false, false, false, false, false, false, false, false]) 1 rfl (by kernel_rfl) (by kernel_rfl) (by kernel_rfl) (by kernel_rfl) rfl (pr_load_box (kwb) rfl ty_48 (.tail _ (.tail _ (.tail _ (.tail _ (.tail _ (.tail _ (.head _))))))) rfl (by decide) rfl) (fun _ h => Mem.drop1 (h)) rfl ?_
    refine ji_take (listed' := #[true, true, true, false, false, false, false, false, false, false, false, false]) 2 rfl (by kernel_rfl) (by kernel_rfl) (by kernel_rfl) (by kernel_rfl) rfl (pr_fieldAddr 1 rfl Tryz.underlying50 rfl ty_48 rfl rfl) (fun _ h => Mem.drop1 (h)) rfl ?_
    refine ji_take (listed' := #[true, true, true, true, false, false, false, false, false, false, false, false]) 3 rfl (by kernel_rfl) (by kernel_rfl) (by kernel_rfl) (by kernel_rfl) rfl (pr_load_box (tv2) rfl ty_48 (.tail _ (.tail _ (.tail _ (.tail _ (.tail _ (.tail _ (.tail _ (.tail _ (.head _))))))))) rfl (by decide) rfl) (fun _ h => Mem.drop1 (h)) rfl ?_
    refine ji_take (listed' := #[true, true, true, true, true, false, false, false, false, false, false, false]) 4 rfl (by kernel_rfl) (by kernel_rfl) (by kernel_rfl) (by kernel_rfl) rfl (pr_move rfl) (fun _ h => Mem.drop1 (h)) rfl ?_
    refine ji_take (listed' := #[true, true, true, true, true, true, false, false, false, false, false, false]) 5 rfl (by kernel_rfl) (by kernel_rfl) (by kernel_rfl) (by kernel_rfl) rfl (pr_idx_imm (i := ib) rfl (.tail _ (.tail _ (.tail _ (.tail _ (.tail _ (.tail _ (.tail _ (.tail _ (.tail _ (.tail _ (.head _))))))))))) rfl Tryz.underlying48 ty_40 (by omega)) (fun _ h => Mem.drop1 (h)) rfl ?_
    refine ji_take (listed' := #[true, true, true, true, true, true, true, false, false, false, false, false]) 6 rfl (by kernel_rfl) (by kernel_rfl) (by kernel_rfl) (by kernel_rfl) rfl (pr_load_at (.agg #[e2, e3, e4, str ((((((t.2.getD ib ([],[],[],[],[],[],0,0))).2).2).2).1), e5, str ((((((((t.2.getD ib ([],[],[],[],[],[],0,0))).2).2).2).2).2).1), .int .i64 (((((((((t.2.getD ib ([],[],[],[],[],[],0,0))).2).2).2).2).2).2).1), .int .i64 (((((((((t.2.getD ib ([],[],[],[],[],[],0,0))).2).2).2).2).2).2).2)]) rfl (.tail _ (.tail _ (.tail _ (.tail _ (.head _))))) ty_40 (by decide) rfl) (fun _ h => Mem.drop1 (h)) rfl ?_
    refine ji_all [7] (by kernel_rfl) (by simp) (fun i hi => ?_)
    simp only [List.mem_cons, List.not_mem_nil, or_false] at hi
    subst hi
    ·refine jh_op rfl ?_
     have con1 := c_ref26_OwnEntry ((t.2.getD ib ([],[],[],[],[],[],0,0))) e2 e3 e4 e5 (by first | omega | exact ht.ents _ (getD_mem h2))
     refine jo_callp cal_46 con1 (by exact ⟨rfl, trivial⟩) rfl (by exact ⟨⟨rfl, .tail _ (.head _)⟩, ⟨⟨rfl, .tail _ (.tail _ (.head _))⟩, ⟨⟨rfl, .tail _ (.tail _ (.tail _ (.head _)))⟩, ⟨⟨rfl, .tail _ (.tail _ (.tail _ (.tail _ (.head _))))⟩, trivial⟩⟩⟩⟩) (fun ⟨r1, r2, r3, r4⟩ => ?_)
     clear con1
     refine ji_in (listed' := #[true, true, true, true, true, true, true, true, false, false, false, false]) (fun _ h => Mem.drop1 (Mem.drop1 (Mem.drop1 (Mem.drop1 (Mem.drop1 (h)))))) rfl ?_
     refine ji_all [8] (by kernel_rfl) (by simp) (fun i hi => ?_)
     simp only [List.mem_cons, List.not_mem_nil, or_false] at hi
     subst hi
     ·refine jh_op rfl ?_
      refine jo_buildSliceL (t := tyE) [((t.2.getD ib ([],[],[],[],[],[],0,0)))] [.agg #[r1, r2, r3, str (((t.2.getD ib ([],[],[],[],[],[],0,0))).2.2.2.1), r4, str (((t.2.getD ib ([],[],[],[],[],[],0,0))).2.2.2.2.2.1), .int .i64 (((t.2.getD ib ([],[],[],[],[],[],0,0))).2.2.2.2.2.2.1), .int .i64 (((t.2.getD ib ([],[],[],[],[],[],0,0))).2.2.2.2.2.2.2)]] [[r1, r2, r3, str (((t.2.getD ib ([],[],[],[],[],[],0,0))).2.2.2.1), r4, str (((t.2.getD ib ([],[],[],[],[],[],0,0))).2.2.2.2.2.1), .int .i64 (((t.2.getD ib ([],[],[],[],[],[],0,0))).2.2.2.2.2.2.1), .int .i64 (((t.2.getD ib ([],[],[],[],[],[],0,0))).2.2.2.2.2.2.2)]] (fun a hf => by simp only [List.zipIdx_cons, List.zipIdx_nil, List.map_toArray, List.map_cons, List.map_nil, hf.ev (show ev _ (.tmp 46) = some (.agg #[r1, r2, r3, str (((t.2.getD ib ([],[],[],[],[],[],0,0))).2.2.2.1), r4, str (((t.2.getD ib ([],[],[],[],[],[],0,0))).2.2.2.2.2.1), .int .i64 (((t.2.getD ib ([],[],[],[],[],[],0,0))).2.2.2.2.2.2.1), .int .i64 (((t.2.getD ib ([],[],[],[],[],[],0,0))).2.2.2.2.2.2.2)]) from rfl)] <;> rfl) rfl ⟨⟨[r1], [r2, r3, str (((t.2.getD ib ([],[],[],[],[],[],0,0))).2.2.2.1), r4, str (((t.2.getD ib ([],[],[],[],[],[],0,0))).2.2.2.2.2.1), .int .i64 (((t.2.getD ib ([],[],[],[],[],[],0,0))).2.2.2.2.2.2.1), .int .i64 (((t.2.getD ib ([],[],[],[],[],[],0,0))).2.2.2.2.2.2.2)], rfl, ⟨r1, rfl, .head _⟩, ⟨[r2], [r3, str (((t.2.getD ib ([],[],[],[],[],[],0,0))).2.2.2.1), r4, str (((t.2.getD ib ([],[],[],[],[],[],0,0))).2.2.2.2.2.1), .int .i64 (((t.2.getD ib ([],[],[],[],[],[],0,0))).2.2.2.2.2.2.1), .int .i64 (((t.2.getD ib ([],[],[],[],[],[],0,0))).2.2.2.2.2.2.2)], rfl, ⟨r2, rfl, .tail _ (.head _)⟩, ⟨[r3], [str (((t.2.getD ib ([],[],[],[],[],[],0,0))).2.2.2.1), r4, str (((t.2.getD ib ([],[],[],[],[],[],0,0))).2.2.2.2.2.1), .int .i64 (((t.2.getD ib ([],[],[],[],[],[],0,0))).2.2.2.2.2.2.1), .int .i64 (((t.2.getD ib ([],[],[],[],[],[],0,0))).2.2.2.2.2.2.2)], rfl, ⟨r3, rfl, .tail _ (.tail _ (.head _))⟩, ⟨[str (((t.2.getD ib ([],[],[],[],[],[],0,0))).2.2.2.1)], [r4, str (((t.2.getD ib ([],[],[],[],[],[],0,0))).2.2.2.2.2.1), .int .i64 (((t.2.getD ib ([],[],[],[],[],[],0,0))).2.2.2.2.2.2.1), .int .i64 (((t.2.getD ib ([],[],[],[],[],[],0,0))).2.2.2.2.2.2.2)], rfl, rfl, ⟨[r4], [str (((t.2.getD ib ([],[],[],[],[],[],0,0))).2.2.2.2.2.1), .int .i64 (((t.2.getD ib ([],[],[],[],[],[],0,0))).2.2.2.2.2.2.1), .int .i64 (((t.2.getD ib ([],[],[],[],[],[],0,0))).2.2.2.2.2.2.2)], rfl, ⟨r4, rfl, .tail _ (.tail _ (.tail _ (.head _)))⟩, ⟨[str (((t.2.getD ib ([],[],[],[],[],[],0,0))).2.2.2.2.2.1)], [.int .i64 (((t.2.getD ib ([],[],[],[],[],[],0,0))).2.2.2.2.2.2.1), .int .i64 (((t.2.getD ib ([],[],[],[],[],[],0,0))).2.2.2.2.2.2.2)], rfl, rfl, ⟨[.int .i64 (((t.2.getD ib ([],[],[],[],[],[],0,0))).2.2.2.2.2.2.1)], [.int .i64 (((t.2.getD ib ([],[],[],[],[],[],0,0))).2.2.2.2.2.2.2)], rfl, rfl, rfl⟩⟩⟩⟩⟩⟩⟩, trivial⟩ Tryz.underlying48 ty_40 rfl rfl rfl rfl (fun g2 => ?_)
      refine ji_in (listed' := #[true, true, true, true, true, true, true, true, true, false, false, false]) (fun _ h => Mem.drop1 (Mem.drop1 (Mem.drop1 (Mem.drop1 (Mem.drop1 (Mem.drop1 (h))))))) rfl ?_
      refine ji_all [9] (by kernel_rfl) (by simp) (fun i hi => ?_)
      simp only [List.mem_cons, List.not_mem_nil, or_false] at hi
      subst hi
      ·refine jh_op rfl ?_
       refine j_pull5 ?_
       refine jo_append rfl rfl Tryz.underlying48 ty_40 rfl (by simp only [List.length_append, List.length_cons, List.length_nil, maxLen]; omega) (by simp only [List.length_append, List.length_cons, List.length_nil]; omega) rfl (fun v3 => ?_)
       refine ji_in (listed' := #[true, true, true, true, true, true, true, true, true, true, false, false]) (fun _ h => Mem.drop1 (Mem.drop1 (Mem.drop1 (Mem.drop1 (Mem.drop1 (h)))))) rfl ?_
       refine ji_take (listed' := #[true, true, true, true, true, true, true, true, true, true, true, false]) 10 rfl (by kernel_rfl) (by kernel_rfl) (by kernel_rfl) (by kernel_rfl) rfl (pr_fieldAddr 1 rfl Tryz.underlying50 rfl ty_48 rfl rfl) (fun _ h => Mem.drop1 (Mem.drop1 (Mem.drop1 (Mem.drop1 (Mem.drop1 (h)))))) rfl ?_
       refine ji_all [11] (by kernel_rfl) (by simp) (fun i hi => ?_)
       simp only [List.mem_cons, List.not_mem_nil, or_false] at hi
       subst hi
       ·refine jh_op rfl ?_
        refine j_pull11 ?_
        refine jo_storeV rfl rfl ty_48 [v3] (fun w I m hs => (SliceV.cells (row_slice (.tail _ (.head _)) hs))) rfl (fun w I m hs => by simp only [List.all_cons, List.all_nil, Bool.and_true, Bool.and_eq_true]; exact (SliceV.one (row_slice (.tail _ (.head _)) hs))) [kwa, v3] rfl rfl ?_
        refine ji_in2 (listed' := #[true, true, true, true, true, true, true, true, true, true, true, true]) (by kernel_rfl) rfl ?_
        refine j_pull15 ?_
        refine j_pull15 ?_
        refine j_pull15 ?_
        refine j_pull15 ?_
        refine j_pull15 ?_
        refine j_pull15 ?_
        refine j_pull15 ?_
        refine j_pull15 ?_
        refine j_pull15 ?_
        refine j_pull15 ?_
        refine j_pull15 ?_
        refine j_pull15 ?_
        refine j_pull15 ?_
        refine j_pull15 ?_
        refine j_pull15 ?_
        refine j_pull15 ?_
        show JI _ _ _ _ _ _ _ _ _
        exact ji_done ⟨v3, r1, r2, r3, r4⟩ (by kernel_rfl) ⟨rfl, rfl, rfl, rfl, trivial⟩ (fun _ h => h)
   ·skip
    refine jq_in_normal (jq_then (jc_region (jo_pure rfl (pr_move rfl) (jo_pure rfl (pr_addN (m := ib) (n := 1) rfl rfl (by omega)) ?_))))
    refine jo_pure rfl (pr_assign rfl) (jo_nil (j_pull2 (j_drop (j_pull2 (j_drop (j_pull2 (j_drop (j_pull2 (j_drop (j_pull2 (j_drop (j_pull2 (j_drop (j_pull2 (j_drop (j_pull2 (j_drop (j_pull2 (j_drop (j_pull6 ?_))))))))))))))))))))
    refine j_pull6 ?_
    refine j_pull6 ?_
    refine j_pull6 ?_
    refine j_pull4 ?_
    refine j_pull6 ?_
    refine j_pull6 ?_
    refine jq_round' ((ib + 1), v3, (accb ++ [((t.2.getD ib ([],[],[],[],[],[],0,0)))])) (by (try dsimp only); exact (⟨by omega, by rw [take_next (dd := ([],[],[],[],[],[],0,0)) h2, hin2.2]⟩)) (by (try dsimp only); exact (by omega)) ⟨rfl, rfl, rfl, rfl, trivial⟩ (fun _ h => h)
  ·have h2 := of_decide_eq_false h2b
   refine jc_exit ?_
   refine jq_then_exit ?_
   refine jq_then_exit ?_
   refine jq_in_hit ?_
   refine jq_then (jc_seq (jc_region (jo_pure rfl (pr_load_box (.agg #[kwa, kwb]) rfl ty_50 (.tail _ (.tail _ (.head _))) rfl (by decide) rfl) ?_)))
   refine j_pull3 (jo_storeV rfl rfl ty_50 [kwa, kwb] (fun _ _ _ _ => rfl) rfl (fun w I m hs => by simp only [List.all_cons, List.all_nil, Bool.and_true, Bool.and_eq_true]; exact ⟨(SliceV.one (row_slice (.tail _ (.tail _ (.head _))) hs)), (SliceV.one (row_slice (.tail _ (.head _)) hs))⟩) [kwa, kwb] rfl rfl ?_)
   refine jo_nil (jq_then (jc_ret (j_pull2 (j_pub_row (j_pull2 (j_pub_row (j_pull3 (j_drop (j_pull3 (j_drop (j_pull3 (j_drop (j_pull3 (j_drop (j_pull2 (j_pull1 (j_pull2 ?_)))))))))))))))))
   exact jq_retc rfl (kwa, kwb) (resV_box (.agg #[kwa, kwb]) rfl ty_50 (.tail _ (.tail _ (.head _))) rfl (by decide) rfl) (show (.agg #[kwa, kwb] : Value) = (.agg #[kwa, kwb]) from rfl) (fun w h => (fun h => by rw [hinv.2, hin2.2, List.take_of_length_le (by omega), List.take_of_length_le (by omega)] at h; exact h) (Mem.front (As := [.imm (.list (.pair .str (.list .str))) (kwa) (acca), .imm (.list tyE) (kwb) (accb)]) h))

theorem c_law28_awake   : Con Tryz.prog 11 #[] [] (fun _ : Unit => .bool (true)) (fun _ => []) := by
 refine con_of_J (args := []) (n := 51) Tryz.func11 rfl (Nat.le_of_ble_eq_true rfl) rfl (fun w0 I0 m0 => ?_)
 refine jc_seq (jc_region (jo_pure rfl (pr_assign rfl) (jo_nil (jq_then (jc_seq (jc_region ?_))))))
 refine jo_callp cal_9 (c_store_New 250 5 5 (by decide) (by decide) (by decide)) ⟨rfl, rfl, rfl, trivial⟩ rfl (trivial) (fun ⟨nb1, nm1⟩ => ?_)
 refine jo_pure rfl (pr_move rfl) (jo_pure rfl (pr_extract rfl rfl) (jo_pure rfl (pr_extract rfl rfl) (jo_pure rfl (pr_assign rfl) (jo_pure rfl (pr_assign rfl) (jo_nil (jq_then (jc_seq (jc_seq (j_pull1 (j_pull1 (j_nil_row 9 .str ?_)))))))))))
 refine jc_region (jo_pure rfl (pr_move rfl) (jo_pure rfl (pr_neqN (m := 0) (n := 0) rfl rfl) ?_))
 refine jo_pure rfl (pr_move rfl) (jo_gpure (j := 2) (want := false) rfl rfl rfl rfl (fun hg=>pr_move rfl) (jo_gpure (j := 2) (want := false) rfl rfl rfl rfl (fun hg=>pr_eql_ptrnil (evg rfl hg) rfl Tryz.underlying22) ?_))
 refine jo_pure rfl (pr_pick_or rfl rfl rfl) ?_
 refine jo_nil (jq_then (jc_false rfl (by decide) ?_))
 refine jc_skip (jq_then (jc_seq (jc_region (jo_pure rfl (pr_build [] [.slice none 0 0, .slice none 0 0, .slice none 0 0, str ([]), .slice none 0 0, str ([]), .int .i64 ((0 : Nat) : Int), .int .i64 ((0 : Nat) : Int)] (fun a hf => by simp) (by kernel_rfl)) ?_))))
 refine jo_alloc ty_40 [.slice none 0 0, .slice none 0 0, .slice none 0 0, str ([]), .slice none 0 0, str ([]), .int .i64 ((0 : Nat) : Int), .int .i64 ((0 : Nat) : Int)] rfl rfl (fun b1 => ?_)
 refine jo_store rfl rfl ty_40 [.slice none 0 0, .slice none 0 0, .slice none 0 0, str ([]), .slice none 0 0, str ([]), .int .i64 ((0 : Nat) : Int), .int .i64 ((0 : Nat) : Int)] rfl rfl rfl [.slice none 0 0, .slice none 0 0, .slice none 0 0, str ([]), .slice none 0 0, str ([]), .int .i64 ((0 : Nat) : Int), .int .i64 ((0 : Nat) : Int)] rfl rfl ?_
 refine jo_nil (jq_then (jc_seq (j_pull3 (j_pull3 (j_pull3 ?_)))))
 refine jc_held (fun (r2 : Value) => [(1, .pointer (some ⟨nb1, 0, none⟩)), (3, .pointer (some ⟨b1, 0, none⟩)), (4, .bool (fitsB 250 ([], ([], ([], ([], ([], ([], (((0 : Nat) : Int), ((0 : Nat) : Int)))))))) [])), (5, .bool (fitsB 250 ([], ([], ([], ([], ([], ([], (((0 : Nat) : Int), ((0 : Nat) : Int)))))))) []))]) (fun r2 => [.mpt nm1 tyT (putA 250 5 5 (putA 250 5 5 noA [97] ([], ([], ([], ([], ([], ([], (((0 : Nat) : Int), ((0 : Nat) : Int)))))))) []) [98] ([], ([], ([], ([], ([], ([], (((0 : Nat) : Int), ((0 : Nat) : Int)))))))) []), .box nb1 68 [.int .i64 ((250 : Nat) : Int), .int .i64 ((5 : Nat) : Int), .int .i64 ((5 : Nat) : Int), .int .i64 ((totA (putA 250 5 5 (putA 250 5 5 noA [97] ([], ([], ([], ([], ([], ([], (((0 : Nat) : Int), ((0 : Nat) : Int)))))))) []) [98] ([], ([], ([], ([], ([], ([], (((0 : Nat) : Int), ((0 : Nat) : Int)))))))) []) : Nat) : Int), r2, .map (some nm1)], .row (r2) 9 .str (keysA (putA 250 5 5 (putA 250 5 5 noA [97] ([], ([], ([], ([], ([], ([], (((0 : Nat) : Int), ((0 : Nat) : Int)))))))) []) [98] ([], ([], ([], ([], ([], ([], (((0 : Nat) : Int), ((0 : Nat) : Int)))))))) [])), .box b1 40 [.slice none 0 0, .slice none 0 0, .slice none 0 0, str ([]), .slice none 0 0, str ([]), .int .i64 ((0 : Nat) : Int), .int .i64 ((0 : Nat) : Int)]]) [.box b1 40 [.slice none 0 0, .slice none 0 0, .slice none 0 0, str ([]), .slice none 0 0, str ([]), .int .i64 ((0 : Nat) : Int), .int .i64 ((0 : Nat) : Int)]] mixed (fun lst hlst => ?_) (fun r2 => ?_)
 ·subst hlst
  refine jh_take (listed' := #[true, false, false, false, false, false, false, false]) 0 rfl (by kernel_rfl) (by kernel_rfl) (by kernel_rfl) rfl (pr_move rfl) (fun _ h => Mem.drop1 (Mem.drop1 (Mem.drop1 (h)))) rfl ?_
  refine jh_take (listed' := #[true, true, false, false, false, false, false, false]) 1 rfl (by kernel_rfl) (by kernel_rfl) (by kernel_rfl) rfl (pr_load_box (.agg #[.slice none 0 0, .slice none 0 0, .slice none 0 0, str ([]), .slice none 0 0, str ([]), .int .i64 ((0 : Nat) : Int), .int .i64 ((0 : Nat) : Int)]) rfl ty_40 (.head _) rfl (by decide) rfl) (fun _ h => Mem.drop1 (Mem.drop1 (Mem.drop1 (h)))) rfl ?_
  refine jh_take (listed' := #[true, true, false, true, false, false, false, false]) 3 rfl (by kernel_rfl) (by kernel_rfl) (by kernel_rfl) rfl (pr_move rfl) (fun _ h => Mem.drop1 (Mem.drop1 (Mem.drop1 (h)))) rfl ?_
  refine jh_take (listed' := #[true, true, false, true, true, false, false, false]) 4 rfl (by kernel_rfl) (by kernel_rfl) (by kernel_rfl) rfl (pr_load_box (.agg #[.slice none 0 0, .slice none 0 0, .slice none 0 0, str ([]), .slice none 0 0, str ([]), .int .i64 ((0 : Nat) : Int), .int .i64 ((0 : Nat) : Int)]) rfl ty_40 (.head _) rfl (by decide) rfl) (fun _ h => Mem.drop1 (Mem.drop1 (Mem.drop1 (h)))) rfl ?_
  refine jh_all [2] (by kernel_rfl) (by simp) (fun i hi => ?_)
  simp only [List.mem_cons, List.not_mem_nil, or_false] at hi
  subst hi
  ·refine jh_op rfl ?_
   refine j_nil_imm (.list .str) ?_
   refine j_nil_imm .str ?_
   refine j_nil_imm (.pair .str .str) ?_
   refine j_nil_imm (.pair .str (.list .str)) ?_
   refine j_pull3 (j_dup rfl ?_)
   refine j_pull4 ?_
   refine j_dup rfl ?_
   refine j_pull1 (j_dup rfl ?_)
   refine j_pull6 ?_
   refine j_dup rfl ?_
   refine j_pull7 ?_
   refine j_dup rfl ?_
   refine j_pull2 (j_pull4 ?_)
   refine j_pull6 ?_
   refine j_pull7 ?_
   refine j_pull11 ?_
   refine j_pull10 ?_
   refine j_pull11 ?_
   refine jo_callm [.imm (.list (.pair .str (.list .str))) (.slice none 0 0) ([]), .imm (.list (.pair .str .str)) (.slice none 0 0) ([]), .imm (.list .str) (.slice none 0 0) ([]), .imm (.list (.list .str)) (.slice none 0 0) ([]), .box b1 40 [.slice none 0 0, .slice none 0 0, .slice none 0 0, str ([]), .slice none 0 0, str ([]), .int .i64 ((0 : Nat) : Int), .int .i64 ((0 : Nat) : Int)]] rfl cal_21 (c_store_Put nb1 nm1 250 5 5 (.slice none 0 0) noA [97] ([], ([], ([], ([], ([], ([], (((0 : Nat) : Int), ((0 : Nat) : Int)))))))) (.slice none 0 0) (.slice none 0 0) (.slice none 0 0) (.slice none 0 0) [] (.slice none 0 0) (StoA.inv (by repeat (first | exact sto_noA | refine sto_put aw_lim ?_ aw_ent okA_nil | refine sto_touch ?_))) (StoA.ok (B := 250) (V := 5) (T := 5) (by repeat (first | exact sto_noA | refine sto_put aw_lim ?_ aw_ent okA_nil | refine sto_touch ?_))) (by decide) (by decide) (by decide) (aw_ent) (okA_nil)) ⟨rfl, rfl, rfl, rfl, trivial⟩ rfl (fun r1 => ?_)
   refine jh_in (listed' := #[true, true, true, true, true, false, false, false]) (fun _ h => Mem.drop1 (Mem.drop1 (Mem.drop1 (Mem.drop1 (Mem.drop1 (Mem.drop1 (Mem.drop1 (h)))))))) rfl ?_
   refine jh_all [5] (by kernel_rfl) (by simp) (fun i hi => ?_)
   simp only [List.mem_cons, List.not_mem_nil, or_false] at hi
   subst hi
   ·refine jh_op rfl ?_
    refine j_pull6 ?_
    refine j_dup rfl ?_
    refine j_pull7 ?_
    refine j_dup rfl ?_
    refine j_pull1 (j_dup rfl ?_)
    refine j_pull9 ?_
    refine j_dup rfl ?_
    refine j_pull10 ?_
    refine j_dup rfl ?_
    refine j_pull2 (j_pull4 ?_)
    refine j_pull6 ?_
    refine j_pull7 ?_
    refine j_pull9 ?_
    refine j_pull11 ?_
    refine j_pull11 ?_
    refine jo_callm [.imm (.list (.pair .str (.list .str))) (.slice none 0 0) ([]), .imm (.list (.pair .str .str)) (.slice none 0 0) ([]), .imm (.list .str) (.slice none 0 0) ([]), .imm (.list (.list .str)) (.slice none 0 0) ([]), .box b1 40 [.slice none 0 0, .slice none 0 0, .slice none 0 0, str ([]), .slice none 0 0, str ([]), .int .i64 ((0 : Nat) : Int), .int .i64 ((0 : Nat) : Int)]] rfl cal_21 (c_store_Put nb1 nm1 250 5 5 r1 (putA 250 5 5 noA [97] ([], ([], ([], ([], ([], ([], (((0 : Nat) : Int), ((0 : Nat) : Int)))))))) []) [98] ([], ([], ([], ([], ([], ([], (((0 : Nat) : Int), ((0 : Nat) : Int)))))))) (.slice none 0 0) (.slice none 0 0) (.slice none 0 0) (.slice none 0 0) [] (.slice none 0 0) (StoA.inv (by repeat (first | exact sto_noA | refine sto_put aw_lim ?_ aw_ent okA_nil | refine sto_touch ?_))) (StoA.ok (B := 250) (V := 5) (T := 5) (by repeat (first | exact sto_noA | refine sto_put aw_lim ?_ aw_ent okA_nil | refine sto_touch ?_))) (by decide) (by decide) (by decide) (aw_ent) (okA_nil)) ⟨rfl, rfl, rfl, rfl, trivial⟩ rfl (fun r2 => ?_)
    refine jh_in (listed' := #[true, true, true, true, true, true, false, false]) (fun _ h => Mem.drop1 (Mem.drop1 (Mem.drop1 (Mem.drop1 (Mem.drop1 (Mem.drop1 (Mem.drop1 (h)))))))) rfl ?_
    refine jh_take (listed' := #[true, true, true, true, true, true, true, false]) 6 rfl (by kernel_rfl) (by kernel_rfl) (by kernel_rfl) rfl (pr_assign rfl) (fun _ h => Mem.drop1 (Mem.drop1 (Mem.drop1 (Mem.drop1 (Mem.drop1 (Mem.drop1 (Mem.drop1 (h)))))))) rfl ?_
    refine jh_take (listed' := #[true, true, true, true, true, true, true, true]) 7 rfl (by kernel_rfl) (by kernel_rfl) (by kernel_rfl) rfl (pr_assign rfl) (fun _ h => Mem.drop1 (Mem.drop1 (Mem.drop1 (Mem.drop1 (Mem.drop1 (Mem.drop1 (Mem.drop1 (h)))))))) rfl ?_
    refine j_pull3 (j_drop (j_pull3 (j_drop (j_pull3 (j_drop (j_pull3 (j_drop (j_pull3 (j_pull3 (j_pull3 (j_pull3 ?_)))))))))))
    show JH _ _ _ _ _ _ _ _
    exact jh_done r2 (by kernel_rfl) ⟨rfl, rfl, rfl, rfl, trivial⟩ (fun _ h => h)
 ·skip
  refine jq_then (jc_seq (j_pull2 (j_pull2 (j_pull2 ?_))))
  refine jc_held (fun (r4 : Value) => [(1, .pointer (some ⟨nb1, 0, none⟩)), (4, .bool (fitsB 250 ([], ([], ([], ([], ([], ([], (((0 : Nat) : Int), ((0 : Nat) : Int)))))))) [])), (5, .bool (fitsB 250 ([], ([], ([], ([], ([], ([], (((0 : Nat) : Int), ((0 : Nat) : Int)))))))) [])), (6, .bool (inA (putA 250 5 5 (putA 250 5 5 noA [97] ([], ([], ([], ([], ([], ([], (((0 : Nat) : Int), ((0 : Nat) : Int)))))))) []) [98] ([], ([], ([], ([], ([], ([], (((0 : Nat) : Int), ((0 : Nat) : Int)))))))) []) [97])), (7, .bool (fitsB 250 ([], ([], ([], ([], ([], ([], (((0 : Nat) : Int), ((0 : Nat) : Int)))))))) []))]) (fun r4 => [.mpt nm1 tyT (putA 250 5 5 (touchA (putA 250 5 5 (putA 250 5 5 noA [97] ([], ([], ([], ([], ([], ([], (((0 : Nat) : Int), ((0 : Nat) : Int)))))))) []) [98] ([], ([], ([], ([], ([], ([], (((0 : Nat) : Int), ((0 : Nat) : Int)))))))) []) [97]) [99] ([], ([], ([], ([], ([], ([], (((0 : Nat) : Int), ((0 : Nat) : Int)))))))) []), .box nb1 68 [.int .i64 ((250 : Nat) : Int), .int .i64 ((5 : Nat) : Int), .int .i64 ((5 : Nat) : Int), .int .i64 ((totA (putA 250 5 5 (touchA (putA 250 5 5 (putA 250 5 5 noA [97] ([], ([], ([], ([], ([], ([], (((0 : Nat) : Int), ((0 : Nat) : Int)))))))) []) [98] ([], ([], ([], ([], ([], ([], (((0 : Nat) : Int), ((0 : Nat) : Int)))))))) []) [97]) [99] ([], ([], ([], ([], ([], ([], (((0 : Nat) : Int), ((0 : Nat) : Int)))))))) []) : Nat) : Int), r4, .map (some nm1)], .row (r4) 9 .str (keysA (putA 250 5 5 (touchA (putA 250 5 5 (putA 250 5 5 noA [97] ([], ([], ([], ([], ([], ([], (((0 : Nat) : Int), ((0 : Nat) : Int)))))))) []) [98] ([], ([], ([], ([], ([], ([], (((0 : Nat) : Int), ((0 : Nat) : Int)))))))) []) [97]) [99] ([], ([], ([], ([], ([], ([], (((0 : Nat) : Int), ((0 : Nat) : Int)))))))) [])), .box b1 40 [.slice none 0 0, .slice none 0 0, .slice none 0 0, str ([]), .slice none 0 0, str ([]), .int .i64 ((0 : Nat) : Int), .int .i64 ((0 : Nat) : Int)]]) [.box b1 40 [.slice none 0 0, .slice none 0 0, .slice none 0 0, str ([]), .slice none 0 0, str ([]), .int .i64 ((0 : Nat) : Int), .int .i64 ((0 : Nat) : Int)]] mixed (fun lst hlst => ?_) (fun r4 => ?_)
  ·subst hlst
   refine jh_take (listed' := #[true, false, false, false, false, false, false]) 0 rfl (by kernel_rfl) (by kernel_rfl) (by kernel_rfl) rfl (pr_move rfl) (fun _ h => Mem.drop1 (Mem.drop1 (Mem.drop1 (h)))) rfl ?_
   refine jh_take (listed' := #[true, false, true, false, false, false, false]) 2 rfl (by kernel_rfl) (by kernel_rfl) (by kernel_rfl) rfl (pr_move rfl) (fun _ h => Mem.drop1 (Mem.drop1 (Mem.drop1 (h)))) rfl ?_
   refine jh_take (listed' := #[true, false, true, true, false, false, false]) 3 rfl (by kernel_rfl) (by kernel_rfl) (by kernel_rfl) rfl (pr_load_box (.agg #[.slice none 0 0, .slice none 0 0, .slice none 0 0, str ([]), .slice none 0 0, str ([]), .int .i64 ((0 : Nat) : Int), .int .i64 ((0 : Nat) : Int)]) rfl ty_40 (.head _) rfl (by decide) rfl) (fun _ h => Mem.drop1 (Mem.drop1 (Mem.drop1 (h)))) rfl ?_
   refine jh_all [1] (by kernel_rfl) (by simp) (fun i hi => ?_)
   simp only [List.mem_cons, List.not_mem_nil, or_false] at hi
   subst hi
   ·refine jh_op rfl ?_
    refine j_pull2 (j_pull2 ?_)
    refine jo_callm [.box b1 40 [.slice none 0 0, .slice none 0 0, .slice none 0 0, str ([]), .slice none 0 0, str ([]), .int .i64 ((0 : Nat) : Int), .int .i64 ((0 : Nat) : Int)]] rfl cal_30 (c_store_Touch nb1 nm1 250 5 5 r2 (putA 250 5 5 (putA 250 5 5 noA [97] ([], ([], ([], ([], ([], ([], (((0 : Nat) : Int), ((0 : Nat) : Int)))))))) []) [98] ([], ([], ([], ([], ([], ([], (((0 : Nat) : Int), ((0 : Nat) : Int)))))))) []) [97]  (Nat.le_trans (StoA.len aw_lim (by repeat (first | exact sto_noA | refine sto_put aw_lim ?_ aw_ent okA_nil | refine sto_touch ?_))).2 (by decide))) ⟨rfl, rfl, trivial⟩ rfl (fun r3 => ?_)
    refine jh_in (listed' := #[true, true, true, true, false, false, false]) (fun _ h => Mem.drop1 (Mem.drop1 (Mem.drop1 (h)))) rfl ?_
    refine jh_all [4] (by kernel_rfl) (by simp) (fun i hi => ?_)
    simp only [List.mem_cons, List.not_mem_nil, or_false] at hi
    subst hi
    ·refine jh_op rfl ?_
     refine j_nil_imm (.list .str) ?_
     refine j_nil_imm .str ?_
     refine j_nil_imm (.pair .str .str) ?_
     refine j_nil_imm (.pair .str (.list .str)) ?_
     refine j_pull3 (j_dup rfl ?_)
     refine j_pull4 ?_
     refine j_dup rfl ?_
     refine j_pull1 (j_dup rfl ?_)
     refine j_pull6 ?_
     refine j_dup rfl ?_
     refine j_pull7 ?_
     refine j_dup rfl ?_
     refine j_pull2 (j_pull4 ?_)
     refine j_pull6 ?_
     refine j_pull7 ?_
     refine j_pull9 ?_
     refine j_pull11 ?_
     refine j_pull11 ?_
     refine jo_callm [.imm (.list (.pair .str (.list .str))) (.slice none 0 0) ([]), .imm (.list (.pair .str .str)) (.slice none 0 0) ([]), .imm (.list .str) (.slice none 0 0) ([]), .imm (.list (.list .str)) (.slice none 0 0) ([]), .box b1 40 [.slice none 0 0, .slice none 0 0, .slice none 0 0, str ([]), .slice none 0 0, str ([]), .int .i64 ((0 : Nat) : Int), .int .i64 ((0 : Nat) : Int)]] rfl cal_21 (c_store_Put nb1 nm1 250 5 5 r3 (touchA (putA 250 5 5 (putA 250 5 5 noA [97] ([], ([], ([], ([], ([], ([], (((0 : Nat) : Int), ((0 : Nat) : Int)))))))) []) [98] ([], ([], ([], ([], ([], ([], (((0 : Nat) : Int), ((0 : Nat) : Int)))))))) []) [97]) [99] ([], ([], ([], ([], ([], ([], (((0 : Nat) : Int), ((0 : Nat) : Int)))))))) (.slice none 0 0) (.slice none 0 0) (.slice none 0 0) (.slice none 0 0) [] (.slice none 0 0) (StoA.inv (by repeat (first | exact sto_noA | refine sto_put aw_lim ?_ aw_ent okA_nil | refine sto_touch ?_))) (StoA.ok (B := 250) (V := 5) (T := 5) (by repeat (first | exact sto_noA | refine sto_put aw_lim ?_ aw_ent okA_nil | refine sto_touch ?_))) (by decide) (by decide) (by decide) (aw_ent) (okA_nil)) ⟨rfl, rfl, rfl, rfl, trivial⟩ rfl (fun r4 => ?_)
     refine jh_in (listed' := #[true, true, true, true, true, false, false]) (fun _ h => Mem.drop1 (Mem.drop1 (Mem.drop1 (Mem.drop1 (Mem.drop1 (Mem.drop1 (Mem.drop1 (h)))))))) rfl ?_
     refine jh_take (listed' := #[true, true, true, true, true, true, false]) 5 rfl (by kernel_rfl) (by kernel_rfl) (by kernel_rfl) rfl (pr_assign rfl) (fun _ h => Mem.drop1 (Mem.drop1 (Mem.drop1 (Mem.drop1 (Mem.drop1 (Mem.drop1 (Mem.drop1 (h)))))))) rfl ?_
     refine jh_take (listed' := #[true, true, true, true, true, true, true]) 6 rfl (by kernel_rfl) (by kernel_rfl) (by kernel_rfl) rfl (pr_assign rfl) (fun _ h => Mem.drop1 (Mem.drop1 (Mem.drop1 (Mem.drop1 (Mem.drop1 (Mem.drop1 (Mem.drop1 (h)))))))) rfl ?_
     refine j_pull3 (j_drop (j_pull3 (j_drop (j_pull3 (j_drop (j_pull3 (j_drop (j_pull3 (j_pull3 (j_pull3 (j_pull3 ?_)))))))))))
     show JH _ _ _ _ _ _ _ _
     exact jh_done r4 (by kernel_rfl) ⟨rfl, rfl, rfl, rfl, rfl, trivial⟩ (fun _ h => h)
  ·skip
   refine jq_then (jc_seq (jc_region (jo_pure rfl (pr_move rfl) (jo_pure rfl (pr_move rfl) ?_))))
   have ht1 : (fitsB 250 ([], ([], ([], ([], ([], ([], (((0 : Nat) : Int), ((0 : Nat) : Int)))))))) []) = true := by decide +kernel
   refine jo_run (j := 1) (want := true) rfl rfl (ht1) ?_
   refine jo_pure rfl (pr_move rfl) (jo_pure rfl (pr_pick_t rfl (ht1) rfl) ?_)
   refine jo_pure rfl (pr_move rfl) (jo_run (j := 4) (want := true) rfl rfl (ht1) ?_)
   refine jo_pure rfl (pr_move rfl) (jo_pure rfl (pr_pick_t rfl (ht1) rfl) ?_)
   refine jo_pure rfl (pr_move rfl) ?_
   have ht2 : (inA (putA 250 5 5 (putA 250 5 5 noA [97] ([], ([], ([], ([], ([], ([], (((0 : Nat) : Int), ((0 : Nat) : Int)))))))) []) [98] ([], ([], ([], ([], ([], ([], (((0 : Nat) : Int), ((0 : Nat) : Int)))))))) []) [97]) = true := by decide +kernel
   refine jo_run (j := 7) (want := true) rfl rfl (ht2) ?_
   refine jo_pure rfl (pr_move rfl) (jo_pure rfl (pr_pick_t rfl (ht2) rfl) ?_)
   refine jo_pure rfl (pr_move rfl) (jo_run (j := 10) (want := true) rfl rfl (ht1) ?_)
   refine jo_pure rfl (pr_move rfl) (jo_run (j := 10) (want := true) rfl rfl (ht1) ?_)
   refine j_pull2 (j_pull2 ?_)
   refine jo_callm [.mpt nm1 tyT (putA 250 5 5 (touchA (putA 250 5 5 (putA 250 5 5 noA [97] ([], ([], ([], ([], ([], ([], (((0 : Nat) : Int), ((0 : Nat) : Int)))))))) []) [98] ([], ([], ([], ([], ([], ([], (((0 : Nat) : Int), ((0 : Nat) : Int)))))))) []) [97]) [99] ([], ([], ([], ([], ([], ([], (((0 : Nat) : Int), ((0 : Nat) : Int)))))))) []), .box b1 40 [.slice none 0 0, .slice none 0 0, .slice none 0 0, str ([]), .slice none 0 0, str ([]), .int .i64 ((0 : Nat) : Int), .int .i64 ((0 : Nat) : Int)]] rfl cal_12 (c_store_Keys nb1 nm1 250 5 5 (totA (putA 250 5 5 (touchA (putA 250 5 5 (putA 250 5 5 noA [97] ([], ([], ([], ([], ([], ([], (((0 : Nat) : Int), ((0 : Nat) : Int)))))))) []) [98] ([], ([], ([], ([], ([], ([], (((0 : Nat) : Int), ((0 : Nat) : Int)))))))) []) [97]) [99] ([], ([], ([], ([], ([], ([], (((0 : Nat) : Int), ((0 : Nat) : Int)))))))) [])) r4 (keysA (putA 250 5 5 (touchA (putA 250 5 5 (putA 250 5 5 noA [97] ([], ([], ([], ([], ([], ([], (((0 : Nat) : Int), ((0 : Nat) : Int)))))))) []) [98] ([], ([], ([], ([], ([], ([], (((0 : Nat) : Int), ((0 : Nat) : Int)))))))) []) [97]) [99] ([], ([], ([], ([], ([], ([], (((0 : Nat) : Int), ((0 : Nat) : Int)))))))) [])) (by rw [len_keys]; exact Nat.le_trans (StoA.len aw_lim (by repeat (first | exact sto_noA | refine sto_put aw_lim ?_ aw_ent okA_nil | refine sto_touch ?_))).2 (by decide))) ⟨rfl, trivial⟩ rfl (fun r5 => ?_)
   refine jo_run (j := 10) (want := true) rfl rfl (ht1) ?_
   refine jo_buildSlice (t := .str) [[97], [99]] [str ([97]), str ([99])] (fun a hf => by simp only [List.zipIdx_cons, List.zipIdx_nil, List.map_toArray, List.map_cons, List.map_nil] <;> rfl) rfl Tryz.underlying28 ty_9 rfl rfl rfl rfl rfl (fun g1 => ?_)
   refine jo_run (j := 10) (want := true) rfl rfl (ht1) ?_
   refine j_pull1 (j_pub_row (j_pull1 (j_pub_rowg ?_)))
   refine jo_callp cal_25 (c_keep_SameStrings (keysA (putA 250 5 5 (touchA (putA 250 5 5 (putA 250 5 5 noA [97] ([], ([], ([], ([], ([], ([], (((0 : Nat) : Int), ((0 : Nat) : Int)))))))) []) [98] ([], ([], ([], ([], ([], ([], (((0 : Nat) : Int), ((0 : Nat) : Int)))))))) []) [97]) [99] ([], ([], ([], ([], ([], ([], (((0 : Nat) : Int), ((0 : Nat) : Int)))))))) [])) r5 [[97], [99]] (.slice (some ⟨g1, 0, none⟩) ([[97], [99]]).length (([[97], [99]]).length)) (by rw [len_keys]; exact Nat.le_trans (StoA.len aw_lim (by repeat (first | exact sto_noA | refine sto_put aw_lim ?_ aw_ent okA_nil | refine sto_touch ?_))).2 (by decide))) ⟨rfl, rfl, trivial⟩ rfl (⟨⟨rfl, .tail _ (.head _)⟩, ⟨⟨rfl, .head _⟩, trivial⟩⟩) (fun _ => ?_)
   refine jo_pure rfl (pr_pick_t rfl (ht1) rfl) ?_
   refine jo_pure rfl (pr_move rfl) ?_
   have ht3 : (decide ((keysA (putA 250 5 5 (touchA (putA 250 5 5 (putA 250 5 5 noA [97] ([], ([], ([], ([], ([], ([], (((0 : Nat) : Int), ((0 : Nat) : Int)))))))) []) [98] ([], ([], ([], ([], ([], ([], (((0 : Nat) : Int), ((0 : Nat) : Int)))))))) []) [97]) [99] ([], ([], ([], ([], ([], ([], (((0 : Nat) : Int), ((0 : Nat) : Int)))))))) [])) = [[97], [99]])) = true := by decide +kernel
   refine jo_run (j := 16) (want := true) rfl rfl (ht3) ?_
   refine jo_pure rfl (pr_move rfl) (jo_run (j := 16) (want := true) rfl rfl (ht3) ?_)
   refine jo_callq cal_13 (c_store_Bytes nb1 nm1 250 5 5 (totA (putA 250 5 5 (touchA (putA 250 5 5 (putA 250 5 5 noA [97] ([], ([], ([], ([], ([], ([], (((0 : Nat) : Int), ((0 : Nat) : Int)))))))) []) [98] ([], ([], ([], ([], ([], ([], (((0 : Nat) : Int), ((0 : Nat) : Int)))))))) []) [97]) [99] ([], ([], ([], ([], ([], ([], (((0 : Nat) : Int), ((0 : Nat) : Int)))))))) [])) r4) ⟨rfl, trivial⟩ rfl (⟨peek_box (.tail _ (.tail _ (.head _))), trivial⟩) (fun _ => ?_)
   refine jo_run (j := 16) (want := true) rfl rfl (ht3) ?_
   refine jo_pure rfl (pr_eqlN (m := totA (putA 250 5 5 (touchA (putA 250 5 5 (putA 250 5 5 noA [97] ([], ([], ([], ([], ([], ([], (((0 : Nat) : Int), ((0 : Nat) : Int)))))))) []) [98] ([], ([], ([], ([], ([], ([], (((0 : Nat) : Int), ((0 : Nat) : Int)))))))) []) [97]) [99] ([], ([], ([], ([], ([], ([], (((0 : Nat) : Int), ((0 : Nat) : Int)))))))) [])) (n := 200) rfl rfl) ?_
   refine jo_pure rfl (pr_pick_t rfl (ht3) rfl) ?_
   refine jo_pure rfl (pr_assign rfl) (jo_nil (jq_then (jc_ret (j_drop (j_drop (j_drop (j_drop (j_drop (j_drop ?_)))))))))
   exact jq_ret1 rfl () rfl (show (.bool (true) : Value) = (.bool (decide ((totA (putA 250 5 5 (touchA (putA 250 5 5 (putA 250 5 5 noA [97] ([], ([], ([], ([], ([], ([], (((0 : Nat) : Int), ((0 : Nat) : Int)))))))) []) [98] ([], ([], ([], ([], ([], ([], (((0 : Nat) : Int), ((0 : Nat) : Int)))))))) []) [97]) [99] ([], ([], ([], ([], ([], ([], (((0 : Nat) : Int), ((0 : Nat) : Int)))))))) []) : Nat) = 200))) from congrArg Value.bool (by decide +kernel)) (fun _ h => h)
end Go.Proofs.YtlniaacdjllonaaGreat
