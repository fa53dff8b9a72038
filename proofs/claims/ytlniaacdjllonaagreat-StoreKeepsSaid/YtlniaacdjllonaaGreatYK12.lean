/-
 Contracts of functions of the program: each returns what a plain function says, for every input within the bounds named. Conditions: the bounds.
-/
import Derived.Test.YtlniaacdjllonaaGreatRows
import Derived.Test.YtlniaacdjllonaaGreatYK11
namespace Go.Proofs.YtlniaacdjllonaaGreat
open Go Go.Sep
set_option linter.unusedSimpArgs false
set_option linter.unusedVariables false

open Go.Plain

theorem cal_9 : Cal Tryz.prog 9 := cal_of Tryz.func9 (by kernel_rfl) rfl
theorem cal_12 : Cal Tryz.prog 12 := cal_of Tryz.func12 (by kernel_rfl) rfl
theorem cal_13 : Cal Tryz.prog 13 := cal_of Tryz.func13 (by kernel_rfl) rfl
theorem cal_25 : Cal Tryz.prog 25 := cal_of Tryz.func25 (by kernel_rfl) rfl
theorem cal_26 : Cal Tryz.prog 26 := cal_of Tryz.func26 (by kernel_rfl) rfl
theorem cal_27 : Cal Tryz.prog 27 := cal_of Tryz.func27 (by kernel_rfl) rfl
theorem cal_54 : Cal Tryz.prog 54 := cal_of Tryz.func54 (by kernel_rfl) rfl
theorem cal_55 : Cal Tryz.prog 55 := cal_of Tryz.func55 (by kernel_rfl) rfl
theorem ty_2 : TyF Tryz.prog 2 false 1 8 (some (.int .i64 ((0 : Nat) : Int))) := ⟨by kernel_rfl, by kernel_rfl⟩

theorem c_ref26_Allowed (bz : Int) (vz : Int) (tz : Int)  : Con Tryz.prog 10 #[.int .i64 (bz), .int .i64 (vz), .int .i64 (tz)] [] (fun _ : Unit => .bool (allowB bz vz tz)) (fun _ => []) := by
 refine con_of_J (args := [.int .i64 (bz), .int .i64 (vz), .int .i64 (tz)]) (n := 29) Tryz.func10 rfl (Nat.le_of_ble_eq_true rfl) rfl (fun w0 I0 m0 => ?_)
 refine jc_seq (jc_region (jo_pure rfl (pr_assign rfl) (jo_nil (jq_then (jc_seq (jc_region (jo_pure rfl (pr_move rfl) (jo_pure rfl (pr_geq (n := 1) rfl rfl) ?_))))))))
 refine jo_pure rfl (pr_move rfl) (jo_gpure (j := 2) (want := true) rfl rfl rfl rfl (fun hg=>pr_move rfl) (jo_gpure (j := 2) (want := true) rfl rfl rfl rfl (fun hg=>pr_leq (n := 100000000) (evg rfl hg) rfl) ?_))
 refine jo_pure rfl (pr_pick_and rfl rfl rfl) ?_
 refine jo_pure rfl (pr_move rfl) (jo_gpure (j := 6) (want := true) rfl rfl rfl rfl (fun hg=>pr_move rfl) (jo_gpure (j := 6) (want := true) rfl rfl rfl rfl (fun hg=>pr_geq (n := 1) (evg rfl hg) rfl) ?_))
 refine jo_pure rfl (pr_pick_and rfl rfl rfl) ?_
 refine jo_pure rfl (pr_move rfl) (jo_gpure (j := 10) (want := true) rfl rfl rfl rfl (fun hg=>pr_move rfl) (jo_gpure (j := 10) (want := true) rfl rfl rfl rfl (fun hg=>pr_leq (n := 64) (evg rfl hg) rfl) ?_))
 refine jo_pure rfl (pr_pick_and rfl rfl rfl) ?_
 refine jo_pure rfl (pr_move rfl) (jo_gpure (j := 14) (want := true) rfl rfl rfl rfl (fun hg=>pr_move rfl) (jo_gpure (j := 14) (want := true) rfl rfl rfl rfl (fun hg=>pr_geq (n := 1) (evg rfl hg) rfl) ?_))
 refine jo_pure rfl (pr_pick_and rfl rfl rfl) ?_
 refine jo_pure rfl (pr_move rfl) (jo_gpure (j := 18) (want := true) rfl rfl rfl rfl (fun hg=>pr_move rfl) (jo_gpure (j := 18) (want := true) rfl rfl rfl rfl (fun hg=>pr_leq (n := 1000) (evg rfl hg) rfl) ?_))
 refine jo_pure rfl (pr_pick_and rfl rfl rfl) ?_
 refine jo_pure rfl (pr_assign rfl) (jo_nil (jq_then (jc_ret ?_)))
 exact jq_ret1 rfl () rfl (show (.bool (allowB bz vz tz) : Value) = (.bool ((((((decide ((1 : Int) ≤ bz) && decide ((bz : Int) ≤ 100000000)) && decide ((1 : Int) ≤ vz)) && decide ((vz : Int) ≤ 64)) && decide ((1 : Int) ≤ tz)) && decide ((tz : Int) ≤ 1000)))) from rfl) (fun _ h => h)

theorem c_ref26_Equal (a : Ent) (av : Value) (av2 : Value) (av3 : Value) (av4 : Value) (b : Ent) (bv : Value) (bv2 : Value) (bv3 : Value) (bv4 : Value) (hak : a.1.length ≤ 9223372036854775807) (ham : ∀ k ∈ a.1, k.length ≤ 9223372036854775807) (hav : a.2.1.length ≤ 9223372036854775807) (han : a.2.2.1.length ≤ 9223372036854775807) (haf : a.2.2.2.2.1.length ≤ 9223372036854775807) : Con Tryz.prog 26 #[.agg #[av, av2, av3, str (a.2.2.2.1), av4, str (a.2.2.2.2.2.1), .int .i64 (a.2.2.2.2.2.2.1), .int .i64 (a.2.2.2.2.2.2.2)], .agg #[bv, bv2, bv3, str (b.2.2.2.1), bv4, str (b.2.2.2.2.2.1), .int .i64 (b.2.2.2.2.2.2.1), .int .i64 (b.2.2.2.2.2.2.2)]] [.imm (.list (.list .str)) (av) (a.1), .imm (.list .str) (av2) (a.2.1), .imm (.list .str) (av3) (a.2.2.1), .imm (.list (.pair .str .str)) (av4) (a.2.2.2.2.1), .imm (.list (.list .str)) (bv) (b.1), .imm (.list .str) (bv2) (b.2.1), .imm (.list .str) (bv3) (b.2.2.1), .imm (.list (.pair .str .str)) (bv4) (b.2.2.2.2.1)] (fun _ : Unit => .bool (eqE a b)) (fun _ => []) := by
 refine con_of_J (args := [.agg #[av, av2, av3, str (a.2.2.2.1), av4, str (a.2.2.2.2.2.1), .int .i64 (a.2.2.2.2.2.2.1), .int .i64 (a.2.2.2.2.2.2.2)], .agg #[bv, bv2, bv3, str (b.2.2.2.1), bv4, str (b.2.2.2.2.2.1), .int .i64 (b.2.2.2.2.2.2.1), .int .i64 (b.2.2.2.2.2.2.2)]]) (n := 59) Tryz.func26 rfl (Nat.le_of_ble_eq_true rfl) rfl (fun w0 I0 m0 => ?_)
 refine jc_seq (jc_region ?_)
 refine jo_box rfl [av, av2, av3, str (a.2.2.2.1), av4, str (a.2.2.2.2.2.1), .int .i64 (a.2.2.2.2.2.2.1), .int .i64 (a.2.2.2.2.2.2.2)] rfl rfl (fun b1 => ?_)
 refine jo_box rfl [bv, bv2, bv3, str (b.2.2.2.1), bv4, str (b.2.2.2.2.2.1), .int .i64 (b.2.2.2.2.2.2.1), .int .i64 (b.2.2.2.2.2.2.2)] rfl rfl (fun b2 => ?_)
 refine jo_pure rfl (pr_assign rfl) (jo_nil (jq_then (jc_seq (jc_region (jo_pure rfl (pr_fieldAddr 0 rfl Tryz.underlying40 rfl ty_37 rfl rfl) ?_)))))
 refine jo_pure rfl (pr_load_box (av) rfl ty_37 (.tail _ (.head _)) rfl (by decide) rfl) ?_
 refine jo_pure rfl (pr_fieldAddr 0 rfl Tryz.underlying40 rfl ty_37 rfl rfl) ?_
 refine jo_pure rfl (pr_load_box (bv) rfl ty_37 (.head _) rfl (by decide) rfl) ?_
 refine jo_callp cal_54 (c_ref26_SameKeys a.1 av b.1 bv (by assumption) (by assumption)) ⟨rfl, rfl, trivial⟩ rfl (⟨⟨rfl, .tail _ (.tail _ (.head _))⟩, ⟨⟨rfl, .tail _ (.tail _ (.tail _ (.tail _ (.tail _ (.tail _ (.head _))))))⟩, trivial⟩⟩) (fun _ => ?_)
 refine jo_pure rfl (pr_move rfl) (jo_gpure (j := 5) (want := true) rfl rfl rfl rfl (fun hg=>pr_fieldAddr 1 rfl Tryz.underlying40 rfl ty_28 rfl rfl) ?_)
 refine jo_gpure (j := 5) (want := true) rfl rfl rfl rfl (fun hg=>pr_load_box (av2) (evg rfl hg) ty_28 (.tail _ (.head _)) rfl (by decide) rfl) ?_
 refine jo_gpure (j := 5) (want := true) rfl rfl rfl rfl (fun hg=>pr_fieldAddr 1 rfl Tryz.underlying40 rfl ty_28 rfl rfl) ?_
 refine jo_gpure (j := 5) (want := true) rfl rfl rfl rfl (fun hg=>pr_load_box (bv2) (evg rfl hg) ty_28 (.head _) rfl (by decide) rfl) ?_
 refine jo_gcall (j := 5) (want := true) rfl rfl rfl cal_53 (fun hg => c_ref10_SameStrings a.2.1 av2 b.2.1 bv2 (by assumption)) (fun hg => ⟨evg rfl hg, evg rfl hg, trivial⟩) rfl (fun _ => ⟨⟨rfl, .tail _ (.tail _ (.tail _ (.head _)))⟩, ⟨⟨rfl, .tail _ (.tail _ (.tail _ (.tail _ (.tail _ (.tail _ (.tail _ (.head _)))))))⟩, trivial⟩⟩) ?_
 refine jo_pure rfl (pr_pick_and rfl rfl rfl) ?_
 refine jo_pure rfl (pr_move rfl) (jo_gpure (j := 12) (want := true) rfl rfl rfl rfl (fun hg=>pr_fieldAddr 2 rfl Tryz.underlying40 rfl ty_28 rfl rfl) ?_)
 refine jo_gpure (j := 12) (want := true) rfl rfl rfl rfl (fun hg=>pr_load_box (av3) (evg rfl hg) ty_28 (.tail _ (.head _)) rfl (by decide) rfl) ?_
 refine jo_gpure (j := 12) (want := true) rfl rfl rfl rfl (fun hg=>pr_fieldAddr 2 rfl Tryz.underlying40 rfl ty_28 rfl rfl) ?_
 refine jo_gpure (j := 12) (want := true) rfl rfl rfl rfl (fun hg=>pr_load_box (bv3) (evg rfl hg) ty_28 (.head _) rfl (by decide) rfl) ?_
 refine jo_gcall (j := 12) (want := true) rfl rfl rfl cal_53 (fun hg => c_ref10_SameStrings a.2.2.1 av3 b.2.2.1 bv3 (by assumption)) (fun hg => ⟨evg rfl hg, evg rfl hg, trivial⟩) rfl (fun _ => ⟨⟨rfl, .tail _ (.tail _ (.tail _ (.tail _ (.head _))))⟩, ⟨⟨rfl, .tail _ (.tail _ (.tail _ (.tail _ (.tail _ (.tail _ (.tail _ (.tail _ (.head _))))))))⟩, trivial⟩⟩) ?_
 refine jo_pure rfl (pr_pick_and rfl rfl rfl) ?_
 refine jo_pure rfl (pr_move rfl) (jo_gpure (j := 19) (want := true) rfl rfl rfl rfl (fun hg=>pr_fieldAddr 3 rfl Tryz.underlying40 rfl ty_9 rfl rfl) ?_)
 refine jo_gpure (j := 19) (want := true) rfl rfl rfl rfl (fun hg=>pr_load_box (str (a.2.2.2.1)) (evg rfl hg) ty_9 (.tail _ (.head _)) rfl (by decide) rfl) ?_
 refine jo_gpure (j := 19) (want := true) rfl rfl rfl rfl (fun hg=>pr_fieldAddr 3 rfl Tryz.underlying40 rfl ty_9 rfl rfl) ?_
 refine jo_gpure (j := 19) (want := true) rfl rfl rfl rfl (fun hg=>pr_load_box (str (b.2.2.2.1)) (evg rfl hg) ty_9 (.head _) rfl (by decide) rfl) ?_
 refine jo_gpure (j := 19) (want := true) rfl rfl rfl rfl (fun hg=>pr_seql (evg rfl hg) (evg rfl hg)) ?_
 refine jo_pure rfl (pr_pick_and rfl rfl rfl) ?_
 refine jo_pure rfl (pr_move rfl) (jo_gpure (j := 26) (want := true) rfl rfl rfl rfl (fun hg=>pr_fieldAddr 4 rfl Tryz.underlying40 rfl ty_38 rfl rfl) ?_)
 refine jo_gpure (j := 26) (want := true) rfl rfl rfl rfl (fun hg=>pr_load_box (av4) (evg rfl hg) ty_38 (.tail _ (.head _)) rfl (by decide) rfl) ?_
 refine jo_gpure (j := 26) (want := true) rfl rfl rfl rfl (fun hg=>pr_fieldAddr 4 rfl Tryz.underlying40 rfl ty_38 rfl rfl) ?_
 refine jo_gpure (j := 26) (want := true) rfl rfl rfl rfl (fun hg=>pr_load_box (bv4) (evg rfl hg) ty_38 (.head _) rfl (by decide) rfl) ?_
 refine jo_gcall (j := 26) (want := true) rfl rfl rfl cal_55 (fun hg => c_ref26_SameFields a.2.2.2.2.1 av4 b.2.2.2.2.1 bv4 (by assumption)) (fun hg => ⟨evg rfl hg, evg rfl hg, trivial⟩) rfl (fun _ => ⟨⟨rfl, .tail _ (.tail _ (.tail _ (.tail _ (.tail _ (.head _)))))⟩, ⟨⟨rfl, .tail _ (.tail _ (.tail _ (.tail _ (.tail _ (.tail _ (.tail _ (.tail _ (.tail _ (.head _)))))))))⟩, trivial⟩⟩) ?_
 refine jo_pure rfl (pr_pick_and rfl rfl rfl) ?_
 refine jo_pure rfl (pr_move rfl) (jo_gpure (j := 33) (want := true) rfl rfl rfl rfl (fun hg=>pr_fieldAddr 5 rfl Tryz.underlying40 rfl ty_9 rfl rfl) ?_)
 refine jo_gpure (j := 33) (want := true) rfl rfl rfl rfl (fun hg=>pr_load_box (str (a.2.2.2.2.2.1)) (evg rfl hg) ty_9 (.tail _ (.head _)) rfl (by decide) rfl) ?_
 refine jo_gpure (j := 33) (want := true) rfl rfl rfl rfl (fun hg=>pr_fieldAddr 5 rfl Tryz.underlying40 rfl ty_9 rfl rfl) ?_
 refine jo_gpure (j := 33) (want := true) rfl rfl rfl rfl (fun hg=>pr_load_box (str (b.2.2.2.2.2.1)) (evg rfl hg) ty_9 (.head _) rfl (by decide) rfl) ?_
 refine jo_gpure (j := 33) (want := true) rfl rfl rfl rfl (fun hg=>pr_seql (evg rfl hg) (evg rfl hg)) ?_
 refine jo_pure rfl (pr_pick_and rfl rfl rfl) ?_
 refine jo_pure rfl (pr_move rfl) (jo_gpure (j := 40) (want := true) rfl rfl rfl rfl (fun hg=>pr_fieldAddr 6 rfl Tryz.underlying40 rfl ty_2 rfl rfl) ?_)
 refine jo_gpure (j := 40) (want := true) rfl rfl rfl rfl (fun hg=>pr_load_box (.int .i64 (a.2.2.2.2.2.2.1)) (evg rfl hg) ty_2 (.tail _ (.head _)) rfl (by decide) rfl) ?_
 refine jo_gpure (j := 40) (want := true) rfl rfl rfl rfl (fun hg=>pr_fieldAddr 6 rfl Tryz.underlying40 rfl ty_2 rfl rfl) ?_
 refine jo_gpure (j := 40) (want := true) rfl rfl rfl rfl (fun hg=>pr_load_box (.int .i64 (b.2.2.2.2.2.2.1)) (evg rfl hg) ty_2 (.head _) rfl (by decide) rfl) ?_
 refine jo_gpure (j := 40) (want := true) rfl rfl rfl rfl (fun hg=>pr_eql (evg rfl hg) (evg rfl hg)) ?_
 refine jo_pure rfl (pr_pick_and rfl rfl rfl) ?_
 refine jo_pure rfl (pr_move rfl) (jo_gpure (j := 47) (want := true) rfl rfl rfl rfl (fun hg=>pr_fieldAddr 7 rfl Tryz.underlying40 rfl ty_2 rfl rfl) ?_)
 refine jo_gpure (j := 47) (want := true) rfl rfl rfl rfl (fun hg=>pr_load_box (.int .i64 (a.2.2.2.2.2.2.2)) (evg rfl hg) ty_2 (.tail _ (.head _)) rfl (by decide) rfl) ?_
 refine jo_gpure (j := 47) (want := true) rfl rfl rfl rfl (fun hg=>pr_fieldAddr 7 rfl Tryz.underlying40 rfl ty_2 rfl rfl) ?_
 refine jo_gpure (j := 47) (want := true) rfl rfl rfl rfl (fun hg=>pr_load_box (.int .i64 (b.2.2.2.2.2.2.2)) (evg rfl hg) ty_2 (.head _) rfl (by decide) rfl) ?_
 refine jo_gpure (j := 47) (want := true) rfl rfl rfl rfl (fun hg=>pr_eql (evg rfl hg) (evg rfl hg)) ?_
 refine jo_pure rfl (pr_pick_and rfl rfl rfl) ?_
 refine jo_pure rfl (pr_assign rfl) (jo_nil (jq_then (jc_ret (j_drop (j_drop (j_drop (j_drop (j_drop (j_drop (j_drop (j_drop (j_drop (j_drop ?_)))))))))))))
 exact jq_ret1 rfl () rfl (show (.bool (eqE a b) : Value) = (.bool ((((((((decide (a.1 = b.1) && decide (a.2.1 = b.2.1)) && decide (a.2.2.1 = b.2.2.1)) && decide ((a.2.2.2.1 : Str) = b.2.2.2.1)) && decide (a.2.2.2.2.1 = b.2.2.2.2.1)) && decide ((a.2.2.2.2.2.1 : Str) = b.2.2.2.2.2.1)) && decide ((a.2.2.2.2.2.2.1 : Int) = b.2.2.2.2.2.2.1)) && decide ((a.2.2.2.2.2.2.2 : Int) = b.2.2.2.2.2.2.2)))) from rfl) (fun _ h => h)

theorem c_law28_awake   : Con Tryz.prog 11 #[] [] (fun _ : Unit => .bool (true)) (fun _ => []) := by
 refine con_of_J (args := []) (n := 51) Tryz.func11 rfl (Nat.le_of_ble_eq_true rfl) rfl (fun w0 I0 m0 => ?_)
 refine jc_seq (jc_region (jo_pure rfl (pr_assign rfl) (jo_nil (jq_then (jc_seq (jc_region ?_))))))
 refine jo_callp cal_9 (c_store_New 250 5 5 (by decide) (by decide) (by decide)) ⟨rfl, rfl, rfl, trivial⟩ rfl (trivial) (fun ⟨nb1, nm1⟩ => ?_)
 refine jo_pure rfl (pr_move rfl) (jo_pure rfl (pr_extract rfl rfl) (jo_pure rfl (pr_extract rfl rfl) (jo_pure rfl (pr_assign rfl) (jo_pure rfl (pr_assign rfl) (jo_nil (jq_then (jc_seq (jc_seq (j_pull1 (j_pull1 (j_nil_row 9 .str ?_)))))))))))
 refine jc_region (jo_pure rfl (pr_move rfl) (jo_pure rfl (pr_neqN (m := 0) (n := 0) rfl rfl) ?_))
 refine jo_pure rfl (pr_move rfl) (jo_gpure (j := 2) (want := false) rfl rfl rfl rfl (fun hg=>pr_move rfl) (jo_gpure (j := 2) (want := false) rfl rfl rfl rfl (fun hg=>pr_eql_ptrnil (evg rfl hg) rfl Tryz.underlying22) ?_))
 refine jo_pure rfl (pr_pick_or rfl rfl rfl) ?_
 refine jo_nil (jq_then (jc_false rfl (by decide) ?_))
 refine jc_skip (jq_then (jc_seq (jc_region (jo_pure rfl (pr_build [] [.slice none 0 0, .slice none 0 0, .slice none 0 0, str ([]), .slice none 0 0, str ([]), .int .i64 ((0 : Nat) : Int), .int .i64 ((0 : Nat) : Int)] (fun a hf => by simp) (by kernel_rfl)) ?_))))
 refine jo_alloc ty_40 [.slice none 0 0, .slice none 0 0, .slice none 0 0, str ([]), .slice none 0 0, str ([]), .int .i64 ((0 : Nat) : Int), .int .i64 ((0 : Nat) : Int)] rfl rfl (fun b1 => ?_)
 refine jo_store rfl rfl ty_40 [.slice none 0 0, .slice none 0 0, .slice none 0 0, str ([]), .slice none 0 0, str ([]), .int .i64 ((0 : Nat) : Int), .int .i64 ((0 : Nat) : Int)] rfl rfl rfl [.slice none 0 0, .slice none 0 0, .slice none 0 0, str ([]), .slice none 0 0, str ([]), .int .i64 ((0 : Nat) : Int), .int .i64 ((0 : Nat) : Int)] rfl rfl ?_
 refine jo_nil (jq_then (jc_seq (j_pull3 (j_pull3 (j_pull3 ?_)))))
 refine jc_held (fun (r2 : Value) => [(1, .pointer (some ⟨nb1, 0, none⟩)), (3, .pointer (some ⟨b1, 0, none⟩)), (4, .bool (fitsB 250 ([], ([], ([], ([], ([], ([], (((0 : Nat) : Int), ((0 : Nat) : Int)))))))) [])), (5, .bool (fitsB 250 ([], ([], ([], ([], ([], ([], (((0 : Nat) : Int), ((0 : Nat) : Int)))))))) []))]) (fun r2 => [.mpt nm1 tyT (putA 250 5 5 (putA 250 5 5 noA [97] ([], ([], ([], ([], ([], ([], (((0 : Nat) : Int), ((0 : Nat) : Int)))))))) []) [98] ([], ([], ([], ([], ([], ([], (((0 : Nat) : Int), ((0 : Nat) : Int)))))))) []), .box nb1 68 [.int .i64 ((250 : Nat) : Int), .int .i64 ((5 : Nat) : Int), .int .i64 ((5 : Nat) : Int), .int .i64 ((totA (putA 250 5 5 (putA 250 5 5 noA [97] ([], ([], ([], ([], ([], ([], (((0 : Nat) : Int), ((0 : Nat) : Int)))))))) []) [98] ([], ([], ([], ([], ([], ([], (((0 : Nat) : Int), ((0 : Nat) : Int)))))))) []) : Nat) : Int), r2, .map (some nm1)], .row (r2) 9 .str (keysA (putA 250 5 5 (putA 250 5 5 noA [97] ([], ([], ([], ([], ([], ([], (((0 : Nat) : Int), ((0 : Nat) : Int)))))))) []) [98] ([], ([], ([], ([], ([], ([], (((0 : Nat) : Int), ((0 : Nat) : Int)))))))) [])), .box b1 40 [.slice none 0 0, .slice none 0 0, .slice none 0 0, str ([]), .slice none 0 0, str ([]), .int .i64 ((0 : Nat) : Int), .int .i64 ((0 : Nat) : Int)]]) [.box b1 40 [.slice none 0 0, .slice none 0 0, .slice none 0 0, str ([]), .slice none 0 0, str ([]), .int .i64 ((0 : Nat) : Int), .int .i64 ((0 : Nat) : Int)]] mixed (fun lst hlst => ?_) (fun r2 => ?_)
 ·subst hlst
  refine jh_take (listed' := #[true, false, false, false, false, false, false, false]) 0 rfl (by kernel_rfl) (by kernel_rfl) (by kernel_rfl) rfl (pr_move rfl) (fun _ h => Mem.drop1 (Mem.drop1 (Mem.drop1 (h)))) rfl ?_
  refine jh_take (listed' := #[true, true, false, false, false, false, false, false]) 1 rfl (by kernel_rfl) (by kernel_rfl) (by kernel_rfl) rfl (pr_load_box (.agg #[.slice none 0 0, .slice none 0 0, .slice none 0 0, str ([]), .slice none 0 0, str ([]), .int .i64 ((0 : Nat) : Int), .int .i64 ((0 : Nat) : Int)]) rfl ty_40 (.head _) rfl (by decide) rfl) (fun _ h => Mem.drop1 (Mem.drop1 (Mem.drop1 (h)))) rfl ?_
  refine jh_take (listed' := #[true, true, false, true, false, false, false, false]) 3 rfl (by kernel_rfl) (by kernel_rfl) (by kernel_rfl) rfl (pr_move rfl) (fun _ h => Mem.drop1 (Mem.drop1 (Mem.drop1 (h)))) rfl ?_
  refine jh_take (listed' := #[true, true, false, true, true, false, false, false]) 4 rfl (by kernel_rfl) (by kernel_rfl) (by kernel_rfl) rfl (pr_load_box (.agg #[.slice none 0 0, .slice none 0 0, .slice none 0 0, str ([]), .slice none 0 0, str ([]), .int .i64 ((0 : Nat) : Int), .int .i64 ((0 : Nat) : Int)]) rfl ty_40 (.head _) rfl (by decide) rfl) (fun _ h => Mem.drop1 (Mem.drop1 (Mem.drop1 (h)))) rfl ?_
  refine jh_all [2] (by kernel_rfl) (by simp) (fun i hi => ?_)
  simp only [List.mem_cons, List.not_mem_nil, or_false] at hi
  subst hi
  ·refine jh_op rfl ?_
   refine j_nil_imm (.list .str) ?_
   refine j_nil_imm .str ?_
   refine j_nil_imm (.pair .str .str) ?_
   refine j_nil_imm (.pair .str (.list .str)) ?_
   refine j_pull3 (j_dup rfl ?_)
   refine j_pull4 ?_
   refine j_dup rfl ?_
   refine j_pull1 (j_dup rfl ?_)
   refine j_pull6 ?_
   refine j_dup rfl ?_
   refine j_pull7 ?_
   refine j_dup rfl ?_
   refine j_pull2 (j_pull4 ?_)
   refine j_pull6 ?_
   refine j_pull7 ?_
   refine j_pull11 ?_
   refine j_pull10 ?_
   refine j_pull11 ?_
   refine jo_callm [.imm (.list (.pair .str (.list .str))) (.slice none 0 0) ([]), .imm (.list (.pair .str .str)) (.slice none 0 0) ([]), .imm (.list .str) (.slice none 0 0) ([]), .imm (.list (.list .str)) (.slice none 0 0) ([]), .box b1 40 [.slice none 0 0, .slice none 0 0, .slice none 0 0, str ([]), .slice none 0 0, str ([]), .int .i64 ((0 : Nat) : Int), .int .i64 ((0 : Nat) : Int)]] rfl cal_21 (c_store_Put nb1 nm1 250 5 5 (.slice none 0 0) noA [97] ([], ([], ([], ([], ([], ([], (((0 : Nat) : Int), ((0 : Nat) : Int)))))))) (.slice none 0 0) (.slice none 0 0) (.slice none 0 0) (.slice none 0 0) [] (.slice none 0 0) (StoA.inv (by repeat (first | exact sto_noA | refine sto_put aw_lim ?_ aw_ent okA_nil | refine sto_touch ?_))) (StoA.ok (B := 250) (V := 5) (T := 5) (by repeat (first | exact sto_noA | refine sto_put aw_lim ?_ aw_ent okA_nil | refine sto_touch ?_))) (by decide) (by decide) (by decide) (aw_ent) (okA_nil)) ⟨rfl, rfl, rfl, rfl, trivial⟩ rfl (fun r1 => ?_)
   refine jh_in (listed' := #[true, true, true, true, true, false, false, false]) (fun _ h => Mem.drop1 (Mem.drop1 (Mem.drop1 (Mem.drop1 (Mem.drop1 (Mem.drop1 (Mem.drop1 (h)))))))) rfl ?_
   refine jh_all [5] (by kernel_rfl) (by simp) (fun i hi => ?_)
   simp only [List.mem_cons, List.not_mem_nil, or_false] at hi
   subst hi
   ·refine jh_op rfl ?_
    refine j_pull6 ?_
    refine j_dup rfl ?_
    refine j_pull7 ?_
    refine j_dup rfl ?_
    refine j_pull1 (j_dup rfl ?_)
    refine j_pull9 ?_
    refine j_dup rfl ?_
    refine j_pull10 ?_
    refine j_dup rfl ?_
    refine j_pull2 (j_pull4 ?_)
    refine j_pull6 ?_
    refine j_pull7 ?_
    refine j_pull9 ?_
    refine j_pull11 ?_
    refine j_pull11 ?_
    refine jo_callm [.imm (.list (.pair .str (.list .str))) (.slice none 0 0) ([]), .imm (.list (.pair .str .str)) (.slice none 0 0) ([]), .imm (.list .str) (.slice none 0 0) ([]), .imm (.list (.list .str)) (.slice none 0 0) ([]), .box b1 40 [.slice none 0 0, .slice none 0 0, .slice none 0 0, str ([]), .slice none 0 0, str ([]), .int .i64 ((0 : Nat) : Int), .int .i64 ((0 : Nat) : Int)]] rfl cal_21 (c_store_Put nb1 nm1 250 5 5 r1 (putA 250 5 5 noA [97] ([], ([], ([], ([], ([], ([], (((0 : Nat) : Int), ((0 : Nat) : Int)))))))) []) [98] ([], ([], ([], ([], ([], ([], (((0 : Nat) : Int), ((0 : Nat) : Int)))))))) (.slice none 0 0) (.slice none 0 0) (.slice none 0 0) (.slice none 0 0) [] (.slice none 0 0) (StoA.inv (by repeat (first | exact sto_noA | refine sto_put aw_lim ?_ aw_ent okA_nil | refine sto_touch ?_))) (StoA.ok (B := 250) (V := 5) (T := 5) (by repeat (first | exact sto_noA | refine sto_put aw_lim ?_ aw_ent okA_nil | refine sto_touch ?_))) (by decide) (by decide) (by decide) (aw_ent) (okA_nil)) ⟨rfl, rfl, rfl, rfl, trivial⟩ rfl (fun r2 => ?_)
    refine jh_in (listed' := #[true, true, true, true, true, true, false, false]) (fun _ h => Mem.drop1 (Mem.drop1 (Mem.drop1 (Mem.drop1 (Mem.drop1 (Mem.drop1 (Mem.drop1 (h)))))))) rfl ?_
    refine jh_take (listed' := #[true, true, true, true, true, true, true, false]) 6 rfl (by kernel_rfl) (by kernel_rfl) (by kernel_rfl) rfl (pr_assign rfl) (fun _ h => Mem.drop1 (Mem.drop1 (Mem.drop1 (Mem.drop1 (Mem.drop1 (Mem.drop1 (Mem.drop1 (h)))))))) rfl ?_
    refine jh_take (listed' := #[true, true, true, true, true, true, true, true]) 7 rfl (by kernel_rfl) (by kernel_rfl) (by kernel_rfl) rfl (pr_assign rfl) (fun _ h => Mem.drop1 (Mem.drop1 (Mem.drop1 (Mem.drop1 (Mem.drop1 (Mem.drop1 (Mem.drop1 (h)))))))) rfl ?_
    refine j_pull3 (j_drop (j_pull3 (j_drop (j_pull3 (j_drop (j_pull3 (j_drop (j_pull3 (j_pull3 (j_pull3 (j_pull3 ?_)))))))))))
    show JH _ _ _ _ _ _ _ _
    exact jh_done r2 (by kernel_rfl) ⟨rfl, rfl, rfl, rfl, trivial⟩ (fun _ h => h)
 ·skip
  refine jq_then (jc_seq (j_pull2 (j_pull2 (j_pull2 ?_))))
  refine jc_held (fun (r4 : Value) => [(1, .pointer (some ⟨nb1, 0, none⟩)), (4, .bool (fitsB 250 ([], ([], ([], ([], ([], ([], (((0 : Nat) : Int), ((0 : Nat) : Int)))))))) [])), (5, .bool (fitsB 250 ([], ([], ([], ([], ([], ([], (((0 : Nat) : Int), ((0 : Nat) : Int)))))))) [])), (6, .bool (inA (putA 250 5 5 (putA 250 5 5 noA [97] ([], ([], ([], ([], ([], ([], (((0 : Nat) : Int), ((0 : Nat) : Int)))))))) []) [98] ([], ([], ([], ([], ([], ([], (((0 : Nat) : Int), ((0 : Nat) : Int)))))))) []) [97])), (7, .bool (fitsB 250 ([], ([], ([], ([], ([], ([], (((0 : Nat) : Int), ((0 : Nat) : Int)))))))) []))]) (fun r4 => [.mpt nm1 tyT (putA 250 5 5 (touchA (putA 250 5 5 (putA 250 5 5 noA [97] ([], ([], ([], ([], ([], ([], (((0 : Nat) : Int), ((0 : Nat) : Int)))))))) []) [98] ([], ([], ([], ([], ([], ([], (((0 : Nat) : Int), ((0 : Nat) : Int)))))))) []) [97]) [99] ([], ([], ([], ([], ([], ([], (((0 : Nat) : Int), ((0 : Nat) : Int)))))))) []), .box nb1 68 [.int .i64 ((250 : Nat) : Int), .int .i64 ((5 : Nat) : Int), .int .i64 ((5 : Nat) : Int), .int .i64 ((totA (putA 250 5 5 (touchA (putA 250 5 5 (putA 250 5 5 noA [97] ([], ([], ([], ([], ([], ([], (((0 : Nat) : Int), ((0 : Nat) : Int)))))))) []) [98] ([], ([], ([], ([], ([], ([], (((0 : Nat) : Int), ((0 : Nat) : Int)))))))) []) [97]) [99] ([], ([], ([], ([], ([], ([], (((0 : Nat) : Int), ((0 : Nat) : Int)))))))) []) : Nat) : Int), r4, .map (some nm1)], .row (r4) 9 .str (keysA (putA 250 5 5 (touchA (putA 250 5 5 (putA 250 5 5 noA [97] ([], ([], ([], ([], ([], ([], (((0 : Nat) : Int), ((0 : Nat) : Int)))))))) []) [98] ([], ([], ([], ([], ([], ([], (((0 : Nat) : Int), ((0 : Nat) : Int)))))))) []) [97]) [99] ([], ([], ([], ([], ([], ([], (((0 : Nat) : Int), ((0 : Nat) : Int)))))))) [])), .box b1 40 [.slice none 0 0, .slice none 0 0, .slice none 0 0, str ([]), .slice none 0 0, str ([]), .int .i64 ((0 : Nat) : Int), .int .i64 ((0 : Nat) : Int)]]) [.box b1 40 [.slice none 0 0, .slice none 0 0, .slice none 0 0, str ([]), .slice none 0 0, str ([]), .int .i64 ((0 : Nat) : Int), .int .i64 ((0 : Nat) : Int)]] mixed (fun lst hlst => ?_) (fun r4 => ?_)
  ·subst hlst
   refine jh_take (listed' := #[true, false, false, false, false, false, false]) 0 rfl (by kernel_rfl) (by kernel_rfl) (by kernel_rfl) rfl (pr_move rfl) (fun _ h => Mem.drop1 (Mem.drop1 (Mem.drop1 (h)))) rfl ?_
   refine jh_take (listed' := #[true, false, true, false, false, false, false]) 2 rfl (by kernel_rfl) (by kernel_rfl) (by kernel_rfl) rfl (pr_move rfl) (fun _ h => Mem.drop1 (Mem.drop1 (Mem.drop1 (h)))) rfl ?_
   refine jh_take (listed' := #[true, false, true, true, false, false, false]) 3 rfl (by kernel_rfl) (by kernel_rfl) (by kernel_rfl) rfl (pr_load_box (.agg #[.slice none 0 0, .slice none 0 0, .slice none 0 0, str ([]), .slice none 0 0, str ([]), .int .i64 ((0 : Nat) : Int), .int .i64 ((0 : Nat) : Int)]) rfl ty_40 (.head _) rfl (by decide) rfl) (fun _ h => Mem.drop1 (Mem.drop1 (Mem.drop1 (h)))) rfl ?_
   refine jh_all [1] (by kernel_rfl) (by simp) (fun i hi => ?_)
   simp only [List.mem_cons, List.not_mem_nil, or_false] at hi
   subst hi
   ·refine jh_op rfl ?_
    refine j_pull2 (j_pull2 ?_)
    refine jo_callm [.box b1 40 [.slice none 0 0, .slice none 0 0, .slice none 0 0, str ([]), .slice none 0 0, str ([]), .int .i64 ((0 : Nat) : Int), .int .i64 ((0 : Nat) : Int)]] rfl cal_30 (c_store_Touch nb1 nm1 250 5 5 r2 (putA 250 5 5 (putA 250 5 5 noA [97] ([], ([], ([], ([], ([], ([], (((0 : Nat) : Int), ((0 : Nat) : Int)))))))) []) [98] ([], ([], ([], ([], ([], ([], (((0 : Nat) : Int), ((0 : Nat) : Int)))))))) []) [97]  (Nat.le_trans (StoA.len aw_lim (by repeat (first | exact sto_noA | refine sto_put aw_lim ?_ aw_ent okA_nil | refine sto_touch ?_))).2 (by decide))) ⟨rfl, rfl, trivial⟩ rfl (fun r3 => ?_)
    refine jh_in (listed' := #[true, true, true, true, false, false, false]) (fun _ h => Mem.drop1 (Mem.drop1 (Mem.drop1 (h)))) rfl ?_
    refine jh_all [4] (by kernel_rfl) (by simp) (fun i hi => ?_)
    simp only [List.mem_cons, List.not_mem_nil, or_false] at hi
    subst hi
    ·refine jh_op rfl ?_
     refine j_nil_imm (.list .str) ?_
     refine j_nil_imm .str ?_
     refine j_nil_imm (.pair .str .str) ?_
     refine j_nil_imm (.pair .str (.list .str)) ?_
     refine j_pull3 (j_dup rfl ?_)
     refine j_pull4 ?_
     refine j_dup rfl ?_
     refine j_pull1 (j_dup rfl ?_)
     refine j_pull6 ?_
     refine j_dup rfl ?_
     refine j_pull7 ?_
     refine j_dup rfl ?_
     refine j_pull2 (j_pull4 ?_)
     refine j_pull6 ?_
     refine j_pull7 ?_
     refine j_pull9 ?_
     refine j_pull11 ?_
     refine j_pull11 ?_
     refine jo_callm [.imm (.list (.pair .str (.list .str))) (.slice none 0 0) ([]), .imm (.list (.pair .str .str)) (.slice none 0 0) ([]), .imm (.list .str) (.slice none 0 0) ([]), .imm (.list (.list .str)) (.slice none 0 0) ([]), .box b1 40 [.slice none 0 0, .slice none 0 0, .slice none 0 0, str ([]), .slice none 0 0, str ([]), .int .i64 ((0 : Nat) : Int), .int .i64 ((0 : Nat) : Int)]] rfl cal_21 (c_store_Put nb1 nm1 250 5 5 r3 (touchA (putA 250 5 5 (putA 250 5 5 noA [97] ([], ([], ([], ([], ([], ([], (((0 : Nat) : Int), ((0 : Nat) : Int)))))))) []) [98] ([], ([], ([], ([], ([], ([], (((0 : Nat) : Int), ((0 : Nat) : Int)))))))) []) [97]) [99] ([], ([], ([], ([], ([], ([], (((0 : Nat) : Int), ((0 : Nat) : Int)))))))) (.slice none 0 0) (.slice none 0 0) (.slice none 0 0) (.slice none 0 0) [] (.slice none 0 0) (StoA.inv (by repeat (first | exact sto_noA | refine sto_put aw_lim ?_ aw_ent okA_nil | refine sto_touch ?_))) (StoA.ok (B := 250) (V := 5) (T := 5) (by repeat (first | exact sto_noA | refine sto_put aw_lim ?_ aw_ent okA_nil | refine sto_touch ?_))) (by decide) (by decide) (by decide) (aw_ent) (okA_nil)) ⟨rfl, rfl, rfl, rfl, trivial⟩ rfl (fun r4 => ?_)
     refine jh_in (listed' := #[true, true, true, true, true, false, false]) (fun _ h => Mem.drop1 (Mem.drop1 (Mem.drop1 (Mem.drop1 (Mem.drop1 (Mem.drop1 (Mem.drop1 (h)))))))) rfl ?_
     refine jh_take (listed' := #[true, true, true, true, true, true, false]) 5 rfl (by kernel_rfl) (by kernel_rfl) (by kernel_rfl) rfl (pr_assign rfl) (fun _ h => Mem.drop1 (Mem.drop1 (Mem.drop1 (Mem.drop1 (Mem.drop1 (Mem.drop1 (Mem.drop1 (h)))))))) rfl ?_
     refine jh_take (listed' := #[true, true, true, true, true, true, true]) 6 rfl (by kernel_rfl) (by kernel_rfl) (by kernel_rfl) rfl (pr_assign rfl) (fun _ h => Mem.drop1 (Mem.drop1 (Mem.drop1 (Mem.drop1 (Mem.drop1 (Mem.drop1 (Mem.drop1 (h)))))))) rfl ?_
     refine j_pull3 (j_drop (j_pull3 (j_drop (j_pull3 (j_drop (j_pull3 (j_drop (j_pull3 (j_pull3 (j_pull3 (j_pull3 ?_)))))))))))
     show JH _ _ _ _ _ _ _ _
     exact jh_done r4 (by kernel_rfl) ⟨rfl, rfl, rfl, rfl, rfl, trivial⟩ (fun _ h => h)
  ·skip
   refine jq_then (jc_seq (jc_region (jo_pure rfl (pr_move rfl) (jo_pure rfl (pr_move rfl) ?_))))
   have ht1 : (fitsB 250 ([], ([], ([], ([], ([], ([], (((0 : Nat) : Int), ((0 : Nat) : Int)))))))) []) = true := by decide +kernel
   refine jo_run (j := 1) (want := true) rfl rfl (ht1) ?_
   refine jo_pure rfl (pr_move rfl) (jo_pure rfl (pr_pick_t rfl (ht1) rfl) ?_)
   refine jo_pure rfl (pr_move rfl) (jo_run (j := 4) (want := true) rfl rfl (ht1) ?_)
   refine jo_pure rfl (pr_move rfl) (jo_pure rfl (pr_pick_t rfl (ht1) rfl) ?_)
   refine jo_pure rfl (pr_move rfl) ?_
   have ht2 : (inA (putA 250 5 5 (putA 250 5 5 noA [97] ([], ([], ([], ([], ([], ([], (((0 : Nat) : Int), ((0 : Nat) : Int)))))))) []) [98] ([], ([], ([], ([], ([], ([], (((0 : Nat) : Int), ((0 : Nat) : Int)))))))) []) [97]) = true := by decide +kernel
   refine jo_run (j := 7) (want := true) rfl rfl (ht2) ?_
   refine jo_pure rfl (pr_move rfl) (jo_pure rfl (pr_pick_t rfl (ht2) rfl) ?_)
   refine jo_pure rfl (pr_move rfl) (jo_run (j := 10) (want := true) rfl rfl (ht1) ?_)
   refine jo_pure rfl (pr_move rfl) (jo_run (j := 10) (want := true) rfl rfl (ht1) ?_)
   refine j_pull2 (j_pull2 ?_)
   refine jo_callm [.mpt nm1 tyT (putA 250 5 5 (touchA (putA 250 5 5 (putA 250 5 5 noA [97] ([], ([], ([], ([], ([], ([], (((0 : Nat) : Int), ((0 : Nat) : Int)))))))) []) [98] ([], ([], ([], ([], ([], ([], (((0 : Nat) : Int), ((0 : Nat) : Int)))))))) []) [97]) [99] ([], ([], ([], ([], ([], ([], (((0 : Nat) : Int), ((0 : Nat) : Int)))))))) []), .box b1 40 [.slice none 0 0, .slice none 0 0, .slice none 0 0, str ([]), .slice none 0 0, str ([]), .int .i64 ((0 : Nat) : Int), .int .i64 ((0 : Nat) : Int)]] rfl cal_12 (c_store_Keys nb1 nm1 250 5 5 (totA (putA 250 5 5 (touchA (putA 250 5 5 (putA 250 5 5 noA [97] ([], ([], ([], ([], ([], ([], (((0 : Nat) : Int), ((0 : Nat) : Int)))))))) []) [98] ([], ([], ([], ([], ([], ([], (((0 : Nat) : Int), ((0 : Nat) : Int)))))))) []) [97]) [99] ([], ([], ([], ([], ([], ([], (((0 : Nat) : Int), ((0 : Nat) : Int)))))))) [])) r4 (keysA (putA 250 5 5 (touchA (putA 250 5 5 (putA 250 5 5 noA [97] ([], ([], ([], ([], ([], ([], (((0 : Nat) : Int), ((0 : Nat) : Int)))))))) []) [98] ([], ([], ([], ([], ([], ([], (((0 : Nat) : Int), ((0 : Nat) : Int)))))))) []) [97]) [99] ([], ([], ([], ([], ([], ([], (((0 : Nat) : Int), ((0 : Nat) : Int)))))))) [])) (by rw [len_keys]; exact Nat.le_trans (StoA.len aw_lim (by repeat (first | exact sto_noA | refine sto_put aw_lim ?_ aw_ent okA_nil | refine sto_touch ?_))).2 (by decide))) ⟨rfl, trivial⟩ rfl (fun r5 => ?_)
   refine jo_run (j := 10) (want := true) rfl rfl (ht1) ?_
   refine jo_buildSlice (t := .str) [[97], [99]] [str ([97]), str ([99])] (fun a hf => by simp only [List.zipIdx_cons, List.zipIdx_nil, List.map_toArray, List.map_cons, List.map_nil] <;> rfl) rfl Tryz.underlying28 ty_9 rfl rfl rfl rfl rfl (fun g1 => ?_)
   refine jo_run (j := 10) (want := true) rfl rfl (ht1) ?_
   refine j_pull1 (j_pub_row (j_pull1 (j_pub_rowg ?_)))
   refine jo_callp cal_25 (c_keep_SameStrings (keysA (putA 250 5 5 (touchA (putA 250 5 5 (putA 250 5 5 noA [97] ([], ([], ([], ([], ([], ([], (((0 : Nat) : Int), ((0 : Nat) : Int)))))))) []) [98] ([], ([], ([], ([], ([], ([], (((0 : Nat) : Int), ((0 : Nat) : Int)))))))) []) [97]) [99] ([], ([], ([], ([], ([], ([], (((0 : Nat) : Int), ((0 : Nat) : Int)))))))) [])) r5 [[97], [99]] (.slice (some ⟨g1, 0, none⟩) ([[97], [99]]).length (([[97], [99]]).length)) (by rw [len_keys]; exact Nat.le_trans (StoA.len aw_lim (by repeat (first | exact sto_noA | refine sto_put aw_lim ?_ aw_ent okA_nil | refine sto_touch ?_))).2 (by decide))) ⟨rfl, rfl, trivial⟩ rfl (⟨⟨rfl, .tail _ (.head _)⟩, ⟨⟨rfl, .head _⟩, trivial⟩⟩) (fun _ => ?_)
   refine jo_pure rfl (pr_pick_t rfl (ht1) rfl) ?_
   refine jo_pure rfl (pr_move rfl) ?_
   have ht3 : (decide ((keysA (putA 250 5 5 (touchA (putA 250 5 5 (putA 250 5 5 noA [97] ([], ([], ([], ([], ([], ([], (((0 : Nat) : Int), ((0 : Nat) : Int)))))))) []) [98] ([], ([], ([], ([], ([], ([], (((0 : Nat) : Int), ((0 : Nat) : Int)))))))) []) [97]) [99] ([], ([], ([], ([], ([], ([], (((0 : Nat) : Int), ((0 : Nat) : Int)))))))) [])) = [[97], [99]])) = true := by decide +kernel
   refine jo_run (j := 16) (want := true) rfl rfl (ht3) ?_
   refine jo_pure rfl (pr_move rfl) (jo_run (j := 16) (want := true) rfl rfl (ht3) ?_)
   refine jo_callq cal_13 (c_store_Bytes nb1 nm1 250 5 5 (totA (putA 250 5 5 (touchA (putA 250 5 5 (putA 250 5 5 noA [97] ([], ([], ([], ([], ([], ([], (((0 : Nat) : Int), ((0 : Nat) : Int)))))))) []) [98] ([], ([], ([], ([], ([], ([], (((0 : Nat) : Int), ((0 : Nat) : Int)))))))) []) [97]) [99] ([], ([], ([], ([], ([], ([], (((0 : Nat) : Int), ((0 : Nat) : Int)))))))) [])) r4) ⟨rfl, trivial⟩ rfl (⟨peek_box (.tail _ (.tail _ (.head _))), trivial⟩) (fun _ => ?_)
   refine jo_run (j := 16) (want := true) rfl rfl (ht3) ?_
   refine jo_pure rfl (pr_eqlN (m := totA (putA 250 5 5 (touchA (putA 250 5 5 (putA 250 5 5 noA [97] ([], ([], ([], ([], ([], ([], (((0 : Nat) : Int), ((0 : Nat) : Int)))))))) []) [98] ([], ([], ([], ([], ([], ([], (((0 : Nat) : Int), ((0 : Nat) : Int)))))))) []) [97]) [99] ([], ([], ([], ([], ([], ([], (((0 : Nat) : Int), ((0 : Nat) : Int)))))))) [])) (n := 200) rfl rfl) ?_
   refine jo_pure rfl (pr_pick_t rfl (ht3) rfl) ?_
   refine jo_pure rfl (pr_assign rfl) (jo_nil (jq_then (jc_ret (j_drop (j_drop (j_drop (j_drop (j_drop (j_drop ?_)))))))))
   exact jq_ret1 rfl () rfl (show (.bool (true) : Value) = (.bool (decide ((totA (putA 250 5 5 (touchA (putA 250 5 5 (putA 250 5 5 noA [97] ([], ([], ([], ([], ([], ([], (((0 : Nat) : Int), ((0 : Nat) : Int)))))))) []) [98] ([], ([], ([], ([], ([], ([], (((0 : Nat) : Int), ((0 : Nat) : Int)))))))) []) [97]) [99] ([], ([], ([], ([], ([], ([], (((0 : Nat) : Int), ((0 : Nat) : Int)))))))) []) : Nat) = 200))) from congrArg Value.bool (by decide +kernel)) (fun _ h => h)
end Go.Proofs.YtlniaacdjllonaaGreat
