/-
 Contracts of functions of the program: each returns what a plain function says, for every input within the bounds named. Conditions: the bounds.
-/
import Derived.Test.YtlniaacdjllonaaGreatRows
import Derived.Test.YtlniaacdjllonaaGreatWK11
namespace Go.Proofs.YtlniaacdjllonaaGreat
open Go Go.Sep
set_option linter.unusedSimpArgs false
set_option linter.unusedVariables false

open Go.Plain

theorem cal_9 : Cal Tryz.prog 9 := cal_of Tryz.func9 (by kernel_rfl) rfl
theorem cal_12 : Cal Tryz.prog 12 := cal_of Tryz.func12 (by kernel_rfl) rfl
theorem cal_13 : Cal Tryz.prog 13 := cal_of Tryz.func13 (by kernel_rfl) rfl
theorem cal_25 : Cal Tryz.prog 25 := cal_of Tryz.func25 (by kernel_rfl) rfl
theorem c_law28_awake   : Con Tryz.prog 11 #[] [] (fun _ : Unit => .bool (true)) (fun _ => []) := by
 refine con_of_J (args := []) (n := 51) Tryz.func11 rfl (Nat.le_of_ble_eq_true rfl) rfl (fun w0 I0 m0 => ?_)
 refine jc_seq (jc_region (jo_pure rfl (pr_assign rfl) (jo_nil (jq_then (jc_seq (jc_region ?_))))))
 refine jo_callp cal_9 (c_store_New 250 5 5 (by decide) (by decide) (by decide)) ⟨rfl, rfl, rfl, trivial⟩ rfl (trivial) (fun ⟨nb1, nm1⟩ => ?_)
 refine jo_pure rfl (pr_move rfl) (jo_pure rfl (pr_extract rfl rfl) (jo_pure rfl (pr_extract rfl rfl) (jo_pure rfl (pr_assign rfl) (jo_pure rfl (pr_assign rfl) (jo_nil (jq_then (jc_seq (jc_seq (j_pull1 (j_pull1 (j_nil_row 9 .str ?_)))))))))))
 refine jc_region (jo_pure rfl (pr_move rfl) (jo_pure rfl (pr_neqN (m := 0) (n := 0) rfl rfl) ?_))
 refine jo_pure rfl (pr_move rfl) (jo_gpure (j := 2) (want := false) rfl rfl rfl rfl (fun hg=>pr_move rfl) (jo_gpure (j := 2) (want := false) rfl rfl rfl rfl (fun hg=>pr_eql_ptrnil (evg rfl hg) rfl Tryz.underlying22) ?_))
 refine jo_pure rfl (pr_pick_or rfl rfl rfl) ?_
 refine jo_nil (jq_then (jc_false rfl (by decide) ?_))
 refine jc_skip (jq_then (jc_seq (jc_region (jo_pure rfl (pr_build [] [.slice none 0 0, .slice none 0 0, .slice none 0 0, str ([]), .slice none 0 0, str ([]), .int .i64 ((0 : Nat) : Int), .int .i64 ((0 : Nat) : Int)] (fun a hf => by simp) (by kernel_rfl)) ?_))))
 refine jo_alloc ty_40 [.slice none 0 0, .slice none 0 0, .slice none 0 0, str ([]), .slice none 0 0, str ([]), .int .i64 ((0 : Nat) : Int), .int .i64 ((0 : Nat) : Int)] rfl rfl (fun b1 => ?_)
 refine jo_store rfl rfl ty_40 [.slice none 0 0, .slice none 0 0, .slice none 0 0, str ([]), .slice none 0 0, str ([]), .int .i64 ((0 : Nat) : Int), .int .i64 ((0 : Nat) : Int)] rfl rfl rfl [.slice none 0 0, .slice none 0 0, .slice none 0 0, str ([]), .slice none 0 0, str ([]), .int .i64 ((0 : Nat) : Int), .int .i64 ((0 : Nat) : Int)] rfl rfl ?_
 refine jo_nil (jq_then (jc_seq (j_pull3 (j_pull3 (j_pull3 ?_)))))
 refine jc_held (fun (r2 : Value) => [(1, .pointer (some ⟨nb1, 0, none⟩)), (3, .pointer (some ⟨b1, 0, none⟩)), (4, .bool (fitsB 250 ([], ([], ([], ([], ([], ([], (((0 : Nat) : Int), ((0 : Nat) : Int)))))))) [])), (5, .bool (fitsB 250 ([], ([], ([], ([], ([], ([], (((0 : Nat) : Int), ((0 : Nat) : Int)))))))) []))]) (fun r2 => [.mpt nm1 tyT (putA 250 5 5 (putA 250 5 5 noA [97] ([], ([], ([], ([], ([], ([], (((0 : Nat) : Int), ((0 : Nat) : Int)))))))) []) [98] ([], ([], ([], ([], ([], ([], (((0 : Nat) : Int), ((0 : Nat) : Int)))))))) []), .box nb1 68 [.int .i64 ((250 : Nat) : Int), .int .i64 ((5 : Nat) : Int), .int .i64 ((5 : Nat) : Int), .int .i64 ((totA (putA 250 5 5 (putA 250 5 5 noA [97] ([], ([], ([], ([], ([], ([], (((0 : Nat) : Int), ((0 : Nat) : Int)))))))) []) [98] ([], ([], ([], ([], ([], ([], (((0 : Nat) : Int), ((0 : Nat) : Int)))))))) []) : Nat) : Int), r2, .map (some nm1)], .row (r2) 9 .str (keysA (putA 250 5 5 (putA 250 5 5 noA [97] ([], ([], ([], ([], ([], ([], (((0 : Nat) : Int), ((0 : Nat) : Int)))))))) []) [98] ([], ([], ([], ([], ([], ([], (((0 : Nat) : Int), ((0 : Nat) : Int)))))))) [])), .box b1 40 [.slice none 0 0, .slice none 0 0, .slice none 0 0, str ([]), .slice none 0 0, str ([]), .int .i64 ((0 : Nat) : Int), .int .i64 ((0 : Nat) : Int)]]) [.box b1 40 [.slice none 0 0, .slice none 0 0, .slice none 0 0, str ([]), .slice none 0 0, str ([]), .int .i64 ((0 : Nat) : Int), .int .i64 ((0 : Nat) : Int)]] mixed (fun lst hlst => ?_) (fun r2 => ?_)
 ·subst hlst
  refine jh_take (listed' := #[true, false, false, false, false, false, false, false]) 0 rfl (by kernel_rfl) (by kernel_rfl) (by kernel_rfl) rfl (pr_move rfl) (fun _ h => Mem.drop1 (Mem.drop1 (Mem.drop1 (h)))) rfl ?_
  refine jh_take (listed' := #[true, true, false, false, false, false, false, false]) 1 rfl (by kernel_rfl) (by kernel_rfl) (by kernel_rfl) rfl (pr_load_box (.agg #[.slice none 0 0, .slice none 0 0, .slice none 0 0, str ([]), .slice none 0 0, str ([]), .int .i64 ((0 : Nat) : Int), .int .i64 ((0 : Nat) : Int)]) rfl ty_40 (.head _) rfl (by decide) rfl) (fun _ h => Mem.drop1 (Mem.drop1 (Mem.drop1 (h)))) rfl ?_
  refine jh_take (listed' := #[true, true, false, true, false, false, false, false]) 3 rfl (by kernel_rfl) (by kernel_rfl) (by kernel_rfl) rfl (pr_move rfl) (fun _ h => Mem.drop1 (Mem.drop1 (Mem.drop1 (h)))) rfl ?_
  refine jh_take (listed' := #[true, true, false, true, true, false, false, false]) 4 rfl (by kernel_rfl) (by kernel_rfl) (by kernel_rfl) rfl (pr_load_box (.agg #[.slice none 0 0, .slice none 0 0, .slice none 0 0, str ([]), .slice none 0 0, str ([]), .int .i64 ((0 : Nat) : Int), .int .i64 ((0 : Nat) : Int)]) rfl ty_40 (.head _) rfl (by decide) rfl) (fun _ h => Mem.drop1 (Mem.drop1 (Mem.drop1 (h)))) rfl ?_
  refine jh_all [2] (by kernel_rfl) (by simp) (fun i hi => ?_)
  simp only [List.mem_cons, List.not_mem_nil, or_false] at hi
  subst hi
  ·refine jh_op rfl ?_
   refine j_nil_imm (.list .str) ?_
   refine j_nil_imm .str ?_
   refine j_nil_imm (.pair .str .str) ?_
   refine j_nil_imm (.pair .str (.list .str)) ?_
   refine j_pull3 (j_dup rfl ?_)
   refine j_pull4 ?_
   refine j_dup rfl ?_
   refine j_pull1 (j_dup rfl ?_)
   refine j_pull6 ?_
   refine j_dup rfl ?_
   refine j_pull7 ?_
   refine j_dup rfl ?_
   refine j_pull2 (j_pull4 ?_)
   refine j_pull6 ?_
   refine j_pull7 ?_
   refine j_pull11 ?_
   refine j_pull10 ?_
   refine j_pull11 ?_
   refine jo_callm [.imm (.list (.pair .str (.list .str))) (.slice none 0 0) ([]), .imm (.list (.pair .str .str)) (.slice none 0 0) ([]), .imm (.list .str) (.slice none 0 0) ([]), .imm (.list (.list .str)) (.slice none 0 0) ([]), .box b1 40 [.slice none 0 0, .slice none 0 0, .slice none 0 0, str ([]), .slice none 0 0, str ([]), .int .i64 ((0 : Nat) : Int), .int .i64 ((0 : Nat) : Int)]] rfl cal_21 (c_store_Put nb1 nm1 250 5 5 (.slice none 0 0) noA [97] ([], ([], ([], ([], ([], ([], (((0 : Nat) : Int), ((0 : Nat) : Int)))))))) (.slice none 0 0) (.slice none 0 0) (.slice none 0 0) (.slice none 0 0) [] (.slice none 0 0) (StoA.inv (by repeat (first | exact sto_noA | refine sto_put aw_lim ?_ aw_ent okA_nil | refine sto_touch ?_))) (StoA.ok (B := 250) (V := 5) (T := 5) (by repeat (first | exact sto_noA | refine sto_put aw_lim ?_ aw_ent okA_nil | refine sto_touch ?_))) (by decide) (by decide) (by decide) (aw_ent) (okA_nil)) ⟨rfl, rfl, rfl, rfl, trivial⟩ rfl (fun r1 => ?_)
   refine jh_in (listed' := #[true, true, true, true, true, false, false, false]) (fun _ h => Mem.drop1 (Mem.drop1 (Mem.drop1 (Mem.drop1 (Mem.drop1 (Mem.drop1 (Mem.drop1 (h)))))))) rfl ?_
   refine jh_all [5] (by kernel_rfl) (by simp) (fun i hi => ?_)
   simp only [List.mem_cons, List.not_mem_nil, or_false] at hi
   subst hi
   ·refine jh_op rfl ?_
    refine j_pull6 ?_
    refine j_dup rfl ?_
    refine j_pull7 ?_
    refine j_dup rfl ?_
    refine j_pull1 (j_dup rfl ?_)
    refine j_pull9 ?_
    refine j_dup rfl ?_
    refine j_pull10 ?_
    refine j_dup rfl ?_
    refine j_pull2 (j_pull4 ?_)
    refine j_pull6 ?_
    refine j_pull7 ?_
    refine j_pull9 ?_
    refine j_pull11 ?_
    refine j_pull11 ?_
    refine jo_callm [.imm (.list (.pair .str (.list .str))) (.slice none 0 0) ([]), .imm (.list (.pair .str .str)) (.slice none 0 0) ([]), .imm (.list .str) (.slice none 0 0) ([]), .imm (.list (.list .str)) (.slice none 0 0) ([]), .box b1 40 [.slice none 0 0, .slice none 0 0, .slice none 0 0, str ([]), .slice none 0 0, str ([]), .int .i64 ((0 : Nat) : Int), .int .i64 ((0 : Nat) : Int)]] rfl cal_21 (c_store_Put nb1 nm1 250 5 5 r1 (putA 250 5 5 noA [97] ([], ([], ([], ([], ([], ([], (((0 : Nat) : Int), ((0 : Nat) : Int)))))))) []) [98] ([], ([], ([], ([], ([], ([], (((0 : Nat) : Int), ((0 : Nat) : Int)))))))) (.slice none 0 0) (.slice none 0 0) (.slice none 0 0) (.slice none 0 0) [] (.slice none 0 0) (StoA.inv (by repeat (first | exact sto_noA | refine sto_put aw_lim ?_ aw_ent okA_nil | refine sto_touch ?_))) (StoA.ok (B := 250) (V := 5) (T := 5) (by repeat (first | exact sto_noA | refine sto_put aw_lim ?_ aw_ent okA_nil | refine sto_touch ?_))) (by decide) (by decide) (by decide) (aw_ent) (okA_nil)) ⟨rfl, rfl, rfl, rfl, trivial⟩ rfl (fun r2 => ?_)
    refine jh_in (listed' := #[true, true, true, true, true, true, false, false]) (fun _ h => Mem.drop1 (Mem.drop1 (Mem.drop1 (Mem.drop1 (Mem.drop1 (Mem.drop1 (Mem.drop1 (h)))))))) rfl ?_
    refine jh_take (listed' := #[true, true, true, true, true, true, true, false]) 6 rfl (by kernel_rfl) (by kernel_rfl) (by kernel_rfl) rfl (pr_assign rfl) (fun _ h => Mem.drop1 (Mem.drop1 (Mem.drop1 (Mem.drop1 (Mem.drop1 (Mem.drop1 (Mem.drop1 (h)))))))) rfl ?_
    refine jh_take (listed' := #[true, true, true, true, true, true, true, true]) 7 rfl (by kernel_rfl) (by kernel_rfl) (by kernel_rfl) rfl (pr_assign rfl) (fun _ h => Mem.drop1 (Mem.drop1 (Mem.drop1 (Mem.drop1 (Mem.drop1 (Mem.drop1 (Mem.drop1 (h)))))))) rfl ?_
    refine j_pull3 (j_drop (j_pull3 (j_drop (j_pull3 (j_drop (j_pull3 (j_drop (j_pull3 (j_pull3 (j_pull3 (j_pull3 ?_)))))))))))
    show JH _ _ _ _ _ _ _ _
    exact jh_done r2 (by kernel_rfl) ⟨rfl, rfl, rfl, rfl, trivial⟩ (fun _ h => h)
 ·skip
  refine jq_then (jc_seq (j_pull2 (j_pull2 (j_pull2 ?_))))
  refine jc_held (fun (r4 : Value) => [(1, .pointer (some ⟨nb1, 0, none⟩)), (4, .bool (fitsB 250 ([], ([], ([], ([], ([], ([], (((0 : Nat) : Int), ((0 : Nat) : Int)))))))) [])), (5, .bool (fitsB 250 ([], ([], ([], ([], ([], ([], (((0 : Nat) : Int), ((0 : Nat) : Int)))))))) [])), (6, .bool (inA (putA 250 5 5 (putA 250 5 5 noA [97] ([], ([], ([], ([], ([], ([], (((0 : Nat) : Int), ((0 : Nat) : Int)))))))) []) [98] ([], ([], ([], ([], ([], ([], (((0 : Nat) : Int), ((0 : Nat) : Int)))))))) []) [97])), (7, .bool (fitsB 250 ([], ([], ([], ([], ([], ([], (((0 : Nat) : Int), ((0 : Nat) : Int)))))))) []))]) (fun r4 => [.mpt nm1 tyT (putA 250 5 5 (touchA (putA 250 5 5 (putA 250 5 5 noA [97] ([], ([], ([], ([], ([], ([], (((0 : Nat) : Int), ((0 : Nat) : Int)))))))) []) [98] ([], ([], ([], ([], ([], ([], (((0 : Nat) : Int), ((0 : Nat) : Int)))))))) []) [97]) [99] ([], ([], ([], ([], ([], ([], (((0 : Nat) : Int), ((0 : Nat) : Int)))))))) []), .box nb1 68 [.int .i64 ((250 : Nat) : Int), .int .i64 ((5 : Nat) : Int), .int .i64 ((5 : Nat) : Int), .int .i64 ((totA (putA 250 5 5 (touchA (putA 250 5 5 (putA 250 5 5 noA [97] ([], ([], ([], ([], ([], ([], (((0 : Nat) : Int), ((0 : Nat) : Int)))))))) []) [98] ([], ([], ([], ([], ([], ([], (((0 : Nat) : Int), ((0 : Nat) : Int)))))))) []) [97]) [99] ([], ([], ([], ([], ([], ([], (((0 : Nat) : Int), ((0 : Nat) : Int)))))))) []) : Nat) : Int), r4, .map (some nm1)], .row (r4) 9 .str (keysA (putA 250 5 5 (touchA (putA 250 5 5 (putA 250 5 5 noA [97] ([], ([], ([], ([], ([], ([], (((0 : Nat) : Int), ((0 : Nat) : Int)))))))) []) [98] ([], ([], ([], ([], ([], ([], (((0 : Nat) : Int), ((0 : Nat) : Int)))))))) []) [97]) [99] ([], ([], ([], ([], ([], ([], (((0 : Nat) : Int), ((0 : Nat) : Int)))))))) [])), .box b1 40 [.slice none 0 0, .slice none 0 0, .slice none 0 0, str ([]), .slice none 0 0, str ([]), .int .i64 ((0 : Nat) : Int), .int .i64 ((0 : Nat) : Int)]]) [.box b1 40 [.slice none 0 0, .slice none 0 0, .slice none 0 0, str ([]), .slice none 0 0, str ([]), .int .i64 ((0 : Nat) : Int), .int .i64 ((0 : Nat) : Int)]] mixed (fun lst hlst => ?_) (fun r4 => ?_)
  ·subst hlst
   refine jh_take (listed' := #[true, false, false, false, false, false, false]) 0 rfl (by kernel_rfl) (by kernel_rfl) (by kernel_rfl) rfl (pr_move rfl) (fun _ h => Mem.drop1 (Mem.drop1 (Mem.drop1 (h)))) rfl ?_
   refine jh_take (listed' := #[true, false, true, false, false, false, false]) 2 rfl (by kernel_rfl) (by kernel_rfl) (by kernel_rfl) rfl (pr_move rfl) (fun _ h => Mem.drop1 (Mem.drop1 (Mem.drop1 (h)))) rfl ?_
   refine jh_take (listed' := #[true, false, true, true, false, false, false]) 3 rfl (by kernel_rfl) (by kernel_rfl) (by kernel_rfl) rfl (pr_load_box (.agg #[.slice none 0 0, .slice none 0 0, .slice none 0 0, str ([]), .slice none 0 0, str ([]), .int .i64 ((0 : Nat) : Int), .int .i64 ((0 : Nat) : Int)]) rfl ty_40 (.head _) rfl (by decide) rfl) (fun _ h => Mem.drop1 (Mem.drop1 (Mem.drop1 (h)))) rfl ?_
   refine jh_all [1] (by kernel_rfl) (by simp) (fun i hi => ?_)
   simp only [List.mem_cons, List.not_mem_nil, or_false] at hi
   subst hi
   ·refine jh_op rfl ?_
    refine j_pull2 (j_pull2 ?_)
    refine jo_callm [.box b1 40 [.slice none 0 0, .slice none 0 0, .slice none 0 0, str ([]), .slice none 0 0, str ([]), .int .i64 ((0 : Nat) : Int), .int .i64 ((0 : Nat) : Int)]] rfl cal_30 (c_store_Touch nb1 nm1 250 5 5 r2 (putA 250 5 5 (putA 250 5 5 noA [97] ([], ([], ([], ([], ([], ([], (((0 : Nat) : Int), ((0 : Nat) : Int)))))))) []) [98] ([], ([], ([], ([], ([], ([], (((0 : Nat) : Int), ((0 : Nat) : Int)))))))) []) [97]  (Nat.le_trans (StoA.len aw_lim (by repeat (first | exact sto_noA | refine sto_put aw_lim ?_ aw_ent okA_nil | refine sto_touch ?_))).2 (by decide))) ⟨rfl, rfl, trivial⟩ rfl (fun r3 => ?_)
    refine jh_in (listed' := #[true, true, true, true, false, false, false]) (fun _ h => Mem.drop1 (Mem.drop1 (Mem.drop1 (h)))) rfl ?_
    refine jh_all [4] (by kernel_rfl) (by simp) (fun i hi => ?_)
    simp only [List.mem_cons, List.not_mem_nil, or_false] at hi
    subst hi
    ·refine jh_op rfl ?_
     refine j_nil_imm (.list .str) ?_
     refine j_nil_imm .str ?_
     refine j_nil_imm (.pair .str .str) ?_
     refine j_nil_imm (.pair .str (.list .str)) ?_
     refine j_pull3 (j_dup rfl ?_)
     refine j_pull4 ?_
     refine j_dup rfl ?_
     refine j_pull1 (j_dup rfl ?_)
     refine j_pull6 ?_
     refine j_dup rfl ?_
     refine j_pull7 ?_
     refine j_dup rfl ?_
     refine j_pull2 (j_pull4 ?_)
     refine j_pull6 ?_
     refine j_pull7 ?_
     refine j_pull9 ?_
     refine j_pull11 ?_
     refine j_pull11 ?_
     refine jo_callm [.imm (.list (.pair .str (.list .str))) (.slice none 0 0) ([]), .imm (.list (.pair .str .str)) (.slice none 0 0) ([]), .imm (.list .str) (.slice none 0 0) ([]), .imm (.list (.list .str)) (.slice none 0 0) ([]), .box b1 40 [.slice none 0 0, .slice none 0 0, .slice none 0 0, str ([]), .slice none 0 0, str ([]), .int .i64 ((0 : Nat) : Int), .int .i64 ((0 : Nat) : Int)]] rfl cal_21 (c_store_Put nb1 nm1 250 5 5 r3 (touchA (putA 250 5 5 (putA 250 5 5 noA [97] ([], ([], ([], ([], ([], ([], (((0 : Nat) : Int), ((0 : Nat) : Int)))))))) []) [98] ([], ([], ([], ([], ([], ([], (((0 : Nat) : Int), ((0 : Nat) : Int)))))))) []) [97]) [99] ([], ([], ([], ([], ([], ([], (((0 : Nat) : Int), ((0 : Nat) : Int)))))))) (.slice none 0 0) (.slice none 0 0) (.slice none 0 0) (.slice none 0 0) [] (.slice none 0 0) (StoA.inv (by repeat (first | exact sto_noA | refine sto_put aw_lim ?_ aw_ent okA_nil | refine sto_touch ?_))) (StoA.ok (B := 250) (V := 5) (T := 5) (by repeat (first | exact sto_noA | refine sto_put aw_lim ?_ aw_ent okA_nil | refine sto_touch ?_))) (by decide) (by decide) (by decide) (aw_ent) (okA_nil)) ⟨rfl, rfl, rfl, rfl, trivial⟩ rfl (fun r4 => ?_)
     refine jh_in (listed' := #[true, true, true, true, true, false, false]) (fun _ h => Mem.drop1 (Mem.drop1 (Mem.drop1 (Mem.drop1 (Mem.drop1 (Mem.drop1 (Mem.drop1 (h)))))))) rfl ?_
     refine jh_take (listed' := #[true, true, true, true, true, true, false]) 5 rfl (by kernel_rfl) (by kernel_rfl) (by kernel_rfl) rfl (pr_assign rfl) (fun _ h => Mem.drop1 (Mem.drop1 (Mem.drop1 (Mem.drop1 (Mem.drop1 (Mem.drop1 (Mem.drop1 (h)))))))) rfl ?_
     refine jh_take (listed' := #[true, true, true, true, true, true, true]) 6 rfl (by kernel_rfl) (by kernel_rfl) (by kernel_rfl) rfl (pr_assign rfl) (fun _ h => Mem.drop1 (Mem.drop1 (Mem.drop1 (Mem.drop1 (Mem.drop1 (Mem.drop1 (Mem.drop1 (h)))))))) rfl ?_
     refine j_pull3 (j_drop (j_pull3 (j_drop (j_pull3 (j_drop (j_pull3 (j_drop (j_pull3 (j_pull3 (j_pull3 (j_pull3 ?_)))))))))))
     show JH _ _ _ _ _ _ _ _
     exact jh_done r4 (by kernel_rfl) ⟨rfl, rfl, rfl, rfl, rfl, trivial⟩ (fun _ h => h)
  ·skip
   refine jq_then (jc_seq (jc_region (jo_pure rfl (pr_move rfl) (jo_pure rfl (pr_move rfl) ?_))))
   have ht1 : (fitsB 250 ([], ([], ([], ([], ([], ([], (((0 : Nat) : Int), ((0 : Nat) : Int)))))))) []) = true := by decide +kernel
   refine jo_run (j := 1) (want := true) rfl rfl (ht1) ?_
   refine jo_pure rfl (pr_move rfl) (jo_pure rfl (pr_pick_t rfl (ht1) rfl) ?_)
   refine jo_pure rfl (pr_move rfl) (jo_run (j := 4) (want := true) rfl rfl (ht1) ?_)
   refine jo_pure rfl (pr_move rfl) (jo_pure rfl (pr_pick_t rfl (ht1) rfl) ?_)
   refine jo_pure rfl (pr_move rfl) ?_
   have ht2 : (inA (putA 250 5 5 (putA 250 5 5 noA [97] ([], ([], ([], ([], ([], ([], (((0 : Nat) : Int), ((0 : Nat) : Int)))))))) []) [98] ([], ([], ([], ([], ([], ([], (((0 : Nat) : Int), ((0 : Nat) : Int)))))))) []) [97]) = true := by decide +kernel
   refine jo_run (j := 7) (want := true) rfl rfl (ht2) ?_
   refine jo_pure rfl (pr_move rfl) (jo_pure rfl (pr_pick_t rfl (ht2) rfl) ?_)
   refine jo_pure rfl (pr_move rfl) (jo_run (j := 10) (want := true) rfl rfl (ht1) ?_)
   refine jo_pure rfl (pr_move rfl) (jo_run (j := 10) (want := true) rfl rfl (ht1) ?_)
   refine j_pull2 (j_pull2 ?_)
   refine jo_callm [.mpt nm1 tyT (putA 250 5 5 (touchA (putA 250 5 5 (putA 250 5 5 noA [97] ([], ([], ([], ([], ([], ([], (((0 : Nat) : Int), ((0 : Nat) : Int)))))))) []) [98] ([], ([], ([], ([], ([], ([], (((0 : Nat) : Int), ((0 : Nat) : Int)))))))) []) [97]) [99] ([], ([], ([], ([], ([], ([], (((0 : Nat) : Int), ((0 : Nat) : Int)))))))) []), .box b1 40 [.slice none 0 0, .slice none 0 0, .slice none 0 0, str ([]), .slice none 0 0, str ([]), .int .i64 ((0 : Nat) : Int), .int .i64 ((0 : Nat) : Int)]] rfl cal_12 (c_store_Keys nb1 nm1 250 5 5 (totA (putA 250 5 5 (touchA (putA 250 5 5 (putA 250 5 5 noA [97] ([], ([], ([], ([], ([], ([], (((0 : Nat) : Int), ((0 : Nat) : Int)))))))) []) [98] ([], ([], ([], ([], ([], ([], (((0 : Nat) : Int), ((0 : Nat) : Int)))))))) []) [97]) [99] ([], ([], ([], ([], ([], ([], (((0 : Nat) : Int), ((0 : Nat) : Int)))))))) [])) r4 (keysA (putA 250 5 5 (touchA (putA 250 5 5 (putA 250 5 5 noA [97] ([], ([], ([], ([], ([], ([], (((0 : Nat) : Int), ((0 : Nat) : Int)))))))) []) [98] ([], ([], ([], ([], ([], ([], (((0 : Nat) : Int), ((0 : Nat) : Int)))))))) []) [97]) [99] ([], ([], ([], ([], ([], ([], (((0 : Nat) : Int), ((0 : Nat) : Int)))))))) [])) (by rw [len_keys]; exact Nat.le_trans (StoA.len aw_lim (by repeat (first | exact sto_noA | refine sto_put aw_lim ?_ aw_ent okA_nil | refine sto_touch ?_))).2 (by decide))) ⟨rfl, trivial⟩ rfl (fun r5 => ?_)
   refine jo_run (j := 10) (want := true) rfl rfl (ht1) ?_
   refine jo_buildSlice (t := .str) [[97], [99]] [str ([97]), str ([99])] (fun a hf => by simp only [List.zipIdx_cons, List.zipIdx_nil, List.map_toArray, List.map_cons, List.map_nil] <;> rfl) rfl Tryz.underlying28 ty_9 rfl rfl rfl rfl rfl (fun g1 => ?_)
   refine jo_run (j := 10) (want := true) rfl rfl (ht1) ?_
   refine j_pull1 (j_pub_row (j_pull1 (j_pub_rowg ?_)))
   refine jo_callp cal_25 (c_keep_SameStrings (keysA (putA 250 5 5 (touchA (putA 250 5 5 (putA 250 5 5 noA [97] ([], ([], ([], ([], ([], ([], (((0 : Nat) : Int), ((0 : Nat) : Int)))))))) []) [98] ([], ([], ([], ([], ([], ([], (((0 : Nat) : Int), ((0 : Nat) : Int)))))))) []) [97]) [99] ([], ([], ([], ([], ([], ([], (((0 : Nat) : Int), ((0 : Nat) : Int)))))))) [])) r5 [[97], [99]] (.slice (some ⟨g1, 0, none⟩) ([[97], [99]]).length (([[97], [99]]).length)) (by rw [len_keys]; exact Nat.le_trans (StoA.len aw_lim (by repeat (first | exact sto_noA | refine sto_put aw_lim ?_ aw_ent okA_nil | refine sto_touch ?_))).2 (by decide))) ⟨rfl, rfl, trivial⟩ rfl (⟨⟨rfl, .tail _ (.head _)⟩, ⟨⟨rfl, .head _⟩, trivial⟩⟩) (fun _ => ?_)
   refine jo_pure rfl (pr_pick_t rfl (ht1) rfl) ?_
   refine jo_pure rfl (pr_move rfl) ?_
   have ht3 : (decide ((keysA (putA 250 5 5 (touchA (putA 250 5 5 (putA 250 5 5 noA [97] ([], ([], ([], ([], ([], ([], (((0 : Nat) : Int), ((0 : Nat) : Int)))))))) []) [98] ([], ([], ([], ([], ([], ([], (((0 : Nat) : Int), ((0 : Nat) : Int)))))))) []) [97]) [99] ([], ([], ([], ([], ([], ([], (((0 : Nat) : Int), ((0 : Nat) : Int)))))))) [])) = [[97], [99]])) = true := by decide +kernel
   refine jo_run (j := 16) (want := true) rfl rfl (ht3) ?_
   refine jo_pure rfl (pr_move rfl) (jo_run (j := 16) (want := true) rfl rfl (ht3) ?_)
   refine jo_callq cal_13 (c_store_Bytes nb1 nm1 250 5 5 (totA (putA 250 5 5 (touchA (putA 250 5 5 (putA 250 5 5 noA [97] ([], ([], ([], ([], ([], ([], (((0 : Nat) : Int), ((0 : Nat) : Int)))))))) []) [98] ([], ([], ([], ([], ([], ([], (((0 : Nat) : Int), ((0 : Nat) : Int)))))))) []) [97]) [99] ([], ([], ([], ([], ([], ([], (((0 : Nat) : Int), ((0 : Nat) : Int)))))))) [])) r4) ⟨rfl, trivial⟩ rfl (⟨peek_box (.tail _ (.tail _ (.head _))), trivial⟩) (fun _ => ?_)
   refine jo_run (j := 16) (want := true) rfl rfl (ht3) ?_
   refine jo_pure rfl (pr_eqlN (m := totA (putA 250 5 5 (touchA (putA 250 5 5 (putA 250 5 5 noA [97] ([], ([], ([], ([], ([], ([], (((0 : Nat) : Int), ((0 : Nat) : Int)))))))) []) [98] ([], ([], ([], ([], ([], ([], (((0 : Nat) : Int), ((0 : Nat) : Int)))))))) []) [97]) [99] ([], ([], ([], ([], ([], ([], (((0 : Nat) : Int), ((0 : Nat) : Int)))))))) [])) (n := 200) rfl rfl) ?_
   refine jo_pure rfl (pr_pick_t rfl (ht3) rfl) ?_
   refine jo_pure rfl (pr_assign rfl) (jo_nil (jq_then (jc_ret (j_drop (j_drop (j_drop (j_drop (j_drop (j_drop ?_)))))))))
   exact jq_ret1 rfl () rfl (show (.bool (true) : Value) = (.bool (decide ((totA (putA 250 5 5 (touchA (putA 250 5 5 (putA 250 5 5 noA [97] ([], ([], ([], ([], ([], ([], (((0 : Nat) : Int), ((0 : Nat) : Int)))))))) []) [98] ([], ([], ([], ([], ([], ([], (((0 : Nat) : Int), ((0 : Nat) : Int)))))))) []) [97]) [99] ([], ([], ([], ([], ([], ([], (((0 : Nat) : Int), ((0 : Nat) : Int)))))))) []) : Nat) = 200))) from congrArg Value.bool (by decide +kernel)) (fun _ h => h)
end Go.Proofs.YtlniaacdjllonaaGreat
