/-
 Contracts of functions of the program: each returns what a plain function says, for every input within the bounds named. Conditions: the bounds.
-/
import Derived.Test.YtlniaacdjllonaaGreatRows
import Derived.Test.YtlniaacdjllonaaGreatXK12
namespace Go.Proofs.YtlniaacdjllonaaGreat
open Go Go.Sep
set_option linter.unusedSimpArgs false
set_option linter.unusedVariables false

open Go.Plain

theorem cal_10 : Cal Tryz.prog 10 := cal_of Tryz.func10 (by kernel_rfl) rfl
theorem cal_11 : Cal Tryz.prog 11 := cal_of Tryz.func11 (by kernel_rfl) rfl
theorem cal_14 : Cal Tryz.prog 14 := cal_of Tryz.func14 (by kernel_rfl) rfl
theorem cal_15 : Cal Tryz.prog 15 := cal_of Tryz.func15 (by kernel_rfl) rfl
theorem cal_18 : Cal Tryz.prog 18 := cal_of Tryz.func18 (by kernel_rfl) rfl

theorem c_law28_StoreMakes (bz : Int) (vz : Int) (tz : Int)  : Con Tryz.prog 3 #[.int .i64 (bz), .int .i64 (vz), .int .i64 (tz)] [] (fun _ : Unit => .bool (true)) (fun _ => []) := by
 refine con_of_J (args := [.int .i64 (bz), .int .i64 (vz), .int .i64 (tz)]) (n := 50) Tryz.func3 rfl (Nat.le_of_ble_eq_true rfl) rfl (fun w0 I0 m0 => ?_)
 refine jc_seq (jc_region (jo_pure rfl (pr_assign rfl) (jo_nil (jq_then (jc_seq ?_)))))
 by_cases hal : ((1 ≤ bz ∧ bz ≤ 100000000) ∧ (1 ≤ vz ∧ vz ≤ 64) ∧ (1 ≤ tz ∧ tz ≤ 1000))
 ·skip
  have hlim := lim_of hal
  have hz : bz = ((bz.toNat : Nat) : Int) ∧ vz = ((vz.toNat : Nat) : Int) ∧ tz = ((tz.toNat : Nat) : Int) := by omega
  have hyes : allowB ((bz.toNat : Nat) : Int) ((vz.toNat : Nat) : Int) ((tz.toNat : Nat) : Int) = true := by rw [← hz.1, ← hz.2.1, ← hz.2.2]; exact allow_iff.2 hal
  rw [show (bz : Int) = ((bz.toNat : Nat) : Int) from (Int.toNat_of_nonneg (by omega)).symm]
  rw [show (vz : Int) = ((vz.toNat : Nat) : Int) from (Int.toNat_of_nonneg (by omega)).symm]
  rw [show (tz : Int) = ((tz.toNat : Nat) : Int) from (Int.toNat_of_nonneg (by omega)).symm]
  refine jc_region (jo_pure rfl (pr_move rfl) (jo_pure rfl (pr_move rfl) (jo_pure rfl (pr_move rfl) ?_)))
  refine jo_callp cal_9 (c_store_New bz.toNat vz.toNat tz.toNat (hlim.b) (hlim.v) (hlim.t)) ⟨rfl, rfl, rfl, trivial⟩ rfl (trivial) (fun ⟨nb1, nm1⟩ => ?_)
  refine jo_pure rfl (pr_move rfl) (jo_pure rfl (pr_extract rfl rfl) (jo_pure rfl (pr_extract rfl rfl) (jo_pure rfl (pr_assign rfl) (jo_pure rfl (pr_assign rfl) (jo_nil (jq_then (jc_seq (jc_seq (j_pull1 (j_pull1 (j_nil_row 9 .str ?_)))))))))))
  refine jc_region (jo_pure rfl (pr_move rfl) (jo_pure rfl (pr_move rfl) (jo_pure rfl (pr_move rfl) ?_)))
  refine jo_callp cal_10 (c_ref26_Allowed ((bz.toNat : Nat) : Int) ((vz.toNat : Nat) : Int) ((tz.toNat : Nat) : Int)) ⟨rfl, rfl, rfl, trivial⟩ rfl (trivial) (fun _ => ?_)
  refine jo_pure rfl (pr_not rfl) ?_
  refine jo_nil (jq_then (jc_false rfl (by rw [hyes]; rfl) ?_))
  refine jc_skip (jq_then (jc_seq (jc_region (jo_pure rfl (pr_move rfl) (jo_pure rfl (pr_neq_ptrnil rfl rfl Tryz.underlying22) ?_)))))
  refine jo_pure rfl (pr_move rfl) (jo_run (j := 2) (want := true) rfl rfl (rfl) ?_)
  refine jo_pure rfl (pr_move rfl) (jo_run (j := 2) (want := true) rfl rfl (rfl) ?_)
  refine jo_pure rfl (pr_eqlN (m := 0) (n := 0) rfl rfl) ?_
  refine jo_pure rfl (pr_pick_t rfl (rfl) rfl) ?_
  refine jo_pure rfl (pr_move rfl) ?_
  have ht1 : (decide ((0 : Nat) = 0)) = true := by decide
  refine jo_run (j := 6) (want := true) rfl rfl (ht1) ?_
  refine jo_pure rfl (pr_move rfl) (jo_run (j := 6) (want := true) rfl rfl (ht1) ?_)
  refine j_pull1 ?_
  refine jo_callm [.mpt nm1 tyT (noA)] rfl cal_12 (c_store_Keys nb1 nm1 bz.toNat vz.toNat tz.toNat (totA noA) (.slice none 0 0) (keysA noA) (by decide)) ⟨rfl, trivial⟩ rfl (fun r1 => ?_)
  refine jo_run (j := 6) (want := true) rfl rfl (ht1) ?_
  refine jo_pure rfl (pr_len_row rfl (.head _) Tryz.underlying28) ?_
  refine jo_run (j := 6) (want := true) rfl rfl (ht1) ?_
  refine jo_pure rfl (pr_eqlN (m := (keysA noA).length) (n := 0) rfl rfl) ?_
  refine jo_pure rfl (pr_pick_t rfl (ht1) rfl) ?_
  refine jo_pure rfl (pr_move rfl) ?_
  have ht2 : (decide (((keysA noA).length : Nat) = 0)) = true := by decide
  refine jo_run (j := 12) (want := true) rfl rfl (ht2) ?_
  refine jo_pure rfl (pr_move rfl) (jo_run (j := 12) (want := true) rfl rfl (ht2) ?_)
  refine jo_callq cal_13 (c_store_Bytes nb1 nm1 bz.toNat vz.toNat tz.toNat (totA noA) (.slice none 0 0)) ⟨rfl, trivial⟩ rfl (⟨peek_box (.tail _ (.head _)), trivial⟩) (fun _ => ?_)
  refine jo_run (j := 12) (want := true) rfl rfl (ht2) ?_
  refine jo_pure rfl (pr_eqlN (m := totA noA) (n := 0) rfl rfl) ?_
  refine jo_pure rfl (pr_pick_t rfl (ht2) rfl) ?_
  refine jo_pure rfl (pr_move rfl) ?_
  have ht3 : (decide ((totA noA : Nat) = 0)) = true := by decide
  refine jo_run (j := 17) (want := true) rfl rfl (ht3) ?_
  refine jo_callp cal_11 (c_law28_awake) trivial rfl (trivial) (fun _ => ?_)
  refine jo_pure rfl (pr_pick_t rfl (ht3) rfl) ?_
  refine jo_pure rfl (pr_assign rfl) (jo_nil (jq_then (jc_ret (j_drop (j_drop (j_drop (j_drop ?_)))))))
  exact jq_ret1 rfl () rfl (show (.bool (true) : Value) = (.bool (true)) from rfl) (fun _ h => h)
 ·skip
  refine jc_region (jo_pure rfl (pr_move rfl) (jo_pure rfl (pr_move rfl) (jo_pure rfl (pr_move rfl) ?_)))
  refine jo_callp cal_9 (c_store_New_no bz vz tz (hal)) ⟨rfl, rfl, rfl, trivial⟩ rfl (trivial) (fun _ => ?_)
  refine jo_pure rfl (pr_move rfl) (jo_pure rfl (pr_extract rfl rfl) (jo_pure rfl (pr_extract rfl rfl) (jo_pure rfl (pr_assign rfl) (jo_pure rfl (pr_assign rfl) (jo_nil (jq_then (jc_seq (jc_seq (jc_region (jo_pure rfl (pr_move rfl) (jo_pure rfl (pr_move rfl) (jo_pure rfl (pr_move rfl) ?_))))))))))))
  refine jo_callp cal_10 (c_ref26_Allowed bz vz tz) ⟨rfl, rfl, rfl, trivial⟩ rfl (trivial) (fun _ => ?_)
  refine jo_pure rfl (pr_not rfl) ?_
  refine jo_nil (jq_then (jc_true rfl (by rw [allow_no hal]; rfl) ?_))
  refine jc_seq (jc_region (jo_pure rfl (pr_move rfl) (jo_pure rfl (pr_eql_nilptr rfl rfl Tryz.underlying22) ?_)))
  refine jo_pure rfl (pr_move rfl) (jo_run (j := 2) (want := true) rfl rfl (rfl) ?_)
  refine jo_pure rfl (pr_move rfl) (jo_run (j := 2) (want := true) rfl rfl (rfl) ?_)
  refine jo_pure rfl (pr_eqlN (m := 10) (n := 10) rfl rfl) ?_
  refine jo_pure rfl (pr_pick_t rfl (rfl) rfl) ?_
  refine jo_pure rfl (pr_move rfl) ?_
  have ht4 : (decide ((10 : Nat) = 10)) = true := by decide
  refine jo_run (j := 6) (want := true) rfl rfl (ht4) ?_
  refine jo_callp cal_11 (c_law28_awake) trivial rfl (trivial) (fun _ => ?_)
  refine jo_pure rfl (pr_pick_t rfl (ht4) rfl) ?_
  refine jo_pure rfl (pr_assign rfl) (jo_nil (jq_then (jc_ret (jq_then_ret ?_))))
  exact jq_ret1 rfl () rfl (show (.bool (true) : Value) = (.bool (true)) from rfl) (fun _ h => h)

theorem c_law28_StoreBounds (bz : Int) (vz : Int) (tz : Int) (l : List (Int × Int × Int × Int × Ent × (List (Axs)))) (lv : Value) (hl : l.length ≤ 9223372036854775807) (hme : ∀ o ∈ l, (o.2.2.2.2.1.1.length ≤ 9223372036854775807 ∧ (∀ k ∈ o.2.2.2.2.1.1, k.length ≤ 9223372036854775807) ∧ o.2.2.2.2.1.2.1.length ≤ 9223372036854775807 ∧ o.2.2.2.2.1.2.2.1.length ≤ 9223372036854775807 ∧ o.2.2.2.2.1.2.2.2.2.1.length ≤ 9223372036854775807) ∧ o.2.2.2.2.2.length ≤ 9223372036854775807 ∧ ∀ a ∈ o.2.2.2.2.2, a.2.length ≤ 9223372036854775807) : Con Tryz.prog 5 #[.int .i64 (bz), .int .i64 (vz), .int .i64 (tz), lv] [.imm (.list (.pair (.int .i64) (.pair (.int .i64) (.pair (.int .i64) (.pair (.int .i64) (.pair tyE (.list (.pair .str (.list .str))))))))) (lv) (l)] (fun _ : Unit => .bool (true)) (fun _ => []) := by
 refine con_of_J (args := [.int .i64 (bz), .int .i64 (vz), .int .i64 (tz), lv]) (n := 104) Tryz.func5 rfl (Nat.le_of_ble_eq_true rfl) rfl (fun w0 I0 m0 => ?_)
 refine jc_seq (jc_region (jo_pure rfl (pr_assign rfl) (jo_nil (jq_then (jc_seq (jc_seq (jc_region (jo_pure rfl (pr_move rfl) ?_))))))))
 refine jo_callp cal_14 (c_law28_small l lv (by first | assumption | omega | (have := hk9.1; omega) | exact hk9.2) (by first | assumption | omega | (have := hk9.1; omega) | exact hk9.2)) ⟨rfl, trivial⟩ rfl (⟨⟨rfl, .head _⟩, trivial⟩) (fun _ => ?_)
 refine jo_pure rfl (pr_not rfl) ?_
 refine jo_pure rfl (pr_move rfl) (jo_gpure (j := 3) (want := false) rfl rfl rfl rfl (fun hg=>pr_move rfl) (jo_gpure (j := 3) (want := false) rfl rfl rfl rfl (fun hg=>pr_move rfl) (jo_gpure (j := 3) (want := false) rfl rfl rfl rfl (fun hg=>pr_move rfl) (jo_gcall (j := 3) (want := false) rfl rfl rfl cal_10 (fun hg => c_ref26_Allowed bz vz tz) (fun hg => ⟨evg rfl hg, evg rfl hg, evg rfl hg, trivial⟩) rfl (fun _ => trivial) ?_))))
 refine jo_gpure (j := 3) (want := false) rfl rfl rfl rfl (fun hg=>pr_not (evg rfl hg)) ?_
 refine jo_pure rfl (pr_pick_or rfl rfl rfl) ?_
 refine jo_nil (jq_then ?_)
 refine jc_cond rfl (fun h1b => ?_) (fun h1b => ?_)
 ·have h1 := (fun q => Or.imp (fun q => id (bt_not q)) (fun q => id (bt_not q)) (bt_or q)) h1b
  refine jc_seq (jc_region (jo_pure rfl (pr_assign rfl) (jo_nil (jq_then (jc_ret (jq_then_ret (j_drop ?_)))))))
  exact jq_ret1 rfl () rfl (show (.bool (true) : Value) = (.bool (true)) from rfl) (fun _ h => h)
 ·have h1 := (fun q => And.imp (fun q => id (bf_not q)) (fun q => id (bf_not q)) (bf_or q)) h1b
  have hk := nor_false h1b
  rw [Bool.and_eq_true] at hk
  have hsm : smallL l = true := hk.1
  have hal := allow_iff.1 hk.2
  have hll := small_len hsm
  have hlim := lim_of hal
  have hz : bz = ((bz.toNat : Nat) : Int) ∧ vz = ((vz.toNat : Nat) : Int) ∧ tz = ((tz.toNat : Nat) : Int) := by omega
  rw [show (bz : Int) = ((bz.toNat : Nat) : Int) from (Int.toNat_of_nonneg (by omega)).symm]
  rw [show (vz : Int) = ((vz.toNat : Nat) : Int) from (Int.toNat_of_nonneg (by omega)).symm]
  rw [show (tz : Int) = ((tz.toNat : Nat) : Int) from (Int.toNat_of_nonneg (by omega)).symm]
  refine jc_skip (jq_then (jc_seq (jc_region (jo_pure rfl (pr_move rfl) (jo_pure rfl (pr_move rfl) (jo_pure rfl (pr_move rfl) ?_))))))
  refine jo_callp cal_9 (c_store_New bz.toNat vz.toNat tz.toNat (hlim.b) (hlim.v) (hlim.t)) ⟨rfl, rfl, rfl, trivial⟩ rfl (trivial) (fun ⟨nb1, nm1⟩ => ?_)
  refine jo_pure rfl (pr_move rfl) (jo_pure rfl (pr_extract rfl rfl) (jo_pure rfl (pr_extract rfl rfl) (jo_pure rfl (pr_assign rfl) (jo_pure rfl (pr_assign rfl) (jo_nil (jq_then (jc_seq (jc_seq (j_pull1 (j_pull1 (j_nil_row 9 .str ?_)))))))))))
  refine jc_region (jo_pure rfl (pr_move rfl) (jo_pure rfl (pr_neqN (m := 0) (n := 0) rfl rfl) ?_))
  refine jo_pure rfl (pr_move rfl) (jo_gpure (j := 2) (want := false) rfl rfl rfl rfl (fun hg=>pr_move rfl) (jo_gpure (j := 2) (want := false) rfl rfl rfl rfl (fun hg=>pr_eql_ptrnil (evg rfl hg) rfl Tryz.underlying22) ?_))
  refine jo_pure rfl (pr_pick_or rfl rfl rfl) ?_
  refine jo_nil (jq_then (jc_false rfl (by decide) ?_))
  refine jc_skip (jq_then (jc_seq (jc_seq (jc_region (jo_pure rfl (pr_assign rfl) (jo_nil (jq_then (jc_block ?_))))))))
  refine jc_loop2 (fun (i : Nat) (ow : Value) => [(0, .int .i64 ((bz.toNat : Nat) : Int)), (1, .int .i64 ((vz.toNat : Nat) : Int)), (2, .int .i64 ((tz.toNat : Nat) : Int)), (3, lv), (9, .pointer (some ⟨nb1, 0, none⟩)), (11, .int .i64 ((i : Nat) : Int))]) (fun (i : Nat) (ow : Value) => [.row (ow) 9 .str (keysA (runA bz.toNat vz.toNat tz.toNat noA (l.take i))), .box nb1 68 [.int .i64 ((bz.toNat : Nat) : Int), .int .i64 ((vz.toNat : Nat) : Int), .int .i64 ((tz.toNat : Nat) : Int), .int .i64 ((totA (runA bz.toNat vz.toNat tz.toNat noA (l.take i)) : Nat) : Int), ow, .map (some nm1)], .mpt nm1 tyT (runA bz.toNat vz.toNat tz.toNat noA (l.take i)), .imm (.list (.pair (.int .i64) (.pair (.int .i64) (.pair (.int .i64) (.pair (.int .i64) (.pair tyE (.list (.pair .str (.list .str))))))))) (lv) (l)]) (fun (i : Nat) (ow : Value) => i ≤ l.length) (fun (i : Nat) (ow : Value) => l.length - i) 0 (.slice none 0 0) (Nat.zero_le _) (⟨rfl, rfl, rfl, rfl, rfl, rfl, trivial⟩) (fun _ h => h) (fun i ow hinv => ?_)
  have hst := run_noA hlim hsm i
  refine jc_seq (jc_seq (jc_region (jo_pure rfl (pr_move rfl) (jo_pure rfl (pr_move rfl) (jo_pure rfl (pr_len_imm rfl (.tail _ (.tail _ (.tail _ (.head _)))) Tryz.underlying31) ?_)))))
  refine jo_pure rfl (pr_lssN (m := i) (n := l.length) rfl rfl) ?_
  refine jo_nil (jq_then ?_)
  refine jc_cond rfl (fun h2b => ?_) (fun h2b => ?_)
  ·have h2 := of_decide_eq_true h2b
   refine jc_skip (jq_then (jc_seq (jc_block (jc_seq (jc_region (jo_pure rfl (pr_move rfl) (jo_pure rfl (pr_move rfl) ?_)))))))
   refine j_open_elem (t := (.pair (.int .i64) (.pair (.int .i64) (.pair (.int .i64) (.pair (.int .i64) (.pair tyE (.list (.pair .str (.list .str))))))))) (i := i) (0, (0, (0, (0, (([],[],[],[],[],[],0,0), []))))) (.tail _ (.tail _ (.tail _ (.head _)))) (by omega) (fun ⟨_, ⟨_, ⟨_, ⟨_, ⟨⟨e1, ⟨e2, ⟨e3, ⟨_, ⟨e4, ⟨_, ⟨_, _⟩⟩⟩⟩⟩⟩⟩, e5⟩⟩⟩⟩⟩ => ?_)
   refine jo_pure rfl (pr_idx_imm (i := i) rfl (.tail _ (.tail _ (.tail _ (.tail _ (.tail _ (.tail _ (.tail _ (.tail _ (.tail _ (.head _)))))))))) rfl Tryz.underlying31 ty_43 (by omega)) ?_
   refine jo_pure rfl (pr_load_at (.agg #[.int .i64 (((l.getD i (0, (0, (0, (0, (([],[],[],[],[],[],0,0), []))))))).1), .int .i64 ((((l.getD i (0, (0, (0, (0, (([],[],[],[],[],[],0,0), []))))))).2).1), .int .i64 (((((l.getD i (0, (0, (0, (0, (([],[],[],[],[],[],0,0), []))))))).2).2).1), .int .i64 ((((((l.getD i (0, (0, (0, (0, (([],[],[],[],[],[],0,0), []))))))).2).2).2).1), e1, e2, e3, str (((((((((((l.getD i (0, (0, (0, (0, (([],[],[],[],[],[],0,0), []))))))).2).2).2).2).1).2).2).2).1), e4, str (((((((((((((l.getD i (0, (0, (0, (0, (([],[],[],[],[],[],0,0), []))))))).2).2).2).2).1).2).2).2).2).2).1), .int .i64 ((((((((((((((l.getD i (0, (0, (0, (0, (([],[],[],[],[],[],0,0), []))))))).2).2).2).2).1).2).2).2).2).2).2).1), .int .i64 ((((((((((((((l.getD i (0, (0, (0, (0, (([],[],[],[],[],[],0,0), []))))))).2).2).2).2).1).2).2).2).2).2).2).2), e5]) rfl (.tail _ (.tail _ (.tail _ (.tail _ (.tail _ (.head _)))))) ty_43 (by decide) rfl) ?_
   refine jo_pure rfl (pr_move rfl) (j_dup rfl ?_)
   refine j_pull2 (j_dup rfl ?_)
   refine j_pull4 ?_
   refine j_dup rfl ?_
   refine j_pull6 ?_
   refine j_dup rfl ?_
   refine j_pull8 ?_
   refine j_dup rfl ?_
   refine j_pull2 (j_pull4 ?_)
   refine j_pull6 ?_
   refine j_pull8 ?_
   refine j_pull13 ?_
   refine j_pull12 ?_
   refine j_pull13 ?_
   refine jo_callm [.imm (.list (.pair .str (.list .str))) (e5) (((((((l.getD i (0, (0, (0, (0, (([],[],[],[],[],[],0,0), []))))))).2).2).2).2).2), .imm (.list (.pair .str .str)) (e4) ((((((((((((l.getD i (0, (0, (0, (0, (([],[],[],[],[],[],0,0), []))))))).2).2).2).2).1).2).2).2).2).1), .imm (.list .str) (e3) ((((((((((l.getD i (0, (0, (0, (0, (([],[],[],[],[],[],0,0), []))))))).2).2).2).2).1).2).2).1), .imm (.list .str) (e2) (((((((((l.getD i (0, (0, (0, (0, (([],[],[],[],[],[],0,0), []))))))).2).2).2).2).1).2).1), .imm (.list (.list .str)) (e1) ((((((((l.getD i (0, (0, (0, (0, (([],[],[],[],[],[],0,0), []))))))).2).2).2).2).1).1), .fact (fun w_ I_ => ElemAt w_ I_ (lv) (i) 13 [.int .i64 (((l.getD i (0, (0, (0, (0, (([],[],[],[],[],[],0,0), []))))))).1), .int .i64 ((((l.getD i (0, (0, (0, (0, (([],[],[],[],[],[],0,0), []))))))).2).1), .int .i64 (((((l.getD i (0, (0, (0, (0, (([],[],[],[],[],[],0,0), []))))))).2).2).1), .int .i64 ((((((l.getD i (0, (0, (0, (0, (([],[],[],[],[],[],0,0), []))))))).2).2).2).1), e1, e2, e3, str (((((((((((l.getD i (0, (0, (0, (0, (([],[],[],[],[],[],0,0), []))))))).2).2).2).2).1).2).2).2).1), e4, str (((((((((((((l.getD i (0, (0, (0, (0, (([],[],[],[],[],[],0,0), []))))))).2).2).2).2).1).2).2).2).2).2).1), .int .i64 ((((((((((((((l.getD i (0, (0, (0, (0, (([],[],[],[],[],[],0,0), []))))))).2).2).2).2).1).2).2).2).2).2).2).1), .int .i64 ((((((((((((((l.getD i (0, (0, (0, (0, (([],[],[],[],[],[],0,0), []))))))).2).2).2).2).1).2).2).2).2).2).2).2), e5]), .imm (.list (.pair (.int .i64) (.pair (.int .i64) (.pair (.int .i64) (.pair (.int .i64) (.pair tyE (.list (.pair .str (.list .str))))))))) (lv) (l)] rfl cal_15 (c_do nb1 nm1 bz.toNat vz.toNat tz.toNat ow (runA bz.toNat vz.toNat tz.toNat noA (l.take i)) ((l.getD i (0, (0, (0, (0, (([],[],[],[],[],[],0,0), []))))))) e1 e2 e3 e4 e5 (hlim) (hst) (small_mem hsm _ (getD_mem h2))) ⟨rfl, rfl, trivial⟩ rfl (fun r1 => ?_)
   refine jo_nil (jq_then (jc_seq ?_))
   rw [← run_next (dd := (0, (0, (0, (0, (([],[],[],[],[],[],0,0), [])))))) h2]
   have hst2 := run_noA hlim hsm (i + 1)
   generalize hA2 : runA bz.toNat vz.toNat tz.toNat noA (l.take (i + 1)) = A2 at hst2 ⊢
   have hlen := hst2.len hlim
   have hlk := len_keys A2
   have hok2 := hst2.ok
   have htt := hst2.inv.tot
   refine jc_region (jo_pure rfl (pr_move rfl) (j_pull2 (j_pull2 ?_)))
   refine jo_callm [.mpt nm1 tyT (A2), .imm (.list (.pair .str (.list .str))) (e5) (((((((l.getD i (0, (0, (0, (0, (([],[],[],[],[],[],0,0), []))))))).2).2).2).2).2), .imm (.list (.pair .str .str)) (e4) ((((((((((((l.getD i (0, (0, (0, (0, (([],[],[],[],[],[],0,0), []))))))).2).2).2).2).1).2).2).2).2).1), .imm (.list .str) (e3) ((((((((((l.getD i (0, (0, (0, (0, (([],[],[],[],[],[],0,0), []))))))).2).2).2).2).1).2).2).1), .imm (.list .str) (e2) (((((((((l.getD i (0, (0, (0, (0, (([],[],[],[],[],[],0,0), []))))))).2).2).2).2).1).2).1), .imm (.list (.list .str)) (e1) ((((((((l.getD i (0, (0, (0, (0, (([],[],[],[],[],[],0,0), []))))))).2).2).2).2).1).1), .fact (fun w_ I_ => ElemAt w_ I_ (lv) (i) 13 [.int .i64 (((l.getD i (0, (0, (0, (0, (([],[],[],[],[],[],0,0), []))))))).1), .int .i64 ((((l.getD i (0, (0, (0, (0, (([],[],[],[],[],[],0,0), []))))))).2).1), .int .i64 (((((l.getD i (0, (0, (0, (0, (([],[],[],[],[],[],0,0), []))))))).2).2).1), .int .i64 ((((((l.getD i (0, (0, (0, (0, (([],[],[],[],[],[],0,0), []))))))).2).2).2).1), e1, e2, e3, str (((((((((((l.getD i (0, (0, (0, (0, (([],[],[],[],[],[],0,0), []))))))).2).2).2).2).1).2).2).2).1), e4, str (((((((((((((l.getD i (0, (0, (0, (0, (([],[],[],[],[],[],0,0), []))))))).2).2).2).2).1).2).2).2).2).2).1), .int .i64 ((((((((((((((l.getD i (0, (0, (0, (0, (([],[],[],[],[],[],0,0), []))))))).2).2).2).2).1).2).2).2).2).2).2).1), .int .i64 ((((((((((((((l.getD i (0, (0, (0, (0, (([],[],[],[],[],[],0,0), []))))))).2).2).2).2).1).2).2).2).2).2).2).2), e5]), .imm (.list (.pair (.int .i64) (.pair (.int .i64) (.pair (.int .i64) (.pair (.int .i64) (.pair tyE (.list (.pair .str (.list .str))))))))) (lv) (l)] rfl cal_12 (c_store_Keys nb1 nm1 bz.toNat vz.toNat tz.toNat (totA A2) r1 (keysA A2) (by omega)) ⟨rfl, trivial⟩ rfl (fun r2 => ?_)
   refine jo_pure rfl (pr_assign rfl) (jo_nil (jq_then (jc_seq (jc_region (jo_pure rfl (pr_assign rfl) (jo_nil (jq_then (jc_seq (jc_seq (jc_region (jo_pure rfl (pr_assign rfl) (jo_nil (jq_then (jc_block ?_))))))))))))))
   refine jc_loop2 (fun (k : Nat) (sm : Nat) => [(0, .int .i64 ((bz.toNat : Nat) : Int)), (1, .int .i64 ((vz.toNat : Nat) : Int)), (2, .int .i64 ((tz.toNat : Nat) : Int)), (3, lv), (9, .pointer (some ⟨nb1, 0, none⟩)), (11, .int .i64 ((i : Nat) : Int)), (12, r2), (13, .int .i64 ((sm : Nat) : Int)), (14, .int .i64 ((k : Nat) : Int))]) (fun (k : Nat) (sm : Nat) => [.row (r2) 9 .str (keysA A2), .box nb1 68 [.int .i64 ((bz.toNat : Nat) : Int), .int .i64 ((vz.toNat : Nat) : Int), .int .i64 ((tz.toNat : Nat) : Int), .int .i64 ((totA A2 : Nat) : Int), r1, .map (some nm1)], .row (r1) 9 .str (keysA A2), .mpt nm1 tyT (A2), .imm (.list (.pair .str (.list .str))) (e5) (((((((l.getD i (0, (0, (0, (0, (([],[],[],[],[],[],0,0), []))))))).2).2).2).2).2), .imm (.list (.pair .str .str)) (e4) ((((((((((((l.getD i (0, (0, (0, (0, (([],[],[],[],[],[],0,0), []))))))).2).2).2).2).1).2).2).2).2).1), .imm (.list .str) (e3) ((((((((((l.getD i (0, (0, (0, (0, (([],[],[],[],[],[],0,0), []))))))).2).2).2).2).1).2).2).1), .imm (.list .str) (e2) (((((((((l.getD i (0, (0, (0, (0, (([],[],[],[],[],[],0,0), []))))))).2).2).2).2).1).2).1), .imm (.list (.list .str)) (e1) ((((((((l.getD i (0, (0, (0, (0, (([],[],[],[],[],[],0,0), []))))))).2).2).2).2).1).1), .fact (fun w_ I_ => ElemAt w_ I_ (lv) (i) 13 [.int .i64 (((l.getD i (0, (0, (0, (0, (([],[],[],[],[],[],0,0), []))))))).1), .int .i64 ((((l.getD i (0, (0, (0, (0, (([],[],[],[],[],[],0,0), []))))))).2).1), .int .i64 (((((l.getD i (0, (0, (0, (0, (([],[],[],[],[],[],0,0), []))))))).2).2).1), .int .i64 ((((((l.getD i (0, (0, (0, (0, (([],[],[],[],[],[],0,0), []))))))).2).2).2).1), e1, e2, e3, str (((((((((((l.getD i (0, (0, (0, (0, (([],[],[],[],[],[],0,0), []))))))).2).2).2).2).1).2).2).2).1), e4, str (((((((((((((l.getD i (0, (0, (0, (0, (([],[],[],[],[],[],0,0), []))))))).2).2).2).2).1).2).2).2).2).2).1), .int .i64 ((((((((((((((l.getD i (0, (0, (0, (0, (([],[],[],[],[],[],0,0), []))))))).2).2).2).2).1).2).2).2).2).2).2).1), .int .i64 ((((((((((((((l.getD i (0, (0, (0, (0, (([],[],[],[],[],[],0,0), []))))))).2).2).2).2).1).2).2).2).2).2).2).2), e5]), .imm (.list (.pair (.int .i64) (.pair (.int .i64) (.pair (.int .i64) (.pair (.int .i64) (.pair tyE (.list (.pair .str (.list .str))))))))) (lv) (l)]) (fun (k : Nat) (sm : Nat) => k ≤ A2.length ∧ sm = totA (A2.take k)) (fun (k : Nat) (sm : Nat) => A2.length - k) 0 0 (⟨Nat.zero_le _, rfl⟩) (⟨rfl, rfl, rfl, rfl, rfl, rfl, rfl, rfl, rfl, trivial⟩) (fun _ h => h) (fun k sm hin2 => ?_)
   refine jc_seq (jc_seq (jc_region (jo_pure rfl (pr_move rfl) (jo_pure rfl (pr_move rfl) (jo_pure rfl (pr_len_row rfl (.head _) Tryz.underlying28) ?_)))))
   refine jo_pure rfl (pr_lssN (m := k) (n := (keysA A2).length) rfl rfl) ?_
   refine jo_nil (jq_then ?_)
   refine jc_cond rfl (fun h3b => ?_) (fun h3b => ?_)
   ·have h3 := of_decide_eq_true h3b
    have hkA : k < A2.length := by omega
    have hat := at_key hst2 hkA
    have hfo := okT_find hok2 ((keysA A2).getD k [])
    have hk9 : sizeL (findA A2 ((keysA A2).getD k [])).2 ≤ 1000000000000000 ∧ ∀ e ∈ (findA A2 ((keysA A2).getD k [])).2, OkE e := ⟨by have := hfo.size; omega, hfo.ents⟩
    refine jc_skip (jq_then (jc_seq (jc_block (jc_seq (jc_region (jo_pure rfl (pr_move rfl) (jo_pure rfl (pr_move rfl) (jo_pure rfl (pr_move rfl) (jo_pure rfl (pr_idx_row (i := k) rfl (.head _) rfl Tryz.underlying28 ty_9 (by omega)) ?_)))))))))
    refine jo_pure rfl (pr_load_elem_row (i := k) (str ((keysA A2).getD k [])) rfl (.head _) ty_9 rfl rfl (by omega) rfl) ?_
    refine j_pull3 (j_pull2 ?_)
    refine jo_callm [.row (r2) 9 .str (keysA A2), .row (r1) 9 .str (keysA A2), .imm (.list (.pair .str (.list .str))) (e5) (((((((l.getD i (0, (0, (0, (0, (([],[],[],[],[],[],0,0), []))))))).2).2).2).2).2), .imm (.list (.pair .str .str)) (e4) ((((((((((((l.getD i (0, (0, (0, (0, (([],[],[],[],[],[],0,0), []))))))).2).2).2).2).1).2).2).2).2).1), .imm (.list .str) (e3) ((((((((((l.getD i (0, (0, (0, (0, (([],[],[],[],[],[],0,0), []))))))).2).2).2).2).1).2).2).1), .imm (.list .str) (e2) (((((((((l.getD i (0, (0, (0, (0, (([],[],[],[],[],[],0,0), []))))))).2).2).2).2).1).2).1), .imm (.list (.list .str)) (e1) ((((((((l.getD i (0, (0, (0, (0, (([],[],[],[],[],[],0,0), []))))))).2).2).2).2).1).1), .fact (fun w_ I_ => ElemAt w_ I_ (lv) (i) 13 [.int .i64 (((l.getD i (0, (0, (0, (0, (([],[],[],[],[],[],0,0), []))))))).1), .int .i64 ((((l.getD i (0, (0, (0, (0, (([],[],[],[],[],[],0,0), []))))))).2).1), .int .i64 (((((l.getD i (0, (0, (0, (0, (([],[],[],[],[],[],0,0), []))))))).2).2).1), .int .i64 ((((((l.getD i (0, (0, (0, (0, (([],[],[],[],[],[],0,0), []))))))).2).2).2).1), e1, e2, e3, str (((((((((((l.getD i (0, (0, (0, (0, (([],[],[],[],[],[],0,0), []))))))).2).2).2).2).1).2).2).2).1), e4, str (((((((((((((l.getD i (0, (0, (0, (0, (([],[],[],[],[],[],0,0), []))))))).2).2).2).2).1).2).2).2).2).2).1), .int .i64 ((((((((((((((l.getD i (0, (0, (0, (0, (([],[],[],[],[],[],0,0), []))))))).2).2).2).2).1).2).2).2).2).2).2).1), .int .i64 ((((((((((((((l.getD i (0, (0, (0, (0, (([],[],[],[],[],[],0,0), []))))))).2).2).2).2).1).2).2).2).2).2).2).2), e5]), .imm (.list (.pair (.int .i64) (.pair (.int .i64) (.pair (.int .i64) (.pair (.int .i64) (.pair tyE (.list (.pair .str (.list .str))))))))) (lv) (l)] rfl cal_18 (c_store_Get nb1 nm1 bz.toNat vz.toNat tz.toNat (.int .i64 ((totA A2 : Nat) : Int)) r1 A2 ((keysA A2).getD k []) (hok2)) ⟨rfl, rfl, trivial⟩ rfl (fun ⟨r3, r4⟩ => ?_)
    refine jo_pure rfl (pr_move rfl) (jo_pure rfl (pr_extract rfl rfl) (jo_pure rfl (pr_extract rfl rfl) ?_))
    refine jo_alloc ty_50 [.slice none 0 0, .slice none 0 0] rfl rfl (fun b1 => ?_)
    refine jo_storeV rfl rfl ty_50 [r3, r4] (fun _ _ _ _ => rfl) rfl (fun w I m hs => by simp only [List.all_cons, List.all_nil, Bool.and_true, Bool.and_eq_true]; exact ⟨(SliceV.one (imm_slice (.tail _ (.head _)) hs)), (SliceV.one (row_slice (.tail _ (.tail _ (.head _))) hs))⟩) [r3, r4] rfl rfl ?_
    refine jo_pure rfl (pr_assign rfl) (jo_nil (jq_then (jc_seq (jc_seq (jc_region (jo_pure rfl (pr_move rfl) (jo_pure rfl (pr_not rfl) (jo_pure rfl (pr_move rfl) (jo_gpure (j := 2) (want := false) rfl rfl rfl rfl (fun hg=>pr_fieldAddr 1 rfl Tryz.underlying50 rfl ty_48 rfl rfl) ?_)))))))))
    refine jo_gpure (j := 2) (want := false) rfl rfl rfl rfl (fun hg=>pr_load_box (r4) (evg rfl hg) ty_48 (.head _) rfl (by decide) rfl) ?_
    refine jo_gpure (j := 2) (want := false) rfl rfl rfl rfl (fun hg=>pr_len_row (evg rfl hg) (.tail _ (.tail _ (.head _))) Tryz.underlying48) ?_
    refine jo_gpure (j := 2) (want := false) rfl rfl rfl rfl (fun hg=>pr_lssN (m := ((findA A2 ((keysA A2).getD k [])).2).length) (n := 1) (evg rfl hg) rfl) ?_
    refine jo_pure rfl (pr_pick_or rfl rfl rfl) ?_
    refine jo_pure rfl (pr_move rfl) (jo_gpure (j := 8) (want := false) rfl rfl rfl rfl (fun hg=>pr_fieldAddr 1 rfl Tryz.underlying50 rfl ty_48 rfl rfl) ?_)
    refine jo_gpure (j := 8) (want := false) rfl rfl rfl rfl (fun hg=>pr_load_box (r4) (evg rfl hg) ty_48 (.head _) rfl (by decide) rfl) ?_
    refine jo_gpure (j := 8) (want := false) rfl rfl rfl rfl (fun hg=>pr_len_row (evg rfl hg) (.tail _ (.tail _ (.head _))) Tryz.underlying48) ?_
    refine jo_gpure (j := 8) (want := false) rfl rfl rfl rfl (fun hg=>pr_move rfl) ?_
    refine jo_gpure (j := 8) (want := false) rfl rfl rfl rfl (fun hg=>pr_gtrN (m := ((findA A2 ((keysA A2).getD k [])).2).length) (n := vz.toNat) (evg rfl hg) (evg rfl hg)) ?_
    refine jo_pure rfl (pr_pick_or rfl rfl rfl) ?_
    refine jo_nil (jq_then ?_)
    refine jc_cond rfl (fun h4b => ?_) (fun h4b => ?_)
    ·have h4 := (fun q => Or.imp (fun q => Or.imp (fun q => id (bt_not q)) of_decide_eq_true (bt_or q)) of_decide_eq_true (bt_or q)) h4b
     exact absurd h4b (by simp only [hat.1, Bool.not_true, Bool.false_or, Bool.or_eq_true, decide_eq_true_eq]; omega)
    ·have h4 := (fun q => And.imp (fun q => And.imp (fun q => id (bf_not q)) of_decide_eq_false (bf_or q)) of_decide_eq_false (bf_or q)) h4b
     refine jc_skip (jq_then (jc_region (jo_pure rfl (pr_move rfl) (jo_pure rfl (pr_load_box (.agg #[r3, r4]) rfl ty_50 (.head _) rfl (by decide) rfl) ?_))))
     refine j_pull2 (j_pub_row ?_)
     have con1 := c_table_Size (findA A2 ((keysA A2).getD k [])) r3 r4 (by first | assumption | omega | (have := hk9.1; omega) | exact hk9.2) (by first | assumption | omega | (have := hk9.1; omega) | exact hk9.2)
     refine jo_callp cal_19 con1 (by exact ⟨rfl, trivial⟩) rfl (by exact ⟨⟨rfl, .tail _ (.tail _ (.head _))⟩, ⟨⟨rfl, .head _⟩, trivial⟩⟩) (fun _ => ?_)
     clear con1
     refine jo_pure rfl (pr_addN (m := sm) (n := sizeL (findA A2 ((keysA A2).getD k [])).2) rfl rfl (by omega)) ?_
     refine jo_pure rfl (pr_assign rfl) (jo_nil (jq_in_normal (jq_then (jc_region (jo_pure rfl (pr_move rfl) (jo_pure rfl (pr_addN (m := k) (n := 1) rfl rfl (by omega)) ?_))))))
     refine jo_pure rfl (pr_assign rfl) (jo_nil (j_drop (j_drop (j_drop (j_pull10 ?_)))))
     refine j_pull10 ?_
     refine j_pull10 ?_
     refine j_pull10 ?_
     refine j_pull10 ?_
     refine j_pull10 ?_
     refine j_pull10 ?_
     refine j_pull8 ?_
     refine j_pull10 ?_
     refine j_pull9 ?_
     refine j_pull10 ?_
     refine jq_round' ((k + 1), (sm + (sizeL (findA A2 ((keysA A2).getD k [])).2))) (by (try dsimp only); exact (⟨by omega, by rw [hat.2.2.2.1, hin2.2]⟩)) (by (try dsimp only); exact (by omega)) ⟨rfl, rfl, rfl, rfl, rfl, rfl, rfl, rfl, rfl, trivial⟩ (fun _ h => h)
   ·have h3 := of_decide_eq_false h3b
    refine jc_exit ?_
    refine jq_then_exit ?_
    refine jq_then_exit ?_
    refine jq_in_hit ?_
    refine jq_then (jc_seq (jc_region (jo_pure rfl (pr_move rfl) (jo_pure rfl (pr_move rfl) ?_))))
    refine jo_callq cal_13 (c_store_Bytes nb1 nm1 bz.toNat vz.toNat tz.toNat (totA A2) r1) ⟨rfl, trivial⟩ rfl (⟨peek_box (.tail _ (.head _)), trivial⟩) (fun _ => ?_)
    refine jo_pure rfl (pr_neqN (m := sm) (n := totA A2) rfl rfl) ?_
    refine jo_pure rfl (pr_move rfl) (jo_gpure (j := 4) (want := false) rfl rfl rfl rfl (fun hg=>pr_move rfl) (jo_gpure (j := 4) (want := false) rfl rfl rfl rfl (fun hg=>pr_move rfl) (jo_gpure (j := 4) (want := false) rfl rfl rfl rfl (fun hg=>pr_gtrN (m := sm) (n := bz.toNat) (evg rfl hg) (evg rfl hg)) ?_)))
    refine jo_pure rfl (pr_pick_or rfl rfl rfl) ?_
    refine jo_pure rfl (pr_move rfl) (jo_gpure (j := 9) (want := false) rfl rfl rfl rfl (fun hg=>pr_move rfl) (jo_gpure (j := 9) (want := false) rfl rfl rfl rfl (fun hg=>pr_len_row (evg rfl hg) (.head _) Tryz.underlying28) ?_))
    refine jo_gpure (j := 9) (want := false) rfl rfl rfl rfl (fun hg=>pr_move rfl) ?_
    refine jo_gpure (j := 9) (want := false) rfl rfl rfl rfl (fun hg=>pr_gtrN (m := (keysA A2).length) (n := tz.toNat) (evg rfl hg) (evg rfl hg)) ?_
    refine jo_pure rfl (pr_pick_or rfl rfl rfl) ?_
    refine jo_nil (jq_then ?_)
    refine jc_cond rfl (fun h5b => ?_) (fun h5b => ?_)
    ·have h5 := (fun q => Or.imp (fun q => Or.imp (fun q => of_decide_eq_false (bt_not q)) of_decide_eq_true (bt_or q)) of_decide_eq_true (bt_or q)) h5b
     exact absurd h5 (by have hs2 : sm = totA A2 := (by rw [hin2.2, List.take_of_length_le (by omega)]); omega)
    ·have h5 := (fun q => And.imp (fun q => And.imp (fun q => of_decide_eq_true (bf_not q)) of_decide_eq_false (bf_or q)) of_decide_eq_false (bf_or q)) h5b
     refine jc_skip (jq_in_normal (jq_then (jc_region (jo_pure rfl (pr_move rfl) (jo_pure rfl (pr_addN (m := i) (n := 1) rfl rfl (by omega)) ?_)))))
     refine jo_pure rfl (pr_assign rfl) (jo_nil (j_drop (j_pull3 (j_drop (j_pull3 (j_drop (j_pull3 (j_drop (j_pull3 (j_drop (j_pull3 (j_drop (j_pull3 (j_drop (j_pull3 (j_pull3 (j_pull2 (j_pull3 ?_))))))))))))))))))
     refine jq_round' ((i + 1), r1) (by (try dsimp only); exact (by omega)) (by (try dsimp only); exact (by omega)) ⟨rfl, rfl, rfl, rfl, rfl, rfl, trivial⟩ (fun _ h => by rw [hA2]; exact h)
  ·have h2 := of_decide_eq_false h2b
   refine jc_exit ?_
   refine jq_then_exit ?_
   refine jq_then_exit ?_
   refine jq_in_hit ?_
   refine jq_then (jc_seq (jc_region ?_))
   refine jo_callp cal_11 (c_law28_awake) trivial rfl (trivial) (fun _ => ?_)
   refine jo_pure rfl (pr_assign rfl) (jo_nil (jq_then (jc_ret (j_drop (j_drop (j_drop (j_drop ?_)))))))
   exact jq_ret1 rfl () rfl (show (.bool (true) : Value) = (.bool (true)) from rfl) (fun _ h => h)
end Go.Proofs.YtlniaacdjllonaaGreat
