/-
 Contracts of functions of the program: each returns what a plain function says, for every input within the bounds named. Conditions: the bounds.
-/
import Derived.Test.YtlniaacdjllonaaGreatRows
import Derived.Test.YtlniaacdjllonaaGreatWK4
import Derived.Test.YtlniaacdjllonaaGreatWSep4
import Derived.Test.YtlniaacdjllonaaGreatWSep5
import Derived.Test.YtlniaacdjllonaaGreatWSep7
import Derived.Test.YtlniaacdjllonaaGreatWLawC
import Derived.Test.YtlniaacdjllonaaGreatWLawI
namespace Go.Proofs.YtlniaacdjllonaaGreat
open Go Go.Sep
set_option linter.unusedSimpArgs false
set_option linter.unusedVariables false

open Go.Plain

theorem cal_45 : Cal Tryz.prog 45 := cal_of Tryz.func45 (by kernel_rfl) rfl
theorem cal_67 : Cal Tryz.prog 67 := cal_of Tryz.func67 (by kernel_rfl) rfl
theorem ty_37 : TyF Tryz.prog 37 false 1 24 (some (.slice none 0 0)) := ⟨by kernel_rfl, by kernel_rfl⟩
theorem ty_38 : TyF Tryz.prog 38 false 1 24 (some (.slice none 0 0)) := ⟨by kernel_rfl, by kernel_rfl⟩
theorem ty_40 : TyF Tryz.prog 40 true 8 144 (some (.agg #[.slice none 0 0, .slice none 0 0, .slice none 0 0, str ([]), .slice none 0 0, str ([]), .int .i64 ((0 : Nat) : Int), .int .i64 ((0 : Nat) : Int)])) := ⟨by kernel_rfl, by kernel_rfl⟩
theorem ty_48 : TyF Tryz.prog 48 false 1 24 (some (.slice none 0 0)) := ⟨by kernel_rfl, by kernel_rfl⟩

theorem c_entry_lengths (l : List Str) (lv : Value) (hb : lenS l ≤ 1000000000000000) : Con Tryz.prog 67 #[lv] [.imm (.list .str) (lv) (l)] (fun _ : Unit => .int .i64 ((lenS l : Nat) : Int)) (fun _ => []) := by
 refine con_of_J (args := [lv]) (n := 19) Tryz.func67 rfl (Nat.le_of_ble_eq_true rfl) rfl (fun w0 I0 m0 => ?_)
 have hl := lenS_len l
 refine jc_seq (jc_region (jo_pure rfl (pr_assign rfl) (jo_nil (jq_then (jc_seq (jc_region (jo_pure rfl (pr_assign rfl) (jo_nil (jq_then (jc_seq (jc_seq (jc_region (jo_pure rfl (pr_move rfl) (jo_pure rfl (pr_len_imm rfl (.head _) Tryz.underlying28) ?_))))))))))))))
 refine jo_pure rfl (pr_move rfl) (jo_nil (jq_then (jc_block ?_)))
 refine jc_loop2 (fun (i : Nat) (n : Nat) => [(3, .int .i64 ((n : Nat) : Int)), (6, lv), (7, .int .i64 ((l.length : Nat) : Int)), (8, .int .i64 ((i : Nat) : Int))]) (fun (i : Nat) (n : Nat) => [.imm (.list .str) (lv) (l)]) (fun (i : Nat) (n : Nat) => i ≤ l.length ∧ n = lenS (l.take i)) (fun (i : Nat) (n : Nat) => l.length - i) 0 0 (⟨Nat.zero_le _, rfl⟩) (⟨rfl, rfl, rfl, rfl, trivial⟩) (fun _ h => h) (fun i n hinv => ?_)
 refine jc_seq (jc_region (jo_pure rfl (pr_lssN (m := i) (n := l.length) rfl rfl) ?_))
 refine jo_nil (jq_then (jc_seq ?_))
 refine jc_cond rfl (fun h1b => ?_) (fun h1b => ?_)
 ·have h1 := of_decide_eq_true h1b
  have hs := lenS_step h1
  have hs2 := lenS_le l (i + 1)
  refine jc_skip (jq_then (jc_seq (jc_block (jc_seq (jc_region (jo_pure rfl (pr_idx_imm (i := i) rfl (.head _) rfl Tryz.underlying28 ty_9 (by omega)) ?_))))))
  refine jo_pure rfl (pr_load_elem_imm (i := i) (str (l.getD i [])) rfl (.head _) ty_9 rfl rfl (by omega) rfl) ?_
  refine jo_pure rfl (pr_assign rfl) (jo_nil (jq_then (jc_region (jo_pure rfl (pr_move rfl) (jo_pure rfl (pr_move rfl) (jo_pure rfl (pr_slen rfl Tryz.underlying9) ?_))))))
  refine jo_pure rfl (pr_addN (m := 4) (n := (l.getD i []).length) rfl rfl (by omega)) ?_
  refine jo_pure rfl (pr_addN (m := n) (n := 4 + ((l.getD i []).length)) rfl rfl (by omega)) ?_
  refine jo_pure rfl (pr_assign rfl) (jo_nil (jq_in_normal (jq_then (jc_region (jo_pure rfl (pr_addN (m := i) (n := 1) rfl rfl (by omega)) ?_)))))
  refine jo_pure rfl (pr_move rfl) (jo_nil ?_)
  refine jq_round' ((i + 1), (n + (4 + ((l.getD i []).length)))) (by (try dsimp only); exact (⟨by omega, by rw [hs, hinv.2]⟩)) (by (try dsimp only); exact (by omega)) ⟨rfl, rfl, rfl, rfl, trivial⟩ (fun _ h => h)
 ·have h1 := of_decide_eq_false h1b
  refine jc_exit ?_
  refine jq_then_exit ?_
  refine jq_then_exit ?_
  refine jq_in_hit ?_
  refine jq_then (jc_seq (jc_region (jo_pure rfl (pr_move rfl) (jo_pure rfl (pr_assign rfl) (jo_nil (jq_then (jc_ret (j_drop ?_))))))))
  exact jq_ret1 rfl () rfl (show (.int .i64 ((lenS l : Nat) : Int) : Value) = (.int .i64 ((n : Nat) : Int)) from by rw [hinv.2, List.take_of_length_le (by omega)]) (fun _ h => h)

theorem c_entry_Size (en : Ent) (env : Value) (env2 : Value) (env3 : Value) (env4 : Value) (he : OkE en) : Con Tryz.prog 45 #[.agg #[env, env2, env3, str (en.2.2.2.1), env4, str (en.2.2.2.2.2.1), .int .i64 (en.2.2.2.2.2.2.1), .int .i64 (en.2.2.2.2.2.2.2)]] [.imm (.list (.list .str)) (env) (en.1), .imm (.list .str) (env2) (en.2.1), .imm (.list .str) (env3) (en.2.2.1), .imm (.list (.pair .str .str)) (env4) (en.2.2.2.2.1)] (fun _ : Unit => .int .i64 ((sizeE en : Nat) : Int)) (fun _ => []) := by
 refine con_of_J (args := [.agg #[env, env2, env3, str (en.2.2.2.1), env4, str (en.2.2.2.2.2.1), .int .i64 (en.2.2.2.2.2.2.1), .int .i64 (en.2.2.2.2.2.2.2)]]) (n := 55) Tryz.func45 rfl (Nat.le_of_ble_eq_true rfl) rfl (fun w0 I0 m0 => ?_)
 have hbe := he.size
 unfold sizeE at hbe
 obtain ⟨hkl, hkm, hvl, hsl, hfl⟩ := he.lens
 refine jc_seq (jc_region ?_)
 refine jo_box rfl [env, env2, env3, str (en.2.2.2.1), env4, str (en.2.2.2.2.2.1), .int .i64 (en.2.2.2.2.2.2.1), .int .i64 (en.2.2.2.2.2.2.2)] rfl rfl (fun b1 => ?_)
 refine jo_pure rfl (pr_assign rfl) (jo_nil (jq_then (jc_seq (jc_draws mixed (by kernel_rfl) (jd_pure rfl (pr_fieldAddr 3 rfl Tryz.underlying40 rfl ty_9 rfl rfl) ?_)))))
 refine jd_pure rfl (pr_load_box (str (en.2.2.2.1)) rfl ty_9 (.head _) rfl (by decide) rfl) ?_
 refine jd_pure rfl (pr_slen rfl Tryz.underlying9) ?_
 refine jd_pure rfl (pr_addN (m := 100) (n := en.2.2.2.1.length) rfl rfl (by omega)) ?_
 refine jd_pure rfl (pr_fieldAddr 5 rfl Tryz.underlying40 rfl ty_9 rfl rfl) ?_
 refine jd_pure rfl (pr_load_box (str (en.2.2.2.2.2.1)) rfl ty_9 (.head _) rfl (by decide) rfl) ?_
 refine jd_pure rfl (pr_slen rfl Tryz.underlying9) ?_
 refine jd_pure rfl (pr_addN (m := 100 + en.2.2.2.1.length) (n := en.2.2.2.2.2.1.length) rfl rfl (by omega)) ?_
 refine jd_pure rfl (pr_fieldAddr 1 rfl Tryz.underlying40 rfl ty_28 rfl rfl) ?_
 refine jd_pure rfl (pr_load_box (env2) rfl ty_28 (.head _) rfl (by decide) rfl) ?_
 refine jd_callp cal_67 (c_entry_lengths en.2.1 env2 (by first | omega | (have := sum_mem lenS (getD_mem (dd := []) h2); have : lenK en.1 = (en.1.map lenS).sum := rfl; omega))) ⟨rfl, trivial⟩ rfl (⟨⟨rfl, .tail _ (.tail _ (.head _))⟩, trivial⟩) ?_
 refine jd_pure rfl (pr_addN (m := (100 + en.2.2.2.1.length) + en.2.2.2.2.2.1.length) (n := lenS en.2.1) rfl rfl (by omega)) ?_
 refine jd_pure rfl (pr_fieldAddr 2 rfl Tryz.underlying40 rfl ty_28 rfl rfl) ?_
 refine jd_pure rfl (pr_load_box (env3) rfl ty_28 (.head _) rfl (by decide) rfl) ?_
 refine jd_callp cal_67 (c_entry_lengths en.2.2.1 env3 (by first | omega | (have := sum_mem lenS (getD_mem (dd := []) h2); have : lenK en.1 = (en.1.map lenS).sum := rfl; omega))) ⟨rfl, trivial⟩ rfl (⟨⟨rfl, .tail _ (.tail _ (.tail _ (.head _)))⟩, trivial⟩) ?_
 refine jd_pure rfl (pr_addN (m := ((100 + en.2.2.2.1.length) + en.2.2.2.2.2.1.length) + (lenS en.2.1)) (n := lenS en.2.2.1) rfl rfl (by omega)) ?_
 refine jd_pure rfl (pr_assign rfl) ?_
 refine jd_nil ?_
 refine jq_then (jc_seq (jc_seq (jc_region (jo_pure rfl (pr_fieldAddr 4 rfl Tryz.underlying40 rfl ty_38 rfl rfl) ?_))))
 refine jo_pure rfl (pr_load_box (env4) rfl ty_38 (.head _) rfl (by decide) rfl) ?_
 refine jo_pure rfl (pr_len_imm rfl (.tail _ (.tail _ (.tail _ (.tail _ (.head _))))) Tryz.underlying38) ?_
 refine jo_pure rfl (pr_move rfl) (jo_nil (jq_then (jc_block ?_)))
 refine jc_loop2 (fun (i : Nat) (n : Nat) => [(1, .pointer (some ⟨b1, 0, none⟩)), (3, .int .i64 ((n : Nat) : Int)), (25, env4), (26, .int .i64 ((en.2.2.2.2.1.length : Nat) : Int)), (27, .int .i64 ((i : Nat) : Int))]) (fun (i : Nat) (n : Nat) => [.box b1 40 [env, env2, env3, str (en.2.2.2.1), env4, str (en.2.2.2.2.2.1), .int .i64 (en.2.2.2.2.2.2.1), .int .i64 (en.2.2.2.2.2.2.2)], .imm (.list (.list .str)) (env) (en.1), .imm (.list .str) (env2) (en.2.1), .imm (.list .str) (env3) (en.2.2.1), .imm (.list (.pair .str .str)) (env4) (en.2.2.2.2.1)]) (fun (i : Nat) (n : Nat) => i ≤ en.2.2.2.2.1.length ∧ n = 100 + en.2.2.2.1.length + en.2.2.2.2.2.1.length + lenS en.2.1 + lenS en.2.2.1 + lenF (en.2.2.2.2.1.take i)) (fun (i : Nat) (n : Nat) => en.2.2.2.2.1.length - i) 0 ((((100 + en.2.2.2.1.length) + en.2.2.2.2.2.1.length) + (lenS en.2.1)) + (lenS en.2.2.1)) (⟨Nat.zero_le _, rfl⟩) (⟨rfl, rfl, rfl, rfl, rfl, trivial⟩) (fun _ h => h) (fun i n hinv => ?_)
 refine jc_seq (jc_region (jo_pure rfl (pr_lssN (m := i) (n := en.2.2.2.2.1.length) rfl rfl) ?_))
 refine jo_nil (jq_then (jc_seq ?_))
 refine jc_cond rfl (fun h1b => ?_) (fun h1b => ?_)
 ·have h1 := of_decide_eq_true h1b
  have hs1 := lenF_step h1
  have hs2 := lenF_le en.2.2.2.2.1 (i + 1)
  refine jc_skip (jq_then (jc_seq (jc_block (jc_seq (jc_region (jo_pure rfl (pr_idx_imm (i := i) rfl (.tail _ (.tail _ (.tail _ (.tail _ (.head _))))) rfl Tryz.underlying38 ty_80 (by omega)) ?_))))))
  refine jo_pure rfl (pr_load_elem_imm (i := i) (.agg #[str ((en.2.2.2.2.1.getD i ([], [])).1), str ((en.2.2.2.2.1.getD i ([], [])).2)]) rfl (.tail _ (.tail _ (.tail _ (.tail _ (.head _))))) ty_80 rfl rfl (by omega) rfl) ?_
  refine jo_alloc ty_80 [str ([]), str ([])] rfl rfl (fun b2 => ?_)
  refine jo_store rfl rfl ty_80 [str ((en.2.2.2.2.1.getD i ([], [])).1), str ((en.2.2.2.2.1.getD i ([], [])).2)] rfl rfl rfl [str ((en.2.2.2.2.1.getD i ([], [])).1), str ((en.2.2.2.2.1.getD i ([], [])).2)] rfl rfl ?_
  refine jo_nil (jq_then (jc_region (jo_pure rfl (pr_move rfl) (jo_pure rfl (pr_fieldAddr 0 rfl Tryz.underlying80 rfl ty_9 rfl rfl) ?_))))
  refine jo_pure rfl (pr_load_box (str ((en.2.2.2.2.1.getD i ([], [])).1)) rfl ty_9 (.head _) rfl (by decide) rfl) ?_
  refine jo_pure rfl (pr_slen rfl Tryz.underlying9) ?_
  refine jo_pure rfl (pr_addN (m := 4) (n := ((en.2.2.2.2.1.getD i ([], [])).1).length) rfl rfl (by omega)) ?_
  refine jo_pure rfl (pr_fieldAddr 1 rfl Tryz.underlying80 rfl ty_9 rfl rfl) ?_
  refine jo_pure rfl (pr_load_box (str ((en.2.2.2.2.1.getD i ([], [])).2)) rfl ty_9 (.head _) rfl (by decide) rfl) ?_
  refine jo_pure rfl (pr_slen rfl Tryz.underlying9) ?_
  refine jo_pure rfl (pr_addN (m := 4 + (((en.2.2.2.2.1.getD i ([], [])).1).length)) (n := ((en.2.2.2.2.1.getD i ([], [])).2).length) rfl rfl (by omega)) ?_
  refine jo_pure rfl (pr_addN (m := n) (n := (4 + (((en.2.2.2.2.1.getD i ([], [])).1).length)) + (((en.2.2.2.2.1.getD i ([], [])).2).length)) rfl rfl (by omega)) ?_
  refine jo_pure rfl (pr_assign rfl) (jo_nil (jq_in_normal (jq_then (jc_region (jo_pure rfl (pr_addN (m := i) (n := 1) rfl rfl (by omega)) ?_)))))
  refine jo_pure rfl (pr_move rfl) (jo_nil (j_drop (j_pull4 ?_)))
  refine j_pull4 ?_
  refine j_pull4 ?_
  refine j_pull4 ?_
  refine j_pull4 ?_
  refine jq_round' ((i + 1), (n + ((4 + (((en.2.2.2.2.1.getD i ([], [])).1).length)) + (((en.2.2.2.2.1.getD i ([], [])).2).length)))) (by (try dsimp only); exact (⟨by omega, by omega⟩)) (by (try dsimp only); exact (by omega)) ⟨rfl, rfl, rfl, rfl, rfl, trivial⟩ (fun _ h => h)
 ·have h1 := of_decide_eq_false h1b
  refine jc_exit ?_
  refine jq_then_exit ?_
  refine jq_then_exit ?_
  refine jq_in_hit ?_
  refine jq_then (jc_seq (jc_seq (jc_region (jo_pure rfl (pr_fieldAddr 0 rfl Tryz.underlying40 rfl ty_37 rfl rfl) ?_))))
  refine jo_pure rfl (pr_load_box (env) rfl ty_37 (.head _) rfl (by decide) rfl) ?_
  refine jo_pure rfl (pr_len_imm rfl (.tail _ (.head _)) Tryz.underlying37) ?_
  refine jo_pure rfl (pr_move rfl) (jo_nil (jq_then (jc_block ?_)))
  refine jc_loop2 (fun (k : Nat) (m : Nat) => [(3, .int .i64 ((m : Nat) : Int)), (43, env), (44, .int .i64 ((en.1.length : Nat) : Int)), (45, .int .i64 ((k : Nat) : Int))]) (fun (k : Nat) (m : Nat) => [.box b1 40 [env, env2, env3, str (en.2.2.2.1), env4, str (en.2.2.2.2.2.1), .int .i64 (en.2.2.2.2.2.2.1), .int .i64 (en.2.2.2.2.2.2.2)], .imm (.list (.list .str)) (env) (en.1), .imm (.list .str) (env2) (en.2.1), .imm (.list .str) (env3) (en.2.2.1), .imm (.list (.pair .str .str)) (env4) (en.2.2.2.2.1)]) (fun (k : Nat) (m : Nat) => k ≤ en.1.length ∧ m = 100 + en.2.2.2.1.length + en.2.2.2.2.2.1.length + lenS en.2.1 + lenS en.2.2.1 + lenF en.2.2.2.2.1 + lenK (en.1.take k)) (fun (k : Nat) (m : Nat) => en.1.length - k) 0 n (⟨Nat.zero_le _, by rw [hinv.2, List.take_of_length_le (by omega)]; rfl⟩) (⟨rfl, rfl, rfl, rfl, trivial⟩) (fun _ h => h) (fun k m hin2 => ?_)
  refine jc_seq (jc_region (jo_pure rfl (pr_lssN (m := k) (n := en.1.length) rfl rfl) ?_))
  refine jo_nil (jq_then (jc_seq ?_))
  refine jc_cond rfl (fun h2b => ?_) (fun h2b => ?_)
  ·have h2 := of_decide_eq_true h2b
   have hs1 := lenK_step h2
   have hs2 := lenK_le en.1 (k + 1)
   refine jc_skip (jq_then (jc_seq (jc_block (jc_seq (jc_region ?_)))))
   refine j_open_elem (t := (.list .str)) (i := k) [] (.tail _ (.head _)) (by omega) (fun e1 => ?_)
   refine jo_pure rfl (pr_idx_imm (i := k) rfl (.tail _ (.tail _ (.tail _ (.head _)))) rfl Tryz.underlying37 ty_28 (by omega)) ?_
   refine jo_pure rfl (pr_load_at (e1) rfl (.tail _ (.head _)) ty_28 (by decide) rfl) ?_
   refine jo_pure rfl (pr_assign rfl) (jo_nil (jq_then (jc_region (jo_pure rfl (pr_move rfl) (jo_pure rfl (pr_move rfl) ?_)))))
   refine jo_callp cal_67 (c_entry_lengths (en.1.getD k []) e1 (by first | omega | (have := sum_mem lenS (getD_mem (dd := []) h2); have : lenK en.1 = (en.1.map lenS).sum := rfl; omega))) ⟨rfl, trivial⟩ rfl (⟨⟨rfl, .head _⟩, trivial⟩) (fun _ => ?_)
   refine jo_pure rfl (pr_addN (m := m) (n := lenS (en.1.getD k [])) rfl rfl (by omega)) ?_
   refine jo_pure rfl (pr_assign rfl) (jo_nil (jq_in_normal (jq_then (jc_region (jo_pure rfl (pr_addN (m := k) (n := 1) rfl rfl (by omega)) ?_)))))
   refine jo_pure rfl (pr_move rfl) (jo_nil (j_drop (j_drop (j_pull4 ?_))))
   refine j_pull4 ?_
   refine j_pull4 ?_
   refine j_pull4 ?_
   refine j_pull4 ?_
   refine jq_round' ((k + 1), (m + (lenS (en.1.getD k [])))) (by (try dsimp only); exact (⟨by omega, by omega⟩)) (by (try dsimp only); exact (by omega)) ⟨rfl, rfl, rfl, rfl, trivial⟩ (fun _ h => h)
  ·have h2 := of_decide_eq_false h2b
   refine jc_exit ?_
   refine jq_then_exit ?_
   refine jq_then_exit ?_
   refine jq_in_hit ?_
   refine jq_then (jc_seq (jc_region (jo_pure rfl (pr_move rfl) (jo_pure rfl (pr_assign rfl) (jo_nil (jq_then (jc_ret (j_drop (j_drop (j_drop (j_drop (j_drop ?_))))))))))))
   exact jq_ret1 rfl () rfl (show (.int .i64 ((sizeE en : Nat) : Int) : Value) = (.int .i64 ((m : Nat) : Int)) from congrArg (fun q : Nat => Value.int .i64 (q : Int)) (by rw [hin2.2, List.take_of_length_le (by omega)]; rfl)) (fun _ h => h)

theorem c_table_Size (t : (List (Axs)) × (List Ent)) (tv : Value) (tv2 : Value) (hb : sizeL t.2 ≤ 1000000000000000) (hm : ∀ e ∈ t.2, OkE e) : Con Tryz.prog 19 #[.agg #[tv, tv2]] [.imm (.list (.pair .str (.list .str))) (tv) (t.1), .imm (.list tyE) (tv2) (t.2)] (fun _ : Unit => .int .i64 ((sizeL t.2 : Nat) : Int)) (fun _ => []) := by
 refine con_of_J (args := [.agg #[tv, tv2]]) (n := 19) Tryz.func19 rfl (Nat.le_of_ble_eq_true rfl) rfl (fun w0 I0 m0 => ?_)
 have htl := sizeL_len t.2
 refine jc_seq (jc_region ?_)
 refine jo_box rfl [tv, tv2] rfl rfl (fun b1 => ?_)
 refine jo_pure rfl (pr_assign rfl) (jo_nil (jq_then (jc_seq (jc_region (jo_pure rfl (pr_assign rfl) (jo_nil (jq_then (jc_seq (jc_seq (jc_region (jo_pure rfl (pr_fieldAddr 1 rfl Tryz.underlying50 rfl ty_48 rfl rfl) ?_)))))))))))
 refine jo_pure rfl (pr_load_box (tv2) rfl ty_48 (.head _) rfl (by decide) rfl) ?_
 refine jo_pure rfl (pr_len_imm rfl (.tail _ (.tail _ (.head _))) Tryz.underlying48) ?_
 refine jo_pure rfl (pr_move rfl) (jo_nil (jq_then (jc_block ?_)))
 refine jc_loop2 (fun (i : Nat) (n : Nat) => [(3, .int .i64 ((n : Nat) : Int)), (7, tv2), (8, .int .i64 ((t.2.length : Nat) : Int)), (9, .int .i64 ((i : Nat) : Int))]) (fun (i : Nat) (n : Nat) => [.box b1 50 [tv, tv2], .imm (.list (.pair .str (.list .str))) (tv) (t.1), .imm (.list tyE) (tv2) (t.2)]) (fun (i : Nat) (n : Nat) => i ≤ t.2.length ∧ n = sizeL (t.2.take i)) (fun (i : Nat) (n : Nat) => t.2.length - i) 0 0 (⟨Nat.zero_le _, rfl⟩) (⟨rfl, rfl, rfl, rfl, trivial⟩) (fun _ h => h) (fun i n hinv => ?_)
 refine jc_seq (jc_region (jo_pure rfl (pr_lssN (m := i) (n := t.2.length) rfl rfl) ?_))
 refine jo_nil (jq_then (jc_seq ?_))
 refine jc_cond rfl (fun h1b => ?_) (fun h1b => ?_)
 ·have h1 := of_decide_eq_true h1b
  have hs := sizeL_step h1
  have hs2 := sizeL_le t.2 (i + 1)
  have hE := hm _ (getD_mem (dd := ([],[],[],[],[],[],0,0)) h1)
  refine jc_skip (jq_then (jc_seq (jc_block (jc_seq (jc_region ?_)))))
  refine j_open_elem (t := tyE) (i := i) ([],[],[],[],[],[],0,0) (.tail _ (.tail _ (.head _))) (by omega) (fun ⟨e1, ⟨e2, ⟨e3, ⟨_, ⟨e4, ⟨_, ⟨_, _⟩⟩⟩⟩⟩⟩⟩ => ?_)
  refine jo_pure rfl (pr_idx_imm (i := i) rfl (.tail _ (.tail _ (.tail _ (.tail _ (.tail _ (.tail _ (.tail _ (.head _)))))))) rfl Tryz.underlying48 ty_40 (by omega)) ?_
  refine jo_pure rfl (pr_load_at (.agg #[e1, e2, e3, str ((((((t.2.getD i ([],[],[],[],[],[],0,0))).2).2).2).1), e4, str ((((((((t.2.getD i ([],[],[],[],[],[],0,0))).2).2).2).2).2).1), .int .i64 (((((((((t.2.getD i ([],[],[],[],[],[],0,0))).2).2).2).2).2).2).1), .int .i64 (((((((((t.2.getD i ([],[],[],[],[],[],0,0))).2).2).2).2).2).2).2)]) rfl (.tail _ (.tail _ (.tail _ (.tail _ (.head _))))) ty_40 (by decide) rfl) ?_
  refine jo_alloc ty_40 [.slice none 0 0, .slice none 0 0, .slice none 0 0, str ([]), .slice none 0 0, str ([]), .int .i64 ((0 : Nat) : Int), .int .i64 ((0 : Nat) : Int)] rfl rfl (fun b2 => ?_)
  refine jo_storeV rfl rfl ty_40 [e1, e2, e3, str ((((((t.2.getD i ([],[],[],[],[],[],0,0))).2).2).2).1), e4, str ((((((((t.2.getD i ([],[],[],[],[],[],0,0))).2).2).2).2).2).1), .int .i64 (((((((((t.2.getD i ([],[],[],[],[],[],0,0))).2).2).2).2).2).2).1), .int .i64 (((((((((t.2.getD i ([],[],[],[],[],[],0,0))).2).2).2).2).2).2).2)] (fun _ _ _ _ => rfl) rfl (fun w I m hs => by simp only [List.all_cons, List.all_nil, Bool.and_true, Bool.and_eq_true]; exact ⟨(SliceV.one (imm_slice (.tail _ (.head _)) hs)), (SliceV.one (imm_slice (.tail _ (.tail _ (.head _))) hs)), (SliceV.one (imm_slice (.tail _ (.tail _ (.tail _ (.head _)))) hs)), rfl, (SliceV.one (imm_slice (.tail _ (.tail _ (.tail _ (.tail _ (.head _))))) hs)), rfl, rfl, rfl⟩) [e1, e2, e3, str ((((((t.2.getD i ([],[],[],[],[],[],0,0))).2).2).2).1), e4, str ((((((((t.2.getD i ([],[],[],[],[],[],0,0))).2).2).2).2).2).1), .int .i64 (((((((((t.2.getD i ([],[],[],[],[],[],0,0))).2).2).2).2).2).2).1), .int .i64 (((((((((t.2.getD i ([],[],[],[],[],[],0,0))).2).2).2).2).2).2).2)] rfl rfl ?_
  refine jo_nil (jq_then (jc_region (jo_pure rfl (pr_move rfl) (jo_pure rfl (pr_load_box (.agg #[e1, e2, e3, str ((((((t.2.getD i ([],[],[],[],[],[],0,0))).2).2).2).1), e4, str ((((((((t.2.getD i ([],[],[],[],[],[],0,0))).2).2).2).2).2).1), .int .i64 (((((((((t.2.getD i ([],[],[],[],[],[],0,0))).2).2).2).2).2).2).1), .int .i64 (((((((((t.2.getD i ([],[],[],[],[],[],0,0))).2).2).2).2).2).2).2)]) rfl ty_40 (.head _) rfl (by decide) rfl) ?_))))
  have con1 := c_entry_Size ((t.2.getD i ([],[],[],[],[],[],0,0))) e1 e2 e3 e4 (by first | omega | exact hE)
  refine jo_callp cal_45 con1 (by exact ⟨rfl, trivial⟩) rfl (by exact ⟨⟨rfl, .tail _ (.head _)⟩, ⟨⟨rfl, .tail _ (.tail _ (.head _))⟩, ⟨⟨rfl, .tail _ (.tail _ (.tail _ (.head _)))⟩, ⟨⟨rfl, .tail _ (.tail _ (.tail _ (.tail _ (.head _))))⟩, trivial⟩⟩⟩⟩) (fun _ => ?_)
  clear con1
  refine jo_pure rfl (pr_addN (m := n) (n := sizeE ((t.2.getD i ([],[],[],[],[],[],0,0)))) rfl rfl (by omega)) ?_
  refine jo_pure rfl (pr_assign rfl) (jo_nil (jq_in_normal (jq_then (jc_region (jo_pure rfl (pr_addN (m := i) (n := 1) rfl rfl (by omega)) ?_)))))
  refine jo_pure rfl (pr_move rfl) (jo_nil (j_drop (j_drop (j_drop (j_drop (j_drop (j_drop (j_pull2 (j_pull2 (j_pull2 ?_))))))))))
  refine jq_round' ((i + 1), (n + (sizeE ((t.2.getD i ([],[],[],[],[],[],0,0)))))) (by (try dsimp only); exact (⟨by omega, by rw [hs, hinv.2]⟩)) (by (try dsimp only); exact (by omega)) ⟨rfl, rfl, rfl, rfl, trivial⟩ (fun _ h => h)
 ·have h1 := of_decide_eq_false h1b
  refine jc_exit ?_
  refine jq_then_exit ?_
  refine jq_then_exit ?_
  refine jq_in_hit ?_
  refine jq_then (jc_seq (jc_region (jo_pure rfl (pr_move rfl) (jo_pure rfl (pr_assign rfl) (jo_nil (jq_then (jc_ret (j_drop (j_drop (j_drop ?_))))))))))
  exact jq_ret1 rfl () rfl (show (.int .i64 ((sizeL t.2 : Nat) : Int) : Value) = (.int .i64 ((n : Nat) : Int)) from by rw [hinv.2, List.take_of_length_le (by omega)]) (fun _ h => h)

end Go.Proofs.YtlniaacdjllonaaGreat
