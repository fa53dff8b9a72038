/-
 Contracts of functions of the program: each returns what a plain function says, for every input within the bounds named. Conditions: the bounds.
-/
import Derived.Test.YtlniaacdjllonaaGreatRows
import Derived.Test.YtlniaacdjllonaaGreatZK3
namespace Go.Proofs.YtlniaacdjllonaaGreat
open Go Go.Sep
set_option linter.unusedSimpArgs false
set_option linter.unusedVariables false

open Go.Plain

theorem cal_52 : Cal Tryz.prog 52 := cal_of Tryz.func52 (by kernel_rfl) rfl
theorem cal_57 : Cal Tryz.prog 57 := cal_of Tryz.func57 (by kernel_rfl) rfl
theorem cal_80 : Cal Tryz.prog 80 := cal_of Tryz.func80 (by kernel_rfl) rfl
theorem cal_81 : Cal Tryz.prog 81 := cal_of Tryz.func81 (by kernel_rfl) rfl
theorem cal_96 : Cal Tryz.prog 96 := cal_of Tryz.func96 (by kernel_rfl) rfl
theorem cal_97 : Cal Tryz.prog 97 := cal_of Tryz.func97 (by kernel_rfl) rfl
theorem cal_98 : Cal Tryz.prog 98 := cal_of Tryz.func98 (by kernel_rfl) rfl
theorem cal_99 : Cal Tryz.prog 99 := cal_of Tryz.func99 (by kernel_rfl) rfl
theorem cal_102 : Cal Tryz.prog 102 := cal_of Tryz.func102 (by kernel_rfl) rfl

theorem c_ref10_Value (axis : Str) (s : Str) (ha : axis.length ≤ 1000000) (hs : s.length ≤ 300000) : Con Tryz.prog 80 #[str (axis), str (s)] [] (fun _ : Unit => .bool (valueF axis s)) (fun _ => []) := by
 refine con_of_J (args := [str (axis), str (s)]) (n := 88) Tryz.func80 rfl (Nat.le_of_ble_eq_true rfl) rfl (fun w0 I0 m0 => ?_)
 refine jc_seq (jc_region (jo_pure rfl (pr_assign rfl) (jo_nil (jq_then (jc_seq (jc_seq (jc_region (jo_pure rfl (pr_move rfl) ?_))))))))
 refine jo_callp cal_96 (c_ref10_Kind axis (by omega)) ⟨rfl, trivial⟩ rfl (trivial) (fun _ => ?_)
 refine jo_nil (jq_then (jc_block (jc_seq ?_)))
 by_cases hk1 : kindF axis = 1
 ·skip
  refine jc_region (jo_pure rfl (pr_eql (n := 1) rfl rfl) ?_)
  refine jo_pure rfl (pr_assign rfl) (jo_nil (jq_then (jc_true rfl (decide_eq_true hk1) ?_)))
  refine jc_seq (jc_region (jo_pure rfl (pr_move rfl) ?_))
  refine jo_callp cal_97 (c_ref10_ParseType s (by omega)) ⟨rfl, trivial⟩ rfl (trivial) (fun r1 => ?_)
  refine jo_pure rfl (pr_move rfl) (jo_pure rfl (pr_extract rfl rfl) (jo_pure rfl (pr_extract rfl rfl) ?_))
  refine jo_alloc ty_118 [str ([]), str ([]), .slice none 0 0] rfl rfl (fun b1 => ?_)
  refine jo_storeV rfl rfl ty_118 [str ((parseT s).1.1), str ((parseT s).1.2.1), r1] (fun _ _ _ _ => rfl) rfl (fun w I m hs => by simp only [List.all_cons, List.all_nil, Bool.and_true, Bool.and_eq_true]; exact ⟨rfl, rfl, (SliceV.one (row_slice (.tail _ (.head _)) hs))⟩) [str ((parseT s).1.1), str ((parseT s).1.2.1), r1] rfl rfl ?_
  refine jo_pure rfl (pr_assign rfl) (jo_nil (jq_then (jc_seq (jc_seq (j_pull1 (j_pub_row (jc_region (jo_pure rfl (pr_assign rfl) (jo_nil (jq_then (jc_block ?_)))))))))))
  refine jc_loop2 (fun (i : Nat) (ok : Bool) => [(5, .pointer (some ⟨b1, 0, none⟩)), (6, .bool (ok)), (7, .int .i64 ((i : Nat) : Int))]) (fun (i : Nat) (ok : Bool) => [.imm (.list (.pair .str .str)) (r1) ((parseT s).1.2.2), .box b1 118 [str ((parseT s).1.1), str ((parseT s).1.2.1), r1]]) (fun (i : Nat) (ok : Bool) => i ≤ ((parseT s).1.2.2).length ∧ ok = ((parseT s).2 && parOk ((parseT s).1.2.2) i)) (fun (i : Nat) (ok : Bool) => ((parseT s).1.2.2).length - i) 0 ((parseT s).2) (⟨Nat.zero_le _, by rw [show parOk ((parseT s).1.2.2) 0 = true from rfl, Bool.and_true]⟩) (⟨rfl, rfl, rfl, trivial⟩) (fun _ h => h) (fun i ok hinv => ?_)
  refine jc_seq (jc_seq (jc_region (jo_pure rfl (pr_move rfl) (jo_pure rfl (pr_fieldAddr 2 rfl Tryz.underlying118 rfl ty_116 rfl rfl) ?_))))
  refine jo_pure rfl (pr_load_box (r1) rfl ty_116 (.tail _ (.head _)) rfl (by decide) rfl) ?_
  refine jo_pure rfl (pr_len_imm rfl (.head _) Tryz.underlying116) ?_
  refine jo_pure rfl (pr_lssN (m := i) (n := ((parseT s).1.2.2).length) rfl rfl) ?_
  refine jo_nil (jq_then ?_)
  refine jc_cond rfl (fun h1b => ?_) (fun h1b => ?_)
  ·have h1 := of_decide_eq_true h1b
   refine jc_skip (jq_then (jc_seq (jc_block (jc_seq (jc_seq (jc_region (jo_pure rfl (pr_assign rfl) (jo_nil (jq_then (jc_block ?_))))))))))
   refine jc_loop2 (fun (k : Nat) (ok2 : Bool) => [(5, .pointer (some ⟨b1, 0, none⟩)), (6, .bool (ok2)), (7, .int .i64 ((i : Nat) : Int)), (8, .int .i64 ((k : Nat) : Int))]) (fun (k : Nat) (ok2 : Bool) => [.imm (.list (.pair .str .str)) (r1) ((parseT s).1.2.2), .box b1 118 [str ((parseT s).1.1), str ((parseT s).1.2.1), r1]]) (fun (k : Nat) (ok2 : Bool) => k ≤ i ∧ ok2 = (ok && !(((parseT s).1.2.2).take k).any (fun x => decide ((((parseT s).1.2.2).getD i ([], [])).1 = x.1)))) (fun (k : Nat) (ok2 : Bool) => i - k) 0 ok (⟨Nat.zero_le _, by simp⟩) (⟨rfl, rfl, rfl, rfl, trivial⟩) (fun _ h => h) (fun k ok2 hink => ?_)
   refine jc_seq (jc_seq (jc_region (jo_pure rfl (pr_move rfl) (jo_pure rfl (pr_move rfl) (jo_pure rfl (pr_lssN (m := k) (n := i) rfl rfl) ?_)))))
   refine jo_nil (jq_then ?_)
   refine jc_cond rfl (fun h2b => ?_) (fun h2b => ?_)
   ·have h2 := of_decide_eq_true h2b
    refine jc_skip (jq_then (jc_seq (jc_block (jc_draws mixed (by kernel_rfl) (jd_pure rfl (pr_move rfl) ?_)))))
    refine jd_pure rfl (pr_move rfl) ?_
    refine jd_gpure (j := 1) (want := true) rfl rfl rfl rfl (fun hg=>pr_fieldAddr 2 rfl Tryz.underlying118 rfl ty_116 rfl rfl) ?_
    refine jd_gpure (j := 1) (want := true) rfl rfl rfl rfl (fun hg=>pr_load_box (r1) (evg rfl hg) ty_116 (.tail _ (.head _)) rfl (by decide) rfl) ?_
    refine jd_gpure (j := 1) (want := true) rfl rfl rfl rfl (fun hg=>pr_move rfl) ?_
    refine jd_gpure (j := 1) (want := true) rfl rfl rfl rfl (fun hg=>pr_idx_imm (i := i) (evg rfl hg) (.head _) (evg rfl hg) Tryz.underlying116 ty_121 (by first | omega | (simp at hg; omega))) ?_
    refine jd_gpure (j := 1) (want := true) rfl rfl rfl rfl (fun hg=>pr_fieldAddr_imm (i := i) (evg rfl hg) (.head _) Tryz.underlying121 rfl ty_9 rfl rfl (by first | omega | (simp at hg; omega))) ?_
    refine jd_gpure (j := 1) (want := true) rfl rfl rfl rfl (fun hg=>pr_load_off_imm (i := i) (o := 0) (dd := ([], [])) (str ((((parseT s).1.2.2).getD i ([], [])).1)) (evg rfl hg) (.head _) ty_9 rfl (by decide) rfl (by first | omega | (simp at hg; omega)) rfl) ?_
    refine jd_gpure (j := 1) (want := true) rfl rfl rfl rfl (fun hg=>pr_fieldAddr 2 rfl Tryz.underlying118 rfl ty_116 rfl rfl) ?_
    refine jd_gpure (j := 1) (want := true) rfl rfl rfl rfl (fun hg=>pr_load_box (r1) (evg rfl hg) ty_116 (.tail _ (.head _)) rfl (by decide) rfl) ?_
    refine jd_gpure (j := 1) (want := true) rfl rfl rfl rfl (fun hg=>pr_move rfl) ?_
    refine jd_gpure (j := 1) (want := true) rfl rfl rfl rfl (fun hg=>pr_idx_imm (i := k) (evg rfl hg) (.head _) (evg rfl hg) Tryz.underlying116 ty_121 (by first | omega | (simp at hg; omega))) ?_
    refine jd_gpure (j := 1) (want := true) rfl rfl rfl rfl (fun hg=>pr_fieldAddr_imm (i := k) (evg rfl hg) (.head _) Tryz.underlying121 rfl ty_9 rfl rfl (by first | omega | (simp at hg; omega))) ?_
    refine jd_gpure (j := 1) (want := true) rfl rfl rfl rfl (fun hg=>pr_load_off_imm (i := k) (o := 0) (dd := ([], [])) (str ((((parseT s).1.2.2).getD k ([], [])).1)) (evg rfl hg) (.head _) ty_9 rfl (by decide) rfl (by first | omega | (simp at hg; omega)) rfl) ?_
    refine jd_gpure (j := 1) (want := true) rfl rfl rfl rfl (fun hg=>pr_sneq (evg rfl hg) (evg rfl hg)) ?_
    refine jd_pure rfl (pr_pick_and rfl rfl rfl) ?_
    refine jd_pure rfl (pr_assign rfl) ?_
    refine jd_nil ?_
    refine jq_in_normal (jq_then (jc_region (jo_pure rfl (pr_move rfl) (jo_pure rfl (pr_addN (m := k) (n := 1) rfl rfl (by first | omega | (have := (parseT_len s).2.2.1; omega))) ?_))))
    refine jo_pure rfl (pr_assign rfl) (jo_nil (j_pull1 (j_pull1 ?_)))
    refine jq_round' ((k + 1), (ok2 && (!decide (((((parseT s).1.2.2).getD i ([], [])).1 : Str) = (((parseT s).1.2.2).getD k ([], [])).1)))) (by (try dsimp only); exact (⟨by omega, by rw [any_next (dd := ([], [])) (by omega), hink.2, Bool.not_or, Bool.and_assoc]⟩)) (by (try dsimp only); exact (by omega)) ⟨rfl, rfl, rfl, rfl, trivial⟩ (fun _ h => h)
   ·have h2 := of_decide_eq_false h2b
    refine jc_exit ?_
    refine jq_then_exit ?_
    refine jq_then_exit ?_
    refine jq_in_hit ?_
    refine jq_then (jc_region (jo_pure rfl (pr_move rfl) (jo_pure rfl (pr_move rfl) (jo_gpure (j := 1) (want := true) rfl rfl rfl rfl (fun hg=>pr_fieldAddr 2 rfl Tryz.underlying118 rfl ty_116 rfl rfl) ?_))))
    refine jo_gpure (j := 1) (want := true) rfl rfl rfl rfl (fun hg=>pr_load_box (r1) (evg rfl hg) ty_116 (.tail _ (.head _)) rfl (by decide) rfl) ?_
    refine jo_gpure (j := 1) (want := true) rfl rfl rfl rfl (fun hg=>pr_move rfl) ?_
    refine jo_gpure (j := 1) (want := true) rfl rfl rfl rfl (fun hg=>pr_idx_imm (i := i) (evg rfl hg) (.head _) (evg rfl hg) Tryz.underlying116 ty_121 (by first | omega | (simp at hg; omega))) ?_
    refine jo_gpure (j := 1) (want := true) rfl rfl rfl rfl (fun hg=>pr_fieldAddr_imm (i := i) (evg rfl hg) (.head _) Tryz.underlying121 rfl ty_9 rfl rfl (by first | omega | (simp at hg; omega))) ?_
    refine jo_gpure (j := 1) (want := true) rfl rfl rfl rfl (fun hg=>pr_load_off_imm (i := i) (o := 0) (dd := ([], [])) (str ((((parseT s).1.2.2).getD i ([], [])).1)) (evg rfl hg) (.head _) ty_9 rfl (by decide) rfl (by first | omega | (simp at hg; omega)) rfl) ?_
    refine jo_gpure (j := 1) (want := true) rfl rfl rfl rfl (fun hg=>pr_sneq (evg rfl hg) rfl) ?_
    refine jo_pure rfl (pr_pick_and rfl rfl rfl) ?_
    refine jo_pure rfl (pr_assign rfl) (jo_nil (jq_in_normal (jq_then (jc_region (jo_pure rfl (pr_move rfl) (jo_pure rfl (pr_addN (m := i) (n := 1) rfl rfl (by first | omega | (have := (parseT_len s).2.2.1; omega))) ?_))))))
    refine jo_pure rfl (pr_assign rfl) (jo_nil (j_pull1 (j_pull1 ?_)))
    refine jq_round' ((i + 1), (ok2 && (!decide (((((parseT s).1.2.2).getD i ([], [])).1 : Str) = [113])))) (by (try dsimp only); exact (⟨by omega, by rw [parOk_step, ← Bool.and_assoc, ← hinv.2, hink.2, show k = i by omega, any_swap]; cases ok <;> cases decide ((((parseT s).1.2.2).getD i ([], [])).1 = [113]) <;> simp⟩)) (by (try dsimp only); exact (by omega)) ⟨rfl, rfl, rfl, trivial⟩ (fun _ h => h)
  ·have h1 := of_decide_eq_false h1b
   refine jc_exit ?_
   refine jq_then_exit ?_
   refine jq_then_exit ?_
   refine jq_in_hit ?_
   refine jq_then (jc_seq (jc_region (jo_pure rfl (pr_move rfl) (jo_pure rfl (pr_assign rfl) (jo_nil (jq_then (jc_ret (jq_in_ret ?_))))))))
   refine jq_then_ret (j_drop (j_drop ?_))
   exact jq_ret1 rfl () rfl (show (.bool (valueF axis s) : Value) = (.bool (ok)) from congrArg Value.bool (by rw [value_1 hk1, hinv.2, show i = ((parseT s).1.2.2).length by omega])) (fun _ h => h)
 ·skip
  by_cases hk2 : kindF axis = 2
  ·skip
   refine jc_region (jo_pure rfl (pr_eql (n := 1) rfl rfl) ?_)
   refine jo_pure rfl (pr_assign rfl) (jo_nil (jq_then (jc_false rfl (decide_eq_false hk1) ?_)))
   refine jc_seq (jc_region (jo_pure rfl (pr_eql (n := 2) rfl rfl) ?_))
   refine jo_pure rfl (pr_assign rfl) (jo_nil (jq_then (jc_true rfl (decide_eq_true hk2) ?_)))
   refine jc_seq (jc_region (jo_pure rfl (pr_move rfl) ?_))
   refine jo_callp cal_98 (c_ref10_Tag s (by omega)) ⟨rfl, trivial⟩ rfl (trivial) (fun _ => ?_)
   refine jo_pure rfl (pr_assign rfl) (jo_nil (jq_then (jc_ret (jq_in_ret ?_))))
   refine jq_then_ret ?_
   exact jq_ret1 rfl () rfl (show (.bool (valueF axis s) : Value) = (.bool (tagF s)) from congrArg Value.bool (by rw [value_2 hk2])) (fun _ h => h)
  ·skip
   by_cases hk3 : kindF axis = 3
   ·skip
    refine jc_region (jo_pure rfl (pr_eql (n := 1) rfl rfl) ?_)
    refine jo_pure rfl (pr_assign rfl) (jo_nil (jq_then (jc_false rfl (decide_eq_false hk1) ?_)))
    refine jc_seq (jc_region (jo_pure rfl (pr_eql (n := 2) rfl rfl) ?_))
    refine jo_pure rfl (pr_assign rfl) (jo_nil (jq_then (jc_false rfl (decide_eq_false hk2) ?_)))
    refine jc_seq (jc_seq (jc_region (jo_pure rfl (pr_eql (n := 3) rfl rfl) ?_)))
    refine jo_pure rfl (pr_assign rfl) (jo_nil (jq_then (jc_true rfl (decide_eq_true hk3) ?_)))
    refine jc_skip (jq_then (jc_true rfl (decide_eq_true hk3) ?_))
    refine jc_seq (jc_region (jo_pure rfl (pr_move rfl) ?_))
    refine jo_callp cal_78 (c_ref01_Token s (by omega)) ⟨rfl, trivial⟩ rfl (trivial) (fun _ => ?_)
    refine jo_pure rfl (pr_move rfl) (jo_gpure (j := 2) (want := true) rfl rfl rfl rfl (fun hg=>pr_move rfl) (jo_gpure (j := 2) (want := true) rfl rfl rfl rfl (fun hg=>pr_sneq (evg rfl hg) rfl) ?_))
    refine jo_pure rfl (pr_pick_and rfl rfl rfl) ?_
    refine jo_pure rfl (pr_assign rfl) (jo_nil (jq_then (jc_ret (jq_in_ret ?_))))
    refine jq_then_ret ?_
    exact jq_ret1 rfl () rfl (show (.bool (valueF axis s) : Value) = (.bool ((token s && (!decide ((s : Str) = [42]))))) from congrArg Value.bool (by rw [value_3 (.inl hk3)])) (fun _ h => h)
   ·skip
    by_cases hk4 : kindF axis = 4
    ·skip
     refine jc_region (jo_pure rfl (pr_eql (n := 1) rfl rfl) ?_)
     refine jo_pure rfl (pr_assign rfl) (jo_nil (jq_then (jc_false rfl (decide_eq_false hk1) ?_)))
     refine jc_seq (jc_region (jo_pure rfl (pr_eql (n := 2) rfl rfl) ?_))
     refine jo_pure rfl (pr_assign rfl) (jo_nil (jq_then (jc_false rfl (decide_eq_false hk2) ?_)))
     refine jc_seq (jc_seq (jc_region (jo_pure rfl (pr_eql (n := 3) rfl rfl) ?_)))
     refine jo_pure rfl (pr_assign rfl) (jo_nil (jq_then (jc_false rfl (decide_eq_false hk3) ?_)))
     refine jc_region (jo_pure rfl (pr_eql (n := 4) rfl rfl) ?_)
     refine jo_pure rfl (pr_assign rfl) (jo_nil (jq_then (jc_true rfl (decide_eq_true hk4) ?_)))
     refine jc_seq (jc_region (jo_pure rfl (pr_move rfl) ?_))
     refine jo_callp cal_78 (c_ref01_Token s (by omega)) ⟨rfl, trivial⟩ rfl (trivial) (fun _ => ?_)
     refine jo_pure rfl (pr_move rfl) (jo_gpure (j := 2) (want := true) rfl rfl rfl rfl (fun hg=>pr_move rfl) (jo_gpure (j := 2) (want := true) rfl rfl rfl rfl (fun hg=>pr_sneq (evg rfl hg) rfl) ?_))
     refine jo_pure rfl (pr_pick_and rfl rfl rfl) ?_
     refine jo_pure rfl (pr_assign rfl) (jo_nil (jq_then (jc_ret (jq_in_ret ?_))))
     refine jq_then_ret ?_
     exact jq_ret1 rfl () rfl (show (.bool (valueF axis s) : Value) = (.bool ((token s && (!decide ((s : Str) = [42]))))) from congrArg Value.bool (by rw [value_3 (.inr hk4)])) (fun _ h => h)
    ·skip
     refine jc_region (jo_pure rfl (pr_eql (n := 1) rfl rfl) ?_)
     refine jo_pure rfl (pr_assign rfl) (jo_nil (jq_then (jc_false rfl (decide_eq_false hk1) ?_)))
     refine jc_seq (jc_region (jo_pure rfl (pr_eql (n := 2) rfl rfl) ?_))
     refine jo_pure rfl (pr_assign rfl) (jo_nil (jq_then (jc_false rfl (decide_eq_false hk2) ?_)))
     refine jc_seq (jc_seq (jc_region (jo_pure rfl (pr_eql (n := 3) rfl rfl) ?_)))
     refine jo_pure rfl (pr_assign rfl) (jo_nil (jq_then (jc_false rfl (decide_eq_false hk3) ?_)))
     refine jc_region (jo_pure rfl (pr_eql (n := 4) rfl rfl) ?_)
     refine jo_pure rfl (pr_assign rfl) (jo_nil (jq_then (jc_false rfl (decide_eq_false hk4) ?_)))
     refine jc_skip (jq_in_normal (jq_then (jc_seq (jc_region (jo_pure rfl (pr_move rfl) (jo_pure rfl (pr_slen rfl Tryz.underlying9) ?_))))))
     refine jo_pure rfl (pr_geqN (m := s.length) (n := 1) rfl rfl) ?_
     refine jo_pure rfl (pr_move rfl) (jo_gpure (j := 3) (want := true) rfl rfl rfl rfl (fun hg=>pr_move rfl) (jo_gpure (j := 3) (want := true) rfl rfl rfl rfl (fun hg=>pr_slen (evg rfl hg) Tryz.underlying9) ?_))
     refine jo_gpure (j := 3) (want := true) rfl rfl rfl rfl (fun hg=>pr_leqN (m := s.length) (n := 100) (evg rfl hg) rfl) ?_
     refine jo_pure rfl (pr_pick_and rfl rfl rfl) ?_
     refine jo_pure rfl (pr_move rfl) (jo_gpure (j := 8) (want := true) rfl rfl rfl rfl (fun hg=>pr_move rfl) (jo_gcall (j := 8) (want := true) rfl rfl rfl cal_99 (fun hg => c_ref01_Text s (by omega)) (fun hg => ⟨evg rfl hg, trivial⟩) rfl (fun _ => trivial) ?_))
     refine jo_pure rfl (pr_pick_and rfl rfl rfl) ?_
     refine jo_pure rfl (pr_move rfl) (jo_gpure (j := 12) (want := true) rfl rfl rfl rfl (fun hg=>pr_move rfl) (jo_gcall (j := 12) (want := true) rfl rfl rfl cal_100 (fun hg => c_ref01_Trim s (by omega)) (fun hg => ⟨evg rfl hg, trivial⟩) rfl (fun _ => trivial) ?_))
     refine jo_gpure (j := 12) (want := true) rfl rfl rfl rfl (fun hg=>pr_move rfl) ?_
     refine jo_gpure (j := 12) (want := true) rfl rfl rfl rfl (fun hg=>pr_seql (evg rfl hg) (evg rfl hg)) ?_
     refine jo_pure rfl (pr_pick_and rfl rfl rfl) ?_
     refine jo_pure rfl (pr_assign rfl) (jo_nil (jq_then (jc_ret ?_)))
     exact jq_ret1 rfl () rfl (show (.bool (valueF axis s) : Value) = (.bool ((((decide ((1 : Nat) ≤ s.length) && decide ((s.length : Nat) ≤ 100)) && text s) && decide ((trim s : Str) = s)))) from congrArg Value.bool (by rw [value_5 hk1 hk2 hk3 hk4])) (fun _ h => h)

theorem c_ref10_Same (axis : Str) (a : Str) (b : Str) (ha : axis.length ≤ 1000000) (hs : a.length ≤ 300000) (hb : b.length ≤ 300000) : Con Tryz.prog 81 #[str (axis), str (a), str (b)] [] (fun _ : Unit => .bool (sameF axis a b)) (fun _ => []) := by
 refine con_of_J (args := [str (axis), str (a), str (b)]) (n := 30) Tryz.func81 rfl (Nat.le_of_ble_eq_true rfl) rfl (fun w0 I0 m0 => ?_)
 refine jc_seq (jc_region (jo_pure rfl (pr_assign rfl) (jo_nil (jq_then (jc_seq (jc_seq (jc_region (jo_pure rfl (pr_move rfl) ?_))))))))
 refine jo_callp cal_96 (c_ref10_Kind axis (by omega)) ⟨rfl, trivial⟩ rfl (trivial) (fun _ => ?_)
 refine jo_pure rfl (pr_assign rfl) (jo_nil (jq_then (jc_seq (jc_region (jo_pure rfl (pr_move rfl) (jo_nil (jq_then (jc_block (jc_seq (jc_seq ?_))))))))))
 by_cases hk1 : kindF axis = 1
 ·skip
  refine jc_region (jo_pure rfl (pr_eql (n := 1) rfl rfl) ?_)
  refine jo_pure rfl (pr_assign rfl) (jo_nil (jq_then (jc_true rfl (decide_eq_true hk1) ?_)))
  refine jc_skip (jq_then (jc_true rfl (decide_eq_true hk1) ?_))
  refine jc_seq (jc_region (jo_pure rfl (pr_move rfl) (jo_pure rfl (pr_move rfl) ?_)))
  refine jo_callp cal_101 (c_ref01_Fold a b (by omega) (by omega)) ⟨rfl, rfl, trivial⟩ rfl (trivial) (fun _ => ?_)
  refine jo_pure rfl (pr_assign rfl) (jo_nil (jq_then (jc_ret (jq_in_ret ?_))))
  refine jq_then_ret ?_
  exact jq_ret1 rfl () rfl (show (.bool (sameF axis a b) : Value) = (.bool (fold a b)) from congrArg Value.bool (by rw [same_fold (.inl hk1)])) (fun _ h => h)
 ·skip
  by_cases hk2 : kindF axis = 2
  ·skip
   refine jc_region (jo_pure rfl (pr_eql (n := 1) rfl rfl) ?_)
   refine jo_pure rfl (pr_assign rfl) (jo_nil (jq_then (jc_false rfl (decide_eq_false hk1) ?_)))
   refine jc_region (jo_pure rfl (pr_eql (n := 2) rfl rfl) ?_)
   refine jo_pure rfl (pr_assign rfl) (jo_nil (jq_then (jc_true rfl (decide_eq_true hk2) ?_)))
   refine jc_seq (jc_region (jo_pure rfl (pr_move rfl) (jo_pure rfl (pr_move rfl) ?_)))
   refine jo_callp cal_101 (c_ref01_Fold a b (by omega) (by omega)) ⟨rfl, rfl, trivial⟩ rfl (trivial) (fun _ => ?_)
   refine jo_pure rfl (pr_assign rfl) (jo_nil (jq_then (jc_ret (jq_in_ret ?_))))
   refine jq_then_ret ?_
   exact jq_ret1 rfl () rfl (show (.bool (sameF axis a b) : Value) = (.bool (fold a b)) from congrArg Value.bool (by rw [same_fold (.inr hk2)])) (fun _ h => h)
  ·skip
   by_cases hk3 : kindF axis = 3
   ·skip
    refine jc_region (jo_pure rfl (pr_eql (n := 1) rfl rfl) ?_)
    refine jo_pure rfl (pr_assign rfl) (jo_nil (jq_then (jc_false rfl (decide_eq_false hk1) ?_)))
    refine jc_region (jo_pure rfl (pr_eql (n := 2) rfl rfl) ?_)
    refine jo_pure rfl (pr_assign rfl) (jo_nil (jq_then (jc_false rfl (decide_eq_false hk2) ?_)))
    refine jc_seq (jc_seq (jc_region (jo_pure rfl (pr_eql (n := 3) rfl rfl) ?_)))
    refine jo_pure rfl (pr_assign rfl) (jo_nil (jq_then (jc_true rfl (decide_eq_true hk3) ?_)))
    refine jc_skip (jq_then (jc_true rfl (decide_eq_true hk3) ?_))
    refine jc_seq (jc_region (jo_pure rfl (pr_move rfl) (jo_pure rfl (pr_move rfl) ?_)))
    refine jo_callp cal_102 (c_ref10_Canonical (kindF axis) a (by omega)) ⟨rfl, rfl, trivial⟩ rfl (trivial) (fun _ => ?_)
    refine jo_pure rfl (pr_move rfl) (jo_pure rfl (pr_move rfl) ?_)
    refine jo_callp cal_102 (c_ref10_Canonical (kindF axis) b (by omega)) ⟨rfl, rfl, trivial⟩ rfl (trivial) (fun _ => ?_)
    refine jo_pure rfl (pr_seql rfl rfl) ?_
    refine jo_pure rfl (pr_assign rfl) (jo_nil (jq_then (jc_ret (jq_in_ret ?_))))
    refine jq_then_ret ?_
    exact jq_ret1 rfl () rfl (show (.bool (sameF axis a b) : Value) = (.bool (decide ((canonical (kindF axis) a : Str) = canonical (kindF axis) b))) from congrArg Value.bool (by rw [same_canon (.inl hk3)])) (fun _ h => h)
   ·skip
    by_cases hk4 : kindF axis = 4
    ·skip
     refine jc_region (jo_pure rfl (pr_eql (n := 1) rfl rfl) ?_)
     refine jo_pure rfl (pr_assign rfl) (jo_nil (jq_then (jc_false rfl (decide_eq_false hk1) ?_)))
     refine jc_region (jo_pure rfl (pr_eql (n := 2) rfl rfl) ?_)
     refine jo_pure rfl (pr_assign rfl) (jo_nil (jq_then (jc_false rfl (decide_eq_false hk2) ?_)))
     refine jc_seq (jc_seq (jc_region (jo_pure rfl (pr_eql (n := 3) rfl rfl) ?_)))
     refine jo_pure rfl (pr_assign rfl) (jo_nil (jq_then (jc_false rfl (decide_eq_false hk3) ?_)))
     refine jc_region (jo_pure rfl (pr_eql (n := 4) rfl rfl) ?_)
     refine jo_pure rfl (pr_assign rfl) (jo_nil (jq_then (jc_true rfl (decide_eq_true hk4) ?_)))
     refine jc_seq (jc_region (jo_pure rfl (pr_move rfl) (jo_pure rfl (pr_move rfl) ?_)))
     refine jo_callp cal_102 (c_ref10_Canonical (kindF axis) a (by omega)) ⟨rfl, rfl, trivial⟩ rfl (trivial) (fun _ => ?_)
     refine jo_pure rfl (pr_move rfl) (jo_pure rfl (pr_move rfl) ?_)
     refine jo_callp cal_102 (c_ref10_Canonical (kindF axis) b (by omega)) ⟨rfl, rfl, trivial⟩ rfl (trivial) (fun _ => ?_)
     refine jo_pure rfl (pr_seql rfl rfl) ?_
     refine jo_pure rfl (pr_assign rfl) (jo_nil (jq_then (jc_ret (jq_in_ret ?_))))
     refine jq_then_ret ?_
     exact jq_ret1 rfl () rfl (show (.bool (sameF axis a b) : Value) = (.bool (decide ((canonical (kindF axis) a : Str) = canonical (kindF axis) b))) from congrArg Value.bool (by rw [same_canon (.inr hk4)])) (fun _ h => h)
    ·skip
     refine jc_region (jo_pure rfl (pr_eql (n := 1) rfl rfl) ?_)
     refine jo_pure rfl (pr_assign rfl) (jo_nil (jq_then (jc_false rfl (decide_eq_false hk1) ?_)))
     refine jc_region (jo_pure rfl (pr_eql (n := 2) rfl rfl) ?_)
     refine jo_pure rfl (pr_assign rfl) (jo_nil (jq_then (jc_false rfl (decide_eq_false hk2) ?_)))
     refine jc_seq (jc_seq (jc_region (jo_pure rfl (pr_eql (n := 3) rfl rfl) ?_)))
     refine jo_pure rfl (pr_assign rfl) (jo_nil (jq_then (jc_false rfl (decide_eq_false hk3) ?_)))
     refine jc_region (jo_pure rfl (pr_eql (n := 4) rfl rfl) ?_)
     refine jo_pure rfl (pr_assign rfl) (jo_nil (jq_then (jc_false rfl (decide_eq_false hk4) ?_)))
     refine jc_skip (jq_in_normal (jq_then (jc_seq (jc_region (jo_pure rfl (pr_move rfl) (jo_pure rfl (pr_move rfl) (jo_pure rfl (pr_seql rfl rfl) (jo_pure rfl (pr_assign rfl) (jo_nil (jq_then (jc_ret ?_)))))))))))
     exact jq_ret1 rfl () rfl (show (.bool (sameF axis a b) : Value) = (.bool (decide ((a : Str) = b))) from congrArg Value.bool (by rw [same_id hk1 hk2 hk3 hk4])) (fun _ h => h)

theorem c_ref10_validAxis (a : Axs) (av : Value) (ha : a.1.length ≤ 1000000) (hm : ∀ x ∈ a.2, x.length ≤ 300000) (hl : a.2.length ≤ 9223372036854775807) : Con Tryz.prog 52 #[.agg #[str (a.1), av]] [.imm (.list .str) (av) (a.2)] (fun _ : Unit => .bool (validA a)) (fun _ => []) := by
 refine con_of_J (args := [.agg #[str (a.1), av]]) (n := 63) Tryz.func52 rfl (Nat.le_of_ble_eq_true rfl) rfl (fun w0 I0 m0 => ?_)
 refine jc_seq (jc_region ?_)
 refine jo_box rfl [str (a.1), av] rfl rfl (fun b1 => ?_)
 refine jo_pure rfl (pr_assign rfl) (jo_nil (jq_then (jc_seq (jc_seq (jc_draws mixed (by kernel_rfl) (jd_pure rfl (pr_fieldAddr 0 rfl Tryz.underlying83 rfl ty_9 rfl rfl) ?_))))))
 refine jd_pure rfl (pr_load_box (str (a.1)) rfl ty_9 (.head _) rfl (by decide) rfl) ?_
 refine jd_callp cal_78 (c_ref01_Token a.1 (by first | omega | exact hm _ (getD_mem h2) | exact hm _ (getD_mem (show k < a.2.length by omega)))) ⟨rfl, trivial⟩ rfl (trivial) ?_
 refine jd_pure rfl (pr_not rfl) ?_
 refine jd_pure rfl (pr_move rfl) ?_
 refine jd_gpure (j := 4) (want := false) rfl rfl rfl rfl (fun hg=>pr_fieldAddr 0 rfl Tryz.underlying83 rfl ty_9 rfl rfl) ?_
 refine jd_gpure (j := 4) (want := false) rfl rfl rfl rfl (fun hg=>pr_load_box (str (a.1)) (evg rfl hg) ty_9 (.head _) rfl (by decide) rfl) ?_
 refine jd_gcall (j := 4) (want := false) rfl rfl rfl cal_79 (fun hg => c_ref01_Lower a.1 (by first | omega | exact hm _ (getD_mem h2) | exact hm _ (getD_mem (show k < a.2.length by omega)))) (fun hg => ⟨evg rfl hg, trivial⟩) rfl (fun _ => trivial) ?_
 refine jd_gpure (j := 4) (want := false) rfl rfl rfl rfl (fun hg=>pr_fieldAddr 0 rfl Tryz.underlying83 rfl ty_9 rfl rfl) ?_
 refine jd_gpure (j := 4) (want := false) rfl rfl rfl rfl (fun hg=>pr_load_box (str (a.1)) (evg rfl hg) ty_9 (.head _) rfl (by decide) rfl) ?_
 refine jd_gpure (j := 4) (want := false) rfl rfl rfl rfl (fun hg=>pr_sneq (evg rfl hg) (evg rfl hg)) ?_
 refine jd_pure rfl (pr_pick_or rfl rfl rfl) ?_
 refine jd_pure rfl (pr_move rfl) ?_
 refine jd_gpure (j := 12) (want := false) rfl rfl rfl rfl (fun hg=>pr_fieldAddr 1 rfl Tryz.underlying83 rfl ty_28 rfl rfl) ?_
 refine jd_gpure (j := 12) (want := false) rfl rfl rfl rfl (fun hg=>pr_load_box (av) (evg rfl hg) ty_28 (.head _) rfl (by decide) rfl) ?_
 refine jd_gpure (j := 12) (want := false) rfl rfl rfl rfl (fun hg=>pr_len_imm (evg rfl hg) (.tail _ (.head _)) Tryz.underlying28) ?_
 refine jd_gpure (j := 12) (want := false) rfl rfl rfl rfl (fun hg=>pr_lssN (m := a.2.length) (n := 1) (evg rfl hg) rfl) ?_
 refine jd_pure rfl (pr_pick_or rfl rfl rfl) ?_
 refine jd_pure rfl (pr_move rfl) ?_
 refine jd_gpure (j := 18) (want := false) rfl rfl rfl rfl (fun hg=>pr_fieldAddr 1 rfl Tryz.underlying83 rfl ty_28 rfl rfl) ?_
 refine jd_gpure (j := 18) (want := false) rfl rfl rfl rfl (fun hg=>pr_load_box (av) (evg rfl hg) ty_28 (.head _) rfl (by decide) rfl) ?_
 refine jd_gpure (j := 18) (want := false) rfl rfl rfl rfl (fun hg=>pr_len_imm (evg rfl hg) (.tail _ (.head _)) Tryz.underlying28) ?_
 refine jd_gpure (j := 18) (want := false) rfl rfl rfl rfl (fun hg=>pr_gtrN (m := a.2.length) (n := 16) (evg rfl hg) rfl) ?_
 refine jd_pure rfl (pr_pick_or rfl rfl rfl) ?_
 refine jd_nil ?_
 refine jq_then ?_
 refine jc_cond rfl (fun h1b => ?_) (fun h1b => ?_)
 ·have h1 := (fun q => Or.imp (fun q => Or.imp (fun q => Or.imp (fun q => id (bt_not q)) (fun q => of_decide_eq_false (bt_not q)) (bt_or q)) of_decide_eq_true (bt_or q)) of_decide_eq_true (bt_or q)) h1b
  refine jc_seq (jc_region (jo_pure rfl (pr_assign rfl) (jo_nil (jq_then (jc_ret (jq_then_ret (j_drop (j_drop ?_))))))))
  exact jq_ret1 rfl () rfl (show (.bool (validA a) : Value) = (.bool (false)) from congrArg Value.bool (by rw [validA_no h1])) (fun _ h => h)
 ·have h1 := (fun q => And.imp (fun q => And.imp (fun q => And.imp (fun q => id (bf_not q)) (fun q => of_decide_eq_true (bf_not q)) (bf_or q)) of_decide_eq_false (bf_or q)) of_decide_eq_false (bf_or q)) h1b
  refine jc_skip (jq_then (jc_seq (jc_seq (jc_region (jo_pure rfl (pr_assign rfl) (jo_nil (jq_then (jc_block ?_))))))))
  refine jc_loop (fun (i : Nat) => [(1, .pointer (some ⟨b1, 0, none⟩)), (3, .int .i64 ((i : Nat) : Int))]) (fun (i : Nat) => [.box b1 83 [str (a.1), av], .imm (.list .str) (av) (a.2)]) (fun (i : Nat) => i ≤ a.2.length ∧ distB (fun s => (formF (kindF a.1) s).2) (fun x y => decide ((formF (kindF a.1) y).1 = (formF (kindF a.1) x).1)) [] a.2 i = true) (fun (i : Nat) => a.2.length - i) 0 (⟨Nat.zero_le _, rfl⟩) (⟨rfl, rfl, trivial⟩) (fun _ h => h) (fun i hinv => ?_)
  refine jc_seq (jc_seq (jc_region (jo_pure rfl (pr_move rfl) (jo_pure rfl (pr_fieldAddr 1 rfl Tryz.underlying83 rfl ty_28 rfl rfl) ?_))))
  refine jo_pure rfl (pr_load_box (av) rfl ty_28 (.head _) rfl (by decide) rfl) ?_
  refine jo_pure rfl (pr_len_imm rfl (.tail _ (.head _)) Tryz.underlying28) ?_
  refine jo_pure rfl (pr_lssN (m := i) (n := a.2.length) rfl rfl) ?_
  refine jo_nil (jq_then ?_)
  refine jc_cond rfl (fun h2b => ?_) (fun h2b => ?_)
  ·have h2 := of_decide_eq_true h2b
   refine jc_skip (jq_then (jc_seq (jc_block (jc_seq (jc_seq (jc_draws mixed (by kernel_rfl) (jd_pure rfl (pr_fieldAddr 0 rfl Tryz.underlying83 rfl ty_9 rfl rfl) ?_)))))))
   refine jd_pure rfl (pr_load_box (str (a.1)) rfl ty_9 (.head _) rfl (by decide) rfl) ?_
   refine jd_pure rfl (pr_fieldAddr 1 rfl Tryz.underlying83 rfl ty_28 rfl rfl) ?_
   refine jd_pure rfl (pr_load_box (av) rfl ty_28 (.head _) rfl (by decide) rfl) ?_
   refine jd_pure rfl (pr_move rfl) ?_
   refine jd_pure rfl (pr_idx_imm (i := i) rfl (.tail _ (.head _)) rfl Tryz.underlying28 ty_9 (by omega)) ?_
   refine jd_pure rfl (pr_load_elem_imm (i := i) (str (a.2.getD i [])) rfl (.tail _ (.head _)) ty_9 rfl rfl (by omega) rfl) ?_
   refine jd_callp cal_80 (c_ref10_Value a.1 (a.2.getD i []) (by first | omega | exact hm _ (getD_mem h2) | exact hm _ (getD_mem (show k < a.2.length by omega))) (by first | omega | exact hm _ (getD_mem h2) | exact hm _ (getD_mem (show k < a.2.length by omega)))) ⟨rfl, rfl, trivial⟩ rfl (trivial) ?_
   refine jd_pure rfl (pr_not rfl) ?_
   refine jd_nil ?_
   refine jq_then ?_
   refine jc_cond rfl (fun h3b => ?_) (fun h3b => ?_)
   ·have h3 := (fun q => id (bt_not q)) h3b
    refine jc_seq (jc_region (jo_pure rfl (pr_assign rfl) (jo_nil (jq_then (jc_ret (jq_then_ret (jq_in_ret ?_)))))))
    refine jq_then_ret (jq_then_ret (jq_in_ret ?_))
    refine jq_then_ret (j_drop (j_drop ?_))
    exact jq_ret1 rfl () rfl (show (.bool (validA a) : Value) = (.bool (false)) from congrArg Value.bool (by rw [validA_yes h1, dist_bad (ok := fun s => (formF (kindF a.1) s).2) h2 (.inl h3)])) (fun _ h => h)
   ·have h3 := (fun q => id (bf_not q)) h3b
    refine jc_skip (jq_then (jc_seq (jc_region (jo_pure rfl (pr_assign rfl) (jo_nil (jq_then (jc_block ?_)))))))
    refine jc_loop (fun (k : Nat) => [(1, .pointer (some ⟨b1, 0, none⟩)), (3, .int .i64 ((i : Nat) : Int)), (4, .int .i64 ((k : Nat) : Int))]) (fun (k : Nat) => [.box b1 83 [str (a.1), av], .imm (.list .str) (av) (a.2)]) (fun (k : Nat) => k ≤ i ∧ (a.2.take k).any (fun b => sameF a.1 (a.2.getD i []) b) = false) (fun (k : Nat) => i - k) 0 (⟨Nat.zero_le _, rfl⟩) (⟨rfl, rfl, rfl, trivial⟩) (fun _ h => h) (fun k hink => ?_)
    refine jc_seq (jc_seq (jc_region (jo_pure rfl (pr_move rfl) (jo_pure rfl (pr_move rfl) (jo_pure rfl (pr_lssN (m := k) (n := i) rfl rfl) ?_)))))
    refine jo_nil (jq_then ?_)
    refine jc_cond rfl (fun h4b => ?_) (fun h4b => ?_)
    ·have h4 := of_decide_eq_true h4b
     refine jc_skip (jq_then (jc_seq (jc_block (jc_seq (jc_draws mixed (by kernel_rfl) (jd_pure rfl (pr_fieldAddr 0 rfl Tryz.underlying83 rfl ty_9 rfl rfl) ?_))))))
     refine jd_pure rfl (pr_load_box (str (a.1)) rfl ty_9 (.head _) rfl (by decide) rfl) ?_
     refine jd_pure rfl (pr_fieldAddr 1 rfl Tryz.underlying83 rfl ty_28 rfl rfl) ?_
     refine jd_pure rfl (pr_load_box (av) rfl ty_28 (.head _) rfl (by decide) rfl) ?_
     refine jd_pure rfl (pr_move rfl) ?_
     refine jd_pure rfl (pr_idx_imm (i := i) rfl (.tail _ (.head _)) rfl Tryz.underlying28 ty_9 (by omega)) ?_
     refine jd_pure rfl (pr_load_elem_imm (i := i) (str (a.2.getD i [])) rfl (.tail _ (.head _)) ty_9 rfl rfl (by omega) rfl) ?_
     refine jd_pure rfl (pr_fieldAddr 1 rfl Tryz.underlying83 rfl ty_28 rfl rfl) ?_
     refine jd_pure rfl (pr_load_box (av) rfl ty_28 (.head _) rfl (by decide) rfl) ?_
     refine jd_pure rfl (pr_move rfl) ?_
     refine jd_pure rfl (pr_idx_imm (i := k) rfl (.tail _ (.head _)) rfl Tryz.underlying28 ty_9 (by omega)) ?_
     refine jd_pure rfl (pr_load_elem_imm (i := k) (str (a.2.getD k [])) rfl (.tail _ (.head _)) ty_9 rfl rfl (by omega) rfl) ?_
     refine jd_callp cal_81 (c_ref10_Same a.1 (a.2.getD i []) (a.2.getD k []) (by first | omega | exact hm _ (getD_mem h2) | exact hm _ (getD_mem (show k < a.2.length by omega))) (by first | omega | exact hm _ (getD_mem h2) | exact hm _ (getD_mem (show k < a.2.length by omega))) (by first | omega | exact hm _ (getD_mem h2) | exact hm _ (getD_mem (show k < a.2.length by omega)))) ⟨rfl, rfl, rfl, trivial⟩ rfl (trivial) ?_
     refine jd_nil ?_
     refine jq_then ?_
     refine jc_cond rfl (fun h5b => ?_) (fun h5b => ?_)
     ·have h5 := id h5b
      refine jc_seq (jc_region (jo_pure rfl (pr_assign rfl) (jo_nil (jq_then (jc_ret (jq_in_ret ?_))))))
      refine jq_then_ret (jq_then_ret (jq_in_ret ?_))
      refine jq_in_ret ?_
      refine jq_then_ret (jq_then_ret (jq_in_ret ?_))
      refine jq_then_ret (j_drop (j_drop ?_))
      exact jq_ret1 rfl () rfl (show (.bool (validA a) : Value) = (.bool (false)) from congrArg Value.bool (by rw [validA_yes h1, dist_bad h2 (.inr (by rw [← same_alt]; exact any_of (dd := []) (by omega) h4 h5))])) (fun _ h => h)
     ·have h5 := id h5b
      refine jc_skip (jq_in_normal (jq_then (jc_region (jo_pure rfl (pr_move rfl) (jo_pure rfl (pr_addN (m := k) (n := 1) rfl rfl (by omega)) ?_)))))
      refine jo_pure rfl (pr_assign rfl) (jo_nil (j_pull1 (j_pull1 ?_)))
      refine jq_round' (k + 1) (by (try dsimp only); exact (⟨by omega, any_step (dd := []) (by omega) hink.2 h5⟩)) (by (try dsimp only); exact (by omega)) ⟨rfl, rfl, rfl, trivial⟩ (fun _ h => h)
    ·have h4 := of_decide_eq_false h4b
     refine jc_exit ?_
     refine jq_then_exit ?_
     refine jq_then_exit ?_
     refine jq_in_hit ?_
     refine jq_in_normal (jq_then (jc_region (jo_pure rfl (pr_move rfl) (jo_pure rfl (pr_addN (m := i) (n := 1) rfl rfl (by omega)) ?_))))
     refine jo_pure rfl (pr_assign rfl) (jo_nil (j_pull1 (j_pull1 ?_)))
     refine jq_round' (i + 1) (by (try dsimp only); exact (⟨by omega, dist_go hinv.2 h3 (by have h9 := hink.2; rw [show k = i by omega, same_alt] at h9; exact h9)⟩)) (by (try dsimp only); exact (by omega)) ⟨rfl, rfl, trivial⟩ (fun _ h => h)
  ·have h2 := of_decide_eq_false h2b
   refine jc_exit ?_
   refine jq_then_exit ?_
   refine jq_then_exit ?_
   refine jq_in_hit ?_
   refine jq_then (jc_seq (jc_region (jo_pure rfl (pr_assign rfl) (jo_nil (jq_then (jc_ret (j_drop (j_drop ?_))))))))
   exact jq_ret1 rfl () rfl (show (.bool (validA a) : Value) = (.bool (true)) from congrArg Value.bool (by rw [validA_yes h1, dist_done hinv.1 (by omega) hinv.2])) (fun _ h => h)

theorem c_ref10_Valid (l : List (Axs)) (lv : Value) (hl : l.length ≤ 9223372036854775807) (hm : ∀ a ∈ l, a.1.length ≤ 1000000 ∧ (∀ x ∈ a.2, x.length ≤ 300000) ∧ a.2.length ≤ 9223372036854775807) : Con Tryz.prog 24 #[lv] [.imm (.list (.pair .str (.list .str))) (lv) (l)] (fun _ : Unit => .bool (validL l)) (fun _ => []) := by
 refine con_of_J (args := [lv]) (n := 41) Tryz.func24 rfl (Nat.le_of_ble_eq_true rfl) rfl (fun w0 I0 m0 => ?_)
 refine jc_seq (jc_region (jo_pure rfl (pr_assign rfl) (jo_nil (jq_then (jc_seq (jc_seq (jc_region (jo_pure rfl (pr_move rfl) (jo_pure rfl (pr_len_imm rfl (.head _) Tryz.underlying41) ?_)))))))))
 refine jo_pure rfl (pr_lssN (m := l.length) (n := 1) rfl rfl) ?_
 refine jo_pure rfl (pr_move rfl) (jo_gpure (j := 3) (want := false) rfl rfl rfl rfl (fun hg=>pr_move rfl) (jo_gpure (j := 3) (want := false) rfl rfl rfl rfl (fun hg=>pr_len_imm (evg rfl hg) (.head _) Tryz.underlying41) ?_))
 refine jo_gpure (j := 3) (want := false) rfl rfl rfl rfl (fun hg=>pr_gtrN (m := l.length) (n := 4) (evg rfl hg) rfl) ?_
 refine jo_pure rfl (pr_pick_or rfl rfl rfl) ?_
 refine jo_nil (jq_then ?_)
 refine jc_cond rfl (fun h1b => ?_) (fun h1b => ?_)
 ·have h1 := (fun q => Or.imp of_decide_eq_true of_decide_eq_true (bt_or q)) h1b
  refine jc_seq (jc_region (jo_pure rfl (pr_assign rfl) (jo_nil (jq_then (jc_ret (jq_then_ret (j_drop ?_)))))))
  exact jq_ret1 rfl () rfl (show (.bool (validL l) : Value) = (.bool (false)) from congrArg Value.bool (by rw [validL_no h1])) (fun _ h => h)
 ·have h1 := (fun q => And.imp of_decide_eq_false of_decide_eq_false (bf_or q)) h1b
  refine jc_skip (jq_then (jc_seq (jc_seq (jc_region (jo_pure rfl (pr_assign rfl) (jo_nil (jq_then (jc_block ?_))))))))
  refine jc_loop (fun (i : Nat) => [(0, lv), (3, .int .i64 ((i : Nat) : Int))]) (fun (i : Nat) => [.imm (.list (.pair .str (.list .str))) (lv) (l)]) (fun (i : Nat) => i ≤ l.length ∧ distB validA (fun x y => decide (x.1 = y.1)) ([], []) l i = true) (fun (i : Nat) => l.length - i) 0 (⟨Nat.zero_le _, rfl⟩) (⟨rfl, rfl, trivial⟩) (fun _ h => h) (fun i hinv => ?_)
  refine jc_seq (jc_seq (jc_region (jo_pure rfl (pr_move rfl) (jo_pure rfl (pr_move rfl) (jo_pure rfl (pr_len_imm rfl (.head _) Tryz.underlying41) ?_)))))
  refine jo_pure rfl (pr_lssN (m := i) (n := l.length) rfl rfl) ?_
  refine jo_nil (jq_then ?_)
  refine jc_cond rfl (fun h2b => ?_) (fun h2b => ?_)
  ·have h2 := of_decide_eq_true h2b
   have hA := hm _ (getD_mem (dd := ([], [])) h2)
   refine jc_skip (jq_then (jc_seq (jc_block (jc_seq (jc_seq (jc_region (jo_pure rfl (pr_move rfl) (jo_pure rfl (pr_move rfl) ?_))))))))
   refine j_open_elem (t := (.pair .str (.list .str))) (i := i) ([], []) (.head _) (by omega) (fun ⟨_, e1⟩ => ?_)
   refine jo_pure rfl (pr_idx_imm (i := i) rfl (.tail _ (.tail _ (.head _))) rfl Tryz.underlying41 ty_83 (by omega)) ?_
   refine jo_pure rfl (pr_load_at (.agg #[str (((l.getD i ([], []))).1), e1]) rfl (.tail _ (.head _)) ty_83 (by decide) rfl) ?_
   have con1 := c_ref10_validAxis ((l.getD i ([], []))) e1 (by first | omega | exact hA.2.1 | exact hA.1 | exact hA.2.2) (by first | omega | exact hA.2.1 | exact hA.1 | exact hA.2.2) (by first | omega | exact hA.2.1 | exact hA.1 | exact hA.2.2)
   refine jo_callp cal_52 con1 (by exact ⟨rfl, trivial⟩) rfl (by exact ⟨⟨rfl, .head _⟩, trivial⟩) (fun _ => ?_)
   clear con1
   refine jo_pure rfl (pr_not rfl) ?_
   refine jo_nil (jq_then ?_)
   refine jc_cond rfl (fun h3b => ?_) (fun h3b => ?_)
   ·have h3 := (fun q => id (bt_not q)) h3b
    refine jc_seq (jc_region (jo_pure rfl (pr_assign rfl) (jo_nil (jq_then (jc_ret (jq_then_ret (jq_in_ret ?_)))))))
    refine jq_then_ret (jq_then_ret (jq_in_ret ?_))
    refine jq_then_ret (j_drop (j_drop (j_drop ?_)))
    exact jq_ret1 rfl () rfl (show (.bool (validL l) : Value) = (.bool (false)) from congrArg Value.bool (by rw [validL_yes (by omega), dist_bad h2 (.inl h3)])) (fun _ h => h)
   ·have h3 := (fun q => id (bf_not q)) h3b
    refine jc_skip (jq_then (jc_seq (jc_region (jo_pure rfl (pr_assign rfl) (jo_nil (jq_then (jc_block ?_)))))))
    refine jc_loop (fun (k : Nat) => [(0, lv), (3, .int .i64 ((i : Nat) : Int)), (4, .int .i64 ((k : Nat) : Int))]) (fun (k : Nat) => [.imm (.list .str) (e1) (((l.getD i ([], []))).2), .fact (fun w_ I_ => ElemAt w_ I_ (lv) (i) 2 [str (((l.getD i ([], []))).1), e1]), .imm (.list (.pair .str (.list .str))) (lv) (l)]) (fun (k : Nat) => k ≤ i ∧ (l.take k).any (fun b => decide ((l.getD i ([], [])).1 = b.1)) = false) (fun (k : Nat) => i - k) 0 (⟨Nat.zero_le _, rfl⟩) (⟨rfl, rfl, rfl, trivial⟩) (fun _ h => h) (fun k hink => ?_)
    refine jc_seq (jc_seq (jc_region (jo_pure rfl (pr_move rfl) (jo_pure rfl (pr_move rfl) (jo_pure rfl (pr_lssN (m := k) (n := i) rfl rfl) ?_)))))
    refine jo_nil (jq_then ?_)
    refine jc_cond rfl (fun h4b => ?_) (fun h4b => ?_)
    ·have h4 := of_decide_eq_true h4b
     refine jc_skip (jq_then (jc_seq (jc_block (jc_seq ?_))))
     refine j_open_elem (t := (.pair .str (.list .str))) (i := k) ([], []) (.tail _ (.tail _ (.head _))) (by omega) (fun ⟨_, e2⟩ => ?_)
     refine jc_draws mixed (by kernel_rfl) (jd_pure rfl (pr_move rfl) ?_)
     refine jd_pure rfl (pr_move rfl) ?_
     refine jd_pure rfl (pr_idx_imm (i := i) rfl (.tail _ (.tail _ (.tail _ (.tail _ (.head _))))) rfl Tryz.underlying41 ty_83 (by omega)) ?_
     refine jd_pure rfl (pr_fieldAddr_imm (i := i) rfl (.tail _ (.tail _ (.tail _ (.tail _ (.head _))))) Tryz.underlying83 rfl ty_9 rfl rfl (by omega)) ?_
     refine jd_pure rfl (pr_load_off_at (o := 0) (str (((l.getD i ([], []))).1)) rfl (.tail _ (.tail _ (.tail _ (.head _)))) ty_9 (by decide) rfl rfl) ?_
     refine jd_pure rfl (pr_move rfl) ?_
     refine jd_pure rfl (pr_move rfl) ?_
     refine jd_pure rfl (pr_idx_imm (i := k) rfl (.tail _ (.tail _ (.tail _ (.tail _ (.head _))))) rfl Tryz.underlying41 ty_83 (by omega)) ?_
     refine jd_pure rfl (pr_fieldAddr_imm (i := k) rfl (.tail _ (.tail _ (.tail _ (.tail _ (.head _))))) Tryz.underlying83 rfl ty_9 rfl rfl (by omega)) ?_
     refine jd_pure rfl (pr_load_off_at (o := 0) (str (((l.getD k ([], []))).1)) rfl (.tail _ (.head _)) ty_9 (by decide) rfl rfl) ?_
     refine jd_pure rfl (pr_seql rfl rfl) ?_
     refine jd_nil ?_
     refine jq_then ?_
     refine jc_cond rfl (fun h5b => ?_) (fun h5b => ?_)
     ·have h5 := of_decide_eq_true h5b
      refine jc_seq (jc_region (jo_pure rfl (pr_assign rfl) (jo_nil (jq_then (jc_ret (jq_in_ret ?_))))))
      refine jq_then_ret (jq_then_ret (jq_in_ret ?_))
      refine jq_in_ret ?_
      refine jq_then_ret (jq_then_ret (jq_in_ret ?_))
      refine jq_then_ret (j_drop (j_drop (j_drop (j_drop (j_drop ?_)))))
      exact jq_ret1 rfl () rfl (show (.bool (validL l) : Value) = (.bool (false)) from congrArg Value.bool (by rw [validL_yes (by omega), dist_bad h2 (.inr (any_of (p := fun b => decide ((l.getD i ([], [])).1 = b.1)) (dd := ([], [])) (by omega) h4 h5b))])) (fun _ h => h)
     ·have h5 := of_decide_eq_false h5b
      refine jc_skip (jq_in_normal (jq_then (jc_region (jo_pure rfl (pr_move rfl) (jo_pure rfl (pr_addN (m := k) (n := 1) rfl rfl (by omega)) ?_)))))
      refine jo_pure rfl (pr_assign rfl) (jo_nil (j_drop (j_drop (j_pull2 (j_pull2 (j_pull2 ?_))))))
      refine jq_round' (k + 1) (by (try dsimp only); exact (⟨by omega, any_step (dd := ([], [])) (by omega) hink.2 h5b⟩)) (by (try dsimp only); exact (by omega)) ⟨rfl, rfl, rfl, trivial⟩ (fun _ h => h)
    ·have h4 := of_decide_eq_false h4b
     refine jc_exit ?_
     refine jq_then_exit ?_
     refine jq_then_exit ?_
     refine jq_in_hit ?_
     refine jq_in_normal (jq_then (jc_region (jo_pure rfl (pr_move rfl) (jo_pure rfl (pr_addN (m := i) (n := 1) rfl rfl (by omega)) ?_))))
     refine jo_pure rfl (pr_assign rfl) (jo_nil (j_drop (j_drop ?_)))
     refine jq_round' (i + 1) (by (try dsimp only); exact (⟨by omega, dist_go hinv.2 h3 (by have h9 := hink.2; rw [show k = i by omega] at h9; exact h9)⟩)) (by (try dsimp only); exact (by omega)) ⟨rfl, rfl, trivial⟩ (fun _ h => h)
  ·have h2 := of_decide_eq_false h2b
   refine jc_exit ?_
   refine jq_then_exit ?_
   refine jq_then_exit ?_
   refine jq_in_hit ?_
   refine jq_then (jc_seq (jc_region (jo_pure rfl (pr_assign rfl) (jo_nil (jq_then (jc_ret (j_drop ?_)))))))
   exact jq_ret1 rfl () rfl (show (.bool (validL l) : Value) = (.bool (true)) from congrArg Value.bool (by rw [validL_yes (by omega), dist_done hinv.1 (by omega) hinv.2])) (fun _ h => h)

theorem c_keep_Strings (l : List Str) (lv : Value) (hl : l.length ≤ 9223372036854775807) : Con Tryz.prog 57 #[lv] [.imm (.list .str) (lv) (l)] (fun _ : Unit => .bool (keepS l)) (fun _ => []) := by
 refine con_of_J (args := [lv]) (n := 23) Tryz.func57 rfl (Nat.le_of_ble_eq_true rfl) rfl (fun w0 I0 m0 => ?_)
 refine jc_seq (jc_region (jo_pure rfl (pr_assign rfl) (jo_nil (jq_then (jc_seq (jc_seq (jc_region (jo_pure rfl (pr_assign rfl) (jo_nil (jq_then (jc_block ?_)))))))))))
 refine jc_loop (fun (i : Nat) => [(0, lv), (3, .int .i64 ((i : Nat) : Int))]) (fun (i : Nat) => [.imm (.list .str) (lv) (l)]) (fun (i : Nat) => i ≤ 21 ∧ (l.take i).all okS = true) (fun (i : Nat) => 21 - i) 0 (⟨Nat.zero_le _, rfl⟩) (⟨rfl, rfl, trivial⟩) (fun _ h => h) (fun i hinv => ?_)
 refine jc_seq (jc_seq (jc_region (jo_pure rfl (pr_move rfl) (jo_pure rfl (pr_move rfl) (jo_pure rfl (pr_len_imm rfl (.head _) Tryz.underlying28) ?_)))))
 refine jo_pure rfl (pr_lssN (m := i) (n := l.length) rfl rfl) ?_
 refine jo_pure rfl (pr_move rfl) (jo_gpure (j := 4) (want := true) rfl rfl rfl rfl (fun hg=>pr_move rfl) (jo_gpure (j := 4) (want := true) rfl rfl rfl rfl (fun hg=>pr_lssN (m := i) (n := 21) (evg rfl hg) rfl) ?_))
 refine jo_pure rfl (pr_pick_and rfl rfl rfl) ?_
 refine jo_nil (jq_then ?_)
 refine jc_cond rfl (fun h1b => ?_) (fun h1b => ?_)
 ·have h1 := (fun q => And.imp of_decide_eq_true of_decide_eq_true (bt_and q)) h1b
  refine jc_skip (jq_then (jc_seq (jc_block (jc_seq (jc_region (jo_pure rfl (pr_move rfl) (jo_pure rfl (pr_move rfl) (jo_pure rfl (pr_idx_imm (i := i) rfl (.head _) rfl Tryz.underlying28 ty_9 (by omega)) ?_))))))))
  refine jo_pure rfl (pr_load_elem_imm (i := i) (str (l.getD i [])) rfl (.head _) ty_9 rfl rfl (by omega) rfl) ?_
  refine jo_pure rfl (pr_slen rfl Tryz.underlying9) ?_
  refine jo_pure rfl (pr_gtrN (m := (l.getD i []).length) (n := 100) rfl rfl) ?_
  refine jo_nil (jq_then ?_)
  refine jc_cond rfl (fun h2b => ?_) (fun h2b => ?_)
  ·have h2 := of_decide_eq_true h2b
   refine jc_seq (jc_region (jo_pure rfl (pr_assign rfl) (jo_nil (jq_then (jc_ret (jq_in_ret ?_))))))
   refine jq_then_ret (jq_then_ret (jq_in_ret ?_))
   refine jq_then_ret (j_drop ?_)
   exact jq_ret1 rfl () rfl (show (.bool (keepS l) : Value) = (.bool (false)) from congrArg Value.bool (by rw [keepS, keep_miss (dd := []) h1.2 h1.1 (by unfold okS; rw [h2b]; rfl)]; rfl)) (fun _ h => h)
  ·have h2 := of_decide_eq_false h2b
   refine jc_skip (jq_in_normal (jq_then (jc_region (jo_pure rfl (pr_move rfl) (jo_pure rfl (pr_addN (m := i) (n := 1) rfl rfl (by omega)) ?_)))))
   refine jo_pure rfl (pr_assign rfl) (jo_nil ?_)
   refine jq_round' (i + 1) (by (try dsimp only); exact (⟨by omega, all_step (dd := []) h1.1 hinv.2 (by unfold okS; rw [h2b]; rfl)⟩)) (by (try dsimp only); exact (by omega)) ⟨rfl, rfl, trivial⟩ (fun _ h => h)
 ·have h1 := (fun q => Or.imp of_decide_eq_false of_decide_eq_false (bf_and q)) h1b
  refine jc_exit ?_
  refine jq_then_exit ?_
  refine jq_then_exit ?_
  refine jq_in_hit ?_
  refine jq_then (jc_seq (jc_region (jo_pure rfl (pr_move rfl) (jo_pure rfl (pr_len_imm rfl (.head _) Tryz.underlying28) ?_))))
  refine jo_pure rfl (pr_leqN (m := l.length) (n := 20) rfl rfl) ?_
  refine jo_pure rfl (pr_assign rfl) (jo_nil (jq_then (jc_ret (j_drop ?_))))
  exact jq_ret1 rfl () rfl (show (.bool (keepS l) : Value) = (.bool (decide ((l.length : Nat) ≤ 20))) from congrArg Value.bool (by rw [keepS, keep_end hinv.1 h1 hinv.2]; rfl)) (fun _ h => h)

theorem c_keep_Axes (l : List (Axs)) (lv : Value) (hl : l.length ≤ 9223372036854775807) (hm : ∀ a ∈ l, a.2.length ≤ 9223372036854775807) : Con Tryz.prog 34 #[lv] [.imm (.list (.pair .str (.list .str))) (lv) (l)] (fun _ : Unit => .bool (keepA l)) (fun _ => []) := by
 refine con_of_J (args := [lv]) (n := 33) Tryz.func34 rfl (Nat.le_of_ble_eq_true rfl) rfl (fun w0 I0 m0 => ?_)
 refine jc_seq (jc_region (jo_pure rfl (pr_assign rfl) (jo_nil (jq_then (jc_seq (jc_seq (jc_region (jo_pure rfl (pr_assign rfl) (jo_nil (jq_then (jc_block ?_)))))))))))
 refine jc_loop (fun (i : Nat) => [(0, lv), (3, .int .i64 ((i : Nat) : Int))]) (fun (i : Nat) => [.imm (.list (.pair .str (.list .str))) (lv) (l)]) (fun (i : Nat) => i ≤ 7 ∧ (l.take i).all okA = true) (fun (i : Nat) => 7 - i) 0 (⟨Nat.zero_le _, rfl⟩) (⟨rfl, rfl, trivial⟩) (fun _ h => h) (fun i hinv => ?_)
 refine jc_seq (jc_seq (jc_region (jo_pure rfl (pr_move rfl) (jo_pure rfl (pr_move rfl) (jo_pure rfl (pr_len_imm rfl (.head _) Tryz.underlying41) ?_)))))
 refine jo_pure rfl (pr_lssN (m := i) (n := l.length) rfl rfl) ?_
 refine jo_pure rfl (pr_move rfl) (jo_gpure (j := 4) (want := true) rfl rfl rfl rfl (fun hg=>pr_move rfl) (jo_gpure (j := 4) (want := true) rfl rfl rfl rfl (fun hg=>pr_lssN (m := i) (n := 7) (evg rfl hg) rfl) ?_))
 refine jo_pure rfl (pr_pick_and rfl rfl rfl) ?_
 refine jo_nil (jq_then ?_)
 refine jc_cond rfl (fun h1b => ?_) (fun h1b => ?_)
 ·have h1 := (fun q => And.imp of_decide_eq_true of_decide_eq_true (bt_and q)) h1b
  refine jc_skip (jq_then (jc_seq (jc_block (jc_seq (jc_region (jo_pure rfl (pr_move rfl) (jo_pure rfl (pr_move rfl) ?_)))))))
  refine j_open_elem (t := (.pair .str (.list .str))) (i := i) ([], []) (.head _) (by first | omega | (simp at hg; omega)) (fun ⟨_, e1⟩ => ?_)
  refine jo_pure rfl (pr_idx_imm (i := i) rfl (.tail _ (.tail _ (.head _))) rfl Tryz.underlying41 ty_83 (by first | omega | (simp at hg; omega))) ?_
  refine jo_pure rfl (pr_fieldAddr_imm (i := i) rfl (.tail _ (.tail _ (.head _))) Tryz.underlying83 rfl ty_9 rfl rfl (by first | omega | (simp at hg; omega))) ?_
  refine jo_pure rfl (pr_load_off_at (o := 0) (str (((l.getD i ([], []))).1)) rfl (.tail _ (.head _)) ty_9 (by decide) rfl rfl) ?_
  refine jo_pure rfl (pr_slen rfl Tryz.underlying9) ?_
  refine jo_pure rfl (pr_gtrN (m := (((l.getD i ([], []))).1).length) (n := 100) rfl rfl) ?_
  refine jo_pure rfl (pr_move rfl) (jo_gpure (j := 7) (want := false) rfl rfl rfl rfl (fun hg=>pr_move rfl) (jo_gpure (j := 7) (want := false) rfl rfl rfl rfl (fun hg=>pr_move rfl) (jo_gpure (j := 7) (want := false) rfl rfl rfl rfl (fun hg=>pr_idx_imm (i := i) (evg rfl hg) (.tail _ (.tail _ (.head _))) (evg rfl hg) Tryz.underlying41 ty_83 (by first | omega | (simp at hg; omega))) ?_)))
  refine jo_gpure (j := 7) (want := false) rfl rfl rfl rfl (fun hg=>pr_fieldAddr_imm (i := i) (evg rfl hg) (.tail _ (.tail _ (.head _))) Tryz.underlying83 rfl ty_28 rfl rfl (by first | omega | (simp at hg; omega))) ?_
  refine jo_gpure (j := 7) (want := false) rfl rfl rfl rfl (fun hg=>pr_load_off_at (o := 1) (e1) (evg rfl hg) (.tail _ (.head _)) ty_28 (by decide) rfl rfl) ?_
  refine jo_gcall (j := 7) (want := false) rfl rfl rfl cal_57 (fun hg => c_keep_Strings (((l.getD i ([], []))).2) e1 (by exact hm _ (getD_mem (dd := ([], [])) h1.1))) (fun hg => ⟨evg rfl hg, trivial⟩) rfl (fun _ => ⟨⟨rfl, .head _⟩, trivial⟩) ?_
  refine jo_gpure (j := 7) (want := false) rfl rfl rfl rfl (fun hg=>pr_not (evg rfl hg)) ?_
  refine jo_pure rfl (pr_pick_or rfl rfl rfl) ?_
  refine jo_nil (jq_then ?_)
  refine jc_cond rfl (fun h2b => ?_) (fun h2b => ?_)
  ·have h2 := (fun q => Or.imp of_decide_eq_true (fun q => id (bt_not q)) (bt_or q)) h2b
   refine jc_seq (jc_region (jo_pure rfl (pr_assign rfl) (jo_nil (jq_then (jc_ret (jq_in_ret ?_))))))
   refine jq_then_ret (jq_then_ret (jq_in_ret ?_))
   refine jq_then_ret (j_drop (j_drop (j_drop ?_)))
   exact jq_ret1 rfl () rfl (show (.bool (keepA l) : Value) = (.bool (false)) from congrArg Value.bool (by rw [keepA, keep_miss (dd := ([], [])) h1.2 h1.1 (by unfold okA; rw [h2b]; rfl)]; rfl)) (fun _ h => h)
  ·have h2 := (fun q => And.imp of_decide_eq_false (fun q => id (bf_not q)) (bf_or q)) h2b
   refine jc_skip (jq_in_normal (jq_then (jc_region (jo_pure rfl (pr_move rfl) (jo_pure rfl (pr_addN (m := i) (n := 1) rfl rfl (by omega)) ?_)))))
   refine jo_pure rfl (pr_assign rfl) (jo_nil (j_drop (j_drop ?_)))
   refine jq_round' (i + 1) (by (try dsimp only); exact (⟨by omega, all_step (dd := ([], [])) h1.1 hinv.2 (by unfold okA; rw [h2b]; rfl)⟩)) (by (try dsimp only); exact (by omega)) ⟨rfl, rfl, trivial⟩ (fun _ h => h)
 ·have h1 := (fun q => Or.imp of_decide_eq_false of_decide_eq_false (bf_and q)) h1b
  refine jc_exit ?_
  refine jq_then_exit ?_
  refine jq_then_exit ?_
  refine jq_in_hit ?_
  refine jq_then (jc_seq (jc_region (jo_pure rfl (pr_move rfl) (jo_pure rfl (pr_len_imm rfl (.head _) Tryz.underlying41) ?_))))
  refine jo_pure rfl (pr_leqN (m := l.length) (n := 6) rfl rfl) ?_
  refine jo_pure rfl (pr_assign rfl) (jo_nil (jq_then (jc_ret (j_drop ?_))))
  exact jq_ret1 rfl () rfl (show (.bool (keepA l) : Value) = (.bool (decide ((l.length : Nat) ≤ 6))) from congrArg Value.bool (by rw [keepA, keep_end hinv.1 h1 hinv.2]; rfl)) (fun _ h => h)
end Go.Proofs.YtlniaacdjllonaaGreat
