/-
 Contracts of functions of the program: each returns what a plain function says, for every input within the bounds named. Conditions: the bounds.
-/
import Derived.Test.YtlniaacdjllonaaGreatRows
import Derived.Test.YtlniaacdjllonaaGreatWK2
import Derived.Test.YtlniaacdjllonaaGreatWLawB
namespace Go.Proofs.YtlniaacdjllonaaGreat
open Go Go.Sep
set_option linter.unusedSimpArgs false
set_option linter.unusedVariables false

open Go.Plain

theorem cal_70 : Cal Tryz.prog 70 := cal_of Tryz.func70 (by kernel_rfl) rfl
theorem cal_86 : Cal Tryz.prog 86 := cal_of Tryz.func86 (by kernel_rfl) rfl
theorem cal_87 : Cal Tryz.prog 87 := cal_of Tryz.func87 (by kernel_rfl) rfl
theorem cal_88 : Cal Tryz.prog 88 := cal_of Tryz.func88 (by kernel_rfl) rfl
theorem cal_89 : Cal Tryz.prog 89 := cal_of Tryz.func89 (by kernel_rfl) rfl
theorem cal_104 : Cal Tryz.prog 104 := cal_of Tryz.func104 (by kernel_rfl) rfl
theorem cal_140 : Cal Tryz.prog 140 := cal_of Tryz.func140 (by kernel_rfl) rfl
theorem cal_141 : Cal Tryz.prog 141 := cal_of Tryz.func141 (by kernel_rfl) rfl
theorem cal_142 : Cal Tryz.prog 142 := cal_of Tryz.func142 (by kernel_rfl) rfl
theorem cal_144 : Cal Tryz.prog 144 := cal_of Tryz.func144 (by kernel_rfl) rfl
theorem cal_178 : Cal Tryz.prog 178 := cal_of Tryz.func178 (by kernel_rfl) rfl
theorem cal_188 : Cal Tryz.prog 188 := cal_of Tryz.func188 (by kernel_rfl) rfl
theorem ty_28 : TyF Tryz.prog 28 false 1 24 (some (.slice none 0 0)) := ⟨by kernel_rfl, by kernel_rfl⟩
theorem ty_83 : TyF Tryz.prog 83 true 2 40 (some (.agg #[str ([]), .slice none 0 0])) := ⟨by kernel_rfl, by kernel_rfl⟩
theorem ty_116 : TyF Tryz.prog 116 false 1 24 (some (.slice none 0 0)) := ⟨by kernel_rfl, by kernel_rfl⟩

theorem c_media_form_1 (x : Str × Str) (p : Str × Str) (pb : Nat)  : Con Tryz.prog 142 #[.agg #[str (x.1), str (x.2)], .pointer (some ⟨pb, 0, none⟩)] [.ibox pb 121 [str (p.1), str (p.2)]] (fun _ : Unit => .bool (decide (x.1 = p.1))) (fun _ => []) := by
 refine con_of_J (args := [.agg #[str (x.1), str (x.2)], .pointer (some ⟨pb, 0, none⟩)]) (n := 9) Tryz.func142 rfl (Nat.le_of_ble_eq_true rfl) rfl (fun w0 I0 m0 => ?_)
 refine jc_seq (jc_region ?_)
 refine jo_box rfl [str (x.1), str (x.2)] rfl rfl (fun b1 => ?_)
 refine jo_pure rfl (pr_assign rfl) (jo_nil (jq_then (jc_seq (jc_region (jo_pure rfl (pr_fieldAddr 0 rfl Tryz.underlying121 rfl ty_9 rfl rfl) ?_)))))
 refine jo_pure rfl (pr_load_box (str (x.1)) rfl ty_9 (.head _) rfl (by decide) rfl) ?_
 refine jo_pure rfl (pr_fieldAddr 0 rfl Tryz.underlying121 rfl ty_9 rfl rfl) ?_
 refine jo_pure rfl (pr_load_ibox (str (p.1)) rfl ty_9 (.tail _ (.head _)) rfl (by decide) rfl) ?_
 refine jo_pure rfl (pr_seql rfl rfl) ?_
 refine jo_pure rfl (pr_assign rfl) (jo_nil (jq_then (jc_ret (j_drop (j_drop ?_)))))
 exact jq_ret1 rfl () rfl (show (.bool (decide (x.1 = p.1)) : Value) = (.bool (decide ((x.1 : Str) = p.1))) from rfl) (fun _ h => h)

theorem c_indexFunc_media (l : List (Str × Str)) (lv : Value) (p : Str × Str) (pb : Nat) (hl : l.length ≤ 1000000) : Con Tryz.prog 144 #[lv, .func (.func 142) #[] #[.pointer (some ⟨pb, 0, none⟩)]] [.imm (.list (.pair .str .str)) (lv) (l), .ibox pb 121 [str (p.1), str (p.2)]] (fun _ : Unit => .int .i64 (idxP (fun x => decide (x.1 = p.1)) l)) (fun _ => []) := by
 refine con_of_J (args := [lv, .func (.func 142) #[] #[.pointer (some ⟨pb, 0, none⟩)]]) (n := 19) Tryz.func144 rfl (Nat.le_of_ble_eq_true rfl) rfl (fun w0 I0 m0 => ?_)
 refine jc_seq (jc_region (jo_pure rfl (pr_assign rfl) (jo_nil (jq_then (jc_seq (jc_seq (jc_region (jo_pure rfl (pr_move rfl) (jo_pure rfl (pr_len_imm rfl (.head _) Tryz.underlying116) ?_)))))))))
 refine jo_pure rfl (pr_move rfl) (jo_nil (jq_then (jc_block ?_)))
 refine jc_loop (fun (i : Nat) => [(0, lv), (1, .func (.func 142) #[] #[.pointer (some ⟨pb, 0, none⟩)]), (7, .int .i64 ((l.length : Nat) : Int)), (8, .int .i64 ((i : Nat) : Int))]) (fun (i : Nat) => [.imm (.list (.pair .str .str)) (lv) (l), .ibox pb 121 [str (p.1), str (p.2)]]) (fun (i : Nat) => i ≤ l.length ∧ (l.take i).any (fun x => decide (x.1 = p.1)) = false) (fun (i : Nat) => l.length - i) 0 (⟨Nat.zero_le _, rfl⟩) (⟨rfl, rfl, rfl, rfl, trivial⟩) (fun _ h => h) (fun i hinv => ?_)
 refine jc_seq (jc_region (jo_pure rfl (pr_lssN (m := i) (n := l.length) rfl rfl) ?_))
 refine jo_nil (jq_then (jc_seq ?_))
 refine jc_cond rfl (fun h1b => ?_) (fun h1b => ?_)
 ·have h1 := of_decide_eq_true h1b
  refine jc_skip (jq_then (jc_seq (jc_block (jc_seq (jc_region (jo_pure rfl (pr_move rfl) (jo_pure rfl (pr_assign rfl) (jo_nil (jq_then (jc_seq (jc_region (jo_pure rfl (pr_move rfl) (jo_pure rfl (pr_move rfl) (jo_pure rfl (pr_move rfl) (jo_pure rfl (pr_idx_imm (i := i) rfl (.head _) rfl Tryz.underlying116 ty_121 (by omega)) ?_)))))))))))))))
  refine jo_pure rfl (pr_load_elem_imm (i := i) (.agg #[str ((l.getD i ([], [])).1), str ((l.getD i ([], [])).2)]) rfl (.head _) ty_121 rfl rfl (by omega) rfl) ?_
  refine jo_callvp (fi := []) (vs := [.agg #[str ((l.getD i ([], [])).1), str ((l.getD i ([], [])).2)]]) (ca := [.pointer (some ⟨pb, 0, none⟩)]) rfl cal_142 (c_media_form_1 (l.getD i ([], [])) p pb) ⟨rfl, trivial⟩ rfl (⟨⟨rfl, .tail _ (.head _)⟩, trivial⟩) (fun _ => ?_)
  refine jo_nil (jq_then ?_)
  refine jc_cond rfl (fun h2b => ?_) (fun h2b => ?_)
  ·have h2 := id h2b
   refine jc_seq (jc_region (jo_pure rfl (pr_move rfl) (jo_pure rfl (pr_assign rfl) (jo_nil (jq_then (jc_ret (jq_in_ret ?_)))))))
   refine jq_then_ret (jq_then_ret (jq_in_ret ?_))
   refine jq_then_ret (j_drop (j_drop ?_))
   exact jq_ret1 rfl () rfl (show (.int .i64 (idxP (fun x => decide (x.1 = p.1)) l) : Value) = (.int .i64 ((i : Nat) : Int)) from congrArg (Value.int .i64) (by rw [idxP_hit (dd := ([], [])) h1 hinv.2 h2b])) (fun _ h => h)
  ·have h2 := id h2b
   refine jc_skip (jq_in_normal (jq_then (jc_region (jo_pure rfl (pr_addN (m := i) (n := 1) rfl rfl (by omega)) ?_))))
   refine jo_pure rfl (pr_move rfl) (jo_nil (j_pull1 (j_pull1 ?_)))
   refine jq_round' (i + 1) (by (try dsimp only); exact (⟨by omega, any_step (dd := ([], [])) h1 hinv.2 h2b⟩)) (by (try dsimp only); exact (by omega)) ⟨rfl, rfl, rfl, rfl, trivial⟩ (fun _ h => h)
 ·have h1 := of_decide_eq_false h1b
  refine jc_exit ?_
  refine jq_then_exit ?_
  refine jq_then_exit ?_
  refine jq_in_hit ?_
  refine jq_then (jc_seq (jc_region (jo_pure rfl (pr_assign rfl) (jo_nil (jq_then (jc_ret (j_drop (j_drop ?_))))))))
  exact jq_ret1 rfl () rfl (show (.int .i64 (idxP (fun x => decide (x.1 = p.1)) l) : Value) = (.int .i64 (-1)) from congrArg (Value.int .i64) (by rw [idxP_none (any_end (by omega) hinv.2)])) (fun _ h => h)

theorem c_containsFunc_media (l : List (Str × Str)) (lv : Value) (p : Str × Str) (pb : Nat) (hl : l.length ≤ 1000000) : Con Tryz.prog 141 #[lv, .func (.func 142) #[] #[.pointer (some ⟨pb, 0, none⟩)]] [.imm (.list (.pair .str .str)) (lv) (l), .ibox pb 121 [str (p.1), str (p.2)]] (fun _ : Unit => .bool (l.any (fun x => decide (x.1 = p.1)))) (fun _ => []) := by
 refine con_of_J (args := [lv, .func (.func 142) #[] #[.pointer (some ⟨pb, 0, none⟩)]]) (n := 9) Tryz.func141 rfl (Nat.le_of_ble_eq_true rfl) rfl (fun w0 I0 m0 => ?_)
 refine jc_seq (jc_region (jo_pure rfl (pr_assign rfl) (jo_nil (jq_then (jc_seq (jc_region (jo_pure rfl (pr_move rfl) (jo_pure rfl (pr_move rfl) ?_))))))))
 refine jo_callp cal_144 (c_indexFunc_media l lv p pb (by omega)) ⟨rfl, rfl, trivial⟩ rfl (⟨⟨rfl, .head _⟩, ⟨⟨rfl, .tail _ (.head _)⟩, trivial⟩⟩) (fun _ => ?_)
 refine jo_pure rfl (pr_geq (n := 0) rfl rfl) ?_
 refine jo_pure rfl (pr_assign rfl) (jo_nil (jq_then (jc_ret (j_drop (j_drop ?_)))))
 exact jq_ret1 rfl () rfl (show (.bool (l.any (fun x => decide (x.1 = p.1))) : Value) = (.bool (decide ((0 : Int) ≤ idxP (fun x => decide (x.1 = p.1)) l))) from congrArg Value.bool (idxP_ge _ _).symm) (fun _ h => h)

theorem c_media_form (s : Str) (hs : s.length ≤ 300000) : Con Tryz.prog 139 #[.agg #[], str (s)] [] (fun _ : Unit => .tuple #[str ((formF 1 s).1), .bool ((formF 1 s).2)]) (fun _ => []) := by
 refine con_of_J (args := [.agg #[], str (s)]) (n := 42) Tryz.func139 rfl (Nat.le_of_ble_eq_true rfl) rfl (fun w0 I0 m0 => ?_)
 refine jc_seq (jc_region ?_)
 refine jo_box rfl [] rfl rfl (fun b1 => ?_)
 refine jo_pure rfl (pr_assign rfl) (jo_pure rfl (pr_assign rfl) (jo_nil (jq_then (jc_seq (jc_region (jo_pure rfl (pr_move rfl) ?_))))))
 refine jo_callp cal_140 (c_mediatype_Parse s (by first | omega | (have := (parseT_len s).2.2.1; simp only [List.length_drop, List.length_take]; omega))) ⟨rfl, trivial⟩ rfl (trivial) (fun r1 => ?_)
 refine jo_pure rfl (pr_move rfl) (jo_pure rfl (pr_extract rfl rfl) (jo_pure rfl (pr_extract rfl rfl) ?_))
 refine jo_alloc ty_118 [str ([]), str ([]), .slice none 0 0] rfl rfl (fun b2 => ?_)
 refine jo_storeV rfl rfl ty_118 [str ((parseT s).1.1), str ((parseT s).1.2.1), r1] (fun _ _ _ _ => rfl) rfl (fun w I m hs => by simp only [List.all_cons, List.all_nil, Bool.and_true, Bool.and_eq_true]; exact ⟨rfl, rfl, (SliceV.one (row_slice (.tail _ (.head _)) hs))⟩) [str ((parseT s).1.1), str ((parseT s).1.2.1), r1] rfl rfl ?_
 refine jo_pure rfl (pr_assign rfl) (jo_nil (jq_then (jc_seq (jc_seq (j_pull1 (j_pub_row (jc_region (jo_pure rfl (pr_fieldAddr 2 rfl Tryz.underlying118 rfl ty_116 rfl rfl) ?_))))))))
 refine jo_pure rfl (pr_load_box (r1) rfl ty_116 (.tail _ (.head _)) rfl (by decide) rfl) ?_
 refine jo_pure rfl (pr_len_imm rfl (.head _) Tryz.underlying116) ?_
 refine jo_pure rfl (pr_move rfl) (jo_nil (jq_then (jc_block ?_)))
 refine jc_loop2 (fun (i : Nat) (ok : Bool) => [(1, str (s)), (6, .pointer (some ⟨b2, 0, none⟩)), (7, .bool (ok)), (16, r1), (17, .int .i64 ((((parseT s).1.2.2).length : Nat) : Int)), (18, .int .i64 ((i : Nat) : Int))]) (fun (i : Nat) (ok : Bool) => [.imm (.list (.pair .str .str)) (r1) ((parseT s).1.2.2), .box b2 118 [str ((parseT s).1.1), str ((parseT s).1.2.1), r1], .box b1 124 []]) (fun (i : Nat) (ok : Bool) => i ≤ ((parseT s).1.2.2).length ∧ ok = ((parseT s).2 && parOk ((parseT s).1.2.2) i)) (fun (i : Nat) (ok : Bool) => ((parseT s).1.2.2).length - i) 0 ((parseT s).2) (⟨Nat.zero_le _, by rw [show parOk ((parseT s).1.2.2) 0 = true from rfl, Bool.and_true]⟩) (⟨rfl, rfl, rfl, rfl, rfl, rfl, trivial⟩) (fun _ h => h) (fun i ok hinv => ?_)
 refine jc_seq (jc_region (jo_pure rfl (pr_lssN (m := i) (n := ((parseT s).1.2.2).length) rfl rfl) ?_))
 refine jo_nil (jq_then (jc_seq ?_))
 refine jc_cond rfl (fun h1b => ?_) (fun h1b => ?_)
 ·have h1 := of_decide_eq_true h1b
  refine jc_skip (jq_then (jc_seq (jc_block (jc_seq (jc_region (jo_pure rfl (pr_move rfl) (jo_pure rfl (pr_idx_imm (i := i) rfl (.head _) rfl Tryz.underlying116 ty_121 (by omega)) ?_)))))))
  refine jo_pure rfl (pr_load_elem_imm (i := i) (.agg #[str ((((parseT s).1.2.2).getD i ([], [])).1), str ((((parseT s).1.2.2).getD i ([], [])).2)]) rfl (.head _) ty_121 rfl rfl (by omega) rfl) ?_
  refine jo_alloc ty_121 [str ([]), str ([])] rfl rfl (fun b3 => ?_)
  refine jo_pure rfl (pr_assign rfl) (jo_store rfl rfl ty_121 [str ((((parseT s).1.2.2).getD i ([], [])).1), str ((((parseT s).1.2.2).getD i ([], [])).2)] rfl rfl rfl [str ((((parseT s).1.2.2).getD i ([], [])).1), str ((((parseT s).1.2.2).getD i ([], [])).2)] rfl rfl ?_)
  refine jo_nil (jq_then ?_)
  by_cases hok : ok = true
  ·skip
   by_cases hq : (((parseT s).1.2.2).getD i ([], [])).1 = [113]
   ·skip
    refine jc_region (jo_pure rfl (pr_move rfl) (jo_pure rfl (pr_move rfl) (jo_run (j := 1) (want := true) rfl rfl (hok) ?_)))
    refine jo_pure rfl (pr_fieldAddr 0 rfl Tryz.underlying121 rfl ty_9 rfl rfl) ?_
    refine jo_run (j := 1) (want := true) rfl rfl (hok) ?_
    refine jo_pure rfl (pr_load_box (str ((((parseT s).1.2.2).getD i ([], [])).1)) rfl ty_9 (.head _) rfl (by decide) rfl) ?_
    refine jo_run (j := 1) (want := true) rfl rfl (hok) ?_
    refine jo_pure rfl (pr_sneq rfl rfl) ?_
    refine jo_pure rfl (pr_pick_t rfl (hok) rfl) ?_
    refine jo_pure rfl (pr_move rfl) (jo_skipu (j := 6) (want := true) rfl rfl (by rw [decide_eq_true hq] <;> rfl) rfl ?_)
    refine jo_skipu (j := 6) (want := true) rfl rfl (by rw [decide_eq_true hq] <;> rfl) rfl ?_
    refine jo_skipu (j := 6) (want := true) rfl rfl (by rw [decide_eq_true hq] <;> rfl) rfl ?_
    refine jo_skipu (j := 6) (want := true) rfl rfl (by rw [decide_eq_true hq] <;> rfl) rfl ?_
    refine jo_skipu (j := 6) (want := true) rfl rfl (by rw [decide_eq_true hq] <;> rfl) rfl ?_
    refine jo_skipu (j := 6) (want := true) rfl rfl (by rw [decide_eq_true hq] <;> rfl) rfl ?_
    refine jo_skipu (j := 6) (want := true) rfl rfl (by rw [decide_eq_true hq] <;> rfl) rfl ?_
    refine jo_pure rfl (pr_pick_f rfl (by rw [decide_eq_true hq] <;> rfl) rfl) ?_
    refine jo_pure rfl (pr_assign rfl) (jo_nil (jq_in_normal (jq_then (jc_region (jo_pure rfl (pr_addN (m := i) (n := 1) rfl rfl (by have := (parseT_len s).2.2.1; omega)) ?_)))))
    refine jo_pure rfl (pr_move rfl) (jo_nil (j_drop (j_pull2 (j_pull2 (j_pull2 ?_)))))
    refine jq_round' ((i + 1), false) (by (try dsimp only); exact (⟨by omega, by rw [parOk_step, decide_eq_true hq]; simp⟩)) (by (try dsimp only); exact (by omega)) ⟨rfl, rfl, rfl, rfl, rfl, rfl, trivial⟩ (fun _ h => h)
   ·skip
    refine jc_region (jo_pure rfl (pr_move rfl) (jo_pure rfl (pr_move rfl) (jo_run (j := 1) (want := true) rfl rfl (hok) ?_)))
    refine jo_pure rfl (pr_fieldAddr 0 rfl Tryz.underlying121 rfl ty_9 rfl rfl) ?_
    refine jo_run (j := 1) (want := true) rfl rfl (hok) ?_
    refine jo_pure rfl (pr_load_box (str ((((parseT s).1.2.2).getD i ([], [])).1)) rfl ty_9 (.head _) rfl (by decide) rfl) ?_
    refine jo_run (j := 1) (want := true) rfl rfl (hok) ?_
    refine jo_pure rfl (pr_sneq rfl rfl) ?_
    refine jo_pure rfl (pr_pick_t rfl (hok) rfl) ?_
    refine jo_pure rfl (pr_move rfl) (jo_run (j := 6) (want := true) rfl rfl (by rw [decide_eq_false hq] <;> rfl) ?_)
    refine jo_pure rfl (pr_fieldAddr 2 rfl Tryz.underlying118 rfl ty_116 rfl rfl) ?_
    refine jo_run (j := 6) (want := true) rfl rfl (by rw [decide_eq_false hq] <;> rfl) ?_
    refine jo_pure rfl (pr_load_box (r1) rfl ty_116 (.tail _ (.tail _ (.head _))) rfl (by decide) rfl) ?_
    refine jo_run (j := 6) (want := true) rfl rfl (by rw [decide_eq_false hq] <;> rfl) ?_
    refine jo_pure rfl (pr_move rfl) (jo_run (j := 6) (want := true) rfl rfl (by rw [decide_eq_false hq] <;> rfl) ?_)
    refine j_resl (l := 0) (h := i) (.tail _ (.head _)) (by omega) (by omega) ?_
    refine jo_pure rfl (pr_slice_imm (l := 0) (h := i) rfl (.tail _ (.tail _ (.head _))) Tryz.underlying116 ty_121 rfl ⟨_, rfl⟩ (by omega) (by omega)) ?_
    refine jo_run (j := 6) (want := true) rfl rfl (by rw [decide_eq_false hq] <;> rfl) ?_
    refine jo_pure rfl (pr_makeFunc (fs := #[]) (cs := #[.pointer (some ⟨b3, 0, none⟩)]) (fun a hf => by simp) (fun a hf => by simp only [List.map_toArray, List.map_cons, List.map_nil, hf.ev (show ev _ (.tmp 9) = some (.pointer (some ⟨b3, 0, none⟩)) from rfl)])) ?_
    refine jo_run (j := 6) (want := true) rfl rfl (by rw [decide_eq_false hq] <;> rfl) ?_
    refine j_pull1 (j_pub_box ?_)
    refine jo_callp cal_141 (c_containsFunc_media ((((parseT s).1.2.2).take i).drop 0) (resl (r1) (0) (i) 2) (((parseT s).1.2.2).getD i ([], [])) b3 (by first | omega | (have := (parseT_len s).2.2.1; simp only [List.length_drop, List.length_take]; omega))) ⟨rfl, rfl, trivial⟩ rfl (⟨⟨rfl, .tail _ (.head _)⟩, ⟨⟨rfl, .head _⟩, trivial⟩⟩) (fun _ => ?_)
    refine jo_run (j := 6) (want := true) rfl rfl (by rw [decide_eq_false hq] <;> rfl) ?_
    refine jo_pure rfl (pr_not rfl) ?_
    refine jo_pure rfl (pr_pick_t rfl (by rw [decide_eq_false hq] <;> rfl) rfl) ?_
    refine jo_pure rfl (pr_assign rfl) (jo_nil (jq_in_normal (jq_then (jc_region (jo_pure rfl (pr_addN (m := i) (n := 1) rfl rfl (by have := (parseT_len s).2.2.1; omega)) ?_)))))
    refine jo_pure rfl (pr_move rfl) (jo_nil (j_drop (j_drop (j_pull2 (j_pull2 (j_pull2 ?_))))))
    refine jq_round' ((i + 1), (!((((parseT s).1.2.2).take i).drop 0).any (fun x => decide (x.1 = (((parseT s).1.2.2).getD i ([], [])).1)))) (by (try dsimp only); exact (⟨by omega, by rw [parOk_step, ← Bool.and_assoc, ← hinv.2, hok, decide_eq_false hq, drop0]; rfl⟩)) (by (try dsimp only); exact (by omega)) ⟨rfl, rfl, rfl, rfl, rfl, rfl, trivial⟩ (fun _ h => h)
  ·skip
   refine jc_region (jo_pure rfl (pr_move rfl) (jo_pure rfl (pr_move rfl) (jo_skipu (j := 1) (want := true) rfl rfl (by simpa using hok) rfl ?_)))
   refine jo_skipu (j := 1) (want := true) rfl rfl (by simpa using hok) rfl ?_
   refine jo_skipu (j := 1) (want := true) rfl rfl (by simpa using hok) rfl ?_
   refine jo_pure rfl (pr_pick_f rfl (by simpa using hok) rfl) ?_
   refine jo_pure rfl (pr_move rfl) (jo_skipu (j := 6) (want := true) rfl rfl (rfl) rfl ?_)
   refine jo_skipu (j := 6) (want := true) rfl rfl (rfl) rfl ?_
   refine jo_skipu (j := 6) (want := true) rfl rfl (rfl) rfl ?_
   refine jo_skipu (j := 6) (want := true) rfl rfl (rfl) rfl ?_
   refine jo_skipu (j := 6) (want := true) rfl rfl (rfl) rfl ?_
   refine jo_skipu (j := 6) (want := true) rfl rfl (rfl) rfl ?_
   refine jo_skipu (j := 6) (want := true) rfl rfl (rfl) rfl ?_
   refine jo_pure rfl (pr_pick_f rfl (rfl) rfl) ?_
   refine jo_pure rfl (pr_assign rfl) (jo_nil (jq_in_normal (jq_then (jc_region (jo_pure rfl (pr_addN (m := i) (n := 1) rfl rfl (by have := (parseT_len s).2.2.1; omega)) ?_)))))
   refine jo_pure rfl (pr_move rfl) (jo_nil (j_drop (j_pull2 (j_pull2 (j_pull2 ?_)))))
   refine jq_round' ((i + 1), false) (by (try dsimp only); exact (⟨by omega, by rw [parOk_step, ← Bool.and_assoc, ← hinv.2, show ok = false by simpa using hok]; rfl⟩)) (by (try dsimp only); exact (by omega)) ⟨rfl, rfl, rfl, rfl, rfl, rfl, trivial⟩ (fun _ h => h)
 ·have h1 := of_decide_eq_false h1b
  refine jc_exit ?_
  refine jq_then_exit ?_
  refine jq_then_exit ?_
  refine jq_in_hit ?_
  refine jq_then (jc_seq (jc_region (jo_pure rfl (pr_move rfl) ?_)))
  refine jo_callp cal_69 (c_ascii_Lower s (by first | omega | (have := (parseT_len s).2.2.1; simp only [List.length_drop, List.length_take]; omega))) ⟨rfl, trivial⟩ rfl (trivial) (fun _ => ?_)
  refine jo_pure rfl (pr_move rfl) (jo_pure rfl (pr_assign rfl) (jo_pure rfl (pr_assign rfl) (jo_nil (jq_then (jc_ret (j_drop (j_drop (j_drop ?_))))))))
  exact jq_rets (rs := [.tmp 4, .tmp 5]) (vs := [str (lower s), .bool (ok)]) rfl () ⟨resV_tmp rfl, resV_tmp rfl, trivial⟩ rfl (show (.tuple #[str ((formF 1 s).1), .bool ((formF 1 s).2)] : Value) = (.tuple #[str (lower s), .bool (ok)]) from by rw [form1 rfl, hinv.2, show i = ((parseT s).1.2.2).length by omega]) (fun _ h => h)

theorem c_tags_form (s : Str) (hs : s.length ≤ 300000) : Con Tryz.prog 177 #[.agg #[], str (s)] [] (fun _ : Unit => .tuple #[str ((formF 2 s).1), .bool ((formF 2 s).2)]) (fun _ => []) := by
 refine con_of_J (args := [.agg #[], str (s)]) (n := 10) Tryz.func177 rfl (Nat.le_of_ble_eq_true rfl) rfl (fun w0 I0 m0 => ?_)
 refine jc_seq (jc_region ?_)
 refine jo_box rfl [] rfl rfl (fun b1 => ?_)
 refine jo_pure rfl (pr_assign rfl) (jo_pure rfl (pr_assign rfl) (jo_nil (jq_then (jc_seq (jc_region (jo_pure rfl (pr_move rfl) ?_))))))
 refine jo_callp cal_69 (c_ascii_Lower s (by omega)) ⟨rfl, trivial⟩ rfl (trivial) (fun _ => ?_)
 refine jo_pure rfl (pr_move rfl) ?_
 refine jo_callp cal_178 (c_language_Tag s (by omega)) ⟨rfl, trivial⟩ rfl (trivial) (fun _ => ?_)
 refine jo_pure rfl (pr_assign rfl) (jo_pure rfl (pr_assign rfl) (jo_nil (jq_then (jc_ret (j_drop ?_)))))
 exact jq_rets (rs := [.tmp 4, .tmp 5]) (vs := [str (lower s), .bool (tagF s)]) rfl () ⟨resV_tmp rfl, resV_tmp rfl, trivial⟩ rfl (show (.tuple #[str ((formF 2 s).1), .bool ((formF 2 s).2)] : Value) = (.tuple #[str (lower s), .bool (tagF s)]) from rfl) (fun _ h => h)

theorem c_words_form (k : Int) (s : Str) (hs : s.length ≤ 300000) (hk : k = 3 ∨ k = 4) : Con Tryz.prog 187 #[.int .i64 (k), str (s)] [] (fun _ : Unit => .tuple #[str ((formF k s).1), .bool ((formF k s).2)]) (fun _ => []) := by
 refine con_of_J (args := [.int .i64 (k), str (s)]) (n := 15) Tryz.func187 rfl (Nat.le_of_ble_eq_true rfl) rfl (fun w0 I0 m0 => ?_)
 refine jc_seq (jc_region (jo_pure rfl (pr_assign rfl) (jo_pure rfl (pr_assign rfl) (jo_nil (jq_then (jc_seq (jc_region (jo_pure rfl (pr_move rfl) (jo_pure rfl (pr_move rfl) ?_)))))))))
 refine jo_callp cal_188 (c_coding_Canonical k s (by omega)) ⟨rfl, rfl, trivial⟩ rfl (trivial) (fun _ => ?_)
 refine jo_pure rfl (pr_move rfl) ?_
 refine jo_callp cal_68 (c_ascii_Token s (by omega)) ⟨rfl, trivial⟩ rfl (trivial) (fun _ => ?_)
 refine jo_pure rfl (pr_move rfl) (jo_gpure (j := 5) (want := true) rfl rfl rfl rfl (fun hg=>pr_move rfl) (jo_gpure (j := 5) (want := true) rfl rfl rfl rfl (fun hg=>pr_sneq (evg rfl hg) rfl) ?_))
 refine jo_pure rfl (pr_pick_and rfl rfl rfl) ?_
 refine jo_pure rfl (pr_assign rfl) (jo_pure rfl (pr_assign rfl) (jo_nil (jq_then (jc_ret ?_))))
 exact jq_rets (rs := [.tmp 4, .tmp 5]) (vs := [str (canonical k s), .bool ((token s && (!decide ((s : Str) = [42]))))]) rfl () ⟨resV_tmp rfl, resV_tmp rfl, trivial⟩ rfl (show (.tuple #[str ((formF k s).1), .bool ((formF k s).2)] : Value) = (.tuple #[str (canonical k s), .bool ((token s && (!decide ((s : Str) = [42]))))]) from by rw [form3 (by omega) (by omega) hk]) (fun _ h => h)

theorem c_texts_form (s : Str) (hs : s.length ≤ 300000) : Con Tryz.prog 189 #[.agg #[], str (s)] [] (fun _ : Unit => .tuple #[str ((formF 0 s).1), .bool ((formF 0 s).2)]) (fun _ => []) := by
 refine con_of_J (args := [.agg #[], str (s)]) (n := 25) Tryz.func189 rfl (Nat.le_of_ble_eq_true rfl) rfl (fun w0 I0 m0 => ?_)
 refine jc_seq (jc_region ?_)
 refine jo_box rfl [] rfl rfl (fun b1 => ?_)
 refine jo_pure rfl (pr_assign rfl) (jo_pure rfl (pr_assign rfl) (jo_nil (jq_then (jc_seq (jc_region (jo_pure rfl (pr_move rfl) (jo_pure rfl (pr_move rfl) (jo_pure rfl (pr_slen rfl Tryz.underlying9) ?_))))))))
 refine jo_pure rfl (pr_geqN (m := s.length) (n := 1) rfl rfl) ?_
 refine jo_pure rfl (pr_move rfl) (jo_gpure (j := 4) (want := true) rfl rfl rfl rfl (fun hg=>pr_move rfl) (jo_gpure (j := 4) (want := true) rfl rfl rfl rfl (fun hg=>pr_slen (evg rfl hg) Tryz.underlying9) ?_))
 refine jo_gpure (j := 4) (want := true) rfl rfl rfl rfl (fun hg=>pr_leqN (m := s.length) (n := 100) (evg rfl hg) rfl) ?_
 refine jo_pure rfl (pr_pick_and rfl rfl rfl) ?_
 refine jo_pure rfl (pr_move rfl) (jo_gpure (j := 9) (want := true) rfl rfl rfl rfl (fun hg=>pr_move rfl) (jo_gcall (j := 9) (want := true) rfl rfl rfl cal_161 (fun hg => c_ascii_Text s (by omega)) (fun hg => ⟨evg rfl hg, trivial⟩) rfl (fun _ => trivial) ?_))
 refine jo_pure rfl (pr_pick_and rfl rfl rfl) ?_
 refine jo_pure rfl (pr_move rfl) (jo_gpure (j := 13) (want := true) rfl rfl rfl rfl (fun hg=>pr_move rfl) (jo_gcall (j := 13) (want := true) rfl rfl rfl cal_148 (fun hg => c_ascii_Trim s (by omega)) (fun hg => ⟨evg rfl hg, trivial⟩) rfl (fun _ => trivial) ?_))
 refine jo_gpure (j := 13) (want := true) rfl rfl rfl rfl (fun hg=>pr_move rfl) ?_
 refine jo_gpure (j := 13) (want := true) rfl rfl rfl rfl (fun hg=>pr_seql (evg rfl hg) (evg rfl hg)) ?_
 refine jo_pure rfl (pr_pick_and rfl rfl rfl) ?_
 refine jo_pure rfl (pr_assign rfl) (jo_pure rfl (pr_assign rfl) (jo_nil (jq_then (jc_ret (j_drop ?_)))))
 exact jq_rets (rs := [.tmp 4, .tmp 5]) (vs := [str (s), .bool ((((decide ((1 : Nat) ≤ s.length) && decide ((s.length : Nat) ≤ 100)) && text s) && decide ((trim s : Str) = s)))]) rfl () ⟨resV_tmp rfl, resV_tmp rfl, trivial⟩ rfl (show (.tuple #[str ((formF 0 s).1), .bool ((formF 0 s).2)] : Value) = (.tuple #[str (s), .bool ((((decide ((1 : Nat) ≤ s.length) && decide ((s.length : Nat) ≤ 100)) && text s) && decide ((trim s : Str) = s)))]) from rfl) (fun _ h => h)

def domV (k : Int) : Value := if k = 1 then .iface 124 (.agg #[]) else if k = 2 then .iface 125 (.agg #[]) else if k = 3 ∨ k = 4 then .iface 126 (.int .i64 k) else .iface 127 (.agg #[])
theorem form_meth (k : Int) (s : Str) (hs : s.length ≤ 300000) : Meth Tryz.prog (domV k) "variantproxy/variants.form" [str s] [] (fun _ : Unit => .tuple #[str (formF k s).1, .bool (formF k s).2]) (fun _ => []) := by
 unfold domV
 split
 ·rename_i h; exact ⟨139, #[.agg #[], str s], fun w => by kernel_rfl, by subst h; exact c_media_form s hs⟩
 ·rename_i h1
  split
  ·rename_i h; exact ⟨177, #[.agg #[], str s], fun w => by kernel_rfl, by subst h; exact c_tags_form s hs⟩
  ·rename_i h2
   split
   ·rename_i h; exact ⟨187, #[.int .i64 k, str s], fun w => by kernel_rfl, c_words_form k s hs h⟩
   ·rename_i h; exact ⟨189, #[.agg #[], str s], fun w => by kernel_rfl, by rw [form0 h1 h2 h]; exact c_texts_form s hs⟩

theorem c_variants_domainOf (axis : Str) (hn : axis.length ≤ 1000000) : Con Tryz.prog 86 #[str (axis)] [] (fun _ : Unit => domV (kindF axis)) (fun _ => []) := by
 refine con_of_J (args := [str (axis)]) (n := 22) Tryz.func86 rfl (Nat.le_of_ble_eq_true rfl) rfl (fun w0 I0 m0 => ?_)
 refine jc_seq (jc_region (jo_pure rfl (pr_assign rfl) (jo_nil (jq_then (jc_seq (jc_seq (jc_region (jo_pure rfl (pr_move rfl) ?_))))))))
 refine jo_callp cal_104 (c_accept_Kind axis (by omega)) ⟨rfl, trivial⟩ rfl (trivial) (fun _ => ?_)
 refine jo_pure rfl (pr_assign rfl) (jo_nil (jq_then (jc_seq (jc_region (jo_pure rfl (pr_move rfl) (jo_nil (jq_then (jc_block (jc_seq (jc_region (jo_pure rfl (pr_eql (n := 1) rfl rfl) ?_)))))))))))
 refine jo_pure rfl (pr_assign rfl) (jo_nil (jq_then ?_))
 refine jc_cond rfl (fun h1b => ?_) (fun h1b => ?_)
 ·have h1 := of_decide_eq_true h1b
  refine jc_seq (jc_region (jo_pure rfl (pr_build [] [] (fun a hf => by simp) (by kernel_rfl)) ?_))
  refine jo_pure rfl (pr_makeInterface rfl (by kernel_rfl)) ?_
  refine jo_pure rfl (pr_assign rfl) (jo_nil (jq_then (jc_ret (jq_in_ret ?_))))
  refine jq_then_ret ?_
  exact jq_ret1 rfl () rfl (show (domV (kindF axis) : Value) = (.iface 124 (.agg #[])) from by unfold domV; simp [*]) (fun _ h => h)
 ·have h1 := of_decide_eq_false h1b
  refine jc_seq (jc_region (jo_pure rfl (pr_eql (n := 2) rfl rfl) ?_))
  refine jo_pure rfl (pr_assign rfl) (jo_nil (jq_then ?_))
  refine jc_cond rfl (fun h2b => ?_) (fun h2b => ?_)
  ·have h2 := of_decide_eq_true h2b
   refine jc_seq (jc_region (jo_pure rfl (pr_build [] [] (fun a hf => by simp) (by kernel_rfl)) ?_))
   refine jo_pure rfl (pr_makeInterface rfl (by kernel_rfl)) ?_
   refine jo_pure rfl (pr_assign rfl) (jo_nil (jq_then (jc_ret (jq_in_ret ?_))))
   refine jq_then_ret ?_
   exact jq_ret1 rfl () rfl (show (domV (kindF axis) : Value) = (.iface 125 (.agg #[])) from by unfold domV; simp [*]) (fun _ h => h)
  ·have h2 := of_decide_eq_false h2b
   refine jc_seq (jc_seq (jc_region (jo_pure rfl (pr_eql (n := 3) rfl rfl) ?_)))
   refine jo_pure rfl (pr_assign rfl) (jo_nil (jq_then ?_))
   refine jc_cond rfl (fun h3b => ?_) (fun h3b => ?_)
   ·have h3 := of_decide_eq_true h3b
    refine jc_skip (jq_then (jc_true rfl (h3b) ?_))
    refine jc_seq (jc_region (jo_pure rfl (pr_move rfl) (jo_pure rfl (pr_makeInterface rfl (by kernel_rfl)) ?_)))
    refine jo_pure rfl (pr_assign rfl) (jo_nil (jq_then (jc_ret (jq_in_ret ?_))))
    refine jq_then_ret ?_
    exact jq_ret1 rfl () rfl (show (domV (kindF axis) : Value) = (.iface 126 (.int .i64 (kindF axis))) from by unfold domV; simp [*]) (fun _ h => h)
   ·have h3 := of_decide_eq_false h3b
    refine jc_region (jo_pure rfl (pr_eql (n := 4) rfl rfl) ?_)
    refine jo_pure rfl (pr_assign rfl) (jo_nil (jq_then ?_))
    refine jc_cond rfl (fun h4b => ?_) (fun h4b => ?_)
    ·have h4 := of_decide_eq_true h4b
     refine jc_seq (jc_region (jo_pure rfl (pr_move rfl) (jo_pure rfl (pr_makeInterface rfl (by kernel_rfl)) ?_)))
     refine jo_pure rfl (pr_assign rfl) (jo_nil (jq_then (jc_ret (jq_in_ret ?_))))
     refine jq_then_ret ?_
     exact jq_ret1 rfl () rfl (show (domV (kindF axis) : Value) = (.iface 126 (.int .i64 (kindF axis))) from by unfold domV; simp [*]) (fun _ h => h)
    ·have h4 := of_decide_eq_false h4b
     refine jc_skip (jq_in_normal (jq_then (jc_seq (jc_region (jo_pure rfl (pr_build [] [] (fun a hf => by simp) (by kernel_rfl)) ?_)))))
     refine jo_pure rfl (pr_makeInterface rfl (by kernel_rfl)) ?_
     refine jo_pure rfl (pr_assign rfl) (jo_nil (jq_then (jc_ret ?_)))
     exact jq_ret1 rfl () rfl (show (domV (kindF axis) : Value) = (.iface 127 (.agg #[])) from by unfold domV; simp [*]) (fun _ h => h)

theorem c_variants_Same (axis : Str) (a : Str) (b : Str) (ha : axis.length ≤ 1000000) (hs : a.length ≤ 300000) (hb : b.length ≤ 300000) : Con Tryz.prog 119 #[str (axis), str (a), str (b)] [] (fun _ : Unit => .bool (sameF axis a b)) (fun _ => []) := by
 refine con_of_J (args := [str (axis), str (a), str (b)]) (n := 29) Tryz.func119 rfl (Nat.le_of_ble_eq_true rfl) rfl (fun w0 I0 m0 => ?_)
 refine jc_seq (jc_region (jo_pure rfl (pr_assign rfl) (jo_nil (jq_then (jc_seq (jc_region (jo_pure rfl (pr_move rfl) ?_)))))))
 refine jo_callp cal_86 (c_variants_domainOf axis (by omega)) ⟨rfl, trivial⟩ rfl (trivial) (fun _ => ?_)
 refine jo_pure rfl (pr_assign rfl) (jo_nil (jq_then (jc_seq (jc_region (jo_pure rfl (pr_move rfl) (jo_pure rfl (pr_move rfl) ?_))))))
 refine jo_invokep rfl (form_meth (kindF axis) a (by omega)) ⟨rfl, trivial⟩ rfl trivial (fun _ => ?_)
 refine jo_pure rfl (pr_move rfl) (jo_pure rfl (pr_extract rfl rfl) (jo_pure rfl (pr_extract rfl rfl) (jo_pure rfl (pr_assign rfl) (jo_pure rfl (pr_assign rfl) (jo_nil (jq_then (jc_seq (jc_region (jo_pure rfl (pr_move rfl) (jo_pure rfl (pr_move rfl) ?_))))))))))
 refine jo_invokep rfl (form_meth (kindF axis) b (by omega)) ⟨rfl, trivial⟩ rfl trivial (fun _ => ?_)
 refine jo_pure rfl (pr_move rfl) (jo_pure rfl (pr_extract rfl rfl) (jo_pure rfl (pr_extract rfl rfl) (jo_pure rfl (pr_assign rfl) (jo_pure rfl (pr_assign rfl) (jo_nil (jq_then (jc_seq (jc_region (jo_pure rfl (pr_move rfl) (jo_pure rfl (pr_move rfl) (jo_pure rfl (pr_seql rfl rfl) (jo_pure rfl (pr_assign rfl) (jo_nil (jq_then (jc_ret ?_)))))))))))))))
 exact jq_ret1 rfl () rfl (show (.bool (sameF axis a b) : Value) = (.bool (decide (((formF (kindF axis) a).1 : Str) = (formF (kindF axis) b).1))) from rfl) (fun _ h => h)

theorem c_variants_valid (a : Axs) (av : Value) (ha : a.1.length ≤ 1000000) (hm : ∀ x ∈ a.2, x.length ≤ 300000) (hl : a.2.length ≤ 9223372036854775807) : Con Tryz.prog 70 #[.agg #[str (a.1), av]] [.imm (.list .str) (av) (a.2)] (fun _ : Unit => .bool (validV (kindF a.1) a.2)) (fun _ => []) := by
 refine con_of_J (args := [.agg #[str (a.1), av]]) (n := 46) Tryz.func70 rfl (Nat.le_of_ble_eq_true rfl) rfl (fun w0 I0 m0 => ?_)
 refine jc_seq (jc_region ?_)
 refine jo_box rfl [str (a.1), av] rfl rfl (fun b1 => ?_)
 refine jo_pure rfl (pr_assign rfl) (jo_nil (jq_then (jc_seq (jc_seq (jc_region (jo_pure rfl (pr_fieldAddr 1 rfl Tryz.underlying83 rfl ty_28 rfl rfl) ?_))))))
 refine jo_pure rfl (pr_load_box (av) rfl ty_28 (.head _) rfl (by decide) rfl) ?_
 refine jo_pure rfl (pr_len_imm rfl (.tail _ (.head _)) Tryz.underlying28) ?_
 refine jo_pure rfl (pr_lssN (m := a.2.length) (n := 1) rfl rfl) ?_
 refine jo_pure rfl (pr_move rfl) (jo_gpure (j := 4) (want := false) rfl rfl rfl rfl (fun hg=>pr_fieldAddr 1 rfl Tryz.underlying83 rfl ty_28 rfl rfl) ?_)
 refine jo_gpure (j := 4) (want := false) rfl rfl rfl rfl (fun hg=>pr_load_box (av) (evg rfl hg) ty_28 (.head _) rfl (by decide) rfl) ?_
 refine jo_gpure (j := 4) (want := false) rfl rfl rfl rfl (fun hg=>pr_len_imm (evg rfl hg) (.tail _ (.head _)) Tryz.underlying28) ?_
 refine jo_gpure (j := 4) (want := false) rfl rfl rfl rfl (fun hg=>pr_gtrN (m := a.2.length) (n := 16) (evg rfl hg) rfl) ?_
 refine jo_pure rfl (pr_pick_or rfl rfl rfl) ?_
 refine jo_nil (jq_then ?_)
 refine jc_cond rfl (fun h1b => ?_) (fun h1b => ?_)
 ·have h1 := (fun q => Or.imp of_decide_eq_true of_decide_eq_true (bt_or q)) h1b
  refine jc_seq (jc_region (jo_pure rfl (pr_assign rfl) (jo_nil (jq_then (jc_ret (jq_then_ret (j_drop (j_drop ?_))))))))
  exact jq_ret1 rfl () rfl (show (.bool (validV (kindF a.1) a.2) : Value) = (.bool (false)) from congrArg Value.bool (by rw [validV_no h1])) (fun _ h => h)
 ·have h1 := (fun q => And.imp of_decide_eq_false of_decide_eq_false (bf_or q)) h1b
  refine jc_skip (jq_then (jc_seq (jc_region (jo_pure rfl (pr_fieldAddr 0 rfl Tryz.underlying83 rfl ty_9 rfl rfl) ?_))))
  refine jo_pure rfl (pr_load_box (str (a.1)) rfl ty_9 (.head _) rfl (by decide) rfl) ?_
  refine jo_callp cal_86 (c_variants_domainOf a.1 (by omega)) ⟨rfl, trivial⟩ rfl (trivial) (fun _ => ?_)
  refine jo_pure rfl (pr_assign rfl) (jo_nil (jq_then (jc_seq (jc_region ?_))))
  refine jo_makeMap rfl (fun m1 => ?_)
  refine jo_pure rfl (pr_assign rfl) (jo_nil (jq_then (jc_seq (jc_seq (jc_region (jo_pure rfl (pr_fieldAddr 1 rfl Tryz.underlying83 rfl ty_28 rfl rfl) ?_))))))
  refine jo_pure rfl (pr_load_box (av) rfl ty_28 (.tail _ (.head _)) rfl (by decide) rfl) ?_
  refine jo_pure rfl (pr_len_imm rfl (.tail _ (.tail _ (.head _))) Tryz.underlying28) ?_
  refine jo_pure rfl (pr_move rfl) (jo_nil (jq_then (jc_block ?_)))
  refine jc_loop2 (fun (i : Nat) (ms : List (Str × Bool)) => [(3, domV (kindF a.1)), (4, .map (some m1)), (24, av), (25, .int .i64 ((a.2.length : Nat) : Int)), (26, .int .i64 ((i : Nat) : Int))]) (fun (i : Nat) (ms : List (Str × Bool)) => [.mp m1 (mpE .bool (ms)) (ms).length, .box b1 83 [str (a.1), av], .imm (.list .str) (av) (a.2)]) (fun (i : Nat) (ms : List (Str × Bool)) => i ≤ a.2.length ∧ distB (fun s => (formF (kindF a.1) s).2) (fun x y => decide ((formF (kindF a.1) y).1 = (formF (kindF a.1) x).1)) [] a.2 i = true ∧ ms = (a.2.take i).map (fun s => ((formF (kindF a.1) s).1, true))) (fun (i : Nat) (ms : List (Str × Bool)) => a.2.length - i) 0 ([] : List (Str × Bool)) (⟨Nat.zero_le _, rfl, rfl⟩) (⟨rfl, rfl, rfl, rfl, rfl, trivial⟩) (fun _ h => h) (fun i ms hinv => ?_)
  refine jc_seq (jc_region (jo_pure rfl (pr_lssN (m := i) (n := a.2.length) rfl rfl) ?_))
  refine jo_nil (jq_then (jc_seq ?_))
  refine jc_cond rfl (fun h2b => ?_) (fun h2b => ?_)
  ·have h2 := of_decide_eq_true h2b
   refine jc_skip (jq_then (jc_seq (jc_block (jc_seq (jc_region (jo_pure rfl (pr_idx_imm (i := i) rfl (.tail _ (.tail _ (.head _))) rfl Tryz.underlying28 ty_9 (by omega)) ?_))))))
   refine jo_pure rfl (pr_load_elem_imm (i := i) (str (a.2.getD i [])) rfl (.tail _ (.tail _ (.head _))) ty_9 rfl rfl (by omega) rfl) ?_
   refine jo_pure rfl (pr_assign rfl) (jo_nil (jq_then (jc_seq (jc_region (jo_pure rfl (pr_move rfl) (jo_pure rfl (pr_move rfl) ?_))))))
   refine jo_invokep rfl (form_meth (kindF a.1) (a.2.getD i []) (hm _ (getD_mem h2))) ⟨rfl, trivial⟩ rfl trivial (fun _ => ?_)
   refine jo_pure rfl (pr_move rfl) (jo_pure rfl (pr_extract rfl rfl) (jo_pure rfl (pr_extract rfl rfl) (jo_pure rfl (pr_assign rfl) (jo_pure rfl (pr_assign rfl) (jo_nil (jq_then (jc_seq (jc_seq (jc_region (jo_pure rfl (pr_move rfl) (jo_pure rfl (pr_not rfl) (jo_pure rfl (pr_move rfl) (jo_gpure (j := 2) (want := false) rfl rfl rfl rfl (fun hg=>pr_move rfl) (jo_gpure (j := 2) (want := false) rfl rfl rfl rfl (fun hg=>pr_move rfl) (jo_gpure (j := 2) (want := false) rfl rfl rfl rfl (fun hg=>pr_lookS (ty := .bool) (dd := false) (evg rfl hg) (evg rfl hg) (.head _) Tryz.underlying107 Tryz.underlying9 ty_4 rfl rfl) ?_)))))))))))))))
   refine jo_pure rfl (pr_pick_or rfl rfl rfl) ?_
   refine jo_nil (jq_then ?_)
   refine jc_cond rfl (fun h3b => ?_) (fun h3b => ?_)
   ·have h3 := (fun q => Or.imp (fun q => id (bt_not q)) id (bt_or q)) h3b
    refine jc_seq (jc_region (jo_pure rfl (pr_assign rfl) (jo_nil (jq_then (jc_ret (jq_then_ret (jq_in_ret ?_)))))))
    refine jq_then_ret (jq_then_ret (jq_in_ret ?_))
    refine jq_then_ret (j_drop (j_drop (j_drop ?_)))
    exact jq_ret1 rfl () rfl (show (.bool (validV (kindF a.1) a.2) : Value) = (.bool (false)) from congrArg Value.bool (by rw [validV_yes (by omega), dist_bad h2 (h3.imp (fun q => by simpa using q) (fun q => (seen_yes hinv.2.2).symm.trans q))])) (fun _ h => h)
   ·have h3 := (fun q => And.imp (fun q => id (bf_not q)) id (bf_or q)) h3b
    have hnew := seen_new hinv.2.2 h3.2
    refine jc_skip (jq_then (jc_region (jo_pure rfl (pr_move rfl) (jo_pure rfl (pr_move rfl) (jo_putS (ty := .bool) (l := ms) (k := (formF (kindF a.1) (a.2.getD i [])).1) true rfl rfl rfl rfl Tryz.underlying107 Tryz.underlying9 (hnew) ?_)))))
    refine jo_nil (jq_in_normal (jq_then (jc_region (jo_pure rfl (pr_addN (m := i) (n := 1) rfl rfl (by omega)) ?_))))
    refine jo_pure rfl (pr_move rfl) (jo_nil (j_pull2 (j_pull2 (j_pull2 ?_))))
    refine jq_round' ((i + 1), (ms ++ [((formF (kindF a.1) (a.2.getD i [])).1, true)])) (by (try dsimp only); exact (⟨by omega, dist_go hinv.2.1 (by simpa using h3.1) ((seen_yes hinv.2.2).symm.trans h3.2), by rw [mapT_step h2, hinv.2.2]⟩)) (by (try dsimp only); exact (by omega)) ⟨rfl, rfl, rfl, rfl, rfl, trivial⟩ (fun _ h => h)
  ·have h2 := of_decide_eq_false h2b
   refine jc_exit ?_
   refine jq_then_exit ?_
   refine jq_then_exit ?_
   refine jq_in_hit ?_
   refine jq_then (jc_seq (jc_region (jo_pure rfl (pr_assign rfl) (jo_nil (jq_then (jc_ret (j_drop (j_drop (j_drop ?_)))))))))
   exact jq_ret1 rfl () rfl (show (.bool (validV (kindF a.1) a.2) : Value) = (.bool (true)) from congrArg Value.bool (by rw [validV_yes (by omega), dist_done hinv.1 (by omega) hinv.2.1])) (fun _ h => h)

theorem c_variants_Valid (l : List (Axs)) (lv : Value) (hl : l.length ≤ 9223372036854775807) (hm : ∀ a ∈ l, a.1.length ≤ 1000000 ∧ (∀ x ∈ a.2, x.length ≤ 300000) ∧ a.2.length ≤ 9223372036854775807) : Con Tryz.prog 47 #[lv] [.imm (.list (.pair .str (.list .str))) (lv) (l)] (fun _ : Unit => .bool (validL l)) (fun _ => []) := by
 refine con_of_J (args := [lv]) (n := 54) Tryz.func47 rfl (Nat.le_of_ble_eq_true rfl) rfl (fun w0 I0 m0 => ?_)
 refine jc_seq (jc_region (jo_pure rfl (pr_assign rfl) (jo_nil (jq_then (jc_seq (jc_seq (jc_region (jo_pure rfl (pr_move rfl) (jo_pure rfl (pr_len_imm rfl (.head _) Tryz.underlying41) ?_)))))))))
 refine jo_pure rfl (pr_lssN (m := l.length) (n := 1) rfl rfl) ?_
 refine jo_pure rfl (pr_move rfl) (jo_gpure (j := 3) (want := false) rfl rfl rfl rfl (fun hg=>pr_move rfl) (jo_gpure (j := 3) (want := false) rfl rfl rfl rfl (fun hg=>pr_len_imm (evg rfl hg) (.head _) Tryz.underlying41) ?_))
 refine jo_gpure (j := 3) (want := false) rfl rfl rfl rfl (fun hg=>pr_gtrN (m := l.length) (n := 4) (evg rfl hg) rfl) ?_
 refine jo_pure rfl (pr_pick_or rfl rfl rfl) ?_
 refine jo_nil (jq_then ?_)
 refine jc_cond rfl (fun h1b => ?_) (fun h1b => ?_)
 ·have h1 := (fun q => Or.imp of_decide_eq_true of_decide_eq_true (bt_or q)) h1b
  refine jc_seq (jc_region (jo_pure rfl (pr_assign rfl) (jo_nil (jq_then (jc_ret (jq_then_ret (j_drop ?_)))))))
  exact jq_ret1 rfl () rfl (show (.bool (validL l) : Value) = (.bool (false)) from congrArg Value.bool (by rw [validL_no h1])) (fun _ h => h)
 ·have h1 := (fun q => And.imp of_decide_eq_false of_decide_eq_false (bf_or q)) h1b
  refine jc_skip (jq_then (jc_seq (jc_seq (jc_region (jo_pure rfl (pr_move rfl) (jo_pure rfl (pr_len_imm rfl (.head _) Tryz.underlying41) ?_))))))
  refine jo_pure rfl (pr_move rfl) (jo_nil (jq_then (jc_block ?_)))
  refine jc_loop (fun (i : Nat) => [(0, lv), (15, lv), (16, .int .i64 ((l.length : Nat) : Int)), (17, .int .i64 ((i : Nat) : Int))]) (fun (i : Nat) => [.imm (.list (.pair .str (.list .str))) (lv) (l)]) (fun (i : Nat) => i ≤ l.length ∧ distB validA (fun x y => decide (x.1 = y.1)) ([], []) l i = true) (fun (i : Nat) => l.length - i) 0 (⟨Nat.zero_le _, rfl⟩) (⟨rfl, rfl, rfl, rfl, trivial⟩) (fun _ h => h) (fun i hinv => ?_)
  refine jc_seq (jc_region (jo_pure rfl (pr_lssN (m := i) (n := l.length) rfl rfl) ?_))
  refine jo_nil (jq_then (jc_seq ?_))
  refine jc_cond rfl (fun h2b => ?_) (fun h2b => ?_)
  ·have h2 := of_decide_eq_true h2b
   have hA := hm _ (getD_mem (dd := ([], [])) h2)
   refine jc_skip (jq_then (jc_seq (jc_block (jc_seq (jc_region (jo_pure rfl (pr_move rfl) ?_))))))
   refine j_open_elem (t := (.pair .str (.list .str))) (i := i) ([], []) (.head _) (by omega) (fun ⟨_, e1⟩ => ?_)
   refine jo_pure rfl (pr_idx_imm (i := i) rfl (.tail _ (.tail _ (.head _))) rfl Tryz.underlying41 ty_83 (by omega)) ?_
   refine jo_pure rfl (pr_load_at (.agg #[str (((l.getD i ([], []))).1), e1]) rfl (.tail _ (.head _)) ty_83 (by decide) rfl) ?_
   refine jo_alloc ty_83 [str ([]), .slice none 0 0] rfl rfl (fun b1 => ?_)
   refine jo_pure rfl (pr_assign rfl) (jo_storeV rfl rfl ty_83 [str (((l.getD i ([], []))).1), e1] (fun _ _ _ _ => rfl) rfl (fun w I m hs => by simp only [List.all_cons, List.all_nil, Bool.and_true, Bool.and_eq_true]; exact ⟨rfl, (SliceV.one (imm_slice (.tail _ (.head _)) hs))⟩) [str (((l.getD i ([], []))).1), e1] rfl rfl ?_)
   refine jo_nil (jq_then (jc_seq (jc_seq (jc_draws mixed (by kernel_rfl) (jd_pure rfl (pr_fieldAddr 0 rfl Tryz.underlying83 rfl ty_9 rfl rfl) ?_)))))
   refine jd_pure rfl (pr_load_box (str (((l.getD i ([], []))).1)) rfl ty_9 (.head _) rfl (by decide) rfl) ?_
   refine jd_callp cal_68 (c_ascii_Token (((l.getD i ([], []))).1) (by first | omega | exact hA.2.1 | exact hA.1 | exact hA.2.2)) ⟨rfl, trivial⟩ rfl (trivial) ?_
   refine jd_pure rfl (pr_not rfl) ?_
   refine jd_pure rfl (pr_move rfl) ?_
   refine jd_gpure (j := 4) (want := false) rfl rfl rfl rfl (fun hg=>pr_fieldAddr 0 rfl Tryz.underlying83 rfl ty_9 rfl rfl) ?_
   refine jd_gpure (j := 4) (want := false) rfl rfl rfl rfl (fun hg=>pr_load_box (str (((l.getD i ([], []))).1)) (evg rfl hg) ty_9 (.head _) rfl (by decide) rfl) ?_
   refine jd_gcall (j := 4) (want := false) rfl rfl rfl cal_69 (fun hg => c_ascii_Lower (((l.getD i ([], []))).1) (by first | omega | exact hA.2.1 | exact hA.1 | exact hA.2.2)) (fun hg => ⟨evg rfl hg, trivial⟩) rfl (fun _ => trivial) ?_
   refine jd_gpure (j := 4) (want := false) rfl rfl rfl rfl (fun hg=>pr_fieldAddr 0 rfl Tryz.underlying83 rfl ty_9 rfl rfl) ?_
   refine jd_gpure (j := 4) (want := false) rfl rfl rfl rfl (fun hg=>pr_load_box (str (((l.getD i ([], []))).1)) (evg rfl hg) ty_9 (.head _) rfl (by decide) rfl) ?_
   refine jd_gpure (j := 4) (want := false) rfl rfl rfl rfl (fun hg=>pr_sneq (evg rfl hg) (evg rfl hg)) ?_
   refine jd_pure rfl (pr_pick_or rfl rfl rfl) ?_
   refine jd_pure rfl (pr_move rfl) ?_
   refine jd_gpure (j := 12) (want := false) rfl rfl rfl rfl (fun hg=>pr_load_box (.agg #[str (((l.getD i ([], []))).1), e1]) rfl ty_83 (.head _) rfl (by decide) rfl) ?_
   refine jd_gcall (j := 12) (want := false) rfl rfl rfl cal_70 (fun hg => c_variants_valid ((l.getD i ([], []))) e1 (by first | omega | exact hA.2.1 | exact hA.1 | exact hA.2.2) (by first | omega | exact hA.2.1 | exact hA.1 | exact hA.2.2) (by first | omega | exact hA.2.1 | exact hA.1 | exact hA.2.2)) (fun hg => ⟨evg rfl hg, trivial⟩) rfl (fun _ => ⟨⟨rfl, .tail _ (.head _)⟩, trivial⟩) ?_
   refine jd_gpure (j := 12) (want := false) rfl rfl rfl rfl (fun hg=>pr_not (evg rfl hg)) ?_
   refine jd_pure rfl (pr_pick_or rfl rfl rfl) ?_
   refine jd_nil ?_
   refine jq_then ?_
   refine jc_cond rfl (fun h3b => ?_) (fun h3b => ?_)
   ·have h3 := (fun q => Or.imp (fun q => Or.imp (fun q => id (bt_not q)) (fun q => of_decide_eq_false (bt_not q)) (bt_or q)) (fun q => id (bt_not q)) (bt_or q)) h3b
    refine jc_seq (jc_region (jo_pure rfl (pr_assign rfl) (jo_nil (jq_then (jc_ret (jq_then_ret (jq_in_ret ?_)))))))
    refine jq_then_ret (jq_then_ret (jq_in_ret ?_))
    refine jq_then_ret (j_drop (j_drop (j_drop (j_drop ?_))))
    exact jq_ret1 rfl () rfl (show (.bool (validL l) : Value) = (.bool (false)) from congrArg Value.bool (by rw [validL_yes (by omega), dist_bad h2 (.inl (by have h9 := h3b; unfold validA; revert h9; cases token (l.getD i ([], [])).1 <;> cases validV (kindF (l.getD i ([], [])).1) (l.getD i ([], [])).2 <;> simp <;> exact fun q => q))])) (fun _ h => h)
   ·have h3 := (fun q => And.imp (fun q => And.imp (fun q => id (bf_not q)) (fun q => of_decide_eq_true (bf_not q)) (bf_or q)) (fun q => id (bf_not q)) (bf_or q)) h3b
    have hlI : ((l.take i).drop 0).length = i := by rw [drop0, List.length_take]; omega
    refine jc_skip (jq_then (jc_seq (jc_region (jo_pure rfl (pr_move rfl) (jo_pure rfl (pr_move rfl) (j_resl (l := 0) (h := i) (.tail _ (.tail _ (.tail _ (.head _)))) (by omega) (by omega) ?_))))))
    refine jo_pure rfl (pr_slice_imm (l := 0) (h := i) rfl (.tail _ (.tail _ (.tail _ (.tail _ (.head _))))) Tryz.underlying41 ty_83 rfl ⟨_, rfl⟩ (by omega) (by omega)) ?_
    refine jo_pure rfl (pr_len_imm rfl (.head _) Tryz.underlying41) ?_
    refine jo_pure rfl (pr_move rfl) (jo_nil (jq_then (jc_block ?_)))
    refine jc_loop (fun (k : Nat) => [(0, lv), (4, .pointer (some ⟨b1, 0, none⟩)), (15, lv), (16, .int .i64 ((l.length : Nat) : Int)), (17, .int .i64 ((i : Nat) : Int)), (41, resl (lv) (0) (i) 2), (42, .int .i64 ((((l.take i).drop 0).length : Nat) : Int)), (43, .int .i64 ((k : Nat) : Int))]) (fun (k : Nat) => [.imm (.list (.pair .str (.list .str))) (resl (lv) (0) (i) 2) ((l.take i).drop 0), .box b1 83 [str (((l.getD i ([], []))).1), e1], .imm (.list .str) (e1) (((l.getD i ([], []))).2), .fact (fun w_ I_ => ElemAt w_ I_ (lv) (i) 2 [str (((l.getD i ([], []))).1), e1]), .imm (.list (.pair .str (.list .str))) (lv) (l)]) (fun (k : Nat) => k ≤ i ∧ (((l.take i).drop 0).take k).any (fun b => decide ((l.getD i ([], [])).1 = b.1)) = false) (fun (k : Nat) => i - k) 0 (⟨Nat.zero_le _, rfl⟩) (⟨rfl, rfl, rfl, rfl, rfl, rfl, rfl, rfl, trivial⟩) (fun _ h => h) (fun k hink => ?_)
    refine jc_seq (jc_region (jo_pure rfl (pr_lssN (m := k) (n := ((l.take i).drop 0).length) rfl rfl) ?_))
    refine jo_nil (jq_then (jc_seq ?_))
    refine jc_cond rfl (fun h4b => ?_) (fun h4b => ?_)
    ·have h4 := of_decide_eq_true h4b
     refine jc_skip (jq_then (jc_seq (jc_block (jc_seq (jc_region ?_)))))
     refine j_open_elem (t := (.pair .str (.list .str))) (i := k) ([], []) (.head _) (by omega) (fun ⟨_, e2⟩ => ?_)
     refine jo_pure rfl (pr_idx_imm (i := k) rfl (.tail _ (.tail _ (.head _))) rfl Tryz.underlying41 ty_83 (by omega)) ?_
     refine jo_pure rfl (pr_load_at (.agg #[str (((((l.take i).drop 0).getD k ([], []))).1), e2]) rfl (.tail _ (.head _)) ty_83 (by decide) rfl) ?_
     refine jo_alloc ty_83 [str ([]), .slice none 0 0] rfl rfl (fun b2 => ?_)
     refine jo_storeV rfl rfl ty_83 [str (((((l.take i).drop 0).getD k ([], []))).1), e2] (fun _ _ _ _ => rfl) rfl (fun w I m hs => by simp only [List.all_cons, List.all_nil, Bool.and_true, Bool.and_eq_true]; exact ⟨rfl, (SliceV.one (imm_slice (.tail _ (.head _)) hs))⟩) [str (((((l.take i).drop 0).getD k ([], []))).1), e2] rfl rfl ?_
     refine jo_nil (jq_then (jc_seq (jc_region (jo_pure rfl (pr_fieldAddr 0 rfl Tryz.underlying83 rfl ty_9 rfl rfl) ?_))))
     refine jo_pure rfl (pr_load_box (str (((l.getD i ([], []))).1)) rfl ty_9 (.tail _ (.tail _ (.tail _ (.tail _ (.head _))))) rfl (by decide) rfl) ?_
     refine jo_pure rfl (pr_fieldAddr 0 rfl Tryz.underlying83 rfl ty_9 rfl rfl) ?_
     refine jo_pure rfl (pr_load_box (str (((((l.take i).drop 0).getD k ([], []))).1)) rfl ty_9 (.head _) rfl (by decide) rfl) ?_
     refine jo_pure rfl (pr_seql rfl rfl) ?_
     refine jo_nil (jq_then ?_)
     refine jc_cond rfl (fun h5b => ?_) (fun h5b => ?_)
     ·have h5 := of_decide_eq_true h5b
      refine jc_seq (jc_region (jo_pure rfl (pr_assign rfl) (jo_nil (jq_then (jc_ret (jq_in_ret ?_))))))
      refine jq_then_ret (jq_then_ret (jq_in_ret ?_))
      refine jq_in_ret ?_
      refine jq_then_ret (jq_then_ret (jq_in_ret ?_))
      refine jq_then_ret (j_drop (j_drop (j_drop (j_drop (j_drop (j_drop (j_drop (j_drop ?_))))))))
      exact jq_ret1 rfl () rfl (show (.bool (validL l) : Value) = (.bool (false)) from congrArg Value.bool (by rw [validL_yes (by omega), dist_bad h2 (.inr (by have h9 := any_hit (p := fun b => decide ((l.getD i ([], [])).1 = b.1)) (dd := ([], [])) h4 h5b; rw [drop0] at h9; exact h9))])) (fun _ h => h)
     ·have h5 := of_decide_eq_false h5b
      refine jc_skip (jq_in_normal (jq_then (jc_region (jo_pure rfl (pr_addN (m := k) (n := 1) rfl rfl (by omega)) ?_))))
      refine jo_pure rfl (pr_move rfl) (jo_nil (j_drop (j_drop (j_drop (j_pull4 ?_)))))
      refine j_pull4 ?_
      refine j_pull4 ?_
      refine j_pull4 ?_
      refine j_pull4 ?_
      refine jq_round' (k + 1) (by (try dsimp only); exact (⟨by omega, any_step (dd := ([], [])) h4 hink.2 h5b⟩)) (by (try dsimp only); exact (by omega)) ⟨rfl, rfl, rfl, rfl, rfl, rfl, rfl, rfl, trivial⟩ (fun _ h => h)
    ·have h4 := of_decide_eq_false h4b
     refine jc_exit ?_
     refine jq_then_exit ?_
     refine jq_then_exit ?_
     refine jq_in_hit ?_
     refine jq_in_normal (jq_then (jc_region (jo_pure rfl (pr_addN (m := i) (n := 1) rfl rfl (by omega)) ?_)))
     refine jo_pure rfl (pr_move rfl) (jo_nil (j_drop (j_drop (j_drop (j_drop ?_)))))
     refine jq_round' (i + 1) (by (try dsimp only); exact (⟨by omega, dist_go hinv.2 (by have h9 := h3; simp only [validA, Bool.and_eq_true, decide_eq_true_eq]; exact h9) (by have h9 := hink.2; rw [take_over (by omega), drop0] at h9; exact h9)⟩)) (by (try dsimp only); exact (by omega)) ⟨rfl, rfl, rfl, rfl, trivial⟩ (fun _ h => h)
  ·have h2 := of_decide_eq_false h2b
   refine jc_exit ?_
   refine jq_then_exit ?_
   refine jq_then_exit ?_
   refine jq_in_hit ?_
   refine jq_then (jc_seq (jc_region (jo_pure rfl (pr_assign rfl) (jo_nil (jq_then (jc_ret (j_drop ?_)))))))
   exact jq_ret1 rfl () rfl (show (.bool (validL l) : Value) = (.bool (true)) from congrArg Value.bool (by rw [validL_yes (by omega), dist_done hinv.1 (by omega) hinv.2])) (fun _ h => h)

theorem c_slices_Equal_string_string (a : List Str) (av : Value) (b : List Str) (bv : Value) (hl : a.length ≤ 9223372036854775807) : Con Tryz.prog 89 #[av, bv] [.imm (.list .str) (av) (a), .imm (.list .str) (bv) (b)] (fun _ : Unit => .bool (decide (a = b))) (fun _ => []) := by
 refine con_of_J (args := [av, bv]) (n := 26) Tryz.func89 rfl (Nat.le_of_ble_eq_true rfl) rfl (fun w0 I0 m0 => ?_)
 refine jc_seq (jc_region (jo_pure rfl (pr_assign rfl) (jo_nil (jq_then (jc_seq (jc_seq (jc_region (jo_pure rfl (pr_move rfl) (jo_pure rfl (pr_len_imm rfl (.head _) Tryz.underlying28) ?_)))))))))
 refine jo_pure rfl (pr_move rfl) (jo_pure rfl (pr_len_imm rfl (.tail _ (.head _)) Tryz.underlying28) ?_)
 refine jo_pure rfl (pr_neqN (m := a.length) (n := b.length) rfl rfl) ?_
 refine jo_nil (jq_then ?_)
 refine jc_cond rfl (fun h1b => ?_) (fun h1b => ?_)
 ·have h1 := (fun q => of_decide_eq_false (bt_not q)) h1b
  refine jc_seq (jc_region (jo_pure rfl (pr_assign rfl) (jo_nil (jq_then (jc_ret (jq_then_ret (j_drop (j_drop ?_))))))))
  exact jq_ret1 rfl () rfl (show (.bool (decide (a = b)) : Value) = (.bool (false)) from congrArg Value.bool (decide_eq_false (fun e => by rw [e] at h1; simp at h1))) (fun _ h => h)
 ·have h1 := (fun q => of_decide_eq_true (bf_not q)) h1b
  have hlen : a.length = b.length := by simpa using h1
  refine jc_skip (jq_then (jc_seq (jc_seq (jc_region (jo_pure rfl (pr_move rfl) (jo_pure rfl (pr_len_imm rfl (.head _) Tryz.underlying28) ?_))))))
  refine jo_pure rfl (pr_move rfl) (jo_nil (jq_then (jc_block ?_)))
  refine jc_loop (fun (i : Nat) => [(0, av), (1, bv), (12, .int .i64 ((a.length : Nat) : Int)), (13, .int .i64 ((i : Nat) : Int))]) (fun (i : Nat) => [.imm (.list .str) (av) (a), .imm (.list .str) (bv) (b)]) (fun (i : Nat) => i ≤ a.length ∧ a.take i = b.take i) (fun (i : Nat) => a.length - i) 0 (⟨Nat.zero_le _, rfl⟩) (⟨rfl, rfl, rfl, rfl, trivial⟩) (fun _ h => h) (fun i hinv => ?_)
  refine jc_seq (jc_region (jo_pure rfl (pr_lssN (m := i) (n := a.length) rfl rfl) ?_))
  refine jo_nil (jq_then (jc_seq ?_))
  refine jc_cond rfl (fun h2b => ?_) (fun h2b => ?_)
  ·have h2 := of_decide_eq_true h2b
   refine jc_skip (jq_then (jc_seq (jc_block (jc_seq (jc_region (jo_pure rfl (pr_move rfl) (jo_pure rfl (pr_assign rfl) (jo_nil (jq_then (jc_seq (jc_draws mixed (by kernel_rfl) (jd_pure rfl (pr_move rfl) ?_))))))))))))
   refine jd_pure rfl (pr_move rfl) ?_
   refine jd_pure rfl (pr_idx_imm (i := i) rfl (.head _) rfl Tryz.underlying28 ty_9 (by omega)) ?_
   refine jd_pure rfl (pr_load_elem_imm (i := i) (str (a.getD i [])) rfl (.head _) ty_9 rfl rfl (by omega) rfl) ?_
   refine jd_pure rfl (pr_move rfl) ?_
   refine jd_pure rfl (pr_move rfl) ?_
   refine jd_pure rfl (pr_idx_imm (i := i) rfl (.tail _ (.head _)) rfl Tryz.underlying28 ty_9 (by omega)) ?_
   refine jd_pure rfl (pr_load_elem_imm (i := i) (str (b.getD i [])) rfl (.tail _ (.head _)) ty_9 rfl rfl (by omega) rfl) ?_
   refine jd_pure rfl (pr_sneq rfl rfl) ?_
   refine jd_nil ?_
   refine jq_then ?_
   refine jc_cond rfl (fun h3b => ?_) (fun h3b => ?_)
   ·have h3 := (fun q => of_decide_eq_false (bt_not q)) h3b
    refine jc_seq (jc_region (jo_pure rfl (pr_assign rfl) (jo_nil (jq_then (jc_ret (jq_in_ret ?_))))))
    refine jq_then_ret (jq_then_ret (jq_in_ret ?_))
    refine jq_then_ret (j_drop (j_drop ?_))
    exact jq_ret1 rfl () rfl (show (.bool (decide (a = b)) : Value) = (.bool (false)) from congrArg Value.bool (decide_eq_false (fun e => by rw [e] at h3; simp at h3))) (fun _ h => h)
   ·have h3 := (fun q => of_decide_eq_true (bf_not q)) h3b
    refine jc_skip (jq_in_normal (jq_then (jc_region (jo_pure rfl (pr_addN (m := i) (n := 1) rfl rfl (by omega)) ?_))))
    refine jo_pure rfl (pr_move rfl) (jo_nil (j_pull1 (j_pull1 ?_)))
    refine jq_round' (i + 1) (by (try dsimp only); exact (⟨by omega, take_eq_step (dd := []) h2 (by omega) hinv.2 h3⟩)) (by (try dsimp only); exact (by omega)) ⟨rfl, rfl, rfl, rfl, trivial⟩ (fun _ h => h)
  ·have h2 := of_decide_eq_false h2b
   refine jc_exit ?_
   refine jq_then_exit ?_
   refine jq_then_exit ?_
   refine jq_in_hit ?_
   refine jq_then (jc_seq (jc_region (jo_pure rfl (pr_assign rfl) (jo_nil (jq_then (jc_ret (j_drop (j_drop ?_))))))))
   exact jq_ret1 rfl () rfl (show (.bool (decide (a = b)) : Value) = (.bool (true)) from congrArg Value.bool (decide_eq_true (by have := hinv.2; rwa [List.take_of_length_le (by omega), List.take_of_length_le (by omega)] at this))) (fun _ h => h)

theorem c_Equal_1 (x : Axs) (xv : Value) (y : Axs) (yv : Value) (hl : x.2.length ≤ 9223372036854775807) : Con Tryz.prog 88 #[.agg #[str (x.1), xv], .agg #[str (y.1), yv]] [.imm (.list .str) (xv) (x.2), .imm (.list .str) (yv) (y.2)] (fun _ : Unit => .bool (decide (x.1 = y.1) && decide (x.2 = y.2))) (fun _ => []) := by
 refine con_of_J (args := [.agg #[str (x.1), xv], .agg #[str (y.1), yv]]) (n := 17) Tryz.func88 rfl (Nat.le_of_ble_eq_true rfl) rfl (fun w0 I0 m0 => ?_)
 refine jc_seq (jc_region ?_)
 refine jo_box rfl [str (x.1), xv] rfl rfl (fun b1 => ?_)
 refine jo_box rfl [str (y.1), yv] rfl rfl (fun b2 => ?_)
 refine jo_pure rfl (pr_assign rfl) (jo_nil (jq_then (jc_seq (jc_region (jo_pure rfl (pr_fieldAddr 0 rfl Tryz.underlying83 rfl ty_9 rfl rfl) ?_)))))
 refine jo_pure rfl (pr_load_box (str (x.1)) rfl ty_9 (.tail _ (.head _)) rfl (by decide) rfl) ?_
 refine jo_pure rfl (pr_fieldAddr 0 rfl Tryz.underlying83 rfl ty_9 rfl rfl) ?_
 refine jo_pure rfl (pr_load_box (str (y.1)) rfl ty_9 (.head _) rfl (by decide) rfl) ?_
 refine jo_pure rfl (pr_seql rfl rfl) ?_
 refine jo_pure rfl (pr_move rfl) (jo_gpure (j := 5) (want := true) rfl rfl rfl rfl (fun hg=>pr_fieldAddr 1 rfl Tryz.underlying83 rfl ty_28 rfl rfl) ?_)
 refine jo_gpure (j := 5) (want := true) rfl rfl rfl rfl (fun hg=>pr_load_box (xv) (evg rfl hg) ty_28 (.tail _ (.head _)) rfl (by decide) rfl) ?_
 refine jo_gpure (j := 5) (want := true) rfl rfl rfl rfl (fun hg=>pr_fieldAddr 1 rfl Tryz.underlying83 rfl ty_28 rfl rfl) ?_
 refine jo_gpure (j := 5) (want := true) rfl rfl rfl rfl (fun hg=>pr_load_box (yv) (evg rfl hg) ty_28 (.head _) rfl (by decide) rfl) ?_
 refine jo_gcall (j := 5) (want := true) rfl rfl rfl cal_89 (fun hg => c_slices_Equal_string_string x.2 xv y.2 yv (by omega)) (fun hg => ⟨evg rfl hg, evg rfl hg, trivial⟩) rfl (fun _ => ⟨⟨rfl, .tail _ (.tail _ (.head _))⟩, ⟨⟨rfl, .tail _ (.tail _ (.tail _ (.head _)))⟩, trivial⟩⟩) ?_
 refine jo_pure rfl (pr_pick_and rfl rfl rfl) ?_
 refine jo_pure rfl (pr_assign rfl) (jo_nil (jq_then (jc_ret (j_drop (j_drop (j_drop (j_drop ?_)))))))
 exact jq_ret1 rfl () rfl (show (.bool (decide (x.1 = y.1) && decide (x.2 = y.2)) : Value) = (.bool ((decide ((x.1 : Str) = y.1) && decide (x.2 = y.2)))) from rfl) (fun _ h => h)

theorem c_equalFunc_axis (a : List (Axs)) (av : Value) (b : List (Axs)) (bv : Value) (hl : a.length ≤ 9223372036854775807) (hm : ∀ x ∈ a, x.2.length ≤ 9223372036854775807) : Con Tryz.prog 87 #[av, bv, .func (.func 88) #[] #[]] [.imm (.list (.pair .str (.list .str))) (av) (a), .imm (.list (.pair .str (.list .str))) (bv) (b)] (fun _ : Unit => .bool (decide (a = b))) (fun _ => []) := by
 refine con_of_J (args := [av, bv, .func (.func 88) #[] #[]]) (n := 32) Tryz.func87 rfl (Nat.le_of_ble_eq_true rfl) rfl (fun w0 I0 m0 => ?_)
 refine jc_seq (jc_region (jo_pure rfl (pr_assign rfl) (jo_nil (jq_then (jc_seq (jc_seq (jc_region (jo_pure rfl (pr_move rfl) (jo_pure rfl (pr_len_imm rfl (.head _) Tryz.underlying41) ?_)))))))))
 refine jo_pure rfl (pr_move rfl) (jo_pure rfl (pr_len_imm rfl (.tail _ (.head _)) Tryz.underlying41) ?_)
 refine jo_pure rfl (pr_neqN (m := a.length) (n := b.length) rfl rfl) ?_
 refine jo_nil (jq_then ?_)
 refine jc_cond rfl (fun h1b => ?_) (fun h1b => ?_)
 ·have h1 := (fun q => of_decide_eq_false (bt_not q)) h1b
  refine jc_seq (jc_region (jo_pure rfl (pr_assign rfl) (jo_nil (jq_then (jc_ret (jq_then_ret (j_drop (j_drop ?_))))))))
  exact jq_ret1 rfl () rfl (show (.bool (decide (a = b)) : Value) = (.bool (false)) from congrArg Value.bool (decide_eq_false (fun e => by rw [e] at h1; simp at h1))) (fun _ h => h)
 ·have h1 := (fun q => of_decide_eq_true (bf_not q)) h1b
  have hlen : a.length = b.length := by simpa using h1
  refine jc_skip (jq_then (jc_seq (jc_seq (jc_region (jo_pure rfl (pr_move rfl) (jo_pure rfl (pr_len_imm rfl (.head _) Tryz.underlying41) ?_))))))
  refine jo_pure rfl (pr_move rfl) (jo_nil (jq_then (jc_block ?_)))
  refine jc_loop (fun (i : Nat) => [(1, bv), (2, .func (.func 88) #[] #[]), (15, av), (16, .int .i64 ((a.length : Nat) : Int)), (17, .int .i64 ((i : Nat) : Int))]) (fun (i : Nat) => [.imm (.list (.pair .str (.list .str))) (av) (a), .imm (.list (.pair .str (.list .str))) (bv) (b)]) (fun (i : Nat) => i ≤ a.length ∧ a.take i = b.take i) (fun (i : Nat) => a.length - i) 0 (⟨Nat.zero_le _, rfl⟩) (⟨rfl, rfl, rfl, rfl, rfl, trivial⟩) (fun _ h => h) (fun i hinv => ?_)
  refine jc_seq (jc_region (jo_pure rfl (pr_lssN (m := i) (n := a.length) rfl rfl) ?_))
  refine jo_nil (jq_then (jc_seq ?_))
  refine jc_cond rfl (fun h2b => ?_) (fun h2b => ?_)
  ·have h2 := of_decide_eq_true h2b
   refine jc_skip (jq_then (jc_seq (jc_block (jc_seq (jc_region (jo_pure rfl (pr_move rfl) ?_))))))
   refine j_open_elem (t := (.pair .str (.list .str))) (i := i) ([], []) (.head _) (by omega) (fun ⟨_, e1⟩ => ?_)
   refine jo_pure rfl (pr_idx_imm (i := i) rfl (.tail _ (.tail _ (.head _))) rfl Tryz.underlying41 ty_83 (by omega)) ?_
   refine jo_pure rfl (pr_load_at (.agg #[str (((a.getD i ([], []))).1), e1]) rfl (.tail _ (.head _)) ty_83 (by decide) rfl) ?_
   refine jo_alloc ty_83 [str ([]), .slice none 0 0] rfl rfl (fun b1 => ?_)
   refine jo_pure rfl (pr_assign rfl) (jo_storeV rfl rfl ty_83 [str (((a.getD i ([], []))).1), e1] (fun _ _ _ _ => rfl) rfl (fun w I m hs => by simp only [List.all_cons, List.all_nil, Bool.and_true, Bool.and_eq_true]; exact ⟨rfl, (SliceV.one (imm_slice (.tail _ (.head _)) hs))⟩) [str (((a.getD i ([], []))).1), e1] rfl rfl ?_)
   refine jo_nil (jq_then (jc_seq (jc_region (jo_pure rfl (pr_move rfl) (jo_pure rfl (pr_move rfl) ?_)))))
   refine j_open_elem (t := (.pair .str (.list .str))) (i := i) ([], []) (.tail _ (.tail _ (.tail _ (.tail _ (.head _))))) (by omega) (fun ⟨_, e2⟩ => ?_)
   refine jo_pure rfl (pr_idx_imm (i := i) rfl (.tail _ (.tail _ (.tail _ (.tail _ (.tail _ (.tail _ (.head _))))))) rfl Tryz.underlying41 ty_83 (by omega)) ?_
   refine jo_pure rfl (pr_load_at (.agg #[str (((b.getD i ([], []))).1), e2]) rfl (.tail _ (.head _)) ty_83 (by decide) rfl) ?_
   refine jo_alloc ty_83 [str ([]), .slice none 0 0] rfl rfl (fun b2 => ?_)
   refine jo_storeV rfl rfl ty_83 [str (((b.getD i ([], []))).1), e2] (fun _ _ _ _ => rfl) rfl (fun w I m hs => by simp only [List.all_cons, List.all_nil, Bool.and_true, Bool.and_eq_true]; exact ⟨rfl, (SliceV.one (imm_slice (.tail _ (.head _)) hs))⟩) [str (((b.getD i ([], []))).1), e2] rfl rfl ?_
   refine jo_nil (jq_then (jc_seq (jc_region (jo_pure rfl (pr_move rfl) (jo_pure rfl (pr_load_box (.agg #[str (((a.getD i ([], []))).1), e1]) rfl ty_83 (.tail _ (.tail _ (.tail _ (.head _)))) rfl (by decide) rfl) ?_)))))
   refine jo_pure rfl (pr_load_box (.agg #[str (((b.getD i ([], []))).1), e2]) rfl ty_83 (.head _) rfl (by decide) rfl) ?_
   refine jo_callvp (fi := []) (vs := [.agg #[str (((a.getD i ([], []))).1), e1], .agg #[str (((b.getD i ([], []))).1), e2]]) (ca := []) rfl cal_88 (c_Equal_1 ((a.getD i ([], []))) e1 ((b.getD i ([], []))) e2 (by exact hm _ (getD_mem (dd := ([], [])) h2))) ⟨rfl, rfl, trivial⟩ rfl (⟨⟨rfl, .tail _ (.tail _ (.tail _ (.tail _ (.head _))))⟩, ⟨⟨rfl, .tail _ (.head _)⟩, trivial⟩⟩) (fun _ => ?_)
   refine jo_pure rfl (pr_not rfl) ?_
   refine jo_nil (jq_then ?_)
   refine jc_cond rfl (fun h3b => ?_) (fun h3b => ?_)
   ·have h3 := (fun q => id (bt_not q)) h3b
    refine jc_seq (jc_region (jo_pure rfl (pr_assign rfl) (jo_nil (jq_then (jc_ret (jq_in_ret ?_))))))
    refine jq_then_ret (jq_then_ret (jq_in_ret ?_))
    refine jq_then_ret (j_drop (j_drop (j_drop (j_drop (j_drop (j_drop (j_drop (j_drop ?_))))))))
    exact jq_ret1 rfl () rfl (show (.bool (decide (a = b)) : Value) = (.bool (false)) from congrArg Value.bool (decide_eq_false (fun e => by rw [e] at h3b; simp at h3b))) (fun _ h => h)
   ·have h3 := (fun q => id (bf_not q)) h3b
    refine jc_skip (jq_in_normal (jq_then (jc_region (jo_pure rfl (pr_addN (m := i) (n := 1) rfl rfl (by omega)) ?_))))
    refine jo_pure rfl (pr_move rfl) (jo_nil (j_drop (j_drop (j_drop (j_drop (j_drop (j_drop (j_pull1 (j_pull1 ?_)))))))))
    refine jq_round' (i + 1) (by (try dsimp only); exact (⟨by omega, take_eq_step (dd := ([], [])) h2 (by omega) hinv.2 (by have h9 := bf_not h3b; simp only [Bool.and_eq_true, decide_eq_true_eq] at h9; exact Prod.ext h9.1 h9.2)⟩)) (by (try dsimp only); exact (by omega)) ⟨rfl, rfl, rfl, rfl, rfl, trivial⟩ (fun _ h => h)
  ·have h2 := of_decide_eq_false h2b
   refine jc_exit ?_
   refine jq_then_exit ?_
   refine jq_then_exit ?_
   refine jq_in_hit ?_
   refine jq_then (jc_seq (jc_region (jo_pure rfl (pr_assign rfl) (jo_nil (jq_then (jc_ret (j_drop (j_drop ?_))))))))
   exact jq_ret1 rfl () rfl (show (.bool (decide (a = b)) : Value) = (.bool (true)) from congrArg Value.bool (decide_eq_true (by have := hinv.2; rwa [List.take_of_length_le (by omega), List.take_of_length_le (by omega)] at this))) (fun _ h => h)

theorem c_variants_Equal (a : List (Axs)) (av : Value) (b : List (Axs)) (bv : Value) (hl : a.length ≤ 9223372036854775807) (hm : ∀ x ∈ a, x.2.length ≤ 9223372036854775807) : Con Tryz.prog 71 #[av, bv] [.imm (.list (.pair .str (.list .str))) (av) (a), .imm (.list (.pair .str (.list .str))) (bv) (b)] (fun _ : Unit => .bool (decide (a = b))) (fun _ => []) := by
 refine con_of_J (args := [av, bv]) (n := 8) Tryz.func71 rfl (Nat.le_of_ble_eq_true rfl) rfl (fun w0 I0 m0 => ?_)
 refine jc_seq (jc_region (jo_pure rfl (pr_assign rfl) (jo_nil (jq_then (jc_seq (jc_region (jo_pure rfl (pr_move rfl) (jo_pure rfl (pr_move rfl) ?_))))))))
 refine jo_callp cal_87 (c_equalFunc_axis a av b bv (by first | omega | exact hm) (by first | omega | exact hm)) ⟨rfl, rfl, rfl, trivial⟩ rfl (⟨⟨rfl, .head _⟩, ⟨⟨rfl, .tail _ (.head _)⟩, trivial⟩⟩) (fun _ => ?_)
 refine jo_pure rfl (pr_assign rfl) (jo_nil (jq_then (jc_ret (j_drop (j_drop ?_)))))
 exact jq_ret1 rfl () rfl (show (.bool (decide (a = b)) : Value) = (.bool (decide (a = b))) from rfl) (fun _ h => h)

end Go.Proofs.YtlniaacdjllonaaGreat
