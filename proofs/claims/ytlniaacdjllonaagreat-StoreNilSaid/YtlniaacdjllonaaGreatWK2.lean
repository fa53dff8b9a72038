/-
 Contracts of functions of the program: each returns what a plain function says, for every input within the bounds named. Conditions: the bounds.
-/
import Derived.Test.YtlniaacdjllonaaGreatRows
import Derived.Test.YtlniaacdjllonaaGreatWK1
namespace Go.Proofs.YtlniaacdjllonaaGreat
open Go Go.Sep
set_option linter.unusedSimpArgs false
set_option linter.unusedVariables false

open Go.Plain

theorem cal_115 : Cal Tryz.prog 115 := cal_of Tryz.func115 (by kernel_rfl) rfl
theorem cal_116 : Cal Tryz.prog 116 := cal_of Tryz.func116 (by kernel_rfl) rfl
theorem cal_143 : Cal Tryz.prog 143 := cal_of Tryz.func143 (by kernel_rfl) rfl
theorem cal_145 : Cal Tryz.prog 145 := cal_of Tryz.func145 (by kernel_rfl) rfl
theorem cal_179 : Cal Tryz.prog 179 := cal_of Tryz.func179 (by kernel_rfl) rfl
theorem cal_180 : Cal Tryz.prog 180 := cal_of Tryz.func180 (by kernel_rfl) rfl
theorem cal_181 : Cal Tryz.prog 181 := cal_of Tryz.func181 (by kernel_rfl) rfl
theorem cal_183 : Cal Tryz.prog 183 := cal_of Tryz.func183 (by kernel_rfl) rfl
theorem cal_184 : Cal Tryz.prog 184 := cal_of Tryz.func184 (by kernel_rfl) rfl
theorem ty_118 : TyF Tryz.prog 118 true 3 56 (some (.agg #[str ([]), str ([]), .slice none 0 0])) := ⟨by kernel_rfl, by kernel_rfl⟩

theorem c_ascii_Fold (a : Str) (b : Str) (ha : a.length ≤ 1000000) (hb : b.length ≤ 1000000) : Con Tryz.prog 115 #[str (a), str (b)] [] (fun _ : Unit => .bool (fold a b)) (fun _ => []) := by
 refine con_of_J (args := [str (a), str (b)]) (n := 17) Tryz.func115 rfl (Nat.le_of_ble_eq_true rfl) rfl (fun w0 I0 m0 => ?_)
 refine jc_seq (jc_region (jo_pure rfl (pr_assign rfl) (jo_nil (jq_then (jc_seq (jc_region (jo_pure rfl (pr_move rfl) (jo_pure rfl (pr_slen rfl Tryz.underlying9) ?_))))))))
 refine jo_pure rfl (pr_move rfl) (jo_pure rfl (pr_slen rfl Tryz.underlying9) ?_)
 refine jo_pure rfl (pr_eqlN (m := a.length) (n := b.length) rfl rfl) ?_
 refine jo_pure rfl (pr_move rfl) (jo_gpure (j := 5) (want := true) rfl rfl rfl rfl (fun hg=>pr_move rfl) (jo_gcall (j := 5) (want := true) rfl rfl rfl cal_69 (fun hg => c_ascii_Lower a (by omega)) (fun hg => ⟨evg rfl hg, trivial⟩) rfl (fun _ => trivial) ?_))
 refine jo_gpure (j := 5) (want := true) rfl rfl rfl rfl (fun hg=>pr_move rfl) ?_
 refine jo_gcall (j := 5) (want := true) rfl rfl rfl cal_69 (fun hg => c_ascii_Lower b (by omega)) (fun hg => ⟨evg rfl hg, trivial⟩) rfl (fun _ => trivial) ?_
 refine jo_gpure (j := 5) (want := true) rfl rfl rfl rfl (fun hg=>pr_seql (evg rfl hg) (evg rfl hg)) ?_
 refine jo_pure rfl (pr_pick_and rfl rfl rfl) ?_
 refine jo_pure rfl (pr_assign rfl) (jo_nil (jq_then (jc_ret ?_)))
 exact jq_ret1 rfl () rfl (show (.bool (fold a b) : Value) = (.bool ((decide ((a.length : Nat) = b.length) && decide ((lower a : Str) = lower b)))) from rfl) (fun _ h => h)

theorem c_mediatype_ParseRange (s : Str) (hs : s.length ≤ 1000000) : Con Tryz.prog 143 #[str (s)] [] (fun r1 : Value => .tuple #[.agg #[str ((parseR s).1.1), str ((parseR s).1.2.1), r1], .bool ((parseR s).2)]) (fun r1 => [.row r1 121 (.pair .str .str) ((parseR s).1.2.2)]) := by
 refine con_of_J (args := [str (s)]) (n := 48) Tryz.func143 rfl (Nat.le_of_ble_eq_true rfl) rfl (fun w0 I0 m0 => ?_)
 refine jc_seq (jc_region ?_)
 refine jo_alloc ty_118 [str ([]), str ([]), .slice none 0 0] rfl rfl (fun b1 => ?_)
 refine jo_pure rfl (pr_assign rfl) (jo_nil (jq_then (jc_seq (jc_region (jo_pure rfl (pr_move rfl) ?_)))))
 refine jo_callp cal_145 (c_param_Parse s (by first | omega | rfl | (have := parseP_len1 s; omega) | (have := parseP_len1 s; simp only [List.length_take, List.length_drop]; omega))) ⟨rfl, trivial⟩ rfl (trivial) (fun r1 => ?_)
 refine jo_pure rfl (pr_move rfl) (jo_pure rfl (pr_extract rfl rfl) (jo_pure rfl (pr_extract rfl rfl) (jo_pure rfl (pr_extract rfl rfl) (jo_pure rfl (pr_assign rfl) (jo_pure rfl (pr_assign rfl) (jo_pure rfl (pr_assign rfl) (jo_nil (jq_then (jc_seq (jc_seq (jc_region (jo_pure rfl (pr_move rfl) (jo_pure rfl (pr_not rfl) (jo_nil (jq_then ?_)))))))))))))))
 refine jc_cond rfl (fun h1b => ?_) (fun h1b => ?_)
 ·have h1 := (fun q => id (bt_not q)) h1b
  refine jc_seq (jc_region (jo_pure rfl (pr_build [] [str ([]), str ([]), .slice none 0 0] (fun a hf => by simp) (by kernel_rfl)) ?_))
  refine j_pull1 (jo_store rfl rfl ty_118 [str ([]), str ([]), .slice none 0 0] rfl rfl rfl [str ([]), str ([]), .slice none 0 0] rfl rfl ?_)
  refine jo_pure rfl (pr_assign rfl) (jo_nil (jq_then (jc_ret (jq_then_ret (j_nil_row 121 (.pair .str .str) ?_)))))
  refine j_pull2 (j_drop (j_pull1 (j_pull1 ?_)))
  exact jq_rets (rs := [.cell 2 118, .tmp 3]) (vs := [.agg #[str ([]), str ([]), .slice none 0 0], .bool (false)]) rfl (.slice none 0 0) ⟨resV_box (.agg #[str ([]), str ([]), .slice none 0 0]) rfl ty_118 (.tail _ (.head _)) rfl (by decide) rfl, resV_tmp rfl, trivial⟩ rfl (show (.tuple #[.agg #[str ((parseR s).1.1), str ((parseR s).1.2.1), (.slice none 0 0)], .bool ((parseR s).2)] : Value) = (.tuple #[.agg #[str ([]), str ([]), .slice none 0 0], .bool (false)]) from by rw [parseR_no (.inl h1)]) (fun w h => (fun h => by rw [parseR_no (.inl h1)]; exact h) (Mem.front (As := [.row (.slice none 0 0) 121 (.pair .str .str) ([])]) h))
 ·have h1 := (fun q => id (bf_not q)) h1b
  refine jc_skip (jq_then (jc_seq (jc_region (jo_pure rfl (pr_move rfl) ?_))))
  refine jo_callp cal_146 (c_strings_Cut ((parseP s).1) [47] 47 (rfl) (by first | omega | rfl | (have := parseP_len1 s; omega) | (have := parseP_len1 s; simp only [List.length_take, List.length_drop]; omega))) ⟨rfl, rfl, trivial⟩ rfl (trivial) (fun _ => ?_)
  refine jo_pure rfl (pr_move rfl) (jo_pure rfl (pr_extract rfl rfl) (jo_pure rfl (pr_extract rfl rfl) (jo_pure rfl (pr_extract rfl rfl) (jo_pure rfl (pr_assign rfl) (jo_pure rfl (pr_assign rfl) (jo_pure rfl (pr_assign rfl) (jo_nil (jq_then (jc_seq (jc_seq (jc_region (jo_pure rfl (pr_move rfl) ?_))))))))))))
  refine jo_callp cal_68 (c_ascii_Token (((parseP s).1).take (pos ((parseP s).1) 47)) (by first | omega | rfl | (have := parseP_len1 s; omega) | (have := parseP_len1 s; simp only [List.length_take, List.length_drop]; omega))) ⟨rfl, trivial⟩ rfl (trivial) (fun _ => ?_)
  refine jo_pure rfl (pr_not rfl) ?_
  refine jo_pure rfl (pr_move rfl) (jo_gpure (j := 3) (want := false) rfl rfl rfl rfl (fun hg=>pr_move rfl) (jo_gcall (j := 3) (want := false) rfl rfl rfl cal_68 (fun hg => c_ascii_Token (((parseP s).1).drop (pos ((parseP s).1) 47 + 1)) (by first | omega | rfl | (have := parseP_len1 s; omega) | (have := parseP_len1 s; simp only [List.length_take, List.length_drop]; omega))) (fun hg => ⟨evg rfl hg, trivial⟩) rfl (fun _ => trivial) ?_))
  refine jo_gpure (j := 3) (want := false) rfl rfl rfl rfl (fun hg=>pr_not (evg rfl hg)) ?_
  refine jo_pure rfl (pr_pick_or rfl rfl rfl) ?_
  refine jo_pure rfl (pr_move rfl) (jo_gpure (j := 8) (want := false) rfl rfl rfl rfl (fun hg=>pr_move rfl) (jo_gpure (j := 8) (want := false) rfl rfl rfl rfl (fun hg=>pr_seql (evg rfl hg) rfl) ?_))
  refine jo_gpure (j := 8) (want := false) rfl rfl rfl rfl (fun hg=>pr_move (evg rfl hg)) ?_
  refine jo_gpure2 (j := 11) (want := true) rfl rfl rfl rfl (fun hg=>pr_move rfl) ?_
  refine jo_gpure2 (j := 11) (want := true) rfl rfl rfl rfl (fun hg=>pr_sneq (evg rfl hg) rfl) ?_
  refine jo_gpure (j := 8) (want := false) rfl rfl rfl rfl (fun hg=>pr_pick_and (evg rfl hg) (evg2 rfl hg) rfl) ?_
  refine jo_pure rfl (pr_pick_or rfl rfl rfl) ?_
  refine jo_nil (jq_then ?_)
  refine jc_cond rfl (fun h2b => ?_) (fun h2b => ?_)
  ·have h2 := (fun q => Or.imp (fun q => Or.imp (fun q => id (bt_not q)) (fun q => id (bt_not q)) (bt_or q)) (fun q => And.imp of_decide_eq_true (fun q => of_decide_eq_false (bt_not q)) (bt_and q)) (bt_or q)) h2b
   refine jc_seq (jc_region (jo_pure rfl (pr_build [] [str ([]), str ([]), .slice none 0 0] (fun a hf => by simp) (by kernel_rfl)) ?_))
   refine j_pull1 (jo_store rfl rfl ty_118 [str ([]), str ([]), .slice none 0 0] rfl rfl rfl [str ([]), str ([]), .slice none 0 0] rfl rfl ?_)
   refine jo_pure rfl (pr_assign rfl) (jo_nil (jq_then (jc_ret (jq_then_ret (j_nil_row 121 (.pair .str .str) ?_)))))
   refine j_pull2 (j_drop (j_pull1 (j_pull1 ?_)))
   exact jq_rets (rs := [.cell 2 118, .tmp 3]) (vs := [.agg #[str ([]), str ([]), .slice none 0 0], .bool (false)]) rfl (.slice none 0 0) ⟨resV_box (.agg #[str ([]), str ([]), .slice none 0 0]) rfl ty_118 (.tail _ (.head _)) rfl (by decide) rfl, resV_tmp rfl, trivial⟩ rfl (show (.tuple #[.agg #[str ((parseR s).1.1), str ((parseR s).1.2.1), (.slice none 0 0)], .bool ((parseR s).2)] : Value) = (.tuple #[.agg #[str ([]), str ([]), .slice none 0 0], .bool (false)]) from by rw [parseR_no (.inr (by rw [okRange_eq, h2b]; rfl))]) (fun w h => (fun h => by rw [parseR_no (.inr (by rw [okRange_eq, h2b]; rfl))]; exact h) (Mem.front (As := [.row (.slice none 0 0) 121 (.pair .str .str) ([])]) h))
  ·have h2 := (fun q => And.imp (fun q => And.imp (fun q => id (bf_not q)) (fun q => id (bf_not q)) (bf_or q)) (fun q => Or.imp of_decide_eq_false (fun q => of_decide_eq_true (bf_not q)) (bf_and q)) (bf_or q)) h2b
   refine jc_skip (jq_then (jc_seq (jc_region (jo_pure rfl (pr_move rfl) ?_))))
   refine jo_callp cal_69 (c_ascii_Lower (((parseP s).1).take (pos ((parseP s).1) 47)) (by first | omega | rfl | (have := parseP_len1 s; omega) | (have := parseP_len1 s; simp only [List.length_take, List.length_drop]; omega))) ⟨rfl, trivial⟩ rfl (trivial) (fun _ => ?_)
   refine jo_pure rfl (pr_move rfl) ?_
   refine jo_callp cal_69 (c_ascii_Lower (((parseP s).1).drop (pos ((parseP s).1) 47 + 1)) (by first | omega | rfl | (have := parseP_len1 s; omega) | (have := parseP_len1 s; simp only [List.length_take, List.length_drop]; omega))) ⟨rfl, trivial⟩ rfl (trivial) (fun _ => ?_)
   refine jo_pure rfl (pr_move rfl) (jo_pure rfl (pr_buildV [(0, str (lower (((parseP s).1).take (pos ((parseP s).1) 47)))), (1, str (lower (((parseP s).1).drop (pos ((parseP s).1) 47 + 1)))), (2, r1)] [str (lower (((parseP s).1).take (pos ((parseP s).1) 47))), str (lower (((parseP s).1).drop (pos ((parseP s).1) 47 + 1))), r1] (fun a hf => by simp only [List.map_toArray, List.map_cons, List.map_nil, hf.ev (show ev _ (.tmp 43) = some (str (lower (((parseP s).1).take (pos ((parseP s).1) 47)))) from rfl), hf.ev (show ev _ (.tmp 45) = some (str (lower (((parseP s).1).drop (pos ((parseP s).1) 47 + 1)))) from rfl), hf.ev (show ev _ (.tmp 46) = some (r1) from rfl)]) (fun w I m hs => by obtain ⟨_, _, _, e0⟩ := row_slice (.head _) hs; rw [e0]; kernel_rfl)) ?_)
   refine j_pull1 (jo_storeV rfl rfl ty_118 [str (lower (((parseP s).1).take (pos ((parseP s).1) 47))), str (lower (((parseP s).1).drop (pos ((parseP s).1) 47 + 1))), r1] (fun _ _ _ _ => rfl) rfl (fun w I m hs => by simp only [List.all_cons, List.all_nil, Bool.and_true, Bool.and_eq_true]; exact ⟨rfl, rfl, (SliceV.one (row_slice (.tail _ (.head _)) hs))⟩) [str (lower (((parseP s).1).take (pos ((parseP s).1) 47))), str (lower (((parseP s).1).drop (pos ((parseP s).1) 47 + 1))), r1] rfl rfl ?_)
   refine jo_pure rfl (pr_assign rfl) (jo_nil (jq_then (jc_ret (j_pull1 ?_))))
   exact jq_rets (rs := [.cell 2 118, .tmp 3]) (vs := [.agg #[str (lower (((parseP s).1).take (pos ((parseP s).1) 47))), str (lower (((parseP s).1).drop (pos ((parseP s).1) 47 + 1))), r1], .bool (true)]) rfl r1 ⟨resV_box (.agg #[str (lower (((parseP s).1).take (pos ((parseP s).1) 47))), str (lower (((parseP s).1).drop (pos ((parseP s).1) 47 + 1))), r1]) rfl ty_118 (.tail _ (.head _)) rfl (by decide) rfl, resV_tmp rfl, trivial⟩ rfl (show (.tuple #[.agg #[str ((parseR s).1.1), str ((parseR s).1.2.1), r1], .bool ((parseR s).2)] : Value) = (.tuple #[.agg #[str (lower (((parseP s).1).take (pos ((parseP s).1) 47))), str (lower (((parseP s).1).drop (pos ((parseP s).1) 47 + 1))), r1], .bool (true)]) from by rw [parseR_yes h1 (by rw [okRange_eq, h2b]; rfl)]) (fun w h => (fun h => by rw [parseR_yes h1 (by rw [okRange_eq, h2b]; rfl)]; exact h) (Mem.front (As := [.row (r1) 121 (.pair .str .str) ((parseP s).2.1)]) h))

theorem c_mediatype_Parse (s : Str) (hs : s.length ≤ 1000000) : Con Tryz.prog 140 #[str (s)] [] (fun r1 : Value => .tuple #[.agg #[str ((parseT s).1.1), str ((parseT s).1.2.1), r1], .bool ((parseT s).2)]) (fun r1 => [.row r1 121 (.pair .str .str) ((parseT s).1.2.2)]) := by
 refine con_of_J (args := [str (s)]) (n := 25) Tryz.func140 rfl (Nat.le_of_ble_eq_true rfl) rfl (fun w0 I0 m0 => ?_)
 refine jc_seq (jc_region ?_)
 refine jo_alloc ty_118 [str ([]), str ([]), .slice none 0 0] rfl rfl (fun b1 => ?_)
 refine jo_pure rfl (pr_assign rfl) (jo_nil (jq_then (jc_seq (jc_region (jo_pure rfl (pr_move rfl) ?_)))))
 refine jo_callp cal_143 (c_mediatype_ParseRange s (by first | omega | rfl | (have := parseP_len1 s; omega) | (have := parseP_len1 s; simp only [List.length_take, List.length_drop]; omega))) ⟨rfl, trivial⟩ rfl (trivial) (fun r1 => ?_)
 refine jo_pure rfl (pr_move rfl) (jo_pure rfl (pr_extract rfl rfl) (jo_pure rfl (pr_extract rfl rfl) ?_))
 refine jo_alloc ty_118 [str ([]), str ([]), .slice none 0 0] rfl rfl (fun b2 => ?_)
 refine jo_storeV rfl rfl ty_118 [str ((parseR s).1.1), str ((parseR s).1.2.1), r1] (fun _ _ _ _ => rfl) rfl (fun w I m hs => by simp only [List.all_cons, List.all_nil, Bool.and_true, Bool.and_eq_true]; exact ⟨rfl, rfl, (SliceV.one (row_slice (.tail _ (.head _)) hs))⟩) [str ((parseR s).1.1), str ((parseR s).1.2.1), r1] rfl rfl ?_
 refine jo_pure rfl (pr_assign rfl) (jo_nil (jq_then (jc_seq (jc_seq (jc_region (jo_pure rfl (pr_move rfl) (jo_pure rfl (pr_not rfl) (jo_pure rfl (pr_move rfl) (jo_gpure (j := 2) (want := false) rfl rfl rfl rfl (fun hg=>pr_fieldAddr 0 rfl Tryz.underlying118 rfl ty_9 rfl rfl) ?_)))))))))
 refine jo_gpure (j := 2) (want := false) rfl rfl rfl rfl (fun hg=>pr_load_box (str ((parseR s).1.1)) (evg rfl hg) ty_9 (.head _) rfl (by decide) rfl) ?_
 refine jo_gpure (j := 2) (want := false) rfl rfl rfl rfl (fun hg=>pr_seql (evg rfl hg) rfl) ?_
 refine jo_pure rfl (pr_pick_or rfl rfl rfl) ?_
 refine jo_pure rfl (pr_move rfl) (jo_gpure (j := 7) (want := false) rfl rfl rfl rfl (fun hg=>pr_fieldAddr 1 rfl Tryz.underlying118 rfl ty_9 rfl rfl) ?_)
 refine jo_gpure (j := 7) (want := false) rfl rfl rfl rfl (fun hg=>pr_load_box (str ((parseR s).1.2.1)) (evg rfl hg) ty_9 (.head _) rfl (by decide) rfl) ?_
 refine jo_gpure (j := 7) (want := false) rfl rfl rfl rfl (fun hg=>pr_seql (evg rfl hg) rfl) ?_
 refine jo_pure rfl (pr_pick_or rfl rfl rfl) ?_
 refine jo_nil (jq_then ?_)
 refine jc_cond rfl (fun h1b => ?_) (fun h1b => ?_)
 ·have h1 := (fun q => Or.imp (fun q => Or.imp (fun q => id (bt_not q)) of_decide_eq_true (bt_or q)) of_decide_eq_true (bt_or q)) h1b
  refine jc_seq (jc_region (jo_pure rfl (pr_build [] [str ([]), str ([]), .slice none 0 0] (fun a hf => by simp) (by kernel_rfl)) ?_))
  refine j_pull2 (jo_store rfl rfl ty_118 [str ([]), str ([]), .slice none 0 0] rfl rfl rfl [str ([]), str ([]), .slice none 0 0] rfl rfl ?_)
  refine jo_pure rfl (pr_assign rfl) (jo_nil (jq_then (jc_ret (jq_then_ret (j_nil_row 121 (.pair .str .str) ?_)))))
  refine j_pull2 (j_drop (j_pull2 (j_drop (j_pull1 (j_pull1 ?_)))))
  exact jq_rets (rs := [.cell 2 118, .tmp 3]) (vs := [.agg #[str ([]), str ([]), .slice none 0 0], .bool (false)]) rfl (.slice none 0 0) ⟨resV_box (.agg #[str ([]), str ([]), .slice none 0 0]) rfl ty_118 (.tail _ (.head _)) rfl (by decide) rfl, resV_tmp rfl, trivial⟩ rfl (show (.tuple #[.agg #[str ((parseT s).1.1), str ((parseT s).1.2.1), (.slice none 0 0)], .bool ((parseT s).2)] : Value) = (.tuple #[.agg #[str ([]), str ([]), .slice none 0 0], .bool (false)]) from by rw [parseT_no (s := s) h1b]) (fun w h => (fun h => by rw [parseT_no (s := s) h1b]; exact h) (Mem.front (As := [.row (.slice none 0 0) 121 (.pair .str .str) ([])]) h))
 ·have h1 := (fun q => And.imp (fun q => And.imp (fun q => id (bf_not q)) of_decide_eq_false (bf_or q)) of_decide_eq_false (bf_or q)) h1b
  refine jc_skip (jq_then (jc_seq (jc_region (jo_pure rfl (pr_load_box (.agg #[str ((parseR s).1.1), str ((parseR s).1.2.1), r1]) rfl ty_118 (.head _) rfl (by decide) rfl) ?_))))
  refine j_pull2 (jo_storeV rfl rfl ty_118 [str ((parseR s).1.1), str ((parseR s).1.2.1), r1] (fun _ _ _ _ => rfl) rfl (fun w I m hs => by simp only [List.all_cons, List.all_nil, Bool.and_true, Bool.and_eq_true]; exact ⟨rfl, rfl, (SliceV.one (row_slice (.tail _ (.tail _ (.head _))) hs))⟩) [str ((parseR s).1.1), str ((parseR s).1.2.1), r1] rfl rfl ?_)
  refine jo_pure rfl (pr_assign rfl) (jo_nil (jq_then (jc_ret (j_pull1 (j_drop (j_pull1 ?_))))))
  exact jq_rets (rs := [.cell 2 118, .tmp 3]) (vs := [.agg #[str ((parseR s).1.1), str ((parseR s).1.2.1), r1], .bool (true)]) rfl r1 ⟨resV_box (.agg #[str ((parseR s).1.1), str ((parseR s).1.2.1), r1]) rfl ty_118 (.tail _ (.head _)) rfl (by decide) rfl, resV_tmp rfl, trivial⟩ rfl (show (.tuple #[.agg #[str ((parseT s).1.1), str ((parseT s).1.2.1), r1], .bool ((parseT s).2)] : Value) = (.tuple #[.agg #[str ((parseR s).1.1), str ((parseR s).1.2.1), r1], .bool (true)]) from by rw [(parseT_yes (s := s) h1b).1, (parseT_yes (s := s) h1b).2]) (fun w h => (fun h => by rw [(parseT_yes (s := s) h1b).1]; exact h) (Mem.front (As := [.row (r1) 121 (.pair .str .str) ((parseR s).1.2.2)]) h))

theorem c_coding_Canonical (kind : Int) (s : Str) (hs : s.length ≤ 1000000) : Con Tryz.prog 188 #[.int .i64 (kind), str (s)] [] (fun _ : Unit => str (canonical kind s)) (fun _ => []) := by
 refine con_of_J (args := [.int .i64 (kind), str (s)]) (n := 18) Tryz.func188 rfl (Nat.le_of_ble_eq_true rfl) rfl (fun w0 I0 m0 => ?_)
 refine jc_seq (jc_region (jo_pure rfl (pr_assign rfl) (jo_nil (jq_then (jc_seq (jc_region (jo_pure rfl (pr_move rfl) ?_)))))))
 refine jo_callp cal_69 (c_ascii_Lower s (by omega)) ⟨rfl, trivial⟩ rfl (trivial) (fun _ => ?_)
 refine jo_pure rfl (pr_assign rfl) (jo_nil (jq_then (jc_seq (jc_seq (jc_region (jo_pure rfl (pr_move rfl) (jo_pure rfl (pr_neq (n := 4) rfl rfl) ?_)))))))
 refine jo_nil (jq_then ?_)
 refine jc_cond rfl (fun h1b => ?_) (fun h1b => ?_)
 ·have h1 := (fun q => of_decide_eq_false (bt_not q)) h1b
  refine jc_seq (jc_region (jo_pure rfl (pr_move rfl) (jo_pure rfl (pr_assign rfl) (jo_nil (jq_then (jc_ret (jq_then_ret ?_)))))))
  exact jq_ret1 rfl () rfl (show (str (canonical kind s) : Value) = (str (lower s)) from by simp [canonical, sGzip, sXgzip, sCompress, sXcompress, *]) (fun _ h => h)
 ·have h1 := (fun q => of_decide_eq_true (bf_not q)) h1b
  refine jc_skip (jq_then (jc_seq (jc_seq (jc_region (jo_pure rfl (pr_move rfl) (jo_nil (jq_then (jc_block (jc_seq (jc_seq (jc_region (jo_pure rfl (pr_seql rfl rfl) (jo_pure rfl (pr_assign rfl) (jo_nil (jq_then ?_)))))))))))))))
  refine jc_cond rfl (fun h2b => ?_) (fun h2b => ?_)
  ·have h2 := of_decide_eq_true h2b
   refine jc_skip (jq_then (jc_true rfl (h2b) ?_))
   refine jc_seq (jc_region (jo_pure rfl (pr_assign rfl) (jo_nil (jq_then (jc_ret (jq_in_ret ?_))))))
   refine jq_then_ret ?_
   exact jq_ret1 rfl () rfl (show (str (canonical kind s) : Value) = (str ([103, 122, 105, 112])) from by simp [canonical, sGzip, sXgzip, sCompress, sXcompress, *]) (fun _ h => h)
  ·have h2 := of_decide_eq_false h2b
   refine jc_region (jo_pure rfl (pr_seql rfl rfl) (jo_pure rfl (pr_assign rfl) (jo_nil (jq_then ?_))))
   refine jc_cond rfl (fun h3b => ?_) (fun h3b => ?_)
   ·have h3 := of_decide_eq_true h3b
    refine jc_seq (jc_region (jo_pure rfl (pr_assign rfl) (jo_nil (jq_then (jc_ret (jq_in_ret ?_))))))
    refine jq_then_ret ?_
    exact jq_ret1 rfl () rfl (show (str (canonical kind s) : Value) = (str ([103, 122, 105, 112])) from by simp [canonical, sGzip, sXgzip, sCompress, sXcompress, *]) (fun _ h => h)
   ·have h3 := of_decide_eq_false h3b
    refine jc_seq (jc_seq (jc_region (jo_pure rfl (pr_seql rfl rfl) (jo_pure rfl (pr_assign rfl) (jo_nil (jq_then ?_))))))
    refine jc_cond rfl (fun h4b => ?_) (fun h4b => ?_)
    ·have h4 := of_decide_eq_true h4b
     refine jc_skip (jq_then (jc_true rfl (h4b) ?_))
     refine jc_seq (jc_region (jo_pure rfl (pr_assign rfl) (jo_nil (jq_then (jc_ret (jq_in_ret ?_))))))
     refine jq_then_ret ?_
     exact jq_ret1 rfl () rfl (show (str (canonical kind s) : Value) = (str ([99, 111, 109, 112, 114, 101, 115, 115])) from by simp [canonical, sGzip, sXgzip, sCompress, sXcompress, *]) (fun _ h => h)
    ·have h4 := of_decide_eq_false h4b
     refine jc_region (jo_pure rfl (pr_seql rfl rfl) (jo_pure rfl (pr_assign rfl) (jo_nil (jq_then ?_))))
     refine jc_cond rfl (fun h5b => ?_) (fun h5b => ?_)
     ·have h5 := of_decide_eq_true h5b
      refine jc_seq (jc_region (jo_pure rfl (pr_assign rfl) (jo_nil (jq_then (jc_ret (jq_in_ret ?_))))))
      refine jq_then_ret ?_
      exact jq_ret1 rfl () rfl (show (str (canonical kind s) : Value) = (str ([99, 111, 109, 112, 114, 101, 115, 115])) from by simp [canonical, sGzip, sXgzip, sCompress, sXcompress, *]) (fun _ h => h)
     ·have h5 := of_decide_eq_false h5b
      refine jc_skip (jq_in_normal (jq_then (jc_seq (jc_region (jo_pure rfl (pr_move rfl) (jo_pure rfl (pr_assign rfl) (jo_nil (jq_then (jc_ret ?_)))))))))
      exact jq_ret1 rfl () rfl (show (str (canonical kind s) : Value) = (str (lower s)) from by simp [canonical, sGzip, sXgzip, sCompress, sXcompress, *]) (fun _ h => h)

theorem c_strings_Index (s : Str) (sep : Str) (c : UInt8) (hsep : sep = [c]) (hs : s.length ≤ 1000000) : Con Tryz.prog 184 #[str (s), str (sep)] [] (fun _ : Unit => .int .i64 (idx s c)) (fun _ => []) := by
 refine con_of_J (args := [str (s), str (sep)]) (n := 8) Tryz.func184 rfl (Nat.le_of_ble_eq_true rfl) rfl (fun w0 I0 m0 => ?_)
 refine jc_seq (jc_region (jo_pure rfl (pr_assign rfl) (jo_nil (jq_then (jc_seq (jc_region (jo_pure rfl (pr_move rfl) (jo_pure rfl (pr_move rfl) ?_))))))))
 refine jo_callp cal_153 (c_internal_stringslite_Index s sep c (by first | omega | exact hsep | rfl) (by first | omega | exact hsep | rfl)) ⟨rfl, rfl, trivial⟩ rfl (trivial) (fun _ => ?_)
 refine jo_pure rfl (pr_assign rfl) (jo_nil (jq_then (jc_ret ?_)))
 exact jq_ret1 rfl () rfl (show (.int .i64 (idx s c) : Value) = (.int .i64 (idx s c)) from rfl) (fun _ h => h)

theorem c_strings_Count (s : Str) (sep : Str) (c : UInt8) (hsep : sep = [c]) (hs : s.length ≤ 1000000) : Con Tryz.prog 183 #[str (s), str (sep)] [] (fun _ : Unit => .int .i64 ((List.count c s : Nat) : Int)) (fun _ => []) := by
 refine con_of_J (args := [str (s), str (sep)]) (n := 34) Tryz.func183 rfl (Nat.le_of_ble_eq_true rfl) rfl (fun w0 I0 m0 => ?_)
 refine jc_seq (jc_region (jo_pure rfl (pr_assign rfl) (jo_nil (jq_then (jc_seq (jc_seq (jc_region (jo_pure rfl (pr_move rfl) (jo_pure rfl (pr_slen rfl Tryz.underlying9) ?_)))))))))
 refine jo_pure rfl (pr_eqlN (m := sep.length) (n := 0) rfl rfl) ?_
 refine jo_nil (jq_then ?_)
 refine jc_cond rfl (fun h1b => ?_) (fun h1b => ?_)
 ·have h1 := of_decide_eq_true h1b
  exact absurd h1 (by rw [hsep]; simp)
 ·have h1 := of_decide_eq_false h1b
  have hl : sep.length = 1 := by rw [hsep]; rfl
  refine jc_skip (jq_then (jc_seq (jc_seq (jc_region (jo_pure rfl (pr_move rfl) (jo_pure rfl (pr_slen rfl Tryz.underlying9) ?_))))))
  refine jo_pure rfl (pr_eqlN (m := sep.length) (n := 1) rfl rfl) ?_
  refine jo_nil (jq_then ?_)
  refine jc_cond rfl (fun h2b => ?_) (fun h2b => ?_)
  ·have h2 := of_decide_eq_true h2b
   refine jc_seq (jc_region (jo_pure rfl (pr_move rfl) (jo_pure rfl (pr_move rfl) (jo_pure rfl (pr_sindex (i := 0) rfl rfl Tryz.underlying9 (by rw [hsep]; exact Nat.one_pos)) ?_))))
   refine jo_pure rfl (pr_ext (vs := [str (s), byte (sep.getD 0 0)]) Tryz.func186 (by kernel_rfl) rfl (by kernel_rfl) (by kernel_rfl) ⟨rfl, rfl, trivial⟩ (fun w => run_count s (sep.getD 0 0) w)) ?_
   refine jo_pure rfl (pr_assign rfl) (jo_nil (jq_then (jc_ret (jq_then_ret ?_))))
   exact jq_ret1 rfl () rfl (show (.int .i64 ((List.count c s : Nat) : Int) : Value) = (.int .i64 ((List.count (sep.getD 0 0) s : Nat) : Int)) from by rw [hsep]; rfl) (fun _ h => h)
  ·have h2 := of_decide_eq_false h2b
   exact absurd hl h2

theorem c_strings_genSplit (s : Str) (sep : Str) (ss : Nat) (n : Int) (c : UInt8) (hsep : sep = [c]) (hs : s.length ≤ 1000000) (hss : ss = 0) (hn : n = -1) : Con Tryz.prog 181 #[str (s), str (sep), .int .i64 ((ss : Nat) : Int), .int .i64 (n)] [] (fun r1 : Value => r1) (fun r1 => [.row r1 9 .str (cutAt c [] s)]) := by
 refine con_of_J (args := [str (s), str (sep), .int .i64 ((ss : Nat) : Int), .int .i64 (n)]) (n := 66) Tryz.func181 rfl (Nat.le_of_ble_eq_true rfl) rfl (fun w0 I0 m0 => ?_)
 refine jc_seq (jc_region (jo_pure rfl (pr_assign rfl) (jo_nil (jq_then (jc_seq (jc_seq (jc_region (jo_pure rfl (pr_move rfl) (jo_pure rfl (pr_eql (n := 0) rfl rfl) ?_)))))))))
 refine jo_nil (jq_then ?_)
 refine jc_cond rfl (fun h1b => ?_) (fun h1b => ?_)
 ·have h1 := of_decide_eq_true h1b
  exact absurd h1 (by omega)
 ·have h1 := of_decide_eq_false h1b
  refine jc_skip (jq_then (jc_seq (jc_seq (jc_region (jo_pure rfl (pr_move rfl) (jo_pure rfl (pr_seql rfl rfl) (jo_nil (jq_then ?_))))))))
  refine jc_cond rfl (fun h2b => ?_) (fun h2b => ?_)
  ·have h2 := of_decide_eq_true h2b
   exact absurd h2 (by rw [hsep]; simp)
  ·have h2 := of_decide_eq_false h2b
   refine jc_skip (jq_then (jc_seq (jc_seq (jc_region (jo_pure rfl (pr_move rfl) (jo_pure rfl (pr_lss (n := 0) rfl rfl) ?_))))))
   refine jo_nil (jq_then ?_)
   refine jc_cond rfl (fun h3b => ?_) (fun h3b => ?_)
   ·have h3 := of_decide_eq_true h3b
    have hN : min (List.count c s + 1) (s.length + 1) = List.count c s + 1 := by have := count_len c s; omega
    have hcl := count_len c s
    have hl : sep.length = 1 := by rw [hsep]; rfl
    refine jc_region (jo_pure rfl (pr_move rfl) (jo_pure rfl (pr_move rfl) ?_))
    refine jo_callp cal_183 (c_strings_Count s sep c (by first | omega | exact hsep | rfl) (by first | omega | exact hsep | rfl)) ⟨rfl, rfl, trivial⟩ rfl (trivial) (fun _ => ?_)
    refine jo_pure rfl (pr_addN (m := List.count c s) (n := 1) rfl rfl (by omega)) ?_
    refine jo_pure rfl (pr_assign rfl) (jo_nil (jq_then (jc_seq (jc_region (jo_pure rfl (pr_move rfl) (jo_pure rfl (pr_move rfl) (jo_pure rfl (pr_slen rfl Tryz.underlying9) ?_)))))))
    refine jo_pure rfl (pr_addN (m := s.length) (n := 1) rfl rfl (by omega)) ?_
    refine jo_pure rfl (pr_minN (m := (List.count c s) + 1) (n := s.length + 1) rfl rfl) ?_
    refine jo_pure rfl (pr_assign rfl) (jo_nil (jq_then (jc_seq (jc_region (jo_pure rfl (pr_move rfl) ?_)))))
    refine jo_makeSlice (n := min ((List.count c s) + 1) (s.length + 1)) (t := .str) [] rfl Tryz.underlying28 ty_9 rfl rfl (by simp only [maxLen]; omega) (by omega) rfl (fun g1 => ?_)
    refine jo_pure rfl (pr_assign rfl) (jo_nil (jq_then (jc_seq (jc_region (jo_pure rfl (pr_move rfl) (jo_pure rfl (pr_subN (m := min ((List.count c s) + 1) (s.length + 1)) (n := 1) rfl rfl (by omega) (by omega)) ?_))))))
    refine jo_pure rfl (pr_assign rfl) (jo_nil (jq_then (jc_seq (jc_region (jo_pure rfl (pr_assign rfl) (jo_nil (jq_then (jc_seq (jc_block ?_)))))))))
    refine jc_loop3 (fun (i : Nat) (t : Str) (xs : List Str) => [(0, str (t)), (1, str (sep)), (2, .int .i64 ((ss : Nat) : Int)), (3, .int .i64 (((min ((List.count c s) + 1) (s.length + 1)) - 1 : Nat) : Int)), (9, .slice (some ⟨g1, 0, none⟩) (min ((List.count c s) + 1) (s.length + 1)) (min ((List.count c s) + 1) (s.length + 1))), (10, .int .i64 ((i : Nat) : Int))]) (fun (i : Nat) (t : Str) (xs : List Str) => [.rowg g1 (min ((List.count c s) + 1) (s.length + 1)) 9 .str (xs)]) (fun (i : Nat) (t : Str) (xs : List Str) => i + List.count c t = List.count c s ∧ xs.length = List.count c s + 1 ∧ t.length ≤ s.length ∧ xs.take i ++ cutAt c [] t = cutAt c [] s) (fun (i : Nat) (t : Str) (xs : List Str) => List.count c s - i) 0 s (List.replicate (min ((List.count c s) + 1) (s.length + 1)) []) (⟨by omega, by rw [List.length_replicate]; omega, Nat.le_refl _, rfl⟩) (⟨rfl, rfl, rfl, rfl, rfl, rfl, trivial⟩) (fun _ h => h) (fun i t xs hinv => ?_)
    refine jc_seq (jc_seq (jc_region (jo_pure rfl (pr_move rfl) (jo_pure rfl (pr_move rfl) (jo_pure rfl (pr_lssN (m := i) (n := (min ((List.count c s) + 1) (s.length + 1)) - 1) rfl rfl) ?_)))))
    refine jo_nil (jq_then ?_)
    refine jc_cond rfl (fun h4b => ?_) (fun h4b => ?_)
    ·have h4 := of_decide_eq_true h4b
     refine jc_skip (jq_then (jc_block (jc_seq (jc_region (jo_pure rfl (pr_move rfl) (jo_pure rfl (pr_move rfl) ?_))))))
     refine jo_callp cal_184 (c_strings_Index t sep c (by first | omega | exact hsep | rfl) (by first | omega | exact hsep | rfl)) ⟨rfl, rfl, trivial⟩ rfl (trivial) (fun _ => ?_)
     refine jo_pure rfl (pr_assign rfl) (jo_nil (jq_then (jc_seq (jc_seq (jc_region (jo_pure rfl (pr_move rfl) (jo_pure rfl (pr_lss (n := 0) rfl rfl) ?_)))))))
     refine jo_nil (jq_then ?_)
     refine jc_cond rfl (fun h5b => ?_) (fun h5b => ?_)
     ·have h5 := of_decide_eq_true h5b
      have hp := idx_neg h5
      refine jc_exit ?_
      refine jq_then_exit ?_
      refine jq_in_miss rfl ?_
      refine jq_then_exit ?_
      refine jq_in_hit ?_
      refine jq_then (jc_seq (jc_region (jo_pure rfl (pr_move rfl) (jo_pure rfl (pr_move rfl) (jo_pure rfl (pr_move rfl) (jo_pure rfl (pr_idx (i := i) (i) rfl rfl Tryz.underlying28 ty_9 (by omega) (by first | rfl | (simp only [Nat.zero_add, Nat.mul_one]))) ?_))))))
      refine jo_store_g (i := i) (t) rfl rfl ty_9 rfl (by omega) (by first | rfl | exact Nat.mul_one _) rfl ?_
      refine jo_nil (jq_then (jc_seq (jc_region (jo_pure rfl (pr_move rfl) (jo_pure rfl (pr_move rfl) (jo_pure rfl (pr_addN (m := i) (n := 1) rfl rfl (by omega)) ?_))))))
      refine jo_slice_own (h := i + 1) rfl rfl Tryz.underlying28 ty_9 (by omega) (by simp only [List.length_set]; omega) rfl ?_
      refine jo_pure rfl (pr_assign rfl) (jo_nil (jq_then (jc_ret (j_row_of_rowg ?_))))
      exact jq_ret1 rfl (.slice (some ⟨g1, 0, none⟩) ((xs.set i t).take (i + 1)).length (min ((List.count c s) + 1) (s.length + 1))) rfl (show (.slice (some ⟨g1, 0, none⟩) ((xs.set i t).take (i + 1)).length (min ((List.count c s) + 1) (s.length + 1)) : Value) = (.slice (some ⟨g1, 0, none⟩) ((xs.set i t).take (i + 1)).length (min ((List.count c s) + 1) (s.length + 1))) from rfl) (fun _ h => by rw [← gs_end (by omega) hp hinv.2.2.2]; exact h)
     ·have h5 := of_decide_eq_false h5b
      have hp := (idx_nonneg (s := t) (c := c) (by omega)).2
      rw [show (idx t c : Int) = ((pos t c : Nat) : Int) from (idx_nonneg (s := t) (c := c) (by omega)).1]
      refine jc_skip (jq_then (jc_seq (jc_region (jo_pure rfl (pr_move rfl) (jo_pure rfl (pr_move rfl) (jo_pure rfl (pr_move rfl) (jo_pure rfl (pr_move rfl) (jo_pure rfl (pr_move rfl) (jo_pure rfl (pr_addN (m := pos t c) (n := ss) rfl rfl (by omega)) ?_)))))))))
      refine jo_pure rfl (pr_sslice_hi (j := (pos t c) + ss) rfl rfl Tryz.underlying9 (by omega)) ?_
      refine jo_pure rfl (pr_idx (i := i) (i) rfl rfl Tryz.underlying28 ty_9 (by omega) (by first | rfl | (simp only [Nat.zero_add, Nat.mul_one]))) ?_
      refine jo_store_g (i := i) (t.take ((pos t c) + ss)) rfl rfl ty_9 rfl (by omega) (by first | rfl | exact Nat.mul_one _) rfl ?_
      refine jo_nil (jq_then (jc_seq (jc_region (jo_pure rfl (pr_move rfl) (jo_pure rfl (pr_move rfl) (jo_pure rfl (pr_move rfl) (jo_pure rfl (pr_slen rfl Tryz.underlying9) ?_)))))))
      refine jo_pure rfl (pr_addN (m := pos t c) (n := sep.length) rfl rfl (by omega)) ?_
      refine jo_pure rfl (pr_sslice_lo (i := (pos t c) + sep.length) rfl rfl Tryz.underlying9 (by omega)) ?_
      refine jo_pure rfl (pr_assign rfl) (jo_nil (jq_then (jc_region (jo_pure rfl (pr_move rfl) (jo_pure rfl (pr_addN (m := i) (n := 1) rfl rfl (by omega)) ?_)))))
      refine jo_pure rfl (pr_assign rfl) (jo_nil (jq_in_normal ?_))
      refine jq_round' ((i + 1), (t.drop ((pos t c) + sep.length)), (xs.set i (t.take ((pos t c) + ss)))) (by (try dsimp only); exact (⟨by rw [hl]; have := count_some hp; omega, by simp only [List.length_set]; omega, by simp only [List.length_drop]; omega, by rw [hl, hss, Nat.add_zero]; exact gs_go (by omega) hp hinv.2.2.2⟩)) (by (try dsimp only); exact (by have := count_some hp; omega)) ⟨rfl, rfl, rfl, rfl, rfl, rfl, trivial⟩ (fun _ h => h)
    ·have h4 := of_decide_eq_false h4b
     have hp : ¬ pos t c < t.length := fun q => by have := count_some q; omega
     refine jc_exit ?_
     refine jq_then_exit ?_
     refine jq_then_exit ?_
     refine jq_in_hit ?_
     refine jq_then (jc_seq (jc_region (jo_pure rfl (pr_move rfl) (jo_pure rfl (pr_move rfl) (jo_pure rfl (pr_move rfl) (jo_pure rfl (pr_idx (i := i) (i) rfl rfl Tryz.underlying28 ty_9 (by omega) (by first | rfl | (simp only [Nat.zero_add, Nat.mul_one]))) ?_))))))
     refine jo_store_g (i := i) (t) rfl rfl ty_9 rfl (by omega) (by first | rfl | exact Nat.mul_one _) rfl ?_
     refine jo_nil (jq_then (jc_seq (jc_region (jo_pure rfl (pr_move rfl) (jo_pure rfl (pr_move rfl) (jo_pure rfl (pr_addN (m := i) (n := 1) rfl rfl (by omega)) ?_))))))
     refine jo_slice_own (h := i + 1) rfl rfl Tryz.underlying28 ty_9 (by omega) (by simp only [List.length_set]; omega) rfl ?_
     refine jo_pure rfl (pr_assign rfl) (jo_nil (jq_then (jc_ret (j_row_of_rowg ?_))))
     exact jq_ret1 rfl (.slice (some ⟨g1, 0, none⟩) ((xs.set i t).take (i + 1)).length (min ((List.count c s) + 1) (s.length + 1))) rfl (show (.slice (some ⟨g1, 0, none⟩) ((xs.set i t).take (i + 1)).length (min ((List.count c s) + 1) (s.length + 1)) : Value) = (.slice (some ⟨g1, 0, none⟩) ((xs.set i t).take (i + 1)).length (min ((List.count c s) + 1) (s.length + 1))) from rfl) (fun _ h => by rw [← gs_end (by omega) hp hinv.2.2.2]; exact h)
   ·have h3 := of_decide_eq_false h3b
    exact absurd h3 (by omega)

theorem c_strings_Split (s : Str) (sep : Str) (c : UInt8) (hsep : sep = [c]) (hs : s.length ≤ 1000000) : Con Tryz.prog 179 #[str (s), str (sep)] [] (fun r1 : Value => r1) (fun r1 => [.row r1 9 .str (cutAt c [] s)]) := by
 refine con_of_J (args := [str (s), str (sep)]) (n := 8) Tryz.func179 rfl (Nat.le_of_ble_eq_true rfl) rfl (fun w0 I0 m0 => ?_)
 refine jc_seq (jc_region (jo_pure rfl (pr_assign rfl) (jo_nil (jq_then (jc_seq (jc_region (jo_pure rfl (pr_move rfl) (jo_pure rfl (pr_move rfl) ?_))))))))
 refine jo_callp cal_181 (c_strings_genSplit s sep 0 (-1) c (by first | omega | exact hsep | rfl) (by first | omega | exact hsep | rfl) (by first | omega | exact hsep | rfl) (by first | omega | exact hsep | rfl)) ⟨rfl, rfl, rfl, rfl, trivial⟩ rfl (trivial) (fun r1 => ?_)
 refine jo_pure rfl (pr_assign rfl) (jo_nil (jq_then (jc_ret ?_)))
 exact jq_ret1 rfl r1 rfl (show (r1 : Value) = (r1) from rfl) (fun _ h => h)

theorem c_language_subtag (s : Str) (d : Bool) (hs : s.length ≤ 1000000) : Con Tryz.prog 180 #[str (s), .bool (d)] [] (fun _ : Unit => .bool (subOk d s)) (fun _ => []) := by
 refine con_of_J (args := [str (s), .bool (d)]) (n := 41) Tryz.func180 rfl (Nat.le_of_ble_eq_true rfl) rfl (fun w0 I0 m0 => ?_)
 refine jc_seq (jc_region (jo_pure rfl (pr_assign rfl) (jo_nil (jq_then (jc_seq (jc_seq (jc_region (jo_pure rfl (pr_move rfl) ?_))))))))
 refine jo_callp cal_69 (c_ascii_Lower s (by omega)) ⟨rfl, trivial⟩ rfl (trivial) (fun _ => ?_)
 refine jo_s2b rfl Tryz.underlying9 Tryz.underlying103 Tryz.underlying5 rfl (by rw [lower_length]; omega) (fun g1 cap1 => ?_)
 refine jo_pure rfl (pr_len rfl Tryz.underlying103) ?_
 refine jo_pure rfl (pr_move rfl) (jo_nil (jq_then (jc_block ?_)))
 refine jc_loop (fun (i : Nat) => [(0, str (s)), (1, .bool (d)), (9, .slice (some ⟨g1, 0, none⟩) ((lower s).length) (cap1)), (10, .int .i64 (((lower s).length : Nat) : Int)), (11, .int .i64 ((i : Nat) : Int))]) (fun (i : Nat) => [.rowm g1 (cap1) 5 .u8 (lower s)]) (fun (i : Nat) => i ≤ (lower s).length ∧ ((lower s).take i).all (lowOk d) = true) (fun (i : Nat) => (lower s).length - i) 0 (⟨Nat.zero_le _, rfl⟩) (⟨rfl, rfl, rfl, rfl, rfl, trivial⟩) (fun _ h => h) (fun i hinv => ?_)
 refine jc_seq (jc_region (jo_pure rfl (pr_lssN (m := i) (n := (lower s).length) rfl rfl) ?_))
 refine jo_nil (jq_then (jc_seq ?_))
 refine jc_cond rfl (fun h1b => ?_) (fun h1b => ?_)
 ·have h1 := of_decide_eq_true h1b
  refine jc_skip (jq_then (jc_seq (jc_block (jc_seq (jc_region (jo_pure rfl (pr_idx (i := i) (i) rfl rfl Tryz.underlying103 ty_5 (by omega) (by first | rfl | (simp only [Nat.zero_add, Nat.mul_one]))) ?_))))))
  refine jo_pure rfl (pr_load_rowD (byte ((lower s).getD i 0)) true rfl ty_5 rfl rfl (.head _) (by omega) (by first | rfl | exact Nat.mul_one _) rfl) ?_
  refine jo_pure rfl (pr_assign rfl) (jo_nil (jq_then (jc_seq (jc_region (jo_pure rfl (pr_move rfl) (jo_pure rfl (pr_blss (n := 97) rfl rfl) ?_))))))
  refine jo_pure rfl (pr_move rfl) (jo_gpure (j := 2) (want := false) rfl rfl rfl rfl (fun hg=>pr_move rfl) (jo_gpure (j := 2) (want := false) rfl rfl rfl rfl (fun hg=>pr_bgtr (n := 122) (evg rfl hg) rfl) ?_))
  refine jo_pure rfl (pr_pick_or rfl rfl rfl) ?_
  refine jo_pure rfl (pr_move rfl) (jo_gpure (j := 6) (want := true) rfl rfl rfl rfl (fun hg=>pr_move rfl) (jo_gpure (j := 6) (want := true) rfl rfl rfl rfl (fun hg=>pr_not (evg rfl hg)) (jo_gpure (j := 6) (want := true) rfl rfl rfl rfl (fun hg=>pr_move (evg rfl hg)) (jo_gpure2 (j := 9) (want := false) rfl rfl rfl rfl (fun hg=>pr_move rfl) ?_))))
  refine jo_gpure2 (j := 9) (want := false) rfl rfl rfl rfl (fun hg=>pr_blss (n := 48) (evg rfl hg) rfl) ?_
  refine jo_gpure (j := 6) (want := true) rfl rfl rfl rfl (fun hg=>pr_pick_or (evg rfl hg) rfl (evg2 rfl hg)) ?_
  refine jo_gpure (j := 6) (want := true) rfl rfl rfl rfl (fun hg=>pr_move (evg rfl hg)) ?_
  refine jo_gpure2 (j := 13) (want := false) rfl rfl rfl rfl (fun hg=>pr_move rfl) ?_
  refine jo_gpure2 (j := 13) (want := false) rfl rfl rfl rfl (fun hg=>pr_bgtr (n := 57) (evg rfl hg) rfl) ?_
  refine jo_gpure (j := 6) (want := true) rfl rfl rfl rfl (fun hg=>pr_pick_or (evg rfl hg) rfl (evg2 rfl hg)) ?_
  refine jo_pure rfl (pr_pick_and rfl rfl rfl) ?_
  refine jo_nil (jq_then ?_)
  refine jc_cond rfl (fun h2b => ?_) (fun h2b => ?_)
  ·have h2 := (fun q => And.imp (fun q => Or.imp of_decide_eq_true of_decide_eq_true (bt_or q)) (fun q => Or.imp (fun q => Or.imp (fun q => id (bt_not q)) of_decide_eq_true (bt_or q)) of_decide_eq_true (bt_or q)) (bt_and q)) h2b
   refine jc_seq (jc_region (jo_pure rfl (pr_assign rfl) (jo_nil (jq_then (jc_ret (jq_in_ret ?_))))))
   refine jq_then_ret (jq_then_ret (jq_in_ret ?_))
   refine jq_then_ret (j_drop ?_)
   exact jq_ret1 rfl () rfl (show (.bool (subOk d s) : Value) = (.bool (false)) from congrArg Value.bool (by rw [sub_bad h1 (by have h9 := h2b; revert h9; unfold lowOk digB; cases d <;> simp <;> grind)])) (fun _ h => h)
  ·have h2 := (fun q => Or.imp (fun q => And.imp of_decide_eq_false of_decide_eq_false (bf_or q)) (fun q => And.imp (fun q => And.imp (fun q => id (bf_not q)) of_decide_eq_false (bf_or q)) of_decide_eq_false (bf_or q)) (bf_and q)) h2b
   refine jc_skip (jq_in_normal (jq_then (jc_region (jo_pure rfl (pr_addN (m := i) (n := 1) rfl rfl (by have := lower_length s; omega)) ?_))))
   refine jo_pure rfl (pr_move rfl) (jo_nil ?_)
   refine jq_round' (i + 1) (by (try dsimp only); exact (⟨by omega, all_step (dd := 0) h1 hinv.2 (by have h9 := h2b; simp only [lowOk, digB, Bool.and_eq_false_iff, Bool.or_eq_false_iff, decide_eq_false_iff_not] at h9; unfold lowOk digB; simp only [Bool.or_eq_true, Bool.and_eq_true, decide_eq_true_eq]; revert h9; cases d <;> simp <;> grind)⟩)) (by (try dsimp only); exact (by omega)) ⟨rfl, rfl, rfl, rfl, rfl, trivial⟩ (fun _ h => h)
 ·have h1 := of_decide_eq_false h1b
  refine jc_exit ?_
  refine jq_then_exit ?_
  refine jq_then_exit ?_
  refine jq_in_hit ?_
  refine jq_then (jc_seq (jc_region (jo_pure rfl (pr_move rfl) (jo_pure rfl (pr_sneq rfl rfl) (jo_pure rfl (pr_move rfl) (jo_gpure (j := 2) (want := true) rfl rfl rfl rfl (fun hg=>pr_move rfl) (jo_gpure (j := 2) (want := true) rfl rfl rfl rfl (fun hg=>pr_slen (evg rfl hg) Tryz.underlying9) ?_)))))))
  refine jo_gpure (j := 2) (want := true) rfl rfl rfl rfl (fun hg=>pr_leqN (m := s.length) (n := 8) (evg rfl hg) rfl) ?_
  refine jo_pure rfl (pr_pick_and rfl rfl rfl) ?_
  refine jo_pure rfl (pr_assign rfl) (jo_nil (jq_then (jc_ret (j_drop ?_))))
  exact jq_ret1 rfl () rfl (show (.bool (subOk d s) : Value) = (.bool (((!decide ((s : Str) = [])) && decide ((s.length : Nat) ≤ 8)))) from congrArg Value.bool (by rw [sub_end (by have := hinv.2; rwa [take_over (by omega)] at this)])) (fun _ h => h)

theorem c_language_Tag (s : Str) (hs : s.length ≤ 1000000) : Con Tryz.prog 178 #[str (s)] [] (fun _ : Unit => .bool (tagF s)) (fun _ => []) := by
 refine con_of_J (args := [str (s)]) (n := 19) Tryz.func178 rfl (Nat.le_of_ble_eq_true rfl) rfl (fun w0 I0 m0 => ?_)
 refine jc_seq (jc_region (jo_pure rfl (pr_assign rfl) (jo_nil (jq_then (jc_seq (jc_seq (jc_region (jo_pure rfl (pr_move rfl) ?_))))))))
 refine jo_callp cal_179 (c_strings_Split s [45] 45 (by first | omega | rfl | (have := getD_len (i := i) (subt_mem s); exact Nat.le_trans this hs)) (by first | omega | rfl | (have := getD_len (i := i) (subt_mem s); exact Nat.le_trans this hs))) ⟨rfl, rfl, trivial⟩ rfl (trivial) (fun r1 => ?_)
 refine jo_pure rfl (pr_len_row rfl (.head _) Tryz.underlying28) ?_
 refine jo_pure rfl (pr_move rfl) (jo_nil (jq_then (jc_block ?_)))
 refine jc_loop (fun (i : Nat) => [(6, r1), (7, .int .i64 (((cutAt 45 [] s).length : Nat) : Int)), (8, .int .i64 ((i : Nat) : Int))]) (fun (i : Nat) => [.row (r1) 9 .str (cutAt 45 [] s)]) (fun (i : Nat) => i ≤ (cutAt 45 [] s).length ∧ (cutAt 45 [] s).length ≤ s.length + 1 ∧ ∀ k : Nat, k < i → subOk (decide (0 < k)) ((cutAt 45 [] s).getD k []) = true) (fun (i : Nat) => (cutAt 45 [] s).length - i) 0 (⟨Nat.zero_le _, subt_length s, fun k hk => absurd hk (Nat.not_lt_zero _)⟩) (⟨rfl, rfl, rfl, trivial⟩) (fun _ h => h) (fun i hinv => ?_)
 refine jc_seq (jc_region (jo_pure rfl (pr_lssN (m := i) (n := (cutAt 45 [] s).length) rfl rfl) ?_))
 refine jo_nil (jq_then (jc_seq ?_))
 refine jc_cond rfl (fun h1b => ?_) (fun h1b => ?_)
 ·have h1 := of_decide_eq_true h1b
  refine jc_skip (jq_then (jc_seq (jc_block (jc_seq (jc_region (jo_pure rfl (pr_move rfl) (jo_pure rfl (pr_idx_row (i := i) rfl (.head _) rfl Tryz.underlying28 ty_9 (by omega)) ?_)))))))
  refine jo_pure rfl (pr_load_elem_row (i := i) (str ((cutAt 45 [] s).getD i [])) rfl (.head _) ty_9 rfl rfl (by omega) rfl) ?_
  refine jo_pure rfl (pr_assign rfl) (jo_pure rfl (pr_assign rfl) (jo_nil (jq_then (jc_seq (jc_region (jo_pure rfl (pr_move rfl) (jo_pure rfl (pr_move rfl) (jo_pure rfl (pr_gtrN (m := i) (n := 0) rfl rfl) ?_))))))))
  refine jo_callp cal_180 (c_language_subtag ((cutAt 45 [] s).getD i []) (decide ((0 : Nat) < i)) (by first | omega | rfl | (have := getD_len (i := i) (subt_mem s); exact Nat.le_trans this hs))) ⟨rfl, rfl, trivial⟩ rfl (trivial) (fun _ => ?_)
  refine jo_pure rfl (pr_not rfl) ?_
  refine jo_nil (jq_then ?_)
  refine jc_cond rfl (fun h2b => ?_) (fun h2b => ?_)
  ·have h2 := (fun q => id (bt_not q)) h2b
   refine jc_seq (jc_region (jo_pure rfl (pr_assign rfl) (jo_nil (jq_then (jc_ret (jq_in_ret ?_))))))
   refine jq_then_ret (jq_then_ret (jq_in_ret ?_))
   refine jq_then_ret (j_drop ?_)
   exact jq_ret1 rfl () rfl (show (.bool (tagF s) : Value) = (.bool (false)) from congrArg Value.bool (by rw [tag_bad (s := s) h1 h2])) (fun _ h => h)
  ·have h2 := (fun q => id (bf_not q)) h2b
   refine jc_skip (jq_in_normal (jq_then (jc_region (jo_pure rfl (pr_addN (m := i) (n := 1) rfl rfl (by omega)) ?_))))
   refine jo_pure rfl (pr_move rfl) (jo_nil ?_)
   refine jq_round' (i + 1) (by (try dsimp only); exact (⟨by omega, hinv.2.1, fun k hk => by rcases Nat.lt_or_ge k i with q | q; exact hinv.2.2 k q; have e : k = i := (by omega); rw [e]; exact h2⟩)) (by (try dsimp only); exact (by omega)) ⟨rfl, rfl, rfl, trivial⟩ (fun _ h => h)
 ·have h1 := of_decide_eq_false h1b
  refine jc_exit ?_
  refine jq_then_exit ?_
  refine jq_then_exit ?_
  refine jq_in_hit ?_
  refine jq_then (jc_seq (jc_region (jo_pure rfl (pr_assign rfl) (jo_nil (jq_then (jc_ret (j_drop ?_)))))))
  exact jq_ret1 rfl () rfl (show (.bool (tagF s) : Value) = (.bool (true)) from congrArg Value.bool (by rw [tag_end (s := s) (fun k hk => hinv.2.2 k (by have hk2 : k < (cutAt 45 [] s).length := hk; omega))])) (fun _ h => h)

theorem c_accept_Name (kind : Int)  : Con Tryz.prog 116 #[.int .i64 (kind)] [] (fun _ : Unit => str (nameK kind)) (fun _ => []) := by
 refine con_of_J (args := [.int .i64 (kind)]) (n := 12) Tryz.func116 rfl (Nat.le_of_ble_eq_true rfl) rfl (fun w0 I0 m0 => ?_)
 refine jc_seq (jc_region (jo_pure rfl (pr_assign rfl) (jo_nil (jq_then (jc_seq (jc_seq (jc_region (jo_pure rfl (pr_move rfl) (jo_nil (jq_then (jc_block (jc_seq (jc_region (jo_pure rfl (pr_eql (n := 1) rfl rfl) ?_))))))))))))))
 refine jo_pure rfl (pr_assign rfl) (jo_nil (jq_then ?_))
 refine jc_cond rfl (fun h1b => ?_) (fun h1b => ?_)
 ·have h1 := of_decide_eq_true h1b
  refine jc_seq (jc_region (jo_pure rfl (pr_assign rfl) (jo_nil (jq_then (jc_ret (jq_in_ret ?_))))))
  refine jq_then_ret ?_
  exact jq_ret1 rfl () rfl (show (str (nameK kind) : Value) = (str ([65, 99, 99, 101, 112, 116])) from congrArg str (by simp [nameK, *])) (fun _ h => h)
 ·have h1 := of_decide_eq_false h1b
  refine jc_seq (jc_region (jo_pure rfl (pr_eql (n := 2) rfl rfl) ?_))
  refine jo_pure rfl (pr_assign rfl) (jo_nil (jq_then ?_))
  refine jc_cond rfl (fun h2b => ?_) (fun h2b => ?_)
  ·have h2 := of_decide_eq_true h2b
   refine jc_seq (jc_region (jo_pure rfl (pr_assign rfl) (jo_nil (jq_then (jc_ret (jq_in_ret ?_))))))
   refine jq_then_ret ?_
   exact jq_ret1 rfl () rfl (show (str (nameK kind) : Value) = (str ([65, 99, 99, 101, 112, 116, 45, 76, 97, 110, 103, 117, 97, 103, 101])) from congrArg str (by simp [nameK, *])) (fun _ h => h)
  ·have h2 := of_decide_eq_false h2b
   refine jc_seq (jc_region (jo_pure rfl (pr_eql (n := 3) rfl rfl) ?_))
   refine jo_pure rfl (pr_assign rfl) (jo_nil (jq_then ?_))
   refine jc_cond rfl (fun h3b => ?_) (fun h3b => ?_)
   ·have h3 := of_decide_eq_true h3b
    refine jc_seq (jc_region (jo_pure rfl (pr_assign rfl) (jo_nil (jq_then (jc_ret (jq_in_ret ?_))))))
    refine jq_then_ret ?_
    exact jq_ret1 rfl () rfl (show (str (nameK kind) : Value) = (str ([65, 99, 99, 101, 112, 116, 45, 67, 104, 97, 114, 115, 101, 116])) from congrArg str (by simp [nameK, *])) (fun _ h => h)
   ·have h3 := of_decide_eq_false h3b
    refine jc_seq (jc_region (jo_pure rfl (pr_eql (n := 4) rfl rfl) ?_))
    refine jo_pure rfl (pr_assign rfl) (jo_nil (jq_then ?_))
    refine jc_cond rfl (fun h4b => ?_) (fun h4b => ?_)
    ·have h4 := of_decide_eq_true h4b
     refine jc_seq (jc_region (jo_pure rfl (pr_assign rfl) (jo_nil (jq_then (jc_ret (jq_in_ret ?_))))))
     refine jq_then_ret ?_
     exact jq_ret1 rfl () rfl (show (str (nameK kind) : Value) = (str ([65, 99, 99, 101, 112, 116, 45, 69, 110, 99, 111, 100, 105, 110, 103])) from congrArg str (by simp [nameK, *])) (fun _ h => h)
    ·have h4 := of_decide_eq_false h4b
     refine jc_skip (jq_in_normal (jq_then (jc_seq (jc_region (jo_pure rfl (pr_assign rfl) (jo_nil (jq_then (jc_ret ?_))))))))
     exact jq_ret1 rfl () rfl (show (str (nameK kind) : Value) = (str ([])) from congrArg str (by simp [nameK, *])) (fun _ h => h)

theorem c_accept_Kind (name : Str) (hn : name.length ≤ 1000000) : Con Tryz.prog 104 #[str (name)] [] (fun _ : Unit => .int .i64 (kindF name)) (fun _ => []) := by
 refine con_of_J (args := [str (name)]) (n := 13) Tryz.func104 rfl (Nat.le_of_ble_eq_true rfl) rfl (fun w0 I0 m0 => ?_)
 refine jc_seq (jc_region (jo_pure rfl (pr_assign rfl) (jo_nil (jq_then (jc_seq (jc_seq (jc_region (jo_pure rfl (pr_assign rfl) (jo_nil (jq_then (jc_block ?_)))))))))))
 refine jc_loop (fun (k : Nat) => [(0, str (name)), (3, .int .i64 ((k : Nat) : Int))]) (fun (k : Nat) => []) (fun (k : Nat) => 1 ≤ k ∧ k ≤ 5 ∧ ∀ j : Nat, 1 ≤ j → j < k → fold name (nameK (j : Int)) = false) (fun (k : Nat) => 5 - k) 1 (⟨Nat.le_refl _, by omega, fun j a b => absurd a (by omega)⟩) (⟨rfl, rfl, trivial⟩) (fun _ h => h) (fun k hinv => ?_)
 refine jc_seq (jc_seq (jc_region (jo_pure rfl (pr_move rfl) (jo_pure rfl (pr_leqN (m := k) (n := 4) rfl rfl) ?_))))
 refine jo_nil (jq_then ?_)
 refine jc_cond rfl (fun h1b => ?_) (fun h1b => ?_)
 ·have h1 := of_decide_eq_true h1b
  refine jc_skip (jq_then (jc_seq (jc_block (jc_seq (jc_region (jo_pure rfl (pr_move rfl) (jo_pure rfl (pr_move rfl) ?_)))))))
  refine jo_callp cal_116 (c_accept_Name ((k : Nat) : Int)) ⟨rfl, trivial⟩ rfl (trivial) (fun _ => ?_)
  refine jo_callp cal_115 (c_ascii_Fold name (nameK ((k : Nat) : Int)) (by first | omega | (have := nameK_length ((k : Nat) : Int); omega)) (by first | omega | (have := nameK_length ((k : Nat) : Int); omega))) ⟨rfl, rfl, trivial⟩ rfl (trivial) (fun _ => ?_)
  refine jo_nil (jq_then ?_)
  refine jc_cond rfl (fun h2b => ?_) (fun h2b => ?_)
  ·have h2 := id h2b
   refine jc_seq (jc_region (jo_pure rfl (pr_move rfl) (jo_pure rfl (pr_assign rfl) (jo_nil (jq_then (jc_ret (jq_in_ret ?_)))))))
   refine jq_then_ret (jq_then_ret (jq_in_ret ?_))
   refine jq_then_ret ?_
   exact jq_ret1 rfl () rfl (show (.int .i64 (kindF name) : Value) = (.int .i64 ((k : Nat) : Int)) from congrArg (Value.int .i64) (by rw [kindF_hit hinv.1 (by omega) hinv.2.2 (by simpa using h2b)])) (fun _ h => h)
  ·have h2 := id h2b
   refine jc_skip (jq_in_normal (jq_then (jc_region (jo_pure rfl (pr_move rfl) (jo_pure rfl (pr_addN (m := k) (n := 1) rfl rfl (by omega)) ?_)))))
   refine jo_pure rfl (pr_assign rfl) (jo_nil ?_)
   refine jq_round' (k + 1) (by (try dsimp only); exact (⟨by omega, by omega, fun j a b => by rcases Nat.lt_or_ge j k with q | q; exact hinv.2.2 j a q; have e : j = k := (by omega); rw [e]; simpa using h2b⟩)) (by (try dsimp only); exact (by omega)) ⟨rfl, rfl, trivial⟩ (fun _ h => h)
 ·have h1 := of_decide_eq_false h1b
  refine jc_exit ?_
  refine jq_then_exit ?_
  refine jq_then_exit ?_
  refine jq_in_hit ?_
  refine jq_then (jc_seq (jc_region (jo_pure rfl (pr_assign rfl) (jo_nil (jq_then (jc_ret ?_))))))
  exact jq_ret1 rfl () rfl (show (.int .i64 (kindF name) : Value) = (.int .i64 ((0 : Nat) : Int)) from congrArg (Value.int .i64) (by rw [kindF_none (by omega) hinv.2.2]; rfl)) (fun _ h => h)

end Go.Proofs.YtlniaacdjllonaaGreat
