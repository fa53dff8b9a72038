/-
  Contracts of functions of the program: each returns what a plain function says, for every input within the bounds named. Conditions: the bounds.
-/
import Derived.Test.YtikllmfjgpmcnaaDoorRows
import Derived.Test.YtikllmfjgpmcnaaDoorC8
import Derived.Test.YtikllmfjgpmcnaaDoorLaw10
namespace Go.Proofs.YtikllmfjgpmcnaaDoor
open Go Go.Sep
set_option linter.unusedSimpArgs false
set_option linter.unusedVariables false

open Go.Plain

theorem cal_34 : Cal Tryd.prog 34 := cal_of Tryd.func34 (by kernel_rfl) rfl
theorem cal_40 : Cal Tryd.prog 40 := cal_of Tryd.func40 (by kernel_rfl) rfl
theorem cal_54 : Cal Tryd.prog 54 := cal_of Tryd.func54 (by kernel_rfl) rfl
theorem cal_60 : Cal Tryd.prog 60 := cal_of Tryd.func60 (by kernel_rfl) rfl
theorem cal_71 : Cal Tryd.prog 71 := cal_of Tryd.func71 (by kernel_rfl) rfl
theorem cal_93 : Cal Tryd.prog 93 := cal_of Tryd.func93 (by kernel_rfl) rfl
theorem cal_110 : Cal Tryd.prog 110 := cal_of Tryd.func110 (by kernel_rfl) rfl
theorem ty_62 : TyF Tryd.prog 62 false 1 24 (some (.slice none 0 0)) := ⟨by kernel_rfl, by kernel_rfl⟩
theorem ty_64 : TyF Tryd.prog 64 true 3 56 (some (.agg #[str ([]), str ([]), .slice none 0 0])) := ⟨by kernel_rfl, by kernel_rfl⟩

theorem c_ascii_Fold (a : List UInt8) (b : List UInt8) (ha : a.length ≤ 1000000) (hb : b.length ≤ 1000000) : Con Tryd.prog 34 #[str (a), str (b)] [] (fun _ : Unit => .bool (fold a b)) (fun _ => []) := by
  refine con_of_J (args := [str (a), str (b)]) (n := 17) Tryd.func34 rfl (Nat.le_of_ble_eq_true rfl) rfl (fun w0 I0 m0 => ?_)
  show J _ [(0, str (a)), (1, str (b))] [] _
  refine jc_seq ?_
  refine jc_region ?_
  refine jo_pure rfl (pr_assign rfl) ?_
  refine jo_nil ?_
  refine jq_then ?_
  refine jc_seq ?_
  refine jc_region ?_
  refine jo_pure rfl (pr_move rfl) ?_
  refine jo_pure rfl (pr_slen rfl Tryd.underlying9) ?_
  refine jo_pure rfl (pr_move rfl) ?_
  refine jo_pure rfl (pr_slen rfl Tryd.underlying9) ?_
  refine jo_pure rfl (pr_eqlN (m := a.length) (n := b.length) rfl rfl) ?_
  refine jo_pure rfl (pr_move rfl) ?_
  refine jo_gpure (j := 5) (want := true) rfl rfl rfl rfl (fun hg => pr_move rfl) ?_
  refine jo_gcall (j := 5) (want := true) rfl rfl rfl cal_59 (fun hg => c_ascii_Lower a (by omega)) (fun hg => ⟨evg rfl hg, trivial⟩) rfl (fun _ => trivial) ?_
  refine jo_gpure (j := 5) (want := true) rfl rfl rfl rfl (fun hg => pr_move rfl) ?_
  refine jo_gcall (j := 5) (want := true) rfl rfl rfl cal_59 (fun hg => c_ascii_Lower b (by omega)) (fun hg => ⟨evg rfl hg, trivial⟩) rfl (fun _ => trivial) ?_
  refine jo_gpure (j := 5) (want := true) rfl rfl rfl rfl (fun hg => pr_seql (evg rfl hg) (evg rfl hg)) ?_
  refine jo_pure rfl (pr_pick_and rfl rfl rfl) ?_
  refine jo_pure rfl (pr_assign rfl) ?_
  refine jo_nil ?_
  refine jq_then ?_
  refine jc_ret ?_
  exact jq_ret1 rfl () rfl (show (.bool (fold a b) : Value) = (.bool ((decide ((a.length : Nat) = b.length) && decide ((lower a : List UInt8) = lower b)))) from rfl) (fun _ h => h)

theorem c_mediatype_ParseRange (s : List UInt8) (hs : s.length ≤ 1000000) : Con Tryd.prog 60 #[str (s)] [] (fun r1 : Value => .tuple #[.agg #[str ((parseR s).1.1), str ((parseR s).1.2.1), r1], .bool ((parseR s).2)]) (fun r1 => [.row r1 78 (.pair .str .str) ((parseR s).1.2.2)]) := by
  refine con_of_J (args := [str (s)]) (n := 48) Tryd.func60 rfl (Nat.le_of_ble_eq_true rfl) rfl (fun w0 I0 m0 => ?_)
  show J _ [(0, str (s))] [] _
  refine jc_seq ?_
  refine jc_region ?_
  refine jo_alloc ty_64 [str ([]), str ([]), .slice none 0 0] rfl rfl (fun b1 => ?_)
  refine jo_pure rfl (pr_assign rfl) ?_
  refine jo_nil ?_
  refine jq_then ?_
  refine jc_seq ?_
  refine jc_region ?_
  refine jo_pure rfl (pr_move rfl) ?_
  refine jo_callp cal_54 (c_param_Parse s (by first | omega | rfl | (have := parseP_len1 s; omega) | (have := parseP_len1 s; simp only [List.length_take, List.length_drop]; omega))) ⟨rfl, trivial⟩ rfl (trivial) (fun r1 => ?_)
  show J _ _ [.row (r1) 78 (.pair .str .str) ((parseP s).2.1), .box b1 64 [str ([]), str ([]), .slice none 0 0]] _
  refine jo_pure rfl (pr_move rfl) ?_
  refine jo_pure rfl (pr_extract rfl rfl) ?_
  refine jo_pure rfl (pr_extract rfl rfl) ?_
  refine jo_pure rfl (pr_extract rfl rfl) ?_
  refine jo_pure rfl (pr_assign rfl) ?_
  refine jo_pure rfl (pr_assign rfl) ?_
  refine jo_pure rfl (pr_assign rfl) ?_
  refine jo_nil ?_
  refine jq_then ?_
  refine jc_seq ?_
  refine jc_seq ?_
  refine jc_region ?_
  refine jo_pure rfl (pr_move rfl) ?_
  refine jo_pure rfl (pr_not rfl) ?_
  refine jo_nil ?_
  refine jq_then ?_
  refine jc_cond rfl (fun h1b => ?_) (fun h1b => ?_)
  · have h1 := (fun q => id (bt_not q)) h1b
    refine jc_seq ?_
    refine jc_region ?_
    refine jo_pure rfl (pr_build [] [str ([]), str ([]), .slice none 0 0] (fun a hf => by simp) (by kernel_rfl)) ?_
    refine j_pull1 ?_
    refine jo_store rfl rfl ty_64 [str ([]), str ([]), .slice none 0 0] rfl rfl rfl [str ([]), str ([]), .slice none 0 0] rfl rfl ?_
    refine jo_pure rfl (pr_assign rfl) ?_
    refine jo_nil ?_
    refine jq_then ?_
    refine jc_ret ?_
    refine jq_then_ret ?_
    refine j_nil_row 78 (.pair .str .str) ?_
    refine j_pull2 ?_
    refine j_drop ?_
    refine j_pull1 ?_
    refine j_pull1 ?_
    exact jq_rets (rs := [.cell 2 64, .tmp 3]) (vs := [.agg #[str ([]), str ([]), .slice none 0 0], .bool (false)]) rfl (.slice none 0 0) ⟨resV_box (.agg #[str ([]), str ([]), .slice none 0 0]) rfl ty_64 (.tail _ (.head _)) rfl (by decide) rfl, resV_tmp rfl, trivial⟩ rfl (show (.tuple #[.agg #[str ((parseR s).1.1), str ((parseR s).1.2.1), (.slice none 0 0)], .bool ((parseR s).2)] : Value) = (.tuple #[.agg #[str ([]), str ([]), .slice none 0 0], .bool (false)]) from by rw [parseR_no (.inl h1)]) (fun w h => (fun h => by rw [parseR_no (.inl h1)]; exact h) (Mem.front (As := [.row (.slice none 0 0) 78 (.pair .str .str) ([])]) h))
  · have h1 := (fun q => id (bf_not q)) h1b
    refine jc_skip ?_
    refine jq_then ?_
    refine jc_seq ?_
    refine jc_region ?_
    refine jo_pure rfl (pr_move rfl) ?_
    refine jo_callp cal_92 (c_strings_Cut ((parseP s).1) [47] 47 (rfl) (by first | omega | rfl | (have := parseP_len1 s; omega) | (have := parseP_len1 s; simp only [List.length_take, List.length_drop]; omega))) ⟨rfl, rfl, trivial⟩ rfl (trivial) (fun _ => ?_)
    refine jo_pure rfl (pr_move rfl) ?_
    refine jo_pure rfl (pr_extract rfl rfl) ?_
    refine jo_pure rfl (pr_extract rfl rfl) ?_
    refine jo_pure rfl (pr_extract rfl rfl) ?_
    refine jo_pure rfl (pr_assign rfl) ?_
    refine jo_pure rfl (pr_assign rfl) ?_
    refine jo_pure rfl (pr_assign rfl) ?_
    refine jo_nil ?_
    refine jq_then ?_
    refine jc_seq ?_
    refine jc_seq ?_
    refine jc_region ?_
    refine jo_pure rfl (pr_move rfl) ?_
    refine jo_callp cal_64 (c_ascii_Token (((parseP s).1).take (pos ((parseP s).1) 47)) (by first | omega | rfl | (have := parseP_len1 s; omega) | (have := parseP_len1 s; simp only [List.length_take, List.length_drop]; omega))) ⟨rfl, trivial⟩ rfl (trivial) (fun _ => ?_)
    refine jo_pure rfl (pr_not rfl) ?_
    refine jo_pure rfl (pr_move rfl) ?_
    refine jo_gpure (j := 3) (want := false) rfl rfl rfl rfl (fun hg => pr_move rfl) ?_
    refine jo_gcall (j := 3) (want := false) rfl rfl rfl cal_64 (fun hg => c_ascii_Token (((parseP s).1).drop (pos ((parseP s).1) 47 + 1)) (by first | omega | rfl | (have := parseP_len1 s; omega) | (have := parseP_len1 s; simp only [List.length_take, List.length_drop]; omega))) (fun hg => ⟨evg rfl hg, trivial⟩) rfl (fun _ => trivial) ?_
    refine jo_gpure (j := 3) (want := false) rfl rfl rfl rfl (fun hg => pr_not (evg rfl hg)) ?_
    refine jo_pure rfl (pr_pick_or rfl rfl rfl) ?_
    refine jo_pure rfl (pr_move rfl) ?_
    refine jo_gpure (j := 8) (want := false) rfl rfl rfl rfl (fun hg => pr_move rfl) ?_
    refine jo_gpure (j := 8) (want := false) rfl rfl rfl rfl (fun hg => pr_seql (evg rfl hg) rfl) ?_
    refine jo_gpure (j := 8) (want := false) rfl rfl rfl rfl (fun hg => pr_move (evg rfl hg)) ?_
    refine jo_gpure2 (j := 11) (want := true) rfl rfl rfl rfl (fun hg => pr_move rfl) ?_
    refine jo_gpure2 (j := 11) (want := true) rfl rfl rfl rfl (fun hg => pr_sneq (evg rfl hg) rfl) ?_
    refine jo_gpure (j := 8) (want := false) rfl rfl rfl rfl (fun hg => pr_pick_and (evg rfl hg) (evg2 rfl hg) rfl) ?_
    refine jo_pure rfl (pr_pick_or rfl rfl rfl) ?_
    refine jo_nil ?_
    refine jq_then ?_
    refine jc_cond rfl (fun h2b => ?_) (fun h2b => ?_)
    · have h2 := (fun q => Or.imp (fun q => Or.imp (fun q => id (bt_not q)) (fun q => id (bt_not q)) (bt_or q)) (fun q => And.imp of_decide_eq_true (fun q => of_decide_eq_false (bt_not q)) (bt_and q)) (bt_or q)) h2b
      refine jc_seq ?_
      refine jc_region ?_
      refine jo_pure rfl (pr_build [] [str ([]), str ([]), .slice none 0 0] (fun a hf => by simp) (by kernel_rfl)) ?_
      refine j_pull1 ?_
      refine jo_store rfl rfl ty_64 [str ([]), str ([]), .slice none 0 0] rfl rfl rfl [str ([]), str ([]), .slice none 0 0] rfl rfl ?_
      refine jo_pure rfl (pr_assign rfl) ?_
      refine jo_nil ?_
      refine jq_then ?_
      refine jc_ret ?_
      refine jq_then_ret ?_
      refine j_nil_row 78 (.pair .str .str) ?_
      refine j_pull2 ?_
      refine j_drop ?_
      refine j_pull1 ?_
      refine j_pull1 ?_
      exact jq_rets (rs := [.cell 2 64, .tmp 3]) (vs := [.agg #[str ([]), str ([]), .slice none 0 0], .bool (false)]) rfl (.slice none 0 0) ⟨resV_box (.agg #[str ([]), str ([]), .slice none 0 0]) rfl ty_64 (.tail _ (.head _)) rfl (by decide) rfl, resV_tmp rfl, trivial⟩ rfl (show (.tuple #[.agg #[str ((parseR s).1.1), str ((parseR s).1.2.1), (.slice none 0 0)], .bool ((parseR s).2)] : Value) = (.tuple #[.agg #[str ([]), str ([]), .slice none 0 0], .bool (false)]) from by rw [parseR_no (.inr (by rw [okRange_eq, h2b]; rfl))]) (fun w h => (fun h => by rw [parseR_no (.inr (by rw [okRange_eq, h2b]; rfl))]; exact h) (Mem.front (As := [.row (.slice none 0 0) 78 (.pair .str .str) ([])]) h))
    · have h2 := (fun q => And.imp (fun q => And.imp (fun q => id (bf_not q)) (fun q => id (bf_not q)) (bf_or q)) (fun q => Or.imp of_decide_eq_false (fun q => of_decide_eq_true (bf_not q)) (bf_and q)) (bf_or q)) h2b
      refine jc_skip ?_
      refine jq_then ?_
      refine jc_seq ?_
      refine jc_region ?_
      refine jo_pure rfl (pr_move rfl) ?_
      refine jo_callp cal_59 (c_ascii_Lower (((parseP s).1).take (pos ((parseP s).1) 47)) (by first | omega | rfl | (have := parseP_len1 s; omega) | (have := parseP_len1 s; simp only [List.length_take, List.length_drop]; omega))) ⟨rfl, trivial⟩ rfl (trivial) (fun _ => ?_)
      refine jo_pure rfl (pr_move rfl) ?_
      refine jo_callp cal_59 (c_ascii_Lower (((parseP s).1).drop (pos ((parseP s).1) 47 + 1)) (by first | omega | rfl | (have := parseP_len1 s; omega) | (have := parseP_len1 s; simp only [List.length_take, List.length_drop]; omega))) ⟨rfl, trivial⟩ rfl (trivial) (fun _ => ?_)
      refine jo_pure rfl (pr_move rfl) ?_
      refine jo_pure rfl (pr_buildV [(0, str (lower (((parseP s).1).take (pos ((parseP s).1) 47)))), (1, str (lower (((parseP s).1).drop (pos ((parseP s).1) 47 + 1)))), (2, r1)] [str (lower (((parseP s).1).take (pos ((parseP s).1) 47))), str (lower (((parseP s).1).drop (pos ((parseP s).1) 47 + 1))), r1] (fun a hf => by simp only [List.map_toArray, List.map_cons, List.map_nil, hf.ev (show ev _ (.tmp 43) = some (str (lower (((parseP s).1).take (pos ((parseP s).1) 47)))) from rfl), hf.ev (show ev _ (.tmp 45) = some (str (lower (((parseP s).1).drop (pos ((parseP s).1) 47 + 1)))) from rfl), hf.ev (show ev _ (.tmp 46) = some (r1) from rfl)]) (fun w I m hs => by obtain ⟨_, _, _, e0⟩ := row_slice (.head _) hs; rw [e0]; kernel_rfl)) ?_
      refine j_pull1 ?_
      refine jo_storeV rfl rfl ty_64 [str (lower (((parseP s).1).take (pos ((parseP s).1) 47))), str (lower (((parseP s).1).drop (pos ((parseP s).1) 47 + 1))), r1] (fun _ _ _ _ => rfl) rfl (fun w I m hs => by simp only [List.all_cons, List.all_nil, Bool.and_true, Bool.and_eq_true]; exact ⟨rfl, rfl, (SliceV.one (row_slice (.tail _ (.head _)) hs))⟩) [str (lower (((parseP s).1).take (pos ((parseP s).1) 47))), str (lower (((parseP s).1).drop (pos ((parseP s).1) 47 + 1))), r1] rfl rfl ?_
      refine jo_pure rfl (pr_assign rfl) ?_
      refine jo_nil ?_
      refine jq_then ?_
      refine jc_ret ?_
      refine j_pull1 ?_
      exact jq_rets (rs := [.cell 2 64, .tmp 3]) (vs := [.agg #[str (lower (((parseP s).1).take (pos ((parseP s).1) 47))), str (lower (((parseP s).1).drop (pos ((parseP s).1) 47 + 1))), r1], .bool (true)]) rfl r1 ⟨resV_box (.agg #[str (lower (((parseP s).1).take (pos ((parseP s).1) 47))), str (lower (((parseP s).1).drop (pos ((parseP s).1) 47 + 1))), r1]) rfl ty_64 (.tail _ (.head _)) rfl (by decide) rfl, resV_tmp rfl, trivial⟩ rfl (show (.tuple #[.agg #[str ((parseR s).1.1), str ((parseR s).1.2.1), r1], .bool ((parseR s).2)] : Value) = (.tuple #[.agg #[str (lower (((parseP s).1).take (pos ((parseP s).1) 47))), str (lower (((parseP s).1).drop (pos ((parseP s).1) 47 + 1))), r1], .bool (true)]) from by rw [parseR_yes h1 (by rw [okRange_eq, h2b]; rfl)]) (fun w h => (fun h => by rw [parseR_yes h1 (by rw [okRange_eq, h2b]; rfl)]; exact h) (Mem.front (As := [.row (r1) 78 (.pair .str .str) ((parseP s).2.1)]) h))

theorem c_ref10_ParseRange (s : List UInt8) (hs : s.length ≤ 1000000) : Con Tryd.prog 40 #[str (s)] [] (fun r1 : Value => .tuple #[.agg #[str ((parseR s).1.1), str ((parseR s).1.2.1), r1], .bool ((parseR s).2)]) (fun r1 => [.row r1 78 (.pair .str .str) ((parseR s).1.2.2)]) := by
  refine con_of_J (args := [str (s)]) (n := 61) Tryd.func40 rfl (Nat.le_of_ble_eq_true rfl) rfl (fun w0 I0 m0 => ?_)
  show J _ [(0, str (s))] [] _
  refine jc_seq ?_
  refine jc_region ?_
  refine jo_alloc ty_64 [str ([]), str ([]), .slice none 0 0] rfl rfl (fun b1 => ?_)
  refine jo_pure rfl (pr_assign rfl) ?_
  refine jo_nil ?_
  refine jq_then ?_
  refine jc_seq ?_
  refine jc_region ?_
  refine jo_pure rfl (pr_move rfl) ?_
  refine jo_callp cal_71 (c_ref01_ParseParams s (by first | omega | rfl | (have := parseP_len1 s; simp only [List.length_take, List.length_drop]; omega) | (have := parseP_len1 s; omega))) ⟨rfl, trivial⟩ rfl (trivial) (fun r1 => ?_)
  show J _ _ [.row (r1) 78 (.pair .str .str) ((parseP s).2.1), .box b1 64 [str ([]), str ([]), .slice none 0 0]] _
  refine jo_pure rfl (pr_move rfl) ?_
  refine jo_pure rfl (pr_extract rfl rfl) ?_
  refine jo_pure rfl (pr_extract rfl rfl) ?_
  refine jo_pure rfl (pr_extract rfl rfl) ?_
  refine jo_pure rfl (pr_assign rfl) ?_
  refine jo_pure rfl (pr_assign rfl) ?_
  refine jo_pure rfl (pr_assign rfl) ?_
  refine jo_nil ?_
  refine jq_then ?_
  refine jc_seq ?_
  refine jc_seq ?_
  refine jc_region ?_
  refine jo_pure rfl (pr_move rfl) ?_
  refine jo_pure rfl (pr_not rfl) ?_
  refine jo_nil ?_
  refine jq_then ?_
  refine jc_cond rfl (fun h1b => ?_) (fun h1b => ?_)
  · have h1 := (fun q => id (bt_not q)) h1b
    refine jc_seq ?_
    refine jc_region ?_
    refine jo_pure rfl (pr_build [] [str ([]), str ([]), .slice none 0 0] (fun a hf => by simp) (by kernel_rfl)) ?_
    refine j_pull1 ?_
    refine jo_store rfl rfl ty_64 [str ([]), str ([]), .slice none 0 0] rfl rfl rfl [str ([]), str ([]), .slice none 0 0] rfl rfl ?_
    refine jo_pure rfl (pr_assign rfl) ?_
    refine jo_nil ?_
    refine jq_then ?_
    refine jc_ret ?_
    refine jq_then_ret ?_
    refine j_nil_row 78 (.pair .str .str) ?_
    refine j_pull2 ?_
    refine j_drop ?_
    refine j_pull1 ?_
    refine j_pull1 ?_
    exact jq_rets (rs := [.cell 2 64, .tmp 3]) (vs := [.agg #[str ([]), str ([]), .slice none 0 0], .bool (false)]) rfl (.slice none 0 0) ⟨resV_box (.agg #[str ([]), str ([]), .slice none 0 0]) rfl ty_64 (.tail _ (.head _)) rfl (by decide) rfl, resV_tmp rfl, trivial⟩ rfl (show (.tuple #[.agg #[str ((parseR s).1.1), str ((parseR s).1.2.1), (.slice none 0 0)], .bool ((parseR s).2)] : Value) = (.tuple #[.agg #[str ([]), str ([]), .slice none 0 0], .bool (false)]) from by rw [parseR_no (.inl h1)]) (fun w h => (fun h => by rw [parseR_no (.inl h1)]; exact h) (Mem.front (As := [.row (.slice none 0 0) 78 (.pair .str .str) ([])]) h))
  · have h1 := (fun q => id (bf_not q)) h1b
    have hpl := parseP_len1 s
    refine jc_skip ?_
    refine jq_then ?_
    refine jc_seq ?_
    refine jc_region ?_
    refine jo_pure rfl (pr_move rfl) ?_
    refine jo_callp cal_72 (c_ref01_Index ((parseP s).1) 47 0 (by first | omega | rfl | (have := parseP_len1 s; simp only [List.length_take, List.length_drop]; omega) | (have := parseP_len1 s; omega))) ⟨rfl, rfl, rfl, trivial⟩ rfl (trivial) (fun _ => ?_)
    refine jo_pure rfl (pr_assign rfl) ?_
    refine jo_nil ?_
    refine jq_then ?_
    refine jc_seq ?_
    refine jc_seq ?_
    by_cases hc : pos ((parseP s).1) 47 < ((parseP s).1).length
    · skip
      rw [show (idxF ((parseP s).1) 47 0 : Int) = ((pos ((parseP s).1) 47 : Nat) : Int) from by rw [idxF_zero, idx_found hc]]
      refine jc_region ?_
      refine jo_pure rfl (pr_move rfl) ?_
      refine jo_pure rfl (pr_lssN (m := pos ((parseP s).1) 47) (n := 0) rfl rfl) ?_
      refine jo_pure rfl (pr_move rfl) ?_
      refine jo_run (j := 2) (want := false) rfl rfl (by simp) ?_
      refine jo_pure rfl (pr_move rfl) ?_
      refine jo_run (j := 2) (want := false) rfl rfl (by simp) ?_
      refine jo_pure rfl (pr_move rfl) ?_
      refine jo_run (j := 2) (want := false) rfl rfl (by simp) ?_
      refine jo_pure rfl (pr_sslice_hi (j := pos ((parseP s).1) 47) rfl rfl Tryd.underlying9 (by omega)) ?_
      refine jo_run (j := 2) (want := false) rfl rfl (by simp) ?_
      refine jo_callp cal_44 (c_ref01_Token (((parseP s).1).take (pos ((parseP s).1) 47)) (by first | omega | rfl | (have := parseP_len1 s; simp only [List.length_take, List.length_drop]; omega) | (have := parseP_len1 s; omega))) ⟨rfl, trivial⟩ rfl (trivial) (fun _ => ?_)
      refine jo_run (j := 2) (want := false) rfl rfl (by simp) ?_
      refine jo_pure rfl (pr_not rfl) ?_
      refine jo_pure rfl (pr_pick_f rfl (by simp) rfl) ?_
      refine jo_pure rfl (pr_move rfl) ?_
      refine jo_gpure (j := 9) (want := false) rfl rfl rfl rfl (fun hg => pr_move rfl) ?_
      refine jo_gpure (j := 9) (want := false) rfl rfl rfl rfl (fun hg => pr_move rfl) ?_
      refine jo_gpure (j := 9) (want := false) rfl rfl rfl rfl (fun hg => pr_addN (m := pos ((parseP s).1) 47) (n := 1) (evg rfl hg) rfl (by omega)) ?_
      refine jo_gpure (j := 9) (want := false) rfl rfl rfl rfl (fun hg => pr_sslice_lo (i := (pos ((parseP s).1) 47) + 1) (evg rfl hg) (evg rfl hg) Tryd.underlying9 (by omega)) ?_
      refine jo_gcall (j := 9) (want := false) rfl rfl rfl cal_44 (fun hg => c_ref01_Token (((parseP s).1).drop ((pos ((parseP s).1) 47) + 1)) (by first | omega | rfl | (have := parseP_len1 s; simp only [List.length_take, List.length_drop]; omega) | (have := parseP_len1 s; omega))) (fun hg => ⟨evg rfl hg, trivial⟩) rfl (fun _ => trivial) ?_
      refine jo_gpure (j := 9) (want := false) rfl rfl rfl rfl (fun hg => pr_not (evg rfl hg)) ?_
      refine jo_pure rfl (pr_pick_or rfl rfl rfl) ?_
      refine jo_pure rfl (pr_move rfl) ?_
      refine jo_gpure (j := 17) (want := false) rfl rfl rfl rfl (fun hg => pr_move rfl) ?_
      refine jo_gpure (j := 17) (want := false) rfl rfl rfl rfl (fun hg => pr_move rfl) ?_
      refine jo_gpure (j := 17) (want := false) rfl rfl rfl rfl (fun hg => pr_sslice_hi (j := pos ((parseP s).1) 47) (evg rfl hg) (evg rfl hg) Tryd.underlying9 (by omega)) ?_
      refine jo_gpure (j := 17) (want := false) rfl rfl rfl rfl (fun hg => pr_seql (evg rfl hg) rfl) ?_
      refine jo_gpure (j := 17) (want := false) rfl rfl rfl rfl (fun hg => pr_move (evg rfl hg)) ?_
      refine jo_gpure2 (j := 22) (want := true) rfl rfl rfl rfl (fun hg => pr_move rfl) ?_
      refine jo_gpure2 (j := 22) (want := true) rfl rfl rfl rfl (fun hg => pr_move rfl) ?_
      refine jo_gpure2 (j := 22) (want := true) rfl rfl rfl rfl (fun hg => pr_addN (m := pos ((parseP s).1) 47) (n := 1) (evg rfl hg) rfl (by omega)) ?_
      refine jo_gpure2 (j := 22) (want := true) rfl rfl rfl rfl (fun hg => pr_sslice_lo (i := (pos ((parseP s).1) 47) + 1) (evg rfl hg) (evg rfl hg) Tryd.underlying9 (by omega)) ?_
      refine jo_gpure2 (j := 22) (want := true) rfl rfl rfl rfl (fun hg => pr_sneq (evg rfl hg) rfl) ?_
      refine jo_gpure (j := 17) (want := false) rfl rfl rfl rfl (fun hg => pr_pick_and (evg rfl hg) (evg2 rfl hg) rfl) ?_
      refine jo_pure rfl (pr_pick_or rfl rfl rfl) ?_
      refine jo_nil ?_
      refine jq_then ?_
      refine jc_cond rfl (fun h2b => ?_) (fun h2b => ?_)
      · have h2 := (fun q => Or.imp (fun q => Or.imp (fun q => id (bt_not q)) (fun q => id (bt_not q)) (bt_or q)) (fun q => And.imp of_decide_eq_true (fun q => of_decide_eq_false (bt_not q)) (bt_and q)) (bt_or q)) h2b
        refine jc_seq ?_
        refine jc_region ?_
        refine jo_pure rfl (pr_build [] [str ([]), str ([]), .slice none 0 0] (fun a hf => by simp) (by kernel_rfl)) ?_
        refine j_pull1 ?_
        refine jo_store rfl rfl ty_64 [str ([]), str ([]), .slice none 0 0] rfl rfl rfl [str ([]), str ([]), .slice none 0 0] rfl rfl ?_
        refine jo_pure rfl (pr_assign rfl) ?_
        refine jo_nil ?_
        refine jq_then ?_
        refine jc_ret ?_
        refine jq_then_ret ?_
        refine j_nil_row 78 (.pair .str .str) ?_
        refine j_pull2 ?_
        refine j_drop ?_
        refine j_pull1 ?_
        refine j_pull1 ?_
        exact jq_rets (rs := [.cell 2 64, .tmp 3]) (vs := [.agg #[str ([]), str ([]), .slice none 0 0], .bool (false)]) rfl (.slice none 0 0) ⟨resV_box (.agg #[str ([]), str ([]), .slice none 0 0]) rfl ty_64 (.tail _ (.head _)) rfl (by decide) rfl, resV_tmp rfl, trivial⟩ rfl (show (.tuple #[.agg #[str ((parseR s).1.1), str ((parseR s).1.2.1), (.slice none 0 0)], .bool ((parseR s).2)] : Value) = (.tuple #[.agg #[str ([]), str ([]), .slice none 0 0], .bool (false)]) from by rw [parseR_no (.inr (by rw [okRange_eq, h2b]; rfl))]) (fun w h => (fun h => by rw [parseR_no (.inr (by rw [okRange_eq, h2b]; rfl))]; exact h) (Mem.front (As := [.row (.slice none 0 0) 78 (.pair .str .str) ([])]) h))
      · have h2 := (fun q => And.imp (fun q => And.imp (fun q => id (bf_not q)) (fun q => id (bf_not q)) (bf_or q)) (fun q => Or.imp of_decide_eq_false (fun q => of_decide_eq_true (bf_not q)) (bf_and q)) (bf_or q)) h2b
        refine jc_skip ?_
        refine jq_then ?_
        refine jc_seq ?_
        refine j_pull1 ?_
        refine jc_held (fun (_ : Unit) => [(2, .pointer (some ⟨b1, 0, none⟩)), (3, .bool (true))]) (fun _ => [.box b1 64 [str (lower (((parseP s).1).take (pos ((parseP s).1) 47))), str (lower (((parseP s).1).drop ((pos ((parseP s).1) 47) + 1))), r1], .row (r1) 78 (.pair .str .str) ((parseP s).2.1)]) [.row (r1) 78 (.pair .str .str) ((parseP s).2.1)] mixed (fun lst hlst => ?_) (fun _ => ?_)
        · subst hlst
          refine jh_take (listed' := #[true, false, false, false, false, false, false, false, false, false, false, false, false]) 0 rfl (by kernel_rfl) (by kernel_rfl) (by kernel_rfl) rfl (pr_move rfl) (fun _ h => Mem.drop1 (h)) rfl ?_
          refine jh_take (listed' := #[true, true, false, false, false, false, false, false, false, false, false, false, false]) 1 rfl (by kernel_rfl) (by kernel_rfl) (by kernel_rfl) rfl (pr_move rfl) (fun _ h => Mem.drop1 (h)) rfl ?_
          refine jh_take (listed' := #[true, true, true, false, false, false, false, false, false, false, false, false, false]) 2 rfl (by kernel_rfl) (by kernel_rfl) (by kernel_rfl) rfl (pr_sslice_hi (j := pos ((parseP s).1) 47) rfl rfl Tryd.underlying9 (by omega)) (fun _ h => Mem.drop1 (h)) rfl ?_
          refine jh_take (listed' := #[true, true, true, false, true, false, false, false, false, false, false, false, false]) 4 rfl (by kernel_rfl) (by kernel_rfl) (by kernel_rfl) rfl (pr_move rfl) (fun _ h => Mem.drop1 (h)) rfl ?_
          refine jh_take (listed' := #[true, true, true, false, true, true, false, false, false, false, false, false, false]) 5 rfl (by kernel_rfl) (by kernel_rfl) (by kernel_rfl) rfl (pr_move rfl) (fun _ h => Mem.drop1 (h)) rfl ?_
          refine jh_take (listed' := #[true, true, true, false, true, true, true, false, false, false, false, false, false]) 6 rfl (by kernel_rfl) (by kernel_rfl) (by kernel_rfl) rfl (pr_addN (m := pos ((parseP s).1) 47) (n := 1) rfl rfl (by omega)) (fun _ h => Mem.drop1 (h)) rfl ?_
          refine jh_take (listed' := #[true, true, true, false, true, true, true, true, false, false, false, false, false]) 7 rfl (by kernel_rfl) (by kernel_rfl) (by kernel_rfl) rfl (pr_sslice_lo (i := (pos ((parseP s).1) 47) + 1) rfl rfl Tryd.underlying9 (by omega)) (fun _ h => Mem.drop1 (h)) rfl ?_
          refine jh_take (listed' := #[true, true, true, false, true, true, true, true, false, true, false, false, false]) 9 rfl (by kernel_rfl) (by kernel_rfl) (by kernel_rfl) rfl (pr_move rfl) (fun _ h => Mem.drop1 (h)) rfl ?_
          refine jh_all [3] (by kernel_rfl) (by simp) (fun i hi => ?_)
          simp only [List.mem_cons, List.not_mem_nil, or_false] at hi
          subst hi
          · refine jh_op rfl ?_
            refine jo_callp cal_13 (c_ref01_Lower (((parseP s).1).take (pos ((parseP s).1) 47)) (by first | omega | rfl | (have := parseP_len1 s; simp only [List.length_take, List.length_drop]; omega) | (have := parseP_len1 s; omega))) ⟨rfl, trivial⟩ rfl (trivial) (fun _ => ?_)
            refine jh_in (listed' := #[true, true, true, true, true, true, true, true, false, true, false, false, false]) (fun _ h => Mem.drop1 (h)) rfl ?_
            refine jh_all [8] (by kernel_rfl) (by simp) (fun i hi => ?_)
            simp only [List.mem_cons, List.not_mem_nil, or_false] at hi
            subst hi
            · refine jh_op rfl ?_
              refine jo_callp cal_13 (c_ref01_Lower (((parseP s).1).drop ((pos ((parseP s).1) 47) + 1)) (by first | omega | rfl | (have := parseP_len1 s; simp only [List.length_take, List.length_drop]; omega) | (have := parseP_len1 s; omega))) ⟨rfl, trivial⟩ rfl (trivial) (fun _ => ?_)
              refine jh_in (listed' := #[true, true, true, true, true, true, true, true, true, true, false, false, false]) (fun _ h => Mem.drop1 (h)) rfl ?_
              refine jh_take (listed' := #[true, true, true, true, true, true, true, true, true, true, true, false, false]) 10 rfl (by kernel_rfl) (by kernel_rfl) (by kernel_rfl) rfl (pr_buildV [(0, str (lower (((parseP s).1).take (pos ((parseP s).1) 47)))), (1, str (lower (((parseP s).1).drop ((pos ((parseP s).1) 47) + 1)))), (2, r1)] [str (lower (((parseP s).1).take (pos ((parseP s).1) 47))), str (lower (((parseP s).1).drop ((pos ((parseP s).1) 47) + 1))), r1] (fun a hf => by simp only [List.map_toArray, List.map_cons, List.map_nil, hf.ev (show ev _ (.tmp 53) = some (str (lower (((parseP s).1).take (pos ((parseP s).1) 47)))) from rfl), hf.ev (show ev _ (.tmp 58) = some (str (lower (((parseP s).1).drop ((pos ((parseP s).1) 47) + 1)))) from rfl), hf.ev (show ev _ (.tmp 59) = some (r1) from rfl)]) (fun w I m hs => by obtain ⟨_, _, _, e0⟩ := row_slice (.head _) hs; rw [e0]; kernel_rfl)) (fun _ h => Mem.drop1 (h)) rfl ?_
              refine jh_all [11] (by kernel_rfl) (by simp) (fun i hi => ?_)
              simp only [List.mem_cons, List.not_mem_nil, or_false] at hi
              subst hi
              · refine jh_op rfl ?_
                refine jo_storeV rfl rfl ty_64 [str (lower (((parseP s).1).take (pos ((parseP s).1) 47))), str (lower (((parseP s).1).drop ((pos ((parseP s).1) 47) + 1))), r1] (fun _ _ _ _ => rfl) rfl (fun w I m hs => by simp only [List.all_cons, List.all_nil, Bool.and_true, Bool.and_eq_true]; exact ⟨rfl, rfl, (SliceV.one (row_slice (.tail _ (.head _)) hs))⟩) [str (lower (((parseP s).1).take (pos ((parseP s).1) 47))), str (lower (((parseP s).1).drop ((pos ((parseP s).1) 47) + 1))), r1] rfl rfl ?_
                refine jh_in (listed' := #[true, true, true, true, true, true, true, true, true, true, true, true, false]) (fun _ h => Mem.drop1 (h)) rfl ?_
                refine jh_take (listed' := #[true, true, true, true, true, true, true, true, true, true, true, true, true]) 12 rfl (by kernel_rfl) (by kernel_rfl) (by kernel_rfl) rfl (pr_assign rfl) (fun _ h => Mem.drop1 (h)) rfl ?_
                show J _ _ _ _
                refine j_pull1 ?_
                refine j_pull1 ?_
                show JH _ _ _ _ _ _ _ _
                exact jh_done () (by kernel_rfl) ⟨rfl, rfl, trivial⟩ (fun _ h => h)
        · skip
          refine jq_then ?_
          refine jc_ret ?_
          refine j_pull1 ?_
          exact jq_rets (rs := [.cell 2 64, .tmp 3]) (vs := [.agg #[str (lower (((parseP s).1).take (pos ((parseP s).1) 47))), str (lower (((parseP s).1).drop ((pos ((parseP s).1) 47) + 1))), r1], .bool (true)]) rfl r1 ⟨resV_box (.agg #[str (lower (((parseP s).1).take (pos ((parseP s).1) 47))), str (lower (((parseP s).1).drop ((pos ((parseP s).1) 47) + 1))), r1]) rfl ty_64 (.tail _ (.head _)) rfl (by decide) rfl, resV_tmp rfl, trivial⟩ rfl (show (.tuple #[.agg #[str ((parseR s).1.1), str ((parseR s).1.2.1), r1], .bool ((parseR s).2)] : Value) = (.tuple #[.agg #[str (lower (((parseP s).1).take (pos ((parseP s).1) 47))), str (lower (((parseP s).1).drop ((pos ((parseP s).1) 47) + 1))), r1], .bool (true)]) from by rw [parseR_yes h1 (by rw [okRange_eq, h2b]; rfl)]) (fun w h => (fun h => by rw [parseR_yes h1 (by rw [okRange_eq, h2b]; rfl)]; exact h) (Mem.front (As := [.row (r1) 78 (.pair .str .str) ((parseP s).2.1)]) h))
    · skip
      rw [show (idxF ((parseP s).1) 47 0 : Int) = -1 from by rw [idxF_zero, idx_none hc]]
      refine jc_region ?_
      refine jo_pure rfl (pr_move rfl) ?_
      refine jo_pure rfl (pr_lss (n := 0) rfl rfl) ?_
      refine jo_pure rfl (pr_move rfl) ?_
      refine jo_skipu (j := 2) (want := false) rfl rfl (by decide) rfl ?_
      refine jo_skipu (j := 2) (want := false) rfl rfl (by decide) rfl ?_
      refine jo_skipu (j := 2) (want := false) rfl rfl (by decide) rfl ?_
      refine jo_skipu (j := 2) (want := false) rfl rfl (by decide) rfl ?_
      refine jo_skipu (j := 2) (want := false) rfl rfl (by decide) rfl ?_
      refine jo_pure rfl (pr_pick_t rfl (by decide) rfl) ?_
      refine jo_pure rfl (pr_move rfl) ?_
      refine jo_skipu (j := 9) (want := false) rfl rfl (rfl) rfl ?_
      refine jo_skipu (j := 9) (want := false) rfl rfl (rfl) rfl ?_
      refine jo_skipu (j := 9) (want := false) rfl rfl (rfl) rfl ?_
      refine jo_skipu (j := 9) (want := false) rfl rfl (rfl) rfl ?_
      refine jo_skipu (j := 9) (want := false) rfl rfl (rfl) rfl ?_
      refine jo_skipu (j := 9) (want := false) rfl rfl (rfl) rfl ?_
      refine jo_pure rfl (pr_pick_t rfl (rfl) rfl) ?_
      refine jo_pure rfl (pr_move rfl) ?_
      refine jo_skipu (j := 17) (want := false) rfl rfl (rfl) rfl ?_
      refine jo_skipu (j := 17) (want := false) rfl rfl (rfl) rfl ?_
      refine jo_skipu (j := 17) (want := false) rfl rfl (rfl) rfl ?_
      refine jo_skipu (j := 17) (want := false) rfl rfl (rfl) rfl ?_
      refine jo_skipu (j := 17) (want := false) rfl rfl (rfl) rfl ?_
      refine jo_skipn (j := 22) rfl rfl rfl ?_
      refine jo_skipn (j := 22) rfl rfl rfl ?_
      refine jo_skipn (j := 22) rfl rfl rfl ?_
      refine jo_skipn (j := 22) rfl rfl rfl ?_
      refine jo_skipn (j := 22) rfl rfl rfl ?_
      refine jo_skipu (j := 17) (want := false) rfl rfl (rfl) rfl ?_
      refine jo_pure rfl (pr_pick_t rfl (rfl) rfl) ?_
      refine jo_nil ?_
      refine jq_then ?_
      refine jc_true rfl (rfl) ?_
      refine jc_seq ?_
      refine jc_region ?_
      refine jo_pure rfl (pr_build [] [str ([]), str ([]), .slice none 0 0] (fun a hf => by simp) (by kernel_rfl)) ?_
      refine j_pull1 ?_
      refine jo_store rfl rfl ty_64 [str ([]), str ([]), .slice none 0 0] rfl rfl rfl [str ([]), str ([]), .slice none 0 0] rfl rfl ?_
      refine jo_pure rfl (pr_assign rfl) ?_
      refine jo_nil ?_
      refine jq_then ?_
      refine jc_ret ?_
      refine jq_then_ret ?_
      refine j_nil_row 78 (.pair .str .str) ?_
      refine j_pull2 ?_
      refine j_drop ?_
      refine j_pull1 ?_
      refine j_pull1 ?_
      exact jq_rets (rs := [.cell 2 64, .tmp 3]) (vs := [.agg #[str ([]), str ([]), .slice none 0 0], .bool (false)]) rfl (.slice none 0 0) ⟨resV_box (.agg #[str ([]), str ([]), .slice none 0 0]) rfl ty_64 (.tail _ (.head _)) rfl (by decide) rfl, resV_tmp rfl, trivial⟩ rfl (show (.tuple #[.agg #[str ((parseR s).1.1), str ((parseR s).1.2.1), (.slice none 0 0)], .bool ((parseR s).2)] : Value) = (.tuple #[.agg #[str ([]), str ([]), .slice none 0 0], .bool (false)]) from by rw [parseR_no (.inr (okRange_none hc))]) (fun w h => (fun h => by rw [parseR_no (.inr (okRange_none hc))]; exact h) (Mem.front (As := [.row (.slice none 0 0) 78 (.pair .str .str) ([])]) h))

theorem c_mediatype_Parse (s : List UInt8) (hs : s.length ≤ 1000000) : Con Tryd.prog 61 #[str (s)] [] (fun r1 : Value => .tuple #[.agg #[str ((parseT s).1.1), str ((parseT s).1.2.1), r1], .bool ((parseT s).2)]) (fun r1 => [.row r1 78 (.pair .str .str) ((parseT s).1.2.2)]) := by
  refine con_of_J (args := [str (s)]) (n := 25) Tryd.func61 rfl (Nat.le_of_ble_eq_true rfl) rfl (fun w0 I0 m0 => ?_)
  show J _ [(0, str (s))] [] _
  refine jc_seq ?_
  refine jc_region ?_
  refine jo_alloc ty_64 [str ([]), str ([]), .slice none 0 0] rfl rfl (fun b1 => ?_)
  refine jo_pure rfl (pr_assign rfl) ?_
  refine jo_nil ?_
  refine jq_then ?_
  refine jc_seq ?_
  refine jc_region ?_
  refine jo_pure rfl (pr_move rfl) ?_
  refine jo_callp cal_60 (c_mediatype_ParseRange s (by first | omega | rfl | (have := parseP_len1 s; omega) | (have := parseP_len1 s; simp only [List.length_take, List.length_drop]; omega))) ⟨rfl, trivial⟩ rfl (trivial) (fun r1 => ?_)
  show J _ _ [.row (r1) 78 (.pair .str .str) ((parseR s).1.2.2), .box b1 64 [str ([]), str ([]), .slice none 0 0]] _
  refine jo_pure rfl (pr_move rfl) ?_
  refine jo_pure rfl (pr_extract rfl rfl) ?_
  refine jo_pure rfl (pr_extract rfl rfl) ?_
  refine jo_alloc ty_64 [str ([]), str ([]), .slice none 0 0] rfl rfl (fun b2 => ?_)
  refine jo_storeV rfl rfl ty_64 [str ((parseR s).1.1), str ((parseR s).1.2.1), r1] (fun _ _ _ _ => rfl) rfl (fun w I m hs => by simp only [List.all_cons, List.all_nil, Bool.and_true, Bool.and_eq_true]; exact ⟨rfl, rfl, (SliceV.one (row_slice (.tail _ (.head _)) hs))⟩) [str ((parseR s).1.1), str ((parseR s).1.2.1), r1] rfl rfl ?_
  refine jo_pure rfl (pr_assign rfl) ?_
  refine jo_nil ?_
  refine jq_then ?_
  refine jc_seq ?_
  refine jc_seq ?_
  refine jc_region ?_
  refine jo_pure rfl (pr_move rfl) ?_
  refine jo_pure rfl (pr_not rfl) ?_
  refine jo_pure rfl (pr_move rfl) ?_
  refine jo_gpure (j := 2) (want := false) rfl rfl rfl rfl (fun hg => pr_fieldAddr 0 rfl Tryd.underlying64 rfl ty_9 rfl rfl) ?_
  refine jo_gpure (j := 2) (want := false) rfl rfl rfl rfl (fun hg => pr_load_box (str ((parseR s).1.1)) (evg rfl hg) ty_9 (.head _) rfl (by decide) rfl) ?_
  refine jo_gpure (j := 2) (want := false) rfl rfl rfl rfl (fun hg => pr_seql (evg rfl hg) rfl) ?_
  refine jo_pure rfl (pr_pick_or rfl rfl rfl) ?_
  refine jo_pure rfl (pr_move rfl) ?_
  refine jo_gpure (j := 7) (want := false) rfl rfl rfl rfl (fun hg => pr_fieldAddr 1 rfl Tryd.underlying64 rfl ty_9 rfl rfl) ?_
  refine jo_gpure (j := 7) (want := false) rfl rfl rfl rfl (fun hg => pr_load_box (str ((parseR s).1.2.1)) (evg rfl hg) ty_9 (.head _) rfl (by decide) rfl) ?_
  refine jo_gpure (j := 7) (want := false) rfl rfl rfl rfl (fun hg => pr_seql (evg rfl hg) rfl) ?_
  refine jo_pure rfl (pr_pick_or rfl rfl rfl) ?_
  refine jo_nil ?_
  refine jq_then ?_
  refine jc_cond rfl (fun h1b => ?_) (fun h1b => ?_)
  · have h1 := (fun q => Or.imp (fun q => Or.imp (fun q => id (bt_not q)) of_decide_eq_true (bt_or q)) of_decide_eq_true (bt_or q)) h1b
    refine jc_seq ?_
    refine jc_region ?_
    refine jo_pure rfl (pr_build [] [str ([]), str ([]), .slice none 0 0] (fun a hf => by simp) (by kernel_rfl)) ?_
    refine j_pull2 ?_
    refine jo_store rfl rfl ty_64 [str ([]), str ([]), .slice none 0 0] rfl rfl rfl [str ([]), str ([]), .slice none 0 0] rfl rfl ?_
    refine jo_pure rfl (pr_assign rfl) ?_
    refine jo_nil ?_
    refine jq_then ?_
    refine jc_ret ?_
    refine jq_then_ret ?_
    refine j_nil_row 78 (.pair .str .str) ?_
    refine j_pull2 ?_
    refine j_drop ?_
    refine j_pull2 ?_
    refine j_drop ?_
    refine j_pull1 ?_
    refine j_pull1 ?_
    exact jq_rets (rs := [.cell 2 64, .tmp 3]) (vs := [.agg #[str ([]), str ([]), .slice none 0 0], .bool (false)]) rfl (.slice none 0 0) ⟨resV_box (.agg #[str ([]), str ([]), .slice none 0 0]) rfl ty_64 (.tail _ (.head _)) rfl (by decide) rfl, resV_tmp rfl, trivial⟩ rfl (show (.tuple #[.agg #[str ((parseT s).1.1), str ((parseT s).1.2.1), (.slice none 0 0)], .bool ((parseT s).2)] : Value) = (.tuple #[.agg #[str ([]), str ([]), .slice none 0 0], .bool (false)]) from by rw [parseT_no (s := s) h1b]) (fun w h => (fun h => by rw [parseT_no (s := s) h1b]; exact h) (Mem.front (As := [.row (.slice none 0 0) 78 (.pair .str .str) ([])]) h))
  · have h1 := (fun q => And.imp (fun q => And.imp (fun q => id (bf_not q)) of_decide_eq_false (bf_or q)) of_decide_eq_false (bf_or q)) h1b
    refine jc_skip ?_
    refine jq_then ?_
    refine jc_seq ?_
    refine jc_region ?_
    refine jo_pure rfl (pr_load_box (.agg #[str ((parseR s).1.1), str ((parseR s).1.2.1), r1]) rfl ty_64 (.head _) rfl (by decide) rfl) ?_
    refine j_pull2 ?_
    refine jo_storeV rfl rfl ty_64 [str ((parseR s).1.1), str ((parseR s).1.2.1), r1] (fun _ _ _ _ => rfl) rfl (fun w I m hs => by simp only [List.all_cons, List.all_nil, Bool.and_true, Bool.and_eq_true]; exact ⟨rfl, rfl, (SliceV.one (row_slice (.tail _ (.tail _ (.head _))) hs))⟩) [str ((parseR s).1.1), str ((parseR s).1.2.1), r1] rfl rfl ?_
    refine jo_pure rfl (pr_assign rfl) ?_
    refine jo_nil ?_
    refine jq_then ?_
    refine jc_ret ?_
    refine j_pull1 ?_
    refine j_drop ?_
    refine j_pull1 ?_
    exact jq_rets (rs := [.cell 2 64, .tmp 3]) (vs := [.agg #[str ((parseR s).1.1), str ((parseR s).1.2.1), r1], .bool (true)]) rfl r1 ⟨resV_box (.agg #[str ((parseR s).1.1), str ((parseR s).1.2.1), r1]) rfl ty_64 (.tail _ (.head _)) rfl (by decide) rfl, resV_tmp rfl, trivial⟩ rfl (show (.tuple #[.agg #[str ((parseT s).1.1), str ((parseT s).1.2.1), r1], .bool ((parseT s).2)] : Value) = (.tuple #[.agg #[str ((parseR s).1.1), str ((parseR s).1.2.1), r1], .bool (true)]) from by rw [(parseT_yes (s := s) h1b).1, (parseT_yes (s := s) h1b).2]) (fun w h => (fun h => by rw [(parseT_yes (s := s) h1b).1]; exact h) (Mem.front (As := [.row (r1) 78 (.pair .str .str) ((parseR s).1.2.2)]) h))

theorem c_ref10_ParseType (s : List UInt8) (hs : s.length ≤ 1000000) : Con Tryd.prog 41 #[str (s)] [] (fun r1 : Value => .tuple #[.agg #[str ((parseT s).1.1), str ((parseT s).1.2.1), r1], .bool ((parseT s).2)]) (fun r1 => [.row r1 78 (.pair .str .str) ((parseT s).1.2.2)]) := by
  refine con_of_J (args := [str (s)]) (n := 25) Tryd.func41 rfl (Nat.le_of_ble_eq_true rfl) rfl (fun w0 I0 m0 => ?_)
  show J _ [(0, str (s))] [] _
  refine jc_seq ?_
  refine jc_region ?_
  refine jo_alloc ty_64 [str ([]), str ([]), .slice none 0 0] rfl rfl (fun b1 => ?_)
  refine jo_pure rfl (pr_assign rfl) ?_
  refine jo_nil ?_
  refine jq_then ?_
  refine jc_seq ?_
  refine jc_region ?_
  refine jo_pure rfl (pr_move rfl) ?_
  refine jo_callp cal_40 (c_ref10_ParseRange s (by first | omega | rfl | (have := parseP_len1 s; omega) | (have := parseP_len1 s; simp only [List.length_take, List.length_drop]; omega))) ⟨rfl, trivial⟩ rfl (trivial) (fun r1 => ?_)
  show J _ _ [.row (r1) 78 (.pair .str .str) ((parseR s).1.2.2), .box b1 64 [str ([]), str ([]), .slice none 0 0]] _
  refine jo_pure rfl (pr_move rfl) ?_
  refine jo_pure rfl (pr_extract rfl rfl) ?_
  refine jo_pure rfl (pr_extract rfl rfl) ?_
  refine jo_alloc ty_64 [str ([]), str ([]), .slice none 0 0] rfl rfl (fun b2 => ?_)
  refine jo_storeV rfl rfl ty_64 [str ((parseR s).1.1), str ((parseR s).1.2.1), r1] (fun _ _ _ _ => rfl) rfl (fun w I m hs => by simp only [List.all_cons, List.all_nil, Bool.and_true, Bool.and_eq_true]; exact ⟨rfl, rfl, (SliceV.one (row_slice (.tail _ (.head _)) hs))⟩) [str ((parseR s).1.1), str ((parseR s).1.2.1), r1] rfl rfl ?_
  refine jo_pure rfl (pr_assign rfl) ?_
  refine jo_nil ?_
  refine jq_then ?_
  refine jc_seq ?_
  refine jc_seq ?_
  refine jc_region ?_
  refine jo_pure rfl (pr_move rfl) ?_
  refine jo_pure rfl (pr_not rfl) ?_
  refine jo_pure rfl (pr_move rfl) ?_
  refine jo_gpure (j := 2) (want := false) rfl rfl rfl rfl (fun hg => pr_fieldAddr 0 rfl Tryd.underlying64 rfl ty_9 rfl rfl) ?_
  refine jo_gpure (j := 2) (want := false) rfl rfl rfl rfl (fun hg => pr_load_box (str ((parseR s).1.1)) (evg rfl hg) ty_9 (.head _) rfl (by decide) rfl) ?_
  refine jo_gpure (j := 2) (want := false) rfl rfl rfl rfl (fun hg => pr_seql (evg rfl hg) rfl) ?_
  refine jo_pure rfl (pr_pick_or rfl rfl rfl) ?_
  refine jo_pure rfl (pr_move rfl) ?_
  refine jo_gpure (j := 7) (want := false) rfl rfl rfl rfl (fun hg => pr_fieldAddr 1 rfl Tryd.underlying64 rfl ty_9 rfl rfl) ?_
  refine jo_gpure (j := 7) (want := false) rfl rfl rfl rfl (fun hg => pr_load_box (str ((parseR s).1.2.1)) (evg rfl hg) ty_9 (.head _) rfl (by decide) rfl) ?_
  refine jo_gpure (j := 7) (want := false) rfl rfl rfl rfl (fun hg => pr_seql (evg rfl hg) rfl) ?_
  refine jo_pure rfl (pr_pick_or rfl rfl rfl) ?_
  refine jo_nil ?_
  refine jq_then ?_
  refine jc_cond rfl (fun h1b => ?_) (fun h1b => ?_)
  · have h1 := (fun q => Or.imp (fun q => Or.imp (fun q => id (bt_not q)) of_decide_eq_true (bt_or q)) of_decide_eq_true (bt_or q)) h1b
    refine jc_seq ?_
    refine jc_region ?_
    refine jo_pure rfl (pr_build [] [str ([]), str ([]), .slice none 0 0] (fun a hf => by simp) (by kernel_rfl)) ?_
    refine j_pull2 ?_
    refine jo_store rfl rfl ty_64 [str ([]), str ([]), .slice none 0 0] rfl rfl rfl [str ([]), str ([]), .slice none 0 0] rfl rfl ?_
    refine jo_pure rfl (pr_assign rfl) ?_
    refine jo_nil ?_
    refine jq_then ?_
    refine jc_ret ?_
    refine jq_then_ret ?_
    refine j_nil_row 78 (.pair .str .str) ?_
    refine j_pull2 ?_
    refine j_drop ?_
    refine j_pull2 ?_
    refine j_drop ?_
    refine j_pull1 ?_
    refine j_pull1 ?_
    exact jq_rets (rs := [.cell 2 64, .tmp 3]) (vs := [.agg #[str ([]), str ([]), .slice none 0 0], .bool (false)]) rfl (.slice none 0 0) ⟨resV_box (.agg #[str ([]), str ([]), .slice none 0 0]) rfl ty_64 (.tail _ (.head _)) rfl (by decide) rfl, resV_tmp rfl, trivial⟩ rfl (show (.tuple #[.agg #[str ((parseT s).1.1), str ((parseT s).1.2.1), (.slice none 0 0)], .bool ((parseT s).2)] : Value) = (.tuple #[.agg #[str ([]), str ([]), .slice none 0 0], .bool (false)]) from by rw [parseT_no (s := s) h1b]) (fun w h => (fun h => by rw [parseT_no (s := s) h1b]; exact h) (Mem.front (As := [.row (.slice none 0 0) 78 (.pair .str .str) ([])]) h))
  · have h1 := (fun q => And.imp (fun q => And.imp (fun q => id (bf_not q)) of_decide_eq_false (bf_or q)) of_decide_eq_false (bf_or q)) h1b
    refine jc_skip ?_
    refine jq_then ?_
    refine jc_seq ?_
    refine jc_region ?_
    refine jo_pure rfl (pr_load_box (.agg #[str ((parseR s).1.1), str ((parseR s).1.2.1), r1]) rfl ty_64 (.head _) rfl (by decide) rfl) ?_
    refine j_pull2 ?_
    refine jo_storeV rfl rfl ty_64 [str ((parseR s).1.1), str ((parseR s).1.2.1), r1] (fun _ _ _ _ => rfl) rfl (fun w I m hs => by simp only [List.all_cons, List.all_nil, Bool.and_true, Bool.and_eq_true]; exact ⟨rfl, rfl, (SliceV.one (row_slice (.tail _ (.tail _ (.head _))) hs))⟩) [str ((parseR s).1.1), str ((parseR s).1.2.1), r1] rfl rfl ?_
    refine jo_pure rfl (pr_assign rfl) ?_
    refine jo_nil ?_
    refine jq_then ?_
    refine jc_ret ?_
    refine j_pull1 ?_
    refine j_drop ?_
    refine j_pull1 ?_
    exact jq_rets (rs := [.cell 2 64, .tmp 3]) (vs := [.agg #[str ((parseR s).1.1), str ((parseR s).1.2.1), r1], .bool (true)]) rfl r1 ⟨resV_box (.agg #[str ((parseR s).1.1), str ((parseR s).1.2.1), r1]) rfl ty_64 (.tail _ (.head _)) rfl (by decide) rfl, resV_tmp rfl, trivial⟩ rfl (show (.tuple #[.agg #[str ((parseT s).1.1), str ((parseT s).1.2.1), r1], .bool ((parseT s).2)] : Value) = (.tuple #[.agg #[str ((parseR s).1.1), str ((parseR s).1.2.1), r1], .bool (true)]) from by rw [(parseT_yes (s := s) h1b).1, (parseT_yes (s := s) h1b).2]) (fun w h => (fun h => by rw [(parseT_yes (s := s) h1b).1]; exact h) (Mem.front (As := [.row (r1) 78 (.pair .str .str) ((parseR s).1.2.2)]) h))

theorem c_mediatype_Format (t : (List UInt8) × (List UInt8) × (List ((List UInt8) × (List UInt8)))) (tv : Value) (hl : t.2.2.length ≤ 1000000) (hm : ∀ x ∈ t.2.2, x.1.length ≤ 1000000 ∧ x.2.length ≤ 1000000) (h1 : t.1.length ≤ 400000) (h2 : t.2.1.length ≤ 400000) : Con Tryd.prog 88 #[.agg #[str (t.1), str (t.2.1), tv]] [.imm (.list (.pair .str .str)) (tv) (t.2.2)] (fun _ : Unit => str (formatT t)) (fun _ => []) := by
  refine con_of_J (args := [.agg #[str (t.1), str (t.2.1), tv]]) (n := 12) Tryd.func88 rfl (Nat.le_of_ble_eq_true rfl) rfl (fun w0 I0 m0 => ?_)
  show J _ [(0, .agg #[str (t.1), str (t.2.1), tv])] [.imm (.list (.pair .str .str)) (tv) (t.2.2)] _
  refine jc_seq ?_
  refine jc_region ?_
  refine jo_box rfl [str (t.1), str (t.2.1), tv] rfl rfl (fun b1 => ?_)
  refine jo_pure rfl (pr_assign rfl) ?_
  refine jo_nil ?_
  refine jq_then ?_
  refine jc_seq ?_
  refine jc_region ?_
  refine jo_pure rfl (pr_fieldAddr 0 rfl Tryd.underlying64 rfl ty_9 rfl rfl) ?_
  refine jo_pure rfl (pr_load_box (str (t.1)) rfl ty_9 (.head _) rfl (by decide) rfl) ?_
  refine jo_pure rfl (pr_sadd rfl rfl (by simp only [List.length_append, List.length_cons, List.length_nil]; omega)) ?_
  refine jo_pure rfl (pr_fieldAddr 1 rfl Tryd.underlying64 rfl ty_9 rfl rfl) ?_
  refine jo_pure rfl (pr_load_box (str (t.2.1)) rfl ty_9 (.head _) rfl (by decide) rfl) ?_
  refine jo_pure rfl (pr_sadd rfl rfl (by simp only [List.length_append, List.length_cons, List.length_nil]; omega)) ?_
  refine jo_pure rfl (pr_fieldAddr 2 rfl Tryd.underlying64 rfl ty_62 rfl rfl) ?_
  refine jo_pure rfl (pr_load_box (tv) rfl ty_62 (.head _) rfl (by decide) rfl) ?_
  refine jo_callp cal_110 (c_param_Format ((t.1 ++ [47]) ++ t.2.1) t.2.2 tv (by first | omega | exact hm | (simp only [List.length_append, List.length_cons, List.length_nil]; omega)) (by first | omega | exact hm | (simp only [List.length_append, List.length_cons, List.length_nil]; omega)) (by first | omega | exact hm | (simp only [List.length_append, List.length_cons, List.length_nil]; omega))) ⟨rfl, rfl, trivial⟩ rfl (⟨⟨rfl, .tail _ (.head _)⟩, trivial⟩) (fun _ => ?_)
  refine jo_pure rfl (pr_assign rfl) ?_
  refine jo_nil ?_
  refine jq_then ?_
  refine jc_ret ?_
  refine j_drop ?_
  refine j_drop ?_
  exact jq_ret1 rfl () rfl (show (str (formatT t) : Value) = (str (formatP ((t.1 ++ [47]) ++ t.2.1) t.2.2)) from rfl) (fun _ h => h)

theorem c_mediatype_contains (l : List ((List UInt8) × (List UInt8))) (lv : Value) (p : (List UInt8) × (List UInt8)) (hl : l.length ≤ 1000000) (hm : ∀ x ∈ l, x.1.length ≤ 1000000 ∧ x.2.length ≤ 1000000) (hp : p.2.length ≤ 1000000) : Con Tryd.prog 93 #[lv, .agg #[str (p.1), str (p.2)]] [.imm (.list (.pair .str .str)) (lv) (l)] (fun _ : Unit => .bool (l.any (matchB p))) (fun _ => []) := by
  refine con_of_J (args := [lv, .agg #[str (p.1), str (p.2)]]) (n := 26) Tryd.func93 rfl (Nat.le_of_ble_eq_true rfl) rfl (fun w0 I0 m0 => ?_)
  show J _ [(0, lv), (1, .agg #[str (p.1), str (p.2)])] [.imm (.list (.pair .str .str)) (lv) (l)] _
  refine jc_seq ?_
  refine jc_region ?_
  refine jo_box rfl [str (p.1), str (p.2)] rfl rfl (fun b1 => ?_)
  refine jo_pure rfl (pr_assign rfl) ?_
  refine jo_nil ?_
  refine jq_then ?_
  refine jc_seq ?_
  refine jc_seq ?_
  refine jc_region ?_
  refine jo_pure rfl (pr_move rfl) ?_
  refine jo_pure rfl (pr_len_imm rfl (.tail _ (.head _)) Tryd.underlying62) ?_
  refine jo_pure rfl (pr_move rfl) ?_
  refine jo_nil ?_
  refine jq_then ?_
  refine jc_block ?_
  refine jc_loop (fun (i : Nat) => [(3, .pointer (some ⟨b1, 0, none⟩)), (7, lv), (8, .int .i64 ((l.length : Nat) : Int)), (9, .int .i64 ((i : Nat) : Int))]) (fun (i : Nat) => [.box b1 78 [str (p.1), str (p.2)], .imm (.list (.pair .str .str)) (lv) (l)]) (fun (i : Nat) => i ≤ l.length ∧ (l.take i).any (matchB p) = false) (fun (i : Nat) => l.length - i) 0 (⟨Nat.zero_le _, rfl⟩) (⟨rfl, rfl, rfl, rfl, trivial⟩) (fun _ h => h) (fun i hinv => ?_)
  refine jc_seq ?_
  refine jc_region ?_
  refine jo_pure rfl (pr_lssN (m := i) (n := l.length) rfl rfl) ?_
  refine jo_nil ?_
  refine jq_then ?_
  refine jc_seq ?_
  refine jc_cond rfl (fun h1b => ?_) (fun h1b => ?_)
  · have h1 := of_decide_eq_true h1b
    refine jc_skip ?_
    refine jq_then ?_
    refine jc_seq ?_
    refine jc_block ?_
    refine jc_seq ?_
    refine jc_region ?_
    refine jo_pure rfl (pr_idx_imm (i := i) rfl (.tail _ (.head _)) rfl Tryd.underlying62 ty_78 (by omega)) ?_
    refine jo_pure rfl (pr_load_elem_imm (i := i) (.agg #[str ((l.getD i ([], [])).1), str ((l.getD i ([], [])).2)]) rfl (.tail _ (.head _)) ty_78 rfl rfl (by omega) rfl) ?_
    refine jo_alloc ty_78 [str ([]), str ([])] rfl rfl (fun b2 => ?_)
    refine jo_store rfl rfl ty_78 [str ((l.getD i ([], [])).1), str ((l.getD i ([], [])).2)] rfl rfl rfl [str ((l.getD i ([], [])).1), str ((l.getD i ([], [])).2)] rfl rfl ?_
    refine jo_nil ?_
    refine jq_then ?_
    refine jc_seq ?_
    refine jc_region ?_
    refine jo_pure rfl (pr_fieldAddr 0 rfl Tryd.underlying78 rfl ty_9 rfl rfl) ?_
    refine jo_pure rfl (pr_load_box (str ((l.getD i ([], [])).1)) rfl ty_9 (.head _) rfl (by decide) rfl) ?_
    refine jo_pure rfl (pr_fieldAddr 0 rfl Tryd.underlying78 rfl ty_9 rfl rfl) ?_
    refine jo_pure rfl (pr_load_box (str (p.1)) rfl ty_9 (.tail _ (.head _)) rfl (by decide) rfl) ?_
    refine jo_pure rfl (pr_seql rfl rfl) ?_
    refine jo_pure rfl (pr_move rfl) ?_
    refine jo_gpure (j := 5) (want := true) rfl rfl rfl rfl (fun hg => pr_fieldAddr 1 rfl Tryd.underlying78 rfl ty_9 rfl rfl) ?_
    refine jo_gpure (j := 5) (want := true) rfl rfl rfl rfl (fun hg => pr_load_box (str ((l.getD i ([], [])).2)) (evg rfl hg) ty_9 (.head _) rfl (by decide) rfl) ?_
    refine jo_gpure (j := 5) (want := true) rfl rfl rfl rfl (fun hg => pr_fieldAddr 1 rfl Tryd.underlying78 rfl ty_9 rfl rfl) ?_
    refine jo_gpure (j := 5) (want := true) rfl rfl rfl rfl (fun hg => pr_load_box (str (p.2)) (evg rfl hg) ty_9 (.tail _ (.head _)) rfl (by decide) rfl) ?_
    refine jo_gcall (j := 5) (want := true) rfl rfl rfl cal_34 (fun hg => c_ascii_Fold ((l.getD i ([], [])).2) p.2 (by first | omega | exact (hm _ (getD_mem h1)).2) (by first | omega | exact (hm _ (getD_mem h1)).2)) (fun hg => ⟨evg rfl hg, evg rfl hg, trivial⟩) rfl (fun _ => trivial) ?_
    refine jo_pure rfl (pr_pick_and rfl rfl rfl) ?_
    refine jo_nil ?_
    refine jq_then ?_
    refine jc_cond rfl (fun h2b => ?_) (fun h2b => ?_)
    · have h2 := (fun q => And.imp of_decide_eq_true id (bt_and q)) h2b
      refine jc_seq ?_
      refine jc_region ?_
      refine jo_pure rfl (pr_assign rfl) ?_
      refine jo_nil ?_
      refine jq_then ?_
      refine jc_ret ?_
      refine jq_in_ret ?_
      refine jq_then_ret ?_
      refine jq_then_ret ?_
      refine jq_in_ret ?_
      refine jq_then_ret ?_
      refine j_drop ?_
      refine j_drop ?_
      refine j_drop ?_
      exact jq_ret1 rfl () rfl (show (.bool (l.any (matchB p)) : Value) = (.bool (true)) from congrArg Value.bool (by rw [any_hit (dd := ([], [])) h1 h2b])) (fun _ h => h)
    · have h2 := (fun q => Or.imp of_decide_eq_false id (bf_and q)) h2b
      refine jc_skip ?_
      refine jq_in_normal ?_
      refine jq_then ?_
      refine jc_region ?_
      refine jo_pure rfl (pr_addN (m := i) (n := 1) rfl rfl (by omega)) ?_
      refine jo_pure rfl (pr_move rfl) ?_
      refine jo_nil ?_
      refine j_drop ?_
      refine j_pull1 ?_
      refine j_pull1 ?_
      refine jq_round' (i + 1) (by (try dsimp only); exact (⟨by omega, any_step (dd := ([], [])) h1 hinv.2 h2b⟩)) (by (try dsimp only); exact (by omega)) ⟨rfl, rfl, rfl, rfl, trivial⟩ (fun _ h => h)
  · have h1 := of_decide_eq_false h1b
    refine jc_exit ?_
    refine jq_then_exit ?_
    refine jq_then_exit ?_
    refine jq_in_hit ?_
    refine jq_then ?_
    refine jc_seq ?_
    refine jc_region ?_
    refine jo_pure rfl (pr_assign rfl) ?_
    refine jo_nil ?_
    refine jq_then ?_
    refine jc_ret ?_
    refine j_drop ?_
    refine j_drop ?_
    exact jq_ret1 rfl () rfl (show (.bool (l.any (matchB p)) : Value) = (.bool (false)) from congrArg Value.bool (by rw [any_end (by omega) hinv.2])) (fun _ h => h)

theorem c_mediatype_Match (r : (List UInt8) × (List UInt8) × (List ((List UInt8) × (List UInt8)))) (rv : Value) (t : (List UInt8) × (List UInt8) × (List ((List UInt8) × (List UInt8)))) (tv : Value) (hl : r.2.2.length ≤ 1000000) (hm : ∀ x ∈ r.2.2, x.1.length ≤ 1000000 ∧ x.2.length ≤ 1000000) (hl2 : t.2.2.length ≤ 1000000) (hm2 : ∀ x ∈ t.2.2, x.1.length ≤ 1000000 ∧ x.2.length ≤ 1000000) : Con Tryd.prog 62 #[.agg #[str (r.1), str (r.2.1), rv], .agg #[str (t.1), str (t.2.1), tv]] [.imm (.list (.pair .str .str)) (rv) (r.2.2), .imm (.list (.pair .str .str)) (tv) (t.2.2)] (fun _ : Unit => .int .i64 (matchT r t)) (fun _ => []) := by
  refine con_of_J (args := [.agg #[str (r.1), str (r.2.1), rv], .agg #[str (t.1), str (t.2.1), tv]]) (n := 57) Tryd.func62 rfl (Nat.le_of_ble_eq_true rfl) rfl (fun w0 I0 m0 => ?_)
  show J _ [(0, .agg #[str (r.1), str (r.2.1), rv]), (1, .agg #[str (t.1), str (t.2.1), tv])] [.imm (.list (.pair .str .str)) (rv) (r.2.2), .imm (.list (.pair .str .str)) (tv) (t.2.2)] _
  refine jc_seq ?_
  refine jc_region ?_
  refine jo_box rfl [str (r.1), str (r.2.1), rv] rfl rfl (fun b1 => ?_)
  refine jo_box rfl [str (t.1), str (t.2.1), tv] rfl rfl (fun b2 => ?_)
  refine jo_pure rfl (pr_assign rfl) ?_
  refine jo_nil ?_
  refine jq_then ?_
  refine jc_seq ?_
  refine jc_block ?_
  refine jc_seq ?_
  refine jc_region ?_
  refine jo_pure rfl (pr_fieldAddr 0 rfl Tryd.underlying64 rfl ty_9 rfl rfl) ?_
  refine jo_pure rfl (pr_load_box (str (r.1)) rfl ty_9 (.tail _ (.head _)) rfl (by decide) rfl) ?_
  refine jo_pure rfl (pr_seql rfl rfl) ?_
  refine jo_pure rfl (pr_move rfl) ?_
  refine jo_gpure (j := 3) (want := true) rfl rfl rfl rfl (fun hg => pr_fieldAddr 1 rfl Tryd.underlying64 rfl ty_9 rfl rfl) ?_
  refine jo_gpure (j := 3) (want := true) rfl rfl rfl rfl (fun hg => pr_load_box (str (r.2.1)) (evg rfl hg) ty_9 (.tail _ (.head _)) rfl (by decide) rfl) ?_
  refine jo_gpure (j := 3) (want := true) rfl rfl rfl rfl (fun hg => pr_seql (evg rfl hg) rfl) ?_
  refine jo_pure rfl (pr_pick_and rfl rfl rfl) ?_
  refine jo_pure rfl (pr_assign rfl) ?_
  refine jo_nil ?_
  refine jq_then ?_
  refine jc_cond rfl (fun h1b => ?_) (fun h1b => ?_)
  · have h1 := (fun q => And.imp of_decide_eq_true of_decide_eq_true (bt_and q)) h1b
    refine jc_seq ?_
    refine jc_region ?_
    refine jo_pure rfl (pr_assign rfl) ?_
    refine jo_nil ?_
    refine jq_then ?_
    refine jc_ret ?_
    refine jq_in_ret ?_
    refine jq_then_ret ?_
    refine j_drop ?_
    refine j_drop ?_
    refine j_drop ?_
    refine j_drop ?_
    exact jq_ret1 rfl () rfl (show (.int .i64 (matchT r t) : Value) = (.int .i64 ((0 : Nat) : Int)) from congrArg (Value.int .i64) (by rw [matchT, if_pos h1]; first | done | rfl)) (fun _ h => h)
  · have h1 := (fun q => Or.imp of_decide_eq_false of_decide_eq_false (bf_and q)) h1b
    refine jc_seq ?_
    refine jc_region ?_
    refine jo_pure rfl (pr_fieldAddr 1 rfl Tryd.underlying64 rfl ty_9 rfl rfl) ?_
    refine jo_pure rfl (pr_load_box (str (r.2.1)) rfl ty_9 (.tail _ (.head _)) rfl (by decide) rfl) ?_
    refine jo_pure rfl (pr_seql rfl rfl) ?_
    refine jo_pure rfl (pr_move rfl) ?_
    refine jo_gpure (j := 3) (want := true) rfl rfl rfl rfl (fun hg => pr_fieldAddr 0 rfl Tryd.underlying64 rfl ty_9 rfl rfl) ?_
    refine jo_gpure (j := 3) (want := true) rfl rfl rfl rfl (fun hg => pr_load_box (str (r.1)) (evg rfl hg) ty_9 (.tail _ (.head _)) rfl (by decide) rfl) ?_
    refine jo_gpure (j := 3) (want := true) rfl rfl rfl rfl (fun hg => pr_fieldAddr 0 rfl Tryd.underlying64 rfl ty_9 rfl rfl) ?_
    refine jo_gpure (j := 3) (want := true) rfl rfl rfl rfl (fun hg => pr_load_box (str (t.1)) (evg rfl hg) ty_9 (.head _) rfl (by decide) rfl) ?_
    refine jo_gpure (j := 3) (want := true) rfl rfl rfl rfl (fun hg => pr_seql (evg rfl hg) (evg rfl hg)) ?_
    refine jo_pure rfl (pr_pick_and rfl rfl rfl) ?_
    refine jo_pure rfl (pr_assign rfl) ?_
    refine jo_nil ?_
    refine jq_then ?_
    refine jc_cond rfl (fun h2b => ?_) (fun h2b => ?_)
    · have h2 := (fun q => And.imp of_decide_eq_true of_decide_eq_true (bt_and q)) h2b
      refine jc_seq ?_
      refine jc_region ?_
      refine jo_pure rfl (pr_assign rfl) ?_
      refine jo_nil ?_
      refine jq_then ?_
      refine jc_ret ?_
      refine jq_in_ret ?_
      refine jq_then_ret ?_
      refine j_drop ?_
      refine j_drop ?_
      refine j_drop ?_
      refine j_drop ?_
      exact jq_ret1 rfl () rfl (show (.int .i64 (matchT r t) : Value) = (.int .i64 ((1 : Nat) : Int)) from congrArg (Value.int .i64) (by rw [matchT, if_neg (fun e => by rcases h1 with h | h; exact h e.1; exact h e.2), if_neg (not_not.2 h2.2), if_pos h2.1]; first | done | rfl)) (fun _ h => h)
    · have h2 := (fun q => Or.imp of_decide_eq_false of_decide_eq_false (bf_and q)) h2b
      refine jc_seq ?_
      refine jc_region ?_
      refine jo_pure rfl (pr_fieldAddr 0 rfl Tryd.underlying64 rfl ty_9 rfl rfl) ?_
      refine jo_pure rfl (pr_load_box (str (r.1)) rfl ty_9 (.tail _ (.head _)) rfl (by decide) rfl) ?_
      refine jo_pure rfl (pr_fieldAddr 0 rfl Tryd.underlying64 rfl ty_9 rfl rfl) ?_
      refine jo_pure rfl (pr_load_box (str (t.1)) rfl ty_9 (.head _) rfl (by decide) rfl) ?_
      refine jo_pure rfl (pr_sneq rfl rfl) ?_
      refine jo_pure rfl (pr_move rfl) ?_
      refine jo_gpure (j := 5) (want := false) rfl rfl rfl rfl (fun hg => pr_fieldAddr 1 rfl Tryd.underlying64 rfl ty_9 rfl rfl) ?_
      refine jo_gpure (j := 5) (want := false) rfl rfl rfl rfl (fun hg => pr_load_box (str (r.2.1)) (evg rfl hg) ty_9 (.tail _ (.head _)) rfl (by decide) rfl) ?_
      refine jo_gpure (j := 5) (want := false) rfl rfl rfl rfl (fun hg => pr_fieldAddr 1 rfl Tryd.underlying64 rfl ty_9 rfl rfl) ?_
      refine jo_gpure (j := 5) (want := false) rfl rfl rfl rfl (fun hg => pr_load_box (str (t.2.1)) (evg rfl hg) ty_9 (.head _) rfl (by decide) rfl) ?_
      refine jo_gpure (j := 5) (want := false) rfl rfl rfl rfl (fun hg => pr_sneq (evg rfl hg) (evg rfl hg)) ?_
      refine jo_pure rfl (pr_pick_or rfl rfl rfl) ?_
      refine jo_pure rfl (pr_assign rfl) ?_
      refine jo_nil ?_
      refine jq_then ?_
      refine jc_cond rfl (fun h3b => ?_) (fun h3b => ?_)
      · have h3 := (fun q => Or.imp (fun q => of_decide_eq_false (bt_not q)) (fun q => of_decide_eq_false (bt_not q)) (bt_or q)) h3b
        refine jc_seq ?_
        refine jc_region ?_
        refine jo_pure rfl (pr_assign rfl) ?_
        refine jo_nil ?_
        refine jq_then ?_
        refine jc_ret ?_
        refine jq_in_ret ?_
        refine jq_then_ret ?_
        refine j_drop ?_
        refine j_drop ?_
        refine j_drop ?_
        refine j_drop ?_
        exact jq_ret1 rfl () rfl (show (.int .i64 (matchT r t) : Value) = (.int .i64 (-1)) from congrArg (Value.int .i64) (by rw [matchT_no2 h1 h2 h3]; first | done | rfl)) (fun _ h => h)
      · have h3 := (fun q => And.imp (fun q => of_decide_eq_true (bf_not q)) (fun q => of_decide_eq_true (bf_not q)) (bf_or q)) h3b
        have ha : ¬ (r.1 = [42] ∧ r.2.1 = [42]) := fun e => by rcases h1 with h | h; exact h e.1; exact h e.2
        have hb : ¬ r.2.1 = [42] := fun e => by rcases h2 with h | h; exact h e; exact h h3.1
        refine jc_skip ?_
        refine jq_in_normal ?_
        refine jq_then ?_
        refine jc_seq ?_
        refine jc_seq ?_
        refine jc_region ?_
        refine jo_pure rfl (pr_fieldAddr 2 rfl Tryd.underlying64 rfl ty_62 rfl rfl) ?_
        refine jo_pure rfl (pr_load_box (rv) rfl ty_62 (.tail _ (.head _)) rfl (by decide) rfl) ?_
        refine jo_pure rfl (pr_len_imm rfl (.tail _ (.tail _ (.head _))) Tryd.underlying62) ?_
        refine jo_pure rfl (pr_move rfl) ?_
        refine jo_nil ?_
        refine jq_then ?_
        refine jc_block ?_
        refine jc_loop (fun (i : Nat) => [(2, .pointer (some ⟨b1, 0, none⟩)), (3, .pointer (some ⟨b2, 0, none⟩)), (41, rv), (42, .int .i64 ((r.2.2.length : Nat) : Int)), (43, .int .i64 ((i : Nat) : Int))]) (fun (i : Nat) => [.box b2 64 [str (t.1), str (t.2.1), tv], .box b1 64 [str (r.1), str (r.2.1), rv], .imm (.list (.pair .str .str)) (rv) (r.2.2), .imm (.list (.pair .str .str)) (tv) (t.2.2)]) (fun (i : Nat) => i ≤ r.2.2.length ∧ (r.2.2.take i).all (fun p => t.2.2.any (matchB p)) = true) (fun (i : Nat) => r.2.2.length - i) 0 (⟨Nat.zero_le _, rfl⟩) (⟨rfl, rfl, rfl, rfl, rfl, trivial⟩) (fun _ h => h) (fun i hinv => ?_)
        refine jc_seq ?_
        refine jc_region ?_
        refine jo_pure rfl (pr_lssN (m := i) (n := r.2.2.length) rfl rfl) ?_
        refine jo_nil ?_
        refine jq_then ?_
        refine jc_seq ?_
        refine jc_cond rfl (fun h4b => ?_) (fun h4b => ?_)
        · have h4 := of_decide_eq_true h4b
          refine jc_skip ?_
          refine jq_then ?_
          refine jc_seq ?_
          refine jc_block ?_
          refine jc_seq ?_
          refine jc_region ?_
          refine jo_pure rfl (pr_idx_imm (i := i) rfl (.tail _ (.tail _ (.head _))) rfl Tryd.underlying62 ty_78 (by omega)) ?_
          refine jo_pure rfl (pr_load_elem_imm (i := i) (.agg #[str ((r.2.2.getD i ([], [])).1), str ((r.2.2.getD i ([], [])).2)]) rfl (.tail _ (.tail _ (.head _))) ty_78 rfl rfl (by omega) rfl) ?_
          refine jo_alloc ty_78 [str ([]), str ([])] rfl rfl (fun b3 => ?_)
          refine jo_store rfl rfl ty_78 [str ((r.2.2.getD i ([], [])).1), str ((r.2.2.getD i ([], [])).2)] rfl rfl rfl [str ((r.2.2.getD i ([], [])).1), str ((r.2.2.getD i ([], [])).2)] rfl rfl ?_
          refine jo_nil ?_
          refine jq_then ?_
          refine jc_seq ?_
          refine jc_region ?_
          refine jo_pure rfl (pr_fieldAddr 2 rfl Tryd.underlying64 rfl ty_62 rfl rfl) ?_
          refine jo_pure rfl (pr_load_box (tv) rfl ty_62 (.tail _ (.head _)) rfl (by decide) rfl) ?_
          refine jo_pure rfl (pr_load_box (.agg #[str ((r.2.2.getD i ([], [])).1), str ((r.2.2.getD i ([], [])).2)]) rfl ty_78 (.head _) rfl (by decide) rfl) ?_
          refine jo_callp cal_93 (c_mediatype_contains t.2.2 tv (r.2.2.getD i ([], [])) (by first | omega | exact hm2 | exact (hm _ (getD_mem h4)).2) (by first | omega | exact hm2 | exact (hm _ (getD_mem h4)).2) (by first | omega | exact hm2 | exact (hm _ (getD_mem h4)).2)) ⟨rfl, rfl, trivial⟩ rfl (⟨⟨rfl, .tail _ (.tail _ (.tail _ (.tail _ (.head _))))⟩, trivial⟩) (fun _ => ?_)
          refine jo_pure rfl (pr_not rfl) ?_
          refine jo_nil ?_
          refine jq_then ?_
          refine jc_cond rfl (fun h5b => ?_) (fun h5b => ?_)
          · have h5 := (fun q => id (bt_not q)) h5b
            refine jc_seq ?_
            refine jc_region ?_
            refine jo_pure rfl (pr_assign rfl) ?_
            refine jo_nil ?_
            refine jq_then ?_
            refine jc_ret ?_
            refine jq_in_ret ?_
            refine jq_then_ret ?_
            refine jq_then_ret ?_
            refine jq_in_ret ?_
            refine jq_then_ret ?_
            refine j_drop ?_
            refine j_drop ?_
            refine j_drop ?_
            refine j_drop ?_
            refine j_drop ?_
            exact jq_ret1 rfl () rfl (show (.int .i64 (matchT r t) : Value) = (.int .i64 (-1)) from congrArg (Value.int .i64) (by rw [matchT, if_neg ha, if_neg (not_not.2 h3.1), if_neg hb, if_neg (not_not.2 h3.2), if_neg]; rw [all_miss (dd := ([], [])) h4 (by simpa using h5)]; simp; first | done | rfl)) (fun _ h => h)
          · have h5 := (fun q => id (bf_not q)) h5b
            refine jc_skip ?_
            refine jq_in_normal ?_
            refine jq_then ?_
            refine jc_region ?_
            refine jo_pure rfl (pr_addN (m := i) (n := 1) rfl rfl (by omega)) ?_
            refine jo_pure rfl (pr_move rfl) ?_
            refine jo_nil ?_
            refine j_drop ?_
            refine j_pull3 ?_
            refine j_pull3 ?_
            refine j_pull3 ?_
            refine j_pull3 ?_
            refine jq_round' (i + 1) (by (try dsimp only); exact (⟨by omega, all_step (dd := ([], [])) h4 hinv.2 (by simpa using h5)⟩)) (by (try dsimp only); exact (by omega)) ⟨rfl, rfl, rfl, rfl, rfl, trivial⟩ (fun _ h => h)
        · have h4 := of_decide_eq_false h4b
          refine jc_exit ?_
          refine jq_then_exit ?_
          refine jq_then_exit ?_
          refine jq_in_hit ?_
          refine jq_then ?_
          refine jc_seq ?_
          refine jc_region ?_
          refine jo_pure rfl (pr_fieldAddr 2 rfl Tryd.underlying64 rfl ty_62 rfl rfl) ?_
          refine jo_pure rfl (pr_load_box (rv) rfl ty_62 (.tail _ (.head _)) rfl (by decide) rfl) ?_
          refine jo_pure rfl (pr_len_imm rfl (.tail _ (.tail _ (.head _))) Tryd.underlying62) ?_
          refine jo_pure rfl (pr_addN (m := 2) (n := r.2.2.length) rfl rfl (by omega)) ?_
          refine jo_pure rfl (pr_assign rfl) ?_
          refine jo_nil ?_
          refine jq_then ?_
          refine jc_ret ?_
          refine j_drop ?_
          refine j_drop ?_
          refine j_drop ?_
          refine j_drop ?_
          exact jq_ret1 rfl () rfl (show (.int .i64 (matchT r t) : Value) = (.int .i64 ((2 + r.2.2.length : Nat) : Int)) from congrArg (Value.int .i64) (by rw [matchT, if_neg ha, if_neg (not_not.2 h3.1), if_neg hb, if_neg (not_not.2 h3.2), if_pos (all_end (by omega) hinv.2)]; first | done | rfl)) (fun _ h => h)

theorem c_ref10_MatchType (r : (List UInt8) × (List UInt8) × (List ((List UInt8) × (List UInt8)))) (rv : Value) (t : (List UInt8) × (List UInt8) × (List ((List UInt8) × (List UInt8)))) (tv : Value) (hl : r.2.2.length ≤ 1000000) (hm : ∀ x ∈ r.2.2, x.1.length ≤ 1000000 ∧ x.2.length ≤ 1000000) (hl2 : t.2.2.length ≤ 1000000) (hm2 : ∀ x ∈ t.2.2, x.1.length ≤ 1000000 ∧ x.2.length ≤ 1000000) : Con Tryd.prog 42 #[.agg #[str (r.1), str (r.2.1), rv], .agg #[str (t.1), str (t.2.1), tv]] [.imm (.list (.pair .str .str)) (rv) (r.2.2), .imm (.list (.pair .str .str)) (tv) (t.2.2)] (fun _ : Unit => .int .i64 (matchT r t)) (fun _ => []) := by
  refine con_of_J (args := [.agg #[str (r.1), str (r.2.1), rv], .agg #[str (t.1), str (t.2.1), tv]]) (n := 80) Tryd.func42 rfl (Nat.le_of_ble_eq_true rfl) rfl (fun w0 I0 m0 => ?_)
  show J _ [(0, .agg #[str (r.1), str (r.2.1), rv]), (1, .agg #[str (t.1), str (t.2.1), tv])] [.imm (.list (.pair .str .str)) (rv) (r.2.2), .imm (.list (.pair .str .str)) (tv) (t.2.2)] _
  refine jc_seq ?_
  refine jc_region ?_
  refine jo_box rfl [str (r.1), str (r.2.1), rv] rfl rfl (fun b1 => ?_)
  refine jo_box rfl [str (t.1), str (t.2.1), tv] rfl rfl (fun b2 => ?_)
  refine jo_pure rfl (pr_assign rfl) ?_
  refine jo_nil ?_
  refine jq_then ?_
  refine jc_seq ?_
  refine jc_seq ?_
  refine jc_region ?_
  refine jo_pure rfl (pr_fieldAddr 0 rfl Tryd.underlying64 rfl ty_9 rfl rfl) ?_
  refine jo_pure rfl (pr_load_box (str (r.1)) rfl ty_9 (.tail _ (.head _)) rfl (by decide) rfl) ?_
  refine jo_pure rfl (pr_seql rfl rfl) ?_
  refine jo_pure rfl (pr_move rfl) ?_
  refine jo_gpure (j := 3) (want := true) rfl rfl rfl rfl (fun hg => pr_fieldAddr 1 rfl Tryd.underlying64 rfl ty_9 rfl rfl) ?_
  refine jo_gpure (j := 3) (want := true) rfl rfl rfl rfl (fun hg => pr_load_box (str (r.2.1)) (evg rfl hg) ty_9 (.tail _ (.head _)) rfl (by decide) rfl) ?_
  refine jo_gpure (j := 3) (want := true) rfl rfl rfl rfl (fun hg => pr_seql (evg rfl hg) rfl) ?_
  refine jo_pure rfl (pr_pick_and rfl rfl rfl) ?_
  refine jo_nil ?_
  refine jq_then ?_
  refine jc_cond rfl (fun h1b => ?_) (fun h1b => ?_)
  · have h1 := (fun q => And.imp of_decide_eq_true of_decide_eq_true (bt_and q)) h1b
    refine jc_seq ?_
    refine jc_region ?_
    refine jo_pure rfl (pr_assign rfl) ?_
    refine jo_nil ?_
    refine jq_then ?_
    refine jc_ret ?_
    refine jq_then_ret ?_
    refine j_drop ?_
    refine j_drop ?_
    refine j_drop ?_
    refine j_drop ?_
    exact jq_ret1 rfl () rfl (show (.int .i64 (matchT r t) : Value) = (.int .i64 ((0 : Nat) : Int)) from congrArg (Value.int .i64) (by rw [matchT, if_pos h1]; first | done | rfl)) (fun _ h => h)
  · have h1 := (fun q => Or.imp of_decide_eq_false of_decide_eq_false (bf_and q)) h1b
    refine jc_skip ?_
    refine jq_then ?_
    refine jc_seq ?_
    refine jc_seq ?_
    refine jc_region ?_
    refine jo_pure rfl (pr_fieldAddr 0 rfl Tryd.underlying64 rfl ty_9 rfl rfl) ?_
    refine jo_pure rfl (pr_load_box (str (r.1)) rfl ty_9 (.tail _ (.head _)) rfl (by decide) rfl) ?_
    refine jo_pure rfl (pr_fieldAddr 0 rfl Tryd.underlying64 rfl ty_9 rfl rfl) ?_
    refine jo_pure rfl (pr_load_box (str (t.1)) rfl ty_9 (.head _) rfl (by decide) rfl) ?_
    refine jo_pure rfl (pr_sneq rfl rfl) ?_
    refine jo_nil ?_
    refine jq_then ?_
    refine jc_cond rfl (fun h2b => ?_) (fun h2b => ?_)
    · have h2 := (fun q => of_decide_eq_false (bt_not q)) h2b
      refine jc_seq ?_
      refine jc_region ?_
      refine jo_pure rfl (pr_assign rfl) ?_
      refine jo_nil ?_
      refine jq_then ?_
      refine jc_ret ?_
      refine jq_then_ret ?_
      refine j_drop ?_
      refine j_drop ?_
      refine j_drop ?_
      refine j_drop ?_
      exact jq_ret1 rfl () rfl (show (.int .i64 (matchT r t) : Value) = (.int .i64 (-1)) from congrArg (Value.int .i64) (by rw [matchT, if_neg (fun e => by rcases h1 with h | h; exact h e.1; exact h e.2), if_pos h2]; first | done | rfl)) (fun _ h => h)
    · have h2 := (fun q => of_decide_eq_true (bf_not q)) h2b
      refine jc_skip ?_
      refine jq_then ?_
      refine jc_seq ?_
      refine jc_seq ?_
      refine jc_region ?_
      refine jo_pure rfl (pr_fieldAddr 1 rfl Tryd.underlying64 rfl ty_9 rfl rfl) ?_
      refine jo_pure rfl (pr_load_box (str (r.2.1)) rfl ty_9 (.tail _ (.head _)) rfl (by decide) rfl) ?_
      refine jo_pure rfl (pr_seql rfl rfl) ?_
      refine jo_nil ?_
      refine jq_then ?_
      refine jc_cond rfl (fun h3b => ?_) (fun h3b => ?_)
      · have h3 := of_decide_eq_true h3b
        refine jc_seq ?_
        refine jc_region ?_
        refine jo_pure rfl (pr_assign rfl) ?_
        refine jo_nil ?_
        refine jq_then ?_
        refine jc_ret ?_
        refine jq_then_ret ?_
        refine j_drop ?_
        refine j_drop ?_
        refine j_drop ?_
        refine j_drop ?_
        exact jq_ret1 rfl () rfl (show (.int .i64 (matchT r t) : Value) = (.int .i64 ((1 : Nat) : Int)) from congrArg (Value.int .i64) (by rw [matchT, if_neg (fun e => by rcases h1 with h | h; exact h e.1; exact h e.2), if_neg (not_not.2 h2), if_pos h3]; first | done | rfl)) (fun _ h => h)
      · have h3 := of_decide_eq_false h3b
        refine jc_skip ?_
        refine jq_then ?_
        refine jc_seq ?_
        refine jc_seq ?_
        refine jc_region ?_
        refine jo_pure rfl (pr_fieldAddr 1 rfl Tryd.underlying64 rfl ty_9 rfl rfl) ?_
        refine jo_pure rfl (pr_load_box (str (r.2.1)) rfl ty_9 (.tail _ (.head _)) rfl (by decide) rfl) ?_
        refine jo_pure rfl (pr_fieldAddr 1 rfl Tryd.underlying64 rfl ty_9 rfl rfl) ?_
        refine jo_pure rfl (pr_load_box (str (t.2.1)) rfl ty_9 (.head _) rfl (by decide) rfl) ?_
        refine jo_pure rfl (pr_sneq rfl rfl) ?_
        refine jo_nil ?_
        refine jq_then ?_
        refine jc_cond rfl (fun h4b => ?_) (fun h4b => ?_)
        · have h4 := (fun q => of_decide_eq_false (bt_not q)) h4b
          refine jc_seq ?_
          refine jc_region ?_
          refine jo_pure rfl (pr_assign rfl) ?_
          refine jo_nil ?_
          refine jq_then ?_
          refine jc_ret ?_
          refine jq_then_ret ?_
          refine j_drop ?_
          refine j_drop ?_
          refine j_drop ?_
          refine j_drop ?_
          exact jq_ret1 rfl () rfl (show (.int .i64 (matchT r t) : Value) = (.int .i64 (-1)) from congrArg (Value.int .i64) (by rw [matchT, if_neg (fun e => by rcases h1 with h | h; exact h e.1; exact h e.2), if_neg (not_not.2 h2), if_neg h3, if_pos h4]; first | done | rfl)) (fun _ h => h)
        · have h4 := (fun q => of_decide_eq_true (bf_not q)) h4b
          have ha : ¬ (r.1 = [42] ∧ r.2.1 = [42]) := fun e => by rcases h1 with h | h; exact h e.1; exact h e.2
          refine jc_skip ?_
          refine jq_then ?_
          refine jc_seq ?_
          refine jc_seq ?_
          refine jc_region ?_
          refine jo_pure rfl (pr_assign rfl) ?_
          refine jo_nil ?_
          refine jq_then ?_
          refine jc_block ?_
          refine jc_loop (fun (i : Nat) => [(2, .pointer (some ⟨b1, 0, none⟩)), (3, .pointer (some ⟨b2, 0, none⟩)), (5, .int .i64 ((i : Nat) : Int))]) (fun (i : Nat) => [.box b2 64 [str (t.1), str (t.2.1), tv], .box b1 64 [str (r.1), str (r.2.1), rv], .imm (.list (.pair .str .str)) (rv) (r.2.2), .imm (.list (.pair .str .str)) (tv) (t.2.2)]) (fun (i : Nat) => i ≤ r.2.2.length ∧ (r.2.2.take i).all (fun p => t.2.2.any (matchB p)) = true) (fun (i : Nat) => r.2.2.length - i) 0 (⟨Nat.zero_le _, rfl⟩) (⟨rfl, rfl, rfl, trivial⟩) (fun _ h => h) (fun i hinv => ?_)
          refine jc_seq ?_
          refine jc_seq ?_
          refine jc_region ?_
          refine jo_pure rfl (pr_move rfl) ?_
          refine jo_pure rfl (pr_fieldAddr 2 rfl Tryd.underlying64 rfl ty_62 rfl rfl) ?_
          refine jo_pure rfl (pr_load_box (rv) rfl ty_62 (.tail _ (.head _)) rfl (by decide) rfl) ?_
          refine jo_pure rfl (pr_len_imm rfl (.tail _ (.tail _ (.head _))) Tryd.underlying62) ?_
          refine jo_pure rfl (pr_lssN (m := i) (n := r.2.2.length) rfl rfl) ?_
          refine jo_nil ?_
          refine jq_then ?_
          refine jc_cond rfl (fun h5b => ?_) (fun h5b => ?_)
          · have h5 := of_decide_eq_true h5b
            refine jc_skip ?_
            refine jq_then ?_
            refine jc_seq ?_
            refine jc_block ?_
            refine jc_seq ?_
            refine jc_region ?_
            refine jo_pure rfl (pr_assign rfl) ?_
            refine jo_nil ?_
            refine jq_then ?_
            refine jc_seq ?_
            refine jc_seq ?_
            refine jc_region ?_
            refine jo_pure rfl (pr_assign rfl) ?_
            refine jo_nil ?_
            refine jq_then ?_
            refine jc_block ?_
            refine jc_loop2 (fun (k : Nat) (f : Bool) => [(2, .pointer (some ⟨b1, 0, none⟩)), (3, .pointer (some ⟨b2, 0, none⟩)), (5, .int .i64 ((i : Nat) : Int)), (6, .bool (f)), (7, .int .i64 ((k : Nat) : Int))]) (fun (k : Nat) (f : Bool) => [.box b2 64 [str (t.1), str (t.2.1), tv], .box b1 64 [str (r.1), str (r.2.1), rv], .imm (.list (.pair .str .str)) (rv) (r.2.2), .imm (.list (.pair .str .str)) (tv) (t.2.2)]) (fun (k : Nat) (f : Bool) => k ≤ t.2.2.length ∧ f = (t.2.2.take k).any (matchB (r.2.2.getD i ([], [])))) (fun (k : Nat) (f : Bool) => t.2.2.length - k) 0 false (⟨Nat.zero_le _, rfl⟩) (⟨rfl, rfl, rfl, rfl, rfl, trivial⟩) (fun _ h => h) (fun k f hink => ?_)
            refine jc_seq ?_
            refine jc_seq ?_
            refine jc_region ?_
            refine jo_pure rfl (pr_move rfl) ?_
            refine jo_pure rfl (pr_fieldAddr 2 rfl Tryd.underlying64 rfl ty_62 rfl rfl) ?_
            refine jo_pure rfl (pr_load_box (tv) rfl ty_62 (.head _) rfl (by decide) rfl) ?_
            refine jo_pure rfl (pr_len_imm rfl (.tail _ (.tail _ (.tail _ (.head _)))) Tryd.underlying62) ?_
            refine jo_pure rfl (pr_lssN (m := k) (n := t.2.2.length) rfl rfl) ?_
            refine jo_nil ?_
            refine jq_then ?_
            refine jc_cond rfl (fun h6b => ?_) (fun h6b => ?_)
            · have h6 := of_decide_eq_true h6b
              refine jc_skip ?_
              refine jq_then ?_
              refine jc_seq ?_
              refine jc_block ?_
              refine jc_draws mixed (by kernel_rfl) ?_
              refine jd_pure rfl (pr_move rfl) ?_
              refine jd_pure rfl (pr_move rfl) ?_
              refine jd_gpure (j := 1) (want := false) rfl rfl rfl rfl (fun hg => pr_fieldAddr 2 rfl Tryd.underlying64 rfl ty_62 rfl rfl) ?_
              refine jd_gpure (j := 1) (want := false) rfl rfl rfl rfl (fun hg => pr_load_box (rv) (evg rfl hg) ty_62 (.tail _ (.head _)) rfl (by decide) rfl) ?_
              refine jd_gpure (j := 1) (want := false) rfl rfl rfl rfl (fun hg => pr_move rfl) ?_
              refine jd_gpure (j := 1) (want := false) rfl rfl rfl rfl (fun hg => pr_idx_imm (i := i) (evg rfl hg) (.tail _ (.tail _ (.head _))) (evg rfl hg) Tryd.underlying62 ty_78 (by omega)) ?_
              refine jd_gpure (j := 1) (want := false) rfl rfl rfl rfl (fun hg => pr_fieldAddr_imm (i := i) (evg rfl hg) (.tail _ (.tail _ (.head _))) Tryd.underlying78 rfl ty_9 rfl rfl (by omega)) ?_
              refine jd_gpure (j := 1) (want := false) rfl rfl rfl rfl (fun hg => pr_load_off_imm (i := i) (o := 0) (dd := ([], [])) (str ((r.2.2.getD i ([], [])).1)) (evg rfl hg) (.tail _ (.tail _ (.head _))) ty_9 rfl (by decide) rfl (by omega) rfl) ?_
              refine jd_gpure (j := 1) (want := false) rfl rfl rfl rfl (fun hg => pr_fieldAddr 2 rfl Tryd.underlying64 rfl ty_62 rfl rfl) ?_
              refine jd_gpure (j := 1) (want := false) rfl rfl rfl rfl (fun hg => pr_load_box (tv) (evg rfl hg) ty_62 (.head _) rfl (by decide) rfl) ?_
              refine jd_gpure (j := 1) (want := false) rfl rfl rfl rfl (fun hg => pr_move rfl) ?_
              refine jd_gpure (j := 1) (want := false) rfl rfl rfl rfl (fun hg => pr_idx_imm (i := k) (evg rfl hg) (.tail _ (.tail _ (.tail _ (.head _)))) (evg rfl hg) Tryd.underlying62 ty_78 (by omega)) ?_
              refine jd_gpure (j := 1) (want := false) rfl rfl rfl rfl (fun hg => pr_fieldAddr_imm (i := k) (evg rfl hg) (.tail _ (.tail _ (.tail _ (.head _)))) Tryd.underlying78 rfl ty_9 rfl rfl (by omega)) ?_
              refine jd_gpure (j := 1) (want := false) rfl rfl rfl rfl (fun hg => pr_load_off_imm (i := k) (o := 0) (dd := ([], [])) (str ((t.2.2.getD k ([], [])).1)) (evg rfl hg) (.tail _ (.tail _ (.tail _ (.head _)))) ty_9 rfl (by decide) rfl (by omega) rfl) ?_
              refine jd_gpure (j := 1) (want := false) rfl rfl rfl rfl (fun hg => pr_seql (evg rfl hg) (evg rfl hg)) ?_
              refine jd_gpure (j := 1) (want := false) rfl rfl rfl rfl (fun hg => pr_move (evg rfl hg)) ?_
              refine jd_gpure2 (j := 15) (want := true) rfl rfl rfl rfl (fun hg => pr_fieldAddr 2 rfl Tryd.underlying64 rfl ty_62 rfl rfl) ?_
              refine jd_gpure2 (j := 15) (want := true) rfl rfl rfl rfl (fun hg => pr_load_box (rv) (evg rfl hg) ty_62 (.tail _ (.head _)) rfl (by decide) rfl) ?_
              refine jd_gpure2 (j := 15) (want := true) rfl rfl rfl rfl (fun hg => pr_move rfl) ?_
              refine jd_gpure2 (j := 15) (want := true) rfl rfl rfl rfl (fun hg => pr_idx_imm (i := i) (evg rfl hg) (.tail _ (.tail _ (.head _))) (evg rfl hg) Tryd.underlying62 ty_78 (by omega)) ?_
              refine jd_gpure2 (j := 15) (want := true) rfl rfl rfl rfl (fun hg => pr_fieldAddr_imm (i := i) (evg rfl hg) (.tail _ (.tail _ (.head _))) Tryd.underlying78 rfl ty_9 rfl rfl (by omega)) ?_
              refine jd_gpure2 (j := 15) (want := true) rfl rfl rfl rfl (fun hg => pr_load_off_imm (i := i) (o := 1) (dd := ([], [])) (str ((r.2.2.getD i ([], [])).2)) (evg rfl hg) (.tail _ (.tail _ (.head _))) ty_9 rfl (by decide) rfl (by omega) rfl) ?_
              refine jd_gpure2 (j := 15) (want := true) rfl rfl rfl rfl (fun hg => pr_fieldAddr 2 rfl Tryd.underlying64 rfl ty_62 rfl rfl) ?_
              refine jd_gpure2 (j := 15) (want := true) rfl rfl rfl rfl (fun hg => pr_load_box (tv) (evg rfl hg) ty_62 (.head _) rfl (by decide) rfl) ?_
              refine jd_gpure2 (j := 15) (want := true) rfl rfl rfl rfl (fun hg => pr_move rfl) ?_
              refine jd_gpure2 (j := 15) (want := true) rfl rfl rfl rfl (fun hg => pr_idx_imm (i := k) (evg rfl hg) (.tail _ (.tail _ (.tail _ (.head _)))) (evg rfl hg) Tryd.underlying62 ty_78 (by omega)) ?_
              refine jd_gpure2 (j := 15) (want := true) rfl rfl rfl rfl (fun hg => pr_fieldAddr_imm (i := k) (evg rfl hg) (.tail _ (.tail _ (.tail _ (.head _)))) Tryd.underlying78 rfl ty_9 rfl rfl (by omega)) ?_
              refine jd_gpure2 (j := 15) (want := true) rfl rfl rfl rfl (fun hg => pr_load_off_imm (i := k) (o := 1) (dd := ([], [])) (str ((t.2.2.getD k ([], [])).2)) (evg rfl hg) (.tail _ (.tail _ (.tail _ (.head _)))) ty_9 rfl (by decide) rfl (by omega) rfl) ?_
              refine jd_gcall2 (j := 15) (want := true) rfl rfl rfl cal_35 (fun hg => c_ref01_Fold ((r.2.2.getD i ([], [])).2) ((t.2.2.getD k ([], [])).2) (by first | omega | exact (hm _ (getD_mem h5)).2 | exact (hm2 _ (getD_mem h6)).2) (by first | omega | exact (hm _ (getD_mem h5)).2 | exact (hm2 _ (getD_mem h6)).2)) (fun hg => ⟨evg rfl hg, evg rfl hg, trivial⟩) rfl (fun _ => trivial) ?_
              refine jd_gpure (j := 1) (want := false) rfl rfl rfl rfl (fun hg => pr_pick_and (evg rfl hg) (evg2 rfl hg) rfl) ?_
              refine jd_pure rfl (pr_pick_or rfl rfl rfl) ?_
              refine jd_pure rfl (pr_assign rfl) ?_
              refine jd_nil ?_
              refine jq_in_normal ?_
              refine jq_then ?_
              refine jc_region ?_
              refine jo_pure rfl (pr_move rfl) ?_
              refine jo_pure rfl (pr_addN (m := k) (n := 1) rfl rfl (by omega)) ?_
              refine jo_pure rfl (pr_assign rfl) ?_
              refine jo_nil ?_
              refine j_pull3 ?_
              refine j_pull3 ?_
              refine j_pull3 ?_
              refine j_pull3 ?_
              refine jq_round' ((k + 1), (f || (decide (((r.2.2.getD i ([], [])).1 : List UInt8) = (t.2.2.getD k ([], [])).1) && fold ((r.2.2.getD i ([], [])).2) ((t.2.2.getD k ([], [])).2)))) (by (try dsimp only); exact (⟨by omega, by rw [any_next (dd := ([], [])) h6, ← hink.2, ← matchB_alt]⟩)) (by (try dsimp only); exact (by omega)) ⟨rfl, rfl, rfl, rfl, rfl, trivial⟩ (fun _ h => h)
            · have h6 := of_decide_eq_false h6b
              refine jc_exit ?_
              refine jq_then_exit ?_
              refine jq_then_exit ?_
              refine jq_in_hit ?_
              refine jq_then ?_
              refine jc_seq ?_
              refine jc_region ?_
              refine jo_pure rfl (pr_move rfl) ?_
              refine jo_pure rfl (pr_not rfl) ?_
              refine jo_nil ?_
              refine jq_then ?_
              refine jc_cond rfl (fun h7b => ?_) (fun h7b => ?_)
              · have h7 := (fun q => id (bt_not q)) h7b
                refine jc_seq ?_
                refine jc_region ?_
                refine jo_pure rfl (pr_assign rfl) ?_
                refine jo_nil ?_
                refine jq_then ?_
                refine jc_ret ?_
                refine jq_in_ret ?_
                refine jq_then_ret ?_
                refine jq_then_ret ?_
                refine jq_in_ret ?_
                refine jq_then_ret ?_
                refine j_drop ?_
                refine j_drop ?_
                refine j_drop ?_
                refine j_drop ?_
                exact jq_ret1 rfl () rfl (show (.int .i64 (matchT r t) : Value) = (.int .i64 (-1)) from congrArg (Value.int .i64) (by rw [matchT, if_neg ha, if_neg (not_not.2 h2), if_neg h3, if_neg (not_not.2 h4), if_neg]; rw [all_miss (dd := ([], [])) h5 (by have h9 := hink.2; rw [take_over (by omega)] at h9; rw [← h9]; simpa using h7)]; simp; first | done | rfl)) (fun _ h => h)
              · have h7 := (fun q => id (bf_not q)) h7b
                refine jc_skip ?_
                refine jq_in_normal ?_
                refine jq_then ?_
                refine jc_region ?_
                refine jo_pure rfl (pr_move rfl) ?_
                refine jo_pure rfl (pr_addN (m := i) (n := 1) rfl rfl (by omega)) ?_
                refine jo_pure rfl (pr_assign rfl) ?_
                refine jo_nil ?_
                refine j_pull3 ?_
                refine j_pull3 ?_
                refine j_pull3 ?_
                refine j_pull3 ?_
                refine jq_round' (i + 1) (by (try dsimp only); exact (⟨by omega, all_step (dd := ([], [])) h5 hinv.2 (by have h9 := hink.2; rw [take_over (by omega)] at h9; rw [← h9]; simpa using h7)⟩)) (by (try dsimp only); exact (by omega)) ⟨rfl, rfl, rfl, trivial⟩ (fun _ h => h)
          · have h5 := of_decide_eq_false h5b
            refine jc_exit ?_
            refine jq_then_exit ?_
            refine jq_then_exit ?_
            refine jq_in_hit ?_
            refine jq_then ?_
            refine jc_seq ?_
            refine jc_region ?_
            refine jo_pure rfl (pr_fieldAddr 2 rfl Tryd.underlying64 rfl ty_62 rfl rfl) ?_
            refine jo_pure rfl (pr_load_box (rv) rfl ty_62 (.tail _ (.head _)) rfl (by decide) rfl) ?_
            refine jo_pure rfl (pr_len_imm rfl (.tail _ (.tail _ (.head _))) Tryd.underlying62) ?_
            refine jo_pure rfl (pr_addN (m := 2) (n := r.2.2.length) rfl rfl (by omega)) ?_
            refine jo_pure rfl (pr_assign rfl) ?_
            refine jo_nil ?_
            refine jq_then ?_
            refine jc_ret ?_
            refine j_drop ?_
            refine j_drop ?_
            refine j_drop ?_
            refine j_drop ?_
            exact jq_ret1 rfl () rfl (show (.int .i64 (matchT r t) : Value) = (.int .i64 ((2 + r.2.2.length : Nat) : Int)) from congrArg (Value.int .i64) (by rw [matchT, if_neg ha, if_neg (not_not.2 h2), if_neg h3, if_neg (not_not.2 h4), if_pos (all_end (by omega) hinv.2)]; first | done | rfl)) (fun _ h => h)
end Go.Proofs.YtikllmfjgpmcnaaDoor
