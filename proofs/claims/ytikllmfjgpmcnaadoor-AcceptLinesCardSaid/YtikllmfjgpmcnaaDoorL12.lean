/-
  Contracts of functions of the program: each returns what a plain function says, for every input within the bounds named. Conditions: the bounds.
-/
import Derived.Test.YtikllmfjgpmcnaaDoorRows
import Derived.Test.YtikllmfjgpmcnaaDoorL11
import Derived.Test.YtikllmfjgpmcnaaDoorLaw13B
namespace Go.Proofs.YtikllmfjgpmcnaaDoor
open Go Go.Sep
set_option linter.unusedSimpArgs false
set_option linter.unusedVariables false

open Go.Plain

theorem cal_10 : Cal Tryd.prog 10 := cal_of Tryd.func10 (by kernel_rfl) rfl
theorem cal_14 : Cal Tryd.prog 14 := cal_of Tryd.func14 (by kernel_rfl) rfl

theorem c_law13_AcceptLines (kind : Int) (va : List UInt8) (vb : List UInt8)  : Con Tryd.prog 3 #[.int .i64 (kind), str (va), str (vb)] [] (fun _ : Unit => .bool (true)) (fun _ => []) := by
  refine con_of_J (args := [.int .i64 (kind), str (va), str (vb)]) (n := 80) Tryd.func3 rfl (Nat.le_of_ble_eq_true rfl) rfl (fun w0 I0 m0 => ?_)
  show J _ [(0, .int .i64 (kind)), (1, str (va)), (2, str (vb))] [] _
  refine jc_seq ?_
  refine jc_region ?_
  refine jo_pure rfl (pr_assign rfl) ?_
  refine jo_nil ?_
  refine jq_then ?_
  refine jc_seq ?_
  refine jc_seq ?_
  by_cases hz : (((decide ((200 : Nat) < va.length) || decide ((200 : Nat) < vb.length)) || decide ((kind : Int) < 1)) || decide ((4 : Int) < kind)) = true
  · skip
    refine jc_region ?_
    refine jo_pure rfl (pr_move rfl) ?_
    refine jo_pure rfl (pr_slen rfl Tryd.underlying9) ?_
    refine jo_pure rfl (pr_gtrN (m := va.length) (n := 200) rfl rfl) ?_
    refine jo_pure rfl (pr_move rfl) ?_
    refine jo_gpure (j := 3) (want := false) rfl rfl rfl rfl (fun hg => pr_move rfl) ?_
    refine jo_gpure (j := 3) (want := false) rfl rfl rfl rfl (fun hg => pr_slen (evg rfl hg) Tryd.underlying9) ?_
    refine jo_gpure (j := 3) (want := false) rfl rfl rfl rfl (fun hg => pr_gtrN (m := vb.length) (n := 200) (evg rfl hg) rfl) ?_
    refine jo_pure rfl (pr_pick_or rfl rfl rfl) ?_
    refine jo_pure rfl (pr_move rfl) ?_
    refine jo_gpure (j := 8) (want := false) rfl rfl rfl rfl (fun hg => pr_move rfl) ?_
    refine jo_gpure (j := 8) (want := false) rfl rfl rfl rfl (fun hg => pr_lss (n := 1) (evg rfl hg) rfl) ?_
    refine jo_pure rfl (pr_pick_or rfl rfl rfl) ?_
    refine jo_pure rfl (pr_move rfl) ?_
    refine jo_gpure (j := 12) (want := false) rfl rfl rfl rfl (fun hg => pr_move rfl) ?_
    refine jo_gpure (j := 12) (want := false) rfl rfl rfl rfl (fun hg => pr_gtr (n := 4) (evg rfl hg) rfl) ?_
    refine jo_pure rfl (pr_pick_or rfl rfl rfl) ?_
    refine jo_pure rfl (pr_move rfl) ?_
    refine jo_skipu (j := 16) (want := false) rfl rfl (hz) rfl ?_
    refine jo_skipu (j := 16) (want := false) rfl rfl (hz) rfl ?_
    refine jo_skipu (j := 16) (want := false) rfl rfl (hz) rfl ?_
    refine jo_skipu (j := 16) (want := false) rfl rfl (hz) rfl ?_
    refine jo_skipu (j := 16) (want := false) rfl rfl (hz) rfl ?_
    refine jo_skipu (j := 16) (want := false) rfl rfl (hz) rfl ?_
    refine jo_skipu (j := 16) (want := false) rfl rfl (hz) rfl ?_
    refine jo_skipu (j := 16) (want := false) rfl rfl (hz) rfl ?_
    refine jo_skipu (j := 16) (want := false) rfl rfl (hz) rfl ?_
    refine jo_pure rfl (pr_pick_t rfl (hz) rfl) ?_
    refine jo_nil ?_
    refine jq_then ?_
    refine jc_true rfl (rfl) ?_
    refine jc_seq ?_
    refine jc_region ?_
    refine jo_pure rfl (pr_assign rfl) ?_
    refine jo_nil ?_
    refine jq_then ?_
    refine jc_ret ?_
    refine jq_then_ret ?_
    exact jq_ret1 rfl () rfl (show (.bool (true) : Value) = (.bool (true)) from rfl) (fun _ h => h)
  · skip
    have hg9 := hz
    simp only [Bool.or_eq_true, decide_eq_true_eq, not_or] at hg9
    have hnk := nameK_length kind
    have hl1 : ∀ x ∈ [(nameK kind, va), (lower (nameK kind), vb)], x.1.length ≤ 100000 ∧ x.2.length ≤ 100000 := fun x hx => by simp only [List.mem_cons, List.not_mem_nil, or_false] at hx; rcases hx with rfl | rfl; exact ⟨by dsimp only; omega, by dsimp only; omega⟩; exact ⟨by dsimp only; rw [lower_length]; omega, by dsimp only; omega⟩
    have hl2 : ∀ x ∈ [(nameK kind, (([32] ++ va) ++ [32, 44, 9]) ++ vb ++ [9])], x.1.length ≤ 100000 ∧ x.2.length ≤ 100000 := fun x hx => by simp only [List.mem_cons, List.not_mem_nil, or_false] at hx; subst hx; exact ⟨by dsimp only; omega, by simp only [List.length_append, List.length_cons, List.length_nil]; omega⟩
    refine jc_region ?_
    refine jo_pure rfl (pr_move rfl) ?_
    refine jo_pure rfl (pr_slen rfl Tryd.underlying9) ?_
    refine jo_pure rfl (pr_gtrN (m := va.length) (n := 200) rfl rfl) ?_
    refine jo_pure rfl (pr_move rfl) ?_
    refine jo_gpure (j := 3) (want := false) rfl rfl rfl rfl (fun hg => pr_move rfl) ?_
    refine jo_gpure (j := 3) (want := false) rfl rfl rfl rfl (fun hg => pr_slen (evg rfl hg) Tryd.underlying9) ?_
    refine jo_gpure (j := 3) (want := false) rfl rfl rfl rfl (fun hg => pr_gtrN (m := vb.length) (n := 200) (evg rfl hg) rfl) ?_
    refine jo_pure rfl (pr_pick_or rfl rfl rfl) ?_
    refine jo_pure rfl (pr_move rfl) ?_
    refine jo_gpure (j := 8) (want := false) rfl rfl rfl rfl (fun hg => pr_move rfl) ?_
    refine jo_gpure (j := 8) (want := false) rfl rfl rfl rfl (fun hg => pr_lss (n := 1) (evg rfl hg) rfl) ?_
    refine jo_pure rfl (pr_pick_or rfl rfl rfl) ?_
    refine jo_pure rfl (pr_move rfl) ?_
    refine jo_gpure (j := 12) (want := false) rfl rfl rfl rfl (fun hg => pr_move rfl) ?_
    refine jo_gpure (j := 12) (want := false) rfl rfl rfl rfl (fun hg => pr_gtr (n := 4) (evg rfl hg) rfl) ?_
    refine jo_pure rfl (pr_pick_or rfl rfl rfl) ?_
    refine jo_pure rfl (pr_move rfl) ?_
    refine jo_run (j := 16) (want := false) rfl rfl (Bool.eq_false_iff.2 hz) ?_
    refine jo_pure rfl (pr_move rfl) ?_
    refine jo_run (j := 16) (want := false) rfl rfl (Bool.eq_false_iff.2 hz) ?_
    refine jo_pure rfl (pr_sadd rfl rfl (by simp only [List.length_append, List.length_cons, List.length_nil]; omega)) ?_
    refine jo_run (j := 16) (want := false) rfl rfl (Bool.eq_false_iff.2 hz) ?_
    refine jo_callp cal_10 (c_ref01_Split (va ++ [44, 120]) (by first | omega | (simp only [List.length_append, List.length_cons, List.length_nil]; omega) | (have := nameK_length kind; omega) | exact hl1 | exact hl2 | exact Nat.le_trans (prefsF_length kind _) (by omega))) ⟨rfl, trivial⟩ rfl (trivial) (fun r1 => ?_)
    show J _ _ [.row (r1) 9 .str (splitF (va ++ [44, 120]))] _
    refine jo_run (j := 16) (want := false) rfl rfl (Bool.eq_false_iff.2 hz) ?_
    refine jo_pure rfl (pr_len_row rfl (.head _) Tryd.underlying22) ?_
    refine jo_run (j := 16) (want := false) rfl rfl (Bool.eq_false_iff.2 hz) ?_
    refine jo_pure rfl (pr_move rfl) ?_
    refine jo_run (j := 16) (want := false) rfl rfl (Bool.eq_false_iff.2 hz) ?_
    refine jo_callp cal_10 (c_ref01_Split va (by first | omega | (simp only [List.length_append, List.length_cons, List.length_nil]; omega) | (have := nameK_length kind; omega) | exact hl1 | exact hl2 | exact Nat.le_trans (prefsF_length kind _) (by omega))) ⟨rfl, trivial⟩ rfl (trivial) (fun r2 => ?_)
    show J _ _ [.row (r2) 9 .str (splitF va), .row (r1) 9 .str (splitF (va ++ [44, 120]))] _
    refine jo_run (j := 16) (want := false) rfl rfl (Bool.eq_false_iff.2 hz) ?_
    refine jo_pure rfl (pr_len_row rfl (.head _) Tryd.underlying22) ?_
    refine jo_run (j := 16) (want := false) rfl rfl (Bool.eq_false_iff.2 hz) ?_
    refine jo_pure rfl (pr_addN (m := (splitF va).length) (n := 1) rfl rfl (by have := splitF_length va; omega)) ?_
    refine jo_run (j := 16) (want := false) rfl rfl (Bool.eq_false_iff.2 hz) ?_
    refine jo_pure rfl (pr_neqN (m := (splitF (va ++ [44, 120])).length) (n := ((splitF va).length) + 1) rfl rfl) ?_
    refine jo_pure rfl (pr_pick_f rfl (Bool.eq_false_iff.2 hz) rfl) ?_
    refine jo_nil ?_
    refine jq_then ?_
    refine jc_cond rfl (fun h1b => ?_) (fun h1b => ?_)
    · have h1 := (fun q => of_decide_eq_false (bt_not q)) h1b
      refine jc_seq ?_
      refine jc_region ?_
      refine jo_pure rfl (pr_assign rfl) ?_
      refine jo_nil ?_
      refine jq_then ?_
      refine jc_ret ?_
      refine jq_then_ret ?_
      refine j_drop ?_
      refine j_drop ?_
      exact jq_ret1 rfl () rfl (show (.bool (true) : Value) = (.bool (true)) from rfl) (fun _ h => h)
    · have h1 := (fun q => of_decide_eq_true (bf_not q)) h1b
      have hlaw := lines_law (kind := kind) (a := va) (b := vb) (by omega) (by omega) (by simpa using h1)
      refine jc_skip ?_
      refine jq_then ?_
      refine jc_seq ?_
      refine jc_region ?_
      refine jo_pure rfl (pr_move rfl) ?_
      refine jo_callp cal_11 (c_accept_Name kind) ⟨rfl, trivial⟩ rfl (trivial) (fun _ => ?_)
      refine jo_pure rfl (pr_assign rfl) ?_
      refine jo_nil ?_
      refine jq_then ?_
      refine jc_seq ?_
      refine jc_region ?_
      refine jo_pure rfl (pr_move rfl) ?_
      refine jo_pure rfl (pr_move rfl) ?_
      refine jo_pure rfl (pr_move rfl) ?_
      refine jo_pure rfl (pr_build [(0, str (nameK kind)), (1, str (va))] [str (nameK kind), str (va)] (fun a hf => by simp only [List.map_toArray, List.map_cons, List.map_nil, hf.ev (show ev _ (.tmp 43) = some (str (nameK kind)) from rfl), hf.ev (show ev _ (.tmp 44) = some (str (va)) from rfl)]) (by kernel_rfl)) ?_
      refine jo_pure rfl (pr_move rfl) ?_
      refine jo_callp cal_13 (c_ref01_Lower (nameK kind) (by first | omega | (simp only [List.length_append, List.length_cons, List.length_nil]; omega) | (have := nameK_length kind; omega) | exact hl1 | exact hl2 | exact Nat.le_trans (prefsF_length kind _) (by omega))) ⟨rfl, trivial⟩ rfl (trivial) (fun _ => ?_)
      refine jo_pure rfl (pr_move rfl) ?_
      refine jo_pure rfl (pr_build [(0, str (lower (nameK kind))), (1, str (vb))] [str (lower (nameK kind)), str (vb)] (fun a hf => by simp only [List.map_toArray, List.map_cons, List.map_nil, hf.ev (show ev _ (.tmp 47) = some (str (lower (nameK kind))) from rfl), hf.ev (show ev _ (.tmp 48) = some (str (vb)) from rfl)]) (by kernel_rfl)) ?_
      refine jo_buildSlice (t := (.pair .str .str)) [(nameK kind, va), (lower (nameK kind), vb)] [.agg #[str (nameK kind), str (va)], .agg #[str (lower (nameK kind)), str (vb)]] (fun a hf => by simp only [List.zipIdx_cons, List.zipIdx_nil, List.map_toArray, List.map_cons, List.map_nil, hf.ev (show ev _ (.tmp 45) = some (.agg #[str (nameK kind), str (va)]) from rfl), hf.ev (show ev _ (.tmp 49) = some (.agg #[str (lower (nameK kind)), str (vb)]) from rfl)]) rfl Tryd.underlying31 ty_29 rfl rfl rfl rfl rfl (fun g1 => ?_)
      refine j_pub_rowg ?_
      refine jo_callp cal_12 (c_accept_Prefs kind [(nameK kind, va), (lower (nameK kind), vb)] (.slice (some ⟨g1, 0, none⟩) ([(nameK kind, va), (lower (nameK kind), vb)]).length (([(nameK kind, va), (lower (nameK kind), vb)]).length)) (by first | omega | (simp only [List.length_append, List.length_cons, List.length_nil]; omega) | (have := nameK_length kind; omega) | exact hl1 | exact hl2 | exact Nat.le_trans (prefsF_length kind _) (by omega)) (by first | omega | (simp only [List.length_append, List.length_cons, List.length_nil]; omega) | (have := nameK_length kind; omega) | exact hl1 | exact hl2 | exact Nat.le_trans (prefsF_length kind _) (by omega))) ⟨rfl, rfl, trivial⟩ rfl (⟨⟨rfl, .head _⟩, trivial⟩) (fun r3 => ?_)
      show J _ _ [.row (r3) 45 (.pair .str (.int .i64)) ((prefsF kind [(nameK kind, va), (lower (nameK kind), vb)]).1), .imm (.list (.pair .str .str)) (.slice (some ⟨g1, 0, none⟩) ([(nameK kind, va), (lower (nameK kind), vb)]).length (([(nameK kind, va), (lower (nameK kind), vb)]).length)) ([(nameK kind, va), (lower (nameK kind), vb)]), .row (r2) 9 .str (splitF va), .row (r1) 9 .str (splitF (va ++ [44, 120]))] _
      refine jo_pure rfl (pr_move rfl) ?_
      refine jo_pure rfl (pr_extract rfl rfl) ?_
      refine jo_pure rfl (pr_extract rfl rfl) ?_
      refine jo_pure rfl (pr_assign rfl) ?_
      refine jo_pure rfl (pr_assign rfl) ?_
      refine jo_nil ?_
      refine jq_then ?_
      refine jc_seq ?_
      refine jc_region ?_
      refine jo_pure rfl (pr_move rfl) ?_
      refine jo_pure rfl (pr_move rfl) ?_
      refine jo_pure rfl (pr_move rfl) ?_
      refine jo_pure rfl (pr_sadd rfl rfl (by simp only [List.length_append, List.length_cons, List.length_nil]; omega)) ?_
      refine jo_pure rfl (pr_sadd rfl rfl (by simp only [List.length_append, List.length_cons, List.length_nil]; omega)) ?_
      refine jo_pure rfl (pr_move rfl) ?_
      refine jo_pure rfl (pr_sadd rfl rfl (by simp only [List.length_append, List.length_cons, List.length_nil]; omega)) ?_
      refine jo_pure rfl (pr_sadd rfl rfl (by simp only [List.length_append, List.length_cons, List.length_nil]; omega)) ?_
      refine jo_pure rfl (pr_build [(0, str (nameK kind)), (1, str (((([32] ++ va) ++ [32, 44, 9]) ++ vb) ++ [9]))] [str (nameK kind), str (((([32] ++ va) ++ [32, 44, 9]) ++ vb) ++ [9])] (fun a hf => by simp only [List.map_toArray, List.map_cons, List.map_nil, hf.ev (show ev _ (.tmp 56) = some (str (nameK kind)) from rfl), hf.ev (show ev _ (.tmp 62) = some (str (((([32] ++ va) ++ [32, 44, 9]) ++ vb) ++ [9])) from rfl)]) (by kernel_rfl)) ?_
      refine jo_buildSlice (t := (.pair .str .str)) [(nameK kind, ((([32] ++ va) ++ [32, 44, 9]) ++ vb) ++ [9])] [.agg #[str (nameK kind), str (((([32] ++ va) ++ [32, 44, 9]) ++ vb) ++ [9])]] (fun a hf => by simp only [List.zipIdx_cons, List.zipIdx_nil, List.map_toArray, List.map_cons, List.map_nil, hf.ev (show ev _ (.tmp 63) = some (.agg #[str (nameK kind), str (((([32] ++ va) ++ [32, 44, 9]) ++ vb) ++ [9])]) from rfl)]) rfl Tryd.underlying31 ty_29 rfl rfl rfl rfl rfl (fun g2 => ?_)
      refine j_pub_rowg ?_
      refine jo_callp cal_12 (c_accept_Prefs kind [(nameK kind, ((([32] ++ va) ++ [32, 44, 9]) ++ vb) ++ [9])] (.slice (some ⟨g2, 0, none⟩) ([(nameK kind, ((([32] ++ va) ++ [32, 44, 9]) ++ vb) ++ [9])]).length (([(nameK kind, ((([32] ++ va) ++ [32, 44, 9]) ++ vb) ++ [9])]).length)) (by first | omega | (simp only [List.length_append, List.length_cons, List.length_nil]; omega) | (have := nameK_length kind; omega) | exact hl1 | exact hl2 | exact Nat.le_trans (prefsF_length kind _) (by omega)) (by first | omega | (simp only [List.length_append, List.length_cons, List.length_nil]; omega) | (have := nameK_length kind; omega) | exact hl1 | exact hl2 | exact Nat.le_trans (prefsF_length kind _) (by omega))) ⟨rfl, rfl, trivial⟩ rfl (⟨⟨rfl, .head _⟩, trivial⟩) (fun r4 => ?_)
      show J _ _ [.row (r4) 45 (.pair .str (.int .i64)) ((prefsF kind [(nameK kind, ((([32] ++ va) ++ [32, 44, 9]) ++ vb) ++ [9])]).1), .imm (.list (.pair .str .str)) (.slice (some ⟨g2, 0, none⟩) ([(nameK kind, ((([32] ++ va) ++ [32, 44, 9]) ++ vb) ++ [9])]).length (([(nameK kind, ((([32] ++ va) ++ [32, 44, 9]) ++ vb) ++ [9])]).length)) ([(nameK kind, ((([32] ++ va) ++ [32, 44, 9]) ++ vb) ++ [9])]), .row (r3) 45 (.pair .str (.int .i64)) ((prefsF kind [(nameK kind, va), (lower (nameK kind), vb)]).1), .imm (.list (.pair .str .str)) (.slice (some ⟨g1, 0, none⟩) ([(nameK kind, va), (lower (nameK kind), vb)]).length (([(nameK kind, va), (lower (nameK kind), vb)]).length)) ([(nameK kind, va), (lower (nameK kind), vb)]), .row (r2) 9 .str (splitF va), .row (r1) 9 .str (splitF (va ++ [44, 120]))] _
      refine jo_pure rfl (pr_move rfl) ?_
      refine jo_pure rfl (pr_extract rfl rfl) ?_
      refine jo_pure rfl (pr_extract rfl rfl) ?_
      refine jo_pure rfl (pr_assign rfl) ?_
      refine jo_pure rfl (pr_assign rfl) ?_
      refine jo_nil ?_
      refine jq_then ?_
      refine jc_seq ?_
      refine jc_region ?_
      refine jo_pure rfl (pr_move rfl) ?_
      refine jo_pure rfl (pr_move rfl) ?_
      refine jo_gpure (j := 1) (want := true) rfl rfl rfl rfl (fun hg => pr_move rfl) ?_
      refine jo_pure rfl (pr_pick_and rfl rfl rfl) ?_
      refine jo_pure rfl (pr_move rfl) ?_
      refine jo_gpure (j := 4) (want := true) rfl rfl rfl rfl (fun hg => pr_move rfl) ?_
      refine jo_gpure (j := 4) (want := true) rfl rfl rfl rfl (fun hg => pr_move rfl) ?_
      refine j_pull2 ?_
      refine j_pub_row ?_
      refine j_pull1 ?_
      refine j_pub_row ?_
      refine jo_gcall (j := 4) (want := true) rfl rfl rfl cal_14 (fun hg => c_keep_SamePrefs ((prefsF kind [(nameK kind, va), (lower (nameK kind), vb)]).1) r3 ((prefsF kind [(nameK kind, ((([32] ++ va) ++ [32, 44, 9]) ++ vb) ++ [9])]).1) r4 (by first | omega | (simp only [List.length_append, List.length_cons, List.length_nil]; omega) | (have := nameK_length kind; omega) | exact hl1 | exact hl2 | exact Nat.le_trans (prefsF_length kind _) (by omega))) (fun hg => ⟨evg rfl hg, evg rfl hg, trivial⟩) rfl (fun _ => ⟨⟨rfl, .tail _ (.head _)⟩, ⟨⟨rfl, .head _⟩, trivial⟩⟩) ?_
      refine jo_pure rfl (pr_pick_and rfl rfl rfl) ?_
      refine jo_pure rfl (pr_move rfl) ?_
      refine jo_gcall (j := 9) (want := true) rfl rfl rfl cal_15 (fun hg => c_law13_awake) (fun hg => trivial) rfl (fun _ => trivial) ?_
      refine jo_pure rfl (pr_pick_and rfl rfl rfl) ?_
      refine jo_pure rfl (pr_assign rfl) ?_
      refine jo_nil ?_
      refine jq_then ?_
      refine jc_ret ?_
      refine j_drop ?_
      refine j_drop ?_
      refine j_drop ?_
      refine j_drop ?_
      refine j_drop ?_
      refine j_drop ?_
      exact jq_ret1 rfl () rfl (show (.bool (true) : Value) = (.bool (((((prefsF kind [(nameK kind, va), (lower (nameK kind), vb)]).2 && (prefsF kind [(nameK kind, ((([32] ++ va) ++ [32, 44, 9]) ++ vb) ++ [9])]).2) && decide (((prefsF kind [(nameK kind, va), (lower (nameK kind), vb)]).1) = ((prefsF kind [(nameK kind, ((([32] ++ va) ++ [32, 44, 9]) ++ vb) ++ [9])]).1))) && true))) from by rw [hlaw.1, hlaw.2]; simp) (fun _ h => h)
end Go.Proofs.YtikllmfjgpmcnaaDoor
