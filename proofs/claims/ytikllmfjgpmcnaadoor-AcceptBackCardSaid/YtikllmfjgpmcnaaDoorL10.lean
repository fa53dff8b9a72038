/-
  Contracts of functions of the program: each returns what a plain function says, for every input within the bounds named. Conditions: the bounds.
-/
import Derived.Test.YtikllmfjgpmcnaaDoorRows
import Derived.Test.YtikllmfjgpmcnaaDoorL9
namespace Go.Proofs.YtikllmfjgpmcnaaDoor
open Go Go.Sep
set_option linter.unusedSimpArgs false
set_option linter.unusedVariables false

open Go.Plain

theorem cal_12 : Cal Tryd.prog 12 := cal_of Tryd.func12 (by kernel_rfl) rfl
theorem cal_15 : Cal Tryd.prog 15 := cal_of Tryd.func15 (by kernel_rfl) rfl
theorem cal_16 : Cal Tryd.prog 16 := cal_of Tryd.func16 (by kernel_rfl) rfl
theorem cal_17 : Cal Tryd.prog 17 := cal_of Tryd.func17 (by kernel_rfl) rfl
theorem cal_31 : Cal Tryd.prog 31 := cal_of Tryd.func31 (by kernel_rfl) rfl
theorem cal_32 : Cal Tryd.prog 32 := cal_of Tryd.func32 (by kernel_rfl) rfl
theorem cal_33 : Cal Tryd.prog 33 := cal_of Tryd.func33 (by kernel_rfl) rfl

theorem c_accept_Prefs (kind : Int) (l : List ((List UInt8) × (List UInt8))) (lv : Value) (hl : l.length ≤ 1000000) (hm : ∀ x ∈ l, x.1.length ≤ 300000 ∧ x.2.length ≤ 300000) : Con Tryd.prog 12 #[.int .i64 (kind), lv] [.imm (.list (.pair .str .str)) (lv) (l)] (fun r1 : Value => .tuple #[r1, .bool ((prefsF kind l).2)]) (fun r1 => [.row r1 45 (.pair .str (.int .i64)) ((prefsF kind l).1)]) := by
  refine con_of_J (args := [.int .i64 (kind), lv]) (n := 43) Tryd.func12 rfl (Nat.le_of_ble_eq_true rfl) rfl (fun w0 I0 m0 => ?_)
  show J _ [(0, .int .i64 (kind)), (1, lv)] [.imm (.list (.pair .str .str)) (lv) (l)] _
  have hm6 : ∀ x ∈ l, x.1.length ≤ 1000000 ∧ x.2.length ≤ 1000000 := fun x hx => by have := hm x hx; omega
  refine jc_seq ?_
  refine jc_region ?_
  refine jo_pure rfl (pr_assign rfl) ?_
  refine jo_pure rfl (pr_assign rfl) ?_
  refine jo_nil ?_
  refine jq_then ?_
  refine jc_seq ?_
  refine jc_region ?_
  refine jo_pure rfl (pr_move rfl) ?_
  refine jo_callp cal_11 (c_accept_Name kind) ⟨rfl, trivial⟩ rfl (trivial) (fun _ => ?_)
  refine jo_pure rfl (pr_assign rfl) ?_
  refine jo_nil ?_
  refine jq_then ?_
  refine jc_seq ?_
  refine jc_seq ?_
  refine jc_region ?_
  refine jo_pure rfl (pr_move rfl) ?_
  refine jo_pure rfl (pr_seql rfl rfl) ?_
  refine jo_pure rfl (pr_move rfl) ?_
  refine jo_gpure (j := 2) (want := false) rfl rfl rfl rfl (fun hg => pr_move rfl) ?_
  refine jo_gpure (j := 2) (want := false) rfl rfl rfl rfl (fun hg => pr_move rfl) ?_
  refine jo_gcall (j := 2) (want := false) rfl rfl rfl cal_31 (fun hg => c_fieldline_Has l lv (nameK kind) (by first | omega | exact hm6 | exact Nat.le_trans (nameK_length kind) (by omega) | exact Nat.le_trans (getD_len (i := i) (allV_mem (getF_mem (n := 300000) hm (name := nameK kind)))) (by omega)) (by first | omega | exact hm6 | exact Nat.le_trans (nameK_length kind) (by omega) | exact Nat.le_trans (getD_len (i := i) (allV_mem (getF_mem (n := 300000) hm (name := nameK kind)))) (by omega)) (by first | omega | exact hm6 | exact Nat.le_trans (nameK_length kind) (by omega) | exact Nat.le_trans (getD_len (i := i) (allV_mem (getF_mem (n := 300000) hm (name := nameK kind)))) (by omega))) (fun hg => ⟨evg rfl hg, evg rfl hg, trivial⟩) rfl (fun _ => ⟨⟨rfl, .head _⟩, trivial⟩) ?_
  refine jo_gpure (j := 2) (want := false) rfl rfl rfl rfl (fun hg => pr_not (evg rfl hg)) ?_
  refine jo_pure rfl (pr_pick_or rfl rfl rfl) ?_
  refine jo_nil ?_
  refine jq_then ?_
  refine jc_cond rfl (fun h1b => ?_) (fun h1b => ?_)
  · have h1 := (fun q => Or.imp of_decide_eq_true (fun q => id (bt_not q)) (bt_or q)) h1b
    refine jc_seq ?_
    refine jc_region ?_
    refine jo_pure rfl (pr_assign rfl) ?_
    refine jo_pure rfl (pr_assign rfl) ?_
    refine jo_nil ?_
    refine jq_then ?_
    refine jc_ret ?_
    refine jq_then_ret ?_
    refine j_nil_row 45 (.pair .str (.int .i64)) ?_
    refine j_pull1 ?_
    refine j_drop ?_
    exact jq_rets (rs := [.tmp 4, .tmp 5]) (vs := [.slice none 0 0, .bool (false)]) rfl (.slice none 0 0) ⟨resV_tmp rfl, resV_tmp rfl, trivial⟩ rfl (show (.tuple #[(.slice none 0 0), .bool ((prefsF kind l).2)] : Value) = (.tuple #[.slice none 0 0, .bool (false)]) from by rw [prefsF_no h1b]) (fun _ h => by rw [prefsF_no h1b]; exact h)
  · have h1 := (fun q => And.imp of_decide_eq_false (fun q => id (bf_not q)) (bf_or q)) h1b
    refine jc_skip ?_
    refine jq_then ?_
    refine jc_seq ?_
    refine jc_region ?_
    refine jo_pure rfl (pr_assign rfl) ?_
    refine jo_nil ?_
    refine jq_then ?_
    refine jc_seq ?_
    refine jc_seq ?_
    refine jc_region ?_
    refine jo_pure rfl (pr_move rfl) ?_
    refine jo_pure rfl (pr_move rfl) ?_
    refine jo_callp cal_32 (c_list_All l lv (nameK kind) (by first | omega | exact hm6 | exact Nat.le_trans (nameK_length kind) (by omega) | exact Nat.le_trans (getD_len (i := i) (allV_mem (getF_mem (n := 300000) hm (name := nameK kind)))) (by omega)) (by first | omega | exact hm6 | exact Nat.le_trans (nameK_length kind) (by omega) | exact Nat.le_trans (getD_len (i := i) (allV_mem (getF_mem (n := 300000) hm (name := nameK kind)))) (by omega)) (by first | omega | exact hm6 | exact Nat.le_trans (nameK_length kind) (by omega) | exact Nat.le_trans (getD_len (i := i) (allV_mem (getF_mem (n := 300000) hm (name := nameK kind)))) (by omega))) ⟨rfl, rfl, trivial⟩ rfl (⟨⟨rfl, .head _⟩, trivial⟩) (fun r1 => ?_)
    show J _ _ [.imm (.list .str) (r1) (allF l (nameK kind)), .imm (.list (.pair .str .str)) (lv) (l)] _
    refine jo_pure rfl (pr_len_imm rfl (.head _) Tryd.underlying22) ?_
    refine jo_pure rfl (pr_move rfl) ?_
    refine jo_nil ?_
    refine jq_then ?_
    refine jc_block ?_
    refine j_nil_row 45 (.pair .str (.int .i64)) ?_
    refine jc_loop3 (fun (i : Nat) (v : Value) (acc : List (List UInt8 × Int)) => [(0, .int .i64 (kind)), (7, v), (24, r1), (25, .int .i64 (((allF l (nameK kind)).length : Nat) : Int)), (26, .int .i64 ((i : Nat) : Int))]) (fun (i : Nat) (v : Value) (acc : List (List UInt8 × Int)) => [.row (v) 45 (.pair .str (.int .i64)) (acc), .imm (.list .str) (r1) (allF l (nameK kind)), .imm (.list (.pair .str .str)) (lv) (l)]) (fun (i : Nat) (v : Value) (acc : List (List UInt8 × Int)) => i ≤ (allF l (nameK kind)).length ∧ (allF l (nameK kind)).length ≤ 64 ∧ acc.length ≤ i ∧ acc = prefsM kind ((allF l (nameK kind)).take i)) (fun (i : Nat) (v : Value) (acc : List (List UInt8 × Int)) => (allF l (nameK kind)).length - i) 0 (.slice none 0 0) [] (⟨Nat.zero_le _, allV_length _, Nat.le_refl _, rfl⟩) (⟨rfl, rfl, rfl, rfl, rfl, trivial⟩) (fun _ h => h) (fun i v acc hinv => ?_)
    refine jc_seq ?_
    refine jc_region ?_
    refine jo_pure rfl (pr_lssN (m := i) (n := (allF l (nameK kind)).length) rfl rfl) ?_
    refine jo_nil ?_
    refine jq_then ?_
    refine jc_seq ?_
    refine jc_cond rfl (fun h2b => ?_) (fun h2b => ?_)
    · have h2 := of_decide_eq_true h2b
      refine jc_skip ?_
      refine jq_then ?_
      refine jc_seq ?_
      refine jc_block ?_
      refine jc_seq ?_
      refine jc_region ?_
      refine jo_pure rfl (pr_idx_imm (i := i) rfl (.tail _ (.head _)) rfl Tryd.underlying22 ty_9 (by omega)) ?_
      refine jo_pure rfl (pr_load_elem_imm (i := i) (str ((allF l (nameK kind)).getD i [])) rfl (.tail _ (.head _)) ty_9 rfl rfl (by omega) rfl) ?_
      refine jo_pure rfl (pr_assign rfl) ?_
      refine jo_nil ?_
      refine jq_then ?_
      refine jc_seq ?_
      refine jc_region ?_
      refine jo_pure rfl (pr_move rfl) ?_
      refine jo_pure rfl (pr_move rfl) ?_
      refine jo_callp cal_33 (c_accept_pref kind ((allF l (nameK kind)).getD i []) (by first | omega | exact hm6 | exact Nat.le_trans (nameK_length kind) (by omega) | exact Nat.le_trans (getD_len (i := i) (allV_mem (getF_mem (n := 300000) hm (name := nameK kind)))) (by omega))) ⟨rfl, rfl, trivial⟩ rfl (trivial) (fun _ => ?_)
      refine jo_pure rfl (pr_move rfl) ?_
      refine jo_pure rfl (pr_extract rfl rfl) ?_
      refine jo_pure rfl (pr_extract rfl rfl) ?_
      refine jo_alloc ty_45 [str ([]), .int .i64 ((0 : Nat) : Int)] rfl rfl (fun b1 => ?_)
      refine jo_store rfl rfl ty_45 [str ((prefF kind ((allF l (nameK kind)).getD i [])).1.1), .int .i64 ((prefF kind ((allF l (nameK kind)).getD i [])).1.2)] rfl rfl rfl [str ((prefF kind ((allF l (nameK kind)).getD i [])).1.1), .int .i64 ((prefF kind ((allF l (nameK kind)).getD i [])).1.2)] rfl rfl ?_
      refine jo_pure rfl (pr_assign rfl) ?_
      refine jo_nil ?_
      refine jq_then ?_
      refine jc_seq ?_
      refine jc_region ?_
      refine jo_pure rfl (pr_move rfl) ?_
      refine jo_nil ?_
      refine jq_then ?_
      refine jc_cond rfl (fun h3b => ?_) (fun h3b => ?_)
      · have h3 := id h3b
        refine jc_region ?_
        refine jo_pure rfl (pr_move rfl) ?_
        refine jo_pure rfl (pr_load_box (.agg #[str ((prefF kind ((allF l (nameK kind)).getD i [])).1.1), .int .i64 ((prefF kind ((allF l (nameK kind)).getD i [])).1.2)]) rfl ty_45 (.head _) rfl (by decide) rfl) ?_
        refine jo_buildSlice (t := (.pair .str (.int .i64))) [(prefF kind ((allF l (nameK kind)).getD i [])).1] [.agg #[str ((prefF kind ((allF l (nameK kind)).getD i [])).1.1), .int .i64 ((prefF kind ((allF l (nameK kind)).getD i [])).1.2)]] (fun a hf => by simp only [List.zipIdx_cons, List.zipIdx_nil, List.map_toArray, List.map_cons, List.map_nil, hf.ev (show ev _ (.tmp 38) = some (.agg #[str ((prefF kind ((allF l (nameK kind)).getD i [])).1.1), .int .i64 ((prefF kind ((allF l (nameK kind)).getD i [])).1.2)]) from rfl)]) rfl Tryd.underlying25 ty_45 rfl rfl rfl rfl rfl (fun g1 => ?_)
        refine j_pull2 ?_
        refine jo_append rfl rfl Tryd.underlying25 ty_45 rfl (by simp only [List.length_cons, List.length_nil, maxLen]; omega) (by simp only [List.length_cons, List.length_nil]; omega) rfl (fun v1 => ?_)
        refine jo_pure rfl (pr_assign rfl) ?_
        refine jo_nil ?_
        refine jq_in_normal ?_
        refine jq_then ?_
        refine jc_region ?_
        refine jo_pure rfl (pr_addN (m := i) (n := 1) rfl rfl (by omega)) ?_
        refine jo_pure rfl (pr_move rfl) ?_
        refine jo_nil ?_
        refine j_pull1 ?_
        refine j_drop ?_
        refine j_pull2 ?_
        refine j_pull2 ?_
        refine j_pull2 ?_
        refine jq_round' ((i + 1), v1, (acc ++ [(prefF kind ((allF l (nameK kind)).getD i [])).1])) (by (try dsimp only); exact (⟨by omega, hinv.2.1, by simp; omega, by rw [prefsM_hit h2 h3, hinv.2.2.2]⟩)) (by (try dsimp only); exact (by omega)) ⟨rfl, rfl, rfl, rfl, rfl, trivial⟩ (fun _ h => h)
      · have h3 := id h3b
        refine jc_skip ?_
        refine jq_in_normal ?_
        refine jq_then ?_
        refine jc_region ?_
        refine jo_pure rfl (pr_addN (m := i) (n := 1) rfl rfl (by omega)) ?_
        refine jo_pure rfl (pr_move rfl) ?_
        refine jo_nil ?_
        refine j_drop ?_
        refine j_pull2 ?_
        refine j_pull2 ?_
        refine j_pull2 ?_
        refine jq_round' ((i + 1), v, acc) (by (try dsimp only); exact (⟨by omega, hinv.2.1, by omega, by rw [prefsM_miss h2 h3, hinv.2.2.2]⟩)) (by (try dsimp only); exact (by omega)) ⟨rfl, rfl, rfl, rfl, rfl, trivial⟩ (fun _ h => h)
    · have h2 := of_decide_eq_false h2b
      refine jc_exit ?_
      refine jq_then_exit ?_
      refine jq_then_exit ?_
      refine jq_in_hit ?_
      refine jq_then ?_
      refine jc_seq ?_
      refine jc_region ?_
      refine jo_pure rfl (pr_move rfl) ?_
      refine jo_pure rfl (pr_assign rfl) ?_
      refine jo_pure rfl (pr_assign rfl) ?_
      refine jo_nil ?_
      refine jq_then ?_
      refine jc_ret ?_
      refine j_pull1 ?_
      refine j_drop ?_
      refine j_pull1 ?_
      refine j_drop ?_
      exact jq_rets (rs := [.tmp 4, .tmp 5]) (vs := [v, .bool (true)]) rfl v ⟨resV_tmp rfl, resV_tmp rfl, trivial⟩ rfl (show (.tuple #[v, .bool ((prefsF kind l).2)] : Value) = (.tuple #[v, .bool (true)]) from by rw [prefsF_yes h1b]) (fun _ h => by rw [prefsF_yes h1b, show prefsM kind (allF l (nameK kind)) = acc from by rw [hinv.2.2.2, take_over (s := (allF l (nameK kind))) (i := i) (by omega)]]; exact h)

theorem c_law13_awake   : Con Tryd.prog 15 #[] [] (fun _ : Unit => .bool (true)) (fun _ => []) := by
  refine con_of_J (args := []) (n := 29) Tryd.func15 rfl (Nat.le_of_ble_eq_true rfl) rfl (fun w0 I0 m0 => ?_)
  show J _ [] [] _
  refine jc_seq ?_
  refine jc_region ?_
  refine jo_pure rfl (pr_assign rfl) ?_
  refine jo_nil ?_
  refine jq_then ?_
  refine jc_seq ?_
  refine jc_region ?_
  refine jo_pure rfl (pr_build [(0, str ([97, 99, 99, 101, 112, 116, 45, 108, 97, 110, 103, 117, 97, 103, 101])), (1, str ([100, 97, 44, 32, 101, 110, 45, 103, 98, 59, 113, 61, 48, 46, 56, 44, 32, 101, 110, 59, 113, 61, 120]))] [str ([97, 99, 99, 101, 112, 116, 45, 108, 97, 110, 103, 117, 97, 103, 101]), str ([100, 97, 44, 32, 101, 110, 45, 103, 98, 59, 113, 61, 48, 46, 56, 44, 32, 101, 110, 59, 113, 61, 120])] (fun a hf => by simp only [List.map_toArray, List.map_cons, List.map_nil] <;> rfl) (by kernel_rfl)) ?_
  refine jo_buildSlice (t := (.pair .str .str)) [([97, 99, 99, 101, 112, 116, 45, 108, 97, 110, 103, 117, 97, 103, 101], [100, 97, 44, 32, 101, 110, 45, 103, 98, 59, 113, 61, 48, 46, 56, 44, 32, 101, 110, 59, 113, 61, 120])] [.agg #[str ([97, 99, 99, 101, 112, 116, 45, 108, 97, 110, 103, 117, 97, 103, 101]), str ([100, 97, 44, 32, 101, 110, 45, 103, 98, 59, 113, 61, 48, 46, 56, 44, 32, 101, 110, 59, 113, 61, 120])]] (fun a hf => by simp only [List.zipIdx_cons, List.zipIdx_nil, List.map_toArray, List.map_cons, List.map_nil, hf.ev (show ev _ (.tmp 4) = some (.agg #[str ([97, 99, 99, 101, 112, 116, 45, 108, 97, 110, 103, 117, 97, 103, 101]), str ([100, 97, 44, 32, 101, 110, 45, 103, 98, 59, 113, 61, 48, 46, 56, 44, 32, 101, 110, 59, 113, 61, 120])]) from rfl)]) rfl Tryd.underlying31 ty_29 rfl rfl rfl rfl rfl (fun g1 => ?_)
  refine j_pub_rowg ?_
  refine jo_callp cal_12 (c_accept_Prefs ((2 : Nat) : Int) [([97, 99, 99, 101, 112, 116, 45, 108, 97, 110, 103, 117, 97, 103, 101], [100, 97, 44, 32, 101, 110, 45, 103, 98, 59, 113, 61, 48, 46, 56, 44, 32, 101, 110, 59, 113, 61, 120])] (.slice (some ⟨g1, 0, none⟩) ([([97, 99, 99, 101, 112, 116, 45, 108, 97, 110, 103, 117, 97, 103, 101], [100, 97, 44, 32, 101, 110, 45, 103, 98, 59, 113, 61, 48, 46, 56, 44, 32, 101, 110, 59, 113, 61, 120])]).length (([([97, 99, 99, 101, 112, 116, 45, 108, 97, 110, 103, 117, 97, 103, 101], [100, 97, 44, 32, 101, 110, 45, 103, 98, 59, 113, 61, 48, 46, 56, 44, 32, 101, 110, 59, 113, 61, 120])]).length)) (by decide +kernel) (by decide +kernel)) ⟨rfl, rfl, trivial⟩ rfl (⟨⟨rfl, .head _⟩, trivial⟩) (fun r1 => ?_)
  show J _ _ [.row (r1) 45 (.pair .str (.int .i64)) ((prefsF ((2 : Nat) : Int) [([97, 99, 99, 101, 112, 116, 45, 108, 97, 110, 103, 117, 97, 103, 101], [100, 97, 44, 32, 101, 110, 45, 103, 98, 59, 113, 61, 48, 46, 56, 44, 32, 101, 110, 59, 113, 61, 120])]).1), .imm (.list (.pair .str .str)) (.slice (some ⟨g1, 0, none⟩) ([([97, 99, 99, 101, 112, 116, 45, 108, 97, 110, 103, 117, 97, 103, 101], [100, 97, 44, 32, 101, 110, 45, 103, 98, 59, 113, 61, 48, 46, 56, 44, 32, 101, 110, 59, 113, 61, 120])]).length (([([97, 99, 99, 101, 112, 116, 45, 108, 97, 110, 103, 117, 97, 103, 101], [100, 97, 44, 32, 101, 110, 45, 103, 98, 59, 113, 61, 48, 46, 56, 44, 32, 101, 110, 59, 113, 61, 120])]).length)) ([([97, 99, 99, 101, 112, 116, 45, 108, 97, 110, 103, 117, 97, 103, 101], [100, 97, 44, 32, 101, 110, 45, 103, 98, 59, 113, 61, 48, 46, 56, 44, 32, 101, 110, 59, 113, 61, 120])])] _
  refine jo_pure rfl (pr_move rfl) ?_
  refine jo_pure rfl (pr_extract rfl rfl) ?_
  refine jo_pure rfl (pr_extract rfl rfl) ?_
  refine jo_pure rfl (pr_assign rfl) ?_
  refine jo_pure rfl (pr_assign rfl) ?_
  refine jo_nil ?_
  refine jq_then ?_
  refine jc_seq ?_
  refine jc_region ?_
  refine jo_pure rfl (pr_move rfl) ?_
  refine jo_pure rfl (pr_move rfl) ?_
  refine jo_gpure (j := 1) (want := true) rfl rfl rfl rfl (fun hg => pr_move rfl) ?_
  refine jo_gpure (j := 1) (want := true) rfl rfl rfl rfl (fun hg => pr_len_row (evg rfl hg) (.head _) Tryd.underlying25) ?_
  refine jo_gpure (j := 1) (want := true) rfl rfl rfl rfl (fun hg => pr_eqlN (m := ((prefsF ((2 : Nat) : Int) [([97, 99, 99, 101, 112, 116, 45, 108, 97, 110, 103, 117, 97, 103, 101], [100, 97, 44, 32, 101, 110, 45, 103, 98, 59, 113, 61, 48, 46, 56, 44, 32, 101, 110, 59, 113, 61, 120])]).1).length) (n := 2) (evg rfl hg) rfl) ?_
  refine jo_pure rfl (pr_pick_and rfl rfl rfl) ?_
  refine jo_pure rfl (pr_move rfl) ?_
  refine jo_gpure (j := 6) (want := true) rfl rfl rfl rfl (fun hg => pr_move rfl) ?_
  refine jo_gpure (j := 6) (want := true) rfl rfl rfl rfl (fun hg => pr_idx_row (i := 1) (evg rfl hg) (.head _) rfl Tryd.underlying25 ty_45 (by decide +kernel)) ?_
  refine jo_gpure (j := 6) (want := true) rfl rfl rfl rfl (fun hg => pr_fieldAddr_row (i := 1) (evg rfl hg) (.head _) Tryd.underlying45 rfl ty_9 rfl rfl (by decide +kernel)) ?_
  refine jo_gpure (j := 6) (want := true) rfl rfl rfl rfl (fun hg => pr_load_off_row (i := 1) (o := 0) (dd := ([], 0)) (str ((((prefsF ((2 : Nat) : Int) [([97, 99, 99, 101, 112, 116, 45, 108, 97, 110, 103, 117, 97, 103, 101], [100, 97, 44, 32, 101, 110, 45, 103, 98, 59, 113, 61, 48, 46, 56, 44, 32, 101, 110, 59, 113, 61, 120])]).1).getD 1 ([], 0)).1)) (evg rfl hg) (.head _) ty_9 rfl (by decide) rfl (by decide +kernel) rfl) ?_
  refine jo_gpure (j := 6) (want := true) rfl rfl rfl rfl (fun hg => pr_seql (evg rfl hg) rfl) ?_
  refine jo_pure rfl (pr_pick_and rfl rfl rfl) ?_
  refine jo_pure rfl (pr_move rfl) ?_
  refine jo_gpure (j := 13) (want := true) rfl rfl rfl rfl (fun hg => pr_move rfl) ?_
  refine jo_gpure (j := 13) (want := true) rfl rfl rfl rfl (fun hg => pr_idx_row (i := 1) (evg rfl hg) (.head _) rfl Tryd.underlying25 ty_45 (by decide +kernel)) ?_
  refine jo_gpure (j := 13) (want := true) rfl rfl rfl rfl (fun hg => pr_fieldAddr_row (i := 1) (evg rfl hg) (.head _) Tryd.underlying45 rfl ty_3 rfl rfl (by decide +kernel)) ?_
  refine jo_gpure (j := 13) (want := true) rfl rfl rfl rfl (fun hg => pr_load_off_row (i := 1) (o := 1) (dd := ([], 0)) (.int .i64 ((((prefsF ((2 : Nat) : Int) [([97, 99, 99, 101, 112, 116, 45, 108, 97, 110, 103, 117, 97, 103, 101], [100, 97, 44, 32, 101, 110, 45, 103, 98, 59, 113, 61, 48, 46, 56, 44, 32, 101, 110, 59, 113, 61, 120])]).1).getD 1 ([], 0)).2)) (evg rfl hg) (.head _) ty_3 rfl (by decide) rfl (by decide +kernel) rfl) ?_
  refine jo_gpure (j := 13) (want := true) rfl rfl rfl rfl (fun hg => pr_eql (n := 800) (evg rfl hg) rfl) ?_
  refine jo_pure rfl (pr_pick_and rfl rfl rfl) ?_
  refine jo_pure rfl (pr_assign rfl) ?_
  refine jo_nil ?_
  refine jq_then ?_
  refine jc_ret ?_
  refine j_drop ?_
  refine j_drop ?_
  exact jq_ret1 rfl () rfl (show (.bool (true) : Value) = (.bool (((((prefsF ((2 : Nat) : Int) [([97, 99, 99, 101, 112, 116, 45, 108, 97, 110, 103, 117, 97, 103, 101], [100, 97, 44, 32, 101, 110, 45, 103, 98, 59, 113, 61, 48, 46, 56, 44, 32, 101, 110, 59, 113, 61, 120])]).2 && decide ((((prefsF ((2 : Nat) : Int) [([97, 99, 99, 101, 112, 116, 45, 108, 97, 110, 103, 117, 97, 103, 101], [100, 97, 44, 32, 101, 110, 45, 103, 98, 59, 113, 61, 48, 46, 56, 44, 32, 101, 110, 59, 113, 61, 120])]).1).length : Nat) = 2)) && decide (((((prefsF ((2 : Nat) : Int) [([97, 99, 99, 101, 112, 116, 45, 108, 97, 110, 103, 117, 97, 103, 101], [100, 97, 44, 32, 101, 110, 45, 103, 98, 59, 113, 61, 48, 46, 56, 44, 32, 101, 110, 59, 113, 61, 120])]).1).getD 1 ([], 0)).1 : List UInt8) = [101, 110, 45, 103, 98])) && decide (((((prefsF ((2 : Nat) : Int) [([97, 99, 99, 101, 112, 116, 45, 108, 97, 110, 103, 117, 97, 103, 101], [100, 97, 44, 32, 101, 110, 45, 103, 98, 59, 113, 61, 48, 46, 56, 44, 32, 101, 110, 59, 113, 61, 120])]).1).getD 1 ([], 0)).2 : Int) = 800)))) from congrArg Value.bool (by decide +kernel)) (fun _ h => h)

theorem c_law13_AcceptKinds (name : List UInt8) (kind : Int)  : Con Tryd.prog 4 #[str (name), .int .i64 (kind)] [] (fun _ : Unit => .bool (true)) (fun _ => []) := by
  refine con_of_J (args := [str (name), .int .i64 (kind)]) (n := 25) Tryd.func4 rfl (Nat.le_of_ble_eq_true rfl) rfl (fun w0 I0 m0 => ?_)
  show J _ [(0, str (name)), (1, .int .i64 (kind))] [] _
  refine jc_seq ?_
  refine jc_region ?_
  refine jo_pure rfl (pr_assign rfl) ?_
  refine jo_nil ?_
  refine jq_then ?_
  refine jc_seq ?_
  refine jc_region ?_
  refine jo_pure rfl (pr_move rfl) ?_
  refine jo_pure rfl (pr_slen rfl Tryd.underlying9) ?_
  refine jo_pure rfl (pr_gtrN (m := name.length) (n := 300) rfl rfl) ?_
  refine jo_pure rfl (pr_move rfl) ?_
  refine jo_gpure (j := 3) (want := false) rfl rfl rfl rfl (fun hg => pr_move rfl) ?_
  refine jo_gcall (j := 3) (want := false) rfl rfl rfl cal_16 (fun hg => c_accept_Kind name (by first | omega | (simp at hg; omega))) (fun hg => ⟨evg rfl hg, trivial⟩) rfl (fun _ => trivial) ?_
  refine jo_gpure (j := 3) (want := false) rfl rfl rfl rfl (fun hg => pr_move rfl) ?_
  refine jo_gcall (j := 3) (want := false) rfl rfl rfl cal_17 (fun hg => c_ref10_Kind name (by first | omega | (simp at hg; omega))) (fun hg => ⟨evg rfl hg, trivial⟩) rfl (fun _ => trivial) ?_
  refine jo_gpure (j := 3) (want := false) rfl rfl rfl rfl (fun hg => pr_eql (evg rfl hg) (evg rfl hg)) ?_
  refine jo_gpure (j := 3) (want := false) rfl rfl rfl rfl (fun hg => pr_move (evg rfl hg)) ?_
  refine jo_gpure2 (j := 9) (want := true) rfl rfl rfl rfl (fun hg => pr_move rfl) ?_
  refine jo_gcall2 (j := 9) (want := true) rfl rfl rfl cal_11 (fun hg => c_accept_Name kind) (fun hg => ⟨evg rfl hg, trivial⟩) rfl (fun _ => trivial) ?_
  refine jo_gpure2 (j := 9) (want := true) rfl rfl rfl rfl (fun hg => pr_move rfl) ?_
  refine jo_gcall2 (j := 9) (want := true) rfl rfl rfl cal_18 (fun hg => c_ref10_Name kind) (fun hg => ⟨evg rfl hg, trivial⟩) rfl (fun _ => trivial) ?_
  refine jo_gpure2 (j := 9) (want := true) rfl rfl rfl rfl (fun hg => pr_seql (evg rfl hg) (evg rfl hg)) ?_
  refine jo_gpure (j := 3) (want := false) rfl rfl rfl rfl (fun hg => pr_pick_and (evg rfl hg) (evg2 rfl hg) rfl) ?_
  refine jo_gpure (j := 3) (want := false) rfl rfl rfl rfl (fun hg => pr_move (evg rfl hg)) ?_
  refine jo_gcall2 (j := 16) (want := true) rfl rfl rfl cal_15 (fun hg => c_law13_awake) (fun hg => trivial) rfl (fun _ => trivial) ?_
  refine jo_gpure (j := 3) (want := false) rfl rfl rfl rfl (fun hg => pr_pick_and (evg rfl hg) (evg2 rfl hg) rfl) ?_
  refine jo_pure rfl (pr_pick_or rfl rfl rfl) ?_
  refine jo_pure rfl (pr_assign rfl) ?_
  refine jo_nil ?_
  refine jq_then ?_
  refine jc_ret ?_
  exact jq_ret1 rfl () rfl (show (.bool (true) : Value) = (.bool ((decide ((300 : Nat) < name.length) || ((decide ((kindF name : Int) = kindF name) && decide ((nameK kind : List UInt8) = nameK kind)) && true)))) from by simp) (fun _ h => h)
end Go.Proofs.YtikllmfjgpmcnaaDoor
