/-
  Contracts of functions of the program: each returns what a plain function says, for every input within the bounds named. Conditions: the bounds.
-/
import Derived.Test.YtikllmfjgpmcnaaGreatDoorRows
import Derived.Test.YtikllmfjgpmcnaaGreatDoorL14
namespace Go.Proofs.YtikllmfjgpmcnaaGreatDoor
open Go Go.Sep
set_option linter.unusedSimpArgs false
set_option linter.unusedVariables false

open Go.Plain

theorem cal_6 : Cal Tryz.prog 6 := cal_of Tryz.func6 (by kernel_rfl) rfl
theorem cal_9 : Cal Tryz.prog 9 := cal_of Tryz.func9 (by kernel_rfl) rfl
theorem cal_10 : Cal Tryz.prog 10 := cal_of Tryz.func10 (by kernel_rfl) rfl
theorem cal_11 : Cal Tryz.prog 11 := cal_of Tryz.func11 (by kernel_rfl) rfl
theorem cal_12 : Cal Tryz.prog 12 := cal_of Tryz.func12 (by kernel_rfl) rfl
theorem cal_13 : Cal Tryz.prog 13 := cal_of Tryz.func13 (by kernel_rfl) rfl
theorem cal_14 : Cal Tryz.prog 14 := cal_of Tryz.func14 (by kernel_rfl) rfl

theorem c_law13_awake   : Con Tryz.prog 9 #[] [] (fun _ : Unit => .bool (true)) (fun _ => []) := by
  refine con_of_J (args := []) (n := 29) Tryz.func9 rfl (Nat.le_of_ble_eq_true rfl) rfl (fun w0 I0 m0 => ?_)
  show J _ [] [] _
  refine jc_seq ?_
  refine jc_region ?_
  refine jo_pure rfl (pr_assign rfl) ?_
  refine jo_nil ?_
  refine jq_then ?_
  refine jc_seq ?_
  refine jc_region ?_
  refine jo_pure rfl (pr_build [(0, str ([97, 99, 99, 101, 112, 116, 45, 108, 97, 110, 103, 117, 97, 103, 101])), (1, str ([100, 97, 44, 32, 101, 110, 45, 103, 98, 59, 113, 61, 48, 46, 56, 44, 32, 101, 110, 59, 113, 61, 120]))] [str ([97, 99, 99, 101, 112, 116, 45, 108, 97, 110, 103, 117, 97, 103, 101]), str ([100, 97, 44, 32, 101, 110, 45, 103, 98, 59, 113, 61, 48, 46, 56, 44, 32, 101, 110, 59, 113, 61, 120])] (fun a hf => by simp only [List.map_toArray, List.map_cons, List.map_nil] <;> rfl) (by kernel_rfl)) ?_
  refine jo_buildSlice (t := (.pair .str .str)) [([97, 99, 99, 101, 112, 116, 45, 108, 97, 110, 103, 117, 97, 103, 101], [100, 97, 44, 32, 101, 110, 45, 103, 98, 59, 113, 61, 48, 46, 56, 44, 32, 101, 110, 59, 113, 61, 120])] [.agg #[str ([97, 99, 99, 101, 112, 116, 45, 108, 97, 110, 103, 117, 97, 103, 101]), str ([100, 97, 44, 32, 101, 110, 45, 103, 98, 59, 113, 61, 48, 46, 56, 44, 32, 101, 110, 59, 113, 61, 120])]] (fun a hf => by simp only [List.zipIdx_cons, List.zipIdx_nil, List.map_toArray, List.map_cons, List.map_nil, hf.ev (show ev _ (.tmp 4) = some (.agg #[str ([97, 99, 99, 101, 112, 116, 45, 108, 97, 110, 103, 117, 97, 103, 101]), str ([100, 97, 44, 32, 101, 110, 45, 103, 98, 59, 113, 61, 48, 46, 56, 44, 32, 101, 110, 59, 113, 61, 120])]) from rfl)]) rfl Tryz.underlying22 ty_35 rfl rfl rfl rfl rfl (fun g1 => ?_)
  refine j_pub_rowg ?_
  refine jo_callp cal_6 (c_accept_Prefs ((2 : Nat) : Int) [([97, 99, 99, 101, 112, 116, 45, 108, 97, 110, 103, 117, 97, 103, 101], [100, 97, 44, 32, 101, 110, 45, 103, 98, 59, 113, 61, 48, 46, 56, 44, 32, 101, 110, 59, 113, 61, 120])] (.slice (some ⟨g1, 0, none⟩) ([([97, 99, 99, 101, 112, 116, 45, 108, 97, 110, 103, 117, 97, 103, 101], [100, 97, 44, 32, 101, 110, 45, 103, 98, 59, 113, 61, 48, 46, 56, 44, 32, 101, 110, 59, 113, 61, 120])]).length (([([97, 99, 99, 101, 112, 116, 45, 108, 97, 110, 103, 117, 97, 103, 101], [100, 97, 44, 32, 101, 110, 45, 103, 98, 59, 113, 61, 48, 46, 56, 44, 32, 101, 110, 59, 113, 61, 120])]).length)) (by decide +kernel) (by decide +kernel)) ⟨rfl, rfl, trivial⟩ rfl (⟨⟨rfl, .head _⟩, trivial⟩) (fun r1 => ?_)
  show J _ _ [.row (r1) 41 (.pair .str (.int .i64)) ((prefsF ((2 : Nat) : Int) [([97, 99, 99, 101, 112, 116, 45, 108, 97, 110, 103, 117, 97, 103, 101], [100, 97, 44, 32, 101, 110, 45, 103, 98, 59, 113, 61, 48, 46, 56, 44, 32, 101, 110, 59, 113, 61, 120])]).1), .imm (.list (.pair .str .str)) (.slice (some ⟨g1, 0, none⟩) ([([97, 99, 99, 101, 112, 116, 45, 108, 97, 110, 103, 117, 97, 103, 101], [100, 97, 44, 32, 101, 110, 45, 103, 98, 59, 113, 61, 48, 46, 56, 44, 32, 101, 110, 59, 113, 61, 120])]).length (([([97, 99, 99, 101, 112, 116, 45, 108, 97, 110, 103, 117, 97, 103, 101], [100, 97, 44, 32, 101, 110, 45, 103, 98, 59, 113, 61, 48, 46, 56, 44, 32, 101, 110, 59, 113, 61, 120])]).length)) ([([97, 99, 99, 101, 112, 116, 45, 108, 97, 110, 103, 117, 97, 103, 101], [100, 97, 44, 32, 101, 110, 45, 103, 98, 59, 113, 61, 48, 46, 56, 44, 32, 101, 110, 59, 113, 61, 120])])] _
  refine jo_pure rfl (pr_move rfl) ?_
  refine jo_pure rfl (pr_extract rfl rfl) ?_
  refine jo_pure rfl (pr_extract rfl rfl) ?_
  refine jo_pure rfl (pr_assign rfl) ?_
  refine jo_pure rfl (pr_assign rfl) ?_
  refine jo_nil ?_
  refine jq_then ?_
  refine jc_seq ?_
  refine jc_region ?_
  refine jo_pure rfl (pr_move rfl) ?_
  refine jo_pure rfl (pr_move rfl) ?_
  refine jo_gpure (j := 1) (want := true) rfl rfl rfl rfl (fun hg => pr_move rfl) ?_
  refine jo_gpure (j := 1) (want := true) rfl rfl rfl rfl (fun hg => pr_len_row (evg rfl hg) (.head _) Tryz.underlying24) ?_
  refine jo_gpure (j := 1) (want := true) rfl rfl rfl rfl (fun hg => pr_eqlN (m := ((prefsF ((2 : Nat) : Int) [([97, 99, 99, 101, 112, 116, 45, 108, 97, 110, 103, 117, 97, 103, 101], [100, 97, 44, 32, 101, 110, 45, 103, 98, 59, 113, 61, 48, 46, 56, 44, 32, 101, 110, 59, 113, 61, 120])]).1).length) (n := 2) (evg rfl hg) rfl) ?_
  refine jo_pure rfl (pr_pick_and rfl rfl rfl) ?_
  refine jo_pure rfl (pr_move rfl) ?_
  refine jo_gpure (j := 6) (want := true) rfl rfl rfl rfl (fun hg => pr_move rfl) ?_
  refine jo_gpure (j := 6) (want := true) rfl rfl rfl rfl (fun hg => pr_idx_row (i := 1) (evg rfl hg) (.head _) rfl Tryz.underlying24 ty_41 (by decide +kernel)) ?_
  refine jo_gpure (j := 6) (want := true) rfl rfl rfl rfl (fun hg => pr_fieldAddr_row (i := 1) (evg rfl hg) (.head _) Tryz.underlying41 rfl ty_9 rfl rfl (by decide +kernel)) ?_
  refine jo_gpure (j := 6) (want := true) rfl rfl rfl rfl (fun hg => pr_load_off_row (i := 1) (o := 0) (dd := ([], 0)) (str ((((prefsF ((2 : Nat) : Int) [([97, 99, 99, 101, 112, 116, 45, 108, 97, 110, 103, 117, 97, 103, 101], [100, 97, 44, 32, 101, 110, 45, 103, 98, 59, 113, 61, 48, 46, 56, 44, 32, 101, 110, 59, 113, 61, 120])]).1).getD 1 ([], 0)).1)) (evg rfl hg) (.head _) ty_9 rfl (by decide) rfl (by decide +kernel) rfl) ?_
  refine jo_gpure (j := 6) (want := true) rfl rfl rfl rfl (fun hg => pr_seql (evg rfl hg) rfl) ?_
  refine jo_pure rfl (pr_pick_and rfl rfl rfl) ?_
  refine jo_pure rfl (pr_move rfl) ?_
  refine jo_gpure (j := 13) (want := true) rfl rfl rfl rfl (fun hg => pr_move rfl) ?_
  refine jo_gpure (j := 13) (want := true) rfl rfl rfl rfl (fun hg => pr_idx_row (i := 1) (evg rfl hg) (.head _) rfl Tryz.underlying24 ty_41 (by decide +kernel)) ?_
  refine jo_gpure (j := 13) (want := true) rfl rfl rfl rfl (fun hg => pr_fieldAddr_row (i := 1) (evg rfl hg) (.head _) Tryz.underlying41 rfl ty_3 rfl rfl (by decide +kernel)) ?_
  refine jo_gpure (j := 13) (want := true) rfl rfl rfl rfl (fun hg => pr_load_off_row (i := 1) (o := 1) (dd := ([], 0)) (.int .i64 ((((prefsF ((2 : Nat) : Int) [([97, 99, 99, 101, 112, 116, 45, 108, 97, 110, 103, 117, 97, 103, 101], [100, 97, 44, 32, 101, 110, 45, 103, 98, 59, 113, 61, 48, 46, 56, 44, 32, 101, 110, 59, 113, 61, 120])]).1).getD 1 ([], 0)).2)) (evg rfl hg) (.head _) ty_3 rfl (by decide) rfl (by decide +kernel) rfl) ?_
  refine jo_gpure (j := 13) (want := true) rfl rfl rfl rfl (fun hg => pr_eql (n := 800) (evg rfl hg) rfl) ?_
  refine jo_pure rfl (pr_pick_and rfl rfl rfl) ?_
  refine jo_pure rfl (pr_assign rfl) ?_
  refine jo_nil ?_
  refine jq_then ?_
  refine jc_ret ?_
  refine j_drop ?_
  refine j_drop ?_
  exact jq_ret1 rfl () rfl (show (.bool (true) : Value) = (.bool (((((prefsF ((2 : Nat) : Int) [([97, 99, 99, 101, 112, 116, 45, 108, 97, 110, 103, 117, 97, 103, 101], [100, 97, 44, 32, 101, 110, 45, 103, 98, 59, 113, 61, 48, 46, 56, 44, 32, 101, 110, 59, 113, 61, 120])]).2 && decide ((((prefsF ((2 : Nat) : Int) [([97, 99, 99, 101, 112, 116, 45, 108, 97, 110, 103, 117, 97, 103, 101], [100, 97, 44, 32, 101, 110, 45, 103, 98, 59, 113, 61, 48, 46, 56, 44, 32, 101, 110, 59, 113, 61, 120])]).1).length : Nat) = 2)) && decide (((((prefsF ((2 : Nat) : Int) [([97, 99, 99, 101, 112, 116, 45, 108, 97, 110, 103, 117, 97, 103, 101], [100, 97, 44, 32, 101, 110, 45, 103, 98, 59, 113, 61, 48, 46, 56, 44, 32, 101, 110, 59, 113, 61, 120])]).1).getD 1 ([], 0)).1 : List UInt8) = [101, 110, 45, 103, 98])) && decide (((((prefsF ((2 : Nat) : Int) [([97, 99, 99, 101, 112, 116, 45, 108, 97, 110, 103, 117, 97, 103, 101], [100, 97, 44, 32, 101, 110, 45, 103, 98, 59, 113, 61, 48, 46, 56, 44, 32, 101, 110, 59, 113, 61, 120])]).1).getD 1 ([], 0)).2 : Int) = 800)))) from congrArg Value.bool (by decide +kernel)) (fun _ h => h)

theorem c_law13_AcceptMatches (kind : Int) (r : List UInt8) (value : List UInt8) (l : List ((List UInt8) × Int)) (lv : Value) (hl : l.length ≤ 9223372036854775807) : Con Tryz.prog 4 #[.int .i64 (kind), str (r), str (value), lv] [.imm (.list (.pair .str (.int .i64))) (lv) (l)] (fun _ : Unit => .bool (true)) (fun _ => []) := by
  refine con_of_J (args := [.int .i64 (kind), str (r), str (value), lv]) (n := 41) Tryz.func4 rfl (Nat.le_of_ble_eq_true rfl) rfl (fun w0 I0 m0 => ?_)
  show J _ [(0, .int .i64 (kind)), (1, str (r)), (2, str (value)), (3, lv)] [.imm (.list (.pair .str (.int .i64))) (lv) (l)] _
  refine jc_seq ?_
  refine jc_region ?_
  refine jo_pure rfl (pr_assign rfl) ?_
  refine jo_nil ?_
  refine jq_then ?_
  refine jc_seq ?_
  refine jc_seq ?_
  refine jc_region ?_
  refine jo_pure rfl (pr_move rfl) ?_
  refine jo_pure rfl (pr_slen rfl Tryz.underlying9) ?_
  refine jo_pure rfl (pr_gtrN (m := r.length) (n := 300) rfl rfl) ?_
  refine jo_pure rfl (pr_move rfl) ?_
  refine jo_gpure (j := 3) (want := false) rfl rfl rfl rfl (fun hg => pr_move rfl) ?_
  refine jo_gpure (j := 3) (want := false) rfl rfl rfl rfl (fun hg => pr_slen (evg rfl hg) Tryz.underlying9) ?_
  refine jo_gpure (j := 3) (want := false) rfl rfl rfl rfl (fun hg => pr_gtrN (m := value.length) (n := 300) (evg rfl hg) rfl) ?_
  refine jo_pure rfl (pr_pick_or rfl rfl rfl) ?_
  refine jo_pure rfl (pr_move rfl) ?_
  refine jo_gpure (j := 8) (want := false) rfl rfl rfl rfl (fun hg => pr_move rfl) ?_
  refine jo_gcall (j := 8) (want := false) rfl rfl rfl cal_10 (fun hg => c_keep_Prefs l lv (by first | omega | exact (fun x hx => by have := keepR_mem hkeep x hx; omega) | (have := keepR_len hkeep; omega))) (fun hg => ⟨evg rfl hg, trivial⟩) rfl (fun _ => ⟨⟨rfl, .head _⟩, trivial⟩) ?_
  refine jo_gpure (j := 8) (want := false) rfl rfl rfl rfl (fun hg => pr_not (evg rfl hg)) ?_
  refine jo_pure rfl (pr_pick_or rfl rfl rfl) ?_
  refine jo_nil ?_
  refine jq_then ?_
  refine jc_cond rfl (fun h1b => ?_) (fun h1b => ?_)
  · have h1 := (fun q => Or.imp (fun q => Or.imp of_decide_eq_true of_decide_eq_true (bt_or q)) (fun q => id (bt_not q)) (bt_or q)) h1b
    refine jc_seq ?_
    refine jc_region ?_
    refine jo_pure rfl (pr_assign rfl) ?_
    refine jo_nil ?_
    refine jq_then ?_
    refine jc_ret ?_
    refine jq_then_ret ?_
    refine j_drop ?_
    exact jq_ret1 rfl () rfl (show (.bool (true) : Value) = (.bool (true)) from rfl) (fun _ h => h)
  · have h1 := (fun q => And.imp (fun q => And.imp of_decide_eq_false of_decide_eq_false (bf_or q)) (fun q => id (bf_not q)) (bf_or q)) h1b
    have hkeep : keepR l = true := by have := h1; simp at this; exact this.2
    have hlen := keepR_len hkeep
    have hrl : r.length ≤ 300 ∧ value.length ≤ 300 := by have := h1; simp at this; exact this.1
    refine jc_skip ?_
    refine jq_then ?_
    refine jc_seq ?_
    refine jc_region ?_
    refine jo_pure rfl (pr_move rfl) ?_
    refine jo_pure rfl (pr_move rfl) ?_
    refine jo_pure rfl (pr_move rfl) ?_
    refine jo_callp cal_11 (c_accept_Match kind r value (by first | omega | exact (fun x hx => by have := keepR_mem hkeep x hx; omega) | (have := keepR_len hkeep; omega)) (by first | omega | exact (fun x hx => by have := keepR_mem hkeep x hx; omega) | (have := keepR_len hkeep; omega))) ⟨rfl, rfl, rfl, trivial⟩ rfl (trivial) (fun _ => ?_)
    refine jo_pure rfl (pr_move rfl) ?_
    refine jo_pure rfl (pr_move rfl) ?_
    refine jo_pure rfl (pr_move rfl) ?_
    refine jo_callp cal_12 (c_ref10_Match kind r value (by first | omega | exact (fun x hx => by have := keepR_mem hkeep x hx; omega) | (have := keepR_len hkeep; omega)) (by first | omega | exact (fun x hx => by have := keepR_mem hkeep x hx; omega) | (have := keepR_len hkeep; omega))) ⟨rfl, rfl, rfl, trivial⟩ rfl (trivial) (fun _ => ?_)
    refine jo_pure rfl (pr_eql rfl rfl) ?_
    refine jo_pure rfl (pr_move rfl) ?_
    refine jo_gpure (j := 9) (want := true) rfl rfl rfl rfl (fun hg => pr_move rfl) ?_
    refine jo_gcall (j := 9) (want := true) rfl rfl rfl cal_13 (fun hg => c_accept_Format l lv (by first | omega | exact (fun x hx => by have := keepR_mem hkeep x hx; omega) | (have := keepR_len hkeep; omega)) (by first | omega | exact (fun x hx => by have := keepR_mem hkeep x hx; omega) | (have := keepR_len hkeep; omega))) (fun hg => ⟨evg rfl hg, trivial⟩) rfl (fun _ => ⟨⟨rfl, .head _⟩, trivial⟩) ?_
    refine jo_gpure (j := 9) (want := true) rfl rfl rfl rfl (fun hg => pr_move rfl) ?_
    refine jo_gcall (j := 9) (want := true) rfl rfl rfl cal_14 (fun hg => c_ref10_FormatPrefs l lv (by first | omega | exact (fun x hx => by have := keepR_mem hkeep x hx; omega) | (have := keepR_len hkeep; omega)) (by first | omega | exact (fun x hx => by have := keepR_mem hkeep x hx; omega) | (have := keepR_len hkeep; omega))) (fun hg => ⟨evg rfl hg, trivial⟩) rfl (fun _ => ⟨⟨rfl, .head _⟩, trivial⟩) ?_
    refine jo_gpure (j := 9) (want := true) rfl rfl rfl rfl (fun hg => pr_seql (evg rfl hg) (evg rfl hg)) ?_
    refine jo_pure rfl (pr_pick_and rfl rfl rfl) ?_
    refine jo_pure rfl (pr_move rfl) ?_
    refine jo_gcall (j := 16) (want := true) rfl rfl rfl cal_9 (fun hg => c_law13_awake) (fun hg => trivial) rfl (fun _ => trivial) ?_
    refine jo_pure rfl (pr_pick_and rfl rfl rfl) ?_
    refine jo_pure rfl (pr_assign rfl) ?_
    refine jo_nil ?_
    refine jq_then ?_
    refine jc_ret ?_
    refine j_drop ?_
    exact jq_ret1 rfl () rfl (show (.bool (true) : Value) = (.bool (((decide ((matchK kind r value : Int) = matchK kind r value) && decide ((fmtP l : List UInt8) = fmtP l)) && true))) from by simp) (fun _ h => h)
end Go.Proofs.YtikllmfjgpmcnaaGreatDoor
