/-
  Contracts of functions of the program: each returns what a plain function says, for every input within the bounds named. Conditions: the bounds.
-/
import Derived.Test.YtaicfjchbhnegaaDoorRows
import Derived.Test.YtaicfjchbhnegaaDoorC3
import Derived.Test.YtaicfjchbhnegaaDoorLaw03B
namespace Go.Proofs.YtaicfjchbhnegaaDoor
open Go Go.Sep
set_option linter.unusedSimpArgs false
set_option linter.unusedVariables false

open Go.Plain

theorem cal_22 : Cal Tryd.prog 22 := cal_of Tryd.func22 (by kernel_rfl) rfl
theorem cal_23 : Cal Tryd.prog 23 := cal_of Tryd.func23 (by kernel_rfl) rfl

theorem c_law03_FieldlineFormats (f : (List UInt8) × (List UInt8))  : Con Tryd.prog 4 #[.agg #[str (f.1), str (f.2)]] [] (fun _ : Unit => .bool (true)) (fun _ => []) := by
  refine con_of_J (args := [.agg #[str (f.1), str (f.2)]]) (n := 28) Tryd.func4 rfl (Nat.le_of_ble_eq_true rfl) rfl (fun w0 I0 m0 => ?_)
  show J _ [(0, .agg #[str (f.1), str (f.2)])] [] _
  refine jc_seq ?_
  refine jc_region ?_
  refine jo_box rfl [str (f.1), str (f.2)] rfl rfl (fun b1 => ?_)
  refine jo_pure rfl (pr_assign rfl) ?_
  refine jo_nil ?_
  refine jq_then ?_
  refine jc_seq ?_
  refine jc_seq ?_
  refine jc_region ?_
  refine jo_pure rfl (pr_fieldAddr 0 rfl Tryd.underlying23 rfl ty_9 rfl rfl) ?_
  refine jo_pure rfl (pr_load_box (str (f.1)) rfl ty_9 (.head _) rfl (by decide) rfl) ?_
  refine jo_pure rfl (pr_slen rfl Tryd.underlying9) ?_
  refine jo_pure rfl (pr_gtrN (m := f.1.length) (n := 3000) rfl rfl) ?_
  refine jo_pure rfl (pr_move rfl) ?_
  refine jo_gpure (j := 4) (want := false) rfl rfl rfl rfl (fun hg => pr_fieldAddr 1 rfl Tryd.underlying23 rfl ty_9 rfl rfl) ?_
  refine jo_gpure (j := 4) (want := false) rfl rfl rfl rfl (fun hg => pr_load_box (str (f.2)) (evg rfl hg) ty_9 (.head _) rfl (by decide) rfl) ?_
  refine jo_gpure (j := 4) (want := false) rfl rfl rfl rfl (fun hg => pr_slen (evg rfl hg) Tryd.underlying9) ?_
  refine jo_gpure (j := 4) (want := false) rfl rfl rfl rfl (fun hg => pr_gtrN (m := f.2.length) (n := 3000) (evg rfl hg) rfl) ?_
  refine jo_pure rfl (pr_pick_or rfl rfl rfl) ?_
  refine jo_nil ?_
  refine jq_then ?_
  refine jc_cond rfl (fun h1b => ?_) (fun h1b => ?_)
  · have h1 := (fun q => Or.imp of_decide_eq_true of_decide_eq_true (bt_or q)) h1b
    refine jc_seq ?_
    refine jc_region ?_
    refine jo_pure rfl (pr_assign rfl) ?_
    refine jo_nil ?_
    refine jq_then ?_
    refine jc_ret ?_
    refine jq_then_ret ?_
    refine j_drop ?_
    exact jq_ret1 rfl () rfl (show (_ : Value) = (.bool (true)) from by simp) (fun _ h => h)
  · have h1 := (fun q => And.imp of_decide_eq_false of_decide_eq_false (bf_or q)) h1b
    refine jc_skip ?_
    refine jq_then ?_
    refine jc_seq ?_
    refine jc_draws mixed (by kernel_rfl) ?_
    refine jd_pure rfl (pr_load_box (.agg #[str (f.1), str (f.2)]) rfl ty_23 (.head _) rfl (by decide) rfl) ?_
    refine jd_callp cal_20 (c_fieldline_Valid f (by omega) (by omega)) ⟨rfl, trivial⟩ rfl (trivial) ?_
    refine jd_pure rfl (pr_load_box (.agg #[str (f.1), str (f.2)]) rfl ty_23 (.head _) rfl (by decide) rfl) ?_
    refine jd_callp cal_21 (c_ref01_ValidField f (by omega) (by omega)) ⟨rfl, trivial⟩ rfl (trivial) ?_
    refine jd_pure rfl (pr_eqlb rfl rfl Tryd.underlying4) ?_
    refine jd_pure rfl (pr_move rfl) ?_
    refine jd_gpure (j := 5) (want := true) rfl rfl rfl rfl (fun hg => pr_load_box (.agg #[str (f.1), str (f.2)]) rfl ty_23 (.head _) rfl (by decide) rfl) ?_
    refine jd_gcall (j := 5) (want := true) rfl rfl rfl cal_22 (fun hg => c_fieldline_Format f (by omega) (by omega)) (fun hg => ⟨evg rfl hg, trivial⟩) rfl (fun _ => trivial) ?_
    refine jd_gpure (j := 5) (want := true) rfl rfl rfl rfl (fun hg => pr_load_box (.agg #[str (f.1), str (f.2)]) rfl ty_23 (.head _) rfl (by decide) rfl) ?_
    refine jd_gcall (j := 5) (want := true) rfl rfl rfl cal_23 (fun hg => c_ref01_FormatField f (by omega) (by omega)) (fun hg => ⟨evg rfl hg, trivial⟩) rfl (fun _ => trivial) ?_
    refine jd_gpure (j := 5) (want := true) rfl rfl rfl rfl (fun hg => pr_seql (evg rfl hg) (evg rfl hg)) ?_
    refine jd_pure rfl (pr_pick_and rfl rfl rfl) ?_
    refine jd_pure rfl (pr_move rfl) ?_
    refine jd_gcall (j := 12) (want := true) rfl rfl rfl cal_19 (fun hg => c_law03_awake) (fun hg => trivial) rfl (fun _ => trivial) ?_
    refine jd_pure rfl (pr_pick_and rfl rfl rfl) ?_
    refine jd_pure rfl (pr_assign rfl) ?_
    refine jd_nil ?_
    refine jq_then ?_
    refine jc_ret ?_
    refine j_drop ?_
    exact jq_ret1 rfl () rfl (show (_ : Value) = (.bool ((((validF f == validF f) && decide ((formatF f : List UInt8) = formatF f)) && true))) from by simp) (fun _ h => h)

theorem c_law03_FieldlineBack (f : (List UInt8) × (List UInt8))  : Con Tryd.prog 5 #[.agg #[str (f.1), str (f.2)]] [] (fun _ : Unit => .bool (true)) (fun _ => []) := by
  refine con_of_J (args := [.agg #[str (f.1), str (f.2)]]) (n := 36) Tryd.func5 rfl (Nat.le_of_ble_eq_true rfl) rfl (fun w0 I0 m0 => ?_)
  show J _ [(0, .agg #[str (f.1), str (f.2)])] [] _
  refine jc_seq ?_
  refine jc_region ?_
  refine jo_box rfl [str (f.1), str (f.2)] rfl rfl (fun b1 => ?_)
  refine jo_pure rfl (pr_assign rfl) ?_
  refine jo_nil ?_
  refine jq_then ?_
  refine jc_seq ?_
  refine jc_seq ?_
  refine jc_region ?_
  refine jo_pure rfl (pr_fieldAddr 0 rfl Tryd.underlying23 rfl ty_9 rfl rfl) ?_
  refine jo_pure rfl (pr_load_box (str (f.1)) rfl ty_9 (.head _) rfl (by decide) rfl) ?_
  refine jo_pure rfl (pr_slen rfl Tryd.underlying9) ?_
  refine jo_pure rfl (pr_gtrN (m := f.1.length) (n := 3000) rfl rfl) ?_
  refine jo_pure rfl (pr_move rfl) ?_
  refine jo_gpure (j := 4) (want := false) rfl rfl rfl rfl (fun hg => pr_fieldAddr 1 rfl Tryd.underlying23 rfl ty_9 rfl rfl) ?_
  refine jo_gpure (j := 4) (want := false) rfl rfl rfl rfl (fun hg => pr_load_box (str (f.2)) (evg rfl hg) ty_9 (.head _) rfl (by decide) rfl) ?_
  refine jo_gpure (j := 4) (want := false) rfl rfl rfl rfl (fun hg => pr_slen (evg rfl hg) Tryd.underlying9) ?_
  refine jo_gpure (j := 4) (want := false) rfl rfl rfl rfl (fun hg => pr_gtrN (m := f.2.length) (n := 3000) (evg rfl hg) rfl) ?_
  refine jo_pure rfl (pr_pick_or rfl rfl rfl) ?_
  refine jo_pure rfl (pr_move rfl) ?_
  refine jo_gpure (j := 10) (want := false) rfl rfl rfl rfl (fun hg => pr_load_box (.agg #[str (f.1), str (f.2)]) rfl ty_23 (.head _) rfl (by decide) rfl) ?_
  refine jo_gcall (j := 10) (want := false) rfl rfl rfl cal_21 (fun hg => c_ref01_ValidField f (by first | omega | (simp at hg; omega) | (have := formatF_length f; omega)) (by first | omega | (simp at hg; omega) | (have := formatF_length f; omega))) (fun hg => ⟨evg rfl hg, trivial⟩) rfl (fun _ => trivial) ?_
  refine jo_gpure (j := 10) (want := false) rfl rfl rfl rfl (fun hg => pr_not (evg rfl hg)) ?_
  refine jo_pure rfl (pr_pick_or rfl rfl rfl) ?_
  refine jo_nil ?_
  refine jq_then ?_
  refine jc_cond rfl (fun h1b => ?_) (fun h1b => ?_)
  · have h1 := (fun q => Or.imp (fun q => Or.imp of_decide_eq_true of_decide_eq_true (bt_or q)) (fun q => id (bt_not q)) (bt_or q)) h1b
    refine jc_seq ?_
    refine jc_region ?_
    refine jo_pure rfl (pr_assign rfl) ?_
    refine jo_nil ?_
    refine jq_then ?_
    refine jc_ret ?_
    refine jq_then_ret ?_
    refine j_drop ?_
    exact jq_ret1 rfl () rfl (show (_ : Value) = (.bool (true)) from rfl) (fun _ h => h)
  · have h1 := (fun q => And.imp (fun q => And.imp of_decide_eq_false of_decide_eq_false (bf_or q)) (fun q => id (bf_not q)) (bf_or q)) h1b
    refine jc_skip ?_
    refine jq_then ?_
    refine jc_seq ?_
    refine jc_region ?_
    refine jo_pure rfl (pr_load_box (.agg #[str (f.1), str (f.2)]) rfl ty_23 (.head _) rfl (by decide) rfl) ?_
    refine jo_callp cal_22 (c_fieldline_Format f (by first | omega | (simp at hg; omega) | (have := formatF_length f; omega)) (by first | omega | (simp at hg; omega) | (have := formatF_length f; omega))) ⟨rfl, trivial⟩ rfl (trivial) (fun _ => ?_)
    refine jo_callp cal_17 (c_fieldline_Parse (formatF f) (by first | omega | (simp at hg; omega) | (have := formatF_length f; omega))) ⟨rfl, trivial⟩ rfl (trivial) (fun _ => ?_)
    refine jo_pure rfl (pr_move rfl) ?_
    refine jo_pure rfl (pr_extract rfl rfl) ?_
    refine jo_pure rfl (pr_extract rfl rfl) ?_
    refine jo_alloc ty_23 [str ([]), str ([])] rfl rfl (fun b2 => ?_)
    refine jo_store rfl rfl ty_23 [str ((parseF (formatF f)).1.1), str ((parseF (formatF f)).1.2)] rfl rfl rfl [str ((parseF (formatF f)).1.1), str ((parseF (formatF f)).1.2)] rfl rfl ?_
    refine jo_pure rfl (pr_assign rfl) ?_
    refine jo_nil ?_
    refine jq_then ?_
    refine jc_seq ?_
    refine jc_region ?_
    refine jo_pure rfl (pr_move rfl) ?_
    refine jo_pure rfl (pr_eqlN (m := (parseF (formatF f)).2) (n := 0) rfl rfl) ?_
    refine jo_pure rfl (pr_move rfl) ?_
    refine jo_gpure (j := 2) (want := true) rfl rfl rfl rfl (fun hg => pr_load_box (.agg #[str ((parseF (formatF f)).1.1), str ((parseF (formatF f)).1.2)]) rfl ty_23 (.head _) rfl (by decide) rfl) ?_
    refine jo_gpure (j := 2) (want := true) rfl rfl rfl rfl (fun hg => pr_load_box (.agg #[str (f.1), str (f.2)]) rfl ty_23 (.tail _ (.head _)) rfl (by decide) rfl) ?_
    refine jo_gpure (j := 2) (want := true) rfl rfl rfl rfl (fun hg => pr_eql_ss (evg rfl hg) (evg rfl hg) Tryd.underlying23 (by kernel_rfl) (by kernel_rfl) (by decide) (by decide) rfl rfl Tryd.underlying9 Tryd.underlying9 ty_9 ty_9) ?_
    refine jo_pure rfl (pr_pick_and rfl rfl rfl) ?_
    refine jo_pure rfl (pr_move rfl) ?_
    refine jo_gcall (j := 7) (want := true) rfl rfl rfl cal_19 (fun hg => c_law03_awake) (fun hg => trivial) rfl (fun _ => trivial) ?_
    refine jo_pure rfl (pr_pick_and rfl rfl rfl) ?_
    refine jo_pure rfl (pr_assign rfl) ?_
    refine jo_nil ?_
    refine jq_then ?_
    refine jc_ret ?_
    refine j_drop ?_
    refine j_drop ?_
    exact jq_ret1 rfl () rfl (show (_ : Value) = (.bool (((decide (((parseF (formatF f)).2 : Nat) = 0) && (decide (((parseF (formatF f)).1.1 : List UInt8) = f.1) && decide (((parseF (formatF f)).1.2 : List UInt8) = f.2))) && true))) from by rw [parse_format f (by have := h1; simp at this; exact this.2)]; simp) (fun _ h => h)
end Go.Proofs.YtaicfjchbhnegaaDoor
