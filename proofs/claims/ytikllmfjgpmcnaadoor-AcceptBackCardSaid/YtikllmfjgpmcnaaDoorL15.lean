/-
  Contracts of functions of the program: each returns what a plain function says, for every input within the bounds named. Conditions: the bounds.
-/
import Derived.Test.YtikllmfjgpmcnaaDoorRows
import Derived.Test.YtikllmfjgpmcnaaDoorL14
import Derived.Test.YtikllmfjgpmcnaaDoorLaw13C
namespace Go.Proofs.YtikllmfjgpmcnaaDoor
open Go Go.Sep
set_option linter.unusedSimpArgs false
set_option linter.unusedVariables false

open Go.Plain

theorem cal_14 : Cal Tryd.prog 14 := cal_of Tryd.func14 (by kernel_rfl) rfl
theorem cal_26 : Cal Tryd.prog 26 := cal_of Tryd.func26 (by kernel_rfl) rfl
theorem cal_27 : Cal Tryd.prog 27 := cal_of Tryd.func27 (by kernel_rfl) rfl
theorem cal_28 : Cal Tryd.prog 28 := cal_of Tryd.func28 (by kernel_rfl) rfl

theorem c_law13_AcceptBack (kind : Int) (l : List ((List UInt8) × (List UInt8))) (lv : Value) (hl : l.length ≤ 9223372036854775807) : Con Tryd.prog 9 #[.int .i64 (kind), lv] [.imm (.list (.pair .str .str)) (lv) (l)] (fun _ : Unit => .bool (true)) (fun _ => []) := by
  refine con_of_J (args := [.int .i64 (kind), lv]) (n := 62) Tryd.func9 rfl (Nat.le_of_ble_eq_true rfl) rfl (fun w0 I0 m0 => ?_)
  show J _ [(0, .int .i64 (kind)), (1, lv)] [.imm (.list (.pair .str .str)) (lv) (l)] _
  refine jc_seq ?_
  refine jc_region ?_
  refine jo_pure rfl (pr_assign rfl) ?_
  refine jo_nil ?_
  refine jq_then ?_
  refine jc_seq ?_
  refine jc_seq ?_
  refine jc_region ?_
  refine jo_pure rfl (pr_move rfl) ?_
  refine jo_callp cal_26 (c_keep_Fields l lv (by first | omega | exact (fun x hx => by have := keepF_mem hkeep x hx; omega) | (have := keepF_len hkeep; omega) | exact Nat.le_trans (prefsF_length kind _) (by omega) | exact hpl | exact hl1 | (have := nameK_length kind; omega) | (simp only [List.length_cons, List.length_nil]; omega))) ⟨rfl, trivial⟩ rfl (⟨⟨rfl, .head _⟩, trivial⟩) (fun _ => ?_)
  refine jo_pure rfl (pr_not rfl) ?_
  refine jo_nil ?_
  refine jq_then ?_
  refine jc_cond rfl (fun h1b => ?_) (fun h1b => ?_)
  · have h1 := (fun q => id (bt_not q)) h1b
    refine jc_seq ?_
    refine jc_region ?_
    refine jo_pure rfl (pr_assign rfl) ?_
    refine jo_nil ?_
    refine jq_then ?_
    refine jc_ret ?_
    refine jq_then_ret ?_
    refine j_drop ?_
    exact jq_ret1 rfl () rfl (show (.bool (true) : Value) = (.bool (true)) from rfl) (fun _ h => h)
  · have h1 := (fun q => id (bf_not q)) h1b
    have hkeep : keepF l = true := by simpa using h1
    have hlen := keepF_len hkeep
    have hnk := nameK_length kind
    have hpl : ∀ x ∈ (prefsF kind l).1, x.1.length ≤ 15000 := fun x hx => by have := prefsF_short (n := 300) (fun y hy => keepF_mem hkeep y hy) x hx; omega
    refine jc_skip ?_
    refine jq_then ?_
    refine jc_seq ?_
    refine jc_region ?_
    refine jo_pure rfl (pr_move rfl) ?_
    refine jo_pure rfl (pr_move rfl) ?_
    refine jo_callp cal_12 (c_accept_Prefs kind l lv (by first | omega | exact (fun x hx => by have := keepF_mem hkeep x hx; omega) | (have := keepF_len hkeep; omega) | exact Nat.le_trans (prefsF_length kind _) (by omega) | exact hpl | exact hl1 | (have := nameK_length kind; omega) | (simp only [List.length_cons, List.length_nil]; omega)) (by first | omega | exact (fun x hx => by have := keepF_mem hkeep x hx; omega) | (have := keepF_len hkeep; omega) | exact Nat.le_trans (prefsF_length kind _) (by omega) | exact hpl | exact hl1 | (have := nameK_length kind; omega) | (simp only [List.length_cons, List.length_nil]; omega))) ⟨rfl, rfl, trivial⟩ rfl (⟨⟨rfl, .head _⟩, trivial⟩) (fun r1 => ?_)
    show J _ _ [.row (r1) 45 (.pair .str (.int .i64)) ((prefsF kind l).1), .imm (.list (.pair .str .str)) (lv) (l)] _
    refine jo_pure rfl (pr_move rfl) ?_
    refine jo_pure rfl (pr_extract rfl rfl) ?_
    refine jo_pure rfl (pr_extract rfl rfl) ?_
    refine jo_pure rfl (pr_assign rfl) ?_
    refine jo_pure rfl (pr_assign rfl) ?_
    refine jo_nil ?_
    refine jq_then ?_
    refine jc_seq ?_
    refine jc_seq ?_
    refine jc_region ?_
    refine jo_pure rfl (pr_move rfl) ?_
    refine jo_pure rfl (pr_not rfl) ?_
    refine jo_nil ?_
    refine jq_then ?_
    refine jc_cond rfl (fun h2b => ?_) (fun h2b => ?_)
    · have h2 := (fun q => id (bt_not q)) h2b
      have hbk := back_no h2
      refine jc_seq ?_
      refine jc_region ?_
      refine jo_pure rfl (pr_move rfl) ?_
      refine jo_pure rfl (pr_len_row rfl (.head _) Tryd.underlying25) ?_
      refine jo_pure rfl (pr_eqlN (m := ((prefsF kind l).1).length) (n := 0) rfl rfl) ?_
      refine jo_pure rfl (pr_move rfl) ?_
      refine jo_gpure (j := 3) (want := true) rfl rfl rfl rfl (fun hg => pr_move rfl) ?_
      refine jo_gpure (j := 3) (want := true) rfl rfl rfl rfl (fun hg => pr_move rfl) ?_
      refine jo_gpure (j := 3) (want := true) rfl rfl rfl rfl (fun hg => pr_move rfl) ?_
      refine jo_gcall (j := 3) (want := true) rfl rfl rfl cal_18 (fun hg => c_ref10_Name kind) (fun hg => ⟨evg rfl hg, trivial⟩) rfl (fun _ => trivial) ?_
      refine jo_gcall (j := 3) (want := true) rfl rfl rfl cal_27 (fun hg => c_ref01_Has l lv (nameK kind) (by first | omega | exact (fun x hx => by have := keepF_mem hkeep x hx; omega) | (have := keepF_len hkeep; omega) | exact Nat.le_trans (prefsF_length kind _) (by omega) | exact hpl | exact hl1 | (have := nameK_length kind; omega) | (simp only [List.length_cons, List.length_nil]; omega)) (by first | omega | exact (fun x hx => by have := keepF_mem hkeep x hx; omega) | (have := keepF_len hkeep; omega) | exact Nat.le_trans (prefsF_length kind _) (by omega) | exact hpl | exact hl1 | (have := nameK_length kind; omega) | (simp only [List.length_cons, List.length_nil]; omega)) (by first | omega | exact (fun x hx => by have := keepF_mem hkeep x hx; omega) | (have := keepF_len hkeep; omega) | exact Nat.le_trans (prefsF_length kind _) (by omega) | exact hpl | exact hl1 | (have := nameK_length kind; omega) | (simp only [List.length_cons, List.length_nil]; omega))) (fun hg => ⟨evg rfl hg, evg rfl hg, trivial⟩) rfl (fun _ => ⟨⟨rfl, .tail _ (.head _)⟩, trivial⟩) ?_
      refine jo_gpure (j := 3) (want := true) rfl rfl rfl rfl (fun hg => pr_eqlb (evg rfl hg) (evg rfl hg) Tryd.underlying4) ?_
      refine jo_pure rfl (pr_pick_and rfl rfl rfl) ?_
      refine jo_pure rfl (pr_move rfl) ?_
      refine jo_gcall (j := 11) (want := true) rfl rfl rfl cal_15 (fun hg => c_law13_awake) (fun hg => trivial) rfl (fun _ => trivial) ?_
      refine jo_pure rfl (pr_pick_and rfl rfl rfl) ?_
      refine jo_pure rfl (pr_move rfl) ?_
      refine jo_gpure (j := 14) (want := false) rfl rfl rfl rfl (fun hg => pr_move rfl) ?_
      refine jo_gpure (j := 14) (want := false) rfl rfl rfl rfl (fun hg => pr_lss (n := 1) (evg rfl hg) rfl) ?_
      refine jo_pure rfl (pr_pick_or rfl rfl rfl) ?_
      refine jo_pure rfl (pr_move rfl) ?_
      refine jo_gpure (j := 18) (want := false) rfl rfl rfl rfl (fun hg => pr_move rfl) ?_
      refine jo_gpure (j := 18) (want := false) rfl rfl rfl rfl (fun hg => pr_gtr (n := 4) (evg rfl hg) rfl) ?_
      refine jo_pure rfl (pr_pick_or rfl rfl rfl) ?_
      refine jo_pure rfl (pr_assign rfl) ?_
      refine jo_nil ?_
      refine jq_then ?_
      refine jc_ret ?_
      refine jq_then_ret ?_
      refine j_drop ?_
      refine j_drop ?_
      exact jq_ret1 rfl () rfl (show (.bool (true) : Value) = (.bool (((((decide ((((prefsF kind l).1).length : Nat) = 0) && ((prefsF kind l).2 == decide (0 < (getF l (nameK kind)).length))) && true) || decide ((kind : Int) < 1)) || decide ((4 : Int) < kind)))) from congrArg Value.bool (by rcases hbk with (hbk | hbk) | ⟨e1, e2⟩; (simp [hbk]); (simp [hbk]); (simp [e1, e2, h2]))) (fun _ h => h)
    · have h2 := (fun q => id (bf_not q)) h2b
      have hlaw := back_law h2
      have hl1 : ∀ x ∈ [(nameK kind, fmtP (prefsF kind l).1)], x.1.length ≤ 300000 ∧ x.2.length ≤ 300000 := fun x hx => by simp only [List.mem_cons, List.not_mem_nil, or_false] at hx; subst hx; exact ⟨by dsimp only; omega, fmtP_short (n := 2500) (prefsF_length kind l) (fun y hy => by have := prefsF_short (n := 300) (fun z hz => keepF_mem hkeep z hz) y hy; omega) (by omega)⟩
      refine jc_skip ?_
      refine jq_then ?_
      refine jc_seq ?_
      refine jc_region ?_
      refine jo_pure rfl (pr_move rfl) ?_
      refine jo_pure rfl (pr_move rfl) ?_
      refine jo_callp cal_11 (c_accept_Name kind) ⟨rfl, trivial⟩ rfl (trivial) (fun _ => ?_)
      refine jo_pure rfl (pr_move rfl) ?_
      refine j_pub_row ?_
      refine jo_callp cal_28 (c_accept_Format ((prefsF kind l).1) r1 (by first | omega | exact (fun x hx => by have := keepF_mem hkeep x hx; omega) | (have := keepF_len hkeep; omega) | exact Nat.le_trans (prefsF_length kind _) (by omega) | exact hpl | exact hl1 | (have := nameK_length kind; omega) | (simp only [List.length_cons, List.length_nil]; omega)) (by first | omega | exact (fun x hx => by have := keepF_mem hkeep x hx; omega) | (have := keepF_len hkeep; omega) | exact Nat.le_trans (prefsF_length kind _) (by omega) | exact hpl | exact hl1 | (have := nameK_length kind; omega) | (simp only [List.length_cons, List.length_nil]; omega))) ⟨rfl, trivial⟩ rfl (⟨⟨rfl, .head _⟩, trivial⟩) (fun _ => ?_)
      refine jo_pure rfl (pr_build [(0, str (nameK kind)), (1, str (fmtP ((prefsF kind l).1)))] [str (nameK kind), str (fmtP ((prefsF kind l).1))] (fun a hf => by simp only [List.map_toArray, List.map_cons, List.map_nil, hf.ev (show ev _ (.tmp 45) = some (str (nameK kind)) from rfl), hf.ev (show ev _ (.tmp 47) = some (str (fmtP ((prefsF kind l).1))) from rfl)]) (by kernel_rfl)) ?_
      refine jo_buildSlice (t := (.pair .str .str)) [(nameK kind, fmtP ((prefsF kind l).1))] [.agg #[str (nameK kind), str (fmtP ((prefsF kind l).1))]] (fun a hf => by simp only [List.zipIdx_cons, List.zipIdx_nil, List.map_toArray, List.map_cons, List.map_nil, hf.ev (show ev _ (.tmp 48) = some (.agg #[str (nameK kind), str (fmtP ((prefsF kind l).1))]) from rfl)]) rfl Tryd.underlying31 ty_29 rfl rfl rfl rfl rfl (fun g1 => ?_)
      refine j_pub_rowg ?_
      refine jo_callp cal_12 (c_accept_Prefs kind [(nameK kind, fmtP ((prefsF kind l).1))] (.slice (some ⟨g1, 0, none⟩) ([(nameK kind, fmtP ((prefsF kind l).1))]).length (([(nameK kind, fmtP ((prefsF kind l).1))]).length)) (by first | omega | exact (fun x hx => by have := keepF_mem hkeep x hx; omega) | (have := keepF_len hkeep; omega) | exact Nat.le_trans (prefsF_length kind _) (by omega) | exact hpl | exact hl1 | (have := nameK_length kind; omega) | (simp only [List.length_cons, List.length_nil]; omega)) (by first | omega | exact (fun x hx => by have := keepF_mem hkeep x hx; omega) | (have := keepF_len hkeep; omega) | exact Nat.le_trans (prefsF_length kind _) (by omega) | exact hpl | exact hl1 | (have := nameK_length kind; omega) | (simp only [List.length_cons, List.length_nil]; omega))) ⟨rfl, rfl, trivial⟩ rfl (⟨⟨rfl, .head _⟩, trivial⟩) (fun r2 => ?_)
      show J _ _ [.row (r2) 45 (.pair .str (.int .i64)) ((prefsF kind [(nameK kind, fmtP ((prefsF kind l).1))]).1), .imm (.list (.pair .str .str)) (.slice (some ⟨g1, 0, none⟩) ([(nameK kind, fmtP ((prefsF kind l).1))]).length (([(nameK kind, fmtP ((prefsF kind l).1))]).length)) ([(nameK kind, fmtP ((prefsF kind l).1))]), .imm (.list (.pair .str (.int .i64))) (r1) ((prefsF kind l).1), .imm (.list (.pair .str .str)) (lv) (l)] _
      refine jo_pure rfl (pr_move rfl) ?_
      refine jo_pure rfl (pr_extract rfl rfl) ?_
      refine jo_pure rfl (pr_extract rfl rfl) ?_
      refine jo_pure rfl (pr_assign rfl) ?_
      refine jo_pure rfl (pr_assign rfl) ?_
      refine jo_nil ?_
      refine jq_then ?_
      refine jc_seq ?_
      refine jc_region ?_
      refine jo_pure rfl (pr_move rfl) ?_
      refine jo_pure rfl (pr_move rfl) ?_
      refine jo_gpure (j := 1) (want := true) rfl rfl rfl rfl (fun hg => pr_move rfl) ?_
      refine jo_gpure (j := 1) (want := true) rfl rfl rfl rfl (fun hg => pr_move rfl) ?_
      refine j_pub_row ?_
      refine jo_gcall (j := 1) (want := true) rfl rfl rfl cal_14 (fun hg => c_keep_SamePrefs ((prefsF kind l).1) r1 ((prefsF kind [(nameK kind, fmtP ((prefsF kind l).1))]).1) r2 (by first | omega | exact (fun x hx => by have := keepF_mem hkeep x hx; omega) | (have := keepF_len hkeep; omega) | exact Nat.le_trans (prefsF_length kind _) (by omega) | exact hpl | exact hl1 | (have := nameK_length kind; omega) | (simp only [List.length_cons, List.length_nil]; omega))) (fun hg => ⟨evg rfl hg, evg rfl hg, trivial⟩) rfl (fun _ => ⟨⟨rfl, .tail _ (.tail _ (.head _))⟩, ⟨⟨rfl, .head _⟩, trivial⟩⟩) ?_
      refine jo_pure rfl (pr_pick_and rfl rfl rfl) ?_
      refine jo_pure rfl (pr_move rfl) ?_
      refine jo_gcall (j := 6) (want := true) rfl rfl rfl cal_15 (fun hg => c_law13_awake) (fun hg => trivial) rfl (fun _ => trivial) ?_
      refine jo_pure rfl (pr_pick_and rfl rfl rfl) ?_
      refine jo_pure rfl (pr_assign rfl) ?_
      refine jo_nil ?_
      refine jq_then ?_
      refine jc_ret ?_
      refine j_drop ?_
      refine j_drop ?_
      refine j_drop ?_
      refine j_drop ?_
      exact jq_ret1 rfl () rfl (show (.bool (true) : Value) = (.bool ((((prefsF kind [(nameK kind, fmtP ((prefsF kind l).1))]).2 && decide (((prefsF kind l).1) = ((prefsF kind [(nameK kind, fmtP ((prefsF kind l).1))]).1))) && true))) from congrArg Value.bool (by rw [hlaw]; simp [h2])) (fun _ h => h)
end Go.Proofs.YtikllmfjgpmcnaaDoor
