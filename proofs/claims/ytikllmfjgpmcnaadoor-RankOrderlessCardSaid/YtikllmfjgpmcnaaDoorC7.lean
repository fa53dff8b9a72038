/-
  Contracts of functions of the program: each returns what a plain function says, for every input within the bounds named. Conditions: the bounds.
-/
import Derived.Test.YtikllmfjgpmcnaaDoorRows
import Derived.Test.YtikllmfjgpmcnaaDoorC6
import Derived.Test.YtikllmfjgpmcnaaDoorLaw09
namespace Go.Proofs.YtikllmfjgpmcnaaDoor
open Go Go.Sep
set_option linter.unusedSimpArgs false
set_option linter.unusedVariables false

open Go.Plain

theorem cal_29 : Cal Tryd.prog 29 := cal_of Tryd.func29 (by kernel_rfl) rfl
theorem cal_30 : Cal Tryd.prog 30 := cal_of Tryd.func30 (by kernel_rfl) rfl
theorem cal_44 : Cal Tryd.prog 44 := cal_of Tryd.func44 (by kernel_rfl) rfl
theorem cal_64 : Cal Tryd.prog 64 := cal_of Tryd.func64 (by kernel_rfl) rfl
theorem cal_72 : Cal Tryd.prog 72 := cal_of Tryd.func72 (by kernel_rfl) rfl
theorem cal_84 : Cal Tryd.prog 84 := cal_of Tryd.func84 (by kernel_rfl) rfl
theorem cal_85 : Cal Tryd.prog 85 := cal_of Tryd.func85 (by kernel_rfl) rfl
theorem cal_86 : Cal Tryd.prog 86 := cal_of Tryd.func86 (by kernel_rfl) rfl
theorem cal_92 : Cal Tryd.prog 92 := cal_of Tryd.func92 (by kernel_rfl) rfl
theorem cal_100 : Cal Tryd.prog 100 := cal_of Tryd.func100 (by kernel_rfl) rfl
theorem cal_109 : Cal Tryd.prog 109 := cal_of Tryd.func109 (by kernel_rfl) rfl
theorem cal_120 : Cal Tryd.prog 120 := cal_of Tryd.func120 (by kernel_rfl) rfl
theorem cal_129 : Cal Tryd.prog 129 := cal_of Tryd.func129 (by kernel_rfl) rfl
theorem ty_78 : TyF Tryd.prog 78 true 2 32 (some (.agg #[str ([]), str ([])])) := ⟨by kernel_rfl, by kernel_rfl⟩

theorem c_param_cut (s : List UInt8) (hs : s.length ≤ 1000000) : Con Tryd.prog 85 #[str (s)] [] (fun r1 : Value => r1) (fun r1 => [.row r1 9 .str (cutF s 59)]) := by
  refine con_of_J (args := [str (s)]) (n := 54) Tryd.func85 rfl (Nat.le_of_ble_eq_true rfl) rfl (fun w0 I0 m0 => ?_)
  show J _ [(0, str (s))] [] _
  refine jc_seq ?_
  refine jc_region ?_
  refine jo_pure rfl (pr_assign rfl) ?_
  refine jo_nil ?_
  refine jq_then ?_
  refine jc_seq ?_
  refine jc_region ?_
  refine jo_pure rfl (pr_assign rfl) ?_
  refine jo_nil ?_
  refine jq_then ?_
  refine jc_seq ?_
  refine jc_region ?_
  refine jo_pure rfl (pr_assign rfl) ?_
  refine jo_pure rfl (pr_assign rfl) ?_
  refine jo_nil ?_
  refine jq_then ?_
  refine jc_seq ?_
  refine jc_seq ?_
  refine jc_region ?_
  refine jo_pure rfl (pr_assign rfl) ?_
  refine jo_nil ?_
  refine jq_then ?_
  refine jc_block ?_
  refine j_nil_row 9 .str ?_
  refine jc_loop5 (fun (i : Nat) (fr : Nat) (q : Bool) (v : Value) (acc : List (List UInt8)) => [(0, str (s)), (3, v), (4, .bool (q)), (5, .int .i64 ((fr : Nat) : Int)), (6, .int .i64 ((i : Nat) : Int))]) (fun (i : Nat) (fr : Nat) (q : Bool) (v : Value) (acc : List (List UInt8)) => [.row (v) 9 .str (acc)]) (fun (i : Nat) (fr : Nat) (q : Bool) (v : Value) (acc : List (List UInt8)) => acc ++ cutGo 59 (stq q) ((s.take i).drop fr) (s.drop i) = cutF s 59 ∧ fr ≤ i ∧ i ≤ s.length + 1 ∧ fr ≤ s.length ∧ acc.length ≤ fr) (fun (i : Nat) (fr : Nat) (q : Bool) (v : Value) (acc : List (List UInt8)) => s.length + 1 - i) 0 0 false (.slice none 0 0) [] (⟨rfl, Nat.le_refl _, by omega, Nat.zero_le _, Nat.le_refl _⟩) (⟨rfl, rfl, rfl, rfl, rfl, trivial⟩) (fun _ h => h) (fun i fr q v acc hinv => ?_)
  refine jc_seq ?_
  refine jc_seq ?_
  refine jc_region ?_
  refine jo_pure rfl (pr_move rfl) ?_
  refine jo_pure rfl (pr_move rfl) ?_
  refine jo_pure rfl (pr_slen rfl Tryd.underlying9) ?_
  refine jo_pure rfl (pr_lssN (m := i) (n := s.length) rfl rfl) ?_
  refine jo_nil ?_
  refine jq_then ?_
  refine jc_cond rfl (fun h1b => ?_) (fun h1b => ?_)
  · have h1 := of_decide_eq_true h1b
    refine jc_skip ?_
    refine jq_then ?_
    refine jc_seq ?_
    refine jc_block ?_
    refine jc_block ?_
    refine jc_seq ?_
    refine jc_region ?_
    refine jo_pure rfl (pr_move rfl) ?_
    refine jo_pure rfl (pr_move rfl) ?_
    refine jo_gpure (j := 1) (want := true) rfl rfl rfl rfl (fun hg => pr_move rfl) ?_
    refine jo_gpure (j := 1) (want := true) rfl rfl rfl rfl (fun hg => pr_move rfl) ?_
    refine jo_gpure (j := 1) (want := true) rfl rfl rfl rfl (fun hg => pr_sindex (i := i) (evg rfl hg) (evg rfl hg) Tryd.underlying9 (by omega)) ?_
    refine jo_gpure (j := 1) (want := true) rfl rfl rfl rfl (fun hg => pr_beql (n := 92) (evg rfl hg) rfl) ?_
    refine jo_pure rfl (pr_pick_and rfl rfl rfl) ?_
    refine jo_pure rfl (pr_assign rfl) ?_
    refine jo_nil ?_
    refine jq_then ?_
    refine jc_cond rfl (fun h2b => ?_) (fun h2b => ?_)
    · have h2 := (fun q => And.imp id of_decide_eq_true (bt_and q)) h2b
      refine jc_region ?_
      refine jo_pure rfl (pr_move rfl) ?_
      refine jo_pure rfl (pr_addN (m := i) (n := 1) rfl rfl (by omega)) ?_
      refine jo_pure rfl (pr_assign rfl) ?_
      refine jo_nil ?_
      refine jq_in_normal ?_
      refine jq_in_normal ?_
      refine jq_then ?_
      refine jc_region ?_
      refine jo_pure rfl (pr_move rfl) ?_
      refine jo_pure rfl (pr_addN (m := i + 1) (n := 1) rfl rfl (by omega)) ?_
      refine jo_pure rfl (pr_assign rfl) ?_
      refine jo_nil ?_
      refine jq_round' (((i + 1) + 1), fr, q, v, acc) (by (try dsimp only); exact (⟨cut_esc h1 hinv.2.1 h2.1 h2.2 hinv.1, by omega, by omega, by omega, by omega⟩)) (by (try dsimp only); exact (by omega)) ⟨rfl, rfl, rfl, rfl, rfl, trivial⟩ (fun _ h => h)
    · have h2 := (fun q => Or.imp id of_decide_eq_false (bf_and q)) h2b
      refine jc_seq ?_
      refine jc_region ?_
      refine jo_pure rfl (pr_move rfl) ?_
      refine jo_pure rfl (pr_move rfl) ?_
      refine jo_pure rfl (pr_sindex (i := i) rfl rfl Tryd.underlying9 (by omega)) ?_
      refine jo_pure rfl (pr_beql (n := 34) rfl rfl) ?_
      refine jo_pure rfl (pr_assign rfl) ?_
      refine jo_nil ?_
      refine jq_then ?_
      refine jc_cond rfl (fun h3b => ?_) (fun h3b => ?_)
      · have h3 := of_decide_eq_true h3b
        refine jc_region ?_
        refine jo_pure rfl (pr_move rfl) ?_
        refine jo_pure rfl (pr_not rfl) ?_
        refine jo_pure rfl (pr_assign rfl) ?_
        refine jo_nil ?_
        refine jq_in_normal ?_
        refine jq_in_normal ?_
        refine jq_then ?_
        refine jc_region ?_
        refine jo_pure rfl (pr_move rfl) ?_
        refine jo_pure rfl (pr_addN (m := i) (n := 1) rfl rfl (by omega)) ?_
        refine jo_pure rfl (pr_assign rfl) ?_
        refine jo_nil ?_
        refine jq_round' ((i + 1), fr, (!q), v, acc) (by (try dsimp only); exact (⟨cut_quote h1 hinv.2.1 h3 hinv.1, by omega, by omega, by omega, by omega⟩)) (by (try dsimp only); exact (by omega)) ⟨rfl, rfl, rfl, rfl, rfl, trivial⟩ (fun _ h => h)
      · have h3 := of_decide_eq_false h3b
        refine jc_seq ?_
        refine jc_region ?_
        refine jo_pure rfl (pr_move rfl) ?_
        refine jo_pure rfl (pr_move rfl) ?_
        refine jo_pure rfl (pr_sindex (i := i) rfl rfl Tryd.underlying9 (by omega)) ?_
        refine jo_pure rfl (pr_beql (n := 59) rfl rfl) ?_
        refine jo_pure rfl (pr_move rfl) ?_
        refine jo_gpure (j := 4) (want := true) rfl rfl rfl rfl (fun hg => pr_move rfl) ?_
        refine jo_gpure (j := 4) (want := true) rfl rfl rfl rfl (fun hg => pr_not (evg rfl hg)) ?_
        refine jo_pure rfl (pr_pick_and rfl rfl rfl) ?_
        refine jo_pure rfl (pr_assign rfl) ?_
        refine jo_nil ?_
        refine jq_then ?_
        refine jc_cond rfl (fun h4b => ?_) (fun h4b => ?_)
        · have h4 := (fun q => And.imp of_decide_eq_true (fun q => id (bt_not q)) (bt_and q)) h4b
          refine jc_seq ?_
          refine jc_region ?_
          refine jo_pure rfl (pr_move rfl) ?_
          refine jo_pure rfl (pr_move rfl) ?_
          refine jo_pure rfl (pr_move rfl) ?_
          refine jo_pure rfl (pr_move rfl) ?_
          refine jo_pure rfl (pr_sslice (i := fr) (j := i) rfl rfl rfl Tryd.underlying9 (by omega) (by omega)) ?_
          refine jo_buildSlice (t := .str) [(s.take i).drop fr] [str ((s.take i).drop fr)] (fun a hf => by simp only [List.zipIdx_cons, List.zipIdx_nil, List.map_toArray, List.map_cons, List.map_nil, hf.ev (show ev _ (.tmp 43) = some (str ((s.take i).drop fr)) from rfl)]) rfl Tryd.underlying22 ty_9 rfl rfl rfl rfl rfl (fun g1 => ?_)
          refine j_pull1 ?_
          refine jo_append rfl rfl Tryd.underlying22 ty_9 rfl (by simp only [List.length_append, List.length_cons, List.length_nil, maxLen]; omega) (by simp only [List.length_append, List.length_cons, List.length_nil]; omega) rfl (fun v1 => ?_)
          refine jo_pure rfl (pr_assign rfl) ?_
          refine jo_nil ?_
          refine jq_then ?_
          refine jc_region ?_
          refine jo_pure rfl (pr_move rfl) ?_
          refine jo_pure rfl (pr_addN (m := i) (n := 1) rfl rfl (by omega)) ?_
          refine jo_pure rfl (pr_assign rfl) ?_
          refine jo_nil ?_
          refine jq_in_normal ?_
          refine jq_in_normal ?_
          refine jq_then ?_
          refine jc_region ?_
          refine jo_pure rfl (pr_move rfl) ?_
          refine jo_pure rfl (pr_addN (m := i) (n := 1) rfl rfl (by omega)) ?_
          refine jo_pure rfl (pr_assign rfl) ?_
          refine jo_nil ?_
          refine jq_round' ((i + 1), (i + 1), q, v1, (acc ++ [(s.take i).drop fr])) (by (try dsimp only); exact (⟨cut_sep h1 h4.2 h4.1 h3 hinv.1, by omega, by omega, by omega, by simp; omega⟩)) (by (try dsimp only); exact (by omega)) ⟨rfl, rfl, rfl, rfl, rfl, trivial⟩ (fun _ h => h)
        · have h4 := (fun q => Or.imp of_decide_eq_false (fun q => id (bf_not q)) (bf_and q)) h4b
          refine jc_skip ?_
          refine jq_in_normal ?_
          refine jq_in_normal ?_
          refine jq_then ?_
          refine jc_region ?_
          refine jo_pure rfl (pr_move rfl) ?_
          refine jo_pure rfl (pr_addN (m := i) (n := 1) rfl rfl (by omega)) ?_
          refine jo_pure rfl (pr_assign rfl) ?_
          refine jo_nil ?_
          refine jq_round' ((i + 1), fr, q, v, acc) (by (try dsimp only); exact (⟨cut_plain h1 hinv.2.1 (h2.imp id id) h3 (h4.imp id id) hinv.1, by omega, by omega, by omega, by omega⟩)) (by (try dsimp only); exact (by omega)) ⟨rfl, rfl, rfl, rfl, rfl, trivial⟩ (fun _ h => h)
  · have h1 := of_decide_eq_false h1b
    refine jc_exit ?_
    refine jq_then_exit ?_
    refine jq_then_exit ?_
    refine jq_in_hit ?_
    refine jq_then ?_
    refine jc_seq ?_
    refine jc_region ?_
    refine jo_pure rfl (pr_move rfl) ?_
    refine jo_pure rfl (pr_move rfl) ?_
    refine jo_pure rfl (pr_move rfl) ?_
    refine jo_pure rfl (pr_sslice_lo (i := fr) rfl rfl Tryd.underlying9 (by omega)) ?_
    refine jo_buildSlice (t := .str) [s.drop fr] [str (s.drop fr)] (fun a hf => by simp only [List.zipIdx_cons, List.zipIdx_nil, List.map_toArray, List.map_cons, List.map_nil, hf.ev (show ev _ (.tmp 51) = some (str (s.drop fr)) from rfl)]) rfl Tryd.underlying22 ty_9 rfl rfl rfl rfl rfl (fun g2 => ?_)
    refine j_pull1 ?_
    refine jo_append rfl rfl Tryd.underlying22 ty_9 rfl (by simp only [List.length_append, List.length_cons, List.length_nil, maxLen]; omega) (by simp only [List.length_append, List.length_cons, List.length_nil]; omega) rfl (fun v2 => ?_)
    refine jo_pure rfl (pr_assign rfl) ?_
    refine jo_nil ?_
    refine jq_then ?_
    refine jc_ret ?_
    exact jq_ret1 rfl v2 rfl (show (v2 : Value) = (v2) from rfl) (fun _ h => by rw [cut_end (by omega) hinv.1] at h; exact h)

theorem c_ref01_Cut (s : List UInt8) (c : UInt8) (hs : s.length ≤ 1000000) : Con Tryd.prog 29 #[str (s), byte (c)] [] (fun r1 : Value => r1) (fun r1 => [.row r1 9 .str (cutF s c)]) := by
  refine con_of_J (args := [str (s), byte (c)]) (n := 57) Tryd.func29 rfl (Nat.le_of_ble_eq_true rfl) rfl (fun w0 I0 m0 => ?_)
  show J _ [(0, str (s)), (1, byte (c))] [] _
  refine jc_seq ?_
  refine jc_region ?_
  refine jo_pure rfl (pr_assign rfl) ?_
  refine jo_nil ?_
  refine jq_then ?_
  refine jc_seq ?_
  refine jc_region ?_
  refine jo_pure rfl (pr_assign rfl) ?_
  refine jo_nil ?_
  refine jq_then ?_
  refine jc_seq ?_
  refine jc_region ?_
  refine jo_pure rfl (pr_assign rfl) ?_
  refine jo_pure rfl (pr_assign rfl) ?_
  refine jo_nil ?_
  refine jq_then ?_
  refine jc_seq ?_
  refine jc_seq ?_
  refine jc_region ?_
  refine jo_pure rfl (pr_assign rfl) ?_
  refine jo_nil ?_
  refine jq_then ?_
  refine jc_block ?_
  refine j_nil_row 9 .str ?_
  refine jc_loop5 (fun (i : Nat) (fr : Nat) (q : Bool) (v : Value) (acc : List (List UInt8)) => [(0, str (s)), (1, byte (c)), (5, v), (6, .int .i64 ((fr : Nat) : Int)), (7, .bool (q)), (8, .int .i64 ((i : Nat) : Int))]) (fun (i : Nat) (fr : Nat) (q : Bool) (v : Value) (acc : List (List UInt8)) => [.row (v) 9 .str (acc)]) (fun (i : Nat) (fr : Nat) (q : Bool) (v : Value) (acc : List (List UInt8)) => acc ++ cutGo c (stq q) ((s.take i).drop fr) (s.drop i) = cutF s c ∧ fr ≤ i ∧ i ≤ s.length + 1 ∧ fr ≤ s.length ∧ acc.length ≤ fr) (fun (i : Nat) (fr : Nat) (q : Bool) (v : Value) (acc : List (List UInt8)) => s.length + 1 - i) 0 0 false (.slice none 0 0) [] (⟨rfl, Nat.le_refl _, by omega, Nat.zero_le _, Nat.le_refl _⟩) (⟨rfl, rfl, rfl, rfl, rfl, rfl, trivial⟩) (fun _ h => h) (fun i fr q v acc hinv => ?_)
  refine jc_seq ?_
  refine jc_seq ?_
  refine jc_region ?_
  refine jo_pure rfl (pr_move rfl) ?_
  refine jo_pure rfl (pr_move rfl) ?_
  refine jo_pure rfl (pr_slen rfl Tryd.underlying9) ?_
  refine jo_pure rfl (pr_lssN (m := i) (n := s.length) rfl rfl) ?_
  refine jo_nil ?_
  refine jq_then ?_
  refine jc_cond rfl (fun h1b => ?_) (fun h1b => ?_)
  · have h1 := of_decide_eq_true h1b
    refine jc_skip ?_
    refine jq_then ?_
    refine jc_seq ?_
    refine jc_block ?_
    refine jc_block ?_
    refine jc_seq ?_
    refine jc_region ?_
    refine jo_pure rfl (pr_move rfl) ?_
    refine jo_pure rfl (pr_move rfl) ?_
    refine jo_gpure (j := 1) (want := true) rfl rfl rfl rfl (fun hg => pr_move rfl) ?_
    refine jo_gpure (j := 1) (want := true) rfl rfl rfl rfl (fun hg => pr_move rfl) ?_
    refine jo_gpure (j := 1) (want := true) rfl rfl rfl rfl (fun hg => pr_sindex (i := i) (evg rfl hg) (evg rfl hg) Tryd.underlying9 (by omega)) ?_
    refine jo_gpure (j := 1) (want := true) rfl rfl rfl rfl (fun hg => pr_beql (n := 92) (evg rfl hg) rfl) ?_
    refine jo_pure rfl (pr_pick_and rfl rfl rfl) ?_
    refine jo_pure rfl (pr_assign rfl) ?_
    refine jo_nil ?_
    refine jq_then ?_
    refine jc_cond rfl (fun h2b => ?_) (fun h2b => ?_)
    · have h2 := (fun q => And.imp id of_decide_eq_true (bt_and q)) h2b
      refine jc_region ?_
      refine jo_pure rfl (pr_move rfl) ?_
      refine jo_pure rfl (pr_addN (m := i) (n := 1) rfl rfl (by omega)) ?_
      refine jo_pure rfl (pr_assign rfl) ?_
      refine jo_nil ?_
      refine jq_in_normal ?_
      refine jq_in_normal ?_
      refine jq_then ?_
      refine jc_region ?_
      refine jo_pure rfl (pr_move rfl) ?_
      refine jo_pure rfl (pr_addN (m := i + 1) (n := 1) rfl rfl (by omega)) ?_
      refine jo_pure rfl (pr_assign rfl) ?_
      refine jo_nil ?_
      refine jq_round' (((i + 1) + 1), fr, q, v, acc) (by (try dsimp only); exact (⟨cut_esc h1 hinv.2.1 h2.1 h2.2 hinv.1, by omega, by omega, by omega, by omega⟩)) (by (try dsimp only); exact (by omega)) ⟨rfl, rfl, rfl, rfl, rfl, rfl, trivial⟩ (fun _ h => h)
    · have h2 := (fun q => Or.imp id of_decide_eq_false (bf_and q)) h2b
      refine jc_seq ?_
      refine jc_region ?_
      refine jo_pure rfl (pr_move rfl) ?_
      refine jo_pure rfl (pr_move rfl) ?_
      refine jo_pure rfl (pr_sindex (i := i) rfl rfl Tryd.underlying9 (by omega)) ?_
      refine jo_pure rfl (pr_beql (n := 34) rfl rfl) ?_
      refine jo_pure rfl (pr_assign rfl) ?_
      refine jo_nil ?_
      refine jq_then ?_
      refine jc_cond rfl (fun h3b => ?_) (fun h3b => ?_)
      · have h3 := of_decide_eq_true h3b
        refine jc_region ?_
        refine jo_pure rfl (pr_move rfl) ?_
        refine jo_pure rfl (pr_not rfl) ?_
        refine jo_pure rfl (pr_assign rfl) ?_
        refine jo_nil ?_
        refine jq_in_normal ?_
        refine jq_in_normal ?_
        refine jq_then ?_
        refine jc_region ?_
        refine jo_pure rfl (pr_move rfl) ?_
        refine jo_pure rfl (pr_addN (m := i) (n := 1) rfl rfl (by omega)) ?_
        refine jo_pure rfl (pr_assign rfl) ?_
        refine jo_nil ?_
        refine jq_round' ((i + 1), fr, (!q), v, acc) (by (try dsimp only); exact (⟨cut_quote h1 hinv.2.1 h3 hinv.1, by omega, by omega, by omega, by omega⟩)) (by (try dsimp only); exact (by omega)) ⟨rfl, rfl, rfl, rfl, rfl, rfl, trivial⟩ (fun _ h => h)
      · have h3 := of_decide_eq_false h3b
        refine jc_seq ?_
        refine jc_region ?_
        refine jo_pure rfl (pr_move rfl) ?_
        refine jo_pure rfl (pr_move rfl) ?_
        refine jo_pure rfl (pr_sindex (i := i) rfl rfl Tryd.underlying9 (by omega)) ?_
        refine jo_pure rfl (pr_move rfl) ?_
        refine jo_pure rfl (pr_beql rfl rfl) ?_
        refine jo_pure rfl (pr_move rfl) ?_
        refine jo_gpure (j := 5) (want := true) rfl rfl rfl rfl (fun hg => pr_move rfl) ?_
        refine jo_gpure (j := 5) (want := true) rfl rfl rfl rfl (fun hg => pr_not (evg rfl hg)) ?_
        refine jo_pure rfl (pr_pick_and rfl rfl rfl) ?_
        refine jo_pure rfl (pr_assign rfl) ?_
        refine jo_nil ?_
        refine jq_then ?_
        refine jc_cond rfl (fun h4b => ?_) (fun h4b => ?_)
        · have h4 := (fun q => And.imp of_decide_eq_true (fun q => id (bt_not q)) (bt_and q)) h4b
          refine jc_seq ?_
          refine jc_region ?_
          refine jo_pure rfl (pr_move rfl) ?_
          refine jo_pure rfl (pr_move rfl) ?_
          refine jo_pure rfl (pr_move rfl) ?_
          refine jo_pure rfl (pr_move rfl) ?_
          refine jo_pure rfl (pr_sslice (i := fr) (j := i) rfl rfl rfl Tryd.underlying9 (by omega) (by omega)) ?_
          refine jo_buildSlice (t := .str) [(s.take i).drop fr] [str ((s.take i).drop fr)] (fun a hf => by simp only [List.zipIdx_cons, List.zipIdx_nil, List.map_toArray, List.map_cons, List.map_nil, hf.ev (show ev _ (.tmp 46) = some (str ((s.take i).drop fr)) from rfl)]) rfl Tryd.underlying22 ty_9 rfl rfl rfl rfl rfl (fun g1 => ?_)
          refine j_pull1 ?_
          refine jo_append rfl rfl Tryd.underlying22 ty_9 rfl (by simp only [List.length_append, List.length_cons, List.length_nil, maxLen]; omega) (by simp only [List.length_append, List.length_cons, List.length_nil]; omega) rfl (fun v1 => ?_)
          refine jo_pure rfl (pr_assign rfl) ?_
          refine jo_nil ?_
          refine jq_then ?_
          refine jc_region ?_
          refine jo_pure rfl (pr_move rfl) ?_
          refine jo_pure rfl (pr_addN (m := i) (n := 1) rfl rfl (by omega)) ?_
          refine jo_pure rfl (pr_assign rfl) ?_
          refine jo_nil ?_
          refine jq_in_normal ?_
          refine jq_in_normal ?_
          refine jq_then ?_
          refine jc_region ?_
          refine jo_pure rfl (pr_move rfl) ?_
          refine jo_pure rfl (pr_addN (m := i) (n := 1) rfl rfl (by omega)) ?_
          refine jo_pure rfl (pr_assign rfl) ?_
          refine jo_nil ?_
          refine jq_round' ((i + 1), (i + 1), q, v1, (acc ++ [(s.take i).drop fr])) (by (try dsimp only); exact (⟨cut_sep h1 h4.2 h4.1 h3 hinv.1, by omega, by omega, by omega, by simp; omega⟩)) (by (try dsimp only); exact (by omega)) ⟨rfl, rfl, rfl, rfl, rfl, rfl, trivial⟩ (fun _ h => h)
        · have h4 := (fun q => Or.imp of_decide_eq_false (fun q => id (bf_not q)) (bf_and q)) h4b
          refine jc_skip ?_
          refine jq_in_normal ?_
          refine jq_in_normal ?_
          refine jq_then ?_
          refine jc_region ?_
          refine jo_pure rfl (pr_move rfl) ?_
          refine jo_pure rfl (pr_addN (m := i) (n := 1) rfl rfl (by omega)) ?_
          refine jo_pure rfl (pr_assign rfl) ?_
          refine jo_nil ?_
          refine jq_round' ((i + 1), fr, q, v, acc) (by (try dsimp only); exact (⟨cut_plain h1 hinv.2.1 (h2.imp id id) h3 (h4.imp id id) hinv.1, by omega, by omega, by omega, by omega⟩)) (by (try dsimp only); exact (by omega)) ⟨rfl, rfl, rfl, rfl, rfl, rfl, trivial⟩ (fun _ h => h)
  · have h1 := of_decide_eq_false h1b
    refine jc_exit ?_
    refine jq_then_exit ?_
    refine jq_then_exit ?_
    refine jq_in_hit ?_
    refine jq_then ?_
    refine jc_seq ?_
    refine jc_region ?_
    refine jo_pure rfl (pr_move rfl) ?_
    refine jo_pure rfl (pr_move rfl) ?_
    refine jo_pure rfl (pr_move rfl) ?_
    refine jo_pure rfl (pr_sslice_lo (i := fr) rfl rfl Tryd.underlying9 (by omega)) ?_
    refine jo_buildSlice (t := .str) [s.drop fr] [str (s.drop fr)] (fun a hf => by simp only [List.zipIdx_cons, List.zipIdx_nil, List.map_toArray, List.map_cons, List.map_nil, hf.ev (show ev _ (.tmp 54) = some (str (s.drop fr)) from rfl)]) rfl Tryd.underlying22 ty_9 rfl rfl rfl rfl rfl (fun g2 => ?_)
    refine j_pull1 ?_
    refine jo_append rfl rfl Tryd.underlying22 ty_9 rfl (by simp only [List.length_append, List.length_cons, List.length_nil, maxLen]; omega) (by simp only [List.length_append, List.length_cons, List.length_nil]; omega) rfl (fun v2 => ?_)
    refine jo_pure rfl (pr_assign rfl) ?_
    refine jo_nil ?_
    refine jq_then ?_
    refine jc_ret ?_
    exact jq_ret1 rfl v2 rfl (show (v2 : Value) = (v2) from rfl) (fun _ h => by rw [cut_end (by omega) hinv.1] at h; exact h)

theorem c_ascii_Quote (s : List UInt8) (hs : s.length ≤ 1000000) : Con Tryd.prog 130 #[str (s)] [] (fun _ : Unit => str (quote s)) (fun _ => []) := by
  refine con_of_J (args := [str (s)]) (n := 35) Tryd.func130 rfl (Nat.le_of_ble_eq_true rfl) rfl (fun w0 I0 m0 => ?_)
  show J _ [(0, str (s))] [] _
  refine jc_seq ?_
  refine jc_region ?_
  refine jo_pure rfl (pr_assign rfl) ?_
  refine jo_nil ?_
  refine jq_then ?_
  refine jc_seq ?_
  refine jc_region ?_
  refine jo_buildSlice (t := .u8) [34] [byte (34)] (fun a hf => by simp only [List.zipIdx_cons, List.zipIdx_nil, List.map_toArray, List.map_cons, List.map_nil] <;> rfl) rfl Tryd.underlying56 ty_5 rfl rfl rfl rfl rfl (fun g1 => ?_)
  refine jo_pure rfl (pr_assign rfl) ?_
  refine jo_nil ?_
  refine jq_then ?_
  refine jc_seq ?_
  refine jc_seq ?_
  refine jc_region ?_
  refine jo_pure rfl (pr_move rfl) ?_
  refine jo_pure rfl (pr_slen rfl Tryd.underlying9) ?_
  refine jo_pure rfl (pr_move rfl) ?_
  refine jo_nil ?_
  refine jq_then ?_
  refine jc_block ?_
  refine j_row_of_rowg ?_
  refine jc_loop3 (fun (i : Nat) (v : Value) (acc : List UInt8) => [(0, str (s)), (3, v), (7, .int .i64 ((s.length : Nat) : Int)), (8, .int .i64 ((i : Nat) : Int))]) (fun (i : Nat) (v : Value) (acc : List UInt8) => [.row (v) 5 .u8 (acc)]) (fun (i : Nat) (v : Value) (acc : List UInt8) => i ≤ s.length ∧ acc.length ≤ 2 * i + 1 ∧ acc = 34 :: (s.take i).flatMap qc) (fun (i : Nat) (v : Value) (acc : List UInt8) => s.length - i) 0 (.slice (some ⟨g1, 0, none⟩) ([34]).length (([34]).length)) [34] (⟨Nat.zero_le _, Nat.le_refl _, rfl⟩) (⟨rfl, rfl, rfl, rfl, trivial⟩) (fun _ h => h) (fun i v acc hinv => ?_)
  refine jc_seq ?_
  refine jc_region ?_
  refine jo_pure rfl (pr_lssN (m := i) (n := s.length) rfl rfl) ?_
  refine jo_nil ?_
  refine jq_then ?_
  refine jc_seq ?_
  refine jc_cond rfl (fun h1b => ?_) (fun h1b => ?_)
  · have h1 := of_decide_eq_true h1b
    refine jc_skip ?_
    refine jq_then ?_
    refine jc_seq ?_
    refine jc_block ?_
    refine jc_seq ?_
    refine jc_region ?_
    refine jo_pure rfl (pr_move rfl) ?_
    refine jo_pure rfl (pr_assign rfl) ?_
    refine jo_nil ?_
    refine jq_then ?_
    refine jc_seq ?_
    refine jc_seq ?_
    refine jc_region ?_
    refine jo_pure rfl (pr_move rfl) ?_
    refine jo_pure rfl (pr_move rfl) ?_
    refine jo_pure rfl (pr_sindex (i := i) rfl rfl Tryd.underlying9 (by omega)) ?_
    refine jo_pure rfl (pr_beql (n := 34) rfl rfl) ?_
    refine jo_pure rfl (pr_move rfl) ?_
    refine jo_gpure (j := 4) (want := false) rfl rfl rfl rfl (fun hg => pr_move rfl) ?_
    refine jo_gpure (j := 4) (want := false) rfl rfl rfl rfl (fun hg => pr_move rfl) ?_
    refine jo_gpure (j := 4) (want := false) rfl rfl rfl rfl (fun hg => pr_sindex (i := i) (evg rfl hg) (evg rfl hg) Tryd.underlying9 (by omega)) ?_
    refine jo_gpure (j := 4) (want := false) rfl rfl rfl rfl (fun hg => pr_beql (n := 92) (evg rfl hg) rfl) ?_
    refine jo_pure rfl (pr_pick_or rfl rfl rfl) ?_
    refine jo_nil ?_
    refine jq_then ?_
    refine jc_cond rfl (fun h2b => ?_) (fun h2b => ?_)
    · have h2 := (fun q => Or.imp of_decide_eq_true of_decide_eq_true (bt_or q)) h2b
      refine jc_region ?_
      refine jo_pure rfl (pr_move rfl) ?_
      refine jo_buildSlice (t := .u8) [92] [byte (92)] (fun a hf => by simp only [List.zipIdx_cons, List.zipIdx_nil, List.map_toArray, List.map_cons, List.map_nil] <;> rfl) rfl Tryd.underlying56 ty_5 rfl rfl rfl rfl rfl (fun g2 => ?_)
      refine j_pull1 ?_
      refine jo_append rfl rfl Tryd.underlying56 ty_5 rfl (by simp only [List.length_append, List.length_cons, List.length_nil, maxLen]; omega) (by simp only [List.length_append, List.length_cons, List.length_nil]; omega) rfl (fun v1 => ?_)
      refine jo_pure rfl (pr_assign rfl) ?_
      refine jo_nil ?_
      refine jq_then ?_
      refine jc_region ?_
      refine jo_pure rfl (pr_move rfl) ?_
      refine jo_pure rfl (pr_move rfl) ?_
      refine jo_pure rfl (pr_move rfl) ?_
      refine jo_pure rfl (pr_sindex (i := i) rfl rfl Tryd.underlying9 (by omega)) ?_
      refine jo_buildSlice (t := .u8) [s.getD i 0] [byte (s.getD i 0)] (fun a hf => by simp only [List.zipIdx_cons, List.zipIdx_nil, List.map_toArray, List.map_cons, List.map_nil, hf.ev (show ev _ (.tmp 27) = some (byte (s.getD i 0)) from rfl)]) rfl Tryd.underlying56 ty_5 rfl rfl rfl rfl rfl (fun g3 => ?_)
      refine j_pull1 ?_
      refine jo_append rfl rfl Tryd.underlying56 ty_5 rfl (by simp only [List.length_append, List.length_cons, List.length_nil, maxLen]; omega) (by simp only [List.length_append, List.length_cons, List.length_nil]; omega) rfl (fun v2 => ?_)
      refine jo_pure rfl (pr_assign rfl) ?_
      refine jo_nil ?_
      refine jq_in_normal ?_
      refine jq_then ?_
      refine jc_region ?_
      refine jo_pure rfl (pr_addN (m := i) (n := 1) rfl rfl (by omega)) ?_
      refine jo_pure rfl (pr_move rfl) ?_
      refine jo_nil ?_
      refine jq_round' ((i + 1), v2, ((acc ++ [92]) ++ [s.getD i 0])) (by (try dsimp only); exact (⟨by omega, by simp; omega, by rw [hinv.2.2]; exact quote_hit h1 h2⟩)) (by (try dsimp only); exact (by omega)) ⟨rfl, rfl, rfl, rfl, trivial⟩ (fun _ h => h)
    · have h2 := (fun q => And.imp of_decide_eq_false of_decide_eq_false (bf_or q)) h2b
      refine jc_skip ?_
      refine jq_then ?_
      refine jc_region ?_
      refine jo_pure rfl (pr_move rfl) ?_
      refine jo_pure rfl (pr_move rfl) ?_
      refine jo_pure rfl (pr_move rfl) ?_
      refine jo_pure rfl (pr_sindex (i := i) rfl rfl Tryd.underlying9 (by omega)) ?_
      refine jo_buildSlice (t := .u8) [s.getD i 0] [byte (s.getD i 0)] (fun a hf => by simp only [List.zipIdx_cons, List.zipIdx_nil, List.map_toArray, List.map_cons, List.map_nil, hf.ev (show ev _ (.tmp 27) = some (byte (s.getD i 0)) from rfl)]) rfl Tryd.underlying56 ty_5 rfl rfl rfl rfl rfl (fun g4 => ?_)
      refine j_pull1 ?_
      refine jo_append rfl rfl Tryd.underlying56 ty_5 rfl (by simp only [List.length_append, List.length_cons, List.length_nil, maxLen]; omega) (by simp only [List.length_append, List.length_cons, List.length_nil]; omega) rfl (fun v3 => ?_)
      refine jo_pure rfl (pr_assign rfl) ?_
      refine jo_nil ?_
      refine jq_in_normal ?_
      refine jq_then ?_
      refine jc_region ?_
      refine jo_pure rfl (pr_addN (m := i) (n := 1) rfl rfl (by omega)) ?_
      refine jo_pure rfl (pr_move rfl) ?_
      refine jo_nil ?_
      refine jq_round' ((i + 1), v3, (acc ++ [s.getD i 0])) (by (try dsimp only); exact (⟨by omega, by simp; omega, by rw [hinv.2.2]; exact quote_miss h1 h2⟩)) (by (try dsimp only); exact (by omega)) ⟨rfl, rfl, rfl, rfl, trivial⟩ (fun _ h => h)
  · have h1 := of_decide_eq_false h1b
    refine jc_exit ?_
    refine jq_then_exit ?_
    refine jq_then_exit ?_
    refine jq_in_hit ?_
    refine jq_then ?_
    refine jc_seq ?_
    refine jc_region ?_
    refine jo_pure rfl (pr_move rfl) ?_
    refine jo_buildSlice (t := .u8) [34] [byte (34)] (fun a hf => by simp only [List.zipIdx_cons, List.zipIdx_nil, List.map_toArray, List.map_cons, List.map_nil] <;> rfl) rfl Tryd.underlying56 ty_5 rfl rfl rfl rfl rfl (fun g5 => ?_)
    refine j_pull1 ?_
    refine jo_append rfl rfl Tryd.underlying56 ty_5 rfl (by simp only [List.length_append, List.length_cons, List.length_nil, maxLen]; omega) (by simp only [List.length_append, List.length_cons, List.length_nil]; omega) rfl (fun v4 => ?_)
    refine jo_pure rfl (pr_b2s_row (E := 5) rfl (.head _) Tryd.underlying56 Tryd.underlying5 Tryd.underlying9) ?_
    refine jo_pure rfl (pr_assign rfl) ?_
    refine jo_nil ?_
    refine jq_then ?_
    refine jc_ret ?_
    refine j_drop ?_
    exact jq_ret1 rfl () rfl (show (str (quote s) : Value) = (str (acc ++ [34])) from congrArg str (by rw [hinv.2.2, take_over (by omega)]; rfl)) (fun _ h => h)

theorem c_ref01_Unquote (s : List UInt8) (hs : s.length ≤ 1000000) : Con Tryd.prog 100 #[str (s)] [] (fun _ : Unit => .tuple #[str ((unq s).1), .bool ((unq s).2)]) (fun _ => []) := by
  refine con_of_J (args := [str (s)]) (n := 60) Tryd.func100 rfl (Nat.le_of_ble_eq_true rfl) rfl (fun w0 I0 m0 => ?_)
  show J _ [(0, str (s))] [] _
  refine jc_seq ?_
  refine jc_region ?_
  refine jo_pure rfl (pr_assign rfl) ?_
  refine jo_pure rfl (pr_assign rfl) ?_
  refine jo_nil ?_
  refine jq_then ?_
  refine jc_seq ?_
  refine jc_seq ?_
  refine jc_region ?_
  refine jo_pure rfl (pr_move rfl) ?_
  refine jo_pure rfl (pr_slen rfl Tryd.underlying9) ?_
  refine jo_pure rfl (pr_lssN (m := s.length) (n := 2) rfl rfl) ?_
  refine jo_pure rfl (pr_move rfl) ?_
  refine jo_gpure (j := 3) (want := false) rfl rfl rfl rfl (fun hg => pr_move rfl) ?_
  refine jo_gpure (j := 3) (want := false) rfl rfl rfl rfl (fun hg => pr_sindex (i := 0) (evg rfl hg) rfl Tryd.underlying9 (by first | omega | (simp at hg; omega))) ?_
  refine jo_gpure (j := 3) (want := false) rfl rfl rfl rfl (fun hg => pr_bneq (n := 34) (evg rfl hg) rfl) ?_
  refine jo_pure rfl (pr_pick_or rfl rfl rfl) ?_
  refine jo_pure rfl (pr_move rfl) ?_
  refine jo_gpure (j := 8) (want := false) rfl rfl rfl rfl (fun hg => pr_move rfl) ?_
  refine jo_gpure (j := 8) (want := false) rfl rfl rfl rfl (fun hg => pr_move rfl) ?_
  refine jo_gpure (j := 8) (want := false) rfl rfl rfl rfl (fun hg => pr_slen (evg rfl hg) Tryd.underlying9) ?_
  refine jo_gpure (j := 8) (want := false) rfl rfl rfl rfl (fun hg => pr_subN (m := s.length) (n := 1) (evg rfl hg) rfl (by first | omega | (simp at hg; omega)) (by first | omega | (simp at hg; omega))) ?_
  refine jo_gpure (j := 8) (want := false) rfl rfl rfl rfl (fun hg => pr_sindex (i := s.length - 1) (evg rfl hg) (evg rfl hg) Tryd.underlying9 (by first | omega | (simp at hg; omega))) ?_
  refine jo_gpure (j := 8) (want := false) rfl rfl rfl rfl (fun hg => pr_bneq (n := 34) (evg rfl hg) rfl) ?_
  refine jo_pure rfl (pr_pick_or rfl rfl rfl) ?_
  refine jo_nil ?_
  refine jq_then ?_
  refine jc_cond rfl (fun h1b => ?_) (fun h1b => ?_)
  · have h1 := (fun q => Or.imp (fun q => Or.imp of_decide_eq_true (fun q => of_decide_eq_false (bt_not q)) (bt_or q)) (fun q => of_decide_eq_false (bt_not q)) (bt_or q)) h1b
    refine jc_seq ?_
    refine jc_region ?_
    refine jo_pure rfl (pr_assign rfl) ?_
    refine jo_pure rfl (pr_assign rfl) ?_
    refine jo_nil ?_
    refine jq_then ?_
    refine jc_ret ?_
    refine jq_then_ret ?_
    exact jq_rets (rs := [.tmp 2, .tmp 3]) (vs := [str ([]), .bool (false)]) rfl () ⟨resV_tmp rfl, resV_tmp rfl, trivial⟩ rfl (show (.tuple #[str ((unq s).1), .bool ((unq s).2)] : Value) = (.tuple #[str ([]), .bool (false)]) from by rw [unq_no (or_assoc.1 h1)]) (fun _ h => h)
  · have h1 := (fun q => And.imp (fun q => And.imp of_decide_eq_false (fun q => of_decide_eq_true (bf_not q)) (bf_or q)) (fun q => of_decide_eq_true (bf_not q)) (bf_or q)) h1b
    have hs2 : 2 ≤ s.length := by have := h1.1.1; omega
    have hs34 : s.getD 0 0 = 34 := h1.1.2
    have hse : s.getD (s.length - 1) 0 = 34 := h1.2
    have hj : ((s.take (s.length - 1)).drop 1).length ≤ s.length := inner_length s
    refine jc_skip ?_
    refine jq_then ?_
    refine jc_seq ?_
    refine jc_region ?_
    refine jo_pure rfl (pr_move rfl) ?_
    refine jo_pure rfl (pr_move rfl) ?_
    refine jo_pure rfl (pr_slen rfl Tryd.underlying9) ?_
    refine jo_pure rfl (pr_subN (m := s.length) (n := 1) rfl rfl (by first | omega | (simp at hg; omega)) (by first | omega | (simp at hg; omega))) ?_
    refine jo_pure rfl (pr_sslice (i := 1) (j := s.length - 1) rfl rfl rfl Tryd.underlying9 (by first | omega | (simp at hg; omega)) (by first | omega | (simp at hg; omega))) ?_
    refine jo_pure rfl (pr_assign rfl) ?_
    refine jo_nil ?_
    refine jq_then ?_
    refine jc_seq ?_
    refine jc_region ?_
    refine jo_pure rfl (pr_assign rfl) ?_
    refine jo_nil ?_
    refine jq_then ?_
    refine jc_seq ?_
    refine jc_seq ?_
    refine jc_region ?_
    refine jo_pure rfl (pr_assign rfl) ?_
    refine jo_nil ?_
    refine jq_then ?_
    refine jc_block ?_
    refine j_nil_row 5 .u8 ?_
    refine jc_loop3 (fun (i : Nat) (v : Value) (acc : List UInt8) => [(0, str ((s.take (s.length - 1)).drop 1)), (4, v), (5, .int .i64 ((i : Nat) : Int))]) (fun (i : Nat) (v : Value) (acc : List UInt8) => [.row (v) 5 .u8 (acc)]) (fun (i : Nat) (v : Value) (acc : List UInt8) => i ≤ ((s.take (s.length - 1)).drop 1).length ∧ acc.length ≤ i ∧ unqGo acc ((inner s).drop i) = unqGo [] (inner s)) (fun (i : Nat) (v : Value) (acc : List UInt8) => ((s.take (s.length - 1)).drop 1).length - i) 0 (.slice none 0 0) [] (⟨Nat.zero_le _, Nat.le_refl _, rfl⟩) (⟨rfl, rfl, rfl, trivial⟩) (fun _ h => h) (fun i v acc hinv => ?_)
    refine jc_seq ?_
    refine jc_seq ?_
    refine jc_region ?_
    refine jo_pure rfl (pr_move rfl) ?_
    refine jo_pure rfl (pr_move rfl) ?_
    refine jo_pure rfl (pr_slen rfl Tryd.underlying9) ?_
    refine jo_pure rfl (pr_lssN (m := i) (n := ((s.take (s.length - 1)).drop 1).length) rfl rfl) ?_
    refine jo_nil ?_
    refine jq_then ?_
    refine jc_cond rfl (fun h2b => ?_) (fun h2b => ?_)
    · have h2 := of_decide_eq_true h2b
      refine jc_skip ?_
      refine jq_then ?_
      refine jc_seq ?_
      refine jc_block ?_
      refine jc_seq ?_
      refine jc_seq ?_
      refine jc_region ?_
      refine jo_pure rfl (pr_move rfl) ?_
      refine jo_pure rfl (pr_move rfl) ?_
      refine jo_pure rfl (pr_sindex (i := i) rfl rfl Tryd.underlying9 (by first | omega | (simp at hg; omega))) ?_
      refine jo_pure rfl (pr_beql (n := 34) rfl rfl) ?_
      refine jo_nil ?_
      refine jq_then ?_
      refine jc_cond rfl (fun h3b => ?_) (fun h3b => ?_)
      · have h3 := of_decide_eq_true h3b
        refine jc_seq ?_
        refine jc_region ?_
        refine jo_pure rfl (pr_assign rfl) ?_
        refine jo_pure rfl (pr_assign rfl) ?_
        refine jo_nil ?_
        refine jq_then ?_
        refine jc_ret ?_
        refine jq_then_ret ?_
        refine jq_in_ret ?_
        refine jq_then_ret ?_
        refine jq_then_ret ?_
        refine jq_in_ret ?_
        refine jq_then_ret ?_
        refine j_drop ?_
        exact jq_rets (rs := [.tmp 2, .tmp 3]) (vs := [str ([]), .bool (false)]) rfl () ⟨resV_tmp rfl, resV_tmp rfl, trivial⟩ rfl (show (.tuple #[str ((unq s).1), .bool ((unq s).2)] : Value) = (.tuple #[str ([]), .bool (false)]) from by rw [unq_yes hs2 hs34 hse (unq_quote h2 h3 hinv.2.2)] <;> rfl) (fun _ h => h)
      · have h3 := of_decide_eq_false h3b
        refine jc_skip ?_
        refine jq_then ?_
        refine jc_seq ?_
        refine jc_seq ?_
        refine jc_region ?_
        refine jo_pure rfl (pr_move rfl) ?_
        refine jo_pure rfl (pr_move rfl) ?_
        refine jo_pure rfl (pr_sindex (i := i) rfl rfl Tryd.underlying9 (by first | omega | (simp at hg; omega))) ?_
        refine jo_pure rfl (pr_beql (n := 92) rfl rfl) ?_
        refine jo_nil ?_
        refine jq_then ?_
        refine jc_cond rfl (fun h4b => ?_) (fun h4b => ?_)
        · have h4 := of_decide_eq_true h4b
          refine jc_seq ?_
          refine jc_region ?_
          refine jo_pure rfl (pr_move rfl) ?_
          refine jo_pure rfl (pr_addN (m := i) (n := 1) rfl rfl (by omega)) ?_
          refine jo_pure rfl (pr_assign rfl) ?_
          refine jo_nil ?_
          refine jq_then ?_
          refine jc_seq ?_
          refine jc_region ?_
          refine jo_pure rfl (pr_move rfl) ?_
          refine jo_pure rfl (pr_move rfl) ?_
          refine jo_pure rfl (pr_slen rfl Tryd.underlying9) ?_
          refine jo_pure rfl (pr_eqlN (m := i + 1) (n := ((s.take (s.length - 1)).drop 1).length) rfl rfl) ?_
          refine jo_nil ?_
          refine jq_then ?_
          refine jc_cond rfl (fun h5b => ?_) (fun h5b => ?_)
          · have h5 := of_decide_eq_true h5b
            refine jc_seq ?_
            refine jc_region ?_
            refine jo_pure rfl (pr_assign rfl) ?_
            refine jo_pure rfl (pr_assign rfl) ?_
            refine jo_nil ?_
            refine jq_then ?_
            refine jc_ret ?_
            refine jq_then_ret ?_
            refine jq_in_ret ?_
            refine jq_then_ret ?_
            refine jq_then_ret ?_
            refine jq_in_ret ?_
            refine jq_then_ret ?_
            refine j_drop ?_
            exact jq_rets (rs := [.tmp 2, .tmp 3]) (vs := [str ([]), .bool (false)]) rfl () ⟨resV_tmp rfl, resV_tmp rfl, trivial⟩ rfl (show (.tuple #[str ((unq s).1), .bool ((unq s).2)] : Value) = (.tuple #[str ([]), .bool (false)]) from by rw [unq_yes hs2 hs34 hse (unq_esc_end h2 h4 h5 hinv.2.2)] <;> rfl) (fun _ h => h)
          · have h5 := of_decide_eq_false h5b
            refine jc_skip ?_
            refine jq_then ?_
            refine jc_seq ?_
            refine jc_seq ?_
            refine jc_region ?_
            refine jo_pure rfl (pr_move rfl) ?_
            refine jo_pure rfl (pr_move rfl) ?_
            refine jo_pure rfl (pr_sindex (i := i + 1) rfl rfl Tryd.underlying9 (by first | omega | (simp at hg; omega))) ?_
            refine jo_callp cal_120 (c_ref01_textByte (((s.take (s.length - 1)).drop 1).getD (i + 1) 0)) ⟨rfl, trivial⟩ rfl (trivial) (fun _ => ?_)
            refine jo_pure rfl (pr_not rfl) ?_
            refine jo_nil ?_
            refine jq_then ?_
            refine jc_cond rfl (fun h6b => ?_) (fun h6b => ?_)
            · have h6 := (fun q => id (bt_not q)) h6b
              refine jc_seq ?_
              refine jc_region ?_
              refine jo_pure rfl (pr_assign rfl) ?_
              refine jo_pure rfl (pr_assign rfl) ?_
              refine jo_nil ?_
              refine jq_then ?_
              refine jc_ret ?_
              refine jq_then_ret ?_
              refine jq_in_ret ?_
              refine jq_then_ret ?_
              refine jq_then_ret ?_
              refine jq_in_ret ?_
              refine jq_then_ret ?_
              refine j_drop ?_
              exact jq_rets (rs := [.tmp 2, .tmp 3]) (vs := [str ([]), .bool (false)]) rfl () ⟨resV_tmp rfl, resV_tmp rfl, trivial⟩ rfl (show (.tuple #[str ((unq s).1), .bool ((unq s).2)] : Value) = (.tuple #[str ([]), .bool (false)]) from by rw [unq_yes hs2 hs34 hse (unq_esc_bad (t := inner s) (by have : (inner s).length = ((s.take (s.length - 1)).drop 1).length := rfl; omega) h4 h6 hinv.2.2)] <;> rfl) (fun _ h => h)
            · have h6 := (fun q => id (bf_not q)) h6b
              refine jc_skip ?_
              refine jq_then ?_
              refine jc_region ?_
              refine jo_pure rfl (pr_move rfl) ?_
              refine jo_pure rfl (pr_move rfl) ?_
              refine jo_pure rfl (pr_move rfl) ?_
              refine jo_pure rfl (pr_sindex (i := i + 1) rfl rfl Tryd.underlying9 (by first | omega | (simp at hg; omega))) ?_
              refine jo_buildSlice (t := .u8) [((s.take (s.length - 1)).drop 1).getD (i + 1) 0] [byte (((s.take (s.length - 1)).drop 1).getD (i + 1) 0)] (fun a hf => by simp only [List.zipIdx_cons, List.zipIdx_nil, List.map_toArray, List.map_cons, List.map_nil, hf.ev (show ev _ (.tmp 55) = some (byte (((s.take (s.length - 1)).drop 1).getD (i + 1) 0)) from rfl)]) rfl Tryd.underlying56 ty_5 rfl rfl rfl rfl rfl (fun g1 => ?_)
              refine j_pull1 ?_
              refine jo_append rfl rfl Tryd.underlying56 ty_5 rfl (by simp only [List.length_append, List.length_cons, List.length_nil, maxLen]; omega) (by simp only [List.length_append, List.length_cons, List.length_nil]; omega) rfl (fun v1 => ?_)
              refine jo_pure rfl (pr_assign rfl) ?_
              refine jo_nil ?_
              refine jq_in_normal ?_
              refine jq_then ?_
              refine jc_region ?_
              refine jo_pure rfl (pr_move rfl) ?_
              refine jo_pure rfl (pr_addN (m := i + 1) (n := 1) rfl rfl (by omega)) ?_
              refine jo_pure rfl (pr_assign rfl) ?_
              refine jo_nil ?_
              refine jq_round' (((i + 1) + 1), v1, (acc ++ [((s.take (s.length - 1)).drop 1).getD (i + 1) 0])) (by (try dsimp only); exact (⟨by omega, by simp; omega, unq_esc (t := inner s) (by have : (inner s).length = ((s.take (s.length - 1)).drop 1).length := rfl; omega) h4 h6 hinv.2.2⟩)) (by (try dsimp only); exact (by omega)) ⟨rfl, rfl, rfl, trivial⟩ (fun _ h => h)
        · have h4 := of_decide_eq_false h4b
          refine jc_skip ?_
          refine jq_then ?_
          refine jc_seq ?_
          refine jc_seq ?_
          refine jc_region ?_
          refine jo_pure rfl (pr_move rfl) ?_
          refine jo_pure rfl (pr_move rfl) ?_
          refine jo_pure rfl (pr_sindex (i := i) rfl rfl Tryd.underlying9 (by first | omega | (simp at hg; omega))) ?_
          refine jo_callp cal_120 (c_ref01_textByte (((s.take (s.length - 1)).drop 1).getD i 0)) ⟨rfl, trivial⟩ rfl (trivial) (fun _ => ?_)
          refine jo_pure rfl (pr_not rfl) ?_
          refine jo_nil ?_
          refine jq_then ?_
          refine jc_cond rfl (fun h7b => ?_) (fun h7b => ?_)
          · have h7 := (fun q => id (bt_not q)) h7b
            refine jc_seq ?_
            refine jc_region ?_
            refine jo_pure rfl (pr_assign rfl) ?_
            refine jo_pure rfl (pr_assign rfl) ?_
            refine jo_nil ?_
            refine jq_then ?_
            refine jc_ret ?_
            refine jq_then_ret ?_
            refine jq_in_ret ?_
            refine jq_then_ret ?_
            refine jq_then_ret ?_
            refine jq_in_ret ?_
            refine jq_then_ret ?_
            refine j_drop ?_
            exact jq_rets (rs := [.tmp 2, .tmp 3]) (vs := [str ([]), .bool (false)]) rfl () ⟨resV_tmp rfl, resV_tmp rfl, trivial⟩ rfl (show (.tuple #[str ((unq s).1), .bool ((unq s).2)] : Value) = (.tuple #[str ([]), .bool (false)]) from by rw [unq_yes hs2 hs34 hse (unq_bad h2 h3 h4 h7 hinv.2.2)] <;> rfl) (fun _ h => h)
          · have h7 := (fun q => id (bf_not q)) h7b
            refine jc_skip ?_
            refine jq_then ?_
            refine jc_region ?_
            refine jo_pure rfl (pr_move rfl) ?_
            refine jo_pure rfl (pr_move rfl) ?_
            refine jo_pure rfl (pr_move rfl) ?_
            refine jo_pure rfl (pr_sindex (i := i) rfl rfl Tryd.underlying9 (by first | omega | (simp at hg; omega))) ?_
            refine jo_buildSlice (t := .u8) [((s.take (s.length - 1)).drop 1).getD i 0] [byte (((s.take (s.length - 1)).drop 1).getD i 0)] (fun a hf => by simp only [List.zipIdx_cons, List.zipIdx_nil, List.map_toArray, List.map_cons, List.map_nil, hf.ev (show ev _ (.tmp 55) = some (byte (((s.take (s.length - 1)).drop 1).getD i 0)) from rfl)]) rfl Tryd.underlying56 ty_5 rfl rfl rfl rfl rfl (fun g2 => ?_)
            refine j_pull1 ?_
            refine jo_append rfl rfl Tryd.underlying56 ty_5 rfl (by simp only [List.length_append, List.length_cons, List.length_nil, maxLen]; omega) (by simp only [List.length_append, List.length_cons, List.length_nil]; omega) rfl (fun v2 => ?_)
            refine jo_pure rfl (pr_assign rfl) ?_
            refine jo_nil ?_
            refine jq_in_normal ?_
            refine jq_then ?_
            refine jc_region ?_
            refine jo_pure rfl (pr_move rfl) ?_
            refine jo_pure rfl (pr_addN (m := i) (n := 1) rfl rfl (by omega)) ?_
            refine jo_pure rfl (pr_assign rfl) ?_
            refine jo_nil ?_
            refine jq_round' ((i + 1), v2, (acc ++ [((s.take (s.length - 1)).drop 1).getD i 0])) (by (try dsimp only); exact (⟨by omega, by simp; omega, unq_plain h2 h3 h4 h7 hinv.2.2⟩)) (by (try dsimp only); exact (by omega)) ⟨rfl, rfl, rfl, trivial⟩ (fun _ h => h)
    · have h2 := of_decide_eq_false h2b
      refine jc_exit ?_
      refine jq_then_exit ?_
      refine jq_then_exit ?_
      refine jq_in_hit ?_
      refine jq_then ?_
      refine jc_seq ?_
      refine jc_region ?_
      refine jo_pure rfl (pr_move rfl) ?_
      refine jo_pure rfl (pr_b2s_row (E := 5) rfl (.head _) Tryd.underlying56 Tryd.underlying5 Tryd.underlying9) ?_
      refine jo_pure rfl (pr_assign rfl) ?_
      refine jo_pure rfl (pr_assign rfl) ?_
      refine jo_nil ?_
      refine jq_then ?_
      refine jc_ret ?_
      refine j_drop ?_
      exact jq_rets (rs := [.tmp 2, .tmp 3]) (vs := [str (acc), .bool (true)]) rfl () ⟨resV_tmp rfl, resV_tmp rfl, trivial⟩ rfl (show (.tuple #[str ((unq s).1), .bool ((unq s).2)] : Value) = (.tuple #[str (acc), .bool (true)]) from by rw [unq_yes hs2 hs34 hse (unq_end (t := inner s) (by have : (inner s).length = ((s.take (s.length - 1)).drop 1).length := rfl; omega) hinv.2.2)] <;> rfl) (fun _ h => h)

theorem c_ascii_Unquote (s : List UInt8) (hs : s.length ≤ 1000000) : Con Tryd.prog 109 #[str (s)] [] (fun _ : Unit => .tuple #[str ((unq s).1), .bool ((unq s).2)]) (fun _ => []) := by
  refine con_of_J (args := [str (s)]) (n := 64) Tryd.func109 rfl (Nat.le_of_ble_eq_true rfl) rfl (fun w0 I0 m0 => ?_)
  show J _ [(0, str (s))] [] _
  refine jc_seq ?_
  refine jc_region ?_
  refine jo_pure rfl (pr_assign rfl) ?_
  refine jo_pure rfl (pr_assign rfl) ?_
  refine jo_nil ?_
  refine jq_then ?_
  refine jc_seq ?_
  refine jc_seq ?_
  refine jc_region ?_
  refine jo_pure rfl (pr_move rfl) ?_
  refine jo_pure rfl (pr_slen rfl Tryd.underlying9) ?_
  refine jo_pure rfl (pr_lssN (m := s.length) (n := 2) rfl rfl) ?_
  refine jo_pure rfl (pr_move rfl) ?_
  refine jo_gpure (j := 3) (want := false) rfl rfl rfl rfl (fun hg => pr_move rfl) ?_
  refine jo_gpure (j := 3) (want := false) rfl rfl rfl rfl (fun hg => pr_sindex (i := 0) (evg rfl hg) rfl Tryd.underlying9 (by first | omega | (simp at hg; omega))) ?_
  refine jo_gpure (j := 3) (want := false) rfl rfl rfl rfl (fun hg => pr_bneq (n := 34) (evg rfl hg) rfl) ?_
  refine jo_pure rfl (pr_pick_or rfl rfl rfl) ?_
  refine jo_pure rfl (pr_move rfl) ?_
  refine jo_gpure (j := 8) (want := false) rfl rfl rfl rfl (fun hg => pr_move rfl) ?_
  refine jo_gpure (j := 8) (want := false) rfl rfl rfl rfl (fun hg => pr_move rfl) ?_
  refine jo_gpure (j := 8) (want := false) rfl rfl rfl rfl (fun hg => pr_slen (evg rfl hg) Tryd.underlying9) ?_
  refine jo_gpure (j := 8) (want := false) rfl rfl rfl rfl (fun hg => pr_subN (m := s.length) (n := 1) (evg rfl hg) rfl (by first | omega | (simp at hg; omega)) (by first | omega | (simp at hg; omega))) ?_
  refine jo_gpure (j := 8) (want := false) rfl rfl rfl rfl (fun hg => pr_sindex (i := s.length - 1) (evg rfl hg) (evg rfl hg) Tryd.underlying9 (by first | omega | (simp at hg; omega))) ?_
  refine jo_gpure (j := 8) (want := false) rfl rfl rfl rfl (fun hg => pr_bneq (n := 34) (evg rfl hg) rfl) ?_
  refine jo_pure rfl (pr_pick_or rfl rfl rfl) ?_
  refine jo_pure rfl (pr_move rfl) ?_
  refine jo_gpure (j := 16) (want := false) rfl rfl rfl rfl (fun hg => pr_move rfl) ?_
  refine jo_gpure (j := 16) (want := false) rfl rfl rfl rfl (fun hg => pr_move rfl) ?_
  refine jo_gpure (j := 16) (want := false) rfl rfl rfl rfl (fun hg => pr_slen (evg rfl hg) Tryd.underlying9) ?_
  refine jo_gpure (j := 16) (want := false) rfl rfl rfl rfl (fun hg => pr_subN (m := s.length) (n := 1) (evg rfl hg) rfl (by first | omega | (simp at hg; omega)) (by first | omega | (simp at hg; omega))) ?_
  refine jo_gpure (j := 16) (want := false) rfl rfl rfl rfl (fun hg => pr_sslice (i := 1) (j := s.length - 1) (evg rfl hg) rfl (evg rfl hg) Tryd.underlying9 (by first | omega | (simp at hg; omega)) (by first | omega | (simp at hg; omega))) ?_
  refine jo_gcall (j := 16) (want := false) rfl rfl rfl cal_129 (fun hg => c_ascii_Text ((s.take (s.length - 1)).drop 1) (by first | omega | (simp at hg; simp; omega))) (fun hg => ⟨evg rfl hg, trivial⟩) rfl (fun _ => trivial) ?_
  refine jo_gpure (j := 16) (want := false) rfl rfl rfl rfl (fun hg => pr_not (evg rfl hg)) ?_
  refine jo_pure rfl (pr_pick_or rfl rfl rfl) ?_
  refine jo_nil ?_
  refine jq_then ?_
  refine jc_cond rfl (fun h1b => ?_) (fun h1b => ?_)
  · have h1 := (fun q => Or.imp (fun q => Or.imp (fun q => Or.imp of_decide_eq_true (fun q => of_decide_eq_false (bt_not q)) (bt_or q)) (fun q => of_decide_eq_false (bt_not q)) (bt_or q)) (fun q => id (bt_not q)) (bt_or q)) h1b
    refine jc_seq ?_
    refine jc_region ?_
    refine jo_pure rfl (pr_assign rfl) ?_
    refine jo_pure rfl (pr_assign rfl) ?_
    refine jo_nil ?_
    refine jq_then ?_
    refine jc_ret ?_
    refine jq_then_ret ?_
    exact jq_rets (rs := [.tmp 2, .tmp 3]) (vs := [str ([]), .bool (false)]) rfl () ⟨resV_tmp rfl, resV_tmp rfl, trivial⟩ rfl (show (.tuple #[str ((unq s).1), .bool ((unq s).2)] : Value) = (.tuple #[str ([]), .bool (false)]) from by rcases h1 with h1 | h1; rw [unq_no (or_assoc.1 h1)]; rw [unq_nt h1]) (fun _ h => h)
  · have h1 := (fun q => And.imp (fun q => And.imp (fun q => And.imp of_decide_eq_false (fun q => of_decide_eq_true (bf_not q)) (bf_or q)) (fun q => of_decide_eq_true (bf_not q)) (bf_or q)) (fun q => id (bf_not q)) (bf_or q)) h1b
    have hs2 : 2 ≤ s.length := by have := h1.1.1.1; omega
    have hs34 : s.getD 0 0 = 34 := h1.1.1.2
    have hse : s.getD (s.length - 1) 0 = 34 := h1.1.2
    have htx : (inner s).all textB = true := h1.2
    have hj : ((s.take (s.length - 1)).drop 1).length ≤ s.length := inner_length s
    refine jc_skip ?_
    refine jq_then ?_
    refine jc_seq ?_
    refine jc_region ?_
    refine jo_pure rfl (pr_move rfl) ?_
    refine jo_pure rfl (pr_move rfl) ?_
    refine jo_pure rfl (pr_slen rfl Tryd.underlying9) ?_
    refine jo_pure rfl (pr_subN (m := s.length) (n := 1) rfl rfl (by first | omega | (simp at hg; omega)) (by first | omega | (simp at hg; omega))) ?_
    refine jo_pure rfl (pr_sslice (i := 1) (j := s.length - 1) rfl rfl rfl Tryd.underlying9 (by first | omega | (simp at hg; omega)) (by first | omega | (simp at hg; omega))) ?_
    refine jo_pure rfl (pr_assign rfl) ?_
    refine jo_nil ?_
    refine jq_then ?_
    refine jc_seq ?_
    refine jc_region ?_
    refine jo_pure rfl (pr_assign rfl) ?_
    refine jo_nil ?_
    refine jq_then ?_
    refine jc_seq ?_
    refine jc_seq ?_
    refine jc_region ?_
    refine jo_pure rfl (pr_assign rfl) ?_
    refine jo_nil ?_
    refine jq_then ?_
    refine jc_block ?_
    refine j_nil_row 5 .u8 ?_
    refine jc_loop3 (fun (i : Nat) (v : Value) (acc : List UInt8) => [(4, str ((s.take (s.length - 1)).drop 1)), (5, v), (6, .int .i64 ((i : Nat) : Int))]) (fun (i : Nat) (v : Value) (acc : List UInt8) => [.row (v) 5 .u8 (acc)]) (fun (i : Nat) (v : Value) (acc : List UInt8) => i ≤ ((s.take (s.length - 1)).drop 1).length ∧ acc.length ≤ i ∧ unqGo acc ((inner s).drop i) = unqGo [] (inner s)) (fun (i : Nat) (v : Value) (acc : List UInt8) => ((s.take (s.length - 1)).drop 1).length - i) 0 (.slice none 0 0) [] (⟨Nat.zero_le _, Nat.le_refl _, rfl⟩) (⟨rfl, rfl, rfl, trivial⟩) (fun _ h => h) (fun i v acc hinv => ?_)
    refine jc_seq ?_
    refine jc_seq ?_
    refine jc_region ?_
    refine jo_pure rfl (pr_move rfl) ?_
    refine jo_pure rfl (pr_move rfl) ?_
    refine jo_pure rfl (pr_slen rfl Tryd.underlying9) ?_
    refine jo_pure rfl (pr_lssN (m := i) (n := ((s.take (s.length - 1)).drop 1).length) rfl rfl) ?_
    refine jo_nil ?_
    refine jq_then ?_
    refine jc_cond rfl (fun h2b => ?_) (fun h2b => ?_)
    · have h2 := of_decide_eq_true h2b
      refine jc_skip ?_
      refine jq_then ?_
      refine jc_seq ?_
      refine jc_block ?_
      refine jc_seq ?_
      refine jc_seq ?_
      refine jc_region ?_
      refine jo_pure rfl (pr_move rfl) ?_
      refine jo_pure rfl (pr_move rfl) ?_
      refine jo_pure rfl (pr_sindex (i := i) rfl rfl Tryd.underlying9 (by first | omega | (simp at hg; omega))) ?_
      refine jo_nil ?_
      refine jq_then ?_
      refine jc_block ?_
      refine jc_seq ?_
      refine jc_region ?_
      refine jo_pure rfl (pr_beql (n := 34) rfl rfl) ?_
      refine jo_pure rfl (pr_assign rfl) ?_
      refine jo_nil ?_
      refine jq_then ?_
      refine jc_cond rfl (fun h3b => ?_) (fun h3b => ?_)
      · have h3 := of_decide_eq_true h3b
        refine jc_seq ?_
        refine jc_region ?_
        refine jo_pure rfl (pr_assign rfl) ?_
        refine jo_pure rfl (pr_assign rfl) ?_
        refine jo_nil ?_
        refine jq_then ?_
        refine jc_ret ?_
        refine jq_in_ret ?_
        refine jq_then_ret ?_
        refine jq_in_ret ?_
        refine jq_then_ret ?_
        refine jq_then_ret ?_
        refine jq_in_ret ?_
        refine jq_then_ret ?_
        refine j_drop ?_
        exact jq_rets (rs := [.tmp 2, .tmp 3]) (vs := [str ([]), .bool (false)]) rfl () ⟨resV_tmp rfl, resV_tmp rfl, trivial⟩ rfl (show (.tuple #[str ((unq s).1), .bool ((unq s).2)] : Value) = (.tuple #[str ([]), .bool (false)]) from by rw [unq_yes hs2 hs34 hse (unq_quote h2 h3 hinv.2.2)] <;> rfl) (fun _ h => h)
      · have h3 := of_decide_eq_false h3b
        refine jc_seq ?_
        refine jc_region ?_
        refine jo_pure rfl (pr_beql (n := 92) rfl rfl) ?_
        refine jo_pure rfl (pr_assign rfl) ?_
        refine jo_nil ?_
        refine jq_then ?_
        refine jc_cond rfl (fun h4b => ?_) (fun h4b => ?_)
        · have h4 := of_decide_eq_true h4b
          refine jc_seq ?_
          refine jc_region ?_
          refine jo_pure rfl (pr_move rfl) ?_
          refine jo_pure rfl (pr_addN (m := i) (n := 1) rfl rfl (by omega)) ?_
          refine jo_pure rfl (pr_assign rfl) ?_
          refine jo_nil ?_
          refine jq_then ?_
          refine jc_seq ?_
          refine jc_region ?_
          refine jo_pure rfl (pr_move rfl) ?_
          refine jo_pure rfl (pr_move rfl) ?_
          refine jo_pure rfl (pr_slen rfl Tryd.underlying9) ?_
          refine jo_pure rfl (pr_eqlN (m := i + 1) (n := ((s.take (s.length - 1)).drop 1).length) rfl rfl) ?_
          refine jo_nil ?_
          refine jq_then ?_
          refine jc_cond rfl (fun h5b => ?_) (fun h5b => ?_)
          · have h5 := of_decide_eq_true h5b
            refine jc_seq ?_
            refine jc_region ?_
            refine jo_pure rfl (pr_assign rfl) ?_
            refine jo_pure rfl (pr_assign rfl) ?_
            refine jo_nil ?_
            refine jq_then ?_
            refine jc_ret ?_
            refine jq_in_ret ?_
            refine jq_then_ret ?_
            refine jq_in_ret ?_
            refine jq_then_ret ?_
            refine jq_then_ret ?_
            refine jq_in_ret ?_
            refine jq_then_ret ?_
            refine j_drop ?_
            exact jq_rets (rs := [.tmp 2, .tmp 3]) (vs := [str ([]), .bool (false)]) rfl () ⟨resV_tmp rfl, resV_tmp rfl, trivial⟩ rfl (show (.tuple #[str ((unq s).1), .bool ((unq s).2)] : Value) = (.tuple #[str ([]), .bool (false)]) from by rw [unq_yes hs2 hs34 hse (unq_esc_end h2 h4 h5 hinv.2.2)] <;> rfl) (fun _ h => h)
          · have h5 := of_decide_eq_false h5b
            refine jc_skip ?_
            refine jq_in_normal ?_
            refine jq_then ?_
            refine jc_region ?_
            refine jo_pure rfl (pr_move rfl) ?_
            refine jo_pure rfl (pr_move rfl) ?_
            refine jo_pure rfl (pr_move rfl) ?_
            refine jo_pure rfl (pr_sindex (i := i + 1) rfl rfl Tryd.underlying9 (by first | omega | (simp at hg; omega))) ?_
            refine jo_buildSlice (t := .u8) [((s.take (s.length - 1)).drop 1).getD (i + 1) 0] [byte (((s.take (s.length - 1)).drop 1).getD (i + 1) 0)] (fun a hf => by simp only [List.zipIdx_cons, List.zipIdx_nil, List.map_toArray, List.map_cons, List.map_nil, hf.ev (show ev _ (.tmp 59) = some (byte (((s.take (s.length - 1)).drop 1).getD (i + 1) 0)) from rfl)]) rfl Tryd.underlying56 ty_5 rfl rfl rfl rfl rfl (fun g1 => ?_)
            refine j_pull1 ?_
            refine jo_append rfl rfl Tryd.underlying56 ty_5 rfl (by simp only [List.length_append, List.length_cons, List.length_nil, maxLen]; omega) (by simp only [List.length_append, List.length_cons, List.length_nil]; omega) rfl (fun v1 => ?_)
            refine jo_pure rfl (pr_assign rfl) ?_
            refine jo_nil ?_
            refine jq_in_normal ?_
            refine jq_then ?_
            refine jc_region ?_
            refine jo_pure rfl (pr_move rfl) ?_
            refine jo_pure rfl (pr_addN (m := i + 1) (n := 1) rfl rfl (by omega)) ?_
            refine jo_pure rfl (pr_assign rfl) ?_
            refine jo_nil ?_
            refine jq_round' (((i + 1) + 1), v1, (acc ++ [((s.take (s.length - 1)).drop 1).getD (i + 1) 0])) (by (try dsimp only); exact (⟨by omega, by simp; omega, unq_esc (t := inner s) (by have : (inner s).length = ((s.take (s.length - 1)).drop 1).length := rfl; omega) h4 (text_get htx (by have : (inner s).length = ((s.take (s.length - 1)).drop 1).length := rfl; omega)) hinv.2.2⟩)) (by (try dsimp only); exact (by omega)) ⟨rfl, rfl, rfl, trivial⟩ (fun _ h => h)
        · have h4 := of_decide_eq_false h4b
          refine jc_skip ?_
          refine jq_in_normal ?_
          refine jq_then ?_
          refine jc_region ?_
          refine jo_pure rfl (pr_move rfl) ?_
          refine jo_pure rfl (pr_move rfl) ?_
          refine jo_pure rfl (pr_move rfl) ?_
          refine jo_pure rfl (pr_sindex (i := i) rfl rfl Tryd.underlying9 (by first | omega | (simp at hg; omega))) ?_
          refine jo_buildSlice (t := .u8) [((s.take (s.length - 1)).drop 1).getD i 0] [byte (((s.take (s.length - 1)).drop 1).getD i 0)] (fun a hf => by simp only [List.zipIdx_cons, List.zipIdx_nil, List.map_toArray, List.map_cons, List.map_nil, hf.ev (show ev _ (.tmp 59) = some (byte (((s.take (s.length - 1)).drop 1).getD i 0)) from rfl)]) rfl Tryd.underlying56 ty_5 rfl rfl rfl rfl rfl (fun g2 => ?_)
          refine j_pull1 ?_
          refine jo_append rfl rfl Tryd.underlying56 ty_5 rfl (by simp only [List.length_append, List.length_cons, List.length_nil, maxLen]; omega) (by simp only [List.length_append, List.length_cons, List.length_nil]; omega) rfl (fun v2 => ?_)
          refine jo_pure rfl (pr_assign rfl) ?_
          refine jo_nil ?_
          refine jq_in_normal ?_
          refine jq_then ?_
          refine jc_region ?_
          refine jo_pure rfl (pr_move rfl) ?_
          refine jo_pure rfl (pr_addN (m := i) (n := 1) rfl rfl (by omega)) ?_
          refine jo_pure rfl (pr_assign rfl) ?_
          refine jo_nil ?_
          refine jq_round' ((i + 1), v2, (acc ++ [((s.take (s.length - 1)).drop 1).getD i 0])) (by (try dsimp only); exact (⟨by omega, by simp; omega, unq_plain h2 h3 h4 (text_get htx h2) hinv.2.2⟩)) (by (try dsimp only); exact (by omega)) ⟨rfl, rfl, rfl, trivial⟩ (fun _ h => h)
    · have h2 := of_decide_eq_false h2b
      refine jc_exit ?_
      refine jq_then_exit ?_
      refine jq_then_exit ?_
      refine jq_in_hit ?_
      refine jq_then ?_
      refine jc_seq ?_
      refine jc_region ?_
      refine jo_pure rfl (pr_move rfl) ?_
      refine jo_pure rfl (pr_b2s_row (E := 5) rfl (.head _) Tryd.underlying56 Tryd.underlying5 Tryd.underlying9) ?_
      refine jo_pure rfl (pr_assign rfl) ?_
      refine jo_pure rfl (pr_assign rfl) ?_
      refine jo_nil ?_
      refine jq_then ?_
      refine jc_ret ?_
      refine j_drop ?_
      exact jq_rets (rs := [.tmp 2, .tmp 3]) (vs := [str (acc), .bool (true)]) rfl () ⟨resV_tmp rfl, resV_tmp rfl, trivial⟩ rfl (show (.tuple #[str ((unq s).1), .bool ((unq s).2)] : Value) = (.tuple #[str (acc), .bool (true)]) from by rw [unq_yes hs2 hs34 hse (unq_end (t := inner s) (by have : (inner s).length = ((s.take (s.length - 1)).drop 1).length := rfl; omega) hinv.2.2)] <;> rfl) (fun _ h => h)

theorem c_param_one (s : List UInt8) (hs : s.length ≤ 1000000) : Con Tryd.prog 86 #[str (s)] [] (fun _ : Unit => .tuple #[str ((oneP s).1), str ((oneP s).2.1), .bool ((oneP s).2.2)]) (fun _ => []) := by
  refine con_of_J (args := [str (s)]) (n := 33) Tryd.func86 rfl (Nat.le_of_ble_eq_true rfl) rfl (fun w0 I0 m0 => ?_)
  show J _ [(0, str (s))] [] _
  refine jc_seq ?_
  refine jc_region ?_
  refine jo_pure rfl (pr_assign rfl) ?_
  refine jo_pure rfl (pr_assign rfl) ?_
  refine jo_pure rfl (pr_assign rfl) ?_
  refine jo_nil ?_
  refine jq_then ?_
  refine jc_seq ?_
  refine jc_region ?_
  refine jo_pure rfl (pr_move rfl) ?_
  refine jo_callp cal_92 (c_strings_Cut s [61] 61 (rfl) (by first | omega | (simp only [List.length_take, List.length_drop]; omega))) ⟨rfl, rfl, trivial⟩ rfl (trivial) (fun _ => ?_)
  refine jo_pure rfl (pr_move rfl) ?_
  refine jo_pure rfl (pr_extract rfl rfl) ?_
  refine jo_pure rfl (pr_extract rfl rfl) ?_
  refine jo_pure rfl (pr_extract rfl rfl) ?_
  refine jo_pure rfl (pr_assign rfl) ?_
  refine jo_pure rfl (pr_assign rfl) ?_
  refine jo_pure rfl (pr_assign rfl) ?_
  refine jo_nil ?_
  refine jq_then ?_
  refine jc_seq ?_
  refine jc_seq ?_
  refine jc_region ?_
  refine jo_pure rfl (pr_move rfl) ?_
  refine jo_pure rfl (pr_not rfl) ?_
  refine jo_pure rfl (pr_move rfl) ?_
  refine jo_gpure (j := 2) (want := false) rfl rfl rfl rfl (fun hg => pr_move rfl) ?_
  refine jo_gcall (j := 2) (want := false) rfl rfl rfl cal_64 (fun hg => c_ascii_Token (s.take (pos s 61)) (by first | omega | (simp only [List.length_take, List.length_drop]; omega))) (fun hg => ⟨evg rfl hg, trivial⟩) rfl (fun _ => trivial) ?_
  refine jo_gpure (j := 2) (want := false) rfl rfl rfl rfl (fun hg => pr_not (evg rfl hg)) ?_
  refine jo_pure rfl (pr_pick_or rfl rfl rfl) ?_
  refine jo_nil ?_
  refine jq_then ?_
  refine jc_cond rfl (fun h1b => ?_) (fun h1b => ?_)
  · have h1 := (fun q => Or.imp (fun q => id (bt_not q)) (fun q => id (bt_not q)) (bt_or q)) h1b
    refine jc_seq ?_
    refine jc_region ?_
    refine jo_pure rfl (pr_assign rfl) ?_
    refine jo_pure rfl (pr_assign rfl) ?_
    refine jo_pure rfl (pr_assign rfl) ?_
    refine jo_nil ?_
    refine jq_then ?_
    refine jc_ret ?_
    refine jq_then_ret ?_
    exact jq_rets (rs := [.tmp 2, .tmp 3, .tmp 4]) (vs := [str ([]), str ([]), .bool (false)]) rfl () ⟨resV_tmp rfl, resV_tmp rfl, resV_tmp rfl, trivial⟩ rfl (show (.tuple #[str ((oneP s).1), str ((oneP s).2.1), .bool ((oneP s).2.2)] : Value) = (.tuple #[str ([]), str ([]), .bool (false)]) from by rcases h1 with h1 | h1; rw [one_no (of_decide_eq_false h1)]; rw [one_bad h1]) (fun _ h => h)
  · have h1 := (fun q => And.imp (fun q => id (bf_not q)) (fun q => id (bf_not q)) (bf_or q)) h1b
    refine jc_skip ?_
    refine jq_then ?_
    refine jc_seq ?_
    refine jc_seq ?_
    refine jc_region ?_
    refine jo_pure rfl (pr_move rfl) ?_
    refine jo_callp cal_64 (c_ascii_Token (s.drop (pos s 61 + 1)) (by first | omega | (simp only [List.length_take, List.length_drop]; omega))) ⟨rfl, trivial⟩ rfl (trivial) (fun _ => ?_)
    refine jo_pure rfl (pr_not rfl) ?_
    refine jo_nil ?_
    refine jq_then ?_
    refine jc_cond rfl (fun h2b => ?_) (fun h2b => ?_)
    · have h2 := (fun q => id (bt_not q)) h2b
      refine jc_region ?_
      refine jo_pure rfl (pr_move rfl) ?_
      refine jo_callp cal_109 (c_ascii_Unquote (s.drop (pos s 61 + 1)) (by first | omega | (simp only [List.length_take, List.length_drop]; omega))) ⟨rfl, trivial⟩ rfl (trivial) (fun _ => ?_)
      refine jo_pure rfl (pr_move rfl) ?_
      refine jo_pure rfl (pr_extract rfl rfl) ?_
      refine jo_pure rfl (pr_extract rfl rfl) ?_
      refine jo_pure rfl (pr_assign rfl) ?_
      refine jo_pure rfl (pr_assign rfl) ?_
      refine jo_nil ?_
      refine jq_then ?_
      refine jc_seq ?_
      refine jc_region ?_
      refine jo_pure rfl (pr_move rfl) ?_
      refine jo_callp cal_59 (c_ascii_Lower (s.take (pos s 61)) (by first | omega | (simp only [List.length_take, List.length_drop]; omega))) ⟨rfl, trivial⟩ rfl (trivial) (fun _ => ?_)
      refine jo_pure rfl (pr_move rfl) ?_
      refine jo_pure rfl (pr_move rfl) ?_
      refine jo_pure rfl (pr_assign rfl) ?_
      refine jo_pure rfl (pr_assign rfl) ?_
      refine jo_pure rfl (pr_assign rfl) ?_
      refine jo_nil ?_
      refine jq_then ?_
      refine jc_ret ?_
      exact jq_rets (rs := [.tmp 2, .tmp 3, .tmp 4]) (vs := [str (lower (s.take (pos s 61))), str ((unq (s.drop (pos s 61 + 1))).1), .bool ((unq (s.drop (pos s 61 + 1))).2)]) rfl () ⟨resV_tmp rfl, resV_tmp rfl, resV_tmp rfl, trivial⟩ rfl (show (.tuple #[str ((oneP s).1), str ((oneP s).2.1), .bool ((oneP s).2.2)] : Value) = (.tuple #[str (lower (s.take (pos s 61))), str ((unq (s.drop (pos s 61 + 1))).1), .bool ((unq (s.drop (pos s 61 + 1))).2)]) from by rw [one_unq (of_decide_eq_true h1.1) h1.2 h2]) (fun _ h => h)
    · have h2 := (fun q => id (bf_not q)) h2b
      refine jc_skip ?_
      refine jq_then ?_
      refine jc_seq ?_
      refine jc_region ?_
      refine jo_pure rfl (pr_move rfl) ?_
      refine jo_callp cal_59 (c_ascii_Lower (s.take (pos s 61)) (by first | omega | (simp only [List.length_take, List.length_drop]; omega))) ⟨rfl, trivial⟩ rfl (trivial) (fun _ => ?_)
      refine jo_pure rfl (pr_move rfl) ?_
      refine jo_pure rfl (pr_move rfl) ?_
      refine jo_pure rfl (pr_assign rfl) ?_
      refine jo_pure rfl (pr_assign rfl) ?_
      refine jo_pure rfl (pr_assign rfl) ?_
      refine jo_nil ?_
      refine jq_then ?_
      refine jc_ret ?_
      exact jq_rets (rs := [.tmp 2, .tmp 3, .tmp 4]) (vs := [str (lower (s.take (pos s 61))), str (s.drop (pos s 61 + 1)), .bool (decide (pos s 61 < s.length))]) rfl () ⟨resV_tmp rfl, resV_tmp rfl, resV_tmp rfl, trivial⟩ rfl (show (.tuple #[str ((oneP s).1), str ((oneP s).2.1), .bool ((oneP s).2.2)] : Value) = (.tuple #[str (lower (s.take (pos s 61))), str (s.drop (pos s 61 + 1)), .bool (decide (pos s 61 < s.length))]) from by rw [one_tok (of_decide_eq_true h1.1) h1.2 h2, h1.1]) (fun _ h => h)

theorem c_param_Parse (s : List UInt8) (hs : s.length ≤ 1000000) : Con Tryd.prog 54 #[str (s)] [] (fun r1 : Value => .tuple #[str ((parseP s).1), r1, .bool ((parseP s).2.2)]) (fun r1 => [.row r1 78 (.pair .str .str) ((parseP s).2.1)]) := by
  refine con_of_J (args := [str (s)]) (n := 49) Tryd.func54 rfl (Nat.le_of_ble_eq_true rfl) rfl (fun w0 I0 m0 => ?_)
  show J _ [(0, str (s))] [] _
  refine jc_seq ?_
  refine jc_region ?_
  refine jo_pure rfl (pr_assign rfl) ?_
  refine jo_pure rfl (pr_assign rfl) ?_
  refine jo_pure rfl (pr_assign rfl) ?_
  refine jo_nil ?_
  refine jq_then ?_
  refine jc_seq ?_
  refine jc_region ?_
  refine jo_pure rfl (pr_move rfl) ?_
  refine jo_callp cal_85 (c_param_cut s (by first | omega | (have := getD_len (i := 0) (cutF_mem s 59); omega) | (have := getD_len (i := i) hX; omega) | (have := getD_len (i := i) hX; have := trim_length ((((cutF s 59).take (cutF s 59).length).drop 1).getD i []); omega))) ⟨rfl, trivial⟩ rfl (trivial) (fun r1 => ?_)
  show J _ _ [.row (r1) 9 .str (cutF s 59)] _
  refine jo_pure rfl (pr_assign rfl) ?_
  refine jo_nil ?_
  refine jq_then ?_
  refine jc_seq ?_
  refine jc_region ?_
  refine jo_pure rfl (pr_move rfl) ?_
  refine jo_pure rfl (pr_idx_row (i := 0) rfl (.head _) rfl Tryd.underlying22 ty_9 (by first | omega | exact cutF_pos s 59)) ?_
  refine jo_pure rfl (pr_load_elem_row (i := 0) (str ((cutF s 59).getD 0 [])) rfl (.head _) ty_9 rfl rfl (by first | omega | exact cutF_pos s 59) rfl) ?_
  refine jo_callp cal_84 (c_ascii_Trim ((cutF s 59).getD 0 []) (by first | omega | (have := getD_len (i := 0) (cutF_mem s 59); omega) | (have := getD_len (i := i) hX; omega) | (have := getD_len (i := i) hX; have := trim_length ((((cutF s 59).take (cutF s 59).length).drop 1).getD i []); omega))) ⟨rfl, trivial⟩ rfl (trivial) (fun _ => ?_)
  refine jo_pure rfl (pr_assign rfl) ?_
  refine jo_nil ?_
  refine jq_then ?_
  refine jc_seq ?_
  refine jc_seq ?_
  refine jc_region ?_
  refine jo_pure rfl (pr_move rfl) ?_
  refine jo_pure rfl (pr_seql rfl rfl) ?_
  refine jo_nil ?_
  refine jq_then ?_
  refine jc_cond rfl (fun h1b => ?_) (fun h1b => ?_)
  · have h1 := of_decide_eq_true h1b
    refine jc_seq ?_
    refine jc_region ?_
    refine jo_pure rfl (pr_assign rfl) ?_
    refine jo_pure rfl (pr_assign rfl) ?_
    refine jo_pure rfl (pr_assign rfl) ?_
    refine jo_nil ?_
    refine jq_then ?_
    refine jc_ret ?_
    refine jq_then_ret ?_
    refine j_nil_row 78 (.pair .str .str) ?_
    refine j_pull1 ?_
    refine j_drop ?_
    exact jq_rets (rs := [.tmp 2, .tmp 3, .tmp 4]) (vs := [str ([]), .slice none 0 0, .bool (false)]) rfl (.slice none 0 0) ⟨resV_tmp rfl, resV_tmp rfl, resV_tmp rfl, trivial⟩ rfl (show (.tuple #[str ((parseP s).1), (.slice none 0 0), .bool ((parseP s).2.2)] : Value) = (.tuple #[str ([]), .slice none 0 0, .bool (false)]) from by rw [parse_blank h1]) (fun _ h => by rw [parse_blank h1]; exact h)
  · have h1 := of_decide_eq_false h1b
    have hX : ∀ x ∈ ((cutF s 59).take (cutF s 59).length).drop 1, x.length ≤ s.length := fun x hx => cutF_mem s 59 x (List.mem_of_mem_take (List.mem_of_mem_drop hx))
    have hXl : (((cutF s 59).take (cutF s 59).length).drop 1).length ≤ s.length + 1 := by have := cutF_length s 59; simp only [List.length_drop, List.length_take]; omega
    refine jc_skip ?_
    refine jq_then ?_
    refine jc_seq ?_
    refine jc_region ?_
    refine jo_pure rfl (pr_assign rfl) ?_
    refine jo_nil ?_
    refine jq_then ?_
    refine jc_seq ?_
    refine jc_seq ?_
    refine jc_region ?_
    refine jo_pure rfl (pr_move rfl) ?_
    refine j_pub_row ?_
    refine j_resl (l := 1) (h := (cutF s 59).length) (.head _) (by have := cutF_pos s 59; omega) (by omega) ?_
    show J _ _ (.imm (.list .str) (resl (r1) (1) ((cutF s 59).length) 1) (((cutF s 59).take ((cutF s 59).length)).drop 1) :: _) _
    refine jo_pure rfl (pr_slice_imm (l := 1) (h := (cutF s 59).length) rfl (.tail _ (.head _)) Tryd.underlying22 ty_9 ⟨_, rfl⟩ rfl (by have := cutF_pos s 59; omega) (by omega)) ?_
    refine jo_pure rfl (pr_len_imm rfl (.head _) Tryd.underlying22) ?_
    refine jo_pure rfl (pr_move rfl) ?_
    refine jo_nil ?_
    refine jq_then ?_
    refine jc_block ?_
    refine j_nil_row 78 (.pair .str .str) ?_
    refine jc_loop3 (fun (i : Nat) (v : Value) (acc : List Prm) => [(6, str (trim ((cutF s 59).getD 0 []))), (7, v), (22, resl (r1) (1) ((cutF s 59).length) 1), (23, .int .i64 (((((cutF s 59).take ((cutF s 59).length)).drop 1).length : Nat) : Int)), (24, .int .i64 ((i : Nat) : Int))]) (fun (i : Nat) (v : Value) (acc : List Prm) => [.row (v) 78 (.pair .str .str) (acc), .imm (.list .str) (resl (r1) (1) ((cutF s 59).length) 1) (((cutF s 59).take ((cutF s 59).length)).drop 1), .imm (.list .str) (r1) (cutF s 59)]) (fun (i : Nat) (v : Value) (acc : List Prm) => i ≤ (((cutF s 59).take (cutF s 59).length).drop 1).length ∧ acc.length ≤ i ∧ parsGo acc ((((cutF s 59).take (cutF s 59).length).drop 1).drop i) = parsGo [] ((cutF s 59).drop 1)) (fun (i : Nat) (v : Value) (acc : List Prm) => (((cutF s 59).take (cutF s 59).length).drop 1).length - i) 0 (.slice none 0 0) [] (⟨Nat.zero_le _, Nat.le_refl _, by rw [List.drop_zero, take_over (Nat.le_refl _)]⟩) (⟨rfl, rfl, rfl, rfl, rfl, trivial⟩) (fun _ h => h) (fun i v acc hinv => ?_)
    refine jc_seq ?_
    refine jc_region ?_
    refine jo_pure rfl (pr_lssN (m := i) (n := (((cutF s 59).take ((cutF s 59).length)).drop 1).length) rfl rfl) ?_
    refine jo_nil ?_
    refine jq_then ?_
    refine jc_seq ?_
    refine jc_cond rfl (fun h2b => ?_) (fun h2b => ?_)
    · have h2 := of_decide_eq_true h2b
      refine jc_skip ?_
      refine jq_then ?_
      refine jc_seq ?_
      refine jc_block ?_
      refine jc_seq ?_
      refine jc_region ?_
      refine jo_pure rfl (pr_idx_imm (i := i) rfl (.tail _ (.head _)) rfl Tryd.underlying22 ty_9 (by first | omega | exact cutF_pos s 59)) ?_
      refine jo_pure rfl (pr_load_elem_imm (i := i) (str ((((cutF s 59).take ((cutF s 59).length)).drop 1).getD i [])) rfl (.tail _ (.head _)) ty_9 rfl rfl (by first | omega | exact cutF_pos s 59) rfl) ?_
      refine jo_pure rfl (pr_assign rfl) ?_
      refine jo_nil ?_
      refine jq_then ?_
      refine jc_seq ?_
      refine jc_region ?_
      refine jo_pure rfl (pr_move rfl) ?_
      refine jo_callp cal_84 (c_ascii_Trim ((((cutF s 59).take ((cutF s 59).length)).drop 1).getD i []) (by first | omega | (have := getD_len (i := 0) (cutF_mem s 59); omega) | (have := getD_len (i := i) hX; omega) | (have := getD_len (i := i) hX; have := trim_length ((((cutF s 59).take (cutF s 59).length).drop 1).getD i []); omega))) ⟨rfl, trivial⟩ rfl (trivial) (fun _ => ?_)
      refine jo_pure rfl (pr_assign rfl) ?_
      refine jo_nil ?_
      refine jq_then ?_
      refine jc_seq ?_
      refine jc_seq ?_
      refine jc_region ?_
      refine jo_pure rfl (pr_move rfl) ?_
      refine jo_pure rfl (pr_seql rfl rfl) ?_
      refine jo_nil ?_
      refine jq_then ?_
      refine jc_cond rfl (fun h3b => ?_) (fun h3b => ?_)
      · have h3 := of_decide_eq_true h3b
        refine jc_exit ?_
        refine jq_then_exit ?_
        refine jq_in_hit ?_
        refine jq_then ?_
        refine jc_region ?_
        refine jo_pure rfl (pr_addN (m := i) (n := 1) rfl rfl (by omega)) ?_
        refine jo_pure rfl (pr_move rfl) ?_
        refine jo_nil ?_
        refine j_pull2 ?_
        refine j_pull2 ?_
        refine j_pull2 ?_
        refine jq_round' ((i + 1), v, acc) (by (try dsimp only); exact (⟨by omega, by omega, pars_skip h2 h3 hinv.2.2⟩)) (by (try dsimp only); exact (by omega)) ⟨rfl, rfl, rfl, rfl, rfl, trivial⟩ (fun _ h => h)
      · have h3 := of_decide_eq_false h3b
        refine jc_skip ?_
        refine jq_then ?_
        refine jc_seq ?_
        refine jc_region ?_
        refine jo_pure rfl (pr_move rfl) ?_
        refine jo_callp cal_86 (c_param_one (trim ((((cutF s 59).take ((cutF s 59).length)).drop 1).getD i [])) (by first | omega | (have := getD_len (i := 0) (cutF_mem s 59); omega) | (have := getD_len (i := i) hX; omega) | (have := getD_len (i := i) hX; have := trim_length ((((cutF s 59).take (cutF s 59).length).drop 1).getD i []); omega))) ⟨rfl, trivial⟩ rfl (trivial) (fun _ => ?_)
        refine jo_pure rfl (pr_move rfl) ?_
        refine jo_pure rfl (pr_extract rfl rfl) ?_
        refine jo_pure rfl (pr_extract rfl rfl) ?_
        refine jo_pure rfl (pr_extract rfl rfl) ?_
        refine jo_pure rfl (pr_assign rfl) ?_
        refine jo_pure rfl (pr_assign rfl) ?_
        refine jo_pure rfl (pr_assign rfl) ?_
        refine jo_nil ?_
        refine jq_then ?_
        refine jc_seq ?_
        refine jc_seq ?_
        refine jc_region ?_
        refine jo_pure rfl (pr_move rfl) ?_
        refine jo_pure rfl (pr_not rfl) ?_
        refine jo_nil ?_
        refine jq_then ?_
        refine jc_cond rfl (fun h4b => ?_) (fun h4b => ?_)
        · have h4 := (fun q => id (bt_not q)) h4b
          refine jc_seq ?_
          refine jc_region ?_
          refine jo_pure rfl (pr_assign rfl) ?_
          refine jo_pure rfl (pr_assign rfl) ?_
          refine jo_pure rfl (pr_assign rfl) ?_
          refine jo_nil ?_
          refine jq_then ?_
          refine jc_ret ?_
          refine jq_then_ret ?_
          refine jq_in_ret ?_
          refine jq_then_ret ?_
          refine jq_then_ret ?_
          refine jq_in_ret ?_
          refine jq_then_ret ?_
          refine j_nil_row 78 (.pair .str .str) ?_
          refine j_pull1 ?_
          refine j_drop ?_
          refine j_pull1 ?_
          refine j_drop ?_
          refine j_pull1 ?_
          refine j_drop ?_
          exact jq_rets (rs := [.tmp 2, .tmp 3, .tmp 4]) (vs := [str ([]), .slice none 0 0, .bool (false)]) rfl (.slice none 0 0) ⟨resV_tmp rfl, resV_tmp rfl, resV_tmp rfl, trivial⟩ rfl (show (.tuple #[str ((parseP s).1), (.slice none 0 0), .bool ((parseP s).2.2)] : Value) = (.tuple #[str ([]), .slice none 0 0, .bool (false)]) from by rw [parse_none h1 (pars_bad h2 h3 h4 hinv.2.2)]) (fun _ h => by rw [parse_none h1 (pars_bad h2 h3 h4 hinv.2.2)]; exact h)
        · have h4 := (fun q => id (bf_not q)) h4b
          refine jc_skip ?_
          refine jq_then ?_
          refine jc_region ?_
          refine jo_pure rfl (pr_move rfl) ?_
          refine jo_pure rfl (pr_move rfl) ?_
          refine jo_pure rfl (pr_move rfl) ?_
          refine jo_pure rfl (pr_build [(0, str ((oneP (trim ((((cutF s 59).take ((cutF s 59).length)).drop 1).getD i []))).1)), (1, str ((oneP (trim ((((cutF s 59).take ((cutF s 59).length)).drop 1).getD i []))).2.1))] [str ((oneP (trim ((((cutF s 59).take ((cutF s 59).length)).drop 1).getD i []))).1), str ((oneP (trim ((((cutF s 59).take ((cutF s 59).length)).drop 1).getD i []))).2.1)] (fun a hf => by simp only [List.map_toArray, List.map_cons, List.map_nil, hf.ev (show ev _ (.tmp 41) = some (str ((oneP (trim ((((cutF s 59).take ((cutF s 59).length)).drop 1).getD i []))).1)) from rfl), hf.ev (show ev _ (.tmp 42) = some (str ((oneP (trim ((((cutF s 59).take ((cutF s 59).length)).drop 1).getD i []))).2.1)) from rfl)]) (by kernel_rfl)) ?_
          refine jo_buildSlice (t := (.pair .str .str)) [((oneP (trim ((((cutF s 59).take ((cutF s 59).length)).drop 1).getD i []))).1, (oneP (trim ((((cutF s 59).take ((cutF s 59).length)).drop 1).getD i []))).2.1)] [.agg #[str ((oneP (trim ((((cutF s 59).take ((cutF s 59).length)).drop 1).getD i []))).1), str ((oneP (trim ((((cutF s 59).take ((cutF s 59).length)).drop 1).getD i []))).2.1)]] (fun a hf => by simp only [List.zipIdx_cons, List.zipIdx_nil, List.map_toArray, List.map_cons, List.map_nil, hf.ev (show ev _ (.tmp 43) = some (.agg #[str ((oneP (trim ((((cutF s 59).take ((cutF s 59).length)).drop 1).getD i []))).1), str ((oneP (trim ((((cutF s 59).take ((cutF s 59).length)).drop 1).getD i []))).2.1)]) from rfl)]) rfl Tryd.underlying62 ty_78 rfl rfl rfl rfl rfl (fun g1 => ?_)
          refine j_pull1 ?_
          refine jo_append rfl rfl Tryd.underlying62 ty_78 rfl (by simp only [List.length_append, List.length_cons, List.length_nil, maxLen]; omega) (by simp only [List.length_append, List.length_cons, List.length_nil]; omega) rfl (fun v1 => ?_)
          refine jo_pure rfl (pr_assign rfl) ?_
          refine jo_nil ?_
          refine jq_in_normal ?_
          refine jq_then ?_
          refine jc_region ?_
          refine jo_pure rfl (pr_addN (m := i) (n := 1) rfl rfl (by omega)) ?_
          refine jo_pure rfl (pr_move rfl) ?_
          refine jo_nil ?_
          refine j_pull2 ?_
          refine j_pull2 ?_
          refine j_pull2 ?_
          refine jq_round' ((i + 1), v1, (acc ++ [((oneP (trim ((((cutF s 59).take ((cutF s 59).length)).drop 1).getD i []))).1, (oneP (trim ((((cutF s 59).take ((cutF s 59).length)).drop 1).getD i []))).2.1)])) (by (try dsimp only); exact (⟨by omega, by simp; omega, pars_ok h2 h3 h4 hinv.2.2⟩)) (by (try dsimp only); exact (by omega)) ⟨rfl, rfl, rfl, rfl, rfl, trivial⟩ (fun _ h => h)
    · have h2 := of_decide_eq_false h2b
      refine jc_exit ?_
      refine jq_then_exit ?_
      refine jq_then_exit ?_
      refine jq_in_hit ?_
      refine jq_then ?_
      refine jc_seq ?_
      refine jc_region ?_
      refine jo_pure rfl (pr_move rfl) ?_
      refine jo_pure rfl (pr_move rfl) ?_
      refine jo_pure rfl (pr_assign rfl) ?_
      refine jo_pure rfl (pr_assign rfl) ?_
      refine jo_pure rfl (pr_assign rfl) ?_
      refine jo_nil ?_
      refine jq_then ?_
      refine jc_ret ?_
      refine j_pull1 ?_
      refine j_drop ?_
      refine j_pull1 ?_
      refine j_drop ?_
      exact jq_rets (rs := [.tmp 2, .tmp 3, .tmp 4]) (vs := [str (trim ((cutF s 59).getD 0 [])), v, .bool (true)]) rfl v ⟨resV_tmp rfl, resV_tmp rfl, resV_tmp rfl, trivial⟩ rfl (show (.tuple #[str ((parseP s).1), v, .bool ((parseP s).2.2)] : Value) = (.tuple #[str (trim ((cutF s 59).getD 0 [])), v, .bool (true)]) from by rw [parse_some h1 (pars_end (by omega) hinv.2.2)]) (fun _ h => by rw [parse_some h1 (pars_end (by omega) hinv.2.2)]; exact h)

theorem c_ref01_ParseParams (s : List UInt8) (hs : s.length ≤ 1000000) : Con Tryd.prog 71 #[str (s)] [] (fun r1 : Value => .tuple #[str ((parseP s).1), r1, .bool ((parseP s).2.2)]) (fun r1 => [.row r1 78 (.pair .str .str) ((parseP s).2.1)]) := by
  refine con_of_J (args := [str (s)]) (n := 72) Tryd.func71 rfl (Nat.le_of_ble_eq_true rfl) rfl (fun w0 I0 m0 => ?_)
  show J _ [(0, str (s))] [] _
  refine jc_seq ?_
  refine jc_region ?_
  refine jo_pure rfl (pr_assign rfl) ?_
  refine jo_pure rfl (pr_assign rfl) ?_
  refine jo_pure rfl (pr_assign rfl) ?_
  refine jo_nil ?_
  refine jq_then ?_
  refine jc_seq ?_
  refine jc_region ?_
  refine jo_pure rfl (pr_move rfl) ?_
  refine jo_callp cal_29 (c_ref01_Cut s 59 (by first | omega | (have := getD_len (i := 0) (cutF_mem s 59); omega) | (have := getD_len (i := i) (cutF_mem s 59); omega) | (have := getD_len (i := i) (cutF_mem s 59); have := trim_length ((cutF s 59).getD i []); simp only [List.length_take, List.length_drop]; omega))) ⟨rfl, rfl, trivial⟩ rfl (trivial) (fun r1 => ?_)
  show J _ _ [.row (r1) 9 .str (cutF s 59)] _
  refine jo_pure rfl (pr_assign rfl) ?_
  refine jo_nil ?_
  refine jq_then ?_
  refine jc_seq ?_
  refine jc_region ?_
  refine jo_pure rfl (pr_move rfl) ?_
  refine jo_pure rfl (pr_idx_row (i := 0) rfl (.head _) rfl Tryd.underlying22 ty_9 (by first | omega | exact cutF_pos s 59)) ?_
  refine jo_pure rfl (pr_load_elem_row (i := 0) (str ((cutF s 59).getD 0 [])) rfl (.head _) ty_9 rfl rfl (by first | omega | exact cutF_pos s 59) rfl) ?_
  refine jo_callp cal_30 (c_ref01_Trim ((cutF s 59).getD 0 []) (by first | omega | (have := getD_len (i := 0) (cutF_mem s 59); omega) | (have := getD_len (i := i) (cutF_mem s 59); omega) | (have := getD_len (i := i) (cutF_mem s 59); have := trim_length ((cutF s 59).getD i []); simp only [List.length_take, List.length_drop]; omega))) ⟨rfl, trivial⟩ rfl (trivial) (fun _ => ?_)
  refine jo_pure rfl (pr_assign rfl) ?_
  refine jo_nil ?_
  refine jq_then ?_
  refine jc_seq ?_
  refine jc_seq ?_
  refine jc_region ?_
  refine jo_pure rfl (pr_move rfl) ?_
  refine jo_pure rfl (pr_seql rfl rfl) ?_
  refine jo_nil ?_
  refine jq_then ?_
  refine jc_cond rfl (fun h1b => ?_) (fun h1b => ?_)
  · have h1 := of_decide_eq_true h1b
    refine jc_seq ?_
    refine jc_region ?_
    refine jo_pure rfl (pr_assign rfl) ?_
    refine jo_pure rfl (pr_assign rfl) ?_
    refine jo_pure rfl (pr_assign rfl) ?_
    refine jo_nil ?_
    refine jq_then ?_
    refine jc_ret ?_
    refine jq_then_ret ?_
    refine j_nil_row 78 (.pair .str .str) ?_
    refine j_pull1 ?_
    refine j_drop ?_
    exact jq_rets (rs := [.tmp 2, .tmp 3, .tmp 4]) (vs := [str ([]), .slice none 0 0, .bool (false)]) rfl (.slice none 0 0) ⟨resV_tmp rfl, resV_tmp rfl, resV_tmp rfl, trivial⟩ rfl (show (.tuple #[str ((parseP s).1), (.slice none 0 0), .bool ((parseP s).2.2)] : Value) = (.tuple #[str ([]), .slice none 0 0, .bool (false)]) from by rw [parse_blank h1]) (fun _ h => by rw [parse_blank h1]; exact h)
  · have h1 := of_decide_eq_false h1b
    have hXl := cutF_length s 59
    have hXp := cutF_pos s 59
    refine jc_skip ?_
    refine jq_then ?_
    refine jc_seq ?_
    refine jc_region ?_
    refine jo_pure rfl (pr_assign rfl) ?_
    refine jo_nil ?_
    refine jq_then ?_
    refine jc_seq ?_
    refine jc_seq ?_
    refine jc_region ?_
    refine jo_pure rfl (pr_assign rfl) ?_
    refine jo_nil ?_
    refine jq_then ?_
    refine jc_block ?_
    refine j_nil_row 78 (.pair .str .str) ?_
    refine jc_loop3 (fun (i : Nat) (v : Value) (acc : List Prm) => [(5, r1), (6, str (trim ((cutF s 59).getD 0 []))), (7, v), (8, .int .i64 ((i : Nat) : Int))]) (fun (i : Nat) (v : Value) (acc : List Prm) => [.row (v) 78 (.pair .str .str) (acc), .row (r1) 9 .str (cutF s 59)]) (fun (i : Nat) (v : Value) (acc : List Prm) => 1 ≤ i ∧ i ≤ (cutF s 59).length ∧ acc.length ≤ i ∧ parsGo acc ((cutF s 59).drop i) = parsGo [] ((cutF s 59).drop 1)) (fun (i : Nat) (v : Value) (acc : List Prm) => (cutF s 59).length - i) 1 (.slice none 0 0) [] (⟨Nat.le_refl _, hXp, Nat.zero_le _, rfl⟩) (⟨rfl, rfl, rfl, rfl, trivial⟩) (fun _ h => h) (fun i v acc hinv => ?_)
    refine jc_seq ?_
    refine jc_seq ?_
    refine jc_region ?_
    refine jo_pure rfl (pr_move rfl) ?_
    refine jo_pure rfl (pr_move rfl) ?_
    refine jo_pure rfl (pr_len_row rfl (.tail _ (.head _)) Tryd.underlying22) ?_
    refine jo_pure rfl (pr_lssN (m := i) (n := (cutF s 59).length) rfl rfl) ?_
    refine jo_nil ?_
    refine jq_then ?_
    refine jc_cond rfl (fun h2b => ?_) (fun h2b => ?_)
    · have h2 := of_decide_eq_true h2b
      have hxl : (trim ((cutF s 59).getD i [])).length ≤ s.length := by have := getD_len (i := i) (cutF_mem s 59); have := trim_length ((cutF s 59).getD i []); omega
      refine jc_skip ?_
      refine jq_then ?_
      refine jc_seq ?_
      refine jc_block ?_
      refine jc_seq ?_
      refine jc_region ?_
      refine jo_pure rfl (pr_move rfl) ?_
      refine jo_pure rfl (pr_move rfl) ?_
      refine jo_pure rfl (pr_idx_row (i := i) rfl (.tail _ (.head _)) rfl Tryd.underlying22 ty_9 (by first | omega | exact cutF_pos s 59)) ?_
      refine jo_pure rfl (pr_load_elem_row (i := i) (str ((cutF s 59).getD i [])) rfl (.tail _ (.head _)) ty_9 rfl rfl (by first | omega | exact cutF_pos s 59) rfl) ?_
      refine jo_callp cal_30 (c_ref01_Trim ((cutF s 59).getD i []) (by first | omega | (have := getD_len (i := 0) (cutF_mem s 59); omega) | (have := getD_len (i := i) (cutF_mem s 59); omega) | (have := getD_len (i := i) (cutF_mem s 59); have := trim_length ((cutF s 59).getD i []); simp only [List.length_take, List.length_drop]; omega))) ⟨rfl, trivial⟩ rfl (trivial) (fun _ => ?_)
      refine jo_pure rfl (pr_assign rfl) ?_
      refine jo_nil ?_
      refine jq_then ?_
      refine jc_seq ?_
      refine jc_seq ?_
      refine jc_region ?_
      refine jo_pure rfl (pr_move rfl) ?_
      refine jo_pure rfl (pr_seql rfl rfl) ?_
      refine jo_nil ?_
      refine jq_then ?_
      refine jc_cond rfl (fun h3b => ?_) (fun h3b => ?_)
      · have h3 := of_decide_eq_true h3b
        refine jc_exit ?_
        refine jq_then_exit ?_
        refine jq_in_hit ?_
        refine jq_then ?_
        refine jc_region ?_
        refine jo_pure rfl (pr_move rfl) ?_
        refine jo_pure rfl (pr_addN (m := i) (n := 1) rfl rfl (by omega)) ?_
        refine jo_pure rfl (pr_assign rfl) ?_
        refine jo_nil ?_
        refine j_pull1 ?_
        refine j_pull1 ?_
        refine jq_round' ((i + 1), v, acc) (by (try dsimp only); exact (⟨by omega, by omega, by omega, pars_skip h2 h3 hinv.2.2.2⟩)) (by (try dsimp only); exact (by omega)) ⟨rfl, rfl, rfl, rfl, trivial⟩ (fun _ h => h)
      · have h3 := of_decide_eq_false h3b
        refine jc_skip ?_
        refine jq_then ?_
        refine jc_seq ?_
        refine jc_region ?_
        refine jo_pure rfl (pr_move rfl) ?_
        refine jo_callp cal_72 (c_ref01_Index (trim ((cutF s 59).getD i [])) 61 0 (by first | omega | (have := getD_len (i := 0) (cutF_mem s 59); omega) | (have := getD_len (i := i) (cutF_mem s 59); omega) | (have := getD_len (i := i) (cutF_mem s 59); have := trim_length ((cutF s 59).getD i []); simp only [List.length_take, List.length_drop]; omega))) ⟨rfl, rfl, rfl, trivial⟩ rfl (trivial) (fun _ => ?_)
        refine jo_pure rfl (pr_assign rfl) ?_
        refine jo_nil ?_
        refine jq_then ?_
        refine jc_seq ?_
        refine jc_seq ?_
        by_cases hc : pos (trim ((cutF s 59).getD i [])) 61 < (trim ((cutF s 59).getD i [])).length
        · skip
          rw [show (idxF (trim ((cutF s 59).getD i [])) 61 0 : Int) = ((pos (trim ((cutF s 59).getD i [])) 61 : Nat) : Int) from by rw [idxF_zero, idx_found hc]]
          refine jc_region ?_
          refine jo_pure rfl (pr_move rfl) ?_
          refine jo_pure rfl (pr_lssN (m := pos (trim ((cutF s 59).getD i [])) 61) (n := 0) rfl rfl) ?_
          refine jo_pure rfl (pr_move rfl) ?_
          refine jo_run (j := 2) (want := false) rfl rfl (by simp) ?_
          refine jo_pure rfl (pr_move rfl) ?_
          refine jo_run (j := 2) (want := false) rfl rfl (by simp) ?_
          refine jo_pure rfl (pr_move rfl) ?_
          refine jo_run (j := 2) (want := false) rfl rfl (by simp) ?_
          refine jo_pure rfl (pr_sslice_hi (j := pos (trim ((cutF s 59).getD i [])) 61) rfl rfl Tryd.underlying9 (by omega)) ?_
          refine jo_run (j := 2) (want := false) rfl rfl (by simp) ?_
          refine jo_callp cal_44 (c_ref01_Token ((trim ((cutF s 59).getD i [])).take (pos (trim ((cutF s 59).getD i [])) 61)) (by first | omega | (have := getD_len (i := 0) (cutF_mem s 59); omega) | (have := getD_len (i := i) (cutF_mem s 59); omega) | (have := getD_len (i := i) (cutF_mem s 59); have := trim_length ((cutF s 59).getD i []); simp only [List.length_take, List.length_drop]; omega))) ⟨rfl, trivial⟩ rfl (trivial) (fun _ => ?_)
          refine jo_run (j := 2) (want := false) rfl rfl (by simp) ?_
          refine jo_pure rfl (pr_not rfl) ?_
          refine jo_pure rfl (pr_pick_f rfl (by simp) rfl) ?_
          refine jo_nil ?_
          refine jq_then ?_
          refine jc_cond rfl (fun h4b => ?_) (fun h4b => ?_)
          · have h4 := (fun q => id (bt_not q)) h4b
            refine jc_seq ?_
            refine jc_region ?_
            refine jo_pure rfl (pr_assign rfl) ?_
            refine jo_pure rfl (pr_assign rfl) ?_
            refine jo_pure rfl (pr_assign rfl) ?_
            refine jo_nil ?_
            refine jq_then ?_
            refine jc_ret ?_
            refine jq_then_ret ?_
            refine jq_in_ret ?_
            refine jq_then_ret ?_
            refine jq_then_ret ?_
            refine jq_in_ret ?_
            refine jq_then_ret ?_
            refine j_nil_row 78 (.pair .str .str) ?_
            refine j_pull1 ?_
            refine j_drop ?_
            refine j_pull1 ?_
            refine j_drop ?_
            exact jq_rets (rs := [.tmp 2, .tmp 3, .tmp 4]) (vs := [str ([]), .slice none 0 0, .bool (false)]) rfl (.slice none 0 0) ⟨resV_tmp rfl, resV_tmp rfl, resV_tmp rfl, trivial⟩ rfl (show (.tuple #[str ((parseP s).1), (.slice none 0 0), .bool ((parseP s).2.2)] : Value) = (.tuple #[str ([]), .slice none 0 0, .bool (false)]) from by rw [parse_none h1 (pars_bad h2 h3 (by rw [one_bad h4]) hinv.2.2.2)]) (fun _ h => by rw [parse_none h1 (pars_bad h2 h3 (by rw [one_bad h4]) hinv.2.2.2)]; exact h)
          · have h4 := (fun q => id (bf_not q)) h4b
            refine jc_skip ?_
            refine jq_then ?_
            refine jc_seq ?_
            refine jc_region ?_
            refine jo_pure rfl (pr_move rfl) ?_
            refine jo_pure rfl (pr_move rfl) ?_
            refine jo_pure rfl (pr_addN (m := pos (trim ((cutF s 59).getD i [])) 61) (n := 1) rfl rfl (by omega)) ?_
            refine jo_pure rfl (pr_sslice_lo (i := (pos (trim ((cutF s 59).getD i [])) 61) + 1) rfl rfl Tryd.underlying9 (by omega)) ?_
            refine jo_pure rfl (pr_assign rfl) ?_
            refine jo_nil ?_
            refine jq_then ?_
            refine jc_seq ?_
            refine jc_seq ?_
            refine jc_region ?_
            refine jo_pure rfl (pr_move rfl) ?_
            refine jo_callp cal_44 (c_ref01_Token ((trim ((cutF s 59).getD i [])).drop ((pos (trim ((cutF s 59).getD i [])) 61) + 1)) (by first | omega | (have := getD_len (i := 0) (cutF_mem s 59); omega) | (have := getD_len (i := i) (cutF_mem s 59); omega) | (have := getD_len (i := i) (cutF_mem s 59); have := trim_length ((cutF s 59).getD i []); simp only [List.length_take, List.length_drop]; omega))) ⟨rfl, trivial⟩ rfl (trivial) (fun _ => ?_)
            refine jo_pure rfl (pr_not rfl) ?_
            refine jo_nil ?_
            refine jq_then ?_
            refine jc_cond rfl (fun h5b => ?_) (fun h5b => ?_)
            · have h5 := (fun q => id (bt_not q)) h5b
              refine jc_seq ?_
              refine jc_region ?_
              refine jo_pure rfl (pr_move rfl) ?_
              refine jo_callp cal_100 (c_ref01_Unquote ((trim ((cutF s 59).getD i [])).drop ((pos (trim ((cutF s 59).getD i [])) 61) + 1)) (by first | omega | (have := getD_len (i := 0) (cutF_mem s 59); omega) | (have := getD_len (i := i) (cutF_mem s 59); omega) | (have := getD_len (i := i) (cutF_mem s 59); have := trim_length ((cutF s 59).getD i []); simp only [List.length_take, List.length_drop]; omega))) ⟨rfl, trivial⟩ rfl (trivial) (fun _ => ?_)
              refine jo_pure rfl (pr_move rfl) ?_
              refine jo_pure rfl (pr_extract rfl rfl) ?_
              refine jo_pure rfl (pr_extract rfl rfl) ?_
              refine jo_pure rfl (pr_assign rfl) ?_
              refine jo_pure rfl (pr_assign rfl) ?_
              refine jo_nil ?_
              refine jq_then ?_
              refine jc_seq ?_
              refine jc_seq ?_
              refine jc_region ?_
              refine jo_pure rfl (pr_move rfl) ?_
              refine jo_pure rfl (pr_not rfl) ?_
              refine jo_nil ?_
              refine jq_then ?_
              refine jc_cond rfl (fun h6b => ?_) (fun h6b => ?_)
              · have h6 := (fun q => id (bt_not q)) h6b
                refine jc_seq ?_
                refine jc_region ?_
                refine jo_pure rfl (pr_assign rfl) ?_
                refine jo_pure rfl (pr_assign rfl) ?_
                refine jo_pure rfl (pr_assign rfl) ?_
                refine jo_nil ?_
                refine jq_then ?_
                refine jc_ret ?_
                refine jq_then_ret ?_
                refine jq_then_ret ?_
                refine jq_in_ret ?_
                refine jq_then_ret ?_
                refine jq_then_ret ?_
                refine jq_in_ret ?_
                refine jq_then_ret ?_
                refine j_nil_row 78 (.pair .str .str) ?_
                refine j_pull1 ?_
                refine j_drop ?_
                refine j_pull1 ?_
                refine j_drop ?_
                exact jq_rets (rs := [.tmp 2, .tmp 3, .tmp 4]) (vs := [str ([]), .slice none 0 0, .bool (false)]) rfl (.slice none 0 0) ⟨resV_tmp rfl, resV_tmp rfl, resV_tmp rfl, trivial⟩ rfl (show (.tuple #[str ((parseP s).1), (.slice none 0 0), .bool ((parseP s).2.2)] : Value) = (.tuple #[str ([]), .slice none 0 0, .bool (false)]) from by rw [parse_none h1 (pars_bad h2 h3 (by rw [one_unq hc h4 h5]; exact h6) hinv.2.2.2)]) (fun _ h => by rw [parse_none h1 (pars_bad h2 h3 (by rw [one_unq hc h4 h5]; exact h6) hinv.2.2.2)]; exact h)
              · have h6 := (fun q => id (bf_not q)) h6b
                refine jc_skip ?_
                refine jq_then ?_
                refine jc_region ?_
                refine jo_pure rfl (pr_move rfl) ?_
                refine jo_pure rfl (pr_assign rfl) ?_
                refine jo_nil ?_
                refine jq_then ?_
                refine jc_region ?_
                refine jo_pure rfl (pr_move rfl) ?_
                refine jo_pure rfl (pr_move rfl) ?_
                refine jo_pure rfl (pr_move rfl) ?_
                refine jo_pure rfl (pr_sslice_hi (j := pos (trim ((cutF s 59).getD i [])) 61) rfl rfl Tryd.underlying9 (by omega)) ?_
                refine jo_callp cal_13 (c_ref01_Lower ((trim ((cutF s 59).getD i [])).take (pos (trim ((cutF s 59).getD i [])) 61)) (by first | omega | (have := getD_len (i := 0) (cutF_mem s 59); omega) | (have := getD_len (i := i) (cutF_mem s 59); omega) | (have := getD_len (i := i) (cutF_mem s 59); have := trim_length ((cutF s 59).getD i []); simp only [List.length_take, List.length_drop]; omega))) ⟨rfl, trivial⟩ rfl (trivial) (fun _ => ?_)
                refine jo_pure rfl (pr_move rfl) ?_
                refine jo_pure rfl (pr_build [(0, str (lower ((trim ((cutF s 59).getD i [])).take (pos (trim ((cutF s 59).getD i [])) 61)))), (1, str ((unq ((trim ((cutF s 59).getD i [])).drop ((pos (trim ((cutF s 59).getD i [])) 61) + 1))).1))] [str (lower ((trim ((cutF s 59).getD i [])).take (pos (trim ((cutF s 59).getD i [])) 61))), str ((unq ((trim ((cutF s 59).getD i [])).drop ((pos (trim ((cutF s 59).getD i [])) 61) + 1))).1)] (fun a hf => by simp only [List.map_toArray, List.map_cons, List.map_nil, hf.ev (show ev _ (.tmp 65) = some (str (lower ((trim ((cutF s 59).getD i [])).take (pos (trim ((cutF s 59).getD i [])) 61)))) from rfl), hf.ev (show ev _ (.tmp 66) = some (str ((unq ((trim ((cutF s 59).getD i [])).drop ((pos (trim ((cutF s 59).getD i [])) 61) + 1))).1)) from rfl)]) (by kernel_rfl)) ?_
                refine jo_buildSlice (t := (.pair .str .str)) [(lower ((trim ((cutF s 59).getD i [])).take (pos (trim ((cutF s 59).getD i [])) 61)), (unq ((trim ((cutF s 59).getD i [])).drop ((pos (trim ((cutF s 59).getD i [])) 61) + 1))).1)] [.agg #[str (lower ((trim ((cutF s 59).getD i [])).take (pos (trim ((cutF s 59).getD i [])) 61))), str ((unq ((trim ((cutF s 59).getD i [])).drop ((pos (trim ((cutF s 59).getD i [])) 61) + 1))).1)]] (fun a hf => by simp only [List.zipIdx_cons, List.zipIdx_nil, List.map_toArray, List.map_cons, List.map_nil, hf.ev (show ev _ (.tmp 67) = some (.agg #[str (lower ((trim ((cutF s 59).getD i [])).take (pos (trim ((cutF s 59).getD i [])) 61))), str ((unq ((trim ((cutF s 59).getD i [])).drop ((pos (trim ((cutF s 59).getD i [])) 61) + 1))).1)]) from rfl)]) rfl Tryd.underlying62 ty_78 rfl rfl rfl rfl rfl (fun g1 => ?_)
                refine j_pull1 ?_
                refine jo_append rfl rfl Tryd.underlying62 ty_78 rfl (by simp only [List.length_append, List.length_cons, List.length_nil, maxLen]; omega) (by simp only [List.length_append, List.length_cons, List.length_nil]; omega) rfl (fun v1 => ?_)
                refine jo_pure rfl (pr_assign rfl) ?_
                refine jo_nil ?_
                refine jq_in_normal ?_
                refine jq_then ?_
                refine jc_region ?_
                refine jo_pure rfl (pr_move rfl) ?_
                refine jo_pure rfl (pr_addN (m := i) (n := 1) rfl rfl (by omega)) ?_
                refine jo_pure rfl (pr_assign rfl) ?_
                refine jo_nil ?_
                refine j_pull1 ?_
                refine j_pull1 ?_
                refine jq_round' ((i + 1), v1, (acc ++ [(lower ((trim ((cutF s 59).getD i [])).take (pos (trim ((cutF s 59).getD i [])) 61)), (unq ((trim ((cutF s 59).getD i [])).drop ((pos (trim ((cutF s 59).getD i [])) 61) + 1))).1)])) (by (try dsimp only); exact (⟨by omega, by omega, by simp; omega, by have e := one_unq hc h4 h5; have h9 := pars_ok h2 h3 (by rw [e]; exact h6) hinv.2.2.2; rw [e] at h9; exact h9⟩)) (by (try dsimp only); exact (by omega)) ⟨rfl, rfl, rfl, rfl, trivial⟩ (fun _ h => h)
            · have h5 := (fun q => id (bf_not q)) h5b
              refine jc_skip ?_
              refine jq_then ?_
              refine jc_region ?_
              refine jo_pure rfl (pr_move rfl) ?_
              refine jo_pure rfl (pr_move rfl) ?_
              refine jo_pure rfl (pr_move rfl) ?_
              refine jo_pure rfl (pr_sslice_hi (j := pos (trim ((cutF s 59).getD i [])) 61) rfl rfl Tryd.underlying9 (by omega)) ?_
              refine jo_callp cal_13 (c_ref01_Lower ((trim ((cutF s 59).getD i [])).take (pos (trim ((cutF s 59).getD i [])) 61)) (by first | omega | (have := getD_len (i := 0) (cutF_mem s 59); omega) | (have := getD_len (i := i) (cutF_mem s 59); omega) | (have := getD_len (i := i) (cutF_mem s 59); have := trim_length ((cutF s 59).getD i []); simp only [List.length_take, List.length_drop]; omega))) ⟨rfl, trivial⟩ rfl (trivial) (fun _ => ?_)
              refine jo_pure rfl (pr_move rfl) ?_
              refine jo_pure rfl (pr_build [(0, str (lower ((trim ((cutF s 59).getD i [])).take (pos (trim ((cutF s 59).getD i [])) 61)))), (1, str ((trim ((cutF s 59).getD i [])).drop ((pos (trim ((cutF s 59).getD i [])) 61) + 1)))] [str (lower ((trim ((cutF s 59).getD i [])).take (pos (trim ((cutF s 59).getD i [])) 61))), str ((trim ((cutF s 59).getD i [])).drop ((pos (trim ((cutF s 59).getD i [])) 61) + 1))] (fun a hf => by simp only [List.map_toArray, List.map_cons, List.map_nil, hf.ev (show ev _ (.tmp 65) = some (str (lower ((trim ((cutF s 59).getD i [])).take (pos (trim ((cutF s 59).getD i [])) 61)))) from rfl), hf.ev (show ev _ (.tmp 66) = some (str ((trim ((cutF s 59).getD i [])).drop ((pos (trim ((cutF s 59).getD i [])) 61) + 1))) from rfl)]) (by kernel_rfl)) ?_
              refine jo_buildSlice (t := (.pair .str .str)) [(lower ((trim ((cutF s 59).getD i [])).take (pos (trim ((cutF s 59).getD i [])) 61)), (trim ((cutF s 59).getD i [])).drop ((pos (trim ((cutF s 59).getD i [])) 61) + 1))] [.agg #[str (lower ((trim ((cutF s 59).getD i [])).take (pos (trim ((cutF s 59).getD i [])) 61))), str ((trim ((cutF s 59).getD i [])).drop ((pos (trim ((cutF s 59).getD i [])) 61) + 1))]] (fun a hf => by simp only [List.zipIdx_cons, List.zipIdx_nil, List.map_toArray, List.map_cons, List.map_nil, hf.ev (show ev _ (.tmp 67) = some (.agg #[str (lower ((trim ((cutF s 59).getD i [])).take (pos (trim ((cutF s 59).getD i [])) 61))), str ((trim ((cutF s 59).getD i [])).drop ((pos (trim ((cutF s 59).getD i [])) 61) + 1))]) from rfl)]) rfl Tryd.underlying62 ty_78 rfl rfl rfl rfl rfl (fun g2 => ?_)
              refine j_pull1 ?_
              refine jo_append rfl rfl Tryd.underlying62 ty_78 rfl (by simp only [List.length_append, List.length_cons, List.length_nil, maxLen]; omega) (by simp only [List.length_append, List.length_cons, List.length_nil]; omega) rfl (fun v2 => ?_)
              refine jo_pure rfl (pr_assign rfl) ?_
              refine jo_nil ?_
              refine jq_in_normal ?_
              refine jq_then ?_
              refine jc_region ?_
              refine jo_pure rfl (pr_move rfl) ?_
              refine jo_pure rfl (pr_addN (m := i) (n := 1) rfl rfl (by omega)) ?_
              refine jo_pure rfl (pr_assign rfl) ?_
              refine jo_nil ?_
              refine j_pull1 ?_
              refine j_pull1 ?_
              refine jq_round' ((i + 1), v2, (acc ++ [(lower ((trim ((cutF s 59).getD i [])).take (pos (trim ((cutF s 59).getD i [])) 61)), (trim ((cutF s 59).getD i [])).drop ((pos (trim ((cutF s 59).getD i [])) 61) + 1))])) (by (try dsimp only); exact (⟨by omega, by omega, by simp; omega, by have e := one_tok hc h4 h5; have h9 := pars_ok h2 h3 (by rw [e]) hinv.2.2.2; rw [e] at h9; exact h9⟩)) (by (try dsimp only); exact (by omega)) ⟨rfl, rfl, rfl, rfl, trivial⟩ (fun _ h => h)
        · skip
          rw [show (idxF (trim ((cutF s 59).getD i [])) 61 0 : Int) = -1 from by rw [idxF_zero, idx_none hc]]
          refine jc_region ?_
          refine jo_pure rfl (pr_move rfl) ?_
          refine jo_pure rfl (pr_lss (n := 0) rfl rfl) ?_
          refine jo_pure rfl (pr_move rfl) ?_
          refine jo_skipu (j := 2) (want := false) rfl rfl (by decide) rfl ?_
          refine jo_skipu (j := 2) (want := false) rfl rfl (by decide) rfl ?_
          refine jo_skipu (j := 2) (want := false) rfl rfl (by decide) rfl ?_
          refine jo_skipu (j := 2) (want := false) rfl rfl (by decide) rfl ?_
          refine jo_skipu (j := 2) (want := false) rfl rfl (by decide) rfl ?_
          refine jo_pure rfl (pr_pick_t rfl (by decide) rfl) ?_
          refine jo_nil ?_
          refine jq_then ?_
          refine jc_true rfl (rfl) ?_
          refine jc_seq ?_
          refine jc_region ?_
          refine jo_pure rfl (pr_assign rfl) ?_
          refine jo_pure rfl (pr_assign rfl) ?_
          refine jo_pure rfl (pr_assign rfl) ?_
          refine jo_nil ?_
          refine jq_then ?_
          refine jc_ret ?_
          refine jq_then_ret ?_
          refine jq_in_ret ?_
          refine jq_then_ret ?_
          refine jq_then_ret ?_
          refine jq_in_ret ?_
          refine jq_then_ret ?_
          refine j_nil_row 78 (.pair .str .str) ?_
          refine j_pull1 ?_
          refine j_drop ?_
          refine j_pull1 ?_
          refine j_drop ?_
          exact jq_rets (rs := [.tmp 2, .tmp 3, .tmp 4]) (vs := [str ([]), .slice none 0 0, .bool (false)]) rfl (.slice none 0 0) ⟨resV_tmp rfl, resV_tmp rfl, resV_tmp rfl, trivial⟩ rfl (show (.tuple #[str ((parseP s).1), (.slice none 0 0), .bool ((parseP s).2.2)] : Value) = (.tuple #[str ([]), .slice none 0 0, .bool (false)]) from by rw [parse_none h1 (pars_bad h2 h3 (by rw [one_no hc]) hinv.2.2.2)]) (fun _ h => by rw [parse_none h1 (pars_bad h2 h3 (by rw [one_no hc]) hinv.2.2.2)]; exact h)
    · have h2 := of_decide_eq_false h2b
      refine jc_exit ?_
      refine jq_then_exit ?_
      refine jq_then_exit ?_
      refine jq_in_hit ?_
      refine jq_then ?_
      refine jc_seq ?_
      refine jc_region ?_
      refine jo_pure rfl (pr_move rfl) ?_
      refine jo_pure rfl (pr_move rfl) ?_
      refine jo_pure rfl (pr_assign rfl) ?_
      refine jo_pure rfl (pr_assign rfl) ?_
      refine jo_pure rfl (pr_assign rfl) ?_
      refine jo_nil ?_
      refine jq_then ?_
      refine jc_ret ?_
      refine j_pull1 ?_
      refine j_drop ?_
      exact jq_rets (rs := [.tmp 2, .tmp 3, .tmp 4]) (vs := [str (trim ((cutF s 59).getD 0 [])), v, .bool (true)]) rfl v ⟨resV_tmp rfl, resV_tmp rfl, resV_tmp rfl, trivial⟩ rfl (show (.tuple #[str ((parseP s).1), v, .bool ((parseP s).2.2)] : Value) = (.tuple #[str (trim ((cutF s 59).getD 0 [])), v, .bool (true)]) from by rw [parse_some h1 (pars_end (by omega) hinv.2.2.2)]) (fun _ h => by rw [parse_some h1 (pars_end (by omega) hinv.2.2.2)]; exact h)
end Go.Proofs.YtikllmfjgpmcnaaDoor
