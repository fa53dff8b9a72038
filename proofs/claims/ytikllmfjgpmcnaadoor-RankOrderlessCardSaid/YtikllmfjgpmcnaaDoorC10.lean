/-
  Contracts of functions of the program: each returns what a plain function says, for every input within the bounds named. Conditions: the bounds.
-/
import Derived.Test.YtikllmfjgpmcnaaDoorRows
import Derived.Test.YtikllmfjgpmcnaaDoorC9
import Derived.Test.YtikllmfjgpmcnaaDoorLaw12
namespace Go.Proofs.YtikllmfjgpmcnaaDoor
open Go Go.Sep
set_option linter.unusedSimpArgs false
set_option linter.unusedVariables false

open Go.Plain

theorem cal_77 : Cal Tryd.prog 77 := cal_of Tryd.func77 (by kernel_rfl) rfl
theorem cal_90 : Cal Tryd.prog 90 := cal_of Tryd.func90 (by kernel_rfl) rfl

theorem c_coding_Canonical (kind : Int) (s : List UInt8) (hs : s.length ≤ 1000000) : Con Tryd.prog 90 #[.int .i64 (kind), str (s)] [] (fun _ : Unit => str (canonical kind s)) (fun _ => []) := by
  refine con_of_J (args := [.int .i64 (kind), str (s)]) (n := 18) Tryd.func90 rfl (Nat.le_of_ble_eq_true rfl) rfl (fun w0 I0 m0 => ?_)
  show J _ [(0, .int .i64 (kind)), (1, str (s))] [] _
  refine jc_seq ?_
  refine jc_region ?_
  refine jo_pure rfl (pr_assign rfl) ?_
  refine jo_nil ?_
  refine jq_then ?_
  refine jc_seq ?_
  refine jc_region ?_
  refine jo_pure rfl (pr_move rfl) ?_
  refine jo_callp cal_59 (c_ascii_Lower s (by omega)) ⟨rfl, trivial⟩ rfl (trivial) (fun _ => ?_)
  refine jo_pure rfl (pr_assign rfl) ?_
  refine jo_nil ?_
  refine jq_then ?_
  refine jc_seq ?_
  refine jc_seq ?_
  refine jc_region ?_
  refine jo_pure rfl (pr_move rfl) ?_
  refine jo_pure rfl (pr_neq (n := 4) rfl rfl) ?_
  refine jo_nil ?_
  refine jq_then ?_
  refine jc_cond rfl (fun h1b => ?_) (fun h1b => ?_)
  · have h1 := (fun q => of_decide_eq_false (bt_not q)) h1b
    refine jc_seq ?_
    refine jc_region ?_
    refine jo_pure rfl (pr_move rfl) ?_
    refine jo_pure rfl (pr_assign rfl) ?_
    refine jo_nil ?_
    refine jq_then ?_
    refine jc_ret ?_
    refine jq_then_ret ?_
    exact jq_ret1 rfl () rfl (show (str (canonical kind s) : Value) = (str (lower s)) from by simp [canonical, sGzip, sXgzip, sCompress, sXcompress, *]) (fun _ h => h)
  · have h1 := (fun q => of_decide_eq_true (bf_not q)) h1b
    refine jc_skip ?_
    refine jq_then ?_
    refine jc_seq ?_
    refine jc_seq ?_
    refine jc_region ?_
    refine jo_pure rfl (pr_move rfl) ?_
    refine jo_nil ?_
    refine jq_then ?_
    refine jc_block ?_
    refine jc_seq ?_
    refine jc_seq ?_
    refine jc_region ?_
    refine jo_pure rfl (pr_seql rfl rfl) ?_
    refine jo_pure rfl (pr_assign rfl) ?_
    refine jo_nil ?_
    refine jq_then ?_
    refine jc_cond rfl (fun h2b => ?_) (fun h2b => ?_)
    · have h2 := of_decide_eq_true h2b
      refine jc_skip ?_
      refine jq_then ?_
      refine jc_true rfl (h2b) ?_
      refine jc_seq ?_
      refine jc_region ?_
      refine jo_pure rfl (pr_assign rfl) ?_
      refine jo_nil ?_
      refine jq_then ?_
      refine jc_ret ?_
      refine jq_in_ret ?_
      refine jq_then_ret ?_
      exact jq_ret1 rfl () rfl (show (str (canonical kind s) : Value) = (str ([103, 122, 105, 112])) from by simp [canonical, sGzip, sXgzip, sCompress, sXcompress, *]) (fun _ h => h)
    · have h2 := of_decide_eq_false h2b
      refine jc_region ?_
      refine jo_pure rfl (pr_seql rfl rfl) ?_
      refine jo_pure rfl (pr_assign rfl) ?_
      refine jo_nil ?_
      refine jq_then ?_
      refine jc_cond rfl (fun h3b => ?_) (fun h3b => ?_)
      · have h3 := of_decide_eq_true h3b
        refine jc_seq ?_
        refine jc_region ?_
        refine jo_pure rfl (pr_assign rfl) ?_
        refine jo_nil ?_
        refine jq_then ?_
        refine jc_ret ?_
        refine jq_in_ret ?_
        refine jq_then_ret ?_
        exact jq_ret1 rfl () rfl (show (str (canonical kind s) : Value) = (str ([103, 122, 105, 112])) from by simp [canonical, sGzip, sXgzip, sCompress, sXcompress, *]) (fun _ h => h)
      · have h3 := of_decide_eq_false h3b
        refine jc_seq ?_
        refine jc_seq ?_
        refine jc_region ?_
        refine jo_pure rfl (pr_seql rfl rfl) ?_
        refine jo_pure rfl (pr_assign rfl) ?_
        refine jo_nil ?_
        refine jq_then ?_
        refine jc_cond rfl (fun h4b => ?_) (fun h4b => ?_)
        · have h4 := of_decide_eq_true h4b
          refine jc_skip ?_
          refine jq_then ?_
          refine jc_true rfl (h4b) ?_
          refine jc_seq ?_
          refine jc_region ?_
          refine jo_pure rfl (pr_assign rfl) ?_
          refine jo_nil ?_
          refine jq_then ?_
          refine jc_ret ?_
          refine jq_in_ret ?_
          refine jq_then_ret ?_
          exact jq_ret1 rfl () rfl (show (str (canonical kind s) : Value) = (str ([99, 111, 109, 112, 114, 101, 115, 115])) from by simp [canonical, sGzip, sXgzip, sCompress, sXcompress, *]) (fun _ h => h)
        · have h4 := of_decide_eq_false h4b
          refine jc_region ?_
          refine jo_pure rfl (pr_seql rfl rfl) ?_
          refine jo_pure rfl (pr_assign rfl) ?_
          refine jo_nil ?_
          refine jq_then ?_
          refine jc_cond rfl (fun h5b => ?_) (fun h5b => ?_)
          · have h5 := of_decide_eq_true h5b
            refine jc_seq ?_
            refine jc_region ?_
            refine jo_pure rfl (pr_assign rfl) ?_
            refine jo_nil ?_
            refine jq_then ?_
            refine jc_ret ?_
            refine jq_in_ret ?_
            refine jq_then_ret ?_
            exact jq_ret1 rfl () rfl (show (str (canonical kind s) : Value) = (str ([99, 111, 109, 112, 114, 101, 115, 115])) from by simp [canonical, sGzip, sXgzip, sCompress, sXcompress, *]) (fun _ h => h)
          · have h5 := of_decide_eq_false h5b
            refine jc_skip ?_
            refine jq_in_normal ?_
            refine jq_then ?_
            refine jc_seq ?_
            refine jc_region ?_
            refine jo_pure rfl (pr_move rfl) ?_
            refine jo_pure rfl (pr_assign rfl) ?_
            refine jo_nil ?_
            refine jq_then ?_
            refine jc_ret ?_
            exact jq_ret1 rfl () rfl (show (str (canonical kind s) : Value) = (str (lower s)) from by simp [canonical, sGzip, sXgzip, sCompress, sXcompress, *]) (fun _ h => h)

theorem c_ref10_Canonical (kind : Int) (s : List UInt8) (hs : s.length ≤ 1000000) : Con Tryd.prog 77 #[.int .i64 (kind), str (s)] [] (fun _ : Unit => str (canonical kind s)) (fun _ => []) := by
  refine con_of_J (args := [.int .i64 (kind), str (s)]) (n := 20) Tryd.func77 rfl (Nat.le_of_ble_eq_true rfl) rfl (fun w0 I0 m0 => ?_)
  show J _ [(0, .int .i64 (kind)), (1, str (s))] [] _
  refine jc_seq ?_
  refine jc_region ?_
  refine jo_pure rfl (pr_assign rfl) ?_
  refine jo_nil ?_
  refine jq_then ?_
  refine jc_seq ?_
  refine jc_region ?_
  refine jo_pure rfl (pr_move rfl) ?_
  refine jo_callp cal_13 (c_ref01_Lower s (by omega)) ⟨rfl, trivial⟩ rfl (trivial) (fun _ => ?_)
  refine jo_pure rfl (pr_assign rfl) ?_
  refine jo_nil ?_
  refine jq_then ?_
  refine jc_seq ?_
  refine jc_seq ?_
  refine jc_region ?_
  refine jo_pure rfl (pr_move rfl) ?_
  refine jo_pure rfl (pr_eql (n := 4) rfl rfl) ?_
  refine jo_pure rfl (pr_move rfl) ?_
  refine jo_gpure (j := 2) (want := true) rfl rfl rfl rfl (fun hg => pr_move rfl) ?_
  refine jo_gpure (j := 2) (want := true) rfl rfl rfl rfl (fun hg => pr_seql (evg rfl hg) rfl) ?_
  refine jo_pure rfl (pr_pick_and rfl rfl rfl) ?_
  refine jo_nil ?_
  refine jq_then ?_
  refine jc_cond rfl (fun h1b => ?_) (fun h1b => ?_)
  · have h1 := (fun q => And.imp of_decide_eq_true of_decide_eq_true (bt_and q)) h1b
    refine jc_seq ?_
    refine jc_region ?_
    refine jo_pure rfl (pr_assign rfl) ?_
    refine jo_nil ?_
    refine jq_then ?_
    refine jc_ret ?_
    refine jq_then_ret ?_
    exact jq_ret1 rfl () rfl (show (str (canonical kind s) : Value) = (str ([103, 122, 105, 112])) from by by_cases hk : kind = 4 <;> simp_all [canonical, sGzip, sXgzip, sCompress, sXcompress]) (fun _ h => h)
  · have h1 := (fun q => Or.imp of_decide_eq_false of_decide_eq_false (bf_and q)) h1b
    refine jc_skip ?_
    refine jq_then ?_
    refine jc_seq ?_
    refine jc_seq ?_
    refine jc_region ?_
    refine jo_pure rfl (pr_move rfl) ?_
    refine jo_pure rfl (pr_eql (n := 4) rfl rfl) ?_
    refine jo_pure rfl (pr_move rfl) ?_
    refine jo_gpure (j := 2) (want := true) rfl rfl rfl rfl (fun hg => pr_move rfl) ?_
    refine jo_gpure (j := 2) (want := true) rfl rfl rfl rfl (fun hg => pr_seql (evg rfl hg) rfl) ?_
    refine jo_pure rfl (pr_pick_and rfl rfl rfl) ?_
    refine jo_nil ?_
    refine jq_then ?_
    refine jc_cond rfl (fun h2b => ?_) (fun h2b => ?_)
    · have h2 := (fun q => And.imp of_decide_eq_true of_decide_eq_true (bt_and q)) h2b
      refine jc_seq ?_
      refine jc_region ?_
      refine jo_pure rfl (pr_assign rfl) ?_
      refine jo_nil ?_
      refine jq_then ?_
      refine jc_ret ?_
      refine jq_then_ret ?_
      exact jq_ret1 rfl () rfl (show (str (canonical kind s) : Value) = (str ([99, 111, 109, 112, 114, 101, 115, 115])) from by by_cases hk : kind = 4 <;> simp_all [canonical, sGzip, sXgzip, sCompress, sXcompress]) (fun _ h => h)
    · have h2 := (fun q => Or.imp of_decide_eq_false of_decide_eq_false (bf_and q)) h2b
      refine jc_skip ?_
      refine jq_then ?_
      refine jc_seq ?_
      refine jc_region ?_
      refine jo_pure rfl (pr_move rfl) ?_
      refine jo_pure rfl (pr_assign rfl) ?_
      refine jo_nil ?_
      refine jq_then ?_
      refine jc_ret ?_
      exact jq_ret1 rfl () rfl (show (str (canonical kind s) : Value) = (str (lower s)) from by by_cases hk : kind = 4 <;> simp_all [canonical, sGzip, sXgzip, sCompress, sXcompress]) (fun _ h => h)

theorem c_coding_Match (kind : Int) (r : List UInt8) (v : List UInt8) (hr : r.length ≤ 1000000) (hv : v.length ≤ 1000000) : Con Tryd.prog 65 #[.int .i64 (kind), str (r), str (v)] [] (fun _ : Unit => .int .i64 (matchCoding kind r v)) (fun _ => []) := by
  refine con_of_J (args := [.int .i64 (kind), str (r), str (v)]) (n := 18) Tryd.func65 rfl (Nat.le_of_ble_eq_true rfl) rfl (fun w0 I0 m0 => ?_)
  show J _ [(0, .int .i64 (kind)), (1, str (r)), (2, str (v))] [] _
  refine jc_seq ?_
  refine jc_region ?_
  refine jo_pure rfl (pr_assign rfl) ?_
  refine jo_nil ?_
  refine jq_then ?_
  refine jc_seq ?_
  refine jc_block ?_
  refine jc_seq ?_
  refine jc_region ?_
  refine jo_pure rfl (pr_move rfl) ?_
  refine jo_pure rfl (pr_seql rfl rfl) ?_
  refine jo_pure rfl (pr_assign rfl) ?_
  refine jo_nil ?_
  refine jq_then ?_
  refine jc_cond rfl (fun h1b => ?_) (fun h1b => ?_)
  · have h1 := of_decide_eq_true h1b
    refine jc_seq ?_
    refine jc_region ?_
    refine jo_pure rfl (pr_assign rfl) ?_
    refine jo_nil ?_
    refine jq_then ?_
    refine jc_ret ?_
    refine jq_in_ret ?_
    refine jq_then_ret ?_
    exact jq_ret1 rfl () rfl (show (.int .i64 (matchCoding kind r v) : Value) = (.int .i64 ((0 : Nat) : Int)) from by simp [matchCoding, *]) (fun _ h => h)
  · have h1 := of_decide_eq_false h1b
    refine jc_seq ?_
    refine jc_region ?_
    refine jo_pure rfl (pr_move rfl) ?_
    refine jo_pure rfl (pr_move rfl) ?_
    refine jo_callp cal_90 (c_coding_Canonical kind r (by omega)) ⟨rfl, rfl, trivial⟩ rfl (trivial) (fun _ => ?_)
    refine jo_pure rfl (pr_move rfl) ?_
    refine jo_pure rfl (pr_move rfl) ?_
    refine jo_callp cal_90 (c_coding_Canonical kind v (by omega)) ⟨rfl, rfl, trivial⟩ rfl (trivial) (fun _ => ?_)
    refine jo_pure rfl (pr_seql rfl rfl) ?_
    refine jo_pure rfl (pr_assign rfl) ?_
    refine jo_nil ?_
    refine jq_then ?_
    refine jc_cond rfl (fun h2b => ?_) (fun h2b => ?_)
    · have h2 := of_decide_eq_true h2b
      refine jc_seq ?_
      refine jc_region ?_
      refine jo_pure rfl (pr_assign rfl) ?_
      refine jo_nil ?_
      refine jq_then ?_
      refine jc_ret ?_
      refine jq_in_ret ?_
      refine jq_then_ret ?_
      exact jq_ret1 rfl () rfl (show (.int .i64 (matchCoding kind r v) : Value) = (.int .i64 ((1 : Nat) : Int)) from by simp [matchCoding, *]) (fun _ h => h)
    · have h2 := of_decide_eq_false h2b
      refine jc_skip ?_
      refine jq_in_normal ?_
      refine jq_then ?_
      refine jc_seq ?_
      refine jc_region ?_
      refine jo_pure rfl (pr_assign rfl) ?_
      refine jo_nil ?_
      refine jq_then ?_
      refine jc_ret ?_
      exact jq_ret1 rfl () rfl (show (.int .i64 (matchCoding kind r v) : Value) = (.int .i64 (-1)) from by simp [matchCoding, *]) (fun _ h => h)

theorem c_ref10_MatchCoding (kind : Int) (r : List UInt8) (v : List UInt8) (hr : r.length ≤ 1000000) (hv : v.length ≤ 1000000) : Con Tryd.prog 45 #[.int .i64 (kind), str (r), str (v)] [] (fun _ : Unit => .int .i64 (matchCoding kind r v)) (fun _ => []) := by
  refine con_of_J (args := [.int .i64 (kind), str (r), str (v)]) (n := 16) Tryd.func45 rfl (Nat.le_of_ble_eq_true rfl) rfl (fun w0 I0 m0 => ?_)
  show J _ [(0, .int .i64 (kind)), (1, str (r)), (2, str (v))] [] _
  refine jc_seq ?_
  refine jc_region ?_
  refine jo_pure rfl (pr_assign rfl) ?_
  refine jo_nil ?_
  refine jq_then ?_
  refine jc_seq ?_
  refine jc_seq ?_
  refine jc_region ?_
  refine jo_pure rfl (pr_move rfl) ?_
  refine jo_pure rfl (pr_seql rfl rfl) ?_
  refine jo_nil ?_
  refine jq_then ?_
  refine jc_cond rfl (fun h1b => ?_) (fun h1b => ?_)
  · have h1 := of_decide_eq_true h1b
    refine jc_seq ?_
    refine jc_region ?_
    refine jo_pure rfl (pr_assign rfl) ?_
    refine jo_nil ?_
    refine jq_then ?_
    refine jc_ret ?_
    refine jq_then_ret ?_
    exact jq_ret1 rfl () rfl (show (.int .i64 (matchCoding kind r v) : Value) = (.int .i64 ((0 : Nat) : Int)) from by simp [matchCoding, *]) (fun _ h => h)
  · have h1 := of_decide_eq_false h1b
    refine jc_skip ?_
    refine jq_then ?_
    refine jc_seq ?_
    refine jc_seq ?_
    refine jc_region ?_
    refine jo_pure rfl (pr_move rfl) ?_
    refine jo_pure rfl (pr_move rfl) ?_
    refine jo_callp cal_77 (c_ref10_Canonical kind r (by omega)) ⟨rfl, rfl, trivial⟩ rfl (trivial) (fun _ => ?_)
    refine jo_pure rfl (pr_move rfl) ?_
    refine jo_pure rfl (pr_move rfl) ?_
    refine jo_callp cal_77 (c_ref10_Canonical kind v (by omega)) ⟨rfl, rfl, trivial⟩ rfl (trivial) (fun _ => ?_)
    refine jo_pure rfl (pr_seql rfl rfl) ?_
    refine jo_nil ?_
    refine jq_then ?_
    refine jc_cond rfl (fun h2b => ?_) (fun h2b => ?_)
    · have h2 := of_decide_eq_true h2b
      refine jc_seq ?_
      refine jc_region ?_
      refine jo_pure rfl (pr_assign rfl) ?_
      refine jo_nil ?_
      refine jq_then ?_
      refine jc_ret ?_
      refine jq_then_ret ?_
      exact jq_ret1 rfl () rfl (show (.int .i64 (matchCoding kind r v) : Value) = (.int .i64 ((1 : Nat) : Int)) from by simp [matchCoding, *]) (fun _ h => h)
    · have h2 := of_decide_eq_false h2b
      refine jc_skip ?_
      refine jq_then ?_
      refine jc_seq ?_
      refine jc_region ?_
      refine jo_pure rfl (pr_assign rfl) ?_
      refine jo_nil ?_
      refine jq_then ?_
      refine jc_ret ?_
      exact jq_ret1 rfl () rfl (show (.int .i64 (matchCoding kind r v) : Value) = (.int .i64 (-1)) from by simp [matchCoding, *]) (fun _ h => h)
end Go.Proofs.YtikllmfjgpmcnaaDoor
