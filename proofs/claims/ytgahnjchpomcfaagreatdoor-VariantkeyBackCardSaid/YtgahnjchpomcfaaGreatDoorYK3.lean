/-
  Contracts of functions of the program: each returns what a plain function says, for every input within the bounds named. Conditions: the bounds.
-/
import Derived.Test.YtgahnjchpomcfaaGreatDoorRows
import Derived.Test.YtgahnjchpomcfaaGreatDoorYK2
import Derived.Test.YtgahnjchpomcfaaGreatDoorYLawB
namespace Go.Proofs.YtgahnjchpomcfaaGreatDoor
open Go Go.Sep
set_option linter.unusedSimpArgs false
set_option linter.unusedVariables false

open Go.Plain

theorem cal_45 : Cal Tryz.prog 45 := cal_of Tryz.func45 (by kernel_rfl) rfl
theorem cal_52 : Cal Tryz.prog 52 := cal_of Tryz.func52 (by kernel_rfl) rfl
theorem cal_63 : Cal Tryz.prog 63 := cal_of Tryz.func63 (by kernel_rfl) rfl
theorem cal_65 : Cal Tryz.prog 65 := cal_of Tryz.func65 (by kernel_rfl) rfl
theorem cal_79 : Cal Tryz.prog 79 := cal_of Tryz.func79 (by kernel_rfl) rfl
theorem cal_80 : Cal Tryz.prog 80 := cal_of Tryz.func80 (by kernel_rfl) rfl
theorem cal_81 : Cal Tryz.prog 81 := cal_of Tryz.func81 (by kernel_rfl) rfl
theorem cal_89 : Cal Tryz.prog 89 := cal_of Tryz.func89 (by kernel_rfl) rfl
theorem cal_95 : Cal Tryz.prog 95 := cal_of Tryz.func95 (by kernel_rfl) rfl
theorem cal_96 : Cal Tryz.prog 96 := cal_of Tryz.func96 (by kernel_rfl) rfl
theorem cal_100 : Cal Tryz.prog 100 := cal_of Tryz.func100 (by kernel_rfl) rfl
theorem cal_106 : Cal Tryz.prog 106 := cal_of Tryz.func106 (by kernel_rfl) rfl
theorem cal_107 : Cal Tryz.prog 107 := cal_of Tryz.func107 (by kernel_rfl) rfl
theorem cal_110 : Cal Tryz.prog 110 := cal_of Tryz.func110 (by kernel_rfl) rfl
theorem cal_114 : Cal Tryz.prog 114 := cal_of Tryz.func114 (by kernel_rfl) rfl
theorem cal_119 : Cal Tryz.prog 119 := cal_of Tryz.func119 (by kernel_rfl) rfl
theorem cal_129 : Cal Tryz.prog 129 := cal_of Tryz.func129 (by kernel_rfl) rfl
theorem cal_130 : Cal Tryz.prog 130 := cal_of Tryz.func130 (by kernel_rfl) rfl
theorem cal_141 : Cal Tryz.prog 141 := cal_of Tryz.func141 (by kernel_rfl) rfl
theorem cal_163 : Cal Tryz.prog 163 := cal_of Tryz.func163 (by kernel_rfl) rfl
theorem cal_164 : Cal Tryz.prog 164 := cal_of Tryz.func164 (by kernel_rfl) rfl
theorem cal_165 : Cal Tryz.prog 165 := cal_of Tryz.func165 (by kernel_rfl) rfl
theorem cal_167 : Cal Tryz.prog 167 := cal_of Tryz.func167 (by kernel_rfl) rfl
theorem cal_172 : Cal Tryz.prog 172 := cal_of Tryz.func172 (by kernel_rfl) rfl
theorem cal_182 : Cal Tryz.prog 182 := cal_of Tryz.func182 (by kernel_rfl) rfl
theorem ty_45 : TyF Tryz.prog 45 false 1 24 (some (.slice none 0 0)) := ⟨by kernel_rfl, by kernel_rfl⟩
theorem ty_48 : TyF Tryz.prog 48 true 2 40 (some (.agg #[str ([]), .slice none 0 0])) := ⟨by kernel_rfl, by kernel_rfl⟩
theorem ty_77 : TyF Tryz.prog 77 false 1 24 (some (.slice none 0 0)) := ⟨by kernel_rfl, by kernel_rfl⟩

theorem c_unicode_utf8_ValidRune (r : Int)  : Con Tryz.prog 141 #[.int .i32 (r)] [] (fun _ : Unit => .bool (validRune r)) (fun _ => []) := by
  refine con_of_J (args := [.int .i32 (r)]) (n := 17) Tryz.func141 rfl (Nat.le_of_ble_eq_true rfl) rfl (fun w0 I0 m0 => ?_)
  show J _ [(0, .int .i32 (r))] [] _
  refine jc_seq ?_
  refine jc_region ?_
  refine jo_pure rfl (pr_assign rfl) ?_
  refine jo_nil ?_
  refine jq_then ?_
  refine jc_seq ?_
  refine jc_block ?_
  refine jc_seq ?_
  refine jc_region ?_
  refine jo_pure rfl (pr_move rfl) ?_
  refine jo_pure rfl (pr_leq (m := 0) rfl rfl) ?_
  refine jo_pure rfl (pr_move rfl) ?_
  refine jo_gpure (j := 2) (want := true) rfl rfl rfl rfl (fun hg => pr_move rfl) ?_
  refine jo_gpure (j := 2) (want := true) rfl rfl rfl rfl (fun hg => pr_lss (n := 55296) (evg rfl hg) rfl) ?_
  refine jo_pure rfl (pr_pick_and rfl rfl rfl) ?_
  refine jo_pure rfl (pr_assign rfl) ?_
  refine jo_nil ?_
  refine jq_then ?_
  refine jc_cond rfl (fun h1b => ?_) (fun h1b => ?_)
  · have h1 := (fun q => And.imp of_decide_eq_true of_decide_eq_true (bt_and q)) h1b
    refine jc_seq ?_
    refine jc_region ?_
    refine jo_pure rfl (pr_assign rfl) ?_
    refine jo_nil ?_
    refine jq_then ?_
    refine jc_ret ?_
    refine jq_in_ret ?_
    refine jq_then_ret ?_
    exact jq_ret1 rfl () rfl (show (.bool (validRune r) : Value) = (.bool (true)) from congrArg Value.bool (by unfold validRune; rw [decide_eq_true]; omega)) (fun _ h => h)
  · have h1 := (fun q => Or.imp of_decide_eq_false of_decide_eq_false (bf_and q)) h1b
    refine jc_seq ?_
    refine jc_region ?_
    refine jo_pure rfl (pr_move rfl) ?_
    refine jo_pure rfl (pr_lss (m := 57343) rfl rfl) ?_
    refine jo_pure rfl (pr_move rfl) ?_
    refine jo_gpure (j := 2) (want := true) rfl rfl rfl rfl (fun hg => pr_move rfl) ?_
    refine jo_gpure (j := 2) (want := true) rfl rfl rfl rfl (fun hg => pr_leq (n := 1114111) (evg rfl hg) rfl) ?_
    refine jo_pure rfl (pr_pick_and rfl rfl rfl) ?_
    refine jo_pure rfl (pr_assign rfl) ?_
    refine jo_nil ?_
    refine jq_then ?_
    refine jc_cond rfl (fun h2b => ?_) (fun h2b => ?_)
    · have h2 := (fun q => And.imp of_decide_eq_true of_decide_eq_true (bt_and q)) h2b
      refine jc_seq ?_
      refine jc_region ?_
      refine jo_pure rfl (pr_assign rfl) ?_
      refine jo_nil ?_
      refine jq_then ?_
      refine jc_ret ?_
      refine jq_in_ret ?_
      refine jq_then_ret ?_
      exact jq_ret1 rfl () rfl (show (.bool (validRune r) : Value) = (.bool (true)) from congrArg Value.bool (by unfold validRune; rw [decide_eq_true]; omega)) (fun _ h => h)
    · have h2 := (fun q => Or.imp of_decide_eq_false of_decide_eq_false (bf_and q)) h2b
      refine jc_skip ?_
      refine jq_in_normal ?_
      refine jq_then ?_
      refine jc_seq ?_
      refine jc_region ?_
      refine jo_pure rfl (pr_assign rfl) ?_
      refine jo_nil ?_
      refine jq_then ?_
      refine jc_ret ?_
      exact jq_ret1 rfl () rfl (show (.bool (validRune r) : Value) = (.bool (false)) from congrArg Value.bool (by unfold validRune; rw [decide_eq_false]; omega)) (fun _ h => h)

theorem c_strings_IndexByte (s : List UInt8) (c : UInt8)  : Con Tryz.prog 119 #[str (s), byte (c)] [] (fun _ : Unit => .int .i64 (idx s c)) (fun _ => []) := by
  refine con_of_J (args := [str (s), byte (c)]) (n := 8) Tryz.func119 rfl (Nat.le_of_ble_eq_true rfl) rfl (fun w0 I0 m0 => ?_)
  show J _ [(0, str (s)), (1, byte (c))] [] _
  refine jc_seq ?_
  refine jc_region ?_
  refine jo_pure rfl (pr_assign rfl) ?_
  refine jo_nil ?_
  refine jq_then ?_
  refine jc_seq ?_
  refine jc_region ?_
  refine jo_pure rfl (pr_move rfl) ?_
  refine jo_pure rfl (pr_move rfl) ?_
  refine jo_callp cal_131 (c_internal_stringslite_IndexByte s c) ⟨rfl, rfl, trivial⟩ rfl (trivial) (fun _ => ?_)
  refine jo_pure rfl (pr_assign rfl) ?_
  refine jo_nil ?_
  refine jq_then ?_
  refine jc_ret ?_
  exact jq_ret1 rfl () rfl (show (.int .i64 (idx s c) : Value) = (.int .i64 (idx s c)) from rfl) (fun _ h => h)

theorem c_strings_IndexRune (r : Int)  : Con Tryz.prog 129 #[str (gsigns), .int .i32 (r)] [] (fun _ : Unit => .int .i64 (idxR r)) (fun _ => []) := by
  refine con_of_J (args := [str (gsigns), .int .i32 (r)]) (n := 187) Tryz.func129 rfl (Nat.le_of_ble_eq_true rfl) rfl (fun w0 I0 m0 => ?_)
  show J _ [(0, str (gsigns)), (1, .int .i32 (r))] [] _
  have hgl : gsigns.length = 6 := rfl
  refine jc_seq ?_
  refine jc_region ?_
  refine jo_pure rfl (pr_assign rfl) ?_
  refine jo_nil ?_
  refine jq_then ?_
  refine jc_block ?_
  refine jc_seq ?_
  refine jc_region ?_
  refine jo_pure rfl (pr_move rfl) ?_
  refine jo_pure rfl (pr_leq (m := 0) rfl rfl) ?_
  refine jo_pure rfl (pr_move rfl) ?_
  refine jo_gpure (j := 2) (want := true) rfl rfl rfl rfl (fun hg => pr_move rfl) ?_
  refine jo_gpure (j := 2) (want := true) rfl rfl rfl rfl (fun hg => pr_lss (n := 128) (evg rfl hg) rfl) ?_
  refine jo_pure rfl (pr_pick_and rfl rfl rfl) ?_
  refine jo_pure rfl (pr_assign rfl) ?_
  refine jo_nil ?_
  refine jq_then ?_
  refine jc_cond rfl (fun h1b => ?_) (fun h1b => ?_)
  · have h1 := (fun q => And.imp of_decide_eq_true of_decide_eq_true (bt_and q)) h1b
    refine jc_seq ?_
    refine jc_region ?_
    refine jo_pure rfl (pr_move rfl) ?_
    refine jo_pure rfl (pr_move rfl) ?_
    refine jo_pure rfl (pr_intK_u8 (m := r) rfl Tryz.underlying21 Tryz.underlying5 (by omega) (by omega)) ?_
    refine jo_callp cal_119 (c_strings_IndexByte gsigns (UInt8.ofNat (r).toNat)) ⟨rfl, rfl, trivial⟩ rfl (trivial) (fun _ => ?_)
    refine jo_pure rfl (pr_assign rfl) ?_
    refine jo_nil ?_
    refine jq_then ?_
    refine jc_ret ?_
    refine jq_in_ret ?_
    exact jq_ret1 rfl () rfl (show (.int .i64 (idxR r) : Value) = (.int .i64 (idx gsigns (UInt8.ofNat (r).toNat))) from congrArg (Value.int .i64) (by rw [idxR_small (by omega)])) (fun _ h => h)
  · have h1 := (fun q => Or.imp of_decide_eq_false of_decide_eq_false (bf_and q)) h1b
    refine jc_seq ?_
    refine jc_region ?_
    refine jo_pure rfl (pr_move rfl) ?_
    refine jo_pure rfl (pr_eql (n := 65533) rfl rfl) ?_
    refine jo_pure rfl (pr_assign rfl) ?_
    refine jo_nil ?_
    refine jq_then ?_
    refine jc_cond rfl (fun h2b => ?_) (fun h2b => ?_)
    · have h2 := of_decide_eq_true h2b
      refine jc_seq ?_
      refine jc_seq ?_
      refine jc_region ?_
      refine jo_pure rfl (pr_move rfl) ?_
      refine jo_range_str rfl Tryz.underlying9 rfl (fun it1 => ?_)
      refine jo_nil ?_
      refine jq_then ?_
      refine jc_block ?_
      refine jc_loop (fun (p : Nat) => [(175, .pointer (some ⟨it1, 0, none⟩))]) (fun (p : Nat) => [.obj it1 (.stringIter ⟨(gsigns).toArray⟩ (p))]) (fun (p : Nat) => p ≤ gsigns.length) (fun (p : Nat) => gsigns.length - p) 0 (Nat.zero_le _) (⟨rfl, trivial⟩) (fun _ h => h) (fun p hinv => ?_)
      refine jc_seq ?_
      by_cases hn : p < gsigns.length
      · skip
        have hru := gs_rune hn
        refine jc_region ?_
        refine jo_next_str (p := p) rfl (by omega) rfl ?_
        refine jo_pure rfl (pr_extract rfl rfl) ?_
        refine jo_nil ?_
        refine jq_then ?_
        refine jc_seq ?_
        refine jc_true rfl (rfl) ?_
        refine jc_skip ?_
        refine jq_then ?_
        refine jc_block ?_
        refine jc_seq ?_
        refine jc_region ?_
        refine jo_pure rfl (pr_extract rfl rfl) ?_
        refine jo_pure rfl (pr_extract rfl rfl) ?_
        refine jo_pure rfl (pr_assign rfl) ?_
        refine jo_pure rfl (pr_assign rfl) ?_
        refine jo_nil ?_
        refine jq_then ?_
        refine jc_seq ?_
        refine jc_region ?_
        refine jo_pure rfl (pr_move rfl) ?_
        refine jo_pure rfl (pr_eql (n := 65533) rfl rfl) ?_
        refine jo_nil ?_
        refine jq_then ?_
        refine jc_cond rfl (fun h3b => ?_) (fun h3b => ?_)
        · have h3 := of_decide_eq_true h3b
          exact absurd h3 (by omega)
        · have h3 := of_decide_eq_false h3b
          refine jc_skip ?_
          refine jq_in_normal ?_
          refine jq_round' (p + runeW gsigns p) (by (try dsimp only); exact (by omega)) (by (try dsimp only); exact (by omega)) ⟨rfl, trivial⟩ (fun _ h => h)
      · skip
        refine jc_region ?_
        refine jo_pure rfl (pr_next_end rfl (.head _) (by omega)) ?_
        refine jo_pure rfl (pr_extract rfl rfl) ?_
        refine jo_nil ?_
        refine jq_then ?_
        refine jc_seq ?_
        refine jc_false rfl (rfl) ?_
        refine jc_exit ?_
        refine jq_then_exit ?_
        refine jq_then_exit ?_
        refine jq_in_hit ?_
        refine jq_then ?_
        refine jc_seq ?_
        refine jc_region ?_
        refine jo_pure rfl (pr_assign rfl) ?_
        refine jo_nil ?_
        refine jq_then ?_
        refine jc_ret ?_
        refine jq_in_ret ?_
        refine j_drop ?_
        exact jq_ret1 rfl () rfl (show (.int .i64 (idxR r) : Value) = (.int .i64 (-1)) from congrArg (Value.int .i64) (by rw [idxR_no (by omega)])) (fun _ h => h)
    · have h2 := of_decide_eq_false h2b
      refine jc_seq ?_
      refine jc_region ?_
      refine jo_pure rfl (pr_move rfl) ?_
      refine jo_callp cal_141 (c_unicode_utf8_ValidRune r) ⟨rfl, trivial⟩ rfl (trivial) (fun _ => ?_)
      refine jo_pure rfl (pr_not rfl) ?_
      refine jo_pure rfl (pr_assign rfl) ?_
      refine jo_nil ?_
      refine jq_then ?_
      refine jc_cond rfl (fun h4b => ?_) (fun h4b => ?_)
      · have h4 := (fun q => id (bt_not q)) h4b
        refine jc_seq ?_
        refine jc_region ?_
        refine jo_pure rfl (pr_assign rfl) ?_
        refine jo_nil ?_
        refine jq_then ?_
        refine jc_ret ?_
        refine jq_in_ret ?_
        exact jq_ret1 rfl () rfl (show (.int .i64 (idxR r) : Value) = (.int .i64 (-1)) from congrArg (Value.int .i64) (by rw [idxR_no (fun e => by have h9 : validRune r = false := (by simpa using h4b); unfold validRune at h9; have := of_decide_eq_false h9; omega)])) (fun _ h => h)
      · have h4 := (fun q => id (bf_not q)) h4b
        have hv : validRune r = true := by simpa using h4b
        have hef := encR_facts hv (by have h9 := hv; unfold validRune at h9; have := of_decide_eq_true h9; omega)
        refine jc_scope ?_
        refine jc_seq ?_
        refine jc_region ?_
        refine jo_pure rfl (pr_move rfl) ?_
        refine jo_pure rfl (pr_rune_str (n := r) rfl (by kernel_rfl) Tryz.underlying9) ?_
        refine jo_pure rfl (pr_assign rfl) ?_
        refine jo_nil ?_
        refine jq_then ?_
        refine jc_seq ?_
        refine jc_region ?_
        refine jo_pure rfl (pr_move rfl) ?_
        refine jo_pure rfl (pr_slen rfl Tryz.underlying9) ?_
        refine jo_pure rfl (pr_subN (m := (encR (r)).length) (n := 1) rfl rfl (by omega) (by omega)) ?_
        refine jo_pure rfl (pr_assign rfl) ?_
        refine jo_nil ?_
        refine jq_then ?_
        refine jc_seq ?_
        refine jc_region ?_
        refine jo_pure rfl (pr_move rfl) ?_
        refine jo_pure rfl (pr_assign rfl) ?_
        refine jo_nil ?_
        refine jq_then ?_
        refine jc_seq ?_
        refine jc_region ?_
        refine jo_pure rfl (pr_assign rfl) ?_
        refine jo_nil ?_
        refine jq_then ?_
        refine jc_seq ?_
        refine jc_block ?_
        refine jc_loop (fun (i : Nat) => [(0, str (gsigns)), (7, str (encR (r))), (8, .int .i64 ((((encR (r)).length) - 1 : Nat) : Int)), (9, .int .i64 ((i : Nat) : Int))]) (fun (i : Nat) => []) (fun (i : Nat) => i = (encR r).length - 1) (fun (i : Nat) => 0) (((encR (r)).length) - 1) (rfl) (⟨rfl, rfl, rfl, rfl, trivial⟩) (fun _ h => h) (fun i hinv => ?_)
        refine jc_seq ?_
        refine jc_seq ?_
        refine jc_region ?_
        refine jo_pure rfl (pr_move rfl) ?_
        refine jo_pure rfl (pr_move rfl) ?_
        refine jo_pure rfl (pr_slen rfl Tryz.underlying9) ?_
        refine jo_pure rfl (pr_lssN (m := i) (n := gsigns.length) rfl rfl) ?_
        refine jo_nil ?_
        refine jq_then ?_
        refine jc_cond rfl (fun h5b => ?_) (fun h5b => ?_)
        · have h5 := of_decide_eq_true h5b
          refine jc_skip ?_
          refine jq_then ?_
          refine jc_block ?_
          refine jc_scope ?_
          refine jc_seq ?_
          refine jc_seq ?_
          refine jc_draws mixed (by kernel_rfl) ?_
          refine jd_pure rfl (pr_move rfl) ?_
          refine jd_pure rfl (pr_move rfl) ?_
          refine jd_pure rfl (pr_sindex (i := i) rfl rfl Tryz.underlying9 (by first | omega | (rw [hgl]; omega))) ?_
          refine jd_pure rfl (pr_move rfl) ?_
          refine jd_pure rfl (pr_move rfl) ?_
          refine jd_pure rfl (pr_sindex (i := ((encR (r)).length) - 1) rfl rfl Tryz.underlying9 (by first | omega | (rw [hgl]; omega))) ?_
          refine jd_pure rfl (pr_bneq rfl rfl) ?_
          refine jd_nil ?_
          refine jq_then ?_
          refine jc_cond rfl (fun h6b => ?_) (fun h6b => ?_)
          · have h6 := (fun q => of_decide_eq_false (bt_not q)) h6b
            refine jc_seq ?_
            refine jc_draws mixed (by kernel_rfl) ?_
            refine jd_pure rfl (pr_move rfl) ?_
            refine jd_pure rfl (pr_move rfl) ?_
            refine jd_pure rfl (pr_addN (m := i) (n := 1) rfl rfl (by omega)) ?_
            refine jd_pure rfl (pr_sslice_lo (i := i + 1) rfl rfl Tryz.underlying9 (by omega)) ?_
            refine jd_pure rfl (pr_move rfl) ?_
            refine jd_pure rfl (pr_move rfl) ?_
            refine jd_pure rfl (pr_sindex (i := ((encR (r)).length) - 1) rfl rfl Tryz.underlying9 (by first | omega | (rw [hgl]; omega))) ?_
            refine jd_callp cal_119 (c_strings_IndexByte (gsigns.drop (i + 1)) ((encR (r)).getD (((encR (r)).length) - 1) 0)) ⟨rfl, rfl, trivial⟩ rfl (trivial) ?_
            refine jd_pure rfl (pr_assign rfl) ?_
            refine jd_nil ?_
            refine jq_then ?_
            refine jc_seq ?_
            refine jc_seq ?_
            refine jc_region ?_
            refine jo_pure rfl (pr_move rfl) ?_
            refine jo_pure rfl (pr_lss (n := 0) rfl rfl) ?_
            refine jo_nil ?_
            refine jq_then ?_
            refine jc_cond rfl (fun h7b => ?_) (fun h7b => ?_)
            · have h7 := of_decide_eq_true h7b
              refine jc_seq ?_
              refine jc_region ?_
              refine jo_pure rfl (pr_assign rfl) ?_
              refine jo_nil ?_
              refine jq_then ?_
              refine jc_ret ?_
              refine jq_then_ret ?_
              refine jq_then_ret ?_
              refine jq_scope_ret ?_
              refine jq_in_ret ?_
              refine jq_then_ret ?_
              refine jq_in_ret ?_
              refine jq_then_ret ?_
              refine jq_scope_ret ?_
              refine jq_in_ret ?_
              exact jq_ret1 rfl () rfl (show (.int .i64 (idxR r) : Value) = (.int .i64 (-1)) from congrArg (Value.int .i64) (by rw [idxR_no (by omega)])) (fun _ h => h)
            · have h7 := of_decide_eq_false h7b
              exact absurd h7 (by rw [gs_idx hef.2.2]; decide)
          · have h6 := (fun q => of_decide_eq_true (bf_not q)) h6b
            exact absurd h6 (gs_ne hef.2.2 i)
        · have h5 := of_decide_eq_false h5b
          exact absurd h5 (by omega)

theorem c_strings_shouldUseASCIISet (n : Nat)  : Con Tryz.prog 130 #[.int .i64 ((n : Nat) : Int)] [] (fun _ : Unit => .bool (decide (8 < n))) (fun _ => []) := by
  refine con_of_J (args := [.int .i64 ((n : Nat) : Int)]) (n := 5) Tryz.func130 rfl (Nat.le_of_ble_eq_true rfl) rfl (fun w0 I0 m0 => ?_)
  show J _ [(0, .int .i64 ((n : Nat) : Int))] [] _
  refine jc_seq ?_
  refine jc_region ?_
  refine jo_pure rfl (pr_assign rfl) ?_
  refine jo_nil ?_
  refine jq_then ?_
  refine jc_seq ?_
  refine jc_region ?_
  refine jo_pure rfl (pr_move rfl) ?_
  refine jo_pure rfl (pr_gtrN (m := n) (n := 8) rfl rfl) ?_
  refine jo_pure rfl (pr_assign rfl) ?_
  refine jo_nil ?_
  refine jq_then ?_
  refine jc_ret ?_
  exact jq_ret1 rfl () rfl (show (.bool (decide (8 < n)) : Value) = (.bool (decide ((8 : Nat) < n))) from rfl) (fun _ h => h)

theorem c_strings_IndexAny (s : List UInt8) (hs : s.length ≤ 1000000) : Con Tryz.prog 114 #[str (s), str (gsigns)] [] (fun _ : Unit => .int .i64 (idxP sgB s)) (fun _ => []) := by
  refine con_of_J (args := [str (s), str (gsigns)]) (n := 55) Tryz.func114 rfl (Nat.le_of_ble_eq_true rfl) rfl (fun w0 I0 m0 => ?_)
  show J _ [(0, str (s)), (1, str (gsigns))] [] _
  have hgl : gsigns.length = 6 := rfl
  refine jc_seq ?_
  refine jc_region ?_
  refine jo_pure rfl (pr_assign rfl) ?_
  refine jo_nil ?_
  refine jq_then ?_
  refine jc_seq ?_
  refine jc_seq ?_
  refine jc_region ?_
  refine jo_pure rfl (pr_move rfl) ?_
  refine jo_pure rfl (pr_seql rfl rfl) ?_
  refine jo_nil ?_
  refine jq_then ?_
  refine jc_cond rfl (fun h1b => ?_) (fun h1b => ?_)
  · have h1 := of_decide_eq_true h1b
    exact absurd h1 (by decide)
  · have h1 := of_decide_eq_false h1b
    refine jc_skip ?_
    refine jq_then ?_
    refine jc_seq ?_
    refine jc_seq ?_
    refine jc_region ?_
    refine jo_pure rfl (pr_move rfl) ?_
    refine jo_pure rfl (pr_slen rfl Tryz.underlying9) ?_
    refine jo_pure rfl (pr_eqlN (m := gsigns.length) (n := 1) rfl rfl) ?_
    refine jo_nil ?_
    refine jq_then ?_
    refine jc_cond rfl (fun h2b => ?_) (fun h2b => ?_)
    · have h2 := of_decide_eq_true h2b
      exact absurd h2 (by decide)
    · have h2 := of_decide_eq_false h2b
      refine jc_skip ?_
      refine jq_then ?_
      refine jc_seq ?_
      refine jc_seq ?_
      refine jc_region ?_
      refine jo_pure rfl (pr_move rfl) ?_
      refine jo_pure rfl (pr_slen rfl Tryz.underlying9) ?_
      refine jo_callp cal_130 (c_strings_shouldUseASCIISet s.length) ⟨rfl, trivial⟩ rfl (trivial) (fun _ => ?_)
      refine jo_nil ?_
      refine jq_then ?_
      refine jc_cond rfl (fun h3b => ?_) (fun h3b => ?_)
      · have h3 := id h3b
        refine jc_seq ?_
        refine jc_region ?_
        refine jo_pure rfl (pr_move rfl) ?_
        refine jo_callp cal_111 (c_strings_makeASCIISet gsigns (by first | omega | rfl | decide) (by first | omega | rfl | decide)) ⟨rfl, trivial⟩ rfl (trivial) (fun _ => ?_)
        refine jo_pure rfl (pr_move rfl) ?_
        refine jo_pure rfl (pr_extract rfl rfl) ?_
        refine jo_pure rfl (pr_extract rfl rfl) ?_
        refine jo_alloc_arr (t := .bool) ty_113 (List.replicate 256 false) (by kernel_rfl) rfl (by rw [List.length_replicate]; simp [maxLen]) rfl (fun b1 => ?_)
        refine jo_store_arr (ys := setOf gsigns) rfl rfl ty_113 rfl (by first | rfl | exact (setOf_len _).trans List.length_replicate.symm) (by first | rfl | exact (setOf_len _).trans List.length_replicate.symm) (by first | (rw [setOf_len]; rfl) | (rw [List.length_replicate]; rfl)) ?_
        refine jo_pure rfl (pr_assign rfl) ?_
        refine jo_nil ?_
        refine jq_then ?_
        refine jc_seq ?_
        refine jc_region ?_
        refine jo_pure rfl (pr_move rfl) ?_
        refine jo_nil ?_
        refine jq_then ?_
        refine jc_true rfl (rfl) ?_
        refine jc_seq ?_
        refine jc_seq ?_
        refine j_pub_arr rfl (by exact (setOf_len _).trans List.length_replicate.symm) ?_
        refine jc_region ?_
        refine jo_pure rfl (pr_assign rfl) ?_
        refine jo_nil ?_
        refine jq_then ?_
        refine jc_block ?_
        refine jc_loop (fun (i : Nat) => [(0, str (s)), (6, .pointer (some ⟨b1, 0, none⟩)), (8, .int .i64 ((i : Nat) : Int))]) (fun (i : Nat) => [.ibox b1 113 ((setOf gsigns).flatMap (enc .bool))]) (fun (i : Nat) => i ≤ s.length ∧ (s.take i).any sgB = false) (fun (i : Nat) => s.length - i) 0 (⟨Nat.zero_le _, rfl⟩) (⟨rfl, rfl, rfl, trivial⟩) (fun _ h => h) (fun i hinv => ?_)
        refine jc_seq ?_
        refine jc_seq ?_
        refine jc_region ?_
        refine jo_pure rfl (pr_move rfl) ?_
        refine jo_pure rfl (pr_move rfl) ?_
        refine jo_pure rfl (pr_slen rfl Tryz.underlying9) ?_
        refine jo_pure rfl (pr_lssN (m := i) (n := s.length) rfl rfl) ?_
        refine jo_nil ?_
        refine jq_then ?_
        refine jc_cond rfl (fun h4b => ?_) (fun h4b => ?_)
        · have h4 := of_decide_eq_true h4b
          refine jc_skip ?_
          refine jq_then ?_
          refine jc_seq ?_
          refine jc_block ?_
          refine jc_seq ?_
          refine jc_region ?_
          refine jo_pure rfl (pr_move rfl) ?_
          refine jo_pure rfl (pr_move rfl) ?_
          refine jo_pure rfl (pr_sindex (i := i) rfl rfl Tryz.underlying9 (by omega)) ?_
          refine jo_callp cal_126 (c_asciiSet_contains (setOf gsigns) b1 (s.getD i 0) (setOf_len _)) ⟨rfl, rfl, trivial⟩ rfl (⟨⟨rfl, .head _⟩, trivial⟩) (fun _ => ?_)
          refine jo_nil ?_
          refine jq_then ?_
          refine jc_cond rfl (fun h5b => ?_) (fun h5b => ?_)
          · have h5 := id h5b
            refine jc_seq ?_
            refine jc_region ?_
            refine jo_pure rfl (pr_move rfl) ?_
            refine jo_pure rfl (pr_assign rfl) ?_
            refine jo_nil ?_
            refine jq_then ?_
            refine jc_ret ?_
            refine jq_in_ret ?_
            refine jq_then_ret ?_
            refine jq_then_ret ?_
            refine jq_in_ret ?_
            refine jq_then_ret ?_
            refine jq_then_ret ?_
            refine j_drop ?_
            exact jq_ret1 rfl () rfl (show (.int .i64 (idxP sgB s) : Value) = (.int .i64 ((i : Nat) : Int)) from congrArg (Value.int .i64) (by rw [idxP_hit h4 hinv.2 (by rw [← sg_set]; exact h5)])) (fun _ h => h)
          · have h5 := id h5b
            refine jc_skip ?_
            refine jq_in_normal ?_
            refine jq_then ?_
            refine jc_region ?_
            refine jo_pure rfl (pr_move rfl) ?_
            refine jo_pure rfl (pr_addN (m := i) (n := 1) rfl rfl (by omega)) ?_
            refine jo_pure rfl (pr_assign rfl) ?_
            refine jo_nil ?_
            refine jq_round' (i + 1) (by (try dsimp only); exact (⟨by omega, any_step (dd := 0) h4 hinv.2 (by rw [← sg_set]; exact h5)⟩)) (by (try dsimp only); exact (by omega)) ⟨rfl, rfl, rfl, trivial⟩ (fun _ h => h)
        · have h4 := of_decide_eq_false h4b
          refine jc_exit ?_
          refine jq_then_exit ?_
          refine jq_then_exit ?_
          refine jq_in_hit ?_
          refine jq_then ?_
          refine jc_seq ?_
          refine jc_region ?_
          refine jo_pure rfl (pr_assign rfl) ?_
          refine jo_nil ?_
          refine jq_then ?_
          refine jc_ret ?_
          refine jq_then_ret ?_
          refine j_drop ?_
          exact jq_ret1 rfl () rfl (show (.int .i64 (idxP sgB s) : Value) = (.int .i64 (-1)) from congrArg (Value.int .i64) (by rw [idxP_none (any_end (by omega) hinv.2)])) (fun _ h => h)
      · have h3 := id h3b
        refine jc_skip ?_
        refine jq_then ?_
        refine jc_seq ?_
        refine jc_seq ?_
        refine jc_region ?_
        refine jo_pure rfl (pr_move rfl) ?_
        refine jo_range_str rfl Tryz.underlying9 rfl (fun it1 => ?_)
        refine jo_nil ?_
        refine jq_then ?_
        refine jc_block ?_
        refine jc_loop (fun (p : Nat) => [(1, str (gsigns)), (45, .pointer (some ⟨it1, 0, none⟩))]) (fun (p : Nat) => [.obj it1 (.stringIter ⟨(s).toArray⟩ (p))]) (fun (p : Nat) => p ≤ s.length ∧ (s.take p).any sgB = false) (fun (p : Nat) => s.length - p) 0 (⟨Nat.zero_le _, rfl⟩) (⟨rfl, rfl, trivial⟩) (fun _ h => h) (fun p hinp => ?_)
        refine jc_seq ?_
        by_cases hn : p < s.length
        · skip
          have hru := rune_facts hn
          refine jc_region ?_
          refine jo_next_str (p := p) rfl (by omega) rfl ?_
          refine jo_pure rfl (pr_extract rfl rfl) ?_
          refine jo_nil ?_
          refine jq_then ?_
          refine jc_seq ?_
          refine jc_true rfl (rfl) ?_
          refine jc_skip ?_
          refine jq_then ?_
          refine jc_block ?_
          refine jc_seq ?_
          refine jc_region ?_
          refine jo_pure rfl (pr_extract rfl rfl) ?_
          refine jo_pure rfl (pr_extract rfl rfl) ?_
          refine jo_pure rfl (pr_assign rfl) ?_
          refine jo_pure rfl (pr_assign rfl) ?_
          refine jo_nil ?_
          refine jq_then ?_
          refine jc_seq ?_
          refine jc_region ?_
          refine jo_pure rfl (pr_move rfl) ?_
          refine jo_pure rfl (pr_move rfl) ?_
          refine jo_callp cal_129 (c_strings_IndexRune (runeAt s p)) ⟨rfl, rfl, trivial⟩ rfl (trivial) (fun _ => ?_)
          refine jo_pure rfl (pr_geq (n := 0) rfl rfl) ?_
          refine jo_nil ?_
          refine jq_then ?_
          refine jc_cond rfl (fun h6b => ?_) (fun h6b => ?_)
          · have h6 := of_decide_eq_true h6b
            refine jc_seq ?_
            refine jc_region ?_
            refine jo_pure rfl (pr_move rfl) ?_
            refine jo_pure rfl (pr_assign rfl) ?_
            refine jo_nil ?_
            refine jq_then ?_
            refine jc_ret ?_
            refine jq_in_ret ?_
            refine jq_then_ret ?_
            refine jq_in_ret ?_
            refine jq_then_ret ?_
            refine j_drop ?_
            exact jq_ret1 rfl () rfl (show (.int .i64 (idxP sgB s) : Value) = (.int .i64 ((p : Nat) : Int)) from congrArg (Value.int .i64) (by rw [sg_hit hn hinp.2 (by omega)])) (fun _ h => h)
          · have h6 := of_decide_eq_false h6b
            refine jc_skip ?_
            refine jq_in_normal ?_
            refine jq_round' (p + runeW s p) (by (try dsimp only); exact (sg_miss hn hinp.2 (by omega))) (by (try dsimp only); exact (by omega)) ⟨rfl, rfl, trivial⟩ (fun _ h => h)
        · skip
          refine jc_region ?_
          refine jo_pure rfl (pr_next_end rfl (.head _) (by omega)) ?_
          refine jo_pure rfl (pr_extract rfl rfl) ?_
          refine jo_nil ?_
          refine jq_then ?_
          refine jc_seq ?_
          refine jc_false rfl (rfl) ?_
          refine jc_exit ?_
          refine jq_then_exit ?_
          refine jq_then_exit ?_
          refine jq_in_hit ?_
          refine jq_then ?_
          refine jc_seq ?_
          refine jc_region ?_
          refine jo_pure rfl (pr_assign rfl) ?_
          refine jo_nil ?_
          refine jq_then ?_
          refine jc_ret ?_
          refine j_drop ?_
          exact jq_ret1 rfl () rfl (show (.int .i64 (idxP sgB s) : Value) = (.int .i64 (-1)) from congrArg (Value.int .i64) (by rw [sg_none (by omega) hinp.2])) (fun _ h => h)

theorem c_group_bare (s : List UInt8) (hs : s.length ≤ 1000000) : Con Tryz.prog 80 #[str (s)] [] (fun _ : Unit => .int .i64 ((bareLen s : Nat) : Int)) (fun _ => []) := by
  refine con_of_J (args := [str (s)]) (n := 11) Tryz.func80 rfl (Nat.le_of_ble_eq_true rfl) rfl (fun w0 I0 m0 => ?_)
  show J _ [(0, str (s))] [] _
  refine jc_seq ?_
  refine jc_region ?_
  refine jo_pure rfl (pr_assign rfl) ?_
  refine jo_nil ?_
  refine jq_then ?_
  refine jc_seq ?_
  refine jc_seq ?_
  refine jc_region ?_
  refine jo_pure rfl (pr_move rfl) ?_
  refine jo_callp cal_114 (c_strings_IndexAny s (by omega)) ⟨rfl, rfl, trivial⟩ rfl (trivial) (fun _ => ?_)
  refine jo_pure rfl (pr_assign rfl) ?_
  refine jo_nil ?_
  refine jq_then ?_
  refine jc_seq ?_
  refine jc_region ?_
  refine jo_pure rfl (pr_move rfl) ?_
  refine jo_pure rfl (pr_geq (n := 0) rfl rfl) ?_
  refine jo_nil ?_
  refine jq_then ?_
  refine jc_cond rfl (fun h1b => ?_) (fun h1b => ?_)
  · have h1 := of_decide_eq_true h1b
    refine jc_seq ?_
    refine jc_region ?_
    refine jo_pure rfl (pr_move rfl) ?_
    refine jo_pure rfl (pr_assign rfl) ?_
    refine jo_nil ?_
    refine jq_then ?_
    refine jc_ret ?_
    refine jq_then_ret ?_
    exact jq_ret1 rfl () rfl (show (.int .i64 ((bareLen s : Nat) : Int) : Value) = (.int .i64 (idxP sgB s)) from congrArg (Value.int .i64) (by rw [bare_some h1])) (fun _ h => h)
  · have h1 := of_decide_eq_false h1b
    refine jc_skip ?_
    refine jq_then ?_
    refine jc_seq ?_
    refine jc_region ?_
    refine jo_pure rfl (pr_move rfl) ?_
    refine jo_pure rfl (pr_slen rfl Tryz.underlying9) ?_
    refine jo_pure rfl (pr_assign rfl) ?_
    refine jo_nil ?_
    refine jq_then ?_
    refine jc_ret ?_
    exact jq_ret1 rfl () rfl (show (.int .i64 ((bareLen s : Nat) : Int) : Value) = (.int .i64 ((s.length : Nat) : Int)) from congrArg (Value.int .i64) (by rw [bare_none h1])) (fun _ h => h)

theorem c_group_quoted (s : List UInt8) (hs : s.length ≤ 1000000) : Con Tryz.prog 81 #[str (s)] [] (fun _ : Unit => .int .i64 ((quoLen s : Nat) : Int)) (fun _ => []) := by
  refine con_of_J (args := [str (s)]) (n := 21) Tryz.func81 rfl (Nat.le_of_ble_eq_true rfl) rfl (fun w0 I0 m0 => ?_)
  show J _ [(0, str (s))] [] _
  refine jc_seq ?_
  refine jc_region ?_
  refine jo_pure rfl (pr_assign rfl) ?_
  refine jo_nil ?_
  refine jq_then ?_
  refine jc_seq ?_
  refine jc_seq ?_
  refine jc_region ?_
  refine jo_pure rfl (pr_assign rfl) ?_
  refine jo_nil ?_
  refine jq_then ?_
  refine jc_block ?_
  refine jc_loop (fun (i : Nat) => [(0, str (s)), (3, .int .i64 ((i : Nat) : Int))]) (fun (i : Nat) => []) (fun (i : Nat) => 1 ≤ i ∧ quoGo i (s.drop i) = quoLen s) (fun (i : Nat) => s.length - i) 1 (⟨Nat.le_refl _, rfl⟩) (⟨rfl, rfl, trivial⟩) (fun _ h => h) (fun i hinv => ?_)
  refine jc_seq ?_
  refine jc_seq ?_
  refine jc_region ?_
  refine jo_pure rfl (pr_move rfl) ?_
  refine jo_pure rfl (pr_move rfl) ?_
  refine jo_pure rfl (pr_slen rfl Tryz.underlying9) ?_
  refine jo_pure rfl (pr_lssN (m := i) (n := s.length) rfl rfl) ?_
  refine jo_nil ?_
  refine jq_then ?_
  refine jc_cond rfl (fun h1b => ?_) (fun h1b => ?_)
  · have h1 := of_decide_eq_true h1b
    refine jc_skip ?_
    refine jq_then ?_
    refine jc_seq ?_
    refine jc_block ?_
    refine jc_seq ?_
    refine jc_region ?_
    refine jo_pure rfl (pr_move rfl) ?_
    refine jo_pure rfl (pr_move rfl) ?_
    refine jo_pure rfl (pr_sindex (i := i) rfl rfl Tryz.underlying9 (by omega)) ?_
    refine jo_nil ?_
    refine jq_then ?_
    refine jc_block ?_
    refine jc_seq ?_
    refine jc_region ?_
    refine jo_pure rfl (pr_beql (n := 92) rfl rfl) ?_
    refine jo_pure rfl (pr_assign rfl) ?_
    refine jo_nil ?_
    refine jq_then ?_
    refine jc_cond rfl (fun h2b => ?_) (fun h2b => ?_)
    · have h2 := of_decide_eq_true h2b
      refine jc_region ?_
      refine jo_pure rfl (pr_move rfl) ?_
      refine jo_pure rfl (pr_addN (m := i) (n := 1) rfl rfl (by omega)) ?_
      refine jo_pure rfl (pr_assign rfl) ?_
      refine jo_nil ?_
      refine jq_in_normal ?_
      refine jq_in_normal ?_
      refine jq_then ?_
      refine jc_region ?_
      refine jo_pure rfl (pr_move rfl) ?_
      refine jo_pure rfl (pr_addN (m := i + 1) (n := 1) rfl rfl (by omega)) ?_
      refine jo_pure rfl (pr_assign rfl) ?_
      refine jo_nil ?_
      refine jq_round' ((i + 1) + 1) (by (try dsimp only); exact (⟨by omega, quo_esc h1 h2 hinv.2⟩)) (by (try dsimp only); exact (by omega)) ⟨rfl, rfl, trivial⟩ (fun _ h => h)
    · have h2 := of_decide_eq_false h2b
      refine jc_seq ?_
      refine jc_region ?_
      refine jo_pure rfl (pr_beql (n := 34) rfl rfl) ?_
      refine jo_pure rfl (pr_assign rfl) ?_
      refine jo_nil ?_
      refine jq_then ?_
      refine jc_cond rfl (fun h3b => ?_) (fun h3b => ?_)
      · have h3 := of_decide_eq_true h3b
        refine jc_seq ?_
        refine jc_region ?_
        refine jo_pure rfl (pr_move rfl) ?_
        refine jo_pure rfl (pr_addN (m := i) (n := 1) rfl rfl (by omega)) ?_
        refine jo_pure rfl (pr_assign rfl) ?_
        refine jo_nil ?_
        refine jq_then ?_
        refine jc_ret ?_
        refine jq_in_ret ?_
        refine jq_in_ret ?_
        refine jq_then_ret ?_
        refine jq_then_ret ?_
        refine jq_in_ret ?_
        refine jq_then_ret ?_
        exact jq_ret1 rfl () rfl (show (.int .i64 ((quoLen s : Nat) : Int) : Value) = (.int .i64 ((i + 1 : Nat) : Int)) from congrArg (Value.int .i64) (by rw [quo_hit h1 h3 hinv.2])) (fun _ h => h)
      · have h3 := of_decide_eq_false h3b
        refine jc_skip ?_
        refine jq_in_normal ?_
        refine jq_in_normal ?_
        refine jq_then ?_
        refine jc_region ?_
        refine jo_pure rfl (pr_move rfl) ?_
        refine jo_pure rfl (pr_addN (m := i) (n := 1) rfl rfl (by omega)) ?_
        refine jo_pure rfl (pr_assign rfl) ?_
        refine jo_nil ?_
        refine jq_round' (i + 1) (by (try dsimp only); exact (⟨by omega, quo_next h1 h2 h3 hinv.2⟩)) (by (try dsimp only); exact (by omega)) ⟨rfl, rfl, trivial⟩ (fun _ h => h)
  · have h1 := of_decide_eq_false h1b
    refine jc_exit ?_
    refine jq_then_exit ?_
    refine jq_then_exit ?_
    refine jq_in_hit ?_
    refine jq_then ?_
    refine jc_seq ?_
    refine jc_region ?_
    refine jo_pure rfl (pr_assign rfl) ?_
    refine jo_nil ?_
    refine jq_then ?_
    refine jc_ret ?_
    exact jq_ret1 rfl () rfl (show (.int .i64 ((quoLen s : Nat) : Int) : Value) = (.int .i64 ((0 : Nat) : Int)) from congrArg (Value.int .i64) (by rw [quo_done (by omega) hinv.2])) (fun _ h => h)

theorem c_strings_trimLeftByte (s : List UInt8) (c : UInt8) (hs : s.length ≤ 1000000) : Con Tryz.prog 110 #[str (s), byte (c)] [] (fun _ : Unit => str (trimL (fun x => decide (x = c)) s)) (fun _ => []) := by
  refine con_of_J (args := [str (s), byte (c)]) (n := 17) Tryz.func110 rfl (Nat.le_of_ble_eq_true rfl) rfl (fun w0 I0 m0 => ?_)
  show J _ [(0, str (s)), (1, byte (c))] [] _
  refine jc_seq ?_
  refine jc_region ?_
  refine jo_pure rfl (pr_assign rfl) ?_
  refine jo_nil ?_
  refine jq_then ?_
  refine jc_seq ?_
  refine jc_block ?_
  refine jc_loop (fun (t : List UInt8) => [(0, str (t)), (1, byte (c))]) (fun (t : List UInt8) => []) (fun (t : List UInt8) => trimL (fun x => decide (x = c)) t = trimL (fun x => decide (x = c)) s) (fun (t : List UInt8) => t.length) s (rfl) (⟨rfl, rfl, trivial⟩) (fun _ h => h) (fun t hinv => ?_)
  refine jc_seq ?_
  refine jc_seq ?_
  refine jc_region ?_
  refine jo_pure rfl (pr_move rfl) ?_
  refine jo_pure rfl (pr_slen rfl Tryz.underlying9) ?_
  refine jo_pure rfl (pr_gtrN (m := t.length) (n := 0) rfl rfl) ?_
  refine jo_pure rfl (pr_move rfl) ?_
  refine jo_gpure (j := 3) (want := true) rfl rfl rfl rfl (fun hg => pr_move rfl) ?_
  refine jo_gpure (j := 3) (want := true) rfl rfl rfl rfl (fun hg => pr_sindex (i := 0) (evg rfl hg) rfl Tryz.underlying9 (by first | omega | (simp at hg; omega))) ?_
  refine jo_gpure (j := 3) (want := true) rfl rfl rfl rfl (fun hg => pr_move rfl) ?_
  refine jo_gpure (j := 3) (want := true) rfl rfl rfl rfl (fun hg => pr_beql (evg rfl hg) (evg rfl hg)) ?_
  refine jo_pure rfl (pr_pick_and rfl rfl rfl) ?_
  refine jo_nil ?_
  refine jq_then ?_
  refine jc_cond rfl (fun h1b => ?_) (fun h1b => ?_)
  · have h1 := (fun q => And.imp of_decide_eq_true of_decide_eq_true (bt_and q)) h1b
    refine jc_skip ?_
    refine jq_then ?_
    refine jc_block ?_
    refine jc_region ?_
    refine jo_pure rfl (pr_move rfl) ?_
    refine jo_pure rfl (pr_sslice_lo (i := 1) rfl rfl Tryz.underlying9 (by omega)) ?_
    refine jo_pure rfl (pr_assign rfl) ?_
    refine jo_nil ?_
    refine jq_in_normal ?_
    refine jq_round' (t.drop 1) (by (try dsimp only); exact ((trimL_step h1.1 (by simpa using h1.2)).trans hinv)) (by (try dsimp only); exact (by simp; omega)) ⟨rfl, rfl, trivial⟩ (fun _ h => h)
  · have h1 := (fun q => Or.imp of_decide_eq_false of_decide_eq_false (bf_and q)) h1b
    refine jc_exit ?_
    refine jq_then_exit ?_
    refine jq_then_exit ?_
    refine jq_in_hit ?_
    refine jq_then ?_
    refine jc_seq ?_
    refine jc_region ?_
    refine jo_pure rfl (pr_move rfl) ?_
    refine jo_pure rfl (pr_assign rfl) ?_
    refine jo_nil ?_
    refine jq_then ?_
    refine jc_ret ?_
    exact jq_ret1 rfl () rfl (show (str (trimL (fun x => decide (x = c)) s) : Value) = (str (t)) from congrArg str (by rw [← hinv, trimL_end (h1.imp (by omega) (by simp))])) (fun _ h => h)

theorem c_strings_TrimLeft (s : List UInt8) (hs : s.length ≤ 1000000) : Con Tryz.prog 79 #[str (s), str ([32])] [] (fun _ : Unit => str (trimL spB s)) (fun _ => []) := by
  refine con_of_J (args := [str (s), str ([32])]) (n := 37) Tryz.func79 rfl (Nat.le_of_ble_eq_true rfl) rfl (fun w0 I0 m0 => ?_)
  show J _ [(0, str (s)), (1, str ([32]))] [] _
  refine jc_seq ?_
  refine jc_region ?_
  refine jo_pure rfl (pr_assign rfl) ?_
  refine jo_nil ?_
  refine jq_then ?_
  refine jc_seq ?_
  refine jc_seq ?_
  refine jc_region ?_
  refine jo_pure rfl (pr_move rfl) ?_
  refine jo_pure rfl (pr_seql rfl rfl) ?_
  refine jo_pure rfl (pr_move rfl) ?_
  refine jo_gpure (j := 2) (want := false) rfl rfl rfl rfl (fun hg => pr_move rfl) ?_
  refine jo_gpure (j := 2) (want := false) rfl rfl rfl rfl (fun hg => pr_seql (evg rfl hg) rfl) ?_
  refine jo_pure rfl (pr_pick_or rfl rfl rfl) ?_
  refine jo_nil ?_
  refine jq_then ?_
  refine jc_cond rfl (fun h1b => ?_) (fun h1b => ?_)
  · have h1 := (fun q => Or.imp of_decide_eq_true of_decide_eq_true (bt_or q)) h1b
    refine jc_seq ?_
    refine jc_region ?_
    refine jo_pure rfl (pr_move rfl) ?_
    refine jo_pure rfl (pr_assign rfl) ?_
    refine jo_nil ?_
    refine jq_then ?_
    refine jc_ret ?_
    refine jq_then_ret ?_
    exact jq_ret1 rfl () rfl (show (str (trimL spB s) : Value) = (str (s)) from congrArg str (by rcases h1 with h1 | h1; rw [h1]; rfl; cases h1)) (fun _ h => h)
  · have h1 := (fun q => And.imp of_decide_eq_false of_decide_eq_false (bf_or q)) h1b
    refine jc_skip ?_
    refine jq_then ?_
    refine jc_seq ?_
    refine jc_seq ?_
    refine jc_region ?_
    refine jo_pure rfl (pr_move rfl) ?_
    refine jo_pure rfl (pr_slen rfl Tryz.underlying9) ?_
    refine jo_pure rfl (pr_eqlN (m := [32].length) (n := 1) rfl rfl) ?_
    refine jo_pure rfl (pr_move rfl) ?_
    refine jo_gpure (j := 3) (want := true) rfl rfl rfl rfl (fun hg => pr_move rfl) ?_
    refine jo_gpure (j := 3) (want := true) rfl rfl rfl rfl (fun hg => pr_sindex (i := 0) (evg rfl hg) rfl Tryz.underlying9 (by decide)) ?_
    refine jo_gpure (j := 3) (want := true) rfl rfl rfl rfl (fun hg => pr_blss (n := 128) (evg rfl hg) rfl) ?_
    refine jo_pure rfl (pr_pick_and rfl rfl rfl) ?_
    refine jo_nil ?_
    refine jq_then ?_
    refine jc_cond rfl (fun h2b => ?_) (fun h2b => ?_)
    · have h2 := (fun q => And.imp of_decide_eq_true of_decide_eq_true (bt_and q)) h2b
      refine jc_seq ?_
      refine jc_region ?_
      refine jo_pure rfl (pr_move rfl) ?_
      refine jo_pure rfl (pr_move rfl) ?_
      refine jo_pure rfl (pr_sindex (i := 0) rfl rfl Tryz.underlying9 (by decide)) ?_
      refine jo_callp cal_110 (c_strings_trimLeftByte s ([32].getD 0 0) (by omega)) ⟨rfl, rfl, trivial⟩ rfl (trivial) (fun _ => ?_)
      refine jo_pure rfl (pr_assign rfl) ?_
      refine jo_nil ?_
      refine jq_then ?_
      refine jc_ret ?_
      refine jq_then_ret ?_
      exact jq_ret1 rfl () rfl (show (str (trimL spB s) : Value) = (str (trimL (fun x => decide (x = ([32].getD 0 0))) s)) from rfl) (fun _ h => h)
    · have h2 := (fun q => Or.imp of_decide_eq_false of_decide_eq_false (bf_and q)) h2b
      exact absurd h2 (by decide)

theorem c_group_Read (s : List UInt8) (hs : s.length ≤ 1000000) : Con Tryz.prog 41 #[str (s)] [] (fun r1 : Value => .tuple #[r1, .bool ((readF s).2)]) (fun r1 => [.imm (.list .str) r1 ((readF s).1)]) := by
  refine con_of_J (args := [str (s)]) (n := 75) Tryz.func41 rfl (Nat.le_of_ble_eq_true rfl) rfl (fun w0 I0 m0 => ?_)
  show J _ [(0, str (s))] [] _
  refine jc_seq ?_
  refine jc_region ?_
  refine jo_pure rfl (pr_assign rfl) ?_
  refine jo_pure rfl (pr_assign rfl) ?_
  refine jo_nil ?_
  refine jq_then ?_
  refine jc_seq ?_
  refine jc_seq ?_
  refine jc_region ?_
  refine jo_pure rfl (pr_move rfl) ?_
  refine jo_pure rfl (pr_slen rfl Tryz.underlying9) ?_
  refine jo_pure rfl (pr_lssN (m := s.length) (n := 2) rfl rfl) ?_
  refine jo_pure rfl (pr_move rfl) ?_
  refine jo_gpure (j := 3) (want := false) rfl rfl rfl rfl (fun hg => pr_move rfl) ?_
  refine jo_gpure (j := 3) (want := false) rfl rfl rfl rfl (fun hg => pr_sindex (i := 0) (evg rfl hg) rfl Tryz.underlying9 (by first | omega | (simp only [Bool.or_eq_false_iff, Bool.and_eq_true, beq_iff_eq, decide_eq_true_eq, decide_eq_false_iff_not, Bool.not_eq_true', Bool.not_eq_false'] at hg; omega) | (simp at hg; omega))) ?_
  refine jo_gpure (j := 3) (want := false) rfl rfl rfl rfl (fun hg => pr_bneq (n := 40) (evg rfl hg) rfl) ?_
  refine jo_pure rfl (pr_pick_or rfl rfl rfl) ?_
  refine jo_pure rfl (pr_move rfl) ?_
  refine jo_gpure (j := 8) (want := false) rfl rfl rfl rfl (fun hg => pr_move rfl) ?_
  refine jo_gpure (j := 8) (want := false) rfl rfl rfl rfl (fun hg => pr_move rfl) ?_
  refine jo_gpure (j := 8) (want := false) rfl rfl rfl rfl (fun hg => pr_slen (evg rfl hg) Tryz.underlying9) ?_
  refine jo_gpure (j := 8) (want := false) rfl rfl rfl rfl (fun hg => pr_subN (m := s.length) (n := 1) (evg rfl hg) rfl (by first | omega | (simp at hg; omega)) (by omega)) ?_
  refine jo_gpure (j := 8) (want := false) rfl rfl rfl rfl (fun hg => pr_sindex (i := s.length - 1) (evg rfl hg) (evg rfl hg) Tryz.underlying9 (by first | omega | (simp only [Bool.or_eq_false_iff, Bool.and_eq_true, beq_iff_eq, decide_eq_true_eq, decide_eq_false_iff_not, Bool.not_eq_true', Bool.not_eq_false'] at hg; omega) | (simp at hg; omega))) ?_
  refine jo_gpure (j := 8) (want := false) rfl rfl rfl rfl (fun hg => pr_bneq (n := 41) (evg rfl hg) rfl) ?_
  refine jo_pure rfl (pr_pick_or rfl rfl rfl) ?_
  refine jo_nil ?_
  refine jq_then ?_
  refine jc_cond rfl (fun h1b => ?_) (fun h1b => ?_)
  · have h1 := (fun q => Or.imp (fun q => Or.imp of_decide_eq_true (fun q => of_decide_eq_false (bt_not q)) (bt_or q)) (fun q => of_decide_eq_false (bt_not q)) (bt_or q)) h1b
    refine jc_seq ?_
    refine jc_region ?_
    refine jo_pure rfl (pr_assign rfl) ?_
    refine jo_pure rfl (pr_assign rfl) ?_
    refine jo_nil ?_
    refine jq_then ?_
    refine jc_ret ?_
    refine jq_then_ret ?_
    refine j_nil_imm .str ?_
    exact jq_rets (rs := [.tmp 2, .tmp 3]) (vs := [.slice none 0 0, .bool (false)]) rfl (.slice none 0 0) ⟨resV_tmp rfl, resV_tmp rfl, trivial⟩ rfl (show (.tuple #[(.slice none 0 0), .bool ((readF s).2)] : Value) = (.tuple #[.slice none 0 0, .bool (false)]) from by rw [read_no (by rcases h1 with (e | e) | e; exact .inl e; exact .inr (.inl e); exact .inr (.inr e))] <;> rfl) (fun _ h => by rw [read_no (by rcases h1 with (e | e) | e; exact .inl e; exact .inr (.inl e); exact .inr (.inr e))]; exact h)
  · have h1 := (fun q => And.imp (fun q => And.imp of_decide_eq_false (fun q => of_decide_eq_true (bf_not q)) (bf_or q)) (fun q => of_decide_eq_true (bf_not q)) (bf_or q)) h1b
    have hs0 : ¬ (s.length < 2 ∨ ¬ s.getD 0 0 = 40 ∨ ¬ s.getD (s.length - 1) 0 = 41) := fun e => by rcases e with e | e | e; exact h1.1.1 e; exact e h1.1.2; exact e h1.2
    have hil : ((s.take (s.length - 1)).drop 1).length + 2 = s.length := by have := h1.1.1; rw [List.length_drop, List.length_take]; omega
    refine jc_skip ?_
    refine jq_then ?_
    refine jc_seq ?_
    refine jc_region ?_
    refine jo_pure rfl (pr_assign rfl) ?_
    refine jo_nil ?_
    refine jq_then ?_
    refine jc_seq ?_
    refine jc_region ?_
    refine jo_pure rfl (pr_move rfl) ?_
    refine jo_pure rfl (pr_move rfl) ?_
    refine jo_pure rfl (pr_slen rfl Tryz.underlying9) ?_
    refine jo_pure rfl (pr_subN (m := s.length) (n := 1) rfl rfl (by first | omega | (simp at hg; omega)) (by omega)) ?_
    refine jo_pure rfl (pr_sslice (i := 1) (j := s.length - 1) rfl rfl rfl Tryz.underlying9 (by omega) (by omega)) ?_
    refine jo_pure rfl (pr_assign rfl) ?_
    refine jo_nil ?_
    refine jq_then ?_
    refine jc_block ?_
    refine j_nil_row 9 .str ?_
    refine jc_loop4 (fun (t : List UInt8) (w : Value) (acc : List (List UInt8)) (f : Nat) => [(0, str (t)), (4, w)]) (fun (t : List UInt8) (w : Value) (acc : List (List UInt8)) (f : Nat) => [.row (w) 9 .str (acc)]) (fun (t : List UInt8) (w : Value) (acc : List (List UInt8)) (f : Nat) => t.length + 1 ≤ f ∧ readGo f acc t = (readGo s.length [] ((s.take (s.length - 1)).drop 1)) ∧ acc.length + t.length ≤ s.length) (fun (t : List UInt8) (w : Value) (acc : List (List UInt8)) (f : Nat) => t.length) ((s.take (s.length - 1)).drop 1) (.slice none 0 0) [] s.length (⟨by omega, rfl, by simp only [List.length_nil]; omega⟩) (⟨rfl, rfl, trivial⟩) (fun _ h => h) (fun t w acc f hinv => ?_)
    refine jc_block ?_
    refine jc_seq ?_
    refine jc_region ?_
    refine jo_pure rfl (pr_move rfl) ?_
    refine jo_callp cal_79 (c_strings_TrimLeft t (by first | omega | (rw [List.length_take]; omega))) ⟨rfl, rfl, trivial⟩ rfl (trivial) (fun _ => ?_)
    refine jo_pure rfl (pr_assign rfl) ?_
    refine jo_nil ?_
    refine jq_then ?_
    refine jc_seq ?_
    refine jc_seq ?_
    refine jc_region ?_
    refine jo_pure rfl (pr_move rfl) ?_
    refine jo_pure rfl (pr_seql rfl rfl) ?_
    refine jo_nil ?_
    refine jq_then ?_
    refine jc_cond rfl (fun h2b => ?_) (fun h2b => ?_)
    · have h2 := of_decide_eq_true h2b
      refine jc_seq ?_
      refine jc_region ?_
      refine jo_pure rfl (pr_move rfl) ?_
      refine jo_pure rfl (pr_assign rfl) ?_
      refine jo_pure rfl (pr_assign rfl) ?_
      refine jo_nil ?_
      refine jq_then ?_
      refine jc_ret ?_
      refine jq_then_ret ?_
      refine jq_in_ret ?_
      refine jq_then_ret ?_
      refine jq_in_ret ?_
      refine j_pub_row ?_
      exact jq_rets (rs := [.tmp 2, .tmp 3]) (vs := [w, .bool (true)]) rfl w ⟨resV_tmp rfl, resV_tmp rfl, trivial⟩ rfl (show (.tuple #[w, .bool ((readF s).2)] : Value) = (.tuple #[w, .bool (true)]) from by rw [read_yes hs0 (read_end hinv.1 h2 hinv.2.1)] <;> rfl) (fun _ h => by rw [read_yes hs0 (read_end hinv.1 h2 hinv.2.1)]; exact h)
    · have h2 := of_decide_eq_false h2b
      have hul : 0 < (trimL spB t).length := List.length_pos_iff.2 h2
      have hut := trimL_length (p := spB) t
      have hql := quoLen_le hul
      have hbl := bareLen_le (trimL spB t)
      refine jc_skip ?_
      refine jq_then ?_
      refine jc_seq ?_
      refine jc_region ?_
      refine jo_pure rfl (pr_move rfl) ?_
      refine jo_callp cal_80 (c_group_bare (trimL spB t) (by first | omega | (rw [List.length_take]; omega))) ⟨rfl, trivial⟩ rfl (trivial) (fun _ => ?_)
      refine jo_pure rfl (pr_assign rfl) ?_
      refine jo_nil ?_
      refine jq_then ?_
      refine jc_seq ?_
      refine jc_seq ?_
      refine jc_region ?_
      refine jo_pure rfl (pr_move rfl) ?_
      refine jo_pure rfl (pr_sindex (i := 0) rfl rfl Tryz.underlying9 (by first | omega | (simp only [Bool.or_eq_false_iff, Bool.and_eq_true, beq_iff_eq, decide_eq_true_eq, decide_eq_false_iff_not, Bool.not_eq_true', Bool.not_eq_false'] at hg; omega) | (simp at hg; omega))) ?_
      refine jo_pure rfl (pr_beql (n := 34) rfl rfl) ?_
      refine jo_nil ?_
      refine jq_then ?_
      refine jc_cond rfl (fun h3b => ?_) (fun h3b => ?_)
      · have h3 := of_decide_eq_true h3b
        refine jc_region ?_
        refine jo_pure rfl (pr_move rfl) ?_
        refine jo_callp cal_81 (c_group_quoted (trimL spB t) (by first | omega | (rw [List.length_take]; omega))) ⟨rfl, trivial⟩ rfl (trivial) (fun _ => ?_)
        refine jo_pure rfl (pr_assign rfl) ?_
        refine jo_nil ?_
        refine jq_then ?_
        refine jc_seq ?_
        refine jc_seq ?_
        refine jc_region ?_
        refine jo_pure rfl (pr_move rfl) ?_
        refine jo_pure rfl (pr_eqlN (m := quoLen (trimL spB t)) (n := 0) rfl rfl) ?_
        refine jo_pure rfl (pr_move rfl) ?_
        refine jo_gpure (j := 2) (want := false) rfl rfl rfl rfl (fun hg => pr_move rfl) ?_
        refine jo_gpure (j := 2) (want := false) rfl rfl rfl rfl (fun hg => pr_move rfl) ?_
        refine jo_gpure (j := 2) (want := false) rfl rfl rfl rfl (fun hg => pr_slen (evg rfl hg) Tryz.underlying9) ?_
        refine jo_gpure (j := 2) (want := false) rfl rfl rfl rfl (fun hg => pr_lssN (m := quoLen (trimL spB t)) (n := (trimL spB t).length) (evg rfl hg) (evg rfl hg)) ?_
        refine jo_gpure (j := 2) (want := false) rfl rfl rfl rfl (fun hg => pr_move (evg rfl hg)) ?_
        refine jo_gpure2 (j := 7) (want := true) rfl rfl rfl rfl (fun hg => pr_move rfl) ?_
        refine jo_gpure2 (j := 7) (want := true) rfl rfl rfl rfl (fun hg => pr_move rfl) ?_
        refine jo_gpure2 (j := 7) (want := true) rfl rfl rfl rfl (fun hg => pr_sindex (i := quoLen (trimL spB t)) (evg rfl hg) (evg rfl hg) Tryz.underlying9 (by first | omega | (simp only [Bool.or_eq_false_iff, Bool.and_eq_true, beq_iff_eq, decide_eq_true_eq, decide_eq_false_iff_not, Bool.not_eq_true', Bool.not_eq_false'] at hg; omega) | (simp at hg; omega))) ?_
        refine jo_gpure2 (j := 7) (want := true) rfl rfl rfl rfl (fun hg => pr_bneq (n := 32) (evg rfl hg) rfl) ?_
        refine jo_gpure (j := 2) (want := false) rfl rfl rfl rfl (fun hg => pr_pick_and (evg rfl hg) (evg2 rfl hg) rfl) ?_
        refine jo_pure rfl (pr_pick_or rfl rfl rfl) ?_
        refine jo_nil ?_
        refine jq_then ?_
        refine jc_cond rfl (fun h4b => ?_) (fun h4b => ?_)
        · have h4 := (fun q => Or.imp of_decide_eq_true (fun q => And.imp of_decide_eq_true (fun q => of_decide_eq_false (bt_not q)) (bt_and q)) (bt_or q)) h4b
          refine jc_seq ?_
          refine jc_region ?_
          refine jo_pure rfl (pr_assign rfl) ?_
          refine jo_pure rfl (pr_assign rfl) ?_
          refine jo_nil ?_
          refine jq_then ?_
          refine jc_ret ?_
          refine jq_then_ret ?_
          refine jq_in_ret ?_
          refine jq_then_ret ?_
          refine jq_in_ret ?_
          refine j_nil_imm .str ?_
          refine j_pull1 ?_
          refine j_drop ?_
          exact jq_rets (rs := [.tmp 2, .tmp 3]) (vs := [.slice none 0 0, .bool (false)]) rfl (.slice none 0 0) ⟨resV_tmp rfl, resV_tmp rfl, trivial⟩ rfl (show (.tuple #[(.slice none 0 0), .bool ((readF s).2)] : Value) = (.tuple #[.slice none 0 0, .bool (false)]) from by rw [read_yes hs0 (read_bad hinv.1 h2 (pv_bad (by rw [pl_quo h3]; exact h4)) hinv.2.1)] <;> rfl) (fun _ h => by rw [read_yes hs0 (read_bad hinv.1 h2 (pv_bad (by rw [pl_quo h3]; exact h4)) hinv.2.1)]; exact h)
        · have h4 := (fun q => And.imp of_decide_eq_false (fun q => Or.imp of_decide_eq_false (fun q => of_decide_eq_true (bf_not q)) (bf_and q)) (bf_or q)) h4b
          refine jc_skip ?_
          refine jq_then ?_
          refine jc_seq ?_
          refine jc_region ?_
          refine jo_pure rfl (pr_move rfl) ?_
          refine jo_pure rfl (pr_move rfl) ?_
          refine jo_pure rfl (pr_sslice_hi (j := quoLen (trimL spB t)) rfl rfl Tryz.underlying9 (by omega)) ?_
          refine jo_pure rfl (pr_assign rfl) ?_
          refine jo_nil ?_
          refine jq_then ?_
          refine jc_seq ?_
          refine jc_seq ?_
          refine jc_region ?_
          refine jo_pure rfl (pr_move rfl) ?_
          refine jo_pure rfl (pr_sindex (i := 0) rfl rfl Tryz.underlying9 (by first | omega | (simp only [Bool.or_eq_false_iff, Bool.and_eq_true, beq_iff_eq, decide_eq_true_eq, decide_eq_false_iff_not, Bool.not_eq_true', Bool.not_eq_false'] at hg; omega) | (simp at hg; omega))) ?_
          refine jo_pure rfl (pr_beql (n := 34) rfl rfl) ?_
          refine jo_nil ?_
          refine jq_then ?_
          refine jc_true rfl (h3b) ?_
          refine jc_seq ?_
          refine jc_region ?_
          refine jo_pure rfl (pr_assign rfl) ?_
          refine jo_nil ?_
          refine jq_then ?_
          refine jc_seq ?_
          refine jc_region ?_
          refine jo_pure rfl (pr_move rfl) ?_
          refine jo_callp cal_82 (c_ascii_Unquote ((trimL spB t).take (quoLen (trimL spB t))) (by first | omega | (rw [List.length_take]; omega))) ⟨rfl, trivial⟩ rfl (trivial) (fun _ => ?_)
          refine jo_pure rfl (pr_move rfl) ?_
          refine jo_pure rfl (pr_extract rfl rfl) ?_
          refine jo_pure rfl (pr_extract rfl rfl) ?_
          refine jo_pure rfl (pr_assign rfl) ?_
          refine jo_pure rfl (pr_assign rfl) ?_
          refine jo_nil ?_
          refine jq_then ?_
          refine jc_seq ?_
          refine jc_region ?_
          refine jo_pure rfl (pr_move rfl) ?_
          refine jo_pure rfl (pr_not rfl) ?_
          refine jo_nil ?_
          refine jq_then ?_
          refine jc_cond rfl (fun h5b => ?_) (fun h5b => ?_)
          · have h5 := (fun q => id (bt_not q)) h5b
            refine jc_seq ?_
            refine jc_region ?_
            refine jo_pure rfl (pr_assign rfl) ?_
            refine jo_pure rfl (pr_assign rfl) ?_
            refine jo_nil ?_
            refine jq_then ?_
            refine jc_ret ?_
            refine jq_then_ret ?_
            refine jq_in_ret ?_
            refine jq_then_ret ?_
            refine jq_in_ret ?_
            refine j_nil_imm .str ?_
            refine j_pull1 ?_
            refine j_drop ?_
            exact jq_rets (rs := [.tmp 2, .tmp 3]) (vs := [.slice none 0 0, .bool (false)]) rfl (.slice none 0 0) ⟨resV_tmp rfl, resV_tmp rfl, trivial⟩ rfl (show (.tuple #[(.slice none 0 0), .bool ((readF s).2)] : Value) = (.tuple #[.slice none 0 0, .bool (false)]) from by rw [read_yes hs0 (read_bad hinv.1 h2 (pv_unq_no (by rw [pl_quo h3]; exact fun e => by rcases e with e | e; exact h4.1 e; exact h4.2.elim (fun q => q e.1) (fun q => e.2 q)) h3 (by rw [pl_quo h3]; simpa using h5)) hinv.2.1)] <;> rfl) (fun _ h => by rw [read_yes hs0 (read_bad hinv.1 h2 (pv_unq_no (by rw [pl_quo h3]; exact fun e => by rcases e with e | e; exact h4.1 e; exact h4.2.elim (fun q => q e.1) (fun q => e.2 q)) h3 (by rw [pl_quo h3]; simpa using h5)) hinv.2.1)]; exact h)
          · have h5 := (fun q => id (bf_not q)) h5b
            refine jc_skip ?_
            refine jq_then ?_
            refine jc_seq ?_
            refine jc_region ?_
            refine jo_pure rfl (pr_move rfl) ?_
            refine jo_pure rfl (pr_move rfl) ?_
            refine jo_buildSlice (t := .str) [(unq ((trimL spB t).take (quoLen (trimL spB t)))).1] [str ((unq ((trimL spB t).take (quoLen (trimL spB t)))).1)] (fun a hf => by simp only [List.zipIdx_cons, List.zipIdx_nil, List.map_toArray, List.map_cons, List.map_nil, hf.ev (show ev _ (.tmp 69) = some (str ((unq ((trimL spB t).take (quoLen (trimL spB t)))).1)) from rfl)] <;> rfl) rfl Tryz.underlying45 ty_9 rfl rfl rfl rfl rfl (fun g1 => ?_)
            refine j_pull1 ?_
            refine jo_append rfl rfl Tryz.underlying45 ty_9 rfl (by simp only [List.length_append, List.length_cons, List.length_nil, maxLen]; omega) (by simp only [List.length_append, List.length_cons, List.length_nil]; omega) rfl (fun v1 => ?_)
            refine jo_pure rfl (pr_assign rfl) ?_
            refine jo_nil ?_
            refine jq_then ?_
            refine jc_region ?_
            refine jo_pure rfl (pr_move rfl) ?_
            refine jo_pure rfl (pr_move rfl) ?_
            refine jo_pure rfl (pr_sslice_lo (i := quoLen (trimL spB t)) rfl rfl Tryz.underlying9 (by omega)) ?_
            refine jo_pure rfl (pr_assign rfl) ?_
            refine jo_nil ?_
            refine jq_in_normal ?_
            refine jq_round' (((trimL spB t).drop (quoLen (trimL spB t))), v1, (acc ++ [(unq ((trimL spB t).take (quoLen (trimL spB t)))).1]), (f - 1)) (by (try dsimp only); exact (by have := read_go hinv.1 h2 (pv_unq (by rw [pl_quo h3]; exact fun e => by rcases e with e | e; exact h4.1 e; exact h4.2.elim (fun q => q e.1) (fun q => e.2 q)) h3 (by rw [pl_quo h3]; simpa using h5)) hinv.2.1; rw [pl_quo h3] at this; exact ⟨this.1, this.2, by have := h4.1; simp only [List.length_append, List.length_cons, List.length_nil, List.length_drop]; omega⟩)) (by (try dsimp only); exact (by rw [List.length_drop]; have := h4.1; omega)) ⟨rfl, rfl, trivial⟩ (fun _ h => h)
      · have h3 := of_decide_eq_false h3b
        refine jc_skip ?_
        refine jq_then ?_
        refine jc_seq ?_
        refine jc_seq ?_
        refine jc_region ?_
        refine jo_pure rfl (pr_move rfl) ?_
        refine jo_pure rfl (pr_eqlN (m := bareLen (trimL spB t)) (n := 0) rfl rfl) ?_
        refine jo_pure rfl (pr_move rfl) ?_
        refine jo_gpure (j := 2) (want := false) rfl rfl rfl rfl (fun hg => pr_move rfl) ?_
        refine jo_gpure (j := 2) (want := false) rfl rfl rfl rfl (fun hg => pr_move rfl) ?_
        refine jo_gpure (j := 2) (want := false) rfl rfl rfl rfl (fun hg => pr_slen (evg rfl hg) Tryz.underlying9) ?_
        refine jo_gpure (j := 2) (want := false) rfl rfl rfl rfl (fun hg => pr_lssN (m := bareLen (trimL spB t)) (n := (trimL spB t).length) (evg rfl hg) (evg rfl hg)) ?_
        refine jo_gpure (j := 2) (want := false) rfl rfl rfl rfl (fun hg => pr_move (evg rfl hg)) ?_
        refine jo_gpure2 (j := 7) (want := true) rfl rfl rfl rfl (fun hg => pr_move rfl) ?_
        refine jo_gpure2 (j := 7) (want := true) rfl rfl rfl rfl (fun hg => pr_move rfl) ?_
        refine jo_gpure2 (j := 7) (want := true) rfl rfl rfl rfl (fun hg => pr_sindex (i := bareLen (trimL spB t)) (evg rfl hg) (evg rfl hg) Tryz.underlying9 (by first | omega | (simp only [Bool.or_eq_false_iff, Bool.and_eq_true, beq_iff_eq, decide_eq_true_eq, decide_eq_false_iff_not, Bool.not_eq_true', Bool.not_eq_false'] at hg; omega) | (simp at hg; omega))) ?_
        refine jo_gpure2 (j := 7) (want := true) rfl rfl rfl rfl (fun hg => pr_bneq (n := 32) (evg rfl hg) rfl) ?_
        refine jo_gpure (j := 2) (want := false) rfl rfl rfl rfl (fun hg => pr_pick_and (evg rfl hg) (evg2 rfl hg) rfl) ?_
        refine jo_pure rfl (pr_pick_or rfl rfl rfl) ?_
        refine jo_nil ?_
        refine jq_then ?_
        refine jc_cond rfl (fun h6b => ?_) (fun h6b => ?_)
        · have h6 := (fun q => Or.imp of_decide_eq_true (fun q => And.imp of_decide_eq_true (fun q => of_decide_eq_false (bt_not q)) (bt_and q)) (bt_or q)) h6b
          refine jc_seq ?_
          refine jc_region ?_
          refine jo_pure rfl (pr_assign rfl) ?_
          refine jo_pure rfl (pr_assign rfl) ?_
          refine jo_nil ?_
          refine jq_then ?_
          refine jc_ret ?_
          refine jq_then_ret ?_
          refine jq_in_ret ?_
          refine jq_then_ret ?_
          refine jq_in_ret ?_
          refine j_nil_imm .str ?_
          refine j_pull1 ?_
          refine j_drop ?_
          exact jq_rets (rs := [.tmp 2, .tmp 3]) (vs := [.slice none 0 0, .bool (false)]) rfl (.slice none 0 0) ⟨resV_tmp rfl, resV_tmp rfl, trivial⟩ rfl (show (.tuple #[(.slice none 0 0), .bool ((readF s).2)] : Value) = (.tuple #[.slice none 0 0, .bool (false)]) from by rw [read_yes hs0 (read_bad hinv.1 h2 (pv_bad (by rw [pl_bare h3]; exact h6)) hinv.2.1)] <;> rfl) (fun _ h => by rw [read_yes hs0 (read_bad hinv.1 h2 (pv_bad (by rw [pl_bare h3]; exact h6)) hinv.2.1)]; exact h)
        · have h6 := (fun q => And.imp of_decide_eq_false (fun q => Or.imp of_decide_eq_false (fun q => of_decide_eq_true (bf_not q)) (bf_and q)) (bf_or q)) h6b
          refine jc_skip ?_
          refine jq_then ?_
          refine jc_seq ?_
          refine jc_region ?_
          refine jo_pure rfl (pr_move rfl) ?_
          refine jo_pure rfl (pr_move rfl) ?_
          refine jo_pure rfl (pr_sslice_hi (j := bareLen (trimL spB t)) rfl rfl Tryz.underlying9 (by omega)) ?_
          refine jo_pure rfl (pr_assign rfl) ?_
          refine jo_nil ?_
          refine jq_then ?_
          refine jc_seq ?_
          refine jc_seq ?_
          refine jc_region ?_
          refine jo_pure rfl (pr_move rfl) ?_
          refine jo_pure rfl (pr_sindex (i := 0) rfl rfl Tryz.underlying9 (by first | omega | (simp only [Bool.or_eq_false_iff, Bool.and_eq_true, beq_iff_eq, decide_eq_true_eq, decide_eq_false_iff_not, Bool.not_eq_true', Bool.not_eq_false'] at hg; omega) | (simp at hg; omega))) ?_
          refine jo_pure rfl (pr_beql (n := 34) rfl rfl) ?_
          refine jo_nil ?_
          refine jq_then ?_
          refine jc_false rfl (h3b) ?_
          refine jc_skip ?_
          refine jq_then ?_
          refine jc_seq ?_
          refine jc_region ?_
          refine jo_pure rfl (pr_move rfl) ?_
          refine jo_pure rfl (pr_move rfl) ?_
          refine jo_buildSlice (t := .str) [(trimL spB t).take (bareLen (trimL spB t))] [str ((trimL spB t).take (bareLen (trimL spB t)))] (fun a hf => by simp only [List.zipIdx_cons, List.zipIdx_nil, List.map_toArray, List.map_cons, List.map_nil, hf.ev (show ev _ (.tmp 69) = some (str ((trimL spB t).take (bareLen (trimL spB t)))) from rfl)] <;> rfl) rfl Tryz.underlying45 ty_9 rfl rfl rfl rfl rfl (fun g2 => ?_)
          refine j_pull1 ?_
          refine jo_append rfl rfl Tryz.underlying45 ty_9 rfl (by simp only [List.length_append, List.length_cons, List.length_nil, maxLen]; omega) (by simp only [List.length_append, List.length_cons, List.length_nil]; omega) rfl (fun v2 => ?_)
          refine jo_pure rfl (pr_assign rfl) ?_
          refine jo_nil ?_
          refine jq_then ?_
          refine jc_region ?_
          refine jo_pure rfl (pr_move rfl) ?_
          refine jo_pure rfl (pr_move rfl) ?_
          refine jo_pure rfl (pr_sslice_lo (i := bareLen (trimL spB t)) rfl rfl Tryz.underlying9 (by omega)) ?_
          refine jo_pure rfl (pr_assign rfl) ?_
          refine jo_nil ?_
          refine jq_in_normal ?_
          refine jq_round' (((trimL spB t).drop (bareLen (trimL spB t))), v2, (acc ++ [(trimL spB t).take (bareLen (trimL spB t))]), (f - 1)) (by (try dsimp only); exact (by have := read_go hinv.1 h2 (pv_bare (by rw [pl_bare h3]; exact fun e => by rcases e with e | e; exact h6.1 e; exact h6.2.elim (fun q => q e.1) (fun q => e.2 q)) h3) hinv.2.1; rw [pl_bare h3] at this; exact ⟨this.1, this.2, by have := h6.1; simp only [List.length_append, List.length_cons, List.length_nil, List.length_drop]; omega⟩)) (by (try dsimp only); exact (by rw [List.length_drop]; have := h6.1; omega)) ⟨rfl, rfl, trivial⟩ (fun _ h => h)

theorem c_ref10_plain (c : UInt8)  : Con Tryz.prog 89 #[byte (c)] [] (fun _ : Unit => .bool (bareB c)) (fun _ => []) := by
  refine con_of_J (args := [byte (c)]) (n := 25) Tryz.func89 rfl (Nat.le_of_ble_eq_true rfl) rfl (fun w0 I0 m0 => ?_)
  show J _ [(0, byte (c))] [] _
  refine jc_seq ?_
  refine jc_region ?_
  refine jo_pure rfl (pr_assign rfl) ?_
  refine jo_nil ?_
  refine jq_then ?_
  refine jc_seq ?_
  refine jc_region ?_
  refine jo_pure rfl (pr_move rfl) ?_
  refine jo_pure rfl (pr_bneq (n := 32) rfl rfl) ?_
  refine jo_pure rfl (pr_move rfl) ?_
  refine jo_gpure (j := 2) (want := true) rfl rfl rfl rfl (fun hg => pr_move rfl) ?_
  refine jo_gpure (j := 2) (want := true) rfl rfl rfl rfl (fun hg => pr_bneq (n := 9) (evg rfl hg) rfl) ?_
  refine jo_pure rfl (pr_pick_and rfl rfl rfl) ?_
  refine jo_pure rfl (pr_move rfl) ?_
  refine jo_gpure (j := 6) (want := true) rfl rfl rfl rfl (fun hg => pr_move rfl) ?_
  refine jo_gpure (j := 6) (want := true) rfl rfl rfl rfl (fun hg => pr_bneq (n := 40) (evg rfl hg) rfl) ?_
  refine jo_pure rfl (pr_pick_and rfl rfl rfl) ?_
  refine jo_pure rfl (pr_move rfl) ?_
  refine jo_gpure (j := 10) (want := true) rfl rfl rfl rfl (fun hg => pr_move rfl) ?_
  refine jo_gpure (j := 10) (want := true) rfl rfl rfl rfl (fun hg => pr_bneq (n := 41) (evg rfl hg) rfl) ?_
  refine jo_pure rfl (pr_pick_and rfl rfl rfl) ?_
  refine jo_pure rfl (pr_move rfl) ?_
  refine jo_gpure (j := 14) (want := true) rfl rfl rfl rfl (fun hg => pr_move rfl) ?_
  refine jo_gpure (j := 14) (want := true) rfl rfl rfl rfl (fun hg => pr_bneq (n := 44) (evg rfl hg) rfl) ?_
  refine jo_pure rfl (pr_pick_and rfl rfl rfl) ?_
  refine jo_pure rfl (pr_move rfl) ?_
  refine jo_gpure (j := 18) (want := true) rfl rfl rfl rfl (fun hg => pr_move rfl) ?_
  refine jo_gpure (j := 18) (want := true) rfl rfl rfl rfl (fun hg => pr_bneq (n := 34) (evg rfl hg) rfl) ?_
  refine jo_pure rfl (pr_pick_and rfl rfl rfl) ?_
  refine jo_pure rfl (pr_assign rfl) ?_
  refine jo_nil ?_
  refine jq_then ?_
  refine jc_ret ?_
  exact jq_ret1 rfl () rfl (show (.bool (bareB c) : Value) = (.bool (((((((!decide ((c : UInt8) = 32)) && (!decide ((c : UInt8) = 9))) && (!decide ((c : UInt8) = 40))) && (!decide ((c : UInt8) = 41))) && (!decide ((c : UInt8) = 44))) && (!decide ((c : UInt8) = 34))))) from congrArg Value.bool (by rw [bare_alt])) (fun _ h => h)

theorem c_ref10_values (s : List UInt8) (hs : s.length ≤ 1000000) : Con Tryz.prog 47 #[str (s)] [] (fun r1 : Value => .tuple #[r1, .bool ((readF s).2)]) (fun r1 => [.imm (.list .str) r1 ((readF s).1)]) := by
  refine con_of_J (args := [str (s)]) (n := 118) Tryz.func47 rfl (Nat.le_of_ble_eq_true rfl) rfl (fun w0 I0 m0 => ?_)
  show J _ [(0, str (s))] [] _
  refine jc_seq ?_
  refine jc_region ?_
  refine jo_pure rfl (pr_assign rfl) ?_
  refine jo_pure rfl (pr_assign rfl) ?_
  refine jo_nil ?_
  refine jq_then ?_
  refine jc_seq ?_
  refine jc_seq ?_
  refine jc_region ?_
  refine jo_pure rfl (pr_move rfl) ?_
  refine jo_pure rfl (pr_slen rfl Tryz.underlying9) ?_
  refine jo_pure rfl (pr_lssN (m := s.length) (n := 2) rfl rfl) ?_
  refine jo_pure rfl (pr_move rfl) ?_
  refine jo_gpure (j := 3) (want := false) rfl rfl rfl rfl (fun hg => pr_move rfl) ?_
  refine jo_gpure (j := 3) (want := false) rfl rfl rfl rfl (fun hg => pr_sindex (i := 0) (evg rfl hg) rfl Tryz.underlying9 (by first | omega | (simp only [Bool.or_eq_false_iff, Bool.and_eq_true, beq_iff_eq, decide_eq_true_eq, decide_eq_false_iff_not, Bool.not_eq_true', Bool.not_eq_false'] at hg; omega) | (simp at hg; omega))) ?_
  refine jo_gpure (j := 3) (want := false) rfl rfl rfl rfl (fun hg => pr_bneq (n := 40) (evg rfl hg) rfl) ?_
  refine jo_pure rfl (pr_pick_or rfl rfl rfl) ?_
  refine jo_pure rfl (pr_move rfl) ?_
  refine jo_gpure (j := 8) (want := false) rfl rfl rfl rfl (fun hg => pr_move rfl) ?_
  refine jo_gpure (j := 8) (want := false) rfl rfl rfl rfl (fun hg => pr_move rfl) ?_
  refine jo_gpure (j := 8) (want := false) rfl rfl rfl rfl (fun hg => pr_slen (evg rfl hg) Tryz.underlying9) ?_
  refine jo_gpure (j := 8) (want := false) rfl rfl rfl rfl (fun hg => pr_subN (m := s.length) (n := 1) (evg rfl hg) rfl (by first | omega | (simp at hg; omega)) (by omega)) ?_
  refine jo_gpure (j := 8) (want := false) rfl rfl rfl rfl (fun hg => pr_sindex (i := s.length - 1) (evg rfl hg) (evg rfl hg) Tryz.underlying9 (by first | omega | (simp only [Bool.or_eq_false_iff, Bool.and_eq_true, beq_iff_eq, decide_eq_true_eq, decide_eq_false_iff_not, Bool.not_eq_true', Bool.not_eq_false'] at hg; omega) | (simp at hg; omega))) ?_
  refine jo_gpure (j := 8) (want := false) rfl rfl rfl rfl (fun hg => pr_bneq (n := 41) (evg rfl hg) rfl) ?_
  refine jo_pure rfl (pr_pick_or rfl rfl rfl) ?_
  refine jo_nil ?_
  refine jq_then ?_
  refine jc_cond rfl (fun h1b => ?_) (fun h1b => ?_)
  · have h1 := (fun q => Or.imp (fun q => Or.imp of_decide_eq_true (fun q => of_decide_eq_false (bt_not q)) (bt_or q)) (fun q => of_decide_eq_false (bt_not q)) (bt_or q)) h1b
    refine jc_seq ?_
    refine jc_region ?_
    refine jo_pure rfl (pr_assign rfl) ?_
    refine jo_pure rfl (pr_assign rfl) ?_
    refine jo_nil ?_
    refine jq_then ?_
    refine jc_ret ?_
    refine jq_then_ret ?_
    refine j_nil_imm .str ?_
    exact jq_rets (rs := [.tmp 2, .tmp 3]) (vs := [.slice none 0 0, .bool (false)]) rfl (.slice none 0 0) ⟨resV_tmp rfl, resV_tmp rfl, trivial⟩ rfl (show (.tuple #[(.slice none 0 0), .bool ((readF s).2)] : Value) = (.tuple #[.slice none 0 0, .bool (false)]) from by rw [read_no (by rcases h1 with (e | e) | e; exact .inl e; exact .inr (.inl e); exact .inr (.inr e))] <;> rfl) (fun _ h => by rw [read_no (by rcases h1 with (e | e) | e; exact .inl e; exact .inr (.inl e); exact .inr (.inr e))]; exact h)
  · have h1 := (fun q => And.imp (fun q => And.imp of_decide_eq_false (fun q => of_decide_eq_true (bf_not q)) (bf_or q)) (fun q => of_decide_eq_true (bf_not q)) (bf_or q)) h1b
    have hs0 : ¬ (s.length < 2 ∨ ¬ s.getD 0 0 = 40 ∨ ¬ s.getD (s.length - 1) 0 = 41) := fun e => by rcases e with e | e | e; exact h1.1.1 e; exact e h1.1.2; exact e h1.2
    have hil : ((s.take (s.length - 1)).drop 1).length + 2 = s.length := by have := h1.1.1; rw [List.length_drop, List.length_take]; omega
    refine jc_skip ?_
    refine jq_then ?_
    refine jc_seq ?_
    refine jc_region ?_
    refine jo_pure rfl (pr_move rfl) ?_
    refine jo_pure rfl (pr_move rfl) ?_
    refine jo_pure rfl (pr_slen rfl Tryz.underlying9) ?_
    refine jo_pure rfl (pr_subN (m := s.length) (n := 1) rfl rfl (by first | omega | (simp at hg; omega)) (by omega)) ?_
    refine jo_pure rfl (pr_sslice (i := 1) (j := s.length - 1) rfl rfl rfl Tryz.underlying9 (by omega) (by omega)) ?_
    refine jo_pure rfl (pr_assign rfl) ?_
    refine jo_nil ?_
    refine jq_then ?_
    refine jc_seq ?_
    refine jc_region ?_
    refine jo_pure rfl (pr_assign rfl) ?_
    refine jo_nil ?_
    refine jq_then ?_
    refine jc_seq ?_
    refine jc_seq ?_
    refine jc_region ?_
    refine jo_pure rfl (pr_assign rfl) ?_
    refine jo_nil ?_
    refine jq_then ?_
    refine jc_block ?_
    refine j_nil_row 9 .str ?_
    refine jc_loop4 (fun (i : Nat) (w : Value) (acc : List (List UInt8)) (f : Nat) => [(0, str ((s.take (s.length - 1)).drop 1)), (4, w), (5, .int .i64 ((i : Nat) : Int))]) (fun (i : Nat) (w : Value) (acc : List (List UInt8)) (f : Nat) => [.row (w) 9 .str (acc)]) (fun (i : Nat) (w : Value) (acc : List (List UInt8)) (f : Nat) => i ≤ ((s.take (s.length - 1)).drop 1).length ∧ (((s.take (s.length - 1)).drop 1).drop i).length + 1 ≤ f ∧ readGo f acc (((s.take (s.length - 1)).drop 1).drop i) = (readGo s.length [] ((s.take (s.length - 1)).drop 1)) ∧ acc.length ≤ i) (fun (i : Nat) (w : Value) (acc : List (List UInt8)) (f : Nat) => ((s.take (s.length - 1)).drop 1).length - i) 0 (.slice none 0 0) [] s.length (⟨Nat.zero_le _, by rw [List.drop_zero]; omega, by rw [List.drop_zero], Nat.le_refl _⟩) (⟨rfl, rfl, rfl, trivial⟩) (fun _ h => h) (fun i w acc f hinv => ?_)
    refine jc_seq ?_
    refine jc_seq ?_
    refine jc_region ?_
    refine jo_pure rfl (pr_move rfl) ?_
    refine jo_pure rfl (pr_move rfl) ?_
    refine jo_pure rfl (pr_slen rfl Tryz.underlying9) ?_
    refine jo_pure rfl (pr_lssN (m := i) (n := ((s.take (s.length - 1)).drop 1).length) rfl rfl) ?_
    refine jo_nil ?_
    refine jq_then ?_
    refine jc_cond rfl (fun h2b => ?_) (fun h2b => ?_)
    · have h2 := of_decide_eq_true h2b
      refine jc_skip ?_
      refine jq_then ?_
      refine jc_block ?_
      refine jc_seq ?_
      refine jc_seq ?_
      refine jc_region ?_
      refine jo_pure rfl (pr_move rfl) ?_
      refine jo_pure rfl (pr_move rfl) ?_
      refine jo_pure rfl (pr_sindex (i := i) rfl rfl Tryz.underlying9 (by first | omega | (simp only [Bool.or_eq_false_iff, Bool.and_eq_true, beq_iff_eq, decide_eq_true_eq, decide_eq_false_iff_not, Bool.not_eq_true', Bool.not_eq_false'] at hg; omega) | (simp at hg; omega))) ?_
      refine jo_pure rfl (pr_beql (n := 32) rfl rfl) ?_
      refine jo_nil ?_
      refine jq_then ?_
      refine jc_cond rfl (fun h3b => ?_) (fun h3b => ?_)
      · have h3 := of_decide_eq_true h3b
        refine jc_seq ?_
        refine jc_region ?_
        refine jo_pure rfl (pr_move rfl) ?_
        refine jo_pure rfl (pr_addN (m := i) (n := 1) rfl rfl (by omega)) ?_
        refine jo_pure rfl (pr_assign rfl) ?_
        refine jo_nil ?_
        refine jq_then ?_
        refine jc_exit ?_
        refine jq_then_exit ?_
        refine jq_in_hit ?_
        refine jq_round' ((i + 1), w, acc, f) (by (try dsimp only); exact (⟨by omega, by have := hinv.2.1; rw [List.length_drop] at this ⊢; omega, read_sp h2 h3 (by omega) hinv.2.2.1, by omega⟩)) (by (try dsimp only); exact (by omega)) ⟨rfl, rfl, rfl, trivial⟩ (fun _ h => h)
      · have h3 := of_decide_eq_false h3b
        refine jc_skip ?_
        refine jq_then ?_
        refine jc_seq ?_
        refine jc_region ?_
        refine jo_pure rfl (pr_move rfl) ?_
        refine jo_pure rfl (pr_assign rfl) ?_
        refine jo_nil ?_
        refine jq_then ?_
        refine jc_seq ?_
        refine jc_seq ?_
        refine jc_region ?_
        refine jo_pure rfl (pr_move rfl) ?_
        refine jo_pure rfl (pr_move rfl) ?_
        refine jo_pure rfl (pr_sindex (i := i) rfl rfl Tryz.underlying9 (by first | omega | (simp only [Bool.or_eq_false_iff, Bool.and_eq_true, beq_iff_eq, decide_eq_true_eq, decide_eq_false_iff_not, Bool.not_eq_true', Bool.not_eq_false'] at hg; omega) | (simp at hg; omega))) ?_
        refine jo_pure rfl (pr_beql (n := 34) rfl rfl) ?_
        refine jo_nil ?_
        refine jq_then ?_
        refine jc_cond rfl (fun h4b => ?_) (fun h4b => ?_)
        · have h4 := of_decide_eq_true h4b
          refine jc_seq ?_
          refine jc_region ?_
          refine jo_pure rfl (pr_move rfl) ?_
          refine jo_pure rfl (pr_addN (m := i) (n := 1) rfl rfl (by omega)) ?_
          refine jo_pure rfl (pr_assign rfl) ?_
          refine jo_nil ?_
          refine jq_then ?_
          refine jc_seq ?_
          refine jc_block ?_
          refine jc_loop (fun (k : Nat) => [(0, str ((s.take (s.length - 1)).drop 1)), (4, w), (5, .int .i64 ((k : Nat) : Int)), (6, .int .i64 ((i : Nat) : Int))]) (fun (k : Nat) => [.row (w) 9 .str (acc)]) (fun (k : Nat) => i + 1 ≤ k ∧ k ≤ ((s.take (s.length - 1)).drop 1).length + 1 ∧ quoGo (k - i) (((s.take (s.length - 1)).drop 1).drop k) = quoLen (((s.take (s.length - 1)).drop 1).drop i)) (fun (k : Nat) => ((s.take (s.length - 1)).drop 1).length + 2 - k) (i + 1) (⟨Nat.le_refl _, by omega, quo_start _ i⟩) (⟨rfl, rfl, rfl, rfl, trivial⟩) (fun _ h => h) (fun k hink => ?_)
          refine jc_seq ?_
          refine jc_seq ?_
          refine jc_region ?_
          refine jo_pure rfl (pr_move rfl) ?_
          refine jo_pure rfl (pr_move rfl) ?_
          refine jo_pure rfl (pr_slen rfl Tryz.underlying9) ?_
          refine jo_pure rfl (pr_lssN (m := k) (n := ((s.take (s.length - 1)).drop 1).length) rfl rfl) ?_
          refine jo_pure rfl (pr_move rfl) ?_
          refine jo_gpure (j := 4) (want := true) rfl rfl rfl rfl (fun hg => pr_move rfl) ?_
          refine jo_gpure (j := 4) (want := true) rfl rfl rfl rfl (fun hg => pr_move rfl) ?_
          refine jo_gpure (j := 4) (want := true) rfl rfl rfl rfl (fun hg => pr_sindex (i := k) (evg rfl hg) (evg rfl hg) Tryz.underlying9 (by first | omega | (simp only [Bool.or_eq_false_iff, Bool.and_eq_true, beq_iff_eq, decide_eq_true_eq, decide_eq_false_iff_not, Bool.not_eq_true', Bool.not_eq_false'] at hg; omega) | (simp at hg; omega))) ?_
          refine jo_gpure (j := 4) (want := true) rfl rfl rfl rfl (fun hg => pr_bneq (n := 34) (evg rfl hg) rfl) ?_
          refine jo_pure rfl (pr_pick_and rfl rfl rfl) ?_
          refine jo_nil ?_
          refine jq_then ?_
          refine jc_cond rfl (fun h5b => ?_) (fun h5b => ?_)
          · have h5 := (fun q => And.imp of_decide_eq_true (fun q => of_decide_eq_false (bt_not q)) (bt_and q)) h5b
            refine jc_skip ?_
            refine jq_then ?_
            refine jc_block ?_
            refine jc_seq ?_
            refine jc_seq ?_
            refine jc_region ?_
            refine jo_pure rfl (pr_move rfl) ?_
            refine jo_pure rfl (pr_move rfl) ?_
            refine jo_pure rfl (pr_sindex (i := k) rfl rfl Tryz.underlying9 (by first | omega | (simp only [Bool.or_eq_false_iff, Bool.and_eq_true, beq_iff_eq, decide_eq_true_eq, decide_eq_false_iff_not, Bool.not_eq_true', Bool.not_eq_false'] at hg; omega) | (simp at hg; omega))) ?_
            refine jo_pure rfl (pr_beql (n := 92) rfl rfl) ?_
            refine jo_nil ?_
            refine jq_then ?_
            refine jc_cond rfl (fun h6b => ?_) (fun h6b => ?_)
            · have h6 := of_decide_eq_true h6b
              refine jc_region ?_
              refine jo_pure rfl (pr_move rfl) ?_
              refine jo_pure rfl (pr_addN (m := k) (n := 1) rfl rfl (by omega)) ?_
              refine jo_pure rfl (pr_assign rfl) ?_
              refine jo_nil ?_
              refine jq_then ?_
              refine jc_region ?_
              refine jo_pure rfl (pr_move rfl) ?_
              refine jo_pure rfl (pr_addN (m := k + 1) (n := 1) rfl rfl (by omega)) ?_
              refine jo_pure rfl (pr_assign rfl) ?_
              refine jo_nil ?_
              refine jq_in_normal ?_
              refine jq_round' ((k + 1) + 1) (by (try dsimp only); exact (⟨by omega, by omega, by rw [show k + 1 + 1 - i = k - i + 2 by omega]; exact quo_esc h5.1 h6 hink.2.2⟩)) (by (try dsimp only); exact (by omega)) ⟨rfl, rfl, rfl, rfl, trivial⟩ (fun _ h => h)
            · have h6 := of_decide_eq_false h6b
              refine jc_skip ?_
              refine jq_then ?_
              refine jc_region ?_
              refine jo_pure rfl (pr_move rfl) ?_
              refine jo_pure rfl (pr_addN (m := k) (n := 1) rfl rfl (by omega)) ?_
              refine jo_pure rfl (pr_assign rfl) ?_
              refine jo_nil ?_
              refine jq_in_normal ?_
              refine jq_round' (k + 1) (by (try dsimp only); exact (⟨by omega, by omega, by rw [show k + 1 - i = k - i + 1 by omega]; exact quo_next h5.1 h6 h5.2 hink.2.2⟩)) (by (try dsimp only); exact (by omega)) ⟨rfl, rfl, rfl, rfl, trivial⟩ (fun _ h => h)
          · have h5 := (fun q => Or.imp of_decide_eq_false (fun q => of_decide_eq_true (bf_not q)) (bf_and q)) h5b
            refine jc_exit ?_
            refine jq_then_exit ?_
            refine jq_then_exit ?_
            refine jq_in_hit ?_
            refine jq_then ?_
            refine jc_seq ?_
            refine jc_seq ?_
            refine jc_region ?_
            refine jo_pure rfl (pr_move rfl) ?_
            refine jo_pure rfl (pr_move rfl) ?_
            refine jo_pure rfl (pr_slen rfl Tryz.underlying9) ?_
            refine jo_pure rfl (pr_geqN (m := k) (n := ((s.take (s.length - 1)).drop 1).length) rfl rfl) ?_
            refine jo_nil ?_
            refine jq_then ?_
            refine jc_cond rfl (fun h7b => ?_) (fun h7b => ?_)
            · have h7 := of_decide_eq_true h7b
              refine jc_seq ?_
              refine jc_region ?_
              refine jo_pure rfl (pr_assign rfl) ?_
              refine jo_pure rfl (pr_assign rfl) ?_
              refine jo_nil ?_
              refine jq_then ?_
              refine jc_ret ?_
              refine jq_then_ret ?_
              refine jq_then_ret ?_
              refine jq_in_ret ?_
              refine jq_then_ret ?_
              refine jq_in_ret ?_
              refine jq_then_ret ?_
              refine j_nil_imm .str ?_
              refine j_pull1 ?_
              refine j_drop ?_
              exact jq_rets (rs := [.tmp 2, .tmp 3]) (vs := [.slice none 0 0, .bool (false)]) rfl (.slice none 0 0) ⟨resV_tmp rfl, resV_tmp rfl, trivial⟩ rfl (show (.tuple #[(.slice none 0 0), .bool ((readF s).2)] : Value) = (.tuple #[.slice none 0 0, .bool (false)]) from by rw [read_yes hs0 (read_at_bad hinv.2.1 h2 h3 (pv_bad (.inl (by rw [pl_quo (by rw [drop_get h2]; exact h4), quo_done h7 hink.2.2]))) hinv.2.2.1)] <;> rfl) (fun _ h => by rw [read_yes hs0 (read_at_bad hinv.2.1 h2 h3 (pv_bad (.inl (by rw [pl_quo (by rw [drop_get h2]; exact h4), quo_done h7 hink.2.2]))) hinv.2.2.1)]; exact h)
            · have h7 := of_decide_eq_false h7b
              have hkl : k < ((s.take (s.length - 1)).drop 1).length := by omega
              have hk34 : ((s.take (s.length - 1)).drop 1).getD k 0 = 34 := h5.resolve_left (not_not.2 hkl)
              have hpl : pieceLen (((s.take (s.length - 1)).drop 1).drop i) = k + 1 - i := by rw [pl_quo (by rw [drop_get h2]; exact h4), quo_hit hkl hk34 hink.2.2]; omega
              have hst : (((s.take (s.length - 1)).drop 1).take (k + 1)).drop i = (((s.take (s.length - 1)).drop 1).drop i).take (pieceLen (((s.take (s.length - 1)).drop 1).drop i)) := by rw [hpl]; exact sl_take (by omega)
              refine jc_skip ?_
              refine jq_then ?_
              refine jc_seq ?_
              refine jc_region ?_
              refine jo_pure rfl (pr_move rfl) ?_
              refine jo_pure rfl (pr_addN (m := k) (n := 1) rfl rfl (by omega)) ?_
              refine jo_pure rfl (pr_assign rfl) ?_
              refine jo_nil ?_
              refine jq_then ?_
              refine jc_seq ?_
              refine jc_region ?_
              refine jo_pure rfl (pr_move rfl) ?_
              refine jo_pure rfl (pr_move rfl) ?_
              refine jo_pure rfl (pr_move rfl) ?_
              refine jo_pure rfl (pr_sslice (i := i) (j := k + 1) rfl rfl rfl Tryz.underlying9 (by omega) (by omega)) ?_
              refine jo_callp cal_88 (c_ref01_Unquote ((((s.take (s.length - 1)).drop 1).take (k + 1)).drop i) (by first | omega | (rw [List.length_drop, List.length_take]; omega))) ⟨rfl, trivial⟩ rfl (trivial) (fun _ => ?_)
              refine jo_pure rfl (pr_move rfl) ?_
              refine jo_pure rfl (pr_extract rfl rfl) ?_
              refine jo_pure rfl (pr_extract rfl rfl) ?_
              refine jo_pure rfl (pr_assign rfl) ?_
              refine jo_pure rfl (pr_assign rfl) ?_
              refine jo_nil ?_
              refine jq_then ?_
              refine jc_seq ?_
              refine jc_seq ?_
              refine jc_region ?_
              refine jo_pure rfl (pr_move rfl) ?_
              refine jo_pure rfl (pr_not rfl) ?_
              refine jo_nil ?_
              refine jq_then ?_
              refine jc_cond rfl (fun h8b => ?_) (fun h8b => ?_)
              · have h8 := (fun q => id (bt_not q)) h8b
                refine jc_seq ?_
                refine jc_region ?_
                refine jo_pure rfl (pr_assign rfl) ?_
                refine jo_pure rfl (pr_assign rfl) ?_
                refine jo_nil ?_
                refine jq_then ?_
                refine jc_ret ?_
                refine jq_then_ret ?_
                refine jq_then_ret ?_
                refine jq_in_ret ?_
                refine jq_then_ret ?_
                refine jq_in_ret ?_
                refine jq_then_ret ?_
                refine j_nil_imm .str ?_
                refine j_pull1 ?_
                refine j_drop ?_
                exact jq_rets (rs := [.tmp 2, .tmp 3]) (vs := [.slice none 0 0, .bool (false)]) rfl (.slice none 0 0) ⟨resV_tmp rfl, resV_tmp rfl, trivial⟩ rfl (show (.tuple #[(.slice none 0 0), .bool ((readF s).2)] : Value) = (.tuple #[.slice none 0 0, .bool (false)]) from by rw [read_yes hs0 (read_at_bad hinv.2.1 h2 h3 (pv_unq_any (by rw [drop_get h2]; exact h4) (by rw [← hst]; simpa using h8)) hinv.2.2.1)] <;> rfl) (fun _ h => by rw [read_yes hs0 (read_at_bad hinv.2.1 h2 h3 (pv_unq_any (by rw [drop_get h2]; exact h4) (by rw [← hst]; simpa using h8)) hinv.2.2.1)]; exact h)
              · have h8 := (fun q => id (bf_not q)) h8b
                refine jc_skip ?_
                refine jq_then ?_
                refine jc_region ?_
                refine jo_pure rfl (pr_move rfl) ?_
                refine jo_pure rfl (pr_move rfl) ?_
                refine jo_buildSlice (t := .str) [(unq ((((s.take (s.length - 1)).drop 1).take (k + 1)).drop i)).1] [str ((unq ((((s.take (s.length - 1)).drop 1).take (k + 1)).drop i)).1)] (fun a hf => by simp only [List.zipIdx_cons, List.zipIdx_nil, List.map_toArray, List.map_cons, List.map_nil, hf.ev (show ev _ (.tmp 82) = some (str ((unq ((((s.take (s.length - 1)).drop 1).take (k + 1)).drop i)).1)) from rfl)] <;> rfl) rfl Tryz.underlying45 ty_9 rfl rfl rfl rfl rfl (fun g1 => ?_)
                refine j_pull1 ?_
                refine jo_append rfl rfl Tryz.underlying45 ty_9 rfl (by simp only [List.length_append, List.length_cons, List.length_nil, maxLen]; omega) (by simp only [List.length_append, List.length_cons, List.length_nil]; omega) rfl (fun v1 => ?_)
                refine jo_pure rfl (pr_assign rfl) ?_
                refine jo_nil ?_
                refine jq_then ?_
                refine jc_seq ?_
                refine jc_region ?_
                refine jo_pure rfl (pr_move rfl) ?_
                refine jo_pure rfl (pr_move rfl) ?_
                refine jo_pure rfl (pr_slen rfl Tryz.underlying9) ?_
                refine jo_pure rfl (pr_lssN (m := k + 1) (n := ((s.take (s.length - 1)).drop 1).length) rfl rfl) ?_
                refine jo_pure rfl (pr_move rfl) ?_
                refine jo_gpure (j := 4) (want := true) rfl rfl rfl rfl (fun hg => pr_move rfl) ?_
                refine jo_gpure (j := 4) (want := true) rfl rfl rfl rfl (fun hg => pr_move rfl) ?_
                refine jo_gpure (j := 4) (want := true) rfl rfl rfl rfl (fun hg => pr_sindex (i := k + 1) (evg rfl hg) (evg rfl hg) Tryz.underlying9 (by first | omega | (simp only [Bool.or_eq_false_iff, Bool.and_eq_true, beq_iff_eq, decide_eq_true_eq, decide_eq_false_iff_not, Bool.not_eq_true', Bool.not_eq_false'] at hg; omega) | (simp at hg; omega))) ?_
                refine jo_gpure (j := 4) (want := true) rfl rfl rfl rfl (fun hg => pr_bneq (n := 32) (evg rfl hg) rfl) ?_
                refine jo_pure rfl (pr_pick_and rfl rfl rfl) ?_
                refine jo_nil ?_
                refine jq_then ?_
                refine jc_cond rfl (fun h9b => ?_) (fun h9b => ?_)
                · have h9 := (fun q => And.imp of_decide_eq_true (fun q => of_decide_eq_false (bt_not q)) (bt_and q)) h9b
                  refine jc_seq ?_
                  refine jc_region ?_
                  refine jo_pure rfl (pr_assign rfl) ?_
                  refine jo_pure rfl (pr_assign rfl) ?_
                  refine jo_nil ?_
                  refine jq_then ?_
                  refine jc_ret ?_
                  refine jq_in_ret ?_
                  refine jq_then_ret ?_
                  refine jq_in_ret ?_
                  refine jq_then_ret ?_
                  refine j_nil_imm .str ?_
                  refine j_pull1 ?_
                  refine j_drop ?_
                  exact jq_rets (rs := [.tmp 2, .tmp 3]) (vs := [.slice none 0 0, .bool (false)]) rfl (.slice none 0 0) ⟨resV_tmp rfl, resV_tmp rfl, trivial⟩ rfl (show (.tuple #[(.slice none 0 0), .bool ((readF s).2)] : Value) = (.tuple #[.slice none 0 0, .bool (false)]) from by rw [read_yes hs0 (read_at_bad hinv.2.1 h2 h3 (pv_bad (.inr ⟨by rw [hpl, List.length_drop]; omega, by rw [hpl, drop_getD, (show i + (k + 1 - i) = k + 1 by omega)]; exact h9.2⟩)) hinv.2.2.1)] <;> rfl) (fun _ h => by rw [read_yes hs0 (read_at_bad hinv.2.1 h2 h3 (pv_bad (.inr ⟨by rw [hpl, List.length_drop]; omega, by rw [hpl, drop_getD, (show i + (k + 1 - i) = k + 1 by omega)]; exact h9.2⟩)) hinv.2.2.1)]; exact h)
                · have h9 := (fun q => Or.imp of_decide_eq_false (fun q => of_decide_eq_true (bf_not q)) (bf_and q)) h9b
                  refine jc_skip ?_
                  refine jq_in_normal ?_
                  refine jq_round' ((k + 1), v1, (acc ++ [(unq ((((s.take (s.length - 1)).drop 1).take (k + 1)).drop i)).1]), (f - 1)) (by (try dsimp only); exact (by have := read_at_go (k := k + 1) hinv.2.1 h2 h3 (by rw [hpl]; omega) (pv_unq (fun e => by rcases e with e | e; omega; rw [hpl, drop_getD, (show i + (k + 1 - i) = k + 1 by omega), List.length_drop] at e; exact h9.elim (fun q => q (by omega)) (fun q => e.2 q)) (by rw [drop_get h2]; exact h4) (by rw [← hst]; simpa using h8)) hinv.2.2.1; rw [← hst] at this; exact ⟨by omega, this.1, this.2, by simp only [List.length_append, List.length_cons, List.length_nil]; omega⟩)) (by (try dsimp only); exact (by omega)) ⟨rfl, rfl, rfl, trivial⟩ (fun _ h => h)
        · have h4 := of_decide_eq_false h4b
          refine jc_seq ?_
          refine jc_block ?_
          refine jc_loop (fun (k : Nat) => [(0, str ((s.take (s.length - 1)).drop 1)), (4, w), (5, .int .i64 ((k : Nat) : Int)), (6, .int .i64 ((i : Nat) : Int))]) (fun (k : Nat) => [.row (w) 9 .str (acc)]) (fun (k : Nat) => i ≤ k ∧ k ≤ ((s.take (s.length - 1)).drop 1).length ∧ ((((s.take (s.length - 1)).drop 1).take k).drop i).all bareB = true) (fun (k : Nat) => ((s.take (s.length - 1)).drop 1).length - k) i (⟨Nat.le_refl _, by omega, by rw [List.drop_eq_nil_of_le (by rw [List.length_take]; omega)]; rfl⟩) (⟨rfl, rfl, rfl, rfl, trivial⟩) (fun _ h => h) (fun k hink => ?_)
          refine jc_seq ?_
          refine jc_seq ?_
          refine jc_region ?_
          refine jo_pure rfl (pr_move rfl) ?_
          refine jo_pure rfl (pr_move rfl) ?_
          refine jo_pure rfl (pr_slen rfl Tryz.underlying9) ?_
          refine jo_pure rfl (pr_lssN (m := k) (n := ((s.take (s.length - 1)).drop 1).length) rfl rfl) ?_
          refine jo_pure rfl (pr_move rfl) ?_
          refine jo_gpure (j := 4) (want := true) rfl rfl rfl rfl (fun hg => pr_move rfl) ?_
          refine jo_gpure (j := 4) (want := true) rfl rfl rfl rfl (fun hg => pr_move rfl) ?_
          refine jo_gpure (j := 4) (want := true) rfl rfl rfl rfl (fun hg => pr_sindex (i := k) (evg rfl hg) (evg rfl hg) Tryz.underlying9 (by first | omega | (simp only [Bool.or_eq_false_iff, Bool.and_eq_true, beq_iff_eq, decide_eq_true_eq, decide_eq_false_iff_not, Bool.not_eq_true', Bool.not_eq_false'] at hg; omega) | (simp at hg; omega))) ?_
          refine jo_gcall (j := 4) (want := true) rfl rfl rfl cal_89 (fun hg => c_ref10_plain (((s.take (s.length - 1)).drop 1).getD k 0)) (fun hg => ⟨evg rfl hg, trivial⟩) rfl (fun _ => trivial) ?_
          refine jo_pure rfl (pr_pick_and rfl rfl rfl) ?_
          refine jo_nil ?_
          refine jq_then ?_
          refine jc_cond rfl (fun h10b => ?_) (fun h10b => ?_)
          · have h10 := (fun q => And.imp of_decide_eq_true id (bt_and q)) h10b
            refine jc_skip ?_
            refine jq_then ?_
            refine jc_block ?_
            refine jc_region ?_
            refine jo_pure rfl (pr_move rfl) ?_
            refine jo_pure rfl (pr_addN (m := k) (n := 1) rfl rfl (by omega)) ?_
            refine jo_pure rfl (pr_assign rfl) ?_
            refine jo_nil ?_
            refine jq_in_normal ?_
            refine jq_round' (k + 1) (by (try dsimp only); exact (⟨by omega, by omega, bare_go hink.1 h10.1 h10.2 hink.2.2⟩)) (by (try dsimp only); exact (by omega)) ⟨rfl, rfl, rfl, rfl, trivial⟩ (fun _ h => h)
          · have h10 := (fun q => Or.imp of_decide_eq_false id (bf_and q)) h10b
            have hpl : pieceLen (((s.take (s.length - 1)).drop 1).drop i) = k - i := by rw [pl_bare (by rw [drop_get h2]; exact h4), bare_at h2 hink.1 hink.2.2 h10 hink.2.1]
            have hst : (((s.take (s.length - 1)).drop 1).take k).drop i = (((s.take (s.length - 1)).drop 1).drop i).take (pieceLen (((s.take (s.length - 1)).drop 1).drop i)) := by rw [hpl]; exact sl_take (by omega)
            refine jc_exit ?_
            refine jq_then_exit ?_
            refine jq_then_exit ?_
            refine jq_in_hit ?_
            refine jq_then ?_
            refine jc_seq ?_
            refine jc_seq ?_
            refine jc_region ?_
            refine jo_pure rfl (pr_move rfl) ?_
            refine jo_pure rfl (pr_move rfl) ?_
            refine jo_pure rfl (pr_eqlN (m := k) (n := i) rfl rfl) ?_
            refine jo_nil ?_
            refine jq_then ?_
            refine jc_cond rfl (fun h11b => ?_) (fun h11b => ?_)
            · have h11 := of_decide_eq_true h11b
              refine jc_seq ?_
              refine jc_region ?_
              refine jo_pure rfl (pr_assign rfl) ?_
              refine jo_pure rfl (pr_assign rfl) ?_
              refine jo_nil ?_
              refine jq_then ?_
              refine jc_ret ?_
              refine jq_then_ret ?_
              refine jq_then_ret ?_
              refine jq_in_ret ?_
              refine jq_then_ret ?_
              refine jq_in_ret ?_
              refine jq_then_ret ?_
              refine j_nil_imm .str ?_
              refine j_pull1 ?_
              refine j_drop ?_
              exact jq_rets (rs := [.tmp 2, .tmp 3]) (vs := [.slice none 0 0, .bool (false)]) rfl (.slice none 0 0) ⟨resV_tmp rfl, resV_tmp rfl, trivial⟩ rfl (show (.tuple #[(.slice none 0 0), .bool ((readF s).2)] : Value) = (.tuple #[.slice none 0 0, .bool (false)]) from by rw [read_yes hs0 (read_at_bad hinv.2.1 h2 h3 (pv_bad (.inl (by rw [hpl]; omega))) hinv.2.2.1)] <;> rfl) (fun _ h => by rw [read_yes hs0 (read_at_bad hinv.2.1 h2 h3 (pv_bad (.inl (by rw [hpl]; omega))) hinv.2.2.1)]; exact h)
            · have h11 := of_decide_eq_false h11b
              refine jc_skip ?_
              refine jq_then ?_
              refine jc_region ?_
              refine jo_pure rfl (pr_move rfl) ?_
              refine jo_pure rfl (pr_move rfl) ?_
              refine jo_pure rfl (pr_move rfl) ?_
              refine jo_pure rfl (pr_move rfl) ?_
              refine jo_pure rfl (pr_sslice (i := i) (j := k) rfl rfl rfl Tryz.underlying9 (by omega) (by omega)) ?_
              refine jo_buildSlice (t := .str) [(((s.take (s.length - 1)).drop 1).take k).drop i] [str ((((s.take (s.length - 1)).drop 1).take k).drop i)] (fun a hf => by simp only [List.zipIdx_cons, List.zipIdx_nil, List.map_toArray, List.map_cons, List.map_nil, hf.ev (show ev _ (.tmp 104) = some (str ((((s.take (s.length - 1)).drop 1).take k).drop i)) from rfl)] <;> rfl) rfl Tryz.underlying45 ty_9 rfl rfl rfl rfl rfl (fun g2 => ?_)
              refine j_pull1 ?_
              refine jo_append rfl rfl Tryz.underlying45 ty_9 rfl (by simp only [List.length_append, List.length_cons, List.length_nil, maxLen]; omega) (by simp only [List.length_append, List.length_cons, List.length_nil]; omega) rfl (fun v2 => ?_)
              refine jo_pure rfl (pr_assign rfl) ?_
              refine jo_nil ?_
              refine jq_then ?_
              refine jc_seq ?_
              refine jc_region ?_
              refine jo_pure rfl (pr_move rfl) ?_
              refine jo_pure rfl (pr_move rfl) ?_
              refine jo_pure rfl (pr_slen rfl Tryz.underlying9) ?_
              refine jo_pure rfl (pr_lssN (m := k) (n := ((s.take (s.length - 1)).drop 1).length) rfl rfl) ?_
              refine jo_pure rfl (pr_move rfl) ?_
              refine jo_gpure (j := 4) (want := true) rfl rfl rfl rfl (fun hg => pr_move rfl) ?_
              refine jo_gpure (j := 4) (want := true) rfl rfl rfl rfl (fun hg => pr_move rfl) ?_
              refine jo_gpure (j := 4) (want := true) rfl rfl rfl rfl (fun hg => pr_sindex (i := k) (evg rfl hg) (evg rfl hg) Tryz.underlying9 (by first | omega | (simp only [Bool.or_eq_false_iff, Bool.and_eq_true, beq_iff_eq, decide_eq_true_eq, decide_eq_false_iff_not, Bool.not_eq_true', Bool.not_eq_false'] at hg; omega) | (simp at hg; omega))) ?_
              refine jo_gpure (j := 4) (want := true) rfl rfl rfl rfl (fun hg => pr_bneq (n := 32) (evg rfl hg) rfl) ?_
              refine jo_pure rfl (pr_pick_and rfl rfl rfl) ?_
              refine jo_nil ?_
              refine jq_then ?_
              refine jc_cond rfl (fun h12b => ?_) (fun h12b => ?_)
              · have h12 := (fun q => And.imp of_decide_eq_true (fun q => of_decide_eq_false (bt_not q)) (bt_and q)) h12b
                refine jc_seq ?_
                refine jc_region ?_
                refine jo_pure rfl (pr_assign rfl) ?_
                refine jo_pure rfl (pr_assign rfl) ?_
                refine jo_nil ?_
                refine jq_then ?_
                refine jc_ret ?_
                refine jq_in_ret ?_
                refine jq_then_ret ?_
                refine jq_in_ret ?_
                refine jq_then_ret ?_
                refine j_nil_imm .str ?_
                refine j_pull1 ?_
                refine j_drop ?_
                exact jq_rets (rs := [.tmp 2, .tmp 3]) (vs := [.slice none 0 0, .bool (false)]) rfl (.slice none 0 0) ⟨resV_tmp rfl, resV_tmp rfl, trivial⟩ rfl (show (.tuple #[(.slice none 0 0), .bool ((readF s).2)] : Value) = (.tuple #[.slice none 0 0, .bool (false)]) from by rw [read_yes hs0 (read_at_bad hinv.2.1 h2 h3 (pv_bad (.inr ⟨by rw [hpl, List.length_drop]; omega, by rw [hpl, drop_getD, (show i + (k - i) = k by omega)]; exact h12.2⟩)) hinv.2.2.1)] <;> rfl) (fun _ h => by rw [read_yes hs0 (read_at_bad hinv.2.1 h2 h3 (pv_bad (.inr ⟨by rw [hpl, List.length_drop]; omega, by rw [hpl, drop_getD, (show i + (k - i) = k by omega)]; exact h12.2⟩)) hinv.2.2.1)]; exact h)
              · have h12 := (fun q => Or.imp of_decide_eq_false (fun q => of_decide_eq_true (bf_not q)) (bf_and q)) h12b
                refine jc_skip ?_
                refine jq_in_normal ?_
                refine jq_round' (k, v2, (acc ++ [(((s.take (s.length - 1)).drop 1).take k).drop i]), (f - 1)) (by (try dsimp only); exact (by have := read_at_go (k := k) hinv.2.1 h2 h3 (by rw [hpl]; omega) (pv_bare (fun e => by rcases e with e | e; omega; rw [hpl, drop_getD, (show i + (k - i) = k by omega), List.length_drop] at e; exact h12.elim (fun q => q (by omega)) (fun q => e.2 q)) (by rw [drop_get h2]; exact h4)) hinv.2.2.1; rw [← hst] at this; exact ⟨by omega, this.1, this.2, by simp only [List.length_append, List.length_cons, List.length_nil]; omega⟩)) (by (try dsimp only); exact (by omega)) ⟨rfl, rfl, rfl, trivial⟩ (fun _ h => h)
    · have h2 := of_decide_eq_false h2b
      refine jc_exit ?_
      refine jq_then_exit ?_
      refine jq_then_exit ?_
      refine jq_in_hit ?_
      refine jq_then ?_
      refine jc_seq ?_
      refine jc_region ?_
      refine jo_pure rfl (pr_move rfl) ?_
      refine jo_pure rfl (pr_assign rfl) ?_
      refine jo_pure rfl (pr_assign rfl) ?_
      refine jo_nil ?_
      refine jq_then ?_
      refine jc_ret ?_
      refine j_pub_row ?_
      exact jq_rets (rs := [.tmp 2, .tmp 3]) (vs := [w, .bool (true)]) rfl w ⟨resV_tmp rfl, resV_tmp rfl, trivial⟩ rfl (show (.tuple #[w, .bool ((readF s).2)] : Value) = (.tuple #[w, .bool (true)]) from by rw [read_yes hs0 (read_at_end hinv.2.1 (by omega) hinv.2.2.1)] <;> rfl) (fun _ h => by rw [read_yes hs0 (read_at_end hinv.2.1 (by omega) hinv.2.2.1)]; exact h)

theorem c_group_plain (s : List UInt8) (hs : s.length ≤ 1000000) : Con Tryz.prog 95 #[str (s)] [] (fun _ : Unit => .bool (plainB s)) (fun _ => []) := by
  refine con_of_J (args := [str (s)]) (n := 29) Tryz.func95 rfl (Nat.le_of_ble_eq_true rfl) rfl (fun w0 I0 m0 => ?_)
  show J _ [(0, str (s))] [] _
  refine jc_seq ?_
  refine jc_region ?_
  refine jo_pure rfl (pr_assign rfl) ?_
  refine jo_nil ?_
  refine jq_then ?_
  refine jc_seq ?_
  refine jc_seq ?_
  refine jc_region ?_
  refine jo_pure rfl (pr_move rfl) ?_
  refine jo_pure rfl (pr_slen rfl Tryz.underlying9) ?_
  refine jo_pure rfl (pr_move rfl) ?_
  refine jo_nil ?_
  refine jq_then ?_
  refine jc_block ?_
  refine jc_loop (fun (i : Nat) => [(0, str (s)), (5, .int .i64 ((s.length : Nat) : Int)), (6, .int .i64 ((i : Nat) : Int))]) (fun (i : Nat) => []) (fun (i : Nat) => i ≤ s.length ∧ (s.take i).all (fun c => visB c && bareB c) = true) (fun (i : Nat) => s.length - i) 0 (⟨Nat.zero_le _, rfl⟩) (⟨rfl, rfl, rfl, trivial⟩) (fun _ h => h) (fun i hinv => ?_)
  refine jc_seq ?_
  refine jc_region ?_
  refine jo_pure rfl (pr_lssN (m := i) (n := s.length) rfl rfl) ?_
  refine jo_nil ?_
  refine jq_then ?_
  refine jc_seq ?_
  refine jc_cond rfl (fun h1b => ?_) (fun h1b => ?_)
  · have h1 := of_decide_eq_true h1b
    refine jc_skip ?_
    refine jq_then ?_
    refine jc_seq ?_
    refine jc_block ?_
    refine jc_seq ?_
    refine jc_region ?_
    refine jo_pure rfl (pr_move rfl) ?_
    refine jo_pure rfl (pr_assign rfl) ?_
    refine jo_nil ?_
    refine jq_then ?_
    refine jc_seq ?_
    refine jc_region ?_
    refine jo_pure rfl (pr_move rfl) ?_
    refine jo_pure rfl (pr_move rfl) ?_
    refine jo_pure rfl (pr_sindex (i := i) rfl rfl Tryz.underlying9 (by first | omega | (simp at hg; omega))) ?_
    refine jo_pure rfl (pr_blss (n := 33) rfl rfl) ?_
    refine jo_pure rfl (pr_move rfl) ?_
    refine jo_gpure (j := 4) (want := false) rfl rfl rfl rfl (fun hg => pr_move rfl) ?_
    refine jo_gpure (j := 4) (want := false) rfl rfl rfl rfl (fun hg => pr_move rfl) ?_
    refine jo_gpure (j := 4) (want := false) rfl rfl rfl rfl (fun hg => pr_sindex (i := i) (evg rfl hg) (evg rfl hg) Tryz.underlying9 (by first | omega | (simp at hg; omega))) ?_
    refine jo_gpure (j := 4) (want := false) rfl rfl rfl rfl (fun hg => pr_bgtr (n := 126) (evg rfl hg) rfl) ?_
    refine jo_pure rfl (pr_pick_or rfl rfl rfl) ?_
    refine jo_pure rfl (pr_move rfl) ?_
    refine jo_gpure (j := 10) (want := false) rfl rfl rfl rfl (fun hg => pr_move rfl) ?_
    refine jo_gpure (j := 10) (want := false) rfl rfl rfl rfl (fun hg => pr_move rfl) ?_
    refine jo_gpure (j := 10) (want := false) rfl rfl rfl rfl (fun hg => pr_sindex (i := i) (evg rfl hg) (evg rfl hg) Tryz.underlying9 (by first | omega | (simp at hg; omega))) ?_
    refine jo_gcall (j := 10) (want := false) rfl rfl rfl cal_119 (fun hg => c_strings_IndexByte [40, 41, 44, 34] (s.getD i 0)) (fun hg => ⟨rfl, evg rfl hg, trivial⟩) rfl (fun _ => trivial) ?_
    refine jo_gpure (j := 10) (want := false) rfl rfl rfl rfl (fun hg => pr_geq (n := 0) (evg rfl hg) rfl) ?_
    refine jo_pure rfl (pr_pick_or rfl rfl rfl) ?_
    refine jo_nil ?_
    refine jq_then ?_
    refine jc_cond rfl (fun h2b => ?_) (fun h2b => ?_)
    · have h2 := (fun q => Or.imp (fun q => Or.imp of_decide_eq_true of_decide_eq_true (bt_or q)) of_decide_eq_true (bt_or q)) h2b
      refine jc_seq ?_
      refine jc_region ?_
      refine jo_pure rfl (pr_assign rfl) ?_
      refine jo_nil ?_
      refine jq_then ?_
      refine jc_ret ?_
      refine jq_in_ret ?_
      refine jq_then_ret ?_
      refine jq_then_ret ?_
      refine jq_in_ret ?_
      refine jq_then_ret ?_
      exact jq_ret1 rfl () rfl (show (.bool (plainB s) : Value) = (.bool (false)) from congrArg Value.bool (by have := h2b; rw [plain_byte] at this; rw [plainB, all_miss (dd := 0) h1 (bt_not this)]; rfl)) (fun _ h => h)
    · have h2 := (fun q => And.imp (fun q => And.imp of_decide_eq_false of_decide_eq_false (bf_or q)) of_decide_eq_false (bf_or q)) h2b
      refine jc_skip ?_
      refine jq_in_normal ?_
      refine jq_then ?_
      refine jc_region ?_
      refine jo_pure rfl (pr_addN (m := i) (n := 1) rfl rfl (by omega)) ?_
      refine jo_pure rfl (pr_move rfl) ?_
      refine jo_nil ?_
      refine jq_round' (i + 1) (by (try dsimp only); exact (⟨by omega, all_step (dd := 0) h1 hinv.2 (by have := h2b; rw [plain_byte] at this; exact bf_not this)⟩)) (by (try dsimp only); exact (by omega)) ⟨rfl, rfl, rfl, trivial⟩ (fun _ h => h)
  · have h1 := of_decide_eq_false h1b
    refine jc_exit ?_
    refine jq_then_exit ?_
    refine jq_then_exit ?_
    refine jq_in_hit ?_
    refine jq_then ?_
    refine jc_seq ?_
    refine jc_region ?_
    refine jo_pure rfl (pr_move rfl) ?_
    refine jo_pure rfl (pr_sneq rfl rfl) ?_
    refine jo_pure rfl (pr_assign rfl) ?_
    refine jo_nil ?_
    refine jq_then ?_
    refine jc_ret ?_
    exact jq_ret1 rfl () rfl (show (.bool (plainB s) : Value) = (.bool ((!decide ((s : List UInt8) = [])))) from congrArg Value.bool (by rw [plainB, all_end (by omega) hinv.2]; rfl)) (fun _ h => h)

theorem c_ref01_Visible (s : List UInt8) (hs : s.length ≤ 1000000) : Con Tryz.prog 106 #[str (s)] [] (fun _ : Unit => .bool (s.all visB && !decide (s = []))) (fun _ => []) := by
  refine con_of_J (args := [str (s)]) (n := 22) Tryz.func106 rfl (Nat.le_of_ble_eq_true rfl) rfl (fun w0 I0 m0 => ?_)
  show J _ [(0, str (s))] [] _
  refine jc_seq ?_
  refine jc_region ?_
  refine jo_pure rfl (pr_assign rfl) ?_
  refine jo_nil ?_
  refine jq_then ?_
  refine jc_seq ?_
  refine jc_seq ?_
  refine jc_region ?_
  refine jo_pure rfl (pr_assign rfl) ?_
  refine jo_nil ?_
  refine jq_then ?_
  refine jc_block ?_
  refine jc_loop (fun (i : Nat) => [(0, str (s)), (3, .int .i64 ((i : Nat) : Int))]) (fun (i : Nat) => []) (fun (i : Nat) => i ≤ s.length ∧ (s.take i).all visB = true) (fun (i : Nat) => s.length - i) 0 (⟨Nat.zero_le _, rfl⟩) (⟨rfl, rfl, trivial⟩) (fun _ h => h) (fun i hinv => ?_)
  refine jc_seq ?_
  refine jc_seq ?_
  refine jc_region ?_
  refine jo_pure rfl (pr_move rfl) ?_
  refine jo_pure rfl (pr_move rfl) ?_
  refine jo_pure rfl (pr_slen rfl Tryz.underlying9) ?_
  refine jo_pure rfl (pr_lssN (m := i) (n := s.length) rfl rfl) ?_
  refine jo_nil ?_
  refine jq_then ?_
  refine jc_cond rfl (fun h1b => ?_) (fun h1b => ?_)
  · have h1 := of_decide_eq_true h1b
    refine jc_skip ?_
    refine jq_then ?_
    refine jc_seq ?_
    refine jc_block ?_
    refine jc_seq ?_
    refine jc_region ?_
    refine jo_pure rfl (pr_move rfl) ?_
    refine jo_pure rfl (pr_move rfl) ?_
    refine jo_pure rfl (pr_sindex (i := i) rfl rfl Tryz.underlying9 (by first | omega | (simp at hg; omega))) ?_
    refine jo_pure rfl (pr_blss (n := 33) rfl rfl) ?_
    refine jo_pure rfl (pr_move rfl) ?_
    refine jo_gpure (j := 4) (want := false) rfl rfl rfl rfl (fun hg => pr_move rfl) ?_
    refine jo_gpure (j := 4) (want := false) rfl rfl rfl rfl (fun hg => pr_move rfl) ?_
    refine jo_gpure (j := 4) (want := false) rfl rfl rfl rfl (fun hg => pr_sindex (i := i) (evg rfl hg) (evg rfl hg) Tryz.underlying9 (by first | omega | (simp at hg; omega))) ?_
    refine jo_gpure (j := 4) (want := false) rfl rfl rfl rfl (fun hg => pr_bgtr (n := 126) (evg rfl hg) rfl) ?_
    refine jo_pure rfl (pr_pick_or rfl rfl rfl) ?_
    refine jo_nil ?_
    refine jq_then ?_
    refine jc_cond rfl (fun h2b => ?_) (fun h2b => ?_)
    · have h2 := (fun q => Or.imp of_decide_eq_true of_decide_eq_true (bt_or q)) h2b
      refine jc_seq ?_
      refine jc_region ?_
      refine jo_pure rfl (pr_assign rfl) ?_
      refine jo_nil ?_
      refine jq_then ?_
      refine jc_ret ?_
      refine jq_in_ret ?_
      refine jq_then_ret ?_
      refine jq_then_ret ?_
      refine jq_in_ret ?_
      refine jq_then_ret ?_
      exact jq_ret1 rfl () rfl (show (.bool (s.all visB && !decide (s = [])) : Value) = (.bool (false)) from congrArg Value.bool (by have := h2b; rw [vis_alt] at this; rw [all_miss (dd := 0) h1 (by simpa using this)]; rfl)) (fun _ h => h)
    · have h2 := (fun q => And.imp of_decide_eq_false of_decide_eq_false (bf_or q)) h2b
      refine jc_skip ?_
      refine jq_in_normal ?_
      refine jq_then ?_
      refine jc_region ?_
      refine jo_pure rfl (pr_move rfl) ?_
      refine jo_pure rfl (pr_addN (m := i) (n := 1) rfl rfl (by omega)) ?_
      refine jo_pure rfl (pr_assign rfl) ?_
      refine jo_nil ?_
      refine jq_round' (i + 1) (by (try dsimp only); exact (⟨by omega, all_step (dd := 0) h1 hinv.2 (by have := h2b; rw [vis_alt] at this; simpa using this)⟩)) (by (try dsimp only); exact (by omega)) ⟨rfl, rfl, trivial⟩ (fun _ h => h)
  · have h1 := of_decide_eq_false h1b
    refine jc_exit ?_
    refine jq_then_exit ?_
    refine jq_then_exit ?_
    refine jq_in_hit ?_
    refine jq_then ?_
    refine jc_seq ?_
    refine jc_region ?_
    refine jo_pure rfl (pr_move rfl) ?_
    refine jo_pure rfl (pr_sneq rfl rfl) ?_
    refine jo_pure rfl (pr_assign rfl) ?_
    refine jo_nil ?_
    refine jq_then ?_
    refine jc_ret ?_
    exact jq_ret1 rfl () rfl (show (.bool (s.all visB && !decide (s = [])) : Value) = (.bool ((!decide ((s : List UInt8) = [])))) from congrArg Value.bool (by rw [all_end (by omega) hinv.2]; rfl)) (fun _ h => h)

theorem c_group_Write (l : List (List UInt8)) (lv : Value) (hl : l.length ≤ 1000) (hm : ∀ x ∈ l, x.length ≤ 9000) : Con Tryz.prog 62 #[lv] [.imm (.list .str) (lv) (l)] (fun _ : Unit => str (writeF l)) (fun _ => []) := by
  refine con_of_J (args := [lv]) (n := 26) Tryz.func62 rfl (Nat.le_of_ble_eq_true rfl) rfl (fun w0 I0 m0 => ?_)
  show J _ [(0, lv)] [.imm (.list .str) (lv) (l)] _
  refine jc_seq ?_
  refine jc_region ?_
  refine jo_pure rfl (pr_assign rfl) ?_
  refine jo_nil ?_
  refine jq_then ?_
  refine jc_seq ?_
  refine jc_region ?_
  refine jo_pure rfl (pr_assign rfl) ?_
  refine jo_nil ?_
  refine jq_then ?_
  refine jc_seq ?_
  refine jc_seq ?_
  refine jc_region ?_
  refine jo_pure rfl (pr_move rfl) ?_
  refine jo_pure rfl (pr_len_imm rfl (.head _) Tryz.underlying45) ?_
  refine jo_pure rfl (pr_move rfl) ?_
  refine jo_nil ?_
  refine jq_then ?_
  refine jc_block ?_
  refine j_nil_row 9 .str ?_
  refine jc_loop3 (fun (i : Nat) (w : Value) (acc : List (List UInt8)) => [(3, w), (6, lv), (7, .int .i64 ((l.length : Nat) : Int)), (8, .int .i64 ((i : Nat) : Int))]) (fun (i : Nat) (w : Value) (acc : List (List UInt8)) => [.row (w) 9 .str (acc), .imm (.list .str) (lv) (l)]) (fun (i : Nat) (w : Value) (acc : List (List UInt8)) => i ≤ l.length ∧ acc.length ≤ i ∧ acc = (l.take i).map writeV) (fun (i : Nat) (w : Value) (acc : List (List UInt8)) => l.length - i) 0 (.slice none 0 0) [] (⟨Nat.zero_le _, Nat.le_refl _, rfl⟩) (⟨rfl, rfl, rfl, rfl, trivial⟩) (fun _ h => h) (fun i w acc hinv => ?_)
  have hjm : ∀ x ∈ acc, x.length ≤ 20000 := fun x hx => by rw [hinv.2.2] at hx; obtain ⟨y, hy, rfl⟩ := List.mem_map.1 hx; have := writeV_length y; have := hm y (List.mem_of_mem_take hy); omega
  refine jc_seq ?_
  refine jc_region ?_
  refine jo_pure rfl (pr_lssN (m := i) (n := l.length) rfl rfl) ?_
  refine jo_nil ?_
  refine jq_then ?_
  refine jc_seq ?_
  refine jc_cond rfl (fun h1b => ?_) (fun h1b => ?_)
  · have h1 := of_decide_eq_true h1b
    refine jc_skip ?_
    refine jq_then ?_
    refine jc_seq ?_
    refine jc_block ?_
    refine jc_seq ?_
    refine jc_region ?_
    refine jo_pure rfl (pr_idx_imm (i := i) rfl (.tail _ (.head _)) rfl Tryz.underlying45 ty_9 (by omega)) ?_
    refine jo_pure rfl (pr_load_elem_imm (i := i) (str (l.getD i [])) rfl (.tail _ (.head _)) ty_9 rfl rfl (by omega) rfl) ?_
    refine jo_pure rfl (pr_assign rfl) ?_
    refine jo_nil ?_
    refine jq_then ?_
    refine jc_seq ?_
    refine jc_seq ?_
    refine jc_region ?_
    refine jo_pure rfl (pr_move rfl) ?_
    refine jo_callp cal_95 (c_group_plain (l.getD i []) (by first | omega | rfl | (simp only [List.length_cons, List.length_nil]; omega) | (have := getD_len (i := i) hm; omega))) ⟨rfl, trivial⟩ rfl (trivial) (fun _ => ?_)
    refine jo_pure rfl (pr_not rfl) ?_
    refine jo_nil ?_
    refine jq_then ?_
    refine jc_cond rfl (fun h2b => ?_) (fun h2b => ?_)
    · have h2 := (fun q => id (bt_not q)) h2b
      refine jc_region ?_
      refine jo_pure rfl (pr_move rfl) ?_
      refine jo_callp cal_96 (c_ascii_Quote (l.getD i []) (by first | omega | rfl | (simp only [List.length_cons, List.length_nil]; omega) | (have := getD_len (i := i) hm; omega))) ⟨rfl, trivial⟩ rfl (trivial) (fun _ => ?_)
      refine jo_pure rfl (pr_assign rfl) ?_
      refine jo_nil ?_
      refine jq_then ?_
      refine jc_region ?_
      refine jo_pure rfl (pr_move rfl) ?_
      refine jo_pure rfl (pr_move rfl) ?_
      refine jo_buildSlice (t := .str) [quote (l.getD i [])] [str (quote (l.getD i []))] (fun a hf => by simp only [List.zipIdx_cons, List.zipIdx_nil, List.map_toArray, List.map_cons, List.map_nil, hf.ev (show ev _ (.tmp 18) = some (str (quote (l.getD i []))) from rfl)] <;> rfl) rfl Tryz.underlying45 ty_9 rfl rfl rfl rfl rfl (fun g1 => ?_)
      refine j_pull1 ?_
      refine jo_append rfl rfl Tryz.underlying45 ty_9 rfl (by simp only [List.length_append, List.length_cons, List.length_nil, maxLen]; omega) (by simp only [List.length_append, List.length_cons, List.length_nil]; omega) rfl (fun v1 => ?_)
      refine jo_pure rfl (pr_assign rfl) ?_
      refine jo_nil ?_
      refine jq_in_normal ?_
      refine jq_then ?_
      refine jc_region ?_
      refine jo_pure rfl (pr_addN (m := i) (n := 1) rfl rfl (by omega)) ?_
      refine jo_pure rfl (pr_move rfl) ?_
      refine jo_nil ?_
      refine j_pull1 ?_
      refine j_pull1 ?_
      refine jq_round' ((i + 1), v1, (acc ++ [quote (l.getD i [])])) (by (try dsimp only); exact (⟨by omega, by simp; omega, by rw [mapS_step h1, hinv.2.2, writeV, if_neg (by simpa using h2b)]⟩)) (by (try dsimp only); exact (by omega)) ⟨rfl, rfl, rfl, rfl, trivial⟩ (fun _ h => h)
    · have h2 := (fun q => id (bf_not q)) h2b
      refine jc_skip ?_
      refine jq_then ?_
      refine jc_region ?_
      refine jo_pure rfl (pr_move rfl) ?_
      refine jo_pure rfl (pr_move rfl) ?_
      refine jo_buildSlice (t := .str) [l.getD i []] [str (l.getD i [])] (fun a hf => by simp only [List.zipIdx_cons, List.zipIdx_nil, List.map_toArray, List.map_cons, List.map_nil, hf.ev (show ev _ (.tmp 18) = some (str (l.getD i [])) from rfl)] <;> rfl) rfl Tryz.underlying45 ty_9 rfl rfl rfl rfl rfl (fun g2 => ?_)
      refine j_pull1 ?_
      refine jo_append rfl rfl Tryz.underlying45 ty_9 rfl (by simp only [List.length_append, List.length_cons, List.length_nil, maxLen]; omega) (by simp only [List.length_append, List.length_cons, List.length_nil]; omega) rfl (fun v2 => ?_)
      refine jo_pure rfl (pr_assign rfl) ?_
      refine jo_nil ?_
      refine jq_in_normal ?_
      refine jq_then ?_
      refine jc_region ?_
      refine jo_pure rfl (pr_addN (m := i) (n := 1) rfl rfl (by omega)) ?_
      refine jo_pure rfl (pr_move rfl) ?_
      refine jo_nil ?_
      refine j_pull1 ?_
      refine j_pull1 ?_
      refine jq_round' ((i + 1), v2, (acc ++ [l.getD i []])) (by (try dsimp only); exact (⟨by omega, by simp; omega, by rw [mapS_step h1, hinv.2.2, writeV, if_pos (by simpa using h2b)]⟩)) (by (try dsimp only); exact (by omega)) ⟨rfl, rfl, rfl, rfl, trivial⟩ (fun _ h => h)
  · have h1 := of_decide_eq_false h1b
    refine jc_exit ?_
    refine jq_then_exit ?_
    refine jq_then_exit ?_
    refine jq_in_hit ?_
    refine jq_then ?_
    refine jc_seq ?_
    refine jc_region ?_
    refine jo_pure rfl (pr_move rfl) ?_
    refine j_pub_row ?_
    refine jo_callp cal_63 (c_strings_Join acc w [32] (by first | omega | rfl | (simp only [List.length_cons, List.length_nil]; omega) | (have := getD_len (i := i) hm; omega)) (hjm) (by first | omega | rfl | (simp only [List.length_cons, List.length_nil]; omega) | (have := getD_len (i := i) hm; omega)) (by first | omega | rfl | (simp only [List.length_cons, List.length_nil]; omega) | (have := getD_len (i := i) hm; omega))) ⟨rfl, rfl, trivial⟩ rfl (⟨⟨rfl, .head _⟩, trivial⟩) (fun _ => ?_)
    refine jo_pure rfl (pr_sadd rfl rfl (by have := joinS_len (k := 1) (sep := [32]) (Nat.le_refl _) hjm; simp only [List.length_append, List.length_cons, List.length_nil]; have := Nat.mul_le_mul (show acc.length ≤ 1000 by omega) (Nat.le_refl (20000 + 1)); omega)) ?_
    refine jo_pure rfl (pr_sadd rfl rfl (by have := joinS_len (k := 1) (sep := [32]) (Nat.le_refl _) hjm; simp only [List.length_append, List.length_cons, List.length_nil]; have := Nat.mul_le_mul (show acc.length ≤ 1000 by omega) (Nat.le_refl (20000 + 1)); omega)) ?_
    refine jo_pure rfl (pr_assign rfl) ?_
    refine jo_nil ?_
    refine jq_then ?_
    refine jc_ret ?_
    refine j_drop ?_
    refine j_drop ?_
    exact jq_ret1 rfl () rfl (show (str (writeF l) : Value) = (str (([40] ++ (joinS [32] acc)) ++ [41])) from congrArg str (by rw [hinv.2.2, take_over (s := l) (i := i) (by omega)]; rfl)) (fun _ h => h)

theorem c_ref10_written (l : List (List UInt8)) (lv : Value) (hl : l.length ≤ 1000) (hm : ∀ x ∈ l, x.length ≤ 9000) : Con Tryz.prog 73 #[lv] [.imm (.list .str) (lv) (l)] (fun _ : Unit => str (writeF l)) (fun _ => []) := by
  refine con_of_J (args := [lv]) (n := 57) Tryz.func73 rfl (Nat.le_of_ble_eq_true rfl) rfl (fun w0 I0 m0 => ?_)
  show J _ [(0, lv)] [.imm (.list .str) (lv) (l)] _
  refine jc_seq ?_
  refine jc_region ?_
  refine jo_pure rfl (pr_assign rfl) ?_
  refine jo_nil ?_
  refine jq_then ?_
  refine jc_seq ?_
  refine jc_region ?_
  refine jo_pure rfl (pr_assign rfl) ?_
  refine jo_nil ?_
  refine jq_then ?_
  refine jc_seq ?_
  refine jc_seq ?_
  refine jc_region ?_
  refine jo_pure rfl (pr_assign rfl) ?_
  refine jo_nil ?_
  refine jq_then ?_
  refine jc_block ?_
  refine jc_loop2 (fun (i : Nat) (acc : List UInt8) => [(0, lv), (3, str (acc)), (4, .int .i64 ((i : Nat) : Int))]) (fun (i : Nat) (acc : List UInt8) => [.imm (.list .str) (lv) (l)]) (fun (i : Nat) (acc : List UInt8) => i ≤ l.length ∧ acc.length ≤ 1 + i * 18003 ∧ acc = [40] ++ joinS [32] ((l.take i).map writeV)) (fun (i : Nat) (acc : List UInt8) => l.length - i) 0 [40] (⟨Nat.zero_le _, by simp, rfl⟩) (⟨rfl, rfl, rfl, trivial⟩) (fun _ h => h) (fun i acc hinv => ?_)
  refine jc_seq ?_
  refine jc_seq ?_
  refine jc_region ?_
  refine jo_pure rfl (pr_move rfl) ?_
  refine jo_pure rfl (pr_move rfl) ?_
  refine jo_pure rfl (pr_len_imm rfl (.head _) Tryz.underlying45) ?_
  refine jo_pure rfl (pr_lssN (m := i) (n := l.length) rfl rfl) ?_
  refine jo_nil ?_
  refine jq_then ?_
  refine jc_cond rfl (fun h1b => ?_) (fun h1b => ?_)
  · have h1 := of_decide_eq_true h1b
    refine jc_skip ?_
    refine jq_then ?_
    refine jc_seq ?_
    refine jc_block ?_
    refine jc_join1 (fun (s2 : List UInt8) => [(0, lv), (3, str (s2)), (4, .int .i64 ((i : Nat) : Int))]) (fun (s2 : List UInt8) => [.imm (.list .str) (lv) (l)]) (fun (s2 : List UInt8) => s2 = ([40] ++ joinS [32] ((l.take i).map writeV)) ++ (if 0 < i then [32] else []) ∧ s2.length ≤ 2 + i * 18003) ?_ (fun s2 hj => ?_)
    · skip
      refine jc_seq ?_
      refine jc_region ?_
      refine jo_pure rfl (pr_move rfl) ?_
      refine jo_pure rfl (pr_gtrN (m := i) (n := 0) rfl rfl) ?_
      refine jo_nil ?_
      refine jq_then ?_
      refine jc_cond rfl (fun h2b => ?_) (fun h2b => ?_)
      · have h2 := of_decide_eq_true h2b
        refine jc_region ?_
        refine jo_pure rfl (pr_move rfl) ?_
        refine jo_pure rfl (pr_sadd rfl rfl (by have := getD_len (i := i) hm; have := quote_length (l.getD i []); first | omega | (simp only [List.length_append, List.length_cons, List.length_nil]; omega))) ?_
        refine jo_pure rfl (pr_assign rfl) ?_
        refine jo_nil ?_
        refine jq_join (acc ++ [32]) (by (try dsimp only); exact (⟨by rw [hinv.2.2, if_pos h2], by simp only [List.length_append, List.length_cons, List.length_nil]; omega⟩)) ⟨rfl, rfl, rfl, trivial⟩ (fun _ h => h)
      · have h2 := of_decide_eq_false h2b
        refine jc_skip ?_
        refine jq_join acc (by (try dsimp only); exact (⟨by rw [hinv.2.2, if_neg h2, List.append_nil], by omega⟩)) ⟨rfl, rfl, rfl, trivial⟩ (fun _ h => h)
    · skip
      refine jc_seq ?_
      refine jc_region ?_
      refine jo_pure rfl (pr_move rfl) ?_
      refine jo_pure rfl (pr_move rfl) ?_
      refine jo_pure rfl (pr_idx_imm (i := i) rfl (.head _) rfl Tryz.underlying45 ty_9 (by first | omega | (simp at hg; omega))) ?_
      refine jo_pure rfl (pr_load_elem_imm (i := i) (str (l.getD i [])) rfl (.head _) ty_9 rfl rfl (by first | omega | (simp at hg; omega)) rfl) ?_
      refine jo_callp cal_106 (c_ref01_Visible (l.getD i []) (by have := getD_len (i := i) hm; omega)) ⟨rfl, trivial⟩ rfl (trivial) (fun _ => ?_)
      refine jo_pure rfl (pr_assign rfl) ?_
      refine jo_nil ?_
      refine jq_then ?_
      refine jc_seq ?_
      refine jc_seq ?_
      refine jc_region ?_
      refine jo_pure rfl (pr_assign rfl) ?_
      refine jo_nil ?_
      refine jq_then ?_
      refine jc_block ?_
      refine jc_loop2 (fun (k : Nat) (b : Bool) => [(0, lv), (3, str (s2)), (4, .int .i64 ((i : Nat) : Int)), (5, .bool (b)), (6, .int .i64 ((k : Nat) : Int))]) (fun (k : Nat) (b : Bool) => [.imm (.list .str) (lv) (l)]) (fun (k : Nat) (b : Bool) => k ≤ (l.getD i []).length ∧ b = (((l.getD i []).all visB && !decide ((l.getD i []) = [])) && ((l.getD i []).take k).all bareB)) (fun (k : Nat) (b : Bool) => (l.getD i []).length - k) 0 ((l.getD i []).all visB && !decide ((l.getD i []) = [])) (⟨Nat.zero_le _, by simp⟩) (⟨rfl, rfl, rfl, rfl, rfl, trivial⟩) (fun _ h => h) (fun k b hink => ?_)
      refine jc_seq ?_
      refine jc_seq ?_
      refine jc_region ?_
      refine jo_pure rfl (pr_move rfl) ?_
      refine jo_pure rfl (pr_move rfl) ?_
      refine jo_pure rfl (pr_move rfl) ?_
      refine jo_pure rfl (pr_idx_imm (i := i) rfl (.head _) rfl Tryz.underlying45 ty_9 (by first | omega | (simp at hg; omega))) ?_
      refine jo_pure rfl (pr_load_elem_imm (i := i) (str (l.getD i [])) rfl (.head _) ty_9 rfl rfl (by first | omega | (simp at hg; omega)) rfl) ?_
      refine jo_pure rfl (pr_slen rfl Tryz.underlying9) ?_
      refine jo_pure rfl (pr_lssN (m := k) (n := (l.getD i []).length) rfl rfl) ?_
      refine jo_nil ?_
      refine jq_then ?_
      refine jc_cond rfl (fun h3b => ?_) (fun h3b => ?_)
      · have h3 := of_decide_eq_true h3b
        refine jc_skip ?_
        refine jq_then ?_
        refine jc_seq ?_
        refine jc_block ?_
        refine jc_region ?_
        refine jo_pure rfl (pr_move rfl) ?_
        refine jo_pure rfl (pr_move rfl) ?_
        refine jo_gpure (j := 1) (want := true) rfl rfl rfl rfl (fun hg => pr_move rfl) ?_
        refine jo_gpure (j := 1) (want := true) rfl rfl rfl rfl (fun hg => pr_move rfl) ?_
        refine jo_gpure (j := 1) (want := true) rfl rfl rfl rfl (fun hg => pr_idx_imm (i := i) (evg rfl hg) (.head _) (evg rfl hg) Tryz.underlying45 ty_9 (by first | omega | (simp at hg; omega))) ?_
        refine jo_gpure (j := 1) (want := true) rfl rfl rfl rfl (fun hg => pr_load_elem_imm (i := i) (str (l.getD i [])) (evg rfl hg) (.head _) ty_9 rfl rfl (by first | omega | (simp at hg; omega)) rfl) ?_
        refine jo_gpure (j := 1) (want := true) rfl rfl rfl rfl (fun hg => pr_move rfl) ?_
        refine jo_gpure (j := 1) (want := true) rfl rfl rfl rfl (fun hg => pr_sindex (i := k) (evg rfl hg) (evg rfl hg) Tryz.underlying9 (by first | omega | exact h3 | exact h6)) ?_
        refine jo_gcall (j := 1) (want := true) rfl rfl rfl cal_89 (fun hg => c_ref10_plain ((l.getD i []).getD k 0)) (fun hg => ⟨evg rfl hg, trivial⟩) rfl (fun _ => trivial) ?_
        refine jo_pure rfl (pr_pick_and rfl rfl rfl) ?_
        refine jo_pure rfl (pr_assign rfl) ?_
        refine jo_nil ?_
        refine jq_in_normal ?_
        refine jq_then ?_
        refine jc_region ?_
        refine jo_pure rfl (pr_move rfl) ?_
        refine jo_pure rfl (pr_addN (m := k) (n := 1) rfl rfl (by have := getD_len (i := i) hm; omega)) ?_
        refine jo_pure rfl (pr_assign rfl) ?_
        refine jo_nil ?_
        refine jq_round' ((k + 1), (b && bareB ((l.getD i []).getD k 0))) (by (try dsimp only); exact (⟨by omega, by rw [all_next h3, hink.2]; simp only [Bool.and_assoc]⟩)) (by (try dsimp only); exact (by omega)) ⟨rfl, rfl, rfl, rfl, rfl, trivial⟩ (fun _ h => h)
      · have h3 := of_decide_eq_false h3b
        have hpb : plainB (l.getD i []) = b := by rw [hink.2, take_over (s := (l.getD i [])) (i := k) (by omega), plain_parts]
        refine jc_exit ?_
        refine jq_then_exit ?_
        refine jq_then_exit ?_
        refine jq_in_hit ?_
        refine jq_then ?_
        refine jc_seq ?_
        refine jc_region ?_
        refine jo_pure rfl (pr_move rfl) ?_
        refine jo_nil ?_
        refine jq_then ?_
        refine jc_cond rfl (fun h4b => ?_) (fun h4b => ?_)
        · have h4 := id h4b
          refine jc_region ?_
          refine jo_pure rfl (pr_move rfl) ?_
          refine jo_pure rfl (pr_move rfl) ?_
          refine jo_pure rfl (pr_move rfl) ?_
          refine jo_pure rfl (pr_idx_imm (i := i) rfl (.head _) rfl Tryz.underlying45 ty_9 (by first | omega | (simp at hg; omega))) ?_
          refine jo_pure rfl (pr_load_elem_imm (i := i) (str (l.getD i [])) rfl (.head _) ty_9 rfl rfl (by first | omega | (simp at hg; omega)) rfl) ?_
          refine jo_pure rfl (pr_sadd rfl rfl (by have := getD_len (i := i) hm; have := quote_length (l.getD i []); first | omega | (simp only [List.length_append, List.length_cons, List.length_nil]; omega))) ?_
          refine jo_pure rfl (pr_assign rfl) ?_
          refine jo_nil ?_
          refine jq_in_normal ?_
          refine jq_then ?_
          refine jc_region ?_
          refine jo_pure rfl (pr_move rfl) ?_
          refine jo_pure rfl (pr_addN (m := i) (n := 1) rfl rfl (by have := getD_len (i := i) hm; omega)) ?_
          refine jo_pure rfl (pr_assign rfl) ?_
          refine jo_nil ?_
          refine jq_round' ((i + 1), (s2 ++ (l.getD i []))) (by (try dsimp only); exact (⟨by omega, by have := getD_len (i := i) hm; simp only [List.length_append]; omega, by rw [hj.1]; exact written_step h1 (by rw [writeV, if_pos (hpb.trans h4)])⟩)) (by (try dsimp only); exact (by omega)) ⟨rfl, rfl, rfl, trivial⟩ (fun _ h => h)
        · have h4 := id h4b
          refine jc_region ?_
          refine jo_pure rfl (pr_move rfl) ?_
          refine jo_pure rfl (pr_move rfl) ?_
          refine jo_pure rfl (pr_move rfl) ?_
          refine jo_pure rfl (pr_idx_imm (i := i) rfl (.head _) rfl Tryz.underlying45 ty_9 (by first | omega | (simp at hg; omega))) ?_
          refine jo_pure rfl (pr_load_elem_imm (i := i) (str (l.getD i [])) rfl (.head _) ty_9 rfl rfl (by first | omega | (simp at hg; omega)) rfl) ?_
          refine jo_callp cal_107 (c_ref01_Quote (l.getD i []) (by have := getD_len (i := i) hm; omega)) ⟨rfl, trivial⟩ rfl (trivial) (fun _ => ?_)
          refine jo_pure rfl (pr_sadd rfl rfl (by have := getD_len (i := i) hm; have := quote_length (l.getD i []); first | omega | (simp only [List.length_append, List.length_cons, List.length_nil]; omega))) ?_
          refine jo_pure rfl (pr_assign rfl) ?_
          refine jo_nil ?_
          refine jq_in_normal ?_
          refine jq_then ?_
          refine jc_region ?_
          refine jo_pure rfl (pr_move rfl) ?_
          refine jo_pure rfl (pr_addN (m := i) (n := 1) rfl rfl (by have := getD_len (i := i) hm; omega)) ?_
          refine jo_pure rfl (pr_assign rfl) ?_
          refine jo_nil ?_
          refine jq_round' ((i + 1), (s2 ++ (quote (l.getD i [])))) (by (try dsimp only); exact (⟨by omega, by have := getD_len (i := i) hm; have := quote_length (l.getD i []); simp only [List.length_append]; omega, by rw [hj.1]; exact written_step h1 (by rw [writeV, if_neg (by rw [hpb, h4]; simp)])⟩)) (by (try dsimp only); exact (by omega)) ⟨rfl, rfl, rfl, trivial⟩ (fun _ h => h)
  · have h1 := of_decide_eq_false h1b
    refine jc_exit ?_
    refine jq_then_exit ?_
    refine jq_then_exit ?_
    refine jq_in_hit ?_
    refine jq_then ?_
    refine jc_seq ?_
    refine jc_region ?_
    refine jo_pure rfl (pr_move rfl) ?_
    refine jo_pure rfl (pr_sadd rfl rfl (by have := getD_len (i := i) hm; have := quote_length (l.getD i []); first | omega | (simp only [List.length_append, List.length_cons, List.length_nil]; omega))) ?_
    refine jo_pure rfl (pr_assign rfl) ?_
    refine jo_nil ?_
    refine jq_then ?_
    refine jc_ret ?_
    refine j_drop ?_
    exact jq_ret1 rfl () rfl (show (str (writeF l) : Value) = (str (acc ++ [41])) from congrArg str (by rw [hinv.2.2, take_over (s := l) (i := i) (by omega)]; rfl)) (fun _ h => h)

theorem c_media_form_1 (x : (List UInt8) × (List UInt8)) (p : (List UInt8) × (List UInt8)) (pb : Nat)  : Con Tryz.prog 165 #[.agg #[str (x.1), str (x.2)], .pointer (some ⟨pb, 0, none⟩)] [.ibox pb 82 [str (p.1), str (p.2)]] (fun _ : Unit => .bool (decide (x.1 = p.1))) (fun _ => []) := by
  refine con_of_J (args := [.agg #[str (x.1), str (x.2)], .pointer (some ⟨pb, 0, none⟩)]) (n := 9) Tryz.func165 rfl (Nat.le_of_ble_eq_true rfl) rfl (fun w0 I0 m0 => ?_)
  show J _ [(0, .agg #[str (x.1), str (x.2)]), (1, .pointer (some ⟨pb, 0, none⟩))] [.ibox pb 82 [str (p.1), str (p.2)]] _
  refine jc_seq ?_
  refine jc_region ?_
  refine jo_box rfl [str (x.1), str (x.2)] rfl rfl (fun b1 => ?_)
  refine jo_pure rfl (pr_assign rfl) ?_
  refine jo_nil ?_
  refine jq_then ?_
  refine jc_seq ?_
  refine jc_region ?_
  refine jo_pure rfl (pr_fieldAddr 0 rfl Tryz.underlying82 rfl ty_9 rfl rfl) ?_
  refine jo_pure rfl (pr_load_box (str (x.1)) rfl ty_9 (.head _) rfl (by decide) rfl) ?_
  refine jo_pure rfl (pr_fieldAddr 0 rfl Tryz.underlying82 rfl ty_9 rfl rfl) ?_
  refine jo_pure rfl (pr_load_ibox (str (p.1)) rfl ty_9 (.tail _ (.head _)) rfl (by decide) rfl) ?_
  refine jo_pure rfl (pr_seql rfl rfl) ?_
  refine jo_pure rfl (pr_assign rfl) ?_
  refine jo_nil ?_
  refine jq_then ?_
  refine jc_ret ?_
  refine j_drop ?_
  refine j_drop ?_
  exact jq_ret1 rfl () rfl (show (.bool (decide (x.1 = p.1)) : Value) = (.bool (decide ((x.1 : List UInt8) = p.1))) from rfl) (fun _ h => h)

theorem c_indexFunc_media (l : List ((List UInt8) × (List UInt8))) (lv : Value) (p : (List UInt8) × (List UInt8)) (pb : Nat) (hl : l.length ≤ 1000000) : Con Tryz.prog 167 #[lv, .func (.func 165) #[] #[.pointer (some ⟨pb, 0, none⟩)]] [.imm (.list (.pair .str .str)) (lv) (l), .ibox pb 82 [str (p.1), str (p.2)]] (fun _ : Unit => .int .i64 (idxP (fun x => decide (x.1 = p.1)) l)) (fun _ => []) := by
  refine con_of_J (args := [lv, .func (.func 165) #[] #[.pointer (some ⟨pb, 0, none⟩)]]) (n := 19) Tryz.func167 rfl (Nat.le_of_ble_eq_true rfl) rfl (fun w0 I0 m0 => ?_)
  show J _ [(0, lv), (1, .func (.func 165) #[] #[.pointer (some ⟨pb, 0, none⟩)])] [.imm (.list (.pair .str .str)) (lv) (l), .ibox pb 82 [str (p.1), str (p.2)]] _
  refine jc_seq ?_
  refine jc_region ?_
  refine jo_pure rfl (pr_assign rfl) ?_
  refine jo_nil ?_
  refine jq_then ?_
  refine jc_seq ?_
  refine jc_seq ?_
  refine jc_region ?_
  refine jo_pure rfl (pr_move rfl) ?_
  refine jo_pure rfl (pr_len_imm rfl (.head _) Tryz.underlying77) ?_
  refine jo_pure rfl (pr_move rfl) ?_
  refine jo_nil ?_
  refine jq_then ?_
  refine jc_block ?_
  refine jc_loop (fun (i : Nat) => [(0, lv), (1, .func (.func 165) #[] #[.pointer (some ⟨pb, 0, none⟩)]), (7, .int .i64 ((l.length : Nat) : Int)), (8, .int .i64 ((i : Nat) : Int))]) (fun (i : Nat) => [.imm (.list (.pair .str .str)) (lv) (l), .ibox pb 82 [str (p.1), str (p.2)]]) (fun (i : Nat) => i ≤ l.length ∧ (l.take i).any (fun x => decide (x.1 = p.1)) = false) (fun (i : Nat) => l.length - i) 0 (⟨Nat.zero_le _, rfl⟩) (⟨rfl, rfl, rfl, rfl, trivial⟩) (fun _ h => h) (fun i hinv => ?_)
  refine jc_seq ?_
  refine jc_region ?_
  refine jo_pure rfl (pr_lssN (m := i) (n := l.length) rfl rfl) ?_
  refine jo_nil ?_
  refine jq_then ?_
  refine jc_seq ?_
  refine jc_cond rfl (fun h1b => ?_) (fun h1b => ?_)
  · have h1 := of_decide_eq_true h1b
    refine jc_skip ?_
    refine jq_then ?_
    refine jc_seq ?_
    refine jc_block ?_
    refine jc_seq ?_
    refine jc_region ?_
    refine jo_pure rfl (pr_move rfl) ?_
    refine jo_pure rfl (pr_assign rfl) ?_
    refine jo_nil ?_
    refine jq_then ?_
    refine jc_seq ?_
    refine jc_region ?_
    refine jo_pure rfl (pr_move rfl) ?_
    refine jo_pure rfl (pr_move rfl) ?_
    refine jo_pure rfl (pr_move rfl) ?_
    refine jo_pure rfl (pr_idx_imm (i := i) rfl (.head _) rfl Tryz.underlying77 ty_82 (by omega)) ?_
    refine jo_pure rfl (pr_load_elem_imm (i := i) (.agg #[str ((l.getD i ([], [])).1), str ((l.getD i ([], [])).2)]) rfl (.head _) ty_82 rfl rfl (by omega) rfl) ?_
    refine jo_callvp (fi := []) (vs := [.agg #[str ((l.getD i ([], [])).1), str ((l.getD i ([], [])).2)]]) (ca := [.pointer (some ⟨pb, 0, none⟩)]) rfl cal_165 (c_media_form_1 (l.getD i ([], [])) p pb) ⟨rfl, trivial⟩ rfl (⟨⟨rfl, .tail _ (.head _)⟩, trivial⟩) (fun _ => ?_)
    refine jo_nil ?_
    refine jq_then ?_
    refine jc_cond rfl (fun h2b => ?_) (fun h2b => ?_)
    · have h2 := id h2b
      refine jc_seq ?_
      refine jc_region ?_
      refine jo_pure rfl (pr_move rfl) ?_
      refine jo_pure rfl (pr_assign rfl) ?_
      refine jo_nil ?_
      refine jq_then ?_
      refine jc_ret ?_
      refine jq_in_ret ?_
      refine jq_then_ret ?_
      refine jq_then_ret ?_
      refine jq_in_ret ?_
      refine jq_then_ret ?_
      refine j_drop ?_
      refine j_drop ?_
      exact jq_ret1 rfl () rfl (show (.int .i64 (idxP (fun x => decide (x.1 = p.1)) l) : Value) = (.int .i64 ((i : Nat) : Int)) from congrArg (Value.int .i64) (by rw [idxP_hit (dd := ([], [])) h1 hinv.2 h2b])) (fun _ h => h)
    · have h2 := id h2b
      refine jc_skip ?_
      refine jq_in_normal ?_
      refine jq_then ?_
      refine jc_region ?_
      refine jo_pure rfl (pr_addN (m := i) (n := 1) rfl rfl (by omega)) ?_
      refine jo_pure rfl (pr_move rfl) ?_
      refine jo_nil ?_
      refine j_pull1 ?_
      refine j_pull1 ?_
      refine jq_round' (i + 1) (by (try dsimp only); exact (⟨by omega, any_step (dd := ([], [])) h1 hinv.2 h2b⟩)) (by (try dsimp only); exact (by omega)) ⟨rfl, rfl, rfl, rfl, trivial⟩ (fun _ h => h)
  · have h1 := of_decide_eq_false h1b
    refine jc_exit ?_
    refine jq_then_exit ?_
    refine jq_then_exit ?_
    refine jq_in_hit ?_
    refine jq_then ?_
    refine jc_seq ?_
    refine jc_region ?_
    refine jo_pure rfl (pr_assign rfl) ?_
    refine jo_nil ?_
    refine jq_then ?_
    refine jc_ret ?_
    refine j_drop ?_
    refine j_drop ?_
    exact jq_ret1 rfl () rfl (show (.int .i64 (idxP (fun x => decide (x.1 = p.1)) l) : Value) = (.int .i64 (-1)) from congrArg (Value.int .i64) (by rw [idxP_none (any_end (by omega) hinv.2)])) (fun _ h => h)

theorem c_containsFunc_media (l : List ((List UInt8) × (List UInt8))) (lv : Value) (p : (List UInt8) × (List UInt8)) (pb : Nat) (hl : l.length ≤ 1000000) : Con Tryz.prog 164 #[lv, .func (.func 165) #[] #[.pointer (some ⟨pb, 0, none⟩)]] [.imm (.list (.pair .str .str)) (lv) (l), .ibox pb 82 [str (p.1), str (p.2)]] (fun _ : Unit => .bool (l.any (fun x => decide (x.1 = p.1)))) (fun _ => []) := by
  refine con_of_J (args := [lv, .func (.func 165) #[] #[.pointer (some ⟨pb, 0, none⟩)]]) (n := 9) Tryz.func164 rfl (Nat.le_of_ble_eq_true rfl) rfl (fun w0 I0 m0 => ?_)
  show J _ [(0, lv), (1, .func (.func 165) #[] #[.pointer (some ⟨pb, 0, none⟩)])] [.imm (.list (.pair .str .str)) (lv) (l), .ibox pb 82 [str (p.1), str (p.2)]] _
  refine jc_seq ?_
  refine jc_region ?_
  refine jo_pure rfl (pr_assign rfl) ?_
  refine jo_nil ?_
  refine jq_then ?_
  refine jc_seq ?_
  refine jc_region ?_
  refine jo_pure rfl (pr_move rfl) ?_
  refine jo_pure rfl (pr_move rfl) ?_
  refine jo_callp cal_167 (c_indexFunc_media l lv p pb (by omega)) ⟨rfl, rfl, trivial⟩ rfl (⟨⟨rfl, .head _⟩, ⟨⟨rfl, .tail _ (.head _)⟩, trivial⟩⟩) (fun _ => ?_)
  refine jo_pure rfl (pr_geq (n := 0) rfl rfl) ?_
  refine jo_pure rfl (pr_assign rfl) ?_
  refine jo_nil ?_
  refine jq_then ?_
  refine jc_ret ?_
  refine j_drop ?_
  refine j_drop ?_
  exact jq_ret1 rfl () rfl (show (.bool (l.any (fun x => decide (x.1 = p.1))) : Value) = (.bool (decide ((0 : Int) ≤ idxP (fun x => decide (x.1 = p.1)) l))) from congrArg Value.bool (idxP_ge _ _).symm) (fun _ h => h)

theorem c_media_form (s : List UInt8) (hs : s.length ≤ 300000) : Con Tryz.prog 162 #[.agg #[], str (s)] [] (fun _ : Unit => .tuple #[str ((formF 1 s).1), .bool ((formF 1 s).2)]) (fun _ => []) := by
  refine con_of_J (args := [.agg #[], str (s)]) (n := 42) Tryz.func162 rfl (Nat.le_of_ble_eq_true rfl) rfl (fun w0 I0 m0 => ?_)
  show J _ [(0, .agg #[]), (1, str (s))] [] _
  refine jc_seq ?_
  refine jc_region ?_
  refine jo_box rfl [] rfl rfl (fun b1 => ?_)
  refine jo_pure rfl (pr_assign rfl) ?_
  refine jo_pure rfl (pr_assign rfl) ?_
  refine jo_nil ?_
  refine jq_then ?_
  refine jc_seq ?_
  refine jc_region ?_
  refine jo_pure rfl (pr_move rfl) ?_
  refine jo_callp cal_163 (c_mediatype_Parse s (by first | omega | (have := (parseT_len s).2.2.1; simp only [List.length_drop, List.length_take]; omega))) ⟨rfl, trivial⟩ rfl (trivial) (fun r1 => ?_)
  show J _ _ [.row (r1) 82 (.pair .str .str) ((parseT s).1.2.2), .box b1 106 []] _
  refine jo_pure rfl (pr_move rfl) ?_
  refine jo_pure rfl (pr_extract rfl rfl) ?_
  refine jo_pure rfl (pr_extract rfl rfl) ?_
  refine jo_alloc ty_79 [str ([]), str ([]), .slice none 0 0] rfl rfl (fun b2 => ?_)
  refine jo_storeV rfl rfl ty_79 [str ((parseT s).1.1), str ((parseT s).1.2.1), r1] (fun _ _ _ _ => rfl) rfl (fun w I m hs => by simp only [List.all_cons, List.all_nil, Bool.and_true, Bool.and_eq_true]; exact ⟨rfl, rfl, (SliceV.one (row_slice (.tail _ (.head _)) hs))⟩) [str ((parseT s).1.1), str ((parseT s).1.2.1), r1] rfl rfl ?_
  refine jo_pure rfl (pr_assign rfl) ?_
  refine jo_nil ?_
  refine jq_then ?_
  refine jc_seq ?_
  refine jc_seq ?_
  refine j_pull1 ?_
  refine j_pub_row ?_
  refine jc_region ?_
  refine jo_pure rfl (pr_fieldAddr 2 rfl Tryz.underlying79 rfl ty_77 rfl rfl) ?_
  refine jo_pure rfl (pr_load_box (r1) rfl ty_77 (.tail _ (.head _)) rfl (by decide) rfl) ?_
  refine jo_pure rfl (pr_len_imm rfl (.head _) Tryz.underlying77) ?_
  refine jo_pure rfl (pr_move rfl) ?_
  refine jo_nil ?_
  refine jq_then ?_
  refine jc_block ?_
  refine jc_loop2 (fun (i : Nat) (ok : Bool) => [(1, str (s)), (6, .pointer (some ⟨b2, 0, none⟩)), (7, .bool (ok)), (16, r1), (17, .int .i64 ((((parseT s).1.2.2).length : Nat) : Int)), (18, .int .i64 ((i : Nat) : Int))]) (fun (i : Nat) (ok : Bool) => [.imm (.list (.pair .str .str)) (r1) ((parseT s).1.2.2), .box b2 79 [str ((parseT s).1.1), str ((parseT s).1.2.1), r1], .box b1 106 []]) (fun (i : Nat) (ok : Bool) => i ≤ ((parseT s).1.2.2).length ∧ ok = ((parseT s).2 && parOk ((parseT s).1.2.2) i)) (fun (i : Nat) (ok : Bool) => ((parseT s).1.2.2).length - i) 0 ((parseT s).2) (⟨Nat.zero_le _, by rw [show parOk ((parseT s).1.2.2) 0 = true from rfl, Bool.and_true]⟩) (⟨rfl, rfl, rfl, rfl, rfl, rfl, trivial⟩) (fun _ h => h) (fun i ok hinv => ?_)
  refine jc_seq ?_
  refine jc_region ?_
  refine jo_pure rfl (pr_lssN (m := i) (n := ((parseT s).1.2.2).length) rfl rfl) ?_
  refine jo_nil ?_
  refine jq_then ?_
  refine jc_seq ?_
  refine jc_cond rfl (fun h1b => ?_) (fun h1b => ?_)
  · have h1 := of_decide_eq_true h1b
    refine jc_skip ?_
    refine jq_then ?_
    refine jc_seq ?_
    refine jc_block ?_
    refine jc_seq ?_
    refine jc_region ?_
    refine jo_pure rfl (pr_move rfl) ?_
    refine jo_pure rfl (pr_idx_imm (i := i) rfl (.head _) rfl Tryz.underlying77 ty_82 (by omega)) ?_
    refine jo_pure rfl (pr_load_elem_imm (i := i) (.agg #[str ((((parseT s).1.2.2).getD i ([], [])).1), str ((((parseT s).1.2.2).getD i ([], [])).2)]) rfl (.head _) ty_82 rfl rfl (by omega) rfl) ?_
    refine jo_alloc ty_82 [str ([]), str ([])] rfl rfl (fun b3 => ?_)
    refine jo_pure rfl (pr_assign rfl) ?_
    refine jo_store rfl rfl ty_82 [str ((((parseT s).1.2.2).getD i ([], [])).1), str ((((parseT s).1.2.2).getD i ([], [])).2)] rfl rfl rfl [str ((((parseT s).1.2.2).getD i ([], [])).1), str ((((parseT s).1.2.2).getD i ([], [])).2)] rfl rfl ?_
    refine jo_nil ?_
    refine jq_then ?_
    by_cases hok : ok = true
    · skip
      by_cases hq : (((parseT s).1.2.2).getD i ([], [])).1 = [113]
      · skip
        refine jc_region ?_
        refine jo_pure rfl (pr_move rfl) ?_
        refine jo_pure rfl (pr_move rfl) ?_
        refine jo_run (j := 1) (want := true) rfl rfl (hok) ?_
        refine jo_pure rfl (pr_fieldAddr 0 rfl Tryz.underlying82 rfl ty_9 rfl rfl) ?_
        refine jo_run (j := 1) (want := true) rfl rfl (hok) ?_
        refine jo_pure rfl (pr_load_box (str ((((parseT s).1.2.2).getD i ([], [])).1)) rfl ty_9 (.head _) rfl (by decide) rfl) ?_
        refine jo_run (j := 1) (want := true) rfl rfl (hok) ?_
        refine jo_pure rfl (pr_sneq rfl rfl) ?_
        refine jo_pure rfl (pr_pick_t rfl (hok) rfl) ?_
        refine jo_pure rfl (pr_move rfl) ?_
        refine jo_skipu (j := 6) (want := true) rfl rfl (by rw [decide_eq_true hq] <;> rfl) rfl ?_
        refine jo_skipu (j := 6) (want := true) rfl rfl (by rw [decide_eq_true hq] <;> rfl) rfl ?_
        refine jo_skipu (j := 6) (want := true) rfl rfl (by rw [decide_eq_true hq] <;> rfl) rfl ?_
        refine jo_skipu (j := 6) (want := true) rfl rfl (by rw [decide_eq_true hq] <;> rfl) rfl ?_
        refine jo_skipu (j := 6) (want := true) rfl rfl (by rw [decide_eq_true hq] <;> rfl) rfl ?_
        refine jo_skipu (j := 6) (want := true) rfl rfl (by rw [decide_eq_true hq] <;> rfl) rfl ?_
        refine jo_skipu (j := 6) (want := true) rfl rfl (by rw [decide_eq_true hq] <;> rfl) rfl ?_
        refine jo_pure rfl (pr_pick_f rfl (by rw [decide_eq_true hq] <;> rfl) rfl) ?_
        refine jo_pure rfl (pr_assign rfl) ?_
        refine jo_nil ?_
        refine jq_in_normal ?_
        refine jq_then ?_
        refine jc_region ?_
        refine jo_pure rfl (pr_addN (m := i) (n := 1) rfl rfl (by have := (parseT_len s).2.2.1; omega)) ?_
        refine jo_pure rfl (pr_move rfl) ?_
        refine jo_nil ?_
        refine j_drop ?_
        refine j_pull2 ?_
        refine j_pull2 ?_
        refine j_pull2 ?_
        refine jq_round' ((i + 1), false) (by (try dsimp only); exact (⟨by omega, by rw [parOk_step, decide_eq_true hq]; simp⟩)) (by (try dsimp only); exact (by omega)) ⟨rfl, rfl, rfl, rfl, rfl, rfl, trivial⟩ (fun _ h => h)
      · skip
        refine jc_region ?_
        refine jo_pure rfl (pr_move rfl) ?_
        refine jo_pure rfl (pr_move rfl) ?_
        refine jo_run (j := 1) (want := true) rfl rfl (hok) ?_
        refine jo_pure rfl (pr_fieldAddr 0 rfl Tryz.underlying82 rfl ty_9 rfl rfl) ?_
        refine jo_run (j := 1) (want := true) rfl rfl (hok) ?_
        refine jo_pure rfl (pr_load_box (str ((((parseT s).1.2.2).getD i ([], [])).1)) rfl ty_9 (.head _) rfl (by decide) rfl) ?_
        refine jo_run (j := 1) (want := true) rfl rfl (hok) ?_
        refine jo_pure rfl (pr_sneq rfl rfl) ?_
        refine jo_pure rfl (pr_pick_t rfl (hok) rfl) ?_
        refine jo_pure rfl (pr_move rfl) ?_
        refine jo_run (j := 6) (want := true) rfl rfl (by rw [decide_eq_false hq] <;> rfl) ?_
        refine jo_pure rfl (pr_fieldAddr 2 rfl Tryz.underlying79 rfl ty_77 rfl rfl) ?_
        refine jo_run (j := 6) (want := true) rfl rfl (by rw [decide_eq_false hq] <;> rfl) ?_
        refine jo_pure rfl (pr_load_box (r1) rfl ty_77 (.tail _ (.tail _ (.head _))) rfl (by decide) rfl) ?_
        refine jo_run (j := 6) (want := true) rfl rfl (by rw [decide_eq_false hq] <;> rfl) ?_
        refine jo_pure rfl (pr_move rfl) ?_
        refine jo_run (j := 6) (want := true) rfl rfl (by rw [decide_eq_false hq] <;> rfl) ?_
        refine j_resl (l := 0) (h := i) (.tail _ (.head _)) (by omega) (by omega) ?_
        show J _ _ (.imm (.list (.pair .str .str)) (resl (r1) (0) (i) 2) ((((parseT s).1.2.2).take i).drop 0) :: _) _
        refine jo_pure rfl (pr_slice_imm (l := 0) (h := i) rfl (.tail _ (.tail _ (.head _))) Tryz.underlying77 ty_82 rfl ⟨_, rfl⟩ (by omega) (by omega)) ?_
        refine jo_run (j := 6) (want := true) rfl rfl (by rw [decide_eq_false hq] <;> rfl) ?_
        refine jo_pure rfl (pr_makeFunc (fs := #[]) (cs := #[.pointer (some ⟨b3, 0, none⟩)]) (fun a hf => by simp) (fun a hf => by simp only [List.map_toArray, List.map_cons, List.map_nil, hf.ev (show ev _ (.tmp 9) = some (.pointer (some ⟨b3, 0, none⟩)) from rfl)])) ?_
        refine jo_run (j := 6) (want := true) rfl rfl (by rw [decide_eq_false hq] <;> rfl) ?_
        refine j_pull1 ?_
        refine j_pub_box ?_
        refine jo_callp cal_164 (c_containsFunc_media ((((parseT s).1.2.2).take i).drop 0) (resl (r1) (0) (i) 2) (((parseT s).1.2.2).getD i ([], [])) b3 (by first | omega | (have := (parseT_len s).2.2.1; simp only [List.length_drop, List.length_take]; omega))) ⟨rfl, rfl, trivial⟩ rfl (⟨⟨rfl, .tail _ (.head _)⟩, ⟨⟨rfl, .head _⟩, trivial⟩⟩) (fun _ => ?_)
        refine jo_run (j := 6) (want := true) rfl rfl (by rw [decide_eq_false hq] <;> rfl) ?_
        refine jo_pure rfl (pr_not rfl) ?_
        refine jo_pure rfl (pr_pick_t rfl (by rw [decide_eq_false hq] <;> rfl) rfl) ?_
        refine jo_pure rfl (pr_assign rfl) ?_
        refine jo_nil ?_
        refine jq_in_normal ?_
        refine jq_then ?_
        refine jc_region ?_
        refine jo_pure rfl (pr_addN (m := i) (n := 1) rfl rfl (by have := (parseT_len s).2.2.1; omega)) ?_
        refine jo_pure rfl (pr_move rfl) ?_
        refine jo_nil ?_
        refine j_drop ?_
        refine j_drop ?_
        refine j_pull2 ?_
        refine j_pull2 ?_
        refine j_pull2 ?_
        refine jq_round' ((i + 1), (!((((parseT s).1.2.2).take i).drop 0).any (fun x => decide (x.1 = (((parseT s).1.2.2).getD i ([], [])).1)))) (by (try dsimp only); exact (⟨by omega, by rw [parOk_step, ← Bool.and_assoc, ← hinv.2, hok, decide_eq_false hq, drop0]; rfl⟩)) (by (try dsimp only); exact (by omega)) ⟨rfl, rfl, rfl, rfl, rfl, rfl, trivial⟩ (fun _ h => h)
    · skip
      refine jc_region ?_
      refine jo_pure rfl (pr_move rfl) ?_
      refine jo_pure rfl (pr_move rfl) ?_
      refine jo_skipu (j := 1) (want := true) rfl rfl (by simpa using hok) rfl ?_
      refine jo_skipu (j := 1) (want := true) rfl rfl (by simpa using hok) rfl ?_
      refine jo_skipu (j := 1) (want := true) rfl rfl (by simpa using hok) rfl ?_
      refine jo_pure rfl (pr_pick_f rfl (by simpa using hok) rfl) ?_
      refine jo_pure rfl (pr_move rfl) ?_
      refine jo_skipu (j := 6) (want := true) rfl rfl (rfl) rfl ?_
      refine jo_skipu (j := 6) (want := true) rfl rfl (rfl) rfl ?_
      refine jo_skipu (j := 6) (want := true) rfl rfl (rfl) rfl ?_
      refine jo_skipu (j := 6) (want := true) rfl rfl (rfl) rfl ?_
      refine jo_skipu (j := 6) (want := true) rfl rfl (rfl) rfl ?_
      refine jo_skipu (j := 6) (want := true) rfl rfl (rfl) rfl ?_
      refine jo_skipu (j := 6) (want := true) rfl rfl (rfl) rfl ?_
      refine jo_pure rfl (pr_pick_f rfl (rfl) rfl) ?_
      refine jo_pure rfl (pr_assign rfl) ?_
      refine jo_nil ?_
      refine jq_in_normal ?_
      refine jq_then ?_
      refine jc_region ?_
      refine jo_pure rfl (pr_addN (m := i) (n := 1) rfl rfl (by have := (parseT_len s).2.2.1; omega)) ?_
      refine jo_pure rfl (pr_move rfl) ?_
      refine jo_nil ?_
      refine j_drop ?_
      refine j_pull2 ?_
      refine j_pull2 ?_
      refine j_pull2 ?_
      refine jq_round' ((i + 1), false) (by (try dsimp only); exact (⟨by omega, by rw [parOk_step, ← Bool.and_assoc, ← hinv.2, show ok = false by simpa using hok]; rfl⟩)) (by (try dsimp only); exact (by omega)) ⟨rfl, rfl, rfl, rfl, rfl, rfl, trivial⟩ (fun _ h => h)
  · have h1 := of_decide_eq_false h1b
    refine jc_exit ?_
    refine jq_then_exit ?_
    refine jq_then_exit ?_
    refine jq_in_hit ?_
    refine jq_then ?_
    refine jc_seq ?_
    refine jc_region ?_
    refine jo_pure rfl (pr_move rfl) ?_
    refine jo_callp cal_51 (c_ascii_Lower s (by first | omega | (have := (parseT_len s).2.2.1; simp only [List.length_drop, List.length_take]; omega))) ⟨rfl, trivial⟩ rfl (trivial) (fun _ => ?_)
    refine jo_pure rfl (pr_move rfl) ?_
    refine jo_pure rfl (pr_assign rfl) ?_
    refine jo_pure rfl (pr_assign rfl) ?_
    refine jo_nil ?_
    refine jq_then ?_
    refine jc_ret ?_
    refine j_drop ?_
    refine j_drop ?_
    refine j_drop ?_
    exact jq_rets (rs := [.tmp 4, .tmp 5]) (vs := [str (lower s), .bool (ok)]) rfl () ⟨resV_tmp rfl, resV_tmp rfl, trivial⟩ rfl (show (.tuple #[str ((formF 1 s).1), .bool ((formF 1 s).2)] : Value) = (.tuple #[str (lower s), .bool (ok)]) from by rw [form1 rfl, hinv.2, show i = ((parseT s).1.2.2).length by omega]) (fun _ h => h)

theorem c_tags_form (s : List UInt8) (hs : s.length ≤ 300000) : Con Tryz.prog 171 #[.agg #[], str (s)] [] (fun _ : Unit => .tuple #[str ((formF 2 s).1), .bool ((formF 2 s).2)]) (fun _ => []) := by
  refine con_of_J (args := [.agg #[], str (s)]) (n := 10) Tryz.func171 rfl (Nat.le_of_ble_eq_true rfl) rfl (fun w0 I0 m0 => ?_)
  show J _ [(0, .agg #[]), (1, str (s))] [] _
  refine jc_seq ?_
  refine jc_region ?_
  refine jo_box rfl [] rfl rfl (fun b1 => ?_)
  refine jo_pure rfl (pr_assign rfl) ?_
  refine jo_pure rfl (pr_assign rfl) ?_
  refine jo_nil ?_
  refine jq_then ?_
  refine jc_seq ?_
  refine jc_region ?_
  refine jo_pure rfl (pr_move rfl) ?_
  refine jo_callp cal_51 (c_ascii_Lower s (by omega)) ⟨rfl, trivial⟩ rfl (trivial) (fun _ => ?_)
  refine jo_pure rfl (pr_move rfl) ?_
  refine jo_callp cal_172 (c_language_Tag s (by omega)) ⟨rfl, trivial⟩ rfl (trivial) (fun _ => ?_)
  refine jo_pure rfl (pr_assign rfl) ?_
  refine jo_pure rfl (pr_assign rfl) ?_
  refine jo_nil ?_
  refine jq_then ?_
  refine jc_ret ?_
  refine j_drop ?_
  exact jq_rets (rs := [.tmp 4, .tmp 5]) (vs := [str (lower s), .bool (tagF s)]) rfl () ⟨resV_tmp rfl, resV_tmp rfl, trivial⟩ rfl (show (.tuple #[str ((formF 2 s).1), .bool ((formF 2 s).2)] : Value) = (.tuple #[str (lower s), .bool (tagF s)]) from rfl) (fun _ h => h)

theorem c_words_form (k : Int) (s : List UInt8) (hs : s.length ≤ 300000) (hk : k = 3 ∨ k = 4) : Con Tryz.prog 181 #[.int .i64 (k), str (s)] [] (fun _ : Unit => .tuple #[str ((formF k s).1), .bool ((formF k s).2)]) (fun _ => []) := by
  refine con_of_J (args := [.int .i64 (k), str (s)]) (n := 15) Tryz.func181 rfl (Nat.le_of_ble_eq_true rfl) rfl (fun w0 I0 m0 => ?_)
  show J _ [(0, .int .i64 (k)), (1, str (s))] [] _
  refine jc_seq ?_
  refine jc_region ?_
  refine jo_pure rfl (pr_assign rfl) ?_
  refine jo_pure rfl (pr_assign rfl) ?_
  refine jo_nil ?_
  refine jq_then ?_
  refine jc_seq ?_
  refine jc_region ?_
  refine jo_pure rfl (pr_move rfl) ?_
  refine jo_pure rfl (pr_move rfl) ?_
  refine jo_callp cal_182 (c_coding_Canonical k s (by omega)) ⟨rfl, rfl, trivial⟩ rfl (trivial) (fun _ => ?_)
  refine jo_pure rfl (pr_move rfl) ?_
  refine jo_callp cal_50 (c_ascii_Token s (by omega)) ⟨rfl, trivial⟩ rfl (trivial) (fun _ => ?_)
  refine jo_pure rfl (pr_move rfl) ?_
  refine jo_gpure (j := 5) (want := true) rfl rfl rfl rfl (fun hg => pr_move rfl) ?_
  refine jo_gpure (j := 5) (want := true) rfl rfl rfl rfl (fun hg => pr_sneq (evg rfl hg) rfl) ?_
  refine jo_pure rfl (pr_pick_and rfl rfl rfl) ?_
  refine jo_pure rfl (pr_assign rfl) ?_
  refine jo_pure rfl (pr_assign rfl) ?_
  refine jo_nil ?_
  refine jq_then ?_
  refine jc_ret ?_
  exact jq_rets (rs := [.tmp 4, .tmp 5]) (vs := [str (canonical k s), .bool ((token s && (!decide ((s : List UInt8) = [42]))))]) rfl () ⟨resV_tmp rfl, resV_tmp rfl, trivial⟩ rfl (show (.tuple #[str ((formF k s).1), .bool ((formF k s).2)] : Value) = (.tuple #[str (canonical k s), .bool ((token s && (!decide ((s : List UInt8) = [42]))))]) from by rw [form3 (by omega) (by omega) hk]) (fun _ h => h)

theorem c_texts_form (s : List UInt8) (hs : s.length ≤ 300000) : Con Tryz.prog 183 #[.agg #[], str (s)] [] (fun _ : Unit => .tuple #[str ((formF 0 s).1), .bool ((formF 0 s).2)]) (fun _ => []) := by
  refine con_of_J (args := [.agg #[], str (s)]) (n := 25) Tryz.func183 rfl (Nat.le_of_ble_eq_true rfl) rfl (fun w0 I0 m0 => ?_)
  show J _ [(0, .agg #[]), (1, str (s))] [] _
  refine jc_seq ?_
  refine jc_region ?_
  refine jo_box rfl [] rfl rfl (fun b1 => ?_)
  refine jo_pure rfl (pr_assign rfl) ?_
  refine jo_pure rfl (pr_assign rfl) ?_
  refine jo_nil ?_
  refine jq_then ?_
  refine jc_seq ?_
  refine jc_region ?_
  refine jo_pure rfl (pr_move rfl) ?_
  refine jo_pure rfl (pr_move rfl) ?_
  refine jo_pure rfl (pr_slen rfl Tryz.underlying9) ?_
  refine jo_pure rfl (pr_geqN (m := s.length) (n := 1) rfl rfl) ?_
  refine jo_pure rfl (pr_move rfl) ?_
  refine jo_gpure (j := 4) (want := true) rfl rfl rfl rfl (fun hg => pr_move rfl) ?_
  refine jo_gpure (j := 4) (want := true) rfl rfl rfl rfl (fun hg => pr_slen (evg rfl hg) Tryz.underlying9) ?_
  refine jo_gpure (j := 4) (want := true) rfl rfl rfl rfl (fun hg => pr_leqN (m := s.length) (n := 100) (evg rfl hg) rfl) ?_
  refine jo_pure rfl (pr_pick_and rfl rfl rfl) ?_
  refine jo_pure rfl (pr_move rfl) ?_
  refine jo_gpure (j := 9) (want := true) rfl rfl rfl rfl (fun hg => pr_move rfl) ?_
  refine jo_gcall (j := 9) (want := true) rfl rfl rfl cal_115 (fun hg => c_ascii_Text s (by omega)) (fun hg => ⟨evg rfl hg, trivial⟩) rfl (fun _ => trivial) ?_
  refine jo_pure rfl (pr_pick_and rfl rfl rfl) ?_
  refine jo_pure rfl (pr_move rfl) ?_
  refine jo_gpure (j := 13) (want := true) rfl rfl rfl rfl (fun hg => pr_move rfl) ?_
  refine jo_gcall (j := 13) (want := true) rfl rfl rfl cal_109 (fun hg => c_ascii_Trim s (by omega)) (fun hg => ⟨evg rfl hg, trivial⟩) rfl (fun _ => trivial) ?_
  refine jo_gpure (j := 13) (want := true) rfl rfl rfl rfl (fun hg => pr_move rfl) ?_
  refine jo_gpure (j := 13) (want := true) rfl rfl rfl rfl (fun hg => pr_seql (evg rfl hg) (evg rfl hg)) ?_
  refine jo_pure rfl (pr_pick_and rfl rfl rfl) ?_
  refine jo_pure rfl (pr_assign rfl) ?_
  refine jo_pure rfl (pr_assign rfl) ?_
  refine jo_nil ?_
  refine jq_then ?_
  refine jc_ret ?_
  refine j_drop ?_
  exact jq_rets (rs := [.tmp 4, .tmp 5]) (vs := [str (s), .bool ((((decide ((1 : Nat) ≤ s.length) && decide ((s.length : Nat) ≤ 100)) && text s) && decide ((trim s : List UInt8) = s)))]) rfl () ⟨resV_tmp rfl, resV_tmp rfl, trivial⟩ rfl (show (.tuple #[str ((formF 0 s).1), .bool ((formF 0 s).2)] : Value) = (.tuple #[str (s), .bool ((((decide ((1 : Nat) ≤ s.length) && decide ((s.length : Nat) ≤ 100)) && text s) && decide ((trim s : List UInt8) = s)))]) from rfl) (fun _ h => h)

def domV (k : Int) : Value := if k = 1 then .iface 106 (.agg #[]) else if k = 2 then .iface 107 (.agg #[]) else if k = 3 ∨ k = 4 then .iface 108 (.int .i64 k) else .iface 109 (.agg #[])
theorem form_meth (k : Int) (s : List UInt8) (hs : s.length ≤ 300000) : Meth Tryz.prog (domV k) "variantproxy/variants.form" [str s] [] (fun _ : Unit => .tuple #[str (formF k s).1, .bool (formF k s).2]) (fun _ => []) := by
  unfold domV
  split
  · rename_i h; exact ⟨162, #[.agg #[], str s], fun w => by kernel_rfl, by subst h; exact c_media_form s hs⟩
  · rename_i h1
    split
    · rename_i h; exact ⟨171, #[.agg #[], str s], fun w => by kernel_rfl, by subst h; exact c_tags_form s hs⟩
    · rename_i h2
      split
      · rename_i h; exact ⟨181, #[.int .i64 k, str s], fun w => by kernel_rfl, c_words_form k s hs h⟩
      · rename_i h; exact ⟨183, #[.agg #[], str s], fun w => by kernel_rfl, by rw [form0 h1 h2 h]; exact c_texts_form s hs⟩

theorem c_variants_domainOf (axis : List UInt8) (hn : axis.length ≤ 1000000) : Con Tryz.prog 65 #[str (axis)] [] (fun _ : Unit => domV (kindF axis)) (fun _ => []) := by
  refine con_of_J (args := [str (axis)]) (n := 22) Tryz.func65 rfl (Nat.le_of_ble_eq_true rfl) rfl (fun w0 I0 m0 => ?_)
  show J _ [(0, str (axis))] [] _
  refine jc_seq ?_
  refine jc_region ?_
  refine jo_pure rfl (pr_assign rfl) ?_
  refine jo_nil ?_
  refine jq_then ?_
  refine jc_seq ?_
  refine jc_seq ?_
  refine jc_region ?_
  refine jo_pure rfl (pr_move rfl) ?_
  refine jo_callp cal_100 (c_accept_Kind axis (by omega)) ⟨rfl, trivial⟩ rfl (trivial) (fun _ => ?_)
  refine jo_pure rfl (pr_assign rfl) ?_
  refine jo_nil ?_
  refine jq_then ?_
  refine jc_seq ?_
  refine jc_region ?_
  refine jo_pure rfl (pr_move rfl) ?_
  refine jo_nil ?_
  refine jq_then ?_
  refine jc_block ?_
  refine jc_seq ?_
  refine jc_region ?_
  refine jo_pure rfl (pr_eql (n := 1) rfl rfl) ?_
  refine jo_pure rfl (pr_assign rfl) ?_
  refine jo_nil ?_
  refine jq_then ?_
  refine jc_cond rfl (fun h1b => ?_) (fun h1b => ?_)
  · have h1 := of_decide_eq_true h1b
    refine jc_seq ?_
    refine jc_region ?_
    refine jo_pure rfl (pr_build [] [] (fun a hf => by simp) (by kernel_rfl)) ?_
    refine jo_pure rfl (pr_makeInterface rfl (by kernel_rfl)) ?_
    refine jo_pure rfl (pr_assign rfl) ?_
    refine jo_nil ?_
    refine jq_then ?_
    refine jc_ret ?_
    refine jq_in_ret ?_
    refine jq_then_ret ?_
    exact jq_ret1 rfl () rfl (show (domV (kindF axis) : Value) = (.iface 106 (.agg #[])) from by unfold domV; simp [*]) (fun _ h => h)
  · have h1 := of_decide_eq_false h1b
    refine jc_seq ?_
    refine jc_region ?_
    refine jo_pure rfl (pr_eql (n := 2) rfl rfl) ?_
    refine jo_pure rfl (pr_assign rfl) ?_
    refine jo_nil ?_
    refine jq_then ?_
    refine jc_cond rfl (fun h2b => ?_) (fun h2b => ?_)
    · have h2 := of_decide_eq_true h2b
      refine jc_seq ?_
      refine jc_region ?_
      refine jo_pure rfl (pr_build [] [] (fun a hf => by simp) (by kernel_rfl)) ?_
      refine jo_pure rfl (pr_makeInterface rfl (by kernel_rfl)) ?_
      refine jo_pure rfl (pr_assign rfl) ?_
      refine jo_nil ?_
      refine jq_then ?_
      refine jc_ret ?_
      refine jq_in_ret ?_
      refine jq_then_ret ?_
      exact jq_ret1 rfl () rfl (show (domV (kindF axis) : Value) = (.iface 107 (.agg #[])) from by unfold domV; simp [*]) (fun _ h => h)
    · have h2 := of_decide_eq_false h2b
      refine jc_seq ?_
      refine jc_seq ?_
      refine jc_region ?_
      refine jo_pure rfl (pr_eql (n := 3) rfl rfl) ?_
      refine jo_pure rfl (pr_assign rfl) ?_
      refine jo_nil ?_
      refine jq_then ?_
      refine jc_cond rfl (fun h3b => ?_) (fun h3b => ?_)
      · have h3 := of_decide_eq_true h3b
        refine jc_skip ?_
        refine jq_then ?_
        refine jc_true rfl (h3b) ?_
        refine jc_seq ?_
        refine jc_region ?_
        refine jo_pure rfl (pr_move rfl) ?_
        refine jo_pure rfl (pr_makeInterface rfl (by kernel_rfl)) ?_
        refine jo_pure rfl (pr_assign rfl) ?_
        refine jo_nil ?_
        refine jq_then ?_
        refine jc_ret ?_
        refine jq_in_ret ?_
        refine jq_then_ret ?_
        exact jq_ret1 rfl () rfl (show (domV (kindF axis) : Value) = (.iface 108 (.int .i64 (kindF axis))) from by unfold domV; simp [*]) (fun _ h => h)
      · have h3 := of_decide_eq_false h3b
        refine jc_region ?_
        refine jo_pure rfl (pr_eql (n := 4) rfl rfl) ?_
        refine jo_pure rfl (pr_assign rfl) ?_
        refine jo_nil ?_
        refine jq_then ?_
        refine jc_cond rfl (fun h4b => ?_) (fun h4b => ?_)
        · have h4 := of_decide_eq_true h4b
          refine jc_seq ?_
          refine jc_region ?_
          refine jo_pure rfl (pr_move rfl) ?_
          refine jo_pure rfl (pr_makeInterface rfl (by kernel_rfl)) ?_
          refine jo_pure rfl (pr_assign rfl) ?_
          refine jo_nil ?_
          refine jq_then ?_
          refine jc_ret ?_
          refine jq_in_ret ?_
          refine jq_then_ret ?_
          exact jq_ret1 rfl () rfl (show (domV (kindF axis) : Value) = (.iface 108 (.int .i64 (kindF axis))) from by unfold domV; simp [*]) (fun _ h => h)
        · have h4 := of_decide_eq_false h4b
          refine jc_skip ?_
          refine jq_in_normal ?_
          refine jq_then ?_
          refine jc_seq ?_
          refine jc_region ?_
          refine jo_pure rfl (pr_build [] [] (fun a hf => by simp) (by kernel_rfl)) ?_
          refine jo_pure rfl (pr_makeInterface rfl (by kernel_rfl)) ?_
          refine jo_pure rfl (pr_assign rfl) ?_
          refine jo_nil ?_
          refine jq_then ?_
          refine jc_ret ?_
          exact jq_ret1 rfl () rfl (show (domV (kindF axis) : Value) = (.iface 109 (.agg #[])) from by unfold domV; simp [*]) (fun _ h => h)

theorem c_variants_Same (axis : List UInt8) (a : List UInt8) (b : List UInt8) (ha : axis.length ≤ 1000000) (hs : a.length ≤ 300000) (hb : b.length ≤ 300000) : Con Tryz.prog 29 #[str (axis), str (a), str (b)] [] (fun _ : Unit => .bool (sameF axis a b)) (fun _ => []) := by
  refine con_of_J (args := [str (axis), str (a), str (b)]) (n := 29) Tryz.func29 rfl (Nat.le_of_ble_eq_true rfl) rfl (fun w0 I0 m0 => ?_)
  show J _ [(0, str (axis)), (1, str (a)), (2, str (b))] [] _
  refine jc_seq ?_
  refine jc_region ?_
  refine jo_pure rfl (pr_assign rfl) ?_
  refine jo_nil ?_
  refine jq_then ?_
  refine jc_seq ?_
  refine jc_region ?_
  refine jo_pure rfl (pr_move rfl) ?_
  refine jo_callp cal_65 (c_variants_domainOf axis (by omega)) ⟨rfl, trivial⟩ rfl (trivial) (fun _ => ?_)
  refine jo_pure rfl (pr_assign rfl) ?_
  refine jo_nil ?_
  refine jq_then ?_
  refine jc_seq ?_
  refine jc_region ?_
  refine jo_pure rfl (pr_move rfl) ?_
  refine jo_pure rfl (pr_move rfl) ?_
  refine jo_invokep rfl (form_meth (kindF axis) a (by omega)) ⟨rfl, trivial⟩ rfl trivial (fun _ => ?_)
  refine jo_pure rfl (pr_move rfl) ?_
  refine jo_pure rfl (pr_extract rfl rfl) ?_
  refine jo_pure rfl (pr_extract rfl rfl) ?_
  refine jo_pure rfl (pr_assign rfl) ?_
  refine jo_pure rfl (pr_assign rfl) ?_
  refine jo_nil ?_
  refine jq_then ?_
  refine jc_seq ?_
  refine jc_region ?_
  refine jo_pure rfl (pr_move rfl) ?_
  refine jo_pure rfl (pr_move rfl) ?_
  refine jo_invokep rfl (form_meth (kindF axis) b (by omega)) ⟨rfl, trivial⟩ rfl trivial (fun _ => ?_)
  refine jo_pure rfl (pr_move rfl) ?_
  refine jo_pure rfl (pr_extract rfl rfl) ?_
  refine jo_pure rfl (pr_extract rfl rfl) ?_
  refine jo_pure rfl (pr_assign rfl) ?_
  refine jo_pure rfl (pr_assign rfl) ?_
  refine jo_nil ?_
  refine jq_then ?_
  refine jc_seq ?_
  refine jc_region ?_
  refine jo_pure rfl (pr_move rfl) ?_
  refine jo_pure rfl (pr_move rfl) ?_
  refine jo_pure rfl (pr_seql rfl rfl) ?_
  refine jo_pure rfl (pr_assign rfl) ?_
  refine jo_nil ?_
  refine jq_then ?_
  refine jc_ret ?_
  exact jq_ret1 rfl () rfl (show (.bool (sameF axis a b) : Value) = (.bool (decide (((formF (kindF axis) a).1 : List UInt8) = (formF (kindF axis) b).1))) from rfl) (fun _ h => h)

theorem c_variants_valid (a : (List UInt8) × (List (List UInt8))) (av : Value) (ha : a.1.length ≤ 1000000) (hm : ∀ x ∈ a.2, x.length ≤ 300000) (hl : a.2.length ≤ 9223372036854775807) : Con Tryz.prog 52 #[.agg #[str (a.1), av]] [.imm (.list .str) (av) (a.2)] (fun _ : Unit => .bool (validV (kindF a.1) a.2)) (fun _ => []) := by
  refine con_of_J (args := [.agg #[str (a.1), av]]) (n := 46) Tryz.func52 rfl (Nat.le_of_ble_eq_true rfl) rfl (fun w0 I0 m0 => ?_)
  show J _ [(0, .agg #[str (a.1), av])] [.imm (.list .str) (av) (a.2)] _
  refine jc_seq ?_
  refine jc_region ?_
  refine jo_box rfl [str (a.1), av] rfl rfl (fun b1 => ?_)
  refine jo_pure rfl (pr_assign rfl) ?_
  refine jo_nil ?_
  refine jq_then ?_
  refine jc_seq ?_
  refine jc_seq ?_
  refine jc_region ?_
  refine jo_pure rfl (pr_fieldAddr 1 rfl Tryz.underlying48 rfl ty_45 rfl rfl) ?_
  refine jo_pure rfl (pr_load_box (av) rfl ty_45 (.head _) rfl (by decide) rfl) ?_
  refine jo_pure rfl (pr_len_imm rfl (.tail _ (.head _)) Tryz.underlying45) ?_
  refine jo_pure rfl (pr_lssN (m := a.2.length) (n := 1) rfl rfl) ?_
  refine jo_pure rfl (pr_move rfl) ?_
  refine jo_gpure (j := 4) (want := false) rfl rfl rfl rfl (fun hg => pr_fieldAddr 1 rfl Tryz.underlying48 rfl ty_45 rfl rfl) ?_
  refine jo_gpure (j := 4) (want := false) rfl rfl rfl rfl (fun hg => pr_load_box (av) (evg rfl hg) ty_45 (.head _) rfl (by decide) rfl) ?_
  refine jo_gpure (j := 4) (want := false) rfl rfl rfl rfl (fun hg => pr_len_imm (evg rfl hg) (.tail _ (.head _)) Tryz.underlying45) ?_
  refine jo_gpure (j := 4) (want := false) rfl rfl rfl rfl (fun hg => pr_gtrN (m := a.2.length) (n := 16) (evg rfl hg) rfl) ?_
  refine jo_pure rfl (pr_pick_or rfl rfl rfl) ?_
  refine jo_nil ?_
  refine jq_then ?_
  refine jc_cond rfl (fun h1b => ?_) (fun h1b => ?_)
  · have h1 := (fun q => Or.imp of_decide_eq_true of_decide_eq_true (bt_or q)) h1b
    refine jc_seq ?_
    refine jc_region ?_
    refine jo_pure rfl (pr_assign rfl) ?_
    refine jo_nil ?_
    refine jq_then ?_
    refine jc_ret ?_
    refine jq_then_ret ?_
    refine j_drop ?_
    refine j_drop ?_
    exact jq_ret1 rfl () rfl (show (.bool (validV (kindF a.1) a.2) : Value) = (.bool (false)) from congrArg Value.bool (by rw [validV_no h1])) (fun _ h => h)
  · have h1 := (fun q => And.imp of_decide_eq_false of_decide_eq_false (bf_or q)) h1b
    refine jc_skip ?_
    refine jq_then ?_
    refine jc_seq ?_
    refine jc_region ?_
    refine jo_pure rfl (pr_fieldAddr 0 rfl Tryz.underlying48 rfl ty_9 rfl rfl) ?_
    refine jo_pure rfl (pr_load_box (str (a.1)) rfl ty_9 (.head _) rfl (by decide) rfl) ?_
    refine jo_callp cal_65 (c_variants_domainOf a.1 (by omega)) ⟨rfl, trivial⟩ rfl (trivial) (fun _ => ?_)
    refine jo_pure rfl (pr_assign rfl) ?_
    refine jo_nil ?_
    refine jq_then ?_
    refine jc_seq ?_
    refine jc_region ?_
    refine jo_makeMap rfl (fun m1 => ?_)
    show J _ _ (.mp m1 (mpE .bool (([] : List (List UInt8 × Bool)))) (([] : List (List UInt8 × Bool))).length :: _) _
    refine jo_pure rfl (pr_assign rfl) ?_
    refine jo_nil ?_
    refine jq_then ?_
    refine jc_seq ?_
    refine jc_seq ?_
    refine jc_region ?_
    refine jo_pure rfl (pr_fieldAddr 1 rfl Tryz.underlying48 rfl ty_45 rfl rfl) ?_
    refine jo_pure rfl (pr_load_box (av) rfl ty_45 (.tail _ (.head _)) rfl (by decide) rfl) ?_
    refine jo_pure rfl (pr_len_imm rfl (.tail _ (.tail _ (.head _))) Tryz.underlying45) ?_
    refine jo_pure rfl (pr_move rfl) ?_
    refine jo_nil ?_
    refine jq_then ?_
    refine jc_block ?_
    refine jc_loop2 (fun (i : Nat) (ms : List (List UInt8 × Bool)) => [(3, domV (kindF a.1)), (4, .map (some m1)), (24, av), (25, .int .i64 ((a.2.length : Nat) : Int)), (26, .int .i64 ((i : Nat) : Int))]) (fun (i : Nat) (ms : List (List UInt8 × Bool)) => [.mp m1 (mpE .bool (ms)) (ms).length, .box b1 48 [str (a.1), av], .imm (.list .str) (av) (a.2)]) (fun (i : Nat) (ms : List (List UInt8 × Bool)) => i ≤ a.2.length ∧ distB (fun s => (formF (kindF a.1) s).2) (fun x y => decide ((formF (kindF a.1) y).1 = (formF (kindF a.1) x).1)) [] a.2 i = true ∧ ms = (a.2.take i).map (fun s => ((formF (kindF a.1) s).1, true))) (fun (i : Nat) (ms : List (List UInt8 × Bool)) => a.2.length - i) 0 ([] : List (List UInt8 × Bool)) (⟨Nat.zero_le _, rfl, rfl⟩) (⟨rfl, rfl, rfl, rfl, rfl, trivial⟩) (fun _ h => h) (fun i ms hinv => ?_)
    refine jc_seq ?_
    refine jc_region ?_
    refine jo_pure rfl (pr_lssN (m := i) (n := a.2.length) rfl rfl) ?_
    refine jo_nil ?_
    refine jq_then ?_
    refine jc_seq ?_
    refine jc_cond rfl (fun h2b => ?_) (fun h2b => ?_)
    · have h2 := of_decide_eq_true h2b
      refine jc_skip ?_
      refine jq_then ?_
      refine jc_seq ?_
      refine jc_block ?_
      refine jc_seq ?_
      refine jc_region ?_
      refine jo_pure rfl (pr_idx_imm (i := i) rfl (.tail _ (.tail _ (.head _))) rfl Tryz.underlying45 ty_9 (by omega)) ?_
      refine jo_pure rfl (pr_load_elem_imm (i := i) (str (a.2.getD i [])) rfl (.tail _ (.tail _ (.head _))) ty_9 rfl rfl (by omega) rfl) ?_
      refine jo_pure rfl (pr_assign rfl) ?_
      refine jo_nil ?_
      refine jq_then ?_
      refine jc_seq ?_
      refine jc_region ?_
      refine jo_pure rfl (pr_move rfl) ?_
      refine jo_pure rfl (pr_move rfl) ?_
      refine jo_invokep rfl (form_meth (kindF a.1) (a.2.getD i []) (hm _ (getD_mem h2))) ⟨rfl, trivial⟩ rfl trivial (fun _ => ?_)
      refine jo_pure rfl (pr_move rfl) ?_
      refine jo_pure rfl (pr_extract rfl rfl) ?_
      refine jo_pure rfl (pr_extract rfl rfl) ?_
      refine jo_pure rfl (pr_assign rfl) ?_
      refine jo_pure rfl (pr_assign rfl) ?_
      refine jo_nil ?_
      refine jq_then ?_
      refine jc_seq ?_
      refine jc_seq ?_
      refine jc_region ?_
      refine jo_pure rfl (pr_move rfl) ?_
      refine jo_pure rfl (pr_not rfl) ?_
      refine jo_pure rfl (pr_move rfl) ?_
      refine jo_gpure (j := 2) (want := false) rfl rfl rfl rfl (fun hg => pr_move rfl) ?_
      refine jo_gpure (j := 2) (want := false) rfl rfl rfl rfl (fun hg => pr_move rfl) ?_
      refine jo_gpure (j := 2) (want := false) rfl rfl rfl rfl (fun hg => pr_lookS (ty := .bool) (dd := false) (evg rfl hg) (evg rfl hg) (.head _) Tryz.underlying92 Tryz.underlying9 ty_4 rfl rfl) ?_
      refine jo_pure rfl (pr_pick_or rfl rfl rfl) ?_
      refine jo_nil ?_
      refine jq_then ?_
      refine jc_cond rfl (fun h3b => ?_) (fun h3b => ?_)
      · have h3 := (fun q => Or.imp (fun q => id (bt_not q)) id (bt_or q)) h3b
        refine jc_seq ?_
        refine jc_region ?_
        refine jo_pure rfl (pr_assign rfl) ?_
        refine jo_nil ?_
        refine jq_then ?_
        refine jc_ret ?_
        refine jq_then_ret ?_
        refine jq_in_ret ?_
        refine jq_then_ret ?_
        refine jq_then_ret ?_
        refine jq_in_ret ?_
        refine jq_then_ret ?_
        refine j_drop ?_
        refine j_drop ?_
        refine j_drop ?_
        exact jq_ret1 rfl () rfl (show (.bool (validV (kindF a.1) a.2) : Value) = (.bool (false)) from congrArg Value.bool (by rw [validV_yes (by omega), dist_bad h2 (h3.imp (fun q => by simpa using q) (fun q => (seen_yes hinv.2.2).symm.trans q))])) (fun _ h => h)
      · have h3 := (fun q => And.imp (fun q => id (bf_not q)) id (bf_or q)) h3b
        have hnew := seen_new hinv.2.2 h3.2
        refine jc_skip ?_
        refine jq_then ?_
        refine jc_region ?_
        refine jo_pure rfl (pr_move rfl) ?_
        refine jo_pure rfl (pr_move rfl) ?_
        refine jo_putS (ty := .bool) (l := ms) (k := (formF (kindF a.1) (a.2.getD i [])).1) true rfl rfl rfl rfl Tryz.underlying92 Tryz.underlying9 (hnew) ?_
        refine jo_nil ?_
        refine jq_in_normal ?_
        refine jq_then ?_
        refine jc_region ?_
        refine jo_pure rfl (pr_addN (m := i) (n := 1) rfl rfl (by omega)) ?_
        refine jo_pure rfl (pr_move rfl) ?_
        refine jo_nil ?_
        refine j_pull2 ?_
        refine j_pull2 ?_
        refine j_pull2 ?_
        refine jq_round' ((i + 1), (ms ++ [((formF (kindF a.1) (a.2.getD i [])).1, true)])) (by (try dsimp only); exact (⟨by omega, dist_go hinv.2.1 (by simpa using h3.1) ((seen_yes hinv.2.2).symm.trans h3.2), by rw [mapT_step h2, hinv.2.2]⟩)) (by (try dsimp only); exact (by omega)) ⟨rfl, rfl, rfl, rfl, rfl, trivial⟩ (fun _ h => h)
    · have h2 := of_decide_eq_false h2b
      refine jc_exit ?_
      refine jq_then_exit ?_
      refine jq_then_exit ?_
      refine jq_in_hit ?_
      refine jq_then ?_
      refine jc_seq ?_
      refine jc_region ?_
      refine jo_pure rfl (pr_assign rfl) ?_
      refine jo_nil ?_
      refine jq_then ?_
      refine jc_ret ?_
      refine j_drop ?_
      refine j_drop ?_
      refine j_drop ?_
      exact jq_ret1 rfl () rfl (show (.bool (validV (kindF a.1) a.2) : Value) = (.bool (true)) from congrArg Value.bool (by rw [validV_yes (by omega), dist_done hinv.1 (by omega) hinv.2.1])) (fun _ h => h)

theorem c_variants_Valid (l : List ((List UInt8) × (List (List UInt8)))) (lv : Value) (hl : l.length ≤ 9223372036854775807) (hm : ∀ a ∈ l, a.1.length ≤ 1000000 ∧ (∀ x ∈ a.2, x.length ≤ 300000) ∧ a.2.length ≤ 9223372036854775807) : Con Tryz.prog 18 #[lv] [.imm (.list (.pair .str (.list .str))) (lv) (l)] (fun _ : Unit => .bool (validL l)) (fun _ => []) := by
  refine con_of_J (args := [lv]) (n := 54) Tryz.func18 rfl (Nat.le_of_ble_eq_true rfl) rfl (fun w0 I0 m0 => ?_)
  show J _ [(0, lv)] [.imm (.list (.pair .str (.list .str))) (lv) (l)] _
  refine jc_seq ?_
  refine jc_region ?_
  refine jo_pure rfl (pr_assign rfl) ?_
  refine jo_nil ?_
  refine jq_then ?_
  refine jc_seq ?_
  refine jc_seq ?_
  refine jc_region ?_
  refine jo_pure rfl (pr_move rfl) ?_
  refine jo_pure rfl (pr_len_imm rfl (.head _) Tryz.underlying23) ?_
  refine jo_pure rfl (pr_lssN (m := l.length) (n := 1) rfl rfl) ?_
  refine jo_pure rfl (pr_move rfl) ?_
  refine jo_gpure (j := 3) (want := false) rfl rfl rfl rfl (fun hg => pr_move rfl) ?_
  refine jo_gpure (j := 3) (want := false) rfl rfl rfl rfl (fun hg => pr_len_imm (evg rfl hg) (.head _) Tryz.underlying23) ?_
  refine jo_gpure (j := 3) (want := false) rfl rfl rfl rfl (fun hg => pr_gtrN (m := l.length) (n := 4) (evg rfl hg) rfl) ?_
  refine jo_pure rfl (pr_pick_or rfl rfl rfl) ?_
  refine jo_nil ?_
  refine jq_then ?_
  refine jc_cond rfl (fun h1b => ?_) (fun h1b => ?_)
  · have h1 := (fun q => Or.imp of_decide_eq_true of_decide_eq_true (bt_or q)) h1b
    refine jc_seq ?_
    refine jc_region ?_
    refine jo_pure rfl (pr_assign rfl) ?_
    refine jo_nil ?_
    refine jq_then ?_
    refine jc_ret ?_
    refine jq_then_ret ?_
    refine j_drop ?_
    exact jq_ret1 rfl () rfl (show (.bool (validL l) : Value) = (.bool (false)) from congrArg Value.bool (by rw [validL_no h1])) (fun _ h => h)
  · have h1 := (fun q => And.imp of_decide_eq_false of_decide_eq_false (bf_or q)) h1b
    refine jc_skip ?_
    refine jq_then ?_
    refine jc_seq ?_
    refine jc_seq ?_
    refine jc_region ?_
    refine jo_pure rfl (pr_move rfl) ?_
    refine jo_pure rfl (pr_len_imm rfl (.head _) Tryz.underlying23) ?_
    refine jo_pure rfl (pr_move rfl) ?_
    refine jo_nil ?_
    refine jq_then ?_
    refine jc_block ?_
    refine jc_loop (fun (i : Nat) => [(0, lv), (15, lv), (16, .int .i64 ((l.length : Nat) : Int)), (17, .int .i64 ((i : Nat) : Int))]) (fun (i : Nat) => [.imm (.list (.pair .str (.list .str))) (lv) (l)]) (fun (i : Nat) => i ≤ l.length ∧ distB validA (fun x y => decide (x.1 = y.1)) ([], []) l i = true) (fun (i : Nat) => l.length - i) 0 (⟨Nat.zero_le _, rfl⟩) (⟨rfl, rfl, rfl, rfl, trivial⟩) (fun _ h => h) (fun i hinv => ?_)
    refine jc_seq ?_
    refine jc_region ?_
    refine jo_pure rfl (pr_lssN (m := i) (n := l.length) rfl rfl) ?_
    refine jo_nil ?_
    refine jq_then ?_
    refine jc_seq ?_
    refine jc_cond rfl (fun h2b => ?_) (fun h2b => ?_)
    · have h2 := of_decide_eq_true h2b
      have hA := hm _ (getD_mem (dd := ([], [])) h2)
      refine jc_skip ?_
      refine jq_then ?_
      refine jc_seq ?_
      refine jc_block ?_
      refine jc_seq ?_
      refine jc_region ?_
      refine jo_pure rfl (pr_move rfl) ?_
      refine j_open_elem (t := (.pair .str (.list .str))) (i := i) ([], []) (.head _) (by omega) (fun ⟨_, e1⟩ => ?_)
      show J _ _ (.imm (.list .str) (e1) (((l.getD i ([], []))).2) :: .fact (fun w_ I_ => ElemAt w_ I_ (lv) (i) 2 [str (((l.getD i ([], []))).1), e1]) :: _) _
      refine jo_pure rfl (pr_idx_imm (i := i) rfl (.tail _ (.tail _ (.head _))) rfl Tryz.underlying23 ty_48 (by omega)) ?_
      refine jo_pure rfl (pr_load_at (.agg #[str (((l.getD i ([], []))).1), e1]) rfl (.tail _ (.head _)) ty_48 (by decide) rfl) ?_
      refine jo_alloc ty_48 [str ([]), .slice none 0 0] rfl rfl (fun b1 => ?_)
      refine jo_pure rfl (pr_assign rfl) ?_
      refine jo_storeV rfl rfl ty_48 [str (((l.getD i ([], []))).1), e1] (fun _ _ _ _ => rfl) rfl (fun w I m hs => by simp only [List.all_cons, List.all_nil, Bool.and_true, Bool.and_eq_true]; exact ⟨rfl, (SliceV.one (imm_slice (.tail _ (.head _)) hs))⟩) [str (((l.getD i ([], []))).1), e1] rfl rfl ?_
      refine jo_nil ?_
      refine jq_then ?_
      refine jc_seq ?_
      refine jc_seq ?_
      refine jc_draws mixed (by kernel_rfl) ?_
      refine jd_pure rfl (pr_fieldAddr 0 rfl Tryz.underlying48 rfl ty_9 rfl rfl) ?_
      refine jd_pure rfl (pr_load_box (str (((l.getD i ([], []))).1)) rfl ty_9 (.head _) rfl (by decide) rfl) ?_
      refine jd_callp cal_50 (c_ascii_Token (((l.getD i ([], []))).1) (by first | omega | exact hA.2.1 | exact hA.1 | exact hA.2.2)) ⟨rfl, trivial⟩ rfl (trivial) ?_
      refine jd_pure rfl (pr_not rfl) ?_
      refine jd_pure rfl (pr_move rfl) ?_
      refine jd_gpure (j := 4) (want := false) rfl rfl rfl rfl (fun hg => pr_fieldAddr 0 rfl Tryz.underlying48 rfl ty_9 rfl rfl) ?_
      refine jd_gpure (j := 4) (want := false) rfl rfl rfl rfl (fun hg => pr_load_box (str (((l.getD i ([], []))).1)) (evg rfl hg) ty_9 (.head _) rfl (by decide) rfl) ?_
      refine jd_gcall (j := 4) (want := false) rfl rfl rfl cal_51 (fun hg => c_ascii_Lower (((l.getD i ([], []))).1) (by first | omega | exact hA.2.1 | exact hA.1 | exact hA.2.2)) (fun hg => ⟨evg rfl hg, trivial⟩) rfl (fun _ => trivial) ?_
      refine jd_gpure (j := 4) (want := false) rfl rfl rfl rfl (fun hg => pr_fieldAddr 0 rfl Tryz.underlying48 rfl ty_9 rfl rfl) ?_
      refine jd_gpure (j := 4) (want := false) rfl rfl rfl rfl (fun hg => pr_load_box (str (((l.getD i ([], []))).1)) (evg rfl hg) ty_9 (.head _) rfl (by decide) rfl) ?_
      refine jd_gpure (j := 4) (want := false) rfl rfl rfl rfl (fun hg => pr_sneq (evg rfl hg) (evg rfl hg)) ?_
      refine jd_pure rfl (pr_pick_or rfl rfl rfl) ?_
      refine jd_pure rfl (pr_move rfl) ?_
      refine jd_gpure (j := 12) (want := false) rfl rfl rfl rfl (fun hg => pr_load_box (.agg #[str (((l.getD i ([], []))).1), e1]) rfl ty_48 (.head _) rfl (by decide) rfl) ?_
      refine jd_gcall (j := 12) (want := false) rfl rfl rfl cal_52 (fun hg => c_variants_valid ((l.getD i ([], []))) e1 (by first | omega | exact hA.2.1 | exact hA.1 | exact hA.2.2) (by first | omega | exact hA.2.1 | exact hA.1 | exact hA.2.2) (by first | omega | exact hA.2.1 | exact hA.1 | exact hA.2.2)) (fun hg => ⟨evg rfl hg, trivial⟩) rfl (fun _ => ⟨⟨rfl, .tail _ (.head _)⟩, trivial⟩) ?_
      refine jd_gpure (j := 12) (want := false) rfl rfl rfl rfl (fun hg => pr_not (evg rfl hg)) ?_
      refine jd_pure rfl (pr_pick_or rfl rfl rfl) ?_
      refine jd_nil ?_
      refine jq_then ?_
      refine jc_cond rfl (fun h3b => ?_) (fun h3b => ?_)
      · have h3 := (fun q => Or.imp (fun q => Or.imp (fun q => id (bt_not q)) (fun q => of_decide_eq_false (bt_not q)) (bt_or q)) (fun q => id (bt_not q)) (bt_or q)) h3b
        refine jc_seq ?_
        refine jc_region ?_
        refine jo_pure rfl (pr_assign rfl) ?_
        refine jo_nil ?_
        refine jq_then ?_
        refine jc_ret ?_
        refine jq_then_ret ?_
        refine jq_in_ret ?_
        refine jq_then_ret ?_
        refine jq_then_ret ?_
        refine jq_in_ret ?_
        refine jq_then_ret ?_
        refine j_drop ?_
        refine j_drop ?_
        refine j_drop ?_
        refine j_drop ?_
        exact jq_ret1 rfl () rfl (show (.bool (validL l) : Value) = (.bool (false)) from congrArg Value.bool (by rw [validL_yes (by omega), dist_bad h2 (.inl (by have h9 := h3b; unfold validA; revert h9; cases token (l.getD i ([], [])).1 <;> cases validV (kindF (l.getD i ([], [])).1) (l.getD i ([], [])).2 <;> simp <;> exact fun q => q))])) (fun _ h => h)
      · have h3 := (fun q => And.imp (fun q => And.imp (fun q => id (bf_not q)) (fun q => of_decide_eq_true (bf_not q)) (bf_or q)) (fun q => id (bf_not q)) (bf_or q)) h3b
        have hlI : ((l.take i).drop 0).length = i := by rw [drop0, List.length_take]; omega
        refine jc_skip ?_
        refine jq_then ?_
        refine jc_seq ?_
        refine jc_region ?_
        refine jo_pure rfl (pr_move rfl) ?_
        refine jo_pure rfl (pr_move rfl) ?_
        refine j_resl (l := 0) (h := i) (.tail _ (.tail _ (.tail _ (.head _)))) (by omega) (by omega) ?_
        show J _ _ (.imm (.list (.pair .str (.list .str))) (resl (lv) (0) (i) 2) ((l.take i).drop 0) :: _) _
        refine jo_pure rfl (pr_slice_imm (l := 0) (h := i) rfl (.tail _ (.tail _ (.tail _ (.tail _ (.head _))))) Tryz.underlying23 ty_48 rfl ⟨_, rfl⟩ (by omega) (by omega)) ?_
        refine jo_pure rfl (pr_len_imm rfl (.head _) Tryz.underlying23) ?_
        refine jo_pure rfl (pr_move rfl) ?_
        refine jo_nil ?_
        refine jq_then ?_
        refine jc_block ?_
        refine jc_loop (fun (k : Nat) => [(0, lv), (4, .pointer (some ⟨b1, 0, none⟩)), (15, lv), (16, .int .i64 ((l.length : Nat) : Int)), (17, .int .i64 ((i : Nat) : Int)), (41, resl (lv) (0) (i) 2), (42, .int .i64 ((((l.take i).drop 0).length : Nat) : Int)), (43, .int .i64 ((k : Nat) : Int))]) (fun (k : Nat) => [.imm (.list (.pair .str (.list .str))) (resl (lv) (0) (i) 2) ((l.take i).drop 0), .box b1 48 [str (((l.getD i ([], []))).1), e1], .imm (.list .str) (e1) (((l.getD i ([], []))).2), .fact (fun w_ I_ => ElemAt w_ I_ (lv) (i) 2 [str (((l.getD i ([], []))).1), e1]), .imm (.list (.pair .str (.list .str))) (lv) (l)]) (fun (k : Nat) => k ≤ i ∧ (((l.take i).drop 0).take k).any (fun b => decide ((l.getD i ([], [])).1 = b.1)) = false) (fun (k : Nat) => i - k) 0 (⟨Nat.zero_le _, rfl⟩) (⟨rfl, rfl, rfl, rfl, rfl, rfl, rfl, rfl, trivial⟩) (fun _ h => h) (fun k hink => ?_)
        refine jc_seq ?_
        refine jc_region ?_
        refine jo_pure rfl (pr_lssN (m := k) (n := ((l.take i).drop 0).length) rfl rfl) ?_
        refine jo_nil ?_
        refine jq_then ?_
        refine jc_seq ?_
        refine jc_cond rfl (fun h4b => ?_) (fun h4b => ?_)
        · have h4 := of_decide_eq_true h4b
          refine jc_skip ?_
          refine jq_then ?_
          refine jc_seq ?_
          refine jc_block ?_
          refine jc_seq ?_
          refine jc_region ?_
          refine j_open_elem (t := (.pair .str (.list .str))) (i := k) ([], []) (.head _) (by omega) (fun ⟨_, e2⟩ => ?_)
          show J _ _ (.imm (.list .str) (e2) (((((l.take i).drop 0).getD k ([], []))).2) :: .fact (fun w_ I_ => ElemAt w_ I_ (resl (lv) (0) (i) 2) (k) 2 [str (((((l.take i).drop 0).getD k ([], []))).1), e2]) :: _) _
          refine jo_pure rfl (pr_idx_imm (i := k) rfl (.tail _ (.tail _ (.head _))) rfl Tryz.underlying23 ty_48 (by omega)) ?_
          refine jo_pure rfl (pr_load_at (.agg #[str (((((l.take i).drop 0).getD k ([], []))).1), e2]) rfl (.tail _ (.head _)) ty_48 (by decide) rfl) ?_
          refine jo_alloc ty_48 [str ([]), .slice none 0 0] rfl rfl (fun b2 => ?_)
          refine jo_storeV rfl rfl ty_48 [str (((((l.take i).drop 0).getD k ([], []))).1), e2] (fun _ _ _ _ => rfl) rfl (fun w I m hs => by simp only [List.all_cons, List.all_nil, Bool.and_true, Bool.and_eq_true]; exact ⟨rfl, (SliceV.one (imm_slice (.tail _ (.head _)) hs))⟩) [str (((((l.take i).drop 0).getD k ([], []))).1), e2] rfl rfl ?_
          refine jo_nil ?_
          refine jq_then ?_
          refine jc_seq ?_
          refine jc_region ?_
          refine jo_pure rfl (pr_fieldAddr 0 rfl Tryz.underlying48 rfl ty_9 rfl rfl) ?_
          refine jo_pure rfl (pr_load_box (str (((l.getD i ([], []))).1)) rfl ty_9 (.tail _ (.tail _ (.tail _ (.tail _ (.head _))))) rfl (by decide) rfl) ?_
          refine jo_pure rfl (pr_fieldAddr 0 rfl Tryz.underlying48 rfl ty_9 rfl rfl) ?_
          refine jo_pure rfl (pr_load_box (str (((((l.take i).drop 0).getD k ([], []))).1)) rfl ty_9 (.head _) rfl (by decide) rfl) ?_
          refine jo_pure rfl (pr_seql rfl rfl) ?_
          refine jo_nil ?_
          refine jq_then ?_
          refine jc_cond rfl (fun h5b => ?_) (fun h5b => ?_)
          · have h5 := of_decide_eq_true h5b
            refine jc_seq ?_
            refine jc_region ?_
            refine jo_pure rfl (pr_assign rfl) ?_
            refine jo_nil ?_
            refine jq_then ?_
            refine jc_ret ?_
            refine jq_in_ret ?_
            refine jq_then_ret ?_
            refine jq_then_ret ?_
            refine jq_in_ret ?_
            refine jq_in_ret ?_
            refine jq_then_ret ?_
            refine jq_then_ret ?_
            refine jq_in_ret ?_
            refine jq_then_ret ?_
            refine j_drop ?_
            refine j_drop ?_
            refine j_drop ?_
            refine j_drop ?_
            refine j_drop ?_
            refine j_drop ?_
            refine j_drop ?_
            refine j_drop ?_
            exact jq_ret1 rfl () rfl (show (.bool (validL l) : Value) = (.bool (false)) from congrArg Value.bool (by rw [validL_yes (by omega), dist_bad h2 (.inr (by have h9 := any_hit (p := fun b => decide ((l.getD i ([], [])).1 = b.1)) (dd := ([], [])) h4 h5b; rw [drop0] at h9; exact h9))])) (fun _ h => h)
          · have h5 := of_decide_eq_false h5b
            refine jc_skip ?_
            refine jq_in_normal ?_
            refine jq_then ?_
            refine jc_region ?_
            refine jo_pure rfl (pr_addN (m := k) (n := 1) rfl rfl (by omega)) ?_
            refine jo_pure rfl (pr_move rfl) ?_
            refine jo_nil ?_
            refine j_drop ?_
            refine j_drop ?_
            refine j_drop ?_
            refine j_pull4 ?_
            refine j_pull4 ?_
            refine j_pull4 ?_
            refine j_pull4 ?_
            refine j_pull4 ?_
            refine jq_round' (k + 1) (by (try dsimp only); exact (⟨by omega, any_step (dd := ([], [])) h4 hink.2 h5b⟩)) (by (try dsimp only); exact (by omega)) ⟨rfl, rfl, rfl, rfl, rfl, rfl, rfl, rfl, trivial⟩ (fun _ h => h)
        · have h4 := of_decide_eq_false h4b
          refine jc_exit ?_
          refine jq_then_exit ?_
          refine jq_then_exit ?_
          refine jq_in_hit ?_
          refine jq_in_normal ?_
          refine jq_then ?_
          refine jc_region ?_
          refine jo_pure rfl (pr_addN (m := i) (n := 1) rfl rfl (by omega)) ?_
          refine jo_pure rfl (pr_move rfl) ?_
          refine jo_nil ?_
          refine j_drop ?_
          refine j_drop ?_
          refine j_drop ?_
          refine j_drop ?_
          refine jq_round' (i + 1) (by (try dsimp only); exact (⟨by omega, dist_go hinv.2 (by have h9 := h3; simp only [validA, Bool.and_eq_true, decide_eq_true_eq]; exact h9) (by have h9 := hink.2; rw [take_over (by omega), drop0] at h9; exact h9)⟩)) (by (try dsimp only); exact (by omega)) ⟨rfl, rfl, rfl, rfl, trivial⟩ (fun _ h => h)
    · have h2 := of_decide_eq_false h2b
      refine jc_exit ?_
      refine jq_then_exit ?_
      refine jq_then_exit ?_
      refine jq_in_hit ?_
      refine jq_then ?_
      refine jc_seq ?_
      refine jc_region ?_
      refine jo_pure rfl (pr_assign rfl) ?_
      refine jo_nil ?_
      refine jq_then ?_
      refine jc_ret ?_
      refine j_drop ?_
      exact jq_ret1 rfl () rfl (show (.bool (validL l) : Value) = (.bool (true)) from congrArg Value.bool (by rw [validL_yes (by omega), dist_done hinv.1 (by omega) hinv.2])) (fun _ h => h)

theorem c_slices_Equal_string_string (a : List (List UInt8)) (av : Value) (b : List (List UInt8)) (bv : Value) (hl : a.length ≤ 9223372036854775807) : Con Tryz.prog 45 #[av, bv] [.imm (.list .str) (av) (a), .imm (.list .str) (bv) (b)] (fun _ : Unit => .bool (decide (a = b))) (fun _ => []) := by
  refine con_of_J (args := [av, bv]) (n := 26) Tryz.func45 rfl (Nat.le_of_ble_eq_true rfl) rfl (fun w0 I0 m0 => ?_)
  show J _ [(0, av), (1, bv)] [.imm (.list .str) (av) (a), .imm (.list .str) (bv) (b)] _
  refine jc_seq ?_
  refine jc_region ?_
  refine jo_pure rfl (pr_assign rfl) ?_
  refine jo_nil ?_
  refine jq_then ?_
  refine jc_seq ?_
  refine jc_seq ?_
  refine jc_region ?_
  refine jo_pure rfl (pr_move rfl) ?_
  refine jo_pure rfl (pr_len_imm rfl (.head _) Tryz.underlying45) ?_
  refine jo_pure rfl (pr_move rfl) ?_
  refine jo_pure rfl (pr_len_imm rfl (.tail _ (.head _)) Tryz.underlying45) ?_
  refine jo_pure rfl (pr_neqN (m := a.length) (n := b.length) rfl rfl) ?_
  refine jo_nil ?_
  refine jq_then ?_
  refine jc_cond rfl (fun h1b => ?_) (fun h1b => ?_)
  · have h1 := (fun q => of_decide_eq_false (bt_not q)) h1b
    refine jc_seq ?_
    refine jc_region ?_
    refine jo_pure rfl (pr_assign rfl) ?_
    refine jo_nil ?_
    refine jq_then ?_
    refine jc_ret ?_
    refine jq_then_ret ?_
    refine j_drop ?_
    refine j_drop ?_
    exact jq_ret1 rfl () rfl (show (.bool (decide (a = b)) : Value) = (.bool (false)) from congrArg Value.bool (decide_eq_false (fun e => by rw [e] at h1; simp at h1))) (fun _ h => h)
  · have h1 := (fun q => of_decide_eq_true (bf_not q)) h1b
    have hlen : a.length = b.length := by simpa using h1
    refine jc_skip ?_
    refine jq_then ?_
    refine jc_seq ?_
    refine jc_seq ?_
    refine jc_region ?_
    refine jo_pure rfl (pr_move rfl) ?_
    refine jo_pure rfl (pr_len_imm rfl (.head _) Tryz.underlying45) ?_
    refine jo_pure rfl (pr_move rfl) ?_
    refine jo_nil ?_
    refine jq_then ?_
    refine jc_block ?_
    refine jc_loop (fun (i : Nat) => [(0, av), (1, bv), (12, .int .i64 ((a.length : Nat) : Int)), (13, .int .i64 ((i : Nat) : Int))]) (fun (i : Nat) => [.imm (.list .str) (av) (a), .imm (.list .str) (bv) (b)]) (fun (i : Nat) => i ≤ a.length ∧ a.take i = b.take i) (fun (i : Nat) => a.length - i) 0 (⟨Nat.zero_le _, rfl⟩) (⟨rfl, rfl, rfl, rfl, trivial⟩) (fun _ h => h) (fun i hinv => ?_)
    refine jc_seq ?_
    refine jc_region ?_
    refine jo_pure rfl (pr_lssN (m := i) (n := a.length) rfl rfl) ?_
    refine jo_nil ?_
    refine jq_then ?_
    refine jc_seq ?_
    refine jc_cond rfl (fun h2b => ?_) (fun h2b => ?_)
    · have h2 := of_decide_eq_true h2b
      refine jc_skip ?_
      refine jq_then ?_
      refine jc_seq ?_
      refine jc_block ?_
      refine jc_seq ?_
      refine jc_region ?_
      refine jo_pure rfl (pr_move rfl) ?_
      refine jo_pure rfl (pr_assign rfl) ?_
      refine jo_nil ?_
      refine jq_then ?_
      refine jc_seq ?_
      refine jc_draws mixed (by kernel_rfl) ?_
      refine jd_pure rfl (pr_move rfl) ?_
      refine jd_pure rfl (pr_move rfl) ?_
      refine jd_pure rfl (pr_idx_imm (i := i) rfl (.head _) rfl Tryz.underlying45 ty_9 (by omega)) ?_
      refine jd_pure rfl (pr_load_elem_imm (i := i) (str (a.getD i [])) rfl (.head _) ty_9 rfl rfl (by omega) rfl) ?_
      refine jd_pure rfl (pr_move rfl) ?_
      refine jd_pure rfl (pr_move rfl) ?_
      refine jd_pure rfl (pr_idx_imm (i := i) rfl (.tail _ (.head _)) rfl Tryz.underlying45 ty_9 (by omega)) ?_
      refine jd_pure rfl (pr_load_elem_imm (i := i) (str (b.getD i [])) rfl (.tail _ (.head _)) ty_9 rfl rfl (by omega) rfl) ?_
      refine jd_pure rfl (pr_sneq rfl rfl) ?_
      refine jd_nil ?_
      refine jq_then ?_
      refine jc_cond rfl (fun h3b => ?_) (fun h3b => ?_)
      · have h3 := (fun q => of_decide_eq_false (bt_not q)) h3b
        refine jc_seq ?_
        refine jc_region ?_
        refine jo_pure rfl (pr_assign rfl) ?_
        refine jo_nil ?_
        refine jq_then ?_
        refine jc_ret ?_
        refine jq_in_ret ?_
        refine jq_then_ret ?_
        refine jq_then_ret ?_
        refine jq_in_ret ?_
        refine jq_then_ret ?_
        refine j_drop ?_
        refine j_drop ?_
        exact jq_ret1 rfl () rfl (show (.bool (decide (a = b)) : Value) = (.bool (false)) from congrArg Value.bool (decide_eq_false (fun e => by rw [e] at h3; simp at h3))) (fun _ h => h)
      · have h3 := (fun q => of_decide_eq_true (bf_not q)) h3b
        refine jc_skip ?_
        refine jq_in_normal ?_
        refine jq_then ?_
        refine jc_region ?_
        refine jo_pure rfl (pr_addN (m := i) (n := 1) rfl rfl (by omega)) ?_
        refine jo_pure rfl (pr_move rfl) ?_
        refine jo_nil ?_
        refine j_pull1 ?_
        refine j_pull1 ?_
        refine jq_round' (i + 1) (by (try dsimp only); exact (⟨by omega, take_eq_step (dd := []) h2 (by omega) hinv.2 h3⟩)) (by (try dsimp only); exact (by omega)) ⟨rfl, rfl, rfl, rfl, trivial⟩ (fun _ h => h)
    · have h2 := of_decide_eq_false h2b
      refine jc_exit ?_
      refine jq_then_exit ?_
      refine jq_then_exit ?_
      refine jq_in_hit ?_
      refine jq_then ?_
      refine jc_seq ?_
      refine jc_region ?_
      refine jo_pure rfl (pr_assign rfl) ?_
      refine jo_nil ?_
      refine jq_then ?_
      refine jc_ret ?_
      refine j_drop ?_
      refine j_drop ?_
      exact jq_ret1 rfl () rfl (show (.bool (decide (a = b)) : Value) = (.bool (true)) from congrArg Value.bool (decide_eq_true (by have := hinv.2; rwa [List.take_of_length_le (by omega), List.take_of_length_le (by omega)] at this))) (fun _ h => h)

end Go.Proofs.YtgahnjchpomcfaaGreatDoor
