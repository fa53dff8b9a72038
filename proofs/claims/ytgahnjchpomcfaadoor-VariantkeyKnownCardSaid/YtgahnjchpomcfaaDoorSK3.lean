/-
 Contracts of functions of the program: each returns what a plain function says, for every input within the bounds named. Conditions: the bounds.
-/
import Derived.Test.YtgahnjchpomcfaaDoorRows
import Derived.Test.YtgahnjchpomcfaaDoorSK2
import Derived.Test.YtgahnjchpomcfaaDoorSLawB
namespace Go.Proofs.YtgahnjchpomcfaaDoor
open Go Go.Sep
set_option linter.unusedSimpArgs false
set_option linter.unusedVariables false

open Go.Plain

theorem cal_22 : Cal Tryd.prog 22 := cal_of Tryd.func22 (by kernel_rfl) rfl
theorem cal_25 : Cal Tryd.prog 25 := cal_of Tryd.func25 (by kernel_rfl) rfl
theorem cal_26 : Cal Tryd.prog 26 := cal_of Tryd.func26 (by kernel_rfl) rfl
theorem cal_27 : Cal Tryd.prog 27 := cal_of Tryd.func27 (by kernel_rfl) rfl
theorem cal_36 : Cal Tryd.prog 36 := cal_of Tryd.func36 (by kernel_rfl) rfl
theorem cal_41 : Cal Tryd.prog 41 := cal_of Tryd.func41 (by kernel_rfl) rfl
theorem cal_45 : Cal Tryd.prog 45 := cal_of Tryd.func45 (by kernel_rfl) rfl
theorem cal_48 : Cal Tryd.prog 48 := cal_of Tryd.func48 (by kernel_rfl) rfl
theorem cal_54 : Cal Tryd.prog 54 := cal_of Tryd.func54 (by kernel_rfl) rfl
theorem cal_55 : Cal Tryd.prog 55 := cal_of Tryd.func55 (by kernel_rfl) rfl
theorem cal_62 : Cal Tryd.prog 62 := cal_of Tryd.func62 (by kernel_rfl) rfl
theorem cal_63 : Cal Tryd.prog 63 := cal_of Tryd.func63 (by kernel_rfl) rfl
theorem cal_86 : Cal Tryd.prog 86 := cal_of Tryd.func86 (by kernel_rfl) rfl
theorem cal_87 : Cal Tryd.prog 87 := cal_of Tryd.func87 (by kernel_rfl) rfl
theorem cal_88 : Cal Tryd.prog 88 := cal_of Tryd.func88 (by kernel_rfl) rfl
theorem cal_90 : Cal Tryd.prog 90 := cal_of Tryd.func90 (by kernel_rfl) rfl
theorem cal_100 : Cal Tryd.prog 100 := cal_of Tryd.func100 (by kernel_rfl) rfl
theorem cal_110 : Cal Tryd.prog 110 := cal_of Tryd.func110 (by kernel_rfl) rfl
theorem ty_31 : TyF Tryd.prog 31 false 1 24 (some (.slice none 0 0)) := ⟨by kernel_rfl, by kernel_rfl⟩
theorem ty_33 : TyF Tryd.prog 33 true 2 40 (some (.agg #[str ([]), .slice none 0 0])) := ⟨by kernel_rfl, by kernel_rfl⟩
theorem ty_112 : TyF Tryd.prog 112 false 1 24 (some (.slice none 0 0)) := ⟨by kernel_rfl, by kernel_rfl⟩

theorem c_unicode_utf8_ValidRune (r : Int)  : Con Tryd.prog 63 #[.int .i32 (r)] [] (fun _ : Unit => .bool (validRune r)) (fun _ => []) := by
 refine con_of_J (args := [.int .i32 (r)]) (n := 17) Tryd.func63 rfl (Nat.le_of_ble_eq_true rfl) rfl (fun w0 I0 m0 => ?_)
 show J _ [(0, .int .i32 (r))] [] _
 refine jc_seq (jc_region (jo_pure rfl (pr_assign rfl) (jo_nil (jq_then (jc_seq ?_)))))
 refine jc_block (jc_seq (jc_region (jo_pure rfl (pr_move rfl) (jo_pure rfl (pr_leq (m := 0) rfl rfl) ?_))))
 refine jo_pure rfl (pr_move rfl) (jo_gpure (j := 2) (want := true) rfl rfl rfl rfl (fun hg => pr_move rfl) ?_)
 refine jo_gpure (j := 2) (want := true) rfl rfl rfl rfl (fun hg => pr_lss (n := 55296) (evg rfl hg) rfl) ?_
 refine jo_pure rfl (pr_pick_and rfl rfl rfl) ?_
 refine jo_pure rfl (pr_assign rfl) (jo_nil (jq_then ?_))
 refine jc_cond rfl (fun h1b => ?_) (fun h1b => ?_)
 ·have h1 := (fun q => And.imp of_decide_eq_true of_decide_eq_true (bt_and q)) h1b
  refine jc_seq (jc_region (jo_pure rfl (pr_assign rfl) (jo_nil (jq_then (jc_ret ?_)))))
  refine jq_in_ret ?_
  refine jq_then_ret ?_
  exact jq_ret1 rfl () rfl (show (.bool (validRune r) : Value) = (.bool (true)) from congrArg Value.bool (by unfold validRune; rw [decide_eq_true]; omega)) (fun _ h => h)
 ·have h1 := (fun q => Or.imp of_decide_eq_false of_decide_eq_false (bf_and q)) h1b
  refine jc_seq (jc_region (jo_pure rfl (pr_move rfl) (jo_pure rfl (pr_lss (m := 57343) rfl rfl) ?_)))
  refine jo_pure rfl (pr_move rfl) (jo_gpure (j := 2) (want := true) rfl rfl rfl rfl (fun hg => pr_move rfl) ?_)
  refine jo_gpure (j := 2) (want := true) rfl rfl rfl rfl (fun hg => pr_leq (n := 1114111) (evg rfl hg) rfl) ?_
  refine jo_pure rfl (pr_pick_and rfl rfl rfl) ?_
  refine jo_pure rfl (pr_assign rfl) (jo_nil (jq_then ?_))
  refine jc_cond rfl (fun h2b => ?_) (fun h2b => ?_)
  ·have h2 := (fun q => And.imp of_decide_eq_true of_decide_eq_true (bt_and q)) h2b
   refine jc_seq (jc_region (jo_pure rfl (pr_assign rfl) (jo_nil (jq_then (jc_ret ?_)))))
   refine jq_in_ret ?_
   refine jq_then_ret ?_
   exact jq_ret1 rfl () rfl (show (.bool (validRune r) : Value) = (.bool (true)) from congrArg Value.bool (by unfold validRune; rw [decide_eq_true]; omega)) (fun _ h => h)
  ·have h2 := (fun q => Or.imp of_decide_eq_false of_decide_eq_false (bf_and q)) h2b
   refine jc_skip (jq_in_normal (jq_then (jc_seq (jc_region (jo_pure rfl (pr_assign rfl) ?_)))))
   refine jo_nil (jq_then (jc_ret ?_))
   exact jq_ret1 rfl () rfl (show (.bool (validRune r) : Value) = (.bool (false)) from congrArg Value.bool (by unfold validRune; rw [decide_eq_false]; omega)) (fun _ h => h)

theorem c_strings_IndexByte (s : List UInt8) (c : UInt8)  : Con Tryd.prog 62 #[str (s), byte (c)] [] (fun _ : Unit => .int .i64 (idx s c)) (fun _ => []) := by
 refine con_of_J (args := [str (s), byte (c)]) (n := 8) Tryd.func62 rfl (Nat.le_of_ble_eq_true rfl) rfl (fun w0 I0 m0 => ?_)
 show J _ [(0, str (s)), (1, byte (c))] [] _
 refine jc_seq (jc_region (jo_pure rfl (pr_assign rfl) (jo_nil (jq_then (jc_seq ?_)))))
 refine jc_region (jo_pure rfl (pr_move rfl) (jo_pure rfl (pr_move rfl) ?_))
 refine jo_callp cal_67 (c_internal_stringslite_IndexByte s c) ⟨rfl, rfl, trivial⟩ rfl (trivial) (fun _ => ?_)
 refine jo_pure rfl (pr_assign rfl) (jo_nil (jq_then (jc_ret ?_)))
 exact jq_ret1 rfl () rfl (show (.int .i64 (idx s c) : Value) = (.int .i64 (idx s c)) from rfl) (fun _ h => h)

theorem c_strings_IndexRune (r : Int)  : Con Tryd.prog 54 #[str (gsigns), .int .i32 (r)] [] (fun _ : Unit => .int .i64 (idxR r)) (fun _ => []) := by
 refine con_of_J (args := [str (gsigns), .int .i32 (r)]) (n := 187) Tryd.func54 rfl (Nat.le_of_ble_eq_true rfl) rfl (fun w0 I0 m0 => ?_)
 show J _ [(0, str (gsigns)), (1, .int .i32 (r))] [] _
 have hgl : gsigns.length = 6 := rfl
 refine jc_seq (jc_region (jo_pure rfl (pr_assign rfl) (jo_nil (jq_then (jc_block ?_)))))
 refine jc_seq (jc_region (jo_pure rfl (pr_move rfl) (jo_pure rfl (pr_leq (m := 0) rfl rfl) ?_)))
 refine jo_pure rfl (pr_move rfl) (jo_gpure (j := 2) (want := true) rfl rfl rfl rfl (fun hg => pr_move rfl) ?_)
 refine jo_gpure (j := 2) (want := true) rfl rfl rfl rfl (fun hg => pr_lss (n := 128) (evg rfl hg) rfl) ?_
 refine jo_pure rfl (pr_pick_and rfl rfl rfl) ?_
 refine jo_pure rfl (pr_assign rfl) (jo_nil (jq_then ?_))
 refine jc_cond rfl (fun h1b => ?_) (fun h1b => ?_)
 ·have h1 := (fun q => And.imp of_decide_eq_true of_decide_eq_true (bt_and q)) h1b
  refine jc_seq (jc_region (jo_pure rfl (pr_move rfl) (jo_pure rfl (pr_move rfl) (jo_pure rfl (pr_intK_u8 (m := r) rfl Tryd.underlying21 Tryd.underlying5 (by omega) (by omega)) ?_))))
  refine jo_callp cal_62 (c_strings_IndexByte gsigns (UInt8.ofNat (r).toNat)) ⟨rfl, rfl, trivial⟩ rfl (trivial) (fun _ => ?_)
  refine jo_pure rfl (pr_assign rfl) (jo_nil (jq_then (jc_ret (jq_in_ret ?_))))
  exact jq_ret1 rfl () rfl (show (.int .i64 (idxR r) : Value) = (.int .i64 (idx gsigns (UInt8.ofNat (r).toNat))) from congrArg (Value.int .i64) (by rw [idxR_small (by omega)])) (fun _ h => h)
 ·have h1 := (fun q => Or.imp of_decide_eq_false of_decide_eq_false (bf_and q)) h1b
  refine jc_seq (jc_region (jo_pure rfl (pr_move rfl) (jo_pure rfl (pr_eql (n := 65533) rfl rfl) ?_)))
  refine jo_pure rfl (pr_assign rfl) (jo_nil (jq_then ?_))
  refine jc_cond rfl (fun h2b => ?_) (fun h2b => ?_)
  ·have h2 := of_decide_eq_true h2b
   refine jc_seq (jc_seq (jc_region (jo_pure rfl (pr_move rfl) ?_)))
   refine jo_range_str rfl Tryd.underlying9 rfl (fun it1 => ?_)
   refine jo_nil (jq_then (jc_block ?_))
   refine jc_loop (fun (p : Nat) => [(175, .pointer (some ⟨it1, 0, none⟩))]) (fun (p : Nat) => [.obj it1 (.stringIter ⟨(gsigns).toArray⟩ (p))]) (fun (p : Nat) => p ≤ gsigns.length) (fun (p : Nat) => gsigns.length - p) 0 (Nat.zero_le _) (⟨rfl, trivial⟩) (fun _ h => h) (fun p hinv => ?_)
   refine jc_seq ?_
   by_cases hn : p < gsigns.length
   ·skip
    have hru := gs_rune hn
    refine jc_region (jo_next_str (p := p) rfl (by omega) rfl ?_)
    refine jo_pure rfl (pr_extract rfl rfl) ?_
    refine jo_nil (jq_then (jc_seq (jc_true rfl (rfl) ?_)))
    refine jc_skip (jq_then (jc_block (jc_seq (jc_region (jo_pure rfl (pr_extract rfl rfl) ?_)))))
    refine jo_pure rfl (pr_extract rfl rfl) ?_
    refine jo_pure rfl (pr_assign rfl) (jo_pure rfl (pr_assign rfl) (jo_nil (jq_then (jc_seq (jc_region ?_)))))
    refine jo_pure rfl (pr_move rfl) (jo_pure rfl (pr_eql (n := 65533) rfl rfl) ?_)
    refine jo_nil (jq_then ?_)
    refine jc_cond rfl (fun h3b => ?_) (fun h3b => ?_)
    ·have h3 := of_decide_eq_true h3b
     exact absurd h3 (by omega)
    ·have h3 := of_decide_eq_false h3b
     refine jc_skip (jq_in_normal ?_)
     refine jq_round' (p + runeW gsigns p) (by (try dsimp only); exact (by omega)) (by (try dsimp only); exact (by omega)) ⟨rfl, trivial⟩ (fun _ h => h)
   ·skip
    refine jc_region (jo_pure rfl (pr_next_end rfl (.head _) (by omega)) ?_)
    refine jo_pure rfl (pr_extract rfl rfl) ?_
    refine jo_nil (jq_then (jc_seq (jc_false rfl (rfl) ?_)))
    refine jc_exit ?_
    refine jq_then_exit ?_
    refine jq_then_exit ?_
    refine jq_in_hit ?_
    refine jq_then (jc_seq (jc_region (jo_pure rfl (pr_assign rfl) (jo_nil (jq_then ?_)))))
    refine jc_ret (jq_in_ret ?_)
    refine j_drop ?_
    exact jq_ret1 rfl () rfl (show (.int .i64 (idxR r) : Value) = (.int .i64 (-1)) from congrArg (Value.int .i64) (by rw [idxR_no (by omega)])) (fun _ h => h)
  ·have h2 := of_decide_eq_false h2b
   refine jc_seq (jc_region (jo_pure rfl (pr_move rfl) ?_))
   refine jo_callp cal_63 (c_unicode_utf8_ValidRune r) ⟨rfl, trivial⟩ rfl (trivial) (fun _ => ?_)
   refine jo_pure rfl (pr_not rfl) ?_
   refine jo_pure rfl (pr_assign rfl) (jo_nil (jq_then ?_))
   refine jc_cond rfl (fun h4b => ?_) (fun h4b => ?_)
   ·have h4 := (fun q => id (bt_not q)) h4b
    refine jc_seq (jc_region (jo_pure rfl (pr_assign rfl) (jo_nil (jq_then (jc_ret ?_)))))
    refine jq_in_ret ?_
    exact jq_ret1 rfl () rfl (show (.int .i64 (idxR r) : Value) = (.int .i64 (-1)) from congrArg (Value.int .i64) (by rw [idxR_no (fun e => by have h9 : validRune r = false := (by simpa using h4b); unfold validRune at h9; have := of_decide_eq_false h9; omega)])) (fun _ h => h)
   ·have h4 := (fun q => id (bf_not q)) h4b
    have hv : validRune r = true := by simpa using h4b
    have hef := encR_facts hv (by have h9 := hv; unfold validRune at h9; have := of_decide_eq_true h9; omega)
    refine jc_scope ?_
    refine jc_seq (jc_region (jo_pure rfl (pr_move rfl) (jo_pure rfl (pr_rune_str (n := r) rfl (by kernel_rfl) Tryd.underlying9) ?_)))
    refine jo_pure rfl (pr_assign rfl) (jo_nil (jq_then (jc_seq (jc_region (jo_pure rfl (pr_move rfl) ?_)))))
    refine jo_pure rfl (pr_slen rfl Tryd.underlying9) ?_
    refine jo_pure rfl (pr_subN (m := (encR (r)).length) (n := 1) rfl rfl (by omega) (by omega)) ?_
    refine jo_pure rfl (pr_assign rfl) (jo_nil (jq_then (jc_seq (jc_region (jo_pure rfl (pr_move rfl) ?_)))))
    refine jo_pure rfl (pr_assign rfl) (jo_nil (jq_then (jc_seq (jc_region (jo_pure rfl (pr_assign rfl) ?_)))))
    refine jo_nil (jq_then (jc_seq (jc_block ?_)))
    refine jc_loop (fun (i : Nat) => [(0, str (gsigns)), (7, str (encR (r))), (8, .int .i64 ((((encR (r)).length) - 1 : Nat) : Int)), (9, .int .i64 ((i : Nat) : Int))]) (fun (i : Nat) => []) (fun (i : Nat) => i = (encR r).length - 1) (fun (i : Nat) => 0) (((encR (r)).length) - 1) (rfl) (⟨rfl, rfl, rfl, rfl, trivial⟩) (fun _ h => h) (fun i hinv => ?_)
    refine jc_seq (jc_seq (jc_region (jo_pure rfl (pr_move rfl) (jo_pure rfl (pr_move rfl) (jo_pure rfl (pr_slen rfl Tryd.underlying9) ?_)))))
    refine jo_pure rfl (pr_lssN (m := i) (n := gsigns.length) rfl rfl) ?_
    refine jo_nil (jq_then ?_)
    refine jc_cond rfl (fun h5b => ?_) (fun h5b => ?_)
    ·have h5 := of_decide_eq_true h5b
     refine jc_skip (jq_then (jc_block (jc_scope ?_)))
     refine jc_seq (jc_seq (jc_draws mixed (by kernel_rfl) (jd_pure rfl (pr_move rfl) ?_)))
     refine jd_pure rfl (pr_move rfl) ?_
     refine jd_pure rfl (pr_sindex (i := i) rfl rfl Tryd.underlying9 (by first | omega | (rw [hgl]; omega))) ?_
     refine jd_pure rfl (pr_move rfl) ?_
     refine jd_pure rfl (pr_move rfl) ?_
     refine jd_pure rfl (pr_sindex (i := ((encR (r)).length) - 1) rfl rfl Tryd.underlying9 (by first | omega | (rw [hgl]; omega))) ?_
     refine jd_pure rfl (pr_bneq rfl rfl) ?_
     refine jd_nil ?_
     refine jq_then ?_
     refine jc_cond rfl (fun h6b => ?_) (fun h6b => ?_)
     ·have h6 := (fun q => of_decide_eq_false (bt_not q)) h6b
      refine jc_seq (jc_draws mixed (by kernel_rfl) (jd_pure rfl (pr_move rfl) ?_))
      refine jd_pure rfl (pr_move rfl) ?_
      refine jd_pure rfl (pr_addN (m := i) (n := 1) rfl rfl (by omega)) ?_
      refine jd_pure rfl (pr_sslice_lo (i := i + 1) rfl rfl Tryd.underlying9 (by omega)) ?_
      refine jd_pure rfl (pr_move rfl) ?_
      refine jd_pure rfl (pr_move rfl) ?_
      refine jd_pure rfl (pr_sindex (i := ((encR (r)).length) - 1) rfl rfl Tryd.underlying9 (by first | omega | (rw [hgl]; omega))) ?_
      refine jd_callp cal_62 (c_strings_IndexByte (gsigns.drop (i + 1)) ((encR (r)).getD (((encR (r)).length) - 1) 0)) ⟨rfl, rfl, trivial⟩ rfl (trivial) ?_
      refine jd_pure rfl (pr_assign rfl) ?_
      refine jd_nil ?_
      refine jq_then (jc_seq (jc_seq (jc_region (jo_pure rfl (pr_move rfl) (jo_pure rfl (pr_lss (n := 0) rfl rfl) ?_)))))
      refine jo_nil (jq_then ?_)
      refine jc_cond rfl (fun h7b => ?_) (fun h7b => ?_)
      ·have h7 := of_decide_eq_true h7b
       refine jc_seq (jc_region (jo_pure rfl (pr_assign rfl) (jo_nil (jq_then (jc_ret ?_)))))
       refine jq_then_ret (jq_then_ret (jq_scope_ret ?_))
       refine jq_in_ret ?_
       refine jq_then_ret (jq_in_ret ?_)
       refine jq_then_ret (jq_scope_ret ?_)
       refine jq_in_ret ?_
       exact jq_ret1 rfl () rfl (show (.int .i64 (idxR r) : Value) = (.int .i64 (-1)) from congrArg (Value.int .i64) (by rw [idxR_no (by omega)])) (fun _ h => h)
      ·have h7 := of_decide_eq_false h7b
       exact absurd h7 (by rw [gs_idx hef.2.2]; decide)
     ·have h6 := (fun q => of_decide_eq_true (bf_not q)) h6b
      exact absurd h6 (gs_ne hef.2.2 i)
    ·have h5 := of_decide_eq_false h5b
     exact absurd h5 (by omega)

theorem c_strings_shouldUseASCIISet (n : Nat)  : Con Tryd.prog 55 #[.int .i64 ((n : Nat) : Int)] [] (fun _ : Unit => .bool (decide (8 < n))) (fun _ => []) := by
 refine con_of_J (args := [.int .i64 ((n : Nat) : Int)]) (n := 5) Tryd.func55 rfl (Nat.le_of_ble_eq_true rfl) rfl (fun w0 I0 m0 => ?_)
 show J _ [(0, .int .i64 ((n : Nat) : Int))] [] _
 refine jc_seq (jc_region (jo_pure rfl (pr_assign rfl) (jo_nil (jq_then (jc_seq ?_)))))
 refine jc_region (jo_pure rfl (pr_move rfl) (jo_pure rfl (pr_gtrN (m := n) (n := 8) rfl rfl) ?_))
 refine jo_pure rfl (pr_assign rfl) (jo_nil (jq_then (jc_ret ?_)))
 exact jq_ret1 rfl () rfl (show (.bool (decide (8 < n)) : Value) = (.bool (decide ((8 : Nat) < n))) from rfl) (fun _ h => h)

theorem c_strings_IndexAny (s : List UInt8) (hs : s.length ≤ 1000000) : Con Tryd.prog 45 #[str (s), str (gsigns)] [] (fun _ : Unit => .int .i64 (idxP sgB s)) (fun _ => []) := by
 refine con_of_J (args := [str (s), str (gsigns)]) (n := 55) Tryd.func45 rfl (Nat.le_of_ble_eq_true rfl) rfl (fun w0 I0 m0 => ?_)
 show J _ [(0, str (s)), (1, str (gsigns))] [] _
 have hgl : gsigns.length = 6 := rfl
 refine jc_seq (jc_region (jo_pure rfl (pr_assign rfl) (jo_nil (jq_then (jc_seq ?_)))))
 refine jc_seq (jc_region (jo_pure rfl (pr_move rfl) (jo_pure rfl (pr_seql rfl rfl) ?_)))
 refine jo_nil (jq_then ?_)
 refine jc_cond rfl (fun h1b => ?_) (fun h1b => ?_)
 ·have h1 := of_decide_eq_true h1b
  exact absurd h1 (by decide)
 ·have h1 := of_decide_eq_false h1b
  refine jc_skip (jq_then (jc_seq (jc_seq (jc_region (jo_pure rfl (pr_move rfl) ?_)))))
  refine jo_pure rfl (pr_slen rfl Tryd.underlying9) ?_
  refine jo_pure rfl (pr_eqlN (m := gsigns.length) (n := 1) rfl rfl) ?_
  refine jo_nil (jq_then ?_)
  refine jc_cond rfl (fun h2b => ?_) (fun h2b => ?_)
  ·have h2 := of_decide_eq_true h2b
   exact absurd h2 (by decide)
  ·have h2 := of_decide_eq_false h2b
   refine jc_skip (jq_then (jc_seq (jc_seq (jc_region (jo_pure rfl (pr_move rfl) ?_)))))
   refine jo_pure rfl (pr_slen rfl Tryd.underlying9) ?_
   refine jo_callp cal_55 (c_strings_shouldUseASCIISet s.length) ⟨rfl, trivial⟩ rfl (trivial) (fun _ => ?_)
   refine jo_nil (jq_then ?_)
   refine jc_cond rfl (fun h3b => ?_) (fun h3b => ?_)
   ·have h3 := id h3b
    refine jc_seq (jc_region (jo_pure rfl (pr_move rfl) ?_))
    refine jo_callp cal_42 (c_strings_makeASCIISet gsigns (by first | omega | rfl | decide) (by first | omega | rfl | decide)) ⟨rfl, trivial⟩ rfl (trivial) (fun _ => ?_)
    refine jo_pure rfl (pr_move rfl) (jo_pure rfl (pr_extract rfl rfl) ?_)
    refine jo_pure rfl (pr_extract rfl rfl) ?_
    refine jo_alloc_arr (t := .bool) ty_71 (List.replicate 256 false) (by kernel_rfl) rfl (by rw [List.length_replicate]; simp [maxLen]) rfl (fun b1 => ?_)
    refine jo_store_arr (ys := setOf gsigns) rfl rfl ty_71 rfl (by first | rfl | exact (setOf_len _).trans List.length_replicate.symm) (by first | rfl | exact (setOf_len _).trans List.length_replicate.symm) (by first | (rw [setOf_len]; rfl) | (rw [List.length_replicate]; rfl)) ?_
    refine jo_pure rfl (pr_assign rfl) (jo_nil (jq_then (jc_seq (jc_region (jo_pure rfl (pr_move rfl) ?_)))))
    refine jo_nil (jq_then (jc_true rfl (rfl) ?_))
    refine jc_seq (jc_seq (j_pub_arr rfl (by exact (setOf_len _).trans List.length_replicate.symm) ?_))
    refine jc_region (jo_pure rfl (pr_assign rfl) (jo_nil (jq_then (jc_block ?_))))
    refine jc_loop (fun (i : Nat) => [(0, str (s)), (6, .pointer (some ⟨b1, 0, none⟩)), (8, .int .i64 ((i : Nat) : Int))]) (fun (i : Nat) => [.ibox b1 71 ((setOf gsigns).flatMap (enc .bool))]) (fun (i : Nat) => i ≤ s.length ∧ (s.take i).any sgB = false) (fun (i : Nat) => s.length - i) 0 (⟨Nat.zero_le _, rfl⟩) (⟨rfl, rfl, rfl, trivial⟩) (fun _ h => h) (fun i hinv => ?_)
    refine jc_seq (jc_seq (jc_region (jo_pure rfl (pr_move rfl) (jo_pure rfl (pr_move rfl) (jo_pure rfl (pr_slen rfl Tryd.underlying9) ?_)))))
    refine jo_pure rfl (pr_lssN (m := i) (n := s.length) rfl rfl) ?_
    refine jo_nil (jq_then ?_)
    refine jc_cond rfl (fun h4b => ?_) (fun h4b => ?_)
    ·have h4 := of_decide_eq_true h4b
     refine jc_skip (jq_then (jc_seq (jc_block (jc_seq (jc_region ?_)))))
     refine jo_pure rfl (pr_move rfl) (jo_pure rfl (pr_move rfl) (jo_pure rfl (pr_sindex (i := i) rfl rfl Tryd.underlying9 (by omega)) ?_))
     refine jo_callp cal_51 (c_asciiSet_contains (setOf gsigns) b1 (s.getD i 0) (setOf_len _)) ⟨rfl, rfl, trivial⟩ rfl (⟨⟨rfl, .head _⟩, trivial⟩) (fun _ => ?_)
     refine jo_nil (jq_then ?_)
     refine jc_cond rfl (fun h5b => ?_) (fun h5b => ?_)
     ·have h5 := id h5b
      refine jc_seq (jc_region (jo_pure rfl (pr_move rfl) (jo_pure rfl (pr_assign rfl) (jo_nil (jq_then ?_)))))
      refine jc_ret (jq_in_ret ?_)
      refine jq_then_ret (jq_then_ret (jq_in_ret ?_))
      refine jq_then_ret (jq_then_ret (j_drop ?_))
      exact jq_ret1 rfl () rfl (show (.int .i64 (idxP sgB s) : Value) = (.int .i64 ((i : Nat) : Int)) from congrArg (Value.int .i64) (by rw [idxP_hit h4 hinv.2 (by rw [← sg_set]; exact h5)])) (fun _ h => h)
     ·have h5 := id h5b
      refine jc_skip (jq_in_normal (jq_then (jc_region (jo_pure rfl (pr_move rfl) (jo_pure rfl (pr_addN (m := i) (n := 1) rfl rfl (by omega)) ?_)))))
      refine jo_pure rfl (pr_assign rfl) (jo_nil ?_)
      refine jq_round' (i + 1) (by (try dsimp only); exact (⟨by omega, any_step (dd := 0) h4 hinv.2 (by rw [← sg_set]; exact h5)⟩)) (by (try dsimp only); exact (by omega)) ⟨rfl, rfl, rfl, trivial⟩ (fun _ h => h)
    ·have h4 := of_decide_eq_false h4b
     refine jc_exit ?_
     refine jq_then_exit ?_
     refine jq_then_exit ?_
     refine jq_in_hit ?_
     refine jq_then (jc_seq (jc_region (jo_pure rfl (pr_assign rfl) (jo_nil (jq_then ?_)))))
     refine jc_ret (jq_then_ret (j_drop ?_))
     exact jq_ret1 rfl () rfl (show (.int .i64 (idxP sgB s) : Value) = (.int .i64 (-1)) from congrArg (Value.int .i64) (by rw [idxP_none (any_end (by omega) hinv.2)])) (fun _ h => h)
   ·have h3 := id h3b
    refine jc_skip (jq_then (jc_seq (jc_seq (jc_region (jo_pure rfl (pr_move rfl) ?_)))))
    refine jo_range_str rfl Tryd.underlying9 rfl (fun it1 => ?_)
    refine jo_nil (jq_then (jc_block ?_))
    refine jc_loop (fun (p : Nat) => [(1, str (gsigns)), (45, .pointer (some ⟨it1, 0, none⟩))]) (fun (p : Nat) => [.obj it1 (.stringIter ⟨(s).toArray⟩ (p))]) (fun (p : Nat) => p ≤ s.length ∧ (s.take p).any sgB = false) (fun (p : Nat) => s.length - p) 0 (⟨Nat.zero_le _, rfl⟩) (⟨rfl, rfl, trivial⟩) (fun _ h => h) (fun p hinp => ?_)
    refine jc_seq ?_
    by_cases hn : p < s.length
    ·skip
     have hru := rune_facts hn
     refine jc_region (jo_next_str (p := p) rfl (by omega) rfl ?_)
     refine jo_pure rfl (pr_extract rfl rfl) ?_
     refine jo_nil (jq_then (jc_seq (jc_true rfl (rfl) ?_)))
     refine jc_skip (jq_then (jc_block (jc_seq (jc_region (jo_pure rfl (pr_extract rfl rfl) ?_)))))
     refine jo_pure rfl (pr_extract rfl rfl) ?_
     refine jo_pure rfl (pr_assign rfl) (jo_pure rfl (pr_assign rfl) (jo_nil (jq_then (jc_seq (jc_region ?_)))))
     refine jo_pure rfl (pr_move rfl) (jo_pure rfl (pr_move rfl) ?_)
     refine jo_callp cal_54 (c_strings_IndexRune (runeAt s p)) ⟨rfl, rfl, trivial⟩ rfl (trivial) (fun _ => ?_)
     refine jo_pure rfl (pr_geq (n := 0) rfl rfl) ?_
     refine jo_nil (jq_then ?_)
     refine jc_cond rfl (fun h6b => ?_) (fun h6b => ?_)
     ·have h6 := of_decide_eq_true h6b
      refine jc_seq (jc_region (jo_pure rfl (pr_move rfl) (jo_pure rfl (pr_assign rfl) (jo_nil (jq_then ?_)))))
      refine jc_ret (jq_in_ret ?_)
      refine jq_then_ret (jq_in_ret ?_)
      refine jq_then_ret (j_drop ?_)
      exact jq_ret1 rfl () rfl (show (.int .i64 (idxP sgB s) : Value) = (.int .i64 ((p : Nat) : Int)) from congrArg (Value.int .i64) (by rw [sg_hit hn hinp.2 (by omega)])) (fun _ h => h)
     ·have h6 := of_decide_eq_false h6b
      refine jc_skip (jq_in_normal ?_)
      refine jq_round' (p + runeW s p) (by (try dsimp only); exact (sg_miss hn hinp.2 (by omega))) (by (try dsimp only); exact (by omega)) ⟨rfl, rfl, trivial⟩ (fun _ h => h)
    ·skip
     refine jc_region (jo_pure rfl (pr_next_end rfl (.head _) (by omega)) ?_)
     refine jo_pure rfl (pr_extract rfl rfl) ?_
     refine jo_nil (jq_then (jc_seq (jc_false rfl (rfl) ?_)))
     refine jc_exit ?_
     refine jq_then_exit ?_
     refine jq_then_exit ?_
     refine jq_in_hit ?_
     refine jq_then (jc_seq (jc_region (jo_pure rfl (pr_assign rfl) (jo_nil (jq_then ?_)))))
     refine jc_ret (j_drop ?_)
     exact jq_ret1 rfl () rfl (show (.int .i64 (idxP sgB s) : Value) = (.int .i64 (-1)) from congrArg (Value.int .i64) (by rw [sg_none (by omega) hinp.2])) (fun _ h => h)

theorem c_group_bare (s : List UInt8) (hs : s.length ≤ 1000000) : Con Tryd.prog 26 #[str (s)] [] (fun _ : Unit => .int .i64 ((bareLen s : Nat) : Int)) (fun _ => []) := by
 refine con_of_J (args := [str (s)]) (n := 11) Tryd.func26 rfl (Nat.le_of_ble_eq_true rfl) rfl (fun w0 I0 m0 => ?_)
 show J _ [(0, str (s))] [] _
 refine jc_seq (jc_region (jo_pure rfl (pr_assign rfl) (jo_nil (jq_then (jc_seq ?_)))))
 refine jc_seq (jc_region (jo_pure rfl (pr_move rfl) ?_))
 refine jo_callp cal_45 (c_strings_IndexAny s (by omega)) ⟨rfl, rfl, trivial⟩ rfl (trivial) (fun _ => ?_)
 refine jo_pure rfl (pr_assign rfl) (jo_nil (jq_then (jc_seq (jc_region (jo_pure rfl (pr_move rfl) ?_)))))
 refine jo_pure rfl (pr_geq (n := 0) rfl rfl) ?_
 refine jo_nil (jq_then ?_)
 refine jc_cond rfl (fun h1b => ?_) (fun h1b => ?_)
 ·have h1 := of_decide_eq_true h1b
  refine jc_seq (jc_region (jo_pure rfl (pr_move rfl) (jo_pure rfl (pr_assign rfl) (jo_nil (jq_then ?_)))))
  refine jc_ret (jq_then_ret ?_)
  exact jq_ret1 rfl () rfl (show (.int .i64 ((bareLen s : Nat) : Int) : Value) = (.int .i64 (idxP sgB s)) from congrArg (Value.int .i64) (by rw [bare_some h1])) (fun _ h => h)
 ·have h1 := of_decide_eq_false h1b
  refine jc_skip (jq_then (jc_seq (jc_region (jo_pure rfl (pr_move rfl) (jo_pure rfl (pr_slen rfl Tryd.underlying9) ?_)))))
  refine jo_pure rfl (pr_assign rfl) (jo_nil (jq_then (jc_ret ?_)))
  exact jq_ret1 rfl () rfl (show (.int .i64 ((bareLen s : Nat) : Int) : Value) = (.int .i64 ((s.length : Nat) : Int)) from congrArg (Value.int .i64) (by rw [bare_none h1])) (fun _ h => h)

theorem c_group_quoted (s : List UInt8) (hs : s.length ≤ 1000000) : Con Tryd.prog 27 #[str (s)] [] (fun _ : Unit => .int .i64 ((quoLen s : Nat) : Int)) (fun _ => []) := by
 refine con_of_J (args := [str (s)]) (n := 21) Tryd.func27 rfl (Nat.le_of_ble_eq_true rfl) rfl (fun w0 I0 m0 => ?_)
 show J _ [(0, str (s))] [] _
 refine jc_seq (jc_region (jo_pure rfl (pr_assign rfl) (jo_nil (jq_then (jc_seq ?_)))))
 refine jc_seq (jc_region (jo_pure rfl (pr_assign rfl) (jo_nil (jq_then (jc_block ?_)))))
 refine jc_loop (fun (i : Nat) => [(0, str (s)), (3, .int .i64 ((i : Nat) : Int))]) (fun (i : Nat) => []) (fun (i : Nat) => 1 ≤ i ∧ quoGo i (s.drop i) = quoLen s) (fun (i : Nat) => s.length - i) 1 (⟨Nat.le_refl _, rfl⟩) (⟨rfl, rfl, trivial⟩) (fun _ h => h) (fun i hinv => ?_)
 refine jc_seq (jc_seq (jc_region (jo_pure rfl (pr_move rfl) (jo_pure rfl (pr_move rfl) (jo_pure rfl (pr_slen rfl Tryd.underlying9) ?_)))))
 refine jo_pure rfl (pr_lssN (m := i) (n := s.length) rfl rfl) ?_
 refine jo_nil (jq_then ?_)
 refine jc_cond rfl (fun h1b => ?_) (fun h1b => ?_)
 ·have h1 := of_decide_eq_true h1b
  refine jc_skip (jq_then (jc_seq (jc_block (jc_seq (jc_region ?_)))))
  refine jo_pure rfl (pr_move rfl) (jo_pure rfl (pr_move rfl) (jo_pure rfl (pr_sindex (i := i) rfl rfl Tryd.underlying9 (by omega)) ?_))
  refine jo_nil (jq_then (jc_block (jc_seq (jc_region (jo_pure rfl (pr_beql (n := 92) rfl rfl) ?_)))))
  refine jo_pure rfl (pr_assign rfl) (jo_nil (jq_then ?_))
  refine jc_cond rfl (fun h2b => ?_) (fun h2b => ?_)
  ·have h2 := of_decide_eq_true h2b
   refine jc_region (jo_pure rfl (pr_move rfl) (jo_pure rfl (pr_addN (m := i) (n := 1) rfl rfl (by omega)) ?_))
   refine jo_pure rfl (pr_assign rfl) (jo_nil (jq_in_normal (jq_in_normal (jq_then (jc_region ?_)))))
   refine jo_pure rfl (pr_move rfl) (jo_pure rfl (pr_addN (m := i + 1) (n := 1) rfl rfl (by omega)) ?_)
   refine jo_pure rfl (pr_assign rfl) (jo_nil ?_)
   refine jq_round' ((i + 1) + 1) (by (try dsimp only); exact (⟨by omega, quo_esc h1 h2 hinv.2⟩)) (by (try dsimp only); exact (by omega)) ⟨rfl, rfl, trivial⟩ (fun _ h => h)
  ·have h2 := of_decide_eq_false h2b
   refine jc_seq (jc_region (jo_pure rfl (pr_beql (n := 34) rfl rfl) ?_))
   refine jo_pure rfl (pr_assign rfl) (jo_nil (jq_then ?_))
   refine jc_cond rfl (fun h3b => ?_) (fun h3b => ?_)
   ·have h3 := of_decide_eq_true h3b
    refine jc_seq (jc_region (jo_pure rfl (pr_move rfl) (jo_pure rfl (pr_addN (m := i) (n := 1) rfl rfl (by omega)) ?_)))
    refine jo_pure rfl (pr_assign rfl) (jo_nil (jq_then (jc_ret (jq_in_ret ?_))))
    refine jq_in_ret ?_
    refine jq_then_ret (jq_then_ret (jq_in_ret ?_))
    refine jq_then_ret ?_
    exact jq_ret1 rfl () rfl (show (.int .i64 ((quoLen s : Nat) : Int) : Value) = (.int .i64 ((i + 1 : Nat) : Int)) from congrArg (Value.int .i64) (by rw [quo_hit h1 h3 hinv.2])) (fun _ h => h)
   ·have h3 := of_decide_eq_false h3b
    refine jc_skip (jq_in_normal (jq_in_normal (jq_then (jc_region (jo_pure rfl (pr_move rfl) ?_)))))
    refine jo_pure rfl (pr_addN (m := i) (n := 1) rfl rfl (by omega)) ?_
    refine jo_pure rfl (pr_assign rfl) (jo_nil ?_)
    refine jq_round' (i + 1) (by (try dsimp only); exact (⟨by omega, quo_next h1 h2 h3 hinv.2⟩)) (by (try dsimp only); exact (by omega)) ⟨rfl, rfl, trivial⟩ (fun _ h => h)
 ·have h1 := of_decide_eq_false h1b
  refine jc_exit ?_
  refine jq_then_exit ?_
  refine jq_then_exit ?_
  refine jq_in_hit ?_
  refine jq_then (jc_seq (jc_region (jo_pure rfl (pr_assign rfl) (jo_nil (jq_then ?_)))))
  refine jc_ret ?_
  exact jq_ret1 rfl () rfl (show (.int .i64 ((quoLen s : Nat) : Int) : Value) = (.int .i64 ((0 : Nat) : Int)) from congrArg (Value.int .i64) (by rw [quo_done (by omega) hinv.2])) (fun _ h => h)

theorem c_strings_trimLeftByte (s : List UInt8) (c : UInt8) (hs : s.length ≤ 1000000) : Con Tryd.prog 41 #[str (s), byte (c)] [] (fun _ : Unit => str (trimL (fun x => decide (x = c)) s)) (fun _ => []) := by
 refine con_of_J (args := [str (s), byte (c)]) (n := 17) Tryd.func41 rfl (Nat.le_of_ble_eq_true rfl) rfl (fun w0 I0 m0 => ?_)
 show J _ [(0, str (s)), (1, byte (c))] [] _
 refine jc_seq (jc_region (jo_pure rfl (pr_assign rfl) (jo_nil (jq_then (jc_seq ?_)))))
 refine jc_block ?_
 refine jc_loop (fun (t : List UInt8) => [(0, str (t)), (1, byte (c))]) (fun (t : List UInt8) => []) (fun (t : List UInt8) => trimL (fun x => decide (x = c)) t = trimL (fun x => decide (x = c)) s) (fun (t : List UInt8) => t.length) s (rfl) (⟨rfl, rfl, trivial⟩) (fun _ h => h) (fun t hinv => ?_)
 refine jc_seq (jc_seq (jc_region (jo_pure rfl (pr_move rfl) (jo_pure rfl (pr_slen rfl Tryd.underlying9) ?_))))
 refine jo_pure rfl (pr_gtrN (m := t.length) (n := 0) rfl rfl) ?_
 refine jo_pure rfl (pr_move rfl) (jo_gpure (j := 3) (want := true) rfl rfl rfl rfl (fun hg => pr_move rfl) ?_)
 refine jo_gpure (j := 3) (want := true) rfl rfl rfl rfl (fun hg => pr_sindex (i := 0) (evg rfl hg) rfl Tryd.underlying9 (by first | omega | (simp at hg; omega))) ?_
 refine jo_gpure (j := 3) (want := true) rfl rfl rfl rfl (fun hg => pr_move rfl) ?_
 refine jo_gpure (j := 3) (want := true) rfl rfl rfl rfl (fun hg => pr_beql (evg rfl hg) (evg rfl hg)) ?_
 refine jo_pure rfl (pr_pick_and rfl rfl rfl) ?_
 refine jo_nil (jq_then ?_)
 refine jc_cond rfl (fun h1b => ?_) (fun h1b => ?_)
 ·have h1 := (fun q => And.imp of_decide_eq_true of_decide_eq_true (bt_and q)) h1b
  refine jc_skip (jq_then (jc_block (jc_region (jo_pure rfl (pr_move rfl) (jo_pure rfl (pr_sslice_lo (i := 1) rfl rfl Tryd.underlying9 (by omega)) ?_)))))
  refine jo_pure rfl (pr_assign rfl) (jo_nil (jq_in_normal ?_))
  refine jq_round' (t.drop 1) (by (try dsimp only); exact ((trimL_step h1.1 (by simpa using h1.2)).trans hinv)) (by (try dsimp only); exact (by simp; omega)) ⟨rfl, rfl, trivial⟩ (fun _ h => h)
 ·have h1 := (fun q => Or.imp of_decide_eq_false of_decide_eq_false (bf_and q)) h1b
  refine jc_exit ?_
  refine jq_then_exit ?_
  refine jq_then_exit ?_
  refine jq_in_hit ?_
  refine jq_then (jc_seq (jc_region (jo_pure rfl (pr_move rfl) (jo_pure rfl (pr_assign rfl) (jo_nil ?_)))))
  refine jq_then (jc_ret ?_)
  exact jq_ret1 rfl () rfl (show (str (trimL (fun x => decide (x = c)) s) : Value) = (str (t)) from congrArg str (by rw [← hinv, trimL_end (h1.imp (by omega) (by simp))])) (fun _ h => h)

theorem c_strings_TrimLeft (s : List UInt8) (hs : s.length ≤ 1000000) : Con Tryd.prog 25 #[str (s), str ([32])] [] (fun _ : Unit => str (trimL spB s)) (fun _ => []) := by
 refine con_of_J (args := [str (s), str ([32])]) (n := 37) Tryd.func25 rfl (Nat.le_of_ble_eq_true rfl) rfl (fun w0 I0 m0 => ?_)
 show J _ [(0, str (s)), (1, str ([32]))] [] _
 refine jc_seq (jc_region (jo_pure rfl (pr_assign rfl) (jo_nil (jq_then (jc_seq ?_)))))
 refine jc_seq (jc_region (jo_pure rfl (pr_move rfl) (jo_pure rfl (pr_seql rfl rfl) ?_)))
 refine jo_pure rfl (pr_move rfl) (jo_gpure (j := 2) (want := false) rfl rfl rfl rfl (fun hg => pr_move rfl) ?_)
 refine jo_gpure (j := 2) (want := false) rfl rfl rfl rfl (fun hg => pr_seql (evg rfl hg) rfl) ?_
 refine jo_pure rfl (pr_pick_or rfl rfl rfl) ?_
 refine jo_nil (jq_then ?_)
 refine jc_cond rfl (fun h1b => ?_) (fun h1b => ?_)
 ·have h1 := (fun q => Or.imp of_decide_eq_true of_decide_eq_true (bt_or q)) h1b
  refine jc_seq (jc_region (jo_pure rfl (pr_move rfl) (jo_pure rfl (pr_assign rfl) (jo_nil (jq_then ?_)))))
  refine jc_ret (jq_then_ret ?_)
  exact jq_ret1 rfl () rfl (show (str (trimL spB s) : Value) = (str (s)) from congrArg str (by rcases h1 with h1 | h1; rw [h1]; rfl; cases h1)) (fun _ h => h)
 ·have h1 := (fun q => And.imp of_decide_eq_false of_decide_eq_false (bf_or q)) h1b
  refine jc_skip (jq_then (jc_seq (jc_seq (jc_region (jo_pure rfl (pr_move rfl) ?_)))))
  refine jo_pure rfl (pr_slen rfl Tryd.underlying9) ?_
  refine jo_pure rfl (pr_eqlN (m := [32].length) (n := 1) rfl rfl) ?_
  refine jo_pure rfl (pr_move rfl) (jo_gpure (j := 3) (want := true) rfl rfl rfl rfl (fun hg => pr_move rfl) ?_)
  refine jo_gpure (j := 3) (want := true) rfl rfl rfl rfl (fun hg => pr_sindex (i := 0) (evg rfl hg) rfl Tryd.underlying9 (by decide)) ?_
  refine jo_gpure (j := 3) (want := true) rfl rfl rfl rfl (fun hg => pr_blss (n := 128) (evg rfl hg) rfl) ?_
  refine jo_pure rfl (pr_pick_and rfl rfl rfl) ?_
  refine jo_nil (jq_then ?_)
  refine jc_cond rfl (fun h2b => ?_) (fun h2b => ?_)
  ·have h2 := (fun q => And.imp of_decide_eq_true of_decide_eq_true (bt_and q)) h2b
   refine jc_seq (jc_region (jo_pure rfl (pr_move rfl) (jo_pure rfl (pr_move rfl) (jo_pure rfl (pr_sindex (i := 0) rfl rfl Tryd.underlying9 (by decide)) ?_))))
   refine jo_callp cal_41 (c_strings_trimLeftByte s ([32].getD 0 0) (by omega)) ⟨rfl, rfl, trivial⟩ rfl (trivial) (fun _ => ?_)
   refine jo_pure rfl (pr_assign rfl) (jo_nil (jq_then (jc_ret (jq_then_ret ?_))))
   exact jq_ret1 rfl () rfl (show (str (trimL spB s) : Value) = (str (trimL (fun x => decide (x = ([32].getD 0 0))) s)) from rfl) (fun _ h => h)
  ·have h2 := (fun q => Or.imp of_decide_eq_false of_decide_eq_false (bf_and q)) h2b
   exact absurd h2 (by decide)

theorem c_group_Read (s : List UInt8) (hs : s.length ≤ 1000000) : Con Tryd.prog 12 #[str (s)] [] (fun r1 : Value => .tuple #[r1, .bool ((readF s).2)]) (fun r1 => [.imm (.list .str) r1 ((readF s).1)]) := by
 refine con_of_J (args := [str (s)]) (n := 75) Tryd.func12 rfl (Nat.le_of_ble_eq_true rfl) rfl (fun w0 I0 m0 => ?_)
 show J _ [(0, str (s))] [] _
 refine jc_seq (jc_region (jo_pure rfl (pr_assign rfl) (jo_pure rfl (pr_assign rfl) (jo_nil (jq_then ?_)))))
 refine jc_seq (jc_seq (jc_region (jo_pure rfl (pr_move rfl) (jo_pure rfl (pr_slen rfl Tryd.underlying9) ?_))))
 refine jo_pure rfl (pr_lssN (m := s.length) (n := 2) rfl rfl) ?_
 refine jo_pure rfl (pr_move rfl) (jo_gpure (j := 3) (want := false) rfl rfl rfl rfl (fun hg => pr_move rfl) ?_)
 refine jo_gpure (j := 3) (want := false) rfl rfl rfl rfl (fun hg => pr_sindex (i := 0) (evg rfl hg) rfl Tryd.underlying9 (by first | omega | (simp only [Bool.or_eq_false_iff, Bool.and_eq_true, beq_iff_eq, decide_eq_true_eq, decide_eq_false_iff_not, Bool.not_eq_true', Bool.not_eq_false'] at hg; omega) | (simp at hg; omega))) ?_
 refine jo_gpure (j := 3) (want := false) rfl rfl rfl rfl (fun hg => pr_bneq (n := 40) (evg rfl hg) rfl) ?_
 refine jo_pure rfl (pr_pick_or rfl rfl rfl) ?_
 refine jo_pure rfl (pr_move rfl) (jo_gpure (j := 8) (want := false) rfl rfl rfl rfl (fun hg => pr_move rfl) ?_)
 refine jo_gpure (j := 8) (want := false) rfl rfl rfl rfl (fun hg => pr_move rfl) ?_
 refine jo_gpure (j := 8) (want := false) rfl rfl rfl rfl (fun hg => pr_slen (evg rfl hg) Tryd.underlying9) ?_
 refine jo_gpure (j := 8) (want := false) rfl rfl rfl rfl (fun hg => pr_subN (m := s.length) (n := 1) (evg rfl hg) rfl (by first | omega | (simp at hg; omega)) (by omega)) ?_
 refine jo_gpure (j := 8) (want := false) rfl rfl rfl rfl (fun hg => pr_sindex (i := s.length - 1) (evg rfl hg) (evg rfl hg) Tryd.underlying9 (by first | omega | (simp only [Bool.or_eq_false_iff, Bool.and_eq_true, beq_iff_eq, decide_eq_true_eq, decide_eq_false_iff_not, Bool.not_eq_true', Bool.not_eq_false'] at hg; omega) | (simp at hg; omega))) ?_
 refine jo_gpure (j := 8) (want := false) rfl rfl rfl rfl (fun hg => pr_bneq (n := 41) (evg rfl hg) rfl) ?_
 refine jo_pure rfl (pr_pick_or rfl rfl rfl) ?_
 refine jo_nil (jq_then ?_)
 refine jc_cond rfl (fun h1b => ?_) (fun h1b => ?_)
 ·have h1 := (fun q => Or.imp (fun q => Or.imp of_decide_eq_true (fun q => of_decide_eq_false (bt_not q)) (bt_or q)) (fun q => of_decide_eq_false (bt_not q)) (bt_or q)) h1b
  refine jc_seq (jc_region (jo_pure rfl (pr_assign rfl) (jo_pure rfl (pr_assign rfl) (jo_nil (jq_then ?_)))))
  refine jc_ret (jq_then_ret (j_nil_imm .str ?_))
  exact jq_rets (rs := [.tmp 2, .tmp 3]) (vs := [.slice none 0 0, .bool (false)]) rfl (.slice none 0 0) ⟨resV_tmp rfl, resV_tmp rfl, trivial⟩ rfl (show (.tuple #[(.slice none 0 0), .bool ((readF s).2)] : Value) = (.tuple #[.slice none 0 0, .bool (false)]) from by rw [read_no (by rcases h1 with (e | e) | e; exact .inl e; exact .inr (.inl e); exact .inr (.inr e))] <;> rfl) (fun _ h => by rw [read_no (by rcases h1 with (e | e) | e; exact .inl e; exact .inr (.inl e); exact .inr (.inr e))]; exact h)
 ·have h1 := (fun q => And.imp (fun q => And.imp of_decide_eq_false (fun q => of_decide_eq_true (bf_not q)) (bf_or q)) (fun q => of_decide_eq_true (bf_not q)) (bf_or q)) h1b
  have hs0 : ¬ (s.length < 2 ∨ ¬ s.getD 0 0 = 40 ∨ ¬ s.getD (s.length - 1) 0 = 41) := fun e => by rcases e with e | e | e; exact h1.1.1 e; exact e h1.1.2; exact e h1.2
  have hil : ((s.take (s.length - 1)).drop 1).length + 2 = s.length := by have := h1.1.1; rw [List.length_drop, List.length_take]; omega
  refine jc_skip (jq_then (jc_seq (jc_region (jo_pure rfl (pr_assign rfl) (jo_nil ?_)))))
  refine jq_then (jc_seq (jc_region (jo_pure rfl (pr_move rfl) (jo_pure rfl (pr_move rfl) (jo_pure rfl (pr_slen rfl Tryd.underlying9) ?_)))))
  refine jo_pure rfl (pr_subN (m := s.length) (n := 1) rfl rfl (by first | omega | (simp at hg; omega)) (by omega)) ?_
  refine jo_pure rfl (pr_sslice (i := 1) (j := s.length - 1) rfl rfl rfl Tryd.underlying9 (by omega) (by omega)) ?_
  refine jo_pure rfl (pr_assign rfl) (jo_nil (jq_then (jc_block (j_nil_row 9 .str ?_))))
  refine jc_loop4 (fun (t : List UInt8) (w : Value) (acc : List (List UInt8)) (f : Nat) => [(0, str (t)), (4, w)]) (fun (t : List UInt8) (w : Value) (acc : List (List UInt8)) (f : Nat) => [.row (w) 9 .str (acc)]) (fun (t : List UInt8) (w : Value) (acc : List (List UInt8)) (f : Nat) => t.length + 1 ≤ f ∧ readGo f acc t = (readGo s.length [] ((s.take (s.length - 1)).drop 1)) ∧ acc.length + t.length ≤ s.length) (fun (t : List UInt8) (w : Value) (acc : List (List UInt8)) (f : Nat) => t.length) ((s.take (s.length - 1)).drop 1) (.slice none 0 0) [] s.length (⟨by omega, rfl, by simp only [List.length_nil]; omega⟩) (⟨rfl, rfl, trivial⟩) (fun _ h => h) (fun t w acc f hinv => ?_)
  refine jc_block (jc_seq (jc_region (jo_pure rfl (pr_move rfl) ?_)))
  refine jo_callp cal_25 (c_strings_TrimLeft t (by first | omega | (rw [List.length_take]; omega))) ⟨rfl, rfl, trivial⟩ rfl (trivial) (fun _ => ?_)
  refine jo_pure rfl (pr_assign rfl) (jo_nil (jq_then (jc_seq (jc_seq (jc_region ?_)))))
  refine jo_pure rfl (pr_move rfl) (jo_pure rfl (pr_seql rfl rfl) ?_)
  refine jo_nil (jq_then ?_)
  refine jc_cond rfl (fun h2b => ?_) (fun h2b => ?_)
  ·have h2 := of_decide_eq_true h2b
   refine jc_seq (jc_region (jo_pure rfl (pr_move rfl) (jo_pure rfl (pr_assign rfl) (jo_pure rfl (pr_assign rfl) (jo_nil ?_)))))
   refine jq_then (jc_ret (jq_then_ret (jq_in_ret ?_)))
   refine jq_then_ret (jq_in_ret ?_)
   refine j_pub_row ?_
   exact jq_rets (rs := [.tmp 2, .tmp 3]) (vs := [w, .bool (true)]) rfl w ⟨resV_tmp rfl, resV_tmp rfl, trivial⟩ rfl (show (.tuple #[w, .bool ((readF s).2)] : Value) = (.tuple #[w, .bool (true)]) from by rw [read_yes hs0 (read_end hinv.1 h2 hinv.2.1)] <;> rfl) (fun _ h => by rw [read_yes hs0 (read_end hinv.1 h2 hinv.2.1)]; exact h)
  ·have h2 := of_decide_eq_false h2b
   have hul : 0 < (trimL spB t).length := List.length_pos_iff.2 h2
   have hut := trimL_length (p := spB) t
   have hql := quoLen_le hul
   have hbl := bareLen_le (trimL spB t)
   refine jc_skip (jq_then (jc_seq (jc_region (jo_pure rfl (pr_move rfl) ?_))))
   refine jo_callp cal_26 (c_group_bare (trimL spB t) (by first | omega | (rw [List.length_take]; omega))) ⟨rfl, trivial⟩ rfl (trivial) (fun _ => ?_)
   refine jo_pure rfl (pr_assign rfl) (jo_nil (jq_then (jc_seq (jc_seq (jc_region ?_)))))
   refine jo_pure rfl (pr_move rfl) (jo_pure rfl (pr_sindex (i := 0) rfl rfl Tryd.underlying9 (by first | omega | (simp only [Bool.or_eq_false_iff, Bool.and_eq_true, beq_iff_eq, decide_eq_true_eq, decide_eq_false_iff_not, Bool.not_eq_true', Bool.not_eq_false'] at hg; omega) | (simp at hg; omega))) ?_)
   refine jo_pure rfl (pr_beql (n := 34) rfl rfl) ?_
   refine jo_nil (jq_then ?_)
   refine jc_cond rfl (fun h3b => ?_) (fun h3b => ?_)
   ·have h3 := of_decide_eq_true h3b
    refine jc_region (jo_pure rfl (pr_move rfl) ?_)
    refine jo_callp cal_27 (c_group_quoted (trimL spB t) (by first | omega | (rw [List.length_take]; omega))) ⟨rfl, trivial⟩ rfl (trivial) (fun _ => ?_)
    refine jo_pure rfl (pr_assign rfl) (jo_nil (jq_then (jc_seq (jc_seq (jc_region ?_)))))
    refine jo_pure rfl (pr_move rfl) (jo_pure rfl (pr_eqlN (m := quoLen (trimL spB t)) (n := 0) rfl rfl) ?_)
    refine jo_pure rfl (pr_move rfl) (jo_gpure (j := 2) (want := false) rfl rfl rfl rfl (fun hg => pr_move rfl) ?_)
    refine jo_gpure (j := 2) (want := false) rfl rfl rfl rfl (fun hg => pr_move rfl) ?_
    refine jo_gpure (j := 2) (want := false) rfl rfl rfl rfl (fun hg => pr_slen (evg rfl hg) Tryd.underlying9) ?_
    refine jo_gpure (j := 2) (want := false) rfl rfl rfl rfl (fun hg => pr_lssN (m := quoLen (trimL spB t)) (n := (trimL spB t).length) (evg rfl hg) (evg rfl hg)) ?_
    refine jo_gpure (j := 2) (want := false) rfl rfl rfl rfl (fun hg => pr_move (evg rfl hg)) ?_
    refine jo_gpure2 (j := 7) (want := true) rfl rfl rfl rfl (fun hg => pr_move rfl) ?_
    refine jo_gpure2 (j := 7) (want := true) rfl rfl rfl rfl (fun hg => pr_move rfl) ?_
    refine jo_gpure2 (j := 7) (want := true) rfl rfl rfl rfl (fun hg => pr_sindex (i := quoLen (trimL spB t)) (evg rfl hg) (evg rfl hg) Tryd.underlying9 (by first | omega | (simp only [Bool.or_eq_false_iff, Bool.and_eq_true, beq_iff_eq, decide_eq_true_eq, decide_eq_false_iff_not, Bool.not_eq_true', Bool.not_eq_false'] at hg; omega) | (simp at hg; omega))) ?_
    refine jo_gpure2 (j := 7) (want := true) rfl rfl rfl rfl (fun hg => pr_bneq (n := 32) (evg rfl hg) rfl) ?_
    refine jo_gpure (j := 2) (want := false) rfl rfl rfl rfl (fun hg => pr_pick_and (evg rfl hg) (evg2 rfl hg) rfl) ?_
    refine jo_pure rfl (pr_pick_or rfl rfl rfl) ?_
    refine jo_nil (jq_then ?_)
    refine jc_cond rfl (fun h4b => ?_) (fun h4b => ?_)
    ·have h4 := (fun q => Or.imp of_decide_eq_true (fun q => And.imp of_decide_eq_true (fun q => of_decide_eq_false (bt_not q)) (bt_and q)) (bt_or q)) h4b
     refine jc_seq (jc_region (jo_pure rfl (pr_assign rfl) (jo_pure rfl (pr_assign rfl) (jo_nil (jq_then ?_)))))
     refine jc_ret (jq_then_ret (jq_in_ret ?_))
     refine jq_then_ret (jq_in_ret ?_)
     refine j_nil_imm .str ?_
     refine j_pull1 (j_drop ?_)
     exact jq_rets (rs := [.tmp 2, .tmp 3]) (vs := [.slice none 0 0, .bool (false)]) rfl (.slice none 0 0) ⟨resV_tmp rfl, resV_tmp rfl, trivial⟩ rfl (show (.tuple #[(.slice none 0 0), .bool ((readF s).2)] : Value) = (.tuple #[.slice none 0 0, .bool (false)]) from by rw [read_yes hs0 (read_bad hinv.1 h2 (pv_bad (by rw [pl_quo h3]; exact h4)) hinv.2.1)] <;> rfl) (fun _ h => by rw [read_yes hs0 (read_bad hinv.1 h2 (pv_bad (by rw [pl_quo h3]; exact h4)) hinv.2.1)]; exact h)
    ·have h4 := (fun q => And.imp of_decide_eq_false (fun q => Or.imp of_decide_eq_false (fun q => of_decide_eq_true (bf_not q)) (bf_and q)) (bf_or q)) h4b
     refine jc_skip (jq_then (jc_seq (jc_region (jo_pure rfl (pr_move rfl) (jo_pure rfl (pr_move rfl) ?_)))))
     refine jo_pure rfl (pr_sslice_hi (j := quoLen (trimL spB t)) rfl rfl Tryd.underlying9 (by omega)) ?_
     refine jo_pure rfl (pr_assign rfl) (jo_nil (jq_then (jc_seq (jc_seq (jc_region ?_)))))
     refine jo_pure rfl (pr_move rfl) (jo_pure rfl (pr_sindex (i := 0) rfl rfl Tryd.underlying9 (by first | omega | (simp only [Bool.or_eq_false_iff, Bool.and_eq_true, beq_iff_eq, decide_eq_true_eq, decide_eq_false_iff_not, Bool.not_eq_true', Bool.not_eq_false'] at hg; omega) | (simp at hg; omega))) ?_)
     refine jo_pure rfl (pr_beql (n := 34) rfl rfl) ?_
     refine jo_nil (jq_then (jc_true rfl (h3b) ?_))
     refine jc_seq (jc_region (jo_pure rfl (pr_assign rfl) (jo_nil (jq_then (jc_seq ?_)))))
     refine jc_region (jo_pure rfl (pr_move rfl) ?_)
     refine jo_callp cal_28 (c_ascii_Unquote ((trimL spB t).take (quoLen (trimL spB t))) (by first | omega | (rw [List.length_take]; omega))) ⟨rfl, trivial⟩ rfl (trivial) (fun _ => ?_)
     refine jo_pure rfl (pr_move rfl) (jo_pure rfl (pr_extract rfl rfl) ?_)
     refine jo_pure rfl (pr_extract rfl rfl) ?_
     refine jo_pure rfl (pr_assign rfl) (jo_pure rfl (pr_assign rfl) (jo_nil (jq_then (jc_seq (jc_region ?_)))))
     refine jo_pure rfl (pr_move rfl) (jo_pure rfl (pr_not rfl) ?_)
     refine jo_nil (jq_then ?_)
     refine jc_cond rfl (fun h5b => ?_) (fun h5b => ?_)
     ·have h5 := (fun q => id (bt_not q)) h5b
      refine jc_seq (jc_region (jo_pure rfl (pr_assign rfl) (jo_pure rfl (pr_assign rfl) (jo_nil (jq_then ?_)))))
      refine jc_ret (jq_then_ret (jq_in_ret ?_))
      refine jq_then_ret (jq_in_ret ?_)
      refine j_nil_imm .str ?_
      refine j_pull1 (j_drop ?_)
      exact jq_rets (rs := [.tmp 2, .tmp 3]) (vs := [.slice none 0 0, .bool (false)]) rfl (.slice none 0 0) ⟨resV_tmp rfl, resV_tmp rfl, trivial⟩ rfl (show (.tuple #[(.slice none 0 0), .bool ((readF s).2)] : Value) = (.tuple #[.slice none 0 0, .bool (false)]) from by rw [read_yes hs0 (read_bad hinv.1 h2 (pv_unq_no (by rw [pl_quo h3]; exact fun e => by rcases e with e | e; exact h4.1 e; exact h4.2.elim (fun q => q e.1) (fun q => e.2 q)) h3 (by rw [pl_quo h3]; simpa using h5)) hinv.2.1)] <;> rfl) (fun _ h => by rw [read_yes hs0 (read_bad hinv.1 h2 (pv_unq_no (by rw [pl_quo h3]; exact fun e => by rcases e with e | e; exact h4.1 e; exact h4.2.elim (fun q => q e.1) (fun q => e.2 q)) h3 (by rw [pl_quo h3]; simpa using h5)) hinv.2.1)]; exact h)
     ·have h5 := (fun q => id (bf_not q)) h5b
      refine jc_skip (jq_then (jc_seq (jc_region (jo_pure rfl (pr_move rfl) (jo_pure rfl (pr_move rfl) ?_)))))
      refine jo_buildSlice (t := .str) [(unq ((trimL spB t).take (quoLen (trimL spB t)))).1] [str ((unq ((trimL spB t).take (quoLen (trimL spB t)))).1)] (fun a hf => by simp only [List.zipIdx_cons, List.zipIdx_nil, List.map_toArray, List.map_cons, List.map_nil, hf.ev (show ev _ (.tmp 69) = some (str ((unq ((trimL spB t).take (quoLen (trimL spB t)))).1)) from rfl)] <;> rfl) rfl Tryd.underlying31 ty_9 rfl rfl rfl rfl rfl (fun g1 => ?_)
      refine j_pull1 ?_
      refine jo_append rfl rfl Tryd.underlying31 ty_9 rfl (by simp only [List.length_append, List.length_cons, List.length_nil, maxLen]; omega) (by simp only [List.length_append, List.length_cons, List.length_nil]; omega) rfl (fun v1 => ?_)
      refine jo_pure rfl (pr_assign rfl) (jo_nil (jq_then (jc_region (jo_pure rfl (pr_move rfl) (jo_pure rfl (pr_move rfl) ?_)))))
      refine jo_pure rfl (pr_sslice_lo (i := quoLen (trimL spB t)) rfl rfl Tryd.underlying9 (by omega)) ?_
      refine jo_pure rfl (pr_assign rfl) (jo_nil (jq_in_normal ?_))
      refine jq_round' (((trimL spB t).drop (quoLen (trimL spB t))), v1, (acc ++ [(unq ((trimL spB t).take (quoLen (trimL spB t)))).1]), (f - 1)) (by (try dsimp only); exact (by have := read_go hinv.1 h2 (pv_unq (by rw [pl_quo h3]; exact fun e => by rcases e with e | e; exact h4.1 e; exact h4.2.elim (fun q => q e.1) (fun q => e.2 q)) h3 (by rw [pl_quo h3]; simpa using h5)) hinv.2.1; rw [pl_quo h3] at this; exact ⟨this.1, this.2, by have := h4.1; simp only [List.length_append, List.length_cons, List.length_nil, List.length_drop]; omega⟩)) (by (try dsimp only); exact (by rw [List.length_drop]; have := h4.1; omega)) ⟨rfl, rfl, trivial⟩ (fun _ h => h)
   ·have h3 := of_decide_eq_false h3b
    refine jc_skip (jq_then (jc_seq (jc_seq (jc_region (jo_pure rfl (pr_move rfl) ?_)))))
    refine jo_pure rfl (pr_eqlN (m := bareLen (trimL spB t)) (n := 0) rfl rfl) ?_
    refine jo_pure rfl (pr_move rfl) (jo_gpure (j := 2) (want := false) rfl rfl rfl rfl (fun hg => pr_move rfl) ?_)
    refine jo_gpure (j := 2) (want := false) rfl rfl rfl rfl (fun hg => pr_move rfl) ?_
    refine jo_gpure (j := 2) (want := false) rfl rfl rfl rfl (fun hg => pr_slen (evg rfl hg) Tryd.underlying9) ?_
    refine jo_gpure (j := 2) (want := false) rfl rfl rfl rfl (fun hg => pr_lssN (m := bareLen (trimL spB t)) (n := (trimL spB t).length) (evg rfl hg) (evg rfl hg)) ?_
    refine jo_gpure (j := 2) (want := false) rfl rfl rfl rfl (fun hg => pr_move (evg rfl hg)) ?_
    refine jo_gpure2 (j := 7) (want := true) rfl rfl rfl rfl (fun hg => pr_move rfl) ?_
    refine jo_gpure2 (j := 7) (want := true) rfl rfl rfl rfl (fun hg => pr_move rfl) ?_
    refine jo_gpure2 (j := 7) (want := true) rfl rfl rfl rfl (fun hg => pr_sindex (i := bareLen (trimL spB t)) (evg rfl hg) (evg rfl hg) Tryd.underlying9 (by first | omega | (simp only [Bool.or_eq_false_iff, Bool.and_eq_true, beq_iff_eq, decide_eq_true_eq, decide_eq_false_iff_not, Bool.not_eq_true', Bool.not_eq_false'] at hg; omega) | (simp at hg; omega))) ?_
    refine jo_gpure2 (j := 7) (want := true) rfl rfl rfl rfl (fun hg => pr_bneq (n := 32) (evg rfl hg) rfl) ?_
    refine jo_gpure (j := 2) (want := false) rfl rfl rfl rfl (fun hg => pr_pick_and (evg rfl hg) (evg2 rfl hg) rfl) ?_
    refine jo_pure rfl (pr_pick_or rfl rfl rfl) ?_
    refine jo_nil (jq_then ?_)
    refine jc_cond rfl (fun h6b => ?_) (fun h6b => ?_)
    ·have h6 := (fun q => Or.imp of_decide_eq_true (fun q => And.imp of_decide_eq_true (fun q => of_decide_eq_false (bt_not q)) (bt_and q)) (bt_or q)) h6b
     refine jc_seq (jc_region (jo_pure rfl (pr_assign rfl) (jo_pure rfl (pr_assign rfl) (jo_nil (jq_then ?_)))))
     refine jc_ret (jq_then_ret (jq_in_ret ?_))
     refine jq_then_ret (jq_in_ret ?_)
     refine j_nil_imm .str ?_
     refine j_pull1 (j_drop ?_)
     exact jq_rets (rs := [.tmp 2, .tmp 3]) (vs := [.slice none 0 0, .bool (false)]) rfl (.slice none 0 0) ⟨resV_tmp rfl, resV_tmp rfl, trivial⟩ rfl (show (.tuple #[(.slice none 0 0), .bool ((readF s).2)] : Value) = (.tuple #[.slice none 0 0, .bool (false)]) from by rw [read_yes hs0 (read_bad hinv.1 h2 (pv_bad (by rw [pl_bare h3]; exact h6)) hinv.2.1)] <;> rfl) (fun _ h => by rw [read_yes hs0 (read_bad hinv.1 h2 (pv_bad (by rw [pl_bare h3]; exact h6)) hinv.2.1)]; exact h)
    ·have h6 := (fun q => And.imp of_decide_eq_false (fun q => Or.imp of_decide_eq_false (fun q => of_decide_eq_true (bf_not q)) (bf_and q)) (bf_or q)) h6b
     refine jc_skip (jq_then (jc_seq (jc_region (jo_pure rfl (pr_move rfl) (jo_pure rfl (pr_move rfl) ?_)))))
     refine jo_pure rfl (pr_sslice_hi (j := bareLen (trimL spB t)) rfl rfl Tryd.underlying9 (by omega)) ?_
     refine jo_pure rfl (pr_assign rfl) (jo_nil (jq_then (jc_seq (jc_seq (jc_region ?_)))))
     refine jo_pure rfl (pr_move rfl) (jo_pure rfl (pr_sindex (i := 0) rfl rfl Tryd.underlying9 (by first | omega | (simp only [Bool.or_eq_false_iff, Bool.and_eq_true, beq_iff_eq, decide_eq_true_eq, decide_eq_false_iff_not, Bool.not_eq_true', Bool.not_eq_false'] at hg; omega) | (simp at hg; omega))) ?_)
     refine jo_pure rfl (pr_beql (n := 34) rfl rfl) ?_
     refine jo_nil (jq_then (jc_false rfl (h3b) ?_))
     refine jc_skip (jq_then (jc_seq (jc_region (jo_pure rfl (pr_move rfl) (jo_pure rfl (pr_move rfl) ?_)))))
     refine jo_buildSlice (t := .str) [(trimL spB t).take (bareLen (trimL spB t))] [str ((trimL spB t).take (bareLen (trimL spB t)))] (fun a hf => by simp only [List.zipIdx_cons, List.zipIdx_nil, List.map_toArray, List.map_cons, List.map_nil, hf.ev (show ev _ (.tmp 69) = some (str ((trimL spB t).take (bareLen (trimL spB t)))) from rfl)] <;> rfl) rfl Tryd.underlying31 ty_9 rfl rfl rfl rfl rfl (fun g2 => ?_)
     refine j_pull1 ?_
     refine jo_append rfl rfl Tryd.underlying31 ty_9 rfl (by simp only [List.length_append, List.length_cons, List.length_nil, maxLen]; omega) (by simp only [List.length_append, List.length_cons, List.length_nil]; omega) rfl (fun v2 => ?_)
     refine jo_pure rfl (pr_assign rfl) (jo_nil (jq_then (jc_region (jo_pure rfl (pr_move rfl) (jo_pure rfl (pr_move rfl) ?_)))))
     refine jo_pure rfl (pr_sslice_lo (i := bareLen (trimL spB t)) rfl rfl Tryd.underlying9 (by omega)) ?_
     refine jo_pure rfl (pr_assign rfl) (jo_nil (jq_in_normal ?_))
     refine jq_round' (((trimL spB t).drop (bareLen (trimL spB t))), v2, (acc ++ [(trimL spB t).take (bareLen (trimL spB t))]), (f - 1)) (by (try dsimp only); exact (by have := read_go hinv.1 h2 (pv_bare (by rw [pl_bare h3]; exact fun e => by rcases e with e | e; exact h6.1 e; exact h6.2.elim (fun q => q e.1) (fun q => e.2 q)) h3) hinv.2.1; rw [pl_bare h3] at this; exact ⟨this.1, this.2, by have := h6.1; simp only [List.length_append, List.length_cons, List.length_nil, List.length_drop]; omega⟩)) (by (try dsimp only); exact (by rw [List.length_drop]; have := h6.1; omega)) ⟨rfl, rfl, trivial⟩ (fun _ h => h)

theorem c_media_form_1 (x : (List UInt8) × (List UInt8)) (p : (List UInt8) × (List UInt8)) (pb : Nat)  : Con Tryd.prog 88 #[.agg #[str (x.1), str (x.2)], .pointer (some ⟨pb, 0, none⟩)] [.ibox pb 117 [str (p.1), str (p.2)]] (fun _ : Unit => .bool (decide (x.1 = p.1))) (fun _ => []) := by
 refine con_of_J (args := [.agg #[str (x.1), str (x.2)], .pointer (some ⟨pb, 0, none⟩)]) (n := 9) Tryd.func88 rfl (Nat.le_of_ble_eq_true rfl) rfl (fun w0 I0 m0 => ?_)
 show J _ [(0, .agg #[str (x.1), str (x.2)]), (1, .pointer (some ⟨pb, 0, none⟩))] [.ibox pb 117 [str (p.1), str (p.2)]] _
 refine jc_seq (jc_region ?_)
 refine jo_box rfl [str (x.1), str (x.2)] rfl rfl (fun b1 => ?_)
 refine jo_pure rfl (pr_assign rfl) (jo_nil (jq_then (jc_seq (jc_region (jo_pure rfl (pr_fieldAddr 0 rfl Tryd.underlying117 rfl ty_9 rfl rfl) ?_)))))
 refine jo_pure rfl (pr_load_box (str (x.1)) rfl ty_9 (.head _) rfl (by decide) rfl) ?_
 refine jo_pure rfl (pr_fieldAddr 0 rfl Tryd.underlying117 rfl ty_9 rfl rfl) ?_
 refine jo_pure rfl (pr_load_ibox (str (p.1)) rfl ty_9 (.tail _ (.head _)) rfl (by decide) rfl) ?_
 refine jo_pure rfl (pr_seql rfl rfl) ?_
 refine jo_pure rfl (pr_assign rfl) (jo_nil (jq_then (jc_ret (j_drop (j_drop ?_)))))
 exact jq_ret1 rfl () rfl (show (.bool (decide (x.1 = p.1)) : Value) = (.bool (decide ((x.1 : List UInt8) = p.1))) from rfl) (fun _ h => h)

theorem c_indexFunc_media (l : List ((List UInt8) × (List UInt8))) (lv : Value) (p : (List UInt8) × (List UInt8)) (pb : Nat) (hl : l.length ≤ 1000000) : Con Tryd.prog 90 #[lv, .func (.func 88) #[] #[.pointer (some ⟨pb, 0, none⟩)]] [.imm (.list (.pair .str .str)) (lv) (l), .ibox pb 117 [str (p.1), str (p.2)]] (fun _ : Unit => .int .i64 (idxP (fun x => decide (x.1 = p.1)) l)) (fun _ => []) := by
 refine con_of_J (args := [lv, .func (.func 88) #[] #[.pointer (some ⟨pb, 0, none⟩)]]) (n := 19) Tryd.func90 rfl (Nat.le_of_ble_eq_true rfl) rfl (fun w0 I0 m0 => ?_)
 show J _ [(0, lv), (1, .func (.func 88) #[] #[.pointer (some ⟨pb, 0, none⟩)])] [.imm (.list (.pair .str .str)) (lv) (l), .ibox pb 117 [str (p.1), str (p.2)]] _
 refine jc_seq (jc_region (jo_pure rfl (pr_assign rfl) (jo_nil (jq_then (jc_seq ?_)))))
 refine jc_seq (jc_region (jo_pure rfl (pr_move rfl) (jo_pure rfl (pr_len_imm rfl (.head _) Tryd.underlying112) ?_)))
 refine jo_pure rfl (pr_move rfl) (jo_nil (jq_then (jc_block ?_)))
 refine jc_loop (fun (i : Nat) => [(0, lv), (1, .func (.func 88) #[] #[.pointer (some ⟨pb, 0, none⟩)]), (7, .int .i64 ((l.length : Nat) : Int)), (8, .int .i64 ((i : Nat) : Int))]) (fun (i : Nat) => [.imm (.list (.pair .str .str)) (lv) (l), .ibox pb 117 [str (p.1), str (p.2)]]) (fun (i : Nat) => i ≤ l.length ∧ (l.take i).any (fun x => decide (x.1 = p.1)) = false) (fun (i : Nat) => l.length - i) 0 (⟨Nat.zero_le _, rfl⟩) (⟨rfl, rfl, rfl, rfl, trivial⟩) (fun _ h => h) (fun i hinv => ?_)
 refine jc_seq (jc_region (jo_pure rfl (pr_lssN (m := i) (n := l.length) rfl rfl) ?_))
 refine jo_nil (jq_then (jc_seq ?_))
 refine jc_cond rfl (fun h1b => ?_) (fun h1b => ?_)
 ·have h1 := of_decide_eq_true h1b
  refine jc_skip (jq_then (jc_seq (jc_block (jc_seq (jc_region ?_)))))
  refine jo_pure rfl (pr_move rfl) (jo_pure rfl (pr_assign rfl) (jo_nil (jq_then (jc_seq (jc_region ?_)))))
  refine jo_pure rfl (pr_move rfl) (jo_pure rfl (pr_move rfl) (jo_pure rfl (pr_move rfl) (jo_pure rfl (pr_idx_imm (i := i) rfl (.head _) rfl Tryd.underlying112 ty_117 (by omega)) ?_)))
  refine jo_pure rfl (pr_load_elem_imm (i := i) (.agg #[str ((l.getD i ([], [])).1), str ((l.getD i ([], [])).2)]) rfl (.head _) ty_117 rfl rfl (by omega) rfl) ?_
  refine jo_callvp (fi := []) (vs := [.agg #[str ((l.getD i ([], [])).1), str ((l.getD i ([], [])).2)]]) (ca := [.pointer (some ⟨pb, 0, none⟩)]) rfl cal_88 (c_media_form_1 (l.getD i ([], [])) p pb) ⟨rfl, trivial⟩ rfl (⟨⟨rfl, .tail _ (.head _)⟩, trivial⟩) (fun _ => ?_)
  refine jo_nil (jq_then ?_)
  refine jc_cond rfl (fun h2b => ?_) (fun h2b => ?_)
  ·have h2 := id h2b
   refine jc_seq (jc_region (jo_pure rfl (pr_move rfl) (jo_pure rfl (pr_assign rfl) (jo_nil (jq_then ?_)))))
   refine jc_ret (jq_in_ret ?_)
   refine jq_then_ret (jq_then_ret (jq_in_ret ?_))
   refine jq_then_ret (j_drop (j_drop ?_))
   exact jq_ret1 rfl () rfl (show (.int .i64 (idxP (fun x => decide (x.1 = p.1)) l) : Value) = (.int .i64 ((i : Nat) : Int)) from congrArg (Value.int .i64) (by rw [idxP_hit (dd := ([], [])) h1 hinv.2 h2b])) (fun _ h => h)
  ·have h2 := id h2b
   refine jc_skip (jq_in_normal (jq_then (jc_region (jo_pure rfl (pr_addN (m := i) (n := 1) rfl rfl (by omega)) ?_))))
   refine jo_pure rfl (pr_move rfl) (jo_nil (j_pull1 (j_pull1 ?_)))
   refine jq_round' (i + 1) (by (try dsimp only); exact (⟨by omega, any_step (dd := ([], [])) h1 hinv.2 h2b⟩)) (by (try dsimp only); exact (by omega)) ⟨rfl, rfl, rfl, rfl, trivial⟩ (fun _ h => h)
 ·have h1 := of_decide_eq_false h1b
  refine jc_exit ?_
  refine jq_then_exit ?_
  refine jq_then_exit ?_
  refine jq_in_hit ?_
  refine jq_then (jc_seq (jc_region (jo_pure rfl (pr_assign rfl) (jo_nil (jq_then ?_)))))
  refine jc_ret (j_drop (j_drop ?_))
  exact jq_ret1 rfl () rfl (show (.int .i64 (idxP (fun x => decide (x.1 = p.1)) l) : Value) = (.int .i64 (-1)) from congrArg (Value.int .i64) (by rw [idxP_none (any_end (by omega) hinv.2)])) (fun _ h => h)

theorem c_containsFunc_media (l : List ((List UInt8) × (List UInt8))) (lv : Value) (p : (List UInt8) × (List UInt8)) (pb : Nat) (hl : l.length ≤ 1000000) : Con Tryd.prog 87 #[lv, .func (.func 88) #[] #[.pointer (some ⟨pb, 0, none⟩)]] [.imm (.list (.pair .str .str)) (lv) (l), .ibox pb 117 [str (p.1), str (p.2)]] (fun _ : Unit => .bool (l.any (fun x => decide (x.1 = p.1)))) (fun _ => []) := by
 refine con_of_J (args := [lv, .func (.func 88) #[] #[.pointer (some ⟨pb, 0, none⟩)]]) (n := 9) Tryd.func87 rfl (Nat.le_of_ble_eq_true rfl) rfl (fun w0 I0 m0 => ?_)
 show J _ [(0, lv), (1, .func (.func 88) #[] #[.pointer (some ⟨pb, 0, none⟩)])] [.imm (.list (.pair .str .str)) (lv) (l), .ibox pb 117 [str (p.1), str (p.2)]] _
 refine jc_seq (jc_region (jo_pure rfl (pr_assign rfl) (jo_nil (jq_then (jc_seq ?_)))))
 refine jc_region (jo_pure rfl (pr_move rfl) (jo_pure rfl (pr_move rfl) ?_))
 refine jo_callp cal_90 (c_indexFunc_media l lv p pb (by omega)) ⟨rfl, rfl, trivial⟩ rfl (⟨⟨rfl, .head _⟩, ⟨⟨rfl, .tail _ (.head _)⟩, trivial⟩⟩) (fun _ => ?_)
 refine jo_pure rfl (pr_geq (n := 0) rfl rfl) ?_
 refine jo_pure rfl (pr_assign rfl) (jo_nil (jq_then (jc_ret (j_drop (j_drop ?_)))))
 exact jq_ret1 rfl () rfl (show (.bool (l.any (fun x => decide (x.1 = p.1))) : Value) = (.bool (decide ((0 : Int) ≤ idxP (fun x => decide (x.1 = p.1)) l))) from congrArg Value.bool (idxP_ge _ _).symm) (fun _ h => h)

theorem c_media_form (s : List UInt8) (hs : s.length ≤ 300000) : Con Tryd.prog 85 #[.agg #[], str (s)] [] (fun _ : Unit => .tuple #[str ((formF 1 s).1), .bool ((formF 1 s).2)]) (fun _ => []) := by
 refine con_of_J (args := [.agg #[], str (s)]) (n := 42) Tryd.func85 rfl (Nat.le_of_ble_eq_true rfl) rfl (fun w0 I0 m0 => ?_)
 show J _ [(0, .agg #[]), (1, str (s))] [] _
 refine jc_seq (jc_region ?_)
 refine jo_box rfl [] rfl rfl (fun b1 => ?_)
 refine jo_pure rfl (pr_assign rfl) (jo_pure rfl (pr_assign rfl) (jo_nil (jq_then (jc_seq (jc_region ?_)))))
 refine jo_pure rfl (pr_move rfl) ?_
 refine jo_callp cal_86 (c_mediatype_Parse s (by first | omega | (have := (parseT_len s).2.2.1; simp only [List.length_drop, List.length_take]; omega))) ⟨rfl, trivial⟩ rfl (trivial) (fun r1 => ?_)
 show J _ _ [.row (r1) 117 (.pair .str .str) ((parseT s).1.2.2), .box b1 78 []] _
 refine jo_pure rfl (pr_move rfl) (jo_pure rfl (pr_extract rfl rfl) ?_)
 refine jo_pure rfl (pr_extract rfl rfl) ?_
 refine jo_alloc ty_114 [str ([]), str ([]), .slice none 0 0] rfl rfl (fun b2 => ?_)
 refine jo_storeV rfl rfl ty_114 [str ((parseT s).1.1), str ((parseT s).1.2.1), r1] (fun _ _ _ _ => rfl) rfl (fun w I m hs => by simp only [List.all_cons, List.all_nil, Bool.and_true, Bool.and_eq_true]; exact ⟨rfl, rfl, (SliceV.one (row_slice (.tail _ (.head _)) hs))⟩) [str ((parseT s).1.1), str ((parseT s).1.2.1), r1] rfl rfl ?_
 refine jo_pure rfl (pr_assign rfl) (jo_nil (jq_then (jc_seq (jc_seq (j_pull1 ?_)))))
 refine j_pub_row (jc_region (jo_pure rfl (pr_fieldAddr 2 rfl Tryd.underlying114 rfl ty_112 rfl rfl) ?_))
 refine jo_pure rfl (pr_load_box (r1) rfl ty_112 (.tail _ (.head _)) rfl (by decide) rfl) ?_
 refine jo_pure rfl (pr_len_imm rfl (.head _) Tryd.underlying112) ?_
 refine jo_pure rfl (pr_move rfl) (jo_nil (jq_then (jc_block ?_)))
 refine jc_loop2 (fun (i : Nat) (ok : Bool) => [(1, str (s)), (6, .pointer (some ⟨b2, 0, none⟩)), (7, .bool (ok)), (16, r1), (17, .int .i64 ((((parseT s).1.2.2).length : Nat) : Int)), (18, .int .i64 ((i : Nat) : Int))]) (fun (i : Nat) (ok : Bool) => [.imm (.list (.pair .str .str)) (r1) ((parseT s).1.2.2), .box b2 114 [str ((parseT s).1.1), str ((parseT s).1.2.1), r1], .box b1 78 []]) (fun (i : Nat) (ok : Bool) => i ≤ ((parseT s).1.2.2).length ∧ ok = ((parseT s).2 && parOk ((parseT s).1.2.2) i)) (fun (i : Nat) (ok : Bool) => ((parseT s).1.2.2).length - i) 0 ((parseT s).2) (⟨Nat.zero_le _, by rw [show parOk ((parseT s).1.2.2) 0 = true from rfl, Bool.and_true]⟩) (⟨rfl, rfl, rfl, rfl, rfl, rfl, trivial⟩) (fun _ h => h) (fun i ok hinv => ?_)
 refine jc_seq (jc_region (jo_pure rfl (pr_lssN (m := i) (n := ((parseT s).1.2.2).length) rfl rfl) ?_))
 refine jo_nil (jq_then (jc_seq ?_))
 refine jc_cond rfl (fun h1b => ?_) (fun h1b => ?_)
 ·have h1 := of_decide_eq_true h1b
  refine jc_skip (jq_then (jc_seq (jc_block (jc_seq (jc_region ?_)))))
  refine jo_pure rfl (pr_move rfl) (jo_pure rfl (pr_idx_imm (i := i) rfl (.head _) rfl Tryd.underlying112 ty_117 (by omega)) ?_)
  refine jo_pure rfl (pr_load_elem_imm (i := i) (.agg #[str ((((parseT s).1.2.2).getD i ([], [])).1), str ((((parseT s).1.2.2).getD i ([], [])).2)]) rfl (.head _) ty_117 rfl rfl (by omega) rfl) ?_
  refine jo_alloc ty_117 [str ([]), str ([])] rfl rfl (fun b3 => ?_)
  refine jo_pure rfl (pr_assign rfl) (jo_store rfl rfl ty_117 [str ((((parseT s).1.2.2).getD i ([], [])).1), str ((((parseT s).1.2.2).getD i ([], [])).2)] rfl rfl rfl [str ((((parseT s).1.2.2).getD i ([], [])).1), str ((((parseT s).1.2.2).getD i ([], [])).2)] rfl rfl ?_)
  refine jo_nil (jq_then ?_)
  by_cases hok : ok = true
  ·skip
   by_cases hq : (((parseT s).1.2.2).getD i ([], [])).1 = [113]
   ·skip
    refine jc_region (jo_pure rfl (pr_move rfl) (jo_pure rfl (pr_move rfl) (jo_run (j := 1) (want := true) rfl rfl (hok) ?_)))
    refine jo_pure rfl (pr_fieldAddr 0 rfl Tryd.underlying117 rfl ty_9 rfl rfl) ?_
    refine jo_run (j := 1) (want := true) rfl rfl (hok) ?_
    refine jo_pure rfl (pr_load_box (str ((((parseT s).1.2.2).getD i ([], [])).1)) rfl ty_9 (.head _) rfl (by decide) rfl) ?_
    refine jo_run (j := 1) (want := true) rfl rfl (hok) ?_
    refine jo_pure rfl (pr_sneq rfl rfl) ?_
    refine jo_pure rfl (pr_pick_t rfl (hok) rfl) ?_
    refine jo_pure rfl (pr_move rfl) (jo_skipu (j := 6) (want := true) rfl rfl (by rw [decide_eq_true hq] <;> rfl) rfl ?_)
    refine jo_skipu (j := 6) (want := true) rfl rfl (by rw [decide_eq_true hq] <;> rfl) rfl ?_
    refine jo_skipu (j := 6) (want := true) rfl rfl (by rw [decide_eq_true hq] <;> rfl) rfl ?_
    refine jo_skipu (j := 6) (want := true) rfl rfl (by rw [decide_eq_true hq] <;> rfl) rfl ?_
    refine jo_skipu (j := 6) (want := true) rfl rfl (by rw [decide_eq_true hq] <;> rfl) rfl ?_
    refine jo_skipu (j := 6) (want := true) rfl rfl (by rw [decide_eq_true hq] <;> rfl) rfl ?_
    refine jo_skipu (j := 6) (want := true) rfl rfl (by rw [decide_eq_true hq] <;> rfl) rfl ?_
    refine jo_pure rfl (pr_pick_f rfl (by rw [decide_eq_true hq] <;> rfl) rfl) ?_
    refine jo_pure rfl (pr_assign rfl) (jo_nil (jq_in_normal (jq_then (jc_region (jo_pure rfl (pr_addN (m := i) (n := 1) rfl rfl (by have := (parseT_len s).2.2.1; omega)) ?_)))))
    refine jo_pure rfl (pr_move rfl) (jo_nil (j_drop (j_pull2 (j_pull2 (j_pull2 ?_)))))
    refine jq_round' ((i + 1), false) (by (try dsimp only); exact (⟨by omega, by rw [parOk_step, decide_eq_true hq]; simp⟩)) (by (try dsimp only); exact (by omega)) ⟨rfl, rfl, rfl, rfl, rfl, rfl, trivial⟩ (fun _ h => h)
   ·skip
    refine jc_region (jo_pure rfl (pr_move rfl) (jo_pure rfl (pr_move rfl) (jo_run (j := 1) (want := true) rfl rfl (hok) ?_)))
    refine jo_pure rfl (pr_fieldAddr 0 rfl Tryd.underlying117 rfl ty_9 rfl rfl) ?_
    refine jo_run (j := 1) (want := true) rfl rfl (hok) ?_
    refine jo_pure rfl (pr_load_box (str ((((parseT s).1.2.2).getD i ([], [])).1)) rfl ty_9 (.head _) rfl (by decide) rfl) ?_
    refine jo_run (j := 1) (want := true) rfl rfl (hok) ?_
    refine jo_pure rfl (pr_sneq rfl rfl) ?_
    refine jo_pure rfl (pr_pick_t rfl (hok) rfl) ?_
    refine jo_pure rfl (pr_move rfl) (jo_run (j := 6) (want := true) rfl rfl (by rw [decide_eq_false hq] <;> rfl) ?_)
    refine jo_pure rfl (pr_fieldAddr 2 rfl Tryd.underlying114 rfl ty_112 rfl rfl) ?_
    refine jo_run (j := 6) (want := true) rfl rfl (by rw [decide_eq_false hq] <;> rfl) ?_
    refine jo_pure rfl (pr_load_box (r1) rfl ty_112 (.tail _ (.tail _ (.head _))) rfl (by decide) rfl) ?_
    refine jo_run (j := 6) (want := true) rfl rfl (by rw [decide_eq_false hq] <;> rfl) ?_
    refine jo_pure rfl (pr_move rfl) (jo_run (j := 6) (want := true) rfl rfl (by rw [decide_eq_false hq] <;> rfl) ?_)
    refine j_resl (l := 0) (h := i) (.tail _ (.head _)) (by omega) (by omega) ?_
    show J _ _ (.imm (.list (.pair .str .str)) (resl (r1) (0) (i) 2) ((((parseT s).1.2.2).take i).drop 0) :: _) _
    refine jo_pure rfl (pr_slice_imm (l := 0) (h := i) rfl (.tail _ (.tail _ (.head _))) Tryd.underlying112 ty_117 rfl ⟨_, rfl⟩ (by omega) (by omega)) ?_
    refine jo_run (j := 6) (want := true) rfl rfl (by rw [decide_eq_false hq] <;> rfl) ?_
    refine jo_pure rfl (pr_makeFunc (fs := #[]) (cs := #[.pointer (some ⟨b3, 0, none⟩)]) (fun a hf => by simp) (fun a hf => by simp only [List.map_toArray, List.map_cons, List.map_nil, hf.ev (show ev _ (.tmp 9) = some (.pointer (some ⟨b3, 0, none⟩)) from rfl)])) ?_
    refine jo_run (j := 6) (want := true) rfl rfl (by rw [decide_eq_false hq] <;> rfl) ?_
    refine j_pull1 (j_pub_box ?_)
    refine jo_callp cal_87 (c_containsFunc_media ((((parseT s).1.2.2).take i).drop 0) (resl (r1) (0) (i) 2) (((parseT s).1.2.2).getD i ([], [])) b3 (by first | omega | (have := (parseT_len s).2.2.1; simp only [List.length_drop, List.length_take]; omega))) ⟨rfl, rfl, trivial⟩ rfl (⟨⟨rfl, .tail _ (.head _)⟩, ⟨⟨rfl, .head _⟩, trivial⟩⟩) (fun _ => ?_)
    refine jo_run (j := 6) (want := true) rfl rfl (by rw [decide_eq_false hq] <;> rfl) ?_
    refine jo_pure rfl (pr_not rfl) ?_
    refine jo_pure rfl (pr_pick_t rfl (by rw [decide_eq_false hq] <;> rfl) rfl) ?_
    refine jo_pure rfl (pr_assign rfl) (jo_nil (jq_in_normal (jq_then (jc_region (jo_pure rfl (pr_addN (m := i) (n := 1) rfl rfl (by have := (parseT_len s).2.2.1; omega)) ?_)))))
    refine jo_pure rfl (pr_move rfl) (jo_nil (j_drop (j_drop (j_pull2 (j_pull2 ?_)))))
    refine j_pull2 ?_
    refine jq_round' ((i + 1), (!((((parseT s).1.2.2).take i).drop 0).any (fun x => decide (x.1 = (((parseT s).1.2.2).getD i ([], [])).1)))) (by (try dsimp only); exact (⟨by omega, by rw [parOk_step, ← Bool.and_assoc, ← hinv.2, hok, decide_eq_false hq, drop0]; rfl⟩)) (by (try dsimp only); exact (by omega)) ⟨rfl, rfl, rfl, rfl, rfl, rfl, trivial⟩ (fun _ h => h)
  ·skip
   refine jc_region (jo_pure rfl (pr_move rfl) (jo_pure rfl (pr_move rfl) (jo_skipu (j := 1) (want := true) rfl rfl (by simpa using hok) rfl ?_)))
   refine jo_skipu (j := 1) (want := true) rfl rfl (by simpa using hok) rfl ?_
   refine jo_skipu (j := 1) (want := true) rfl rfl (by simpa using hok) rfl ?_
   refine jo_pure rfl (pr_pick_f rfl (by simpa using hok) rfl) ?_
   refine jo_pure rfl (pr_move rfl) (jo_skipu (j := 6) (want := true) rfl rfl (rfl) rfl ?_)
   refine jo_skipu (j := 6) (want := true) rfl rfl (rfl) rfl ?_
   refine jo_skipu (j := 6) (want := true) rfl rfl (rfl) rfl ?_
   refine jo_skipu (j := 6) (want := true) rfl rfl (rfl) rfl ?_
   refine jo_skipu (j := 6) (want := true) rfl rfl (rfl) rfl ?_
   refine jo_skipu (j := 6) (want := true) rfl rfl (rfl) rfl ?_
   refine jo_skipu (j := 6) (want := true) rfl rfl (rfl) rfl ?_
   refine jo_pure rfl (pr_pick_f rfl (rfl) rfl) ?_
   refine jo_pure rfl (pr_assign rfl) (jo_nil (jq_in_normal (jq_then (jc_region (jo_pure rfl (pr_addN (m := i) (n := 1) rfl rfl (by have := (parseT_len s).2.2.1; omega)) ?_)))))
   refine jo_pure rfl (pr_move rfl) (jo_nil (j_drop (j_pull2 (j_pull2 (j_pull2 ?_)))))
   refine jq_round' ((i + 1), false) (by (try dsimp only); exact (⟨by omega, by rw [parOk_step, ← Bool.and_assoc, ← hinv.2, show ok = false by simpa using hok]; rfl⟩)) (by (try dsimp only); exact (by omega)) ⟨rfl, rfl, rfl, rfl, rfl, rfl, trivial⟩ (fun _ h => h)
 ·have h1 := of_decide_eq_false h1b
  refine jc_exit ?_
  refine jq_then_exit ?_
  refine jq_then_exit ?_
  refine jq_in_hit ?_
  refine jq_then (jc_seq (jc_region (jo_pure rfl (pr_move rfl) ?_)))
  refine jo_callp cal_21 (c_ascii_Lower s (by first | omega | (have := (parseT_len s).2.2.1; simp only [List.length_drop, List.length_take]; omega))) ⟨rfl, trivial⟩ rfl (trivial) (fun _ => ?_)
  refine jo_pure rfl (pr_move rfl) (jo_pure rfl (pr_assign rfl) (jo_pure rfl (pr_assign rfl) (jo_nil (jq_then (jc_ret ?_)))))
  refine j_drop (j_drop (j_drop ?_))
  exact jq_rets (rs := [.tmp 4, .tmp 5]) (vs := [str (lower s), .bool (ok)]) rfl () ⟨resV_tmp rfl, resV_tmp rfl, trivial⟩ rfl (show (.tuple #[str ((formF 1 s).1), .bool ((formF 1 s).2)] : Value) = (.tuple #[str (lower s), .bool (ok)]) from by rw [form1 rfl, hinv.2, show i = ((parseT s).1.2.2).length by omega]) (fun _ h => h)

theorem c_tags_form (s : List UInt8) (hs : s.length ≤ 300000) : Con Tryd.prog 99 #[.agg #[], str (s)] [] (fun _ : Unit => .tuple #[str ((formF 2 s).1), .bool ((formF 2 s).2)]) (fun _ => []) := by
 refine con_of_J (args := [.agg #[], str (s)]) (n := 10) Tryd.func99 rfl (Nat.le_of_ble_eq_true rfl) rfl (fun w0 I0 m0 => ?_)
 show J _ [(0, .agg #[]), (1, str (s))] [] _
 refine jc_seq (jc_region ?_)
 refine jo_box rfl [] rfl rfl (fun b1 => ?_)
 refine jo_pure rfl (pr_assign rfl) (jo_pure rfl (pr_assign rfl) (jo_nil (jq_then (jc_seq (jc_region ?_)))))
 refine jo_pure rfl (pr_move rfl) ?_
 refine jo_callp cal_21 (c_ascii_Lower s (by omega)) ⟨rfl, trivial⟩ rfl (trivial) (fun _ => ?_)
 refine jo_pure rfl (pr_move rfl) ?_
 refine jo_callp cal_100 (c_language_Tag s (by omega)) ⟨rfl, trivial⟩ rfl (trivial) (fun _ => ?_)
 refine jo_pure rfl (pr_assign rfl) (jo_pure rfl (pr_assign rfl) (jo_nil (jq_then (jc_ret (j_drop ?_)))))
 exact jq_rets (rs := [.tmp 4, .tmp 5]) (vs := [str (lower s), .bool (tagF s)]) rfl () ⟨resV_tmp rfl, resV_tmp rfl, trivial⟩ rfl (show (.tuple #[str ((formF 2 s).1), .bool ((formF 2 s).2)] : Value) = (.tuple #[str (lower s), .bool (tagF s)]) from rfl) (fun _ h => h)

theorem c_words_form (k : Int) (s : List UInt8) (hs : s.length ≤ 300000) (hk : k = 3 ∨ k = 4) : Con Tryd.prog 109 #[.int .i64 (k), str (s)] [] (fun _ : Unit => .tuple #[str ((formF k s).1), .bool ((formF k s).2)]) (fun _ => []) := by
 refine con_of_J (args := [.int .i64 (k), str (s)]) (n := 15) Tryd.func109 rfl (Nat.le_of_ble_eq_true rfl) rfl (fun w0 I0 m0 => ?_)
 show J _ [(0, .int .i64 (k)), (1, str (s))] [] _
 refine jc_seq (jc_region (jo_pure rfl (pr_assign rfl) (jo_pure rfl (pr_assign rfl) (jo_nil (jq_then ?_)))))
 refine jc_seq (jc_region (jo_pure rfl (pr_move rfl) (jo_pure rfl (pr_move rfl) ?_)))
 refine jo_callp cal_110 (c_coding_Canonical k s (by omega)) ⟨rfl, rfl, trivial⟩ rfl (trivial) (fun _ => ?_)
 refine jo_pure rfl (pr_move rfl) ?_
 refine jo_callp cal_20 (c_ascii_Token s (by omega)) ⟨rfl, trivial⟩ rfl (trivial) (fun _ => ?_)
 refine jo_pure rfl (pr_move rfl) (jo_gpure (j := 5) (want := true) rfl rfl rfl rfl (fun hg => pr_move rfl) ?_)
 refine jo_gpure (j := 5) (want := true) rfl rfl rfl rfl (fun hg => pr_sneq (evg rfl hg) rfl) ?_
 refine jo_pure rfl (pr_pick_and rfl rfl rfl) ?_
 refine jo_pure rfl (pr_assign rfl) (jo_pure rfl (pr_assign rfl) (jo_nil (jq_then (jc_ret ?_))))
 exact jq_rets (rs := [.tmp 4, .tmp 5]) (vs := [str (canonical k s), .bool ((token s && (!decide ((s : List UInt8) = [42]))))]) rfl () ⟨resV_tmp rfl, resV_tmp rfl, trivial⟩ rfl (show (.tuple #[str ((formF k s).1), .bool ((formF k s).2)] : Value) = (.tuple #[str (canonical k s), .bool ((token s && (!decide ((s : List UInt8) = [42]))))]) from by rw [form3 (by omega) (by omega) hk]) (fun _ h => h)

theorem c_texts_form (s : List UInt8) (hs : s.length ≤ 300000) : Con Tryd.prog 111 #[.agg #[], str (s)] [] (fun _ : Unit => .tuple #[str ((formF 0 s).1), .bool ((formF 0 s).2)]) (fun _ => []) := by
 refine con_of_J (args := [.agg #[], str (s)]) (n := 25) Tryd.func111 rfl (Nat.le_of_ble_eq_true rfl) rfl (fun w0 I0 m0 => ?_)
 show J _ [(0, .agg #[]), (1, str (s))] [] _
 refine jc_seq (jc_region ?_)
 refine jo_box rfl [] rfl rfl (fun b1 => ?_)
 refine jo_pure rfl (pr_assign rfl) (jo_pure rfl (pr_assign rfl) (jo_nil (jq_then (jc_seq (jc_region ?_)))))
 refine jo_pure rfl (pr_move rfl) (jo_pure rfl (pr_move rfl) (jo_pure rfl (pr_slen rfl Tryd.underlying9) ?_))
 refine jo_pure rfl (pr_geqN (m := s.length) (n := 1) rfl rfl) ?_
 refine jo_pure rfl (pr_move rfl) (jo_gpure (j := 4) (want := true) rfl rfl rfl rfl (fun hg => pr_move rfl) ?_)
 refine jo_gpure (j := 4) (want := true) rfl rfl rfl rfl (fun hg => pr_slen (evg rfl hg) Tryd.underlying9) ?_
 refine jo_gpure (j := 4) (want := true) rfl rfl rfl rfl (fun hg => pr_leqN (m := s.length) (n := 100) (evg rfl hg) rfl) ?_
 refine jo_pure rfl (pr_pick_and rfl rfl rfl) ?_
 refine jo_pure rfl (pr_move rfl) (jo_gpure (j := 9) (want := true) rfl rfl rfl rfl (fun hg => pr_move rfl) ?_)
 refine jo_gcall (j := 9) (want := true) rfl rfl rfl cal_46 (fun hg => c_ascii_Text s (by omega)) (fun hg => ⟨evg rfl hg, trivial⟩) rfl (fun _ => trivial) ?_
 refine jo_pure rfl (pr_pick_and rfl rfl rfl) ?_
 refine jo_pure rfl (pr_move rfl) (jo_gpure (j := 13) (want := true) rfl rfl rfl rfl (fun hg => pr_move rfl) ?_)
 refine jo_gcall (j := 13) (want := true) rfl rfl rfl cal_40 (fun hg => c_ascii_Trim s (by omega)) (fun hg => ⟨evg rfl hg, trivial⟩) rfl (fun _ => trivial) ?_
 refine jo_gpure (j := 13) (want := true) rfl rfl rfl rfl (fun hg => pr_move rfl) ?_
 refine jo_gpure (j := 13) (want := true) rfl rfl rfl rfl (fun hg => pr_seql (evg rfl hg) (evg rfl hg)) ?_
 refine jo_pure rfl (pr_pick_and rfl rfl rfl) ?_
 refine jo_pure rfl (pr_assign rfl) (jo_pure rfl (pr_assign rfl) (jo_nil (jq_then (jc_ret (j_drop ?_)))))
 exact jq_rets (rs := [.tmp 4, .tmp 5]) (vs := [str (s), .bool ((((decide ((1 : Nat) ≤ s.length) && decide ((s.length : Nat) ≤ 100)) && text s) && decide ((trim s : List UInt8) = s)))]) rfl () ⟨resV_tmp rfl, resV_tmp rfl, trivial⟩ rfl (show (.tuple #[str ((formF 0 s).1), .bool ((formF 0 s).2)] : Value) = (.tuple #[str (s), .bool ((((decide ((1 : Nat) ≤ s.length) && decide ((s.length : Nat) ≤ 100)) && text s) && decide ((trim s : List UInt8) = s)))]) from rfl) (fun _ h => h)

def domV (k : Int) : Value := if k = 1 then .iface 78 (.agg #[]) else if k = 2 then .iface 79 (.agg #[]) else if k = 3 ∨ k = 4 then .iface 80 (.int .i64 k) else .iface 81 (.agg #[])
theorem form_meth (k : Int) (s : List UInt8) (hs : s.length ≤ 300000) : Meth Tryd.prog (domV k) "variantproxy/variants.form" [str s] [] (fun _ : Unit => .tuple #[str (formF k s).1, .bool (formF k s).2]) (fun _ => []) := by
 unfold domV
 split
 ·rename_i h; exact ⟨85, #[.agg #[], str s], fun w => by kernel_rfl, by subst h; exact c_media_form s hs⟩
 ·rename_i h1
  split
  ·rename_i h; exact ⟨99, #[.agg #[], str s], fun w => by kernel_rfl, by subst h; exact c_tags_form s hs⟩
  ·rename_i h2
   split
   ·rename_i h; exact ⟨109, #[.int .i64 k, str s], fun w => by kernel_rfl, c_words_form k s hs h⟩
   ·rename_i h; exact ⟨111, #[.agg #[], str s], fun w => by kernel_rfl, by rw [form0 h1 h2 h]; exact c_texts_form s hs⟩

theorem c_variants_domainOf (axis : List UInt8) (hn : axis.length ≤ 1000000) : Con Tryd.prog 36 #[str (axis)] [] (fun _ : Unit => domV (kindF axis)) (fun _ => []) := by
 refine con_of_J (args := [str (axis)]) (n := 22) Tryd.func36 rfl (Nat.le_of_ble_eq_true rfl) rfl (fun w0 I0 m0 => ?_)
 show J _ [(0, str (axis))] [] _
 refine jc_seq (jc_region (jo_pure rfl (pr_assign rfl) (jo_nil (jq_then (jc_seq ?_)))))
 refine jc_seq (jc_region (jo_pure rfl (pr_move rfl) ?_))
 refine jo_callp cal_48 (c_accept_Kind axis (by omega)) ⟨rfl, trivial⟩ rfl (trivial) (fun _ => ?_)
 refine jo_pure rfl (pr_assign rfl) (jo_nil (jq_then (jc_seq (jc_region (jo_pure rfl (pr_move rfl) ?_)))))
 refine jo_nil (jq_then (jc_block (jc_seq (jc_region (jo_pure rfl (pr_eql (n := 1) rfl rfl) ?_)))))
 refine jo_pure rfl (pr_assign rfl) (jo_nil (jq_then ?_))
 refine jc_cond rfl (fun h1b => ?_) (fun h1b => ?_)
 ·have h1 := of_decide_eq_true h1b
  refine jc_seq (jc_region (jo_pure rfl (pr_build [] [] (fun a hf => by simp) (by kernel_rfl)) ?_))
  refine jo_pure rfl (pr_makeInterface rfl (by kernel_rfl)) ?_
  refine jo_pure rfl (pr_assign rfl) (jo_nil (jq_then (jc_ret (jq_in_ret ?_))))
  refine jq_then_ret ?_
  exact jq_ret1 rfl () rfl (show (domV (kindF axis) : Value) = (.iface 78 (.agg #[])) from by unfold domV; simp [*]) (fun _ h => h)
 ·have h1 := of_decide_eq_false h1b
  refine jc_seq (jc_region (jo_pure rfl (pr_eql (n := 2) rfl rfl) ?_))
  refine jo_pure rfl (pr_assign rfl) (jo_nil (jq_then ?_))
  refine jc_cond rfl (fun h2b => ?_) (fun h2b => ?_)
  ·have h2 := of_decide_eq_true h2b
   refine jc_seq (jc_region (jo_pure rfl (pr_build [] [] (fun a hf => by simp) (by kernel_rfl)) ?_))
   refine jo_pure rfl (pr_makeInterface rfl (by kernel_rfl)) ?_
   refine jo_pure rfl (pr_assign rfl) (jo_nil (jq_then (jc_ret (jq_in_ret ?_))))
   refine jq_then_ret ?_
   exact jq_ret1 rfl () rfl (show (domV (kindF axis) : Value) = (.iface 79 (.agg #[])) from by unfold domV; simp [*]) (fun _ h => h)
  ·have h2 := of_decide_eq_false h2b
   refine jc_seq (jc_seq (jc_region (jo_pure rfl (pr_eql (n := 3) rfl rfl) ?_)))
   refine jo_pure rfl (pr_assign rfl) (jo_nil (jq_then ?_))
   refine jc_cond rfl (fun h3b => ?_) (fun h3b => ?_)
   ·have h3 := of_decide_eq_true h3b
    refine jc_skip (jq_then (jc_true rfl (h3b) ?_))
    refine jc_seq (jc_region (jo_pure rfl (pr_move rfl) (jo_pure rfl (pr_makeInterface rfl (by kernel_rfl)) ?_)))
    refine jo_pure rfl (pr_assign rfl) (jo_nil (jq_then (jc_ret (jq_in_ret ?_))))
    refine jq_then_ret ?_
    exact jq_ret1 rfl () rfl (show (domV (kindF axis) : Value) = (.iface 80 (.int .i64 (kindF axis))) from by unfold domV; simp [*]) (fun _ h => h)
   ·have h3 := of_decide_eq_false h3b
    refine jc_region (jo_pure rfl (pr_eql (n := 4) rfl rfl) ?_)
    refine jo_pure rfl (pr_assign rfl) (jo_nil (jq_then ?_))
    refine jc_cond rfl (fun h4b => ?_) (fun h4b => ?_)
    ·have h4 := of_decide_eq_true h4b
     refine jc_seq (jc_region (jo_pure rfl (pr_move rfl) (jo_pure rfl (pr_makeInterface rfl (by kernel_rfl)) ?_)))
     refine jo_pure rfl (pr_assign rfl) (jo_nil (jq_then (jc_ret (jq_in_ret ?_))))
     refine jq_then_ret ?_
     exact jq_ret1 rfl () rfl (show (domV (kindF axis) : Value) = (.iface 80 (.int .i64 (kindF axis))) from by unfold domV; simp [*]) (fun _ h => h)
    ·have h4 := of_decide_eq_false h4b
     refine jc_skip (jq_in_normal (jq_then (jc_seq (jc_region (jo_pure rfl (pr_build [] [] (fun a hf => by simp) (by kernel_rfl)) ?_)))))
     refine jo_pure rfl (pr_makeInterface rfl (by kernel_rfl)) ?_
     refine jo_pure rfl (pr_assign rfl) (jo_nil (jq_then (jc_ret ?_)))
     exact jq_ret1 rfl () rfl (show (domV (kindF axis) : Value) = (.iface 81 (.agg #[])) from by unfold domV; simp [*]) (fun _ h => h)

theorem c_variants_Same (axis : List UInt8) (a : List UInt8) (b : List UInt8) (ha : axis.length ≤ 1000000) (hs : a.length ≤ 300000) (hb : b.length ≤ 300000) : Con Tryd.prog 31 #[str (axis), str (a), str (b)] [] (fun _ : Unit => .bool (sameF axis a b)) (fun _ => []) := by
 refine con_of_J (args := [str (axis), str (a), str (b)]) (n := 29) Tryd.func31 rfl (Nat.le_of_ble_eq_true rfl) rfl (fun w0 I0 m0 => ?_)
 show J _ [(0, str (axis)), (1, str (a)), (2, str (b))] [] _
 refine jc_seq (jc_region (jo_pure rfl (pr_assign rfl) (jo_nil (jq_then (jc_seq ?_)))))
 refine jc_region (jo_pure rfl (pr_move rfl) ?_)
 refine jo_callp cal_36 (c_variants_domainOf axis (by omega)) ⟨rfl, trivial⟩ rfl (trivial) (fun _ => ?_)
 refine jo_pure rfl (pr_assign rfl) (jo_nil (jq_then (jc_seq (jc_region (jo_pure rfl (pr_move rfl) ?_)))))
 refine jo_pure rfl (pr_move rfl) ?_
 refine jo_invokep rfl (form_meth (kindF axis) a (by omega)) ⟨rfl, trivial⟩ rfl trivial (fun _ => ?_)
 refine jo_pure rfl (pr_move rfl) (jo_pure rfl (pr_extract rfl rfl) ?_)
 refine jo_pure rfl (pr_extract rfl rfl) ?_
 refine jo_pure rfl (pr_assign rfl) (jo_pure rfl (pr_assign rfl) (jo_nil (jq_then (jc_seq (jc_region ?_)))))
 refine jo_pure rfl (pr_move rfl) (jo_pure rfl (pr_move rfl) ?_)
 refine jo_invokep rfl (form_meth (kindF axis) b (by omega)) ⟨rfl, trivial⟩ rfl trivial (fun _ => ?_)
 refine jo_pure rfl (pr_move rfl) (jo_pure rfl (pr_extract rfl rfl) ?_)
 refine jo_pure rfl (pr_extract rfl rfl) ?_
 refine jo_pure rfl (pr_assign rfl) (jo_pure rfl (pr_assign rfl) (jo_nil (jq_then (jc_seq (jc_region ?_)))))
 refine jo_pure rfl (pr_move rfl) (jo_pure rfl (pr_move rfl) (jo_pure rfl (pr_seql rfl rfl) ?_))
 refine jo_pure rfl (pr_assign rfl) (jo_nil (jq_then (jc_ret ?_)))
 exact jq_ret1 rfl () rfl (show (.bool (sameF axis a b) : Value) = (.bool (decide (((formF (kindF axis) a).1 : List UInt8) = (formF (kindF axis) b).1))) from rfl) (fun _ h => h)

theorem c_variants_valid (a : (List UInt8) × (List (List UInt8))) (av : Value) (ha : a.1.length ≤ 1000000) (hm : ∀ x ∈ a.2, x.length ≤ 300000) (hl : a.2.length ≤ 9223372036854775807) : Con Tryd.prog 22 #[.agg #[str (a.1), av]] [.imm (.list .str) (av) (a.2)] (fun _ : Unit => .bool (validV (kindF a.1) a.2)) (fun _ => []) := by
 refine con_of_J (args := [.agg #[str (a.1), av]]) (n := 46) Tryd.func22 rfl (Nat.le_of_ble_eq_true rfl) rfl (fun w0 I0 m0 => ?_)
 show J _ [(0, .agg #[str (a.1), av])] [.imm (.list .str) (av) (a.2)] _
 refine jc_seq (jc_region ?_)
 refine jo_box rfl [str (a.1), av] rfl rfl (fun b1 => ?_)
 refine jo_pure rfl (pr_assign rfl) (jo_nil (jq_then (jc_seq (jc_seq (jc_region ?_)))))
 refine jo_pure rfl (pr_fieldAddr 1 rfl Tryd.underlying33 rfl ty_31 rfl rfl) ?_
 refine jo_pure rfl (pr_load_box (av) rfl ty_31 (.head _) rfl (by decide) rfl) ?_
 refine jo_pure rfl (pr_len_imm rfl (.tail _ (.head _)) Tryd.underlying31) ?_
 refine jo_pure rfl (pr_lssN (m := a.2.length) (n := 1) rfl rfl) ?_
 refine jo_pure rfl (pr_move rfl) (jo_gpure (j := 4) (want := false) rfl rfl rfl rfl (fun hg => pr_fieldAddr 1 rfl Tryd.underlying33 rfl ty_31 rfl rfl) ?_)
 refine jo_gpure (j := 4) (want := false) rfl rfl rfl rfl (fun hg => pr_load_box (av) (evg rfl hg) ty_31 (.head _) rfl (by decide) rfl) ?_
 refine jo_gpure (j := 4) (want := false) rfl rfl rfl rfl (fun hg => pr_len_imm (evg rfl hg) (.tail _ (.head _)) Tryd.underlying31) ?_
 refine jo_gpure (j := 4) (want := false) rfl rfl rfl rfl (fun hg => pr_gtrN (m := a.2.length) (n := 16) (evg rfl hg) rfl) ?_
 refine jo_pure rfl (pr_pick_or rfl rfl rfl) ?_
 refine jo_nil (jq_then ?_)
 refine jc_cond rfl (fun h1b => ?_) (fun h1b => ?_)
 ·have h1 := (fun q => Or.imp of_decide_eq_true of_decide_eq_true (bt_or q)) h1b
  refine jc_seq (jc_region (jo_pure rfl (pr_assign rfl) (jo_nil (jq_then (jc_ret ?_)))))
  refine jq_then_ret (j_drop (j_drop ?_))
  exact jq_ret1 rfl () rfl (show (.bool (validV (kindF a.1) a.2) : Value) = (.bool (false)) from congrArg Value.bool (by rw [validV_no h1])) (fun _ h => h)
 ·have h1 := (fun q => And.imp of_decide_eq_false of_decide_eq_false (bf_or q)) h1b
  refine jc_skip (jq_then (jc_seq (jc_region (jo_pure rfl (pr_fieldAddr 0 rfl Tryd.underlying33 rfl ty_9 rfl rfl) ?_))))
  refine jo_pure rfl (pr_load_box (str (a.1)) rfl ty_9 (.head _) rfl (by decide) rfl) ?_
  refine jo_callp cal_36 (c_variants_domainOf a.1 (by omega)) ⟨rfl, trivial⟩ rfl (trivial) (fun _ => ?_)
  refine jo_pure rfl (pr_assign rfl) (jo_nil (jq_then (jc_seq (jc_region ?_))))
  refine jo_makeMap rfl (fun m1 => ?_)
  show J _ _ (.mp m1 (mpE .bool (([] : List (List UInt8 × Bool)))) (([] : List (List UInt8 × Bool))).length :: _) _
  refine jo_pure rfl (pr_assign rfl) (jo_nil (jq_then (jc_seq (jc_seq (jc_region ?_)))))
  refine jo_pure rfl (pr_fieldAddr 1 rfl Tryd.underlying33 rfl ty_31 rfl rfl) ?_
  refine jo_pure rfl (pr_load_box (av) rfl ty_31 (.tail _ (.head _)) rfl (by decide) rfl) ?_
  refine jo_pure rfl (pr_len_imm rfl (.tail _ (.tail _ (.head _))) Tryd.underlying31) ?_
  refine jo_pure rfl (pr_move rfl) (jo_nil (jq_then (jc_block ?_)))
  refine jc_loop2 (fun (i : Nat) (ms : List (List UInt8 × Bool)) => [(3, domV (kindF a.1)), (4, .map (some m1)), (24, av), (25, .int .i64 ((a.2.length : Nat) : Int)), (26, .int .i64 ((i : Nat) : Int))]) (fun (i : Nat) (ms : List (List UInt8 × Bool)) => [.mp m1 (mpE .bool (ms)) (ms).length, .box b1 33 [str (a.1), av], .imm (.list .str) (av) (a.2)]) (fun (i : Nat) (ms : List (List UInt8 × Bool)) => i ≤ a.2.length ∧ distB (fun s => (formF (kindF a.1) s).2) (fun x y => decide ((formF (kindF a.1) y).1 = (formF (kindF a.1) x).1)) [] a.2 i = true ∧ ms = (a.2.take i).map (fun s => ((formF (kindF a.1) s).1, true))) (fun (i : Nat) (ms : List (List UInt8 × Bool)) => a.2.length - i) 0 ([] : List (List UInt8 × Bool)) (⟨Nat.zero_le _, rfl, rfl⟩) (⟨rfl, rfl, rfl, rfl, rfl, trivial⟩) (fun _ h => h) (fun i ms hinv => ?_)
  refine jc_seq (jc_region (jo_pure rfl (pr_lssN (m := i) (n := a.2.length) rfl rfl) ?_))
  refine jo_nil (jq_then (jc_seq ?_))
  refine jc_cond rfl (fun h2b => ?_) (fun h2b => ?_)
  ·have h2 := of_decide_eq_true h2b
   refine jc_skip (jq_then (jc_seq (jc_block (jc_seq (jc_region ?_)))))
   refine jo_pure rfl (pr_idx_imm (i := i) rfl (.tail _ (.tail _ (.head _))) rfl Tryd.underlying31 ty_9 (by omega)) ?_
   refine jo_pure rfl (pr_load_elem_imm (i := i) (str (a.2.getD i [])) rfl (.tail _ (.tail _ (.head _))) ty_9 rfl rfl (by omega) rfl) ?_
   refine jo_pure rfl (pr_assign rfl) (jo_nil (jq_then (jc_seq (jc_region (jo_pure rfl (pr_move rfl) ?_)))))
   refine jo_pure rfl (pr_move rfl) ?_
   refine jo_invokep rfl (form_meth (kindF a.1) (a.2.getD i []) (hm _ (getD_mem h2))) ⟨rfl, trivial⟩ rfl trivial (fun _ => ?_)
   refine jo_pure rfl (pr_move rfl) (jo_pure rfl (pr_extract rfl rfl) ?_)
   refine jo_pure rfl (pr_extract rfl rfl) ?_
   refine jo_pure rfl (pr_assign rfl) (jo_pure rfl (pr_assign rfl) (jo_nil (jq_then (jc_seq (jc_seq ?_)))))
   refine jc_region (jo_pure rfl (pr_move rfl) (jo_pure rfl (pr_not rfl) ?_))
   refine jo_pure rfl (pr_move rfl) (jo_gpure (j := 2) (want := false) rfl rfl rfl rfl (fun hg => pr_move rfl) ?_)
   refine jo_gpure (j := 2) (want := false) rfl rfl rfl rfl (fun hg => pr_move rfl) ?_
   refine jo_gpure (j := 2) (want := false) rfl rfl rfl rfl (fun hg => pr_lookS (ty := .bool) (dd := false) (evg rfl hg) (evg rfl hg) (.head _) Tryd.underlying64 Tryd.underlying9 ty_4 rfl rfl) ?_
   refine jo_pure rfl (pr_pick_or rfl rfl rfl) ?_
   refine jo_nil (jq_then ?_)
   refine jc_cond rfl (fun h3b => ?_) (fun h3b => ?_)
   ·have h3 := (fun q => Or.imp (fun q => id (bt_not q)) id (bt_or q)) h3b
    refine jc_seq (jc_region (jo_pure rfl (pr_assign rfl) (jo_nil (jq_then (jc_ret ?_)))))
    refine jq_then_ret (jq_in_ret ?_)
    refine jq_then_ret (jq_then_ret (jq_in_ret ?_))
    refine jq_then_ret (j_drop (j_drop (j_drop ?_)))
    exact jq_ret1 rfl () rfl (show (.bool (validV (kindF a.1) a.2) : Value) = (.bool (false)) from congrArg Value.bool (by rw [validV_yes (by omega), dist_bad h2 (h3.imp (fun q => by simpa using q) (fun q => (seen_yes hinv.2.2).symm.trans q))])) (fun _ h => h)
   ·have h3 := (fun q => And.imp (fun q => id (bf_not q)) id (bf_or q)) h3b
    have hnew := seen_new hinv.2.2 h3.2
    refine jc_skip (jq_then (jc_region (jo_pure rfl (pr_move rfl) (jo_pure rfl (pr_move rfl) (jo_putS (ty := .bool) (l := ms) (k := (formF (kindF a.1) (a.2.getD i [])).1) true rfl rfl rfl rfl Tryd.underlying64 Tryd.underlying9 (hnew) ?_)))))
    refine jo_nil (jq_in_normal (jq_then (jc_region (jo_pure rfl (pr_addN (m := i) (n := 1) rfl rfl (by omega)) ?_))))
    refine jo_pure rfl (pr_move rfl) (jo_nil (j_pull2 (j_pull2 (j_pull2 ?_))))
    refine jq_round' ((i + 1), (ms ++ [((formF (kindF a.1) (a.2.getD i [])).1, true)])) (by (try dsimp only); exact (⟨by omega, dist_go hinv.2.1 (by simpa using h3.1) ((seen_yes hinv.2.2).symm.trans h3.2), by rw [mapT_step h2, hinv.2.2]⟩)) (by (try dsimp only); exact (by omega)) ⟨rfl, rfl, rfl, rfl, rfl, trivial⟩ (fun _ h => h)
  ·have h2 := of_decide_eq_false h2b
   refine jc_exit ?_
   refine jq_then_exit ?_
   refine jq_then_exit ?_
   refine jq_in_hit ?_
   refine jq_then (jc_seq (jc_region (jo_pure rfl (pr_assign rfl) (jo_nil (jq_then ?_)))))
   refine jc_ret (j_drop (j_drop (j_drop ?_)))
   exact jq_ret1 rfl () rfl (show (.bool (validV (kindF a.1) a.2) : Value) = (.bool (true)) from congrArg Value.bool (by rw [validV_yes (by omega), dist_done hinv.1 (by omega) hinv.2.1])) (fun _ h => h)

theorem c_variants_Valid (l : List ((List UInt8) × (List (List UInt8)))) (lv : Value) (hl : l.length ≤ 9223372036854775807) (hm : ∀ a ∈ l, a.1.length ≤ 1000000 ∧ (∀ x ∈ a.2, x.length ≤ 300000) ∧ a.2.length ≤ 9223372036854775807) : Con Tryd.prog 10 #[lv] [.imm (.list (.pair .str (.list .str))) (lv) (l)] (fun _ : Unit => .bool (validL l)) (fun _ => []) := by
 refine con_of_J (args := [lv]) (n := 54) Tryd.func10 rfl (Nat.le_of_ble_eq_true rfl) rfl (fun w0 I0 m0 => ?_)
 show J _ [(0, lv)] [.imm (.list (.pair .str (.list .str))) (lv) (l)] _
 refine jc_seq (jc_region (jo_pure rfl (pr_assign rfl) (jo_nil (jq_then (jc_seq ?_)))))
 refine jc_seq (jc_region (jo_pure rfl (pr_move rfl) (jo_pure rfl (pr_len_imm rfl (.head _) Tryd.underlying23) ?_)))
 refine jo_pure rfl (pr_lssN (m := l.length) (n := 1) rfl rfl) ?_
 refine jo_pure rfl (pr_move rfl) (jo_gpure (j := 3) (want := false) rfl rfl rfl rfl (fun hg => pr_move rfl) ?_)
 refine jo_gpure (j := 3) (want := false) rfl rfl rfl rfl (fun hg => pr_len_imm (evg rfl hg) (.head _) Tryd.underlying23) ?_
 refine jo_gpure (j := 3) (want := false) rfl rfl rfl rfl (fun hg => pr_gtrN (m := l.length) (n := 4) (evg rfl hg) rfl) ?_
 refine jo_pure rfl (pr_pick_or rfl rfl rfl) ?_
 refine jo_nil (jq_then ?_)
 refine jc_cond rfl (fun h1b => ?_) (fun h1b => ?_)
 ·have h1 := (fun q => Or.imp of_decide_eq_true of_decide_eq_true (bt_or q)) h1b
  refine jc_seq (jc_region (jo_pure rfl (pr_assign rfl) (jo_nil (jq_then (jc_ret ?_)))))
  refine jq_then_ret (j_drop ?_)
  exact jq_ret1 rfl () rfl (show (.bool (validL l) : Value) = (.bool (false)) from congrArg Value.bool (by rw [validL_no h1])) (fun _ h => h)
 ·have h1 := (fun q => And.imp of_decide_eq_false of_decide_eq_false (bf_or q)) h1b
  refine jc_skip (jq_then (jc_seq (jc_seq (jc_region (jo_pure rfl (pr_move rfl) ?_)))))
  refine jo_pure rfl (pr_len_imm rfl (.head _) Tryd.underlying23) ?_
  refine jo_pure rfl (pr_move rfl) (jo_nil (jq_then (jc_block ?_)))
  refine jc_loop (fun (i : Nat) => [(0, lv), (15, lv), (16, .int .i64 ((l.length : Nat) : Int)), (17, .int .i64 ((i : Nat) : Int))]) (fun (i : Nat) => [.imm (.list (.pair .str (.list .str))) (lv) (l)]) (fun (i : Nat) => i ≤ l.length ∧ distB validA (fun x y => decide (x.1 = y.1)) ([], []) l i = true) (fun (i : Nat) => l.length - i) 0 (⟨Nat.zero_le _, rfl⟩) (⟨rfl, rfl, rfl, rfl, trivial⟩) (fun _ h => h) (fun i hinv => ?_)
  refine jc_seq (jc_region (jo_pure rfl (pr_lssN (m := i) (n := l.length) rfl rfl) ?_))
  refine jo_nil (jq_then (jc_seq ?_))
  refine jc_cond rfl (fun h2b => ?_) (fun h2b => ?_)
  ·have h2 := of_decide_eq_true h2b
   have hA := hm _ (getD_mem (dd := ([], [])) h2)
   refine jc_skip (jq_then (jc_seq (jc_block (jc_seq (jc_region ?_)))))
   refine jo_pure rfl (pr_move rfl) ?_
   refine j_open_elem (t := (.pair .str (.list .str))) (i := i) ([], []) (.head _) (by omega) (fun ⟨_, e1⟩ => ?_)
   show J _ _ (.imm (.list .str) (e1) (((l.getD i ([], []))).2) :: .fact (fun w_ I_ => ElemAt w_ I_ (lv) (i) 2 [str (((l.getD i ([], []))).1), e1]) :: _) _
   refine jo_pure rfl (pr_idx_imm (i := i) rfl (.tail _ (.tail _ (.head _))) rfl Tryd.underlying23 ty_33 (by omega)) ?_
   refine jo_pure rfl (pr_load_at (.agg #[str (((l.getD i ([], []))).1), e1]) rfl (.tail _ (.head _)) ty_33 (by decide) rfl) ?_
   refine jo_alloc ty_33 [str ([]), .slice none 0 0] rfl rfl (fun b1 => ?_)
   refine jo_pure rfl (pr_assign rfl) (jo_storeV rfl rfl ty_33 [str (((l.getD i ([], []))).1), e1] (fun _ _ _ _ => rfl) rfl (fun w I m hs => by simp only [List.all_cons, List.all_nil, Bool.and_true, Bool.and_eq_true]; exact ⟨rfl, (SliceV.one (imm_slice (.tail _ (.head _)) hs))⟩) [str (((l.getD i ([], []))).1), e1] rfl rfl ?_)
   refine jo_nil (jq_then (jc_seq (jc_seq (jc_draws mixed (by kernel_rfl) (jd_pure rfl (pr_fieldAddr 0 rfl Tryd.underlying33 rfl ty_9 rfl rfl) ?_)))))
   refine jd_pure rfl (pr_load_box (str (((l.getD i ([], []))).1)) rfl ty_9 (.head _) rfl (by decide) rfl) ?_
   refine jd_callp cal_20 (c_ascii_Token (((l.getD i ([], []))).1) (by first | omega | exact hA.2.1 | exact hA.1 | exact hA.2.2)) ⟨rfl, trivial⟩ rfl (trivial) ?_
   refine jd_pure rfl (pr_not rfl) ?_
   refine jd_pure rfl (pr_move rfl) ?_
   refine jd_gpure (j := 4) (want := false) rfl rfl rfl rfl (fun hg => pr_fieldAddr 0 rfl Tryd.underlying33 rfl ty_9 rfl rfl) ?_
   refine jd_gpure (j := 4) (want := false) rfl rfl rfl rfl (fun hg => pr_load_box (str (((l.getD i ([], []))).1)) (evg rfl hg) ty_9 (.head _) rfl (by decide) rfl) ?_
   refine jd_gcall (j := 4) (want := false) rfl rfl rfl cal_21 (fun hg => c_ascii_Lower (((l.getD i ([], []))).1) (by first | omega | exact hA.2.1 | exact hA.1 | exact hA.2.2)) (fun hg => ⟨evg rfl hg, trivial⟩) rfl (fun _ => trivial) ?_
   refine jd_gpure (j := 4) (want := false) rfl rfl rfl rfl (fun hg => pr_fieldAddr 0 rfl Tryd.underlying33 rfl ty_9 rfl rfl) ?_
   refine jd_gpure (j := 4) (want := false) rfl rfl rfl rfl (fun hg => pr_load_box (str (((l.getD i ([], []))).1)) (evg rfl hg) ty_9 (.head _) rfl (by decide) rfl) ?_
   refine jd_gpure (j := 4) (want := false) rfl rfl rfl rfl (fun hg => pr_sneq (evg rfl hg) (evg rfl hg)) ?_
   refine jd_pure rfl (pr_pick_or rfl rfl rfl) ?_
   refine jd_pure rfl (pr_move rfl) ?_
   refine jd_gpure (j := 12) (want := false) rfl rfl rfl rfl (fun hg => pr_load_box (.agg #[str (((l.getD i ([], []))).1), e1]) rfl ty_33 (.head _) rfl (by decide) rfl) ?_
   refine jd_gcall (j := 12) (want := false) rfl rfl rfl cal_22 (fun hg => c_variants_valid ((l.getD i ([], []))) e1 (by first | omega | exact hA.2.1 | exact hA.1 | exact hA.2.2) (by first | omega | exact hA.2.1 | exact hA.1 | exact hA.2.2) (by first | omega | exact hA.2.1 | exact hA.1 | exact hA.2.2)) (fun hg => ⟨evg rfl hg, trivial⟩) rfl (fun _ => ⟨⟨rfl, .tail _ (.head _)⟩, trivial⟩) ?_
   refine jd_gpure (j := 12) (want := false) rfl rfl rfl rfl (fun hg => pr_not (evg rfl hg)) ?_
   refine jd_pure rfl (pr_pick_or rfl rfl rfl) ?_
   refine jd_nil ?_
   refine jq_then ?_
   refine jc_cond rfl (fun h3b => ?_) (fun h3b => ?_)
   ·have h3 := (fun q => Or.imp (fun q => Or.imp (fun q => id (bt_not q)) (fun q => of_decide_eq_false (bt_not q)) (bt_or q)) (fun q => id (bt_not q)) (bt_or q)) h3b
    refine jc_seq (jc_region (jo_pure rfl (pr_assign rfl) (jo_nil (jq_then (jc_ret ?_)))))
    refine jq_then_ret (jq_in_ret ?_)
    refine jq_then_ret (jq_then_ret (jq_in_ret ?_))
    refine jq_then_ret (j_drop (j_drop (j_drop (j_drop ?_))))
    exact jq_ret1 rfl () rfl (show (.bool (validL l) : Value) = (.bool (false)) from congrArg Value.bool (by rw [validL_yes (by omega), dist_bad h2 (.inl (by have h9 := h3b; unfold validA; revert h9; cases token (l.getD i ([], [])).1 <;> cases validV (kindF (l.getD i ([], [])).1) (l.getD i ([], [])).2 <;> simp <;> exact fun q => q))])) (fun _ h => h)
   ·have h3 := (fun q => And.imp (fun q => And.imp (fun q => id (bf_not q)) (fun q => of_decide_eq_true (bf_not q)) (bf_or q)) (fun q => id (bf_not q)) (bf_or q)) h3b
    have hlI : ((l.take i).drop 0).length = i := by rw [drop0, List.length_take]; omega
    refine jc_skip (jq_then (jc_seq (jc_region (jo_pure rfl (pr_move rfl) (jo_pure rfl (pr_move rfl) ?_)))))
    refine j_resl (l := 0) (h := i) (.tail _ (.tail _ (.tail _ (.head _)))) (by omega) (by omega) ?_
    show J _ _ (.imm (.list (.pair .str (.list .str))) (resl (lv) (0) (i) 2) ((l.take i).drop 0) :: _) _
    refine jo_pure rfl (pr_slice_imm (l := 0) (h := i) rfl (.tail _ (.tail _ (.tail _ (.tail _ (.head _))))) Tryd.underlying23 ty_33 rfl ⟨_, rfl⟩ (by omega) (by omega)) ?_
    refine jo_pure rfl (pr_len_imm rfl (.head _) Tryd.underlying23) ?_
    refine jo_pure rfl (pr_move rfl) (jo_nil (jq_then (jc_block ?_)))
    refine jc_loop (fun (k : Nat) => [(0, lv), (4, .pointer (some ⟨b1, 0, none⟩)), (15, lv), (16, .int .i64 ((l.length : Nat) : Int)), (17, .int .i64 ((i : Nat) : Int)), (41, resl (lv) (0) (i) 2), (42, .int .i64 ((((l.take i).drop 0).length : Nat) : Int)), (43, .int .i64 ((k : Nat) : Int))]) (fun (k : Nat) => [.imm (.list (.pair .str (.list .str))) (resl (lv) (0) (i) 2) ((l.take i).drop 0), .box b1 33 [str (((l.getD i ([], []))).1), e1], .imm (.list .str) (e1) (((l.getD i ([], []))).2), .fact (fun w_ I_ => ElemAt w_ I_ (lv) (i) 2 [str (((l.getD i ([], []))).1), e1]), .imm (.list (.pair .str (.list .str))) (lv) (l)]) (fun (k : Nat) => k ≤ i ∧ (((l.take i).drop 0).take k).any (fun b => decide ((l.getD i ([], [])).1 = b.1)) = false) (fun (k : Nat) => i - k) 0 (⟨Nat.zero_le _, rfl⟩) (⟨rfl, rfl, rfl, rfl, rfl, rfl, rfl, rfl, trivial⟩) (fun _ h => h) (fun k hink => ?_)
    refine jc_seq (jc_region (jo_pure rfl (pr_lssN (m := k) (n := ((l.take i).drop 0).length) rfl rfl) ?_))
    refine jo_nil (jq_then (jc_seq ?_))
    refine jc_cond rfl (fun h4b => ?_) (fun h4b => ?_)
    ·have h4 := of_decide_eq_true h4b
     refine jc_skip (jq_then (jc_seq (jc_block (jc_seq (jc_region ?_)))))
     refine j_open_elem (t := (.pair .str (.list .str))) (i := k) ([], []) (.head _) (by omega) (fun ⟨_, e2⟩ => ?_)
     show J _ _ (.imm (.list .str) (e2) (((((l.take i).drop 0).getD k ([], []))).2) :: .fact (fun w_ I_ => ElemAt w_ I_ (resl (lv) (0) (i) 2) (k) 2 [str (((((l.take i).drop 0).getD k ([], []))).1), e2]) :: _) _
     refine jo_pure rfl (pr_idx_imm (i := k) rfl (.tail _ (.tail _ (.head _))) rfl Tryd.underlying23 ty_33 (by omega)) ?_
     refine jo_pure rfl (pr_load_at (.agg #[str (((((l.take i).drop 0).getD k ([], []))).1), e2]) rfl (.tail _ (.head _)) ty_33 (by decide) rfl) ?_
     refine jo_alloc ty_33 [str ([]), .slice none 0 0] rfl rfl (fun b2 => ?_)
     refine jo_storeV rfl rfl ty_33 [str (((((l.take i).drop 0).getD k ([], []))).1), e2] (fun _ _ _ _ => rfl) rfl (fun w I m hs => by simp only [List.all_cons, List.all_nil, Bool.and_true, Bool.and_eq_true]; exact ⟨rfl, (SliceV.one (imm_slice (.tail _ (.head _)) hs))⟩) [str (((((l.take i).drop 0).getD k ([], []))).1), e2] rfl rfl ?_
     refine jo_nil (jq_then (jc_seq (jc_region (jo_pure rfl (pr_fieldAddr 0 rfl Tryd.underlying33 rfl ty_9 rfl rfl) ?_))))
     refine jo_pure rfl (pr_load_box (str (((l.getD i ([], []))).1)) rfl ty_9 (.tail _ (.tail _ (.tail _ (.tail _ (.head _))))) rfl (by decide) rfl) ?_
     refine jo_pure rfl (pr_fieldAddr 0 rfl Tryd.underlying33 rfl ty_9 rfl rfl) ?_
     refine jo_pure rfl (pr_load_box (str (((((l.take i).drop 0).getD k ([], []))).1)) rfl ty_9 (.head _) rfl (by decide) rfl) ?_
     refine jo_pure rfl (pr_seql rfl rfl) ?_
     refine jo_nil (jq_then ?_)
     refine jc_cond rfl (fun h5b => ?_) (fun h5b => ?_)
     ·have h5 := of_decide_eq_true h5b
      refine jc_seq (jc_region (jo_pure rfl (pr_assign rfl) (jo_nil (jq_then (jc_ret ?_)))))
      refine jq_in_ret ?_
      refine jq_then_ret (jq_then_ret (jq_in_ret ?_))
      refine jq_in_ret ?_
      refine jq_then_ret (jq_then_ret (jq_in_ret ?_))
      refine jq_then_ret (j_drop (j_drop (j_drop (j_drop (j_drop ?_)))))
      refine j_drop (j_drop (j_drop ?_))
      exact jq_ret1 rfl () rfl (show (.bool (validL l) : Value) = (.bool (false)) from congrArg Value.bool (by rw [validL_yes (by omega), dist_bad h2 (.inr (by have h9 := any_hit (p := fun b => decide ((l.getD i ([], [])).1 = b.1)) (dd := ([], [])) h4 h5b; rw [drop0] at h9; exact h9))])) (fun _ h => h)
     ·have h5 := of_decide_eq_false h5b
      refine jc_skip (jq_in_normal (jq_then (jc_region (jo_pure rfl (pr_addN (m := k) (n := 1) rfl rfl (by omega)) ?_))))
      refine jo_pure rfl (pr_move rfl) (jo_nil (j_drop (j_drop (j_drop (j_pull4 ?_)))))
      refine j_pull4 ?_
      refine j_pull4 ?_
      refine j_pull4 ?_
      refine j_pull4 ?_
      refine jq_round' (k + 1) (by (try dsimp only); exact (⟨by omega, any_step (dd := ([], [])) h4 hink.2 h5b⟩)) (by (try dsimp only); exact (by omega)) ⟨rfl, rfl, rfl, rfl, rfl, rfl, rfl, rfl, trivial⟩ (fun _ h => h)
    ·have h4 := of_decide_eq_false h4b
     refine jc_exit ?_
     refine jq_then_exit ?_
     refine jq_then_exit ?_
     refine jq_in_hit ?_
     refine jq_in_normal (jq_then (jc_region (jo_pure rfl (pr_addN (m := i) (n := 1) rfl rfl (by omega)) ?_)))
     refine jo_pure rfl (pr_move rfl) (jo_nil (j_drop (j_drop (j_drop (j_drop ?_)))))
     refine jq_round' (i + 1) (by (try dsimp only); exact (⟨by omega, dist_go hinv.2 (by have h9 := h3; simp only [validA, Bool.and_eq_true, decide_eq_true_eq]; exact h9) (by have h9 := hink.2; rw [take_over (by omega), drop0] at h9; exact h9)⟩)) (by (try dsimp only); exact (by omega)) ⟨rfl, rfl, rfl, rfl, trivial⟩ (fun _ h => h)
  ·have h2 := of_decide_eq_false h2b
   refine jc_exit ?_
   refine jq_then_exit ?_
   refine jq_then_exit ?_
   refine jq_in_hit ?_
   refine jq_then (jc_seq (jc_region (jo_pure rfl (pr_assign rfl) (jo_nil (jq_then ?_)))))
   refine jc_ret (j_drop ?_)
   exact jq_ret1 rfl () rfl (show (.bool (validL l) : Value) = (.bool (true)) from congrArg Value.bool (by rw [validL_yes (by omega), dist_done hinv.1 (by omega) hinv.2])) (fun _ h => h)

theorem c_slices_Equal_string_string (a : List (List UInt8)) (av : Value) (b : List (List UInt8)) (bv : Value) (hl : a.length ≤ 9223372036854775807) : Con Tryd.prog 16 #[av, bv] [.imm (.list .str) (av) (a), .imm (.list .str) (bv) (b)] (fun _ : Unit => .bool (decide (a = b))) (fun _ => []) := by
 refine con_of_J (args := [av, bv]) (n := 26) Tryd.func16 rfl (Nat.le_of_ble_eq_true rfl) rfl (fun w0 I0 m0 => ?_)
 show J _ [(0, av), (1, bv)] [.imm (.list .str) (av) (a), .imm (.list .str) (bv) (b)] _
 refine jc_seq (jc_region (jo_pure rfl (pr_assign rfl) (jo_nil (jq_then (jc_seq ?_)))))
 refine jc_seq (jc_region (jo_pure rfl (pr_move rfl) (jo_pure rfl (pr_len_imm rfl (.head _) Tryd.underlying31) ?_)))
 refine jo_pure rfl (pr_move rfl) (jo_pure rfl (pr_len_imm rfl (.tail _ (.head _)) Tryd.underlying31) ?_)
 refine jo_pure rfl (pr_neqN (m := a.length) (n := b.length) rfl rfl) ?_
 refine jo_nil (jq_then ?_)
 refine jc_cond rfl (fun h1b => ?_) (fun h1b => ?_)
 ·have h1 := (fun q => of_decide_eq_false (bt_not q)) h1b
  refine jc_seq (jc_region (jo_pure rfl (pr_assign rfl) (jo_nil (jq_then (jc_ret ?_)))))
  refine jq_then_ret (j_drop (j_drop ?_))
  exact jq_ret1 rfl () rfl (show (.bool (decide (a = b)) : Value) = (.bool (false)) from congrArg Value.bool (decide_eq_false (fun e => by rw [e] at h1; simp at h1))) (fun _ h => h)
 ·have h1 := (fun q => of_decide_eq_true (bf_not q)) h1b
  have hlen : a.length = b.length := by simpa using h1
  refine jc_skip (jq_then (jc_seq (jc_seq (jc_region (jo_pure rfl (pr_move rfl) ?_)))))
  refine jo_pure rfl (pr_len_imm rfl (.head _) Tryd.underlying31) ?_
  refine jo_pure rfl (pr_move rfl) (jo_nil (jq_then (jc_block ?_)))
  refine jc_loop (fun (i : Nat) => [(0, av), (1, bv), (12, .int .i64 ((a.length : Nat) : Int)), (13, .int .i64 ((i : Nat) : Int))]) (fun (i : Nat) => [.imm (.list .str) (av) (a), .imm (.list .str) (bv) (b)]) (fun (i : Nat) => i ≤ a.length ∧ a.take i = b.take i) (fun (i : Nat) => a.length - i) 0 (⟨Nat.zero_le _, rfl⟩) (⟨rfl, rfl, rfl, rfl, trivial⟩) (fun _ h => h) (fun i hinv => ?_)
  refine jc_seq (jc_region (jo_pure rfl (pr_lssN (m := i) (n := a.length) rfl rfl) ?_))
  refine jo_nil (jq_then (jc_seq ?_))
  refine jc_cond rfl (fun h2b => ?_) (fun h2b => ?_)
  ·have h2 := of_decide_eq_true h2b
   refine jc_skip (jq_then (jc_seq (jc_block (jc_seq (jc_region ?_)))))
   refine jo_pure rfl (pr_move rfl) (jo_pure rfl (pr_assign rfl) (jo_nil (jq_then (jc_seq (jc_draws mixed (by kernel_rfl) ?_)))))
   refine jd_pure rfl (pr_move rfl) ?_
   refine jd_pure rfl (pr_move rfl) ?_
   refine jd_pure rfl (pr_idx_imm (i := i) rfl (.head _) rfl Tryd.underlying31 ty_9 (by omega)) ?_
   refine jd_pure rfl (pr_load_elem_imm (i := i) (str (a.getD i [])) rfl (.head _) ty_9 rfl rfl (by omega) rfl) ?_
   refine jd_pure rfl (pr_move rfl) ?_
   refine jd_pure rfl (pr_move rfl) ?_
   refine jd_pure rfl (pr_idx_imm (i := i) rfl (.tail _ (.head _)) rfl Tryd.underlying31 ty_9 (by omega)) ?_
   refine jd_pure rfl (pr_load_elem_imm (i := i) (str (b.getD i [])) rfl (.tail _ (.head _)) ty_9 rfl rfl (by omega) rfl) ?_
   refine jd_pure rfl (pr_sneq rfl rfl) ?_
   refine jd_nil ?_
   refine jq_then ?_
   refine jc_cond rfl (fun h3b => ?_) (fun h3b => ?_)
   ·have h3 := (fun q => of_decide_eq_false (bt_not q)) h3b
    refine jc_seq (jc_region (jo_pure rfl (pr_assign rfl) (jo_nil (jq_then (jc_ret ?_)))))
    refine jq_in_ret ?_
    refine jq_then_ret (jq_then_ret (jq_in_ret ?_))
    refine jq_then_ret (j_drop (j_drop ?_))
    exact jq_ret1 rfl () rfl (show (.bool (decide (a = b)) : Value) = (.bool (false)) from congrArg Value.bool (decide_eq_false (fun e => by rw [e] at h3; simp at h3))) (fun _ h => h)
   ·have h3 := (fun q => of_decide_eq_true (bf_not q)) h3b
    refine jc_skip (jq_in_normal (jq_then (jc_region (jo_pure rfl (pr_addN (m := i) (n := 1) rfl rfl (by omega)) ?_))))
    refine jo_pure rfl (pr_move rfl) (jo_nil (j_pull1 (j_pull1 ?_)))
    refine jq_round' (i + 1) (by (try dsimp only); exact (⟨by omega, take_eq_step (dd := []) h2 (by omega) hinv.2 h3⟩)) (by (try dsimp only); exact (by omega)) ⟨rfl, rfl, rfl, rfl, trivial⟩ (fun _ h => h)
  ·have h2 := of_decide_eq_false h2b
   refine jc_exit ?_
   refine jq_then_exit ?_
   refine jq_then_exit ?_
   refine jq_in_hit ?_
   refine jq_then (jc_seq (jc_region (jo_pure rfl (pr_assign rfl) (jo_nil (jq_then ?_)))))
   refine jc_ret (j_drop (j_drop ?_))
   exact jq_ret1 rfl () rfl (show (.bool (decide (a = b)) : Value) = (.bool (true)) from congrArg Value.bool (decide_eq_true (by have := hinv.2; rwa [List.take_of_length_le (by omega), List.take_of_length_le (by omega)] at this))) (fun _ h => h)
end Go.Proofs.YtgahnjchpomcfaaDoor
