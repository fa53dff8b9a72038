/-
  Contracts of functions of the program: each returns what a plain function says, for every input within the bounds named. Conditions: the bounds.
-/
import Derived.Test.YtikllmfjgpmcnaaDoorRows
import Derived.Test.YtikllmfjgpmcnaaDoorL13
import Derived.Test.YtikllmfjgpmcnaaDoorLaw08
namespace Go.Proofs.YtikllmfjgpmcnaaDoor
open Go Go.Sep
set_option linter.unusedSimpArgs false
set_option linter.unusedVariables false

open Go.Plain

theorem cal_47 : Cal Tryd.prog 47 := cal_of Tryd.func47 (by kernel_rfl) rfl
theorem cal_48 : Cal Tryd.prog 48 := cal_of Tryd.func48 (by kernel_rfl) rfl
theorem cal_78 : Cal Tryd.prog 78 := cal_of Tryd.func78 (by kernel_rfl) rfl
theorem cal_79 : Cal Tryd.prog 79 := cal_of Tryd.func79 (by kernel_rfl) rfl
theorem cal_102 : Cal Tryd.prog 102 := cal_of Tryd.func102 (by kernel_rfl) rfl
theorem cal_107 : Cal Tryd.prog 107 := cal_of Tryd.func107 (by kernel_rfl) rfl

theorem c_strings_trimRightByte (s : List UInt8) (c : UInt8) (hs : s.length ≤ 1000000) : Con Tryd.prog 102 #[str (s), byte (c)] [] (fun _ : Unit => str (trimR (fun x : UInt8 => decide (x = c)) s)) (fun _ => []) := by
  refine con_of_J (args := [str (s), byte (c)]) (n := 23) Tryd.func102 rfl (Nat.le_of_ble_eq_true rfl) rfl (fun w0 I0 m0 => ?_)
  show J _ [(0, str (s)), (1, byte (c))] [] _
  refine jc_seq ?_
  refine jc_region ?_
  refine jo_pure rfl (pr_assign rfl) ?_
  refine jo_nil ?_
  refine jq_then ?_
  refine jc_seq ?_
  refine jc_block ?_
  refine jc_loop (fun (t : List UInt8) => [(0, str (t)), (1, byte (c))]) (fun (t : List UInt8) => []) (fun (t : List UInt8) => trimR (fun x : UInt8 => decide (x = c)) t = trimR (fun x : UInt8 => decide (x = c)) s ∧ t.length ≤ s.length) (fun (t : List UInt8) => t.length) s (⟨rfl, Nat.le_refl _⟩) (⟨rfl, rfl, trivial⟩) (fun _ h => h) (fun t hinv => ?_)
  refine jc_seq ?_
  refine jc_seq ?_
  refine jc_region ?_
  refine jo_pure rfl (pr_move rfl) ?_
  refine jo_pure rfl (pr_slen rfl Tryd.underlying9) ?_
  refine jo_pure rfl (pr_gtrN (m := t.length) (n := 0) rfl rfl) ?_
  refine jo_pure rfl (pr_move rfl) ?_
  refine jo_gpure (j := 3) (want := true) rfl rfl rfl rfl (fun hg => pr_move rfl) ?_
  refine jo_gpure (j := 3) (want := true) rfl rfl rfl rfl (fun hg => pr_move rfl) ?_
  refine jo_gpure (j := 3) (want := true) rfl rfl rfl rfl (fun hg => pr_slen (evg rfl hg) Tryd.underlying9) ?_
  refine jo_gpure (j := 3) (want := true) rfl rfl rfl rfl (fun hg => pr_subN (m := t.length) (n := 1) (evg rfl hg) rfl (by first | omega | (have := of_decide_eq_true (eq_of_beq hg); omega)) (by first | omega | (have := of_decide_eq_true (eq_of_beq hg); omega))) ?_
  refine jo_gpure (j := 3) (want := true) rfl rfl rfl rfl (fun hg => pr_sindex (i := t.length - 1) (evg rfl hg) (evg rfl hg) Tryd.underlying9 (by first | omega | (have := of_decide_eq_true (eq_of_beq hg); omega))) ?_
  refine jo_gpure (j := 3) (want := true) rfl rfl rfl rfl (fun hg => pr_move rfl) ?_
  refine jo_gpure (j := 3) (want := true) rfl rfl rfl rfl (fun hg => pr_beql (evg rfl hg) (evg rfl hg)) ?_
  refine jo_pure rfl (pr_pick_and rfl rfl rfl) ?_
  refine jo_nil ?_
  refine jq_then ?_
  refine jc_cond rfl (fun h1b => ?_) (fun h1b => ?_)
  · have h1 := (fun q => And.imp of_decide_eq_true of_decide_eq_true (bt_and q)) h1b
    refine jc_skip ?_
    refine jq_then ?_
    refine jc_block ?_
    refine jc_region ?_
    refine jo_pure rfl (pr_move rfl) ?_
    refine jo_pure rfl (pr_move rfl) ?_
    refine jo_pure rfl (pr_slen rfl Tryd.underlying9) ?_
    refine jo_pure rfl (pr_subN (m := t.length) (n := 1) rfl rfl (by first | omega | (have := of_decide_eq_true (eq_of_beq hg); omega)) (by first | omega | (have := of_decide_eq_true (eq_of_beq hg); omega))) ?_
    refine jo_pure rfl (pr_sslice_hi (j := t.length - 1) rfl rfl Tryd.underlying9 (by omega)) ?_
    refine jo_pure rfl (pr_assign rfl) ?_
    refine jo_nil ?_
    refine jq_in_normal ?_
    refine jq_round' (t.take (t.length - 1)) (by (try dsimp only); exact (⟨(trimR_step h1.1 (by simpa using h1.2)).trans hinv.1, by simp; omega⟩)) (by (try dsimp only); exact (by simp; omega)) ⟨rfl, rfl, trivial⟩ (fun _ h => h)
  · have h1 := (fun q => Or.imp of_decide_eq_false of_decide_eq_false (bf_and q)) h1b
    refine jc_exit ?_
    refine jq_then_exit ?_
    refine jq_then_exit ?_
    refine jq_in_hit ?_
    refine jq_then ?_
    refine jc_seq ?_
    refine jc_region ?_
    refine jo_pure rfl (pr_move rfl) ?_
    refine jo_pure rfl (pr_assign rfl) ?_
    refine jo_nil ?_
    refine jq_then ?_
    refine jc_ret ?_
    exact jq_ret1 rfl () rfl (show (str (trimR (fun x : UInt8 => decide (x = c)) s) : Value) = (str (t)) from congrArg str (by rw [← hinv.1, trimR_end (p := (fun x : UInt8 => decide (x = c))) (s := t) (h1.imp (fun q => by omega) (fun q => by simpa using q))])) (fun _ h => h)

theorem c_strings_TrimRight (s : List UInt8) (cut : List UInt8) (c : UInt8) (hcut : cut = [c]) (hc : c < 128) (hs : s.length ≤ 1000000) : Con Tryd.prog 78 #[str (s), str (cut)] [] (fun _ : Unit => str (trimR (fun x : UInt8 => decide (x = c)) s)) (fun _ => []) := by
  refine con_of_J (args := [str (s), str (cut)]) (n := 37) Tryd.func78 rfl (Nat.le_of_ble_eq_true rfl) rfl (fun w0 I0 m0 => ?_)
  show J _ [(0, str (s)), (1, str (cut))] [] _
  refine jc_seq ?_
  refine jc_region ?_
  refine jo_pure rfl (pr_assign rfl) ?_
  refine jo_nil ?_
  refine jq_then ?_
  refine jc_seq ?_
  refine jc_seq ?_
  refine jc_region ?_
  refine jo_pure rfl (pr_move rfl) ?_
  refine jo_pure rfl (pr_seql rfl rfl) ?_
  refine jo_pure rfl (pr_move rfl) ?_
  refine jo_gpure (j := 2) (want := false) rfl rfl rfl rfl (fun hg => pr_move rfl) ?_
  refine jo_gpure (j := 2) (want := false) rfl rfl rfl rfl (fun hg => pr_seql (evg rfl hg) rfl) ?_
  refine jo_pure rfl (pr_pick_or rfl rfl rfl) ?_
  refine jo_nil ?_
  refine jq_then ?_
  refine jc_cond rfl (fun h1b => ?_) (fun h1b => ?_)
  · have h1 := (fun q => Or.imp of_decide_eq_true of_decide_eq_true (bt_or q)) h1b
    refine jc_seq ?_
    refine jc_region ?_
    refine jo_pure rfl (pr_move rfl) ?_
    refine jo_pure rfl (pr_assign rfl) ?_
    refine jo_nil ?_
    refine jq_then ?_
    refine jc_ret ?_
    refine jq_then_ret ?_
    exact jq_ret1 rfl () rfl (show (str (trimR (fun x : UInt8 => decide (x = c)) s) : Value) = (str (s)) from congrArg str (by rcases h1 with h1 | h1; rw [h1]; rfl; rw [hcut] at h1; cases h1)) (fun _ h => h)
  · have h1 := (fun q => And.imp of_decide_eq_false of_decide_eq_false (bf_or q)) h1b
    refine jc_skip ?_
    refine jq_then ?_
    refine jc_seq ?_
    refine jc_seq ?_
    refine jc_region ?_
    refine jo_pure rfl (pr_move rfl) ?_
    refine jo_pure rfl (pr_slen rfl Tryd.underlying9) ?_
    refine jo_pure rfl (pr_eqlN (m := cut.length) (n := 1) rfl rfl) ?_
    refine jo_pure rfl (pr_move rfl) ?_
    refine jo_gpure (j := 3) (want := true) rfl rfl rfl rfl (fun hg => pr_move rfl) ?_
    refine jo_gpure (j := 3) (want := true) rfl rfl rfl rfl (fun hg => pr_sindex (i := 0) (evg rfl hg) rfl Tryd.underlying9 (by rw [hcut]; exact Nat.one_pos)) ?_
    refine jo_gpure (j := 3) (want := true) rfl rfl rfl rfl (fun hg => pr_blss (n := 128) (evg rfl hg) rfl) ?_
    refine jo_pure rfl (pr_pick_and rfl rfl rfl) ?_
    refine jo_nil ?_
    refine jq_then ?_
    refine jc_cond rfl (fun h2b => ?_) (fun h2b => ?_)
    · have h2 := (fun q => And.imp of_decide_eq_true of_decide_eq_true (bt_and q)) h2b
      refine jc_seq ?_
      refine jc_region ?_
      refine jo_pure rfl (pr_move rfl) ?_
      refine jo_pure rfl (pr_move rfl) ?_
      refine jo_pure rfl (pr_sindex (i := 0) rfl rfl Tryd.underlying9 (by rw [hcut]; exact Nat.one_pos)) ?_
      refine jo_callp cal_102 (c_strings_trimRightByte s (cut.getD 0 0) (by omega)) ⟨rfl, rfl, trivial⟩ rfl (trivial) (fun _ => ?_)
      refine jo_pure rfl (pr_assign rfl) ?_
      refine jo_nil ?_
      refine jq_then ?_
      refine jc_ret ?_
      refine jq_then_ret ?_
      exact jq_ret1 rfl () rfl (show (str (trimR (fun x : UInt8 => decide (x = c)) s) : Value) = (str (trimR (fun x : UInt8 => decide (x = (cut.getD 0 0))) s)) from congrArg str (by rw [hcut]; rfl)) (fun _ h => h)
    · have h2 := (fun q => Or.imp of_decide_eq_false of_decide_eq_false (bf_and q)) h2b
      exact absurd h2 (by rw [hcut]; simp [UInt8.not_le.2 hc, hc])

theorem c_qvalue_Format (q : Int)  : Con Tryd.prog 47 #[.int .i64 (q)] [] (fun _ : Unit => str (fmtQ q)) (fun _ => []) := by
  refine con_of_J (args := [.int .i64 (q)]) (n := 35) Tryd.func47 rfl (Nat.le_of_ble_eq_true rfl) rfl (fun w0 I0 m0 => ?_)
  show J _ [(0, .int .i64 (q))] [] _
  refine jc_seq ?_
  refine jc_region ?_
  refine jo_pure rfl (pr_assign rfl) ?_
  refine jo_nil ?_
  refine jq_then ?_
  refine jc_seq ?_
  refine jc_block ?_
  refine jc_seq ?_
  refine jc_region ?_
  refine jo_pure rfl (pr_move rfl) ?_
  refine jo_pure rfl (pr_lss (n := 0) rfl rfl) ?_
  refine jo_pure rfl (pr_move rfl) ?_
  refine jo_gpure (j := 2) (want := false) rfl rfl rfl rfl (fun hg => pr_move rfl) ?_
  refine jo_gpure (j := 2) (want := false) rfl rfl rfl rfl (fun hg => pr_gtr (n := 1000) (evg rfl hg) rfl) ?_
  refine jo_pure rfl (pr_pick_or rfl rfl rfl) ?_
  refine jo_pure rfl (pr_assign rfl) ?_
  refine jo_nil ?_
  refine jq_then ?_
  refine jc_cond rfl (fun h1b => ?_) (fun h1b => ?_)
  · have h1 := (fun q => Or.imp of_decide_eq_true of_decide_eq_true (bt_or q)) h1b
    refine jc_seq ?_
    refine jc_region ?_
    refine jo_pure rfl (pr_assign rfl) ?_
    refine jo_nil ?_
    refine jq_then ?_
    refine jc_ret ?_
    refine jq_in_ret ?_
    refine jq_then_ret ?_
    exact jq_ret1 rfl () rfl (show (str (fmtQ q) : Value) = (str ([])) from congrArg str (by rw [fmtQ_out h1])) (fun _ h => h)
  · have h1 := (fun q => And.imp of_decide_eq_false of_decide_eq_false (bf_or q)) h1b
    refine jc_seq ?_
    refine jc_region ?_
    refine jo_pure rfl (pr_move rfl) ?_
    refine jo_pure rfl (pr_eql (n := 0) rfl rfl) ?_
    refine jo_pure rfl (pr_assign rfl) ?_
    refine jo_nil ?_
    refine jq_then ?_
    refine jc_cond rfl (fun h2b => ?_) (fun h2b => ?_)
    · have h2 := of_decide_eq_true h2b
      refine jc_seq ?_
      refine jc_region ?_
      refine jo_pure rfl (pr_assign rfl) ?_
      refine jo_nil ?_
      refine jq_then ?_
      refine jc_ret ?_
      refine jq_in_ret ?_
      refine jq_then_ret ?_
      exact jq_ret1 rfl () rfl (show (str (fmtQ q) : Value) = (str ([48])) from congrArg str (by rw [fmtQ_zero (fun e => by rcases e with e | e <;> omega) h2])) (fun _ h => h)
    · have h2 := of_decide_eq_false h2b
      refine jc_seq ?_
      refine jc_region ?_
      refine jo_pure rfl (pr_move rfl) ?_
      refine jo_pure rfl (pr_eql (n := 1000) rfl rfl) ?_
      refine jo_pure rfl (pr_assign rfl) ?_
      refine jo_nil ?_
      refine jq_then ?_
      refine jc_cond rfl (fun h3b => ?_) (fun h3b => ?_)
      · have h3 := of_decide_eq_true h3b
        refine jc_seq ?_
        refine jc_region ?_
        refine jo_pure rfl (pr_assign rfl) ?_
        refine jo_nil ?_
        refine jq_then ?_
        refine jc_ret ?_
        refine jq_in_ret ?_
        refine jq_then_ret ?_
        exact jq_ret1 rfl () rfl (show (str (fmtQ q) : Value) = (str ([49])) from congrArg str (by rw [fmtQ_one (fun e => by rcases e with e | e <;> omega) h2 h3])) (fun _ h => h)
      · have h3 := of_decide_eq_false h3b
        refine jc_skip ?_
        refine jq_in_normal ?_
        refine jq_then ?_
        refine jc_seq ?_
        refine jc_region ?_
        refine jo_pure rfl (pr_move rfl) ?_
        refine jo_pure rfl (pr_quoI (m := q) (n := ((100 : Nat) : Int)) rfl rfl (by omega) (by omega) (by omega)) ?_
        refine jo_pure rfl (pr_add (m := ((48 : Nat) : Int)) (n := (q / ((100 : Nat) : Int))) rfl rfl (by omega)) ?_
        refine jo_pure rfl (pr_intI_u8 (m := ((48 : Nat) : Int) + (q / ((100 : Nat) : Int))) rfl Tryd.underlying3 Tryd.underlying5 (by omega) (by omega)) ?_
        refine jo_pure rfl (pr_move rfl) ?_
        refine jo_pure rfl (pr_quoI (m := q) (n := ((10 : Nat) : Int)) rfl rfl (by omega) (by omega) (by omega)) ?_
        refine jo_pure rfl (pr_remI (m := (q / ((10 : Nat) : Int))) (n := ((10 : Nat) : Int)) rfl rfl (by omega) (by omega)) ?_
        refine jo_pure rfl (pr_add (m := ((48 : Nat) : Int)) (n := ((q / ((10 : Nat) : Int)) % ((10 : Nat) : Int))) rfl rfl (by omega)) ?_
        refine jo_pure rfl (pr_intI_u8 (m := ((48 : Nat) : Int) + ((q / ((10 : Nat) : Int)) % ((10 : Nat) : Int))) rfl Tryd.underlying3 Tryd.underlying5 (by omega) (by omega)) ?_
        refine jo_pure rfl (pr_move rfl) ?_
        refine jo_pure rfl (pr_remI (m := q) (n := ((10 : Nat) : Int)) rfl rfl (by omega) (by omega)) ?_
        refine jo_pure rfl (pr_add (m := ((48 : Nat) : Int)) (n := (q % ((10 : Nat) : Int))) rfl rfl (by omega)) ?_
        refine jo_pure rfl (pr_intI_u8 (m := ((48 : Nat) : Int) + (q % ((10 : Nat) : Int))) rfl Tryd.underlying3 Tryd.underlying5 (by omega) (by omega)) ?_
        refine jo_buildSlice (t := .u8) [UInt8.ofNat (((48 : Nat) : Int) + (q / ((100 : Nat) : Int))).toNat, UInt8.ofNat (((48 : Nat) : Int) + ((q / ((10 : Nat) : Int)) % ((10 : Nat) : Int))).toNat, UInt8.ofNat (((48 : Nat) : Int) + (q % ((10 : Nat) : Int))).toNat] [byte (UInt8.ofNat (((48 : Nat) : Int) + (q / ((100 : Nat) : Int))).toNat), byte (UInt8.ofNat (((48 : Nat) : Int) + ((q / ((10 : Nat) : Int)) % ((10 : Nat) : Int))).toNat), byte (UInt8.ofNat (((48 : Nat) : Int) + (q % ((10 : Nat) : Int))).toNat)] (fun a hf => by simp only [List.zipIdx_cons, List.zipIdx_nil, List.map_toArray, List.map_cons, List.map_nil, hf.ev (show ev _ (.tmp 20) = some (byte (UInt8.ofNat (((48 : Nat) : Int) + (q / ((100 : Nat) : Int))).toNat)) from rfl), hf.ev (show ev _ (.tmp 25) = some (byte (UInt8.ofNat (((48 : Nat) : Int) + ((q / ((10 : Nat) : Int)) % ((10 : Nat) : Int))).toNat)) from rfl), hf.ev (show ev _ (.tmp 29) = some (byte (UInt8.ofNat (((48 : Nat) : Int) + (q % ((10 : Nat) : Int))).toNat)) from rfl)]) rfl Tryd.underlying56 ty_5 rfl rfl rfl rfl rfl (fun g1 => ?_)
        refine jo_pure rfl (pr_assign rfl) ?_
        refine jo_nil ?_
        refine jq_then ?_
        refine jc_seq ?_
        refine jc_region ?_
        refine jo_pure rfl (pr_move rfl) ?_
        refine j_row_of_rowg ?_
        refine jo_pure rfl (pr_b2s_row (E := 5) rfl (.head _) Tryd.underlying56 Tryd.underlying5 Tryd.underlying9) ?_
        refine jo_callp cal_78 (c_strings_TrimRight [UInt8.ofNat (((48 : Nat) : Int) + (q / ((100 : Nat) : Int))).toNat, UInt8.ofNat (((48 : Nat) : Int) + ((q / ((10 : Nat) : Int)) % ((10 : Nat) : Int))).toNat, UInt8.ofNat (((48 : Nat) : Int) + (q % ((10 : Nat) : Int))).toNat] [48] 48 (by first | rfl | decide | (show (digQ q).length ≤ 1000000; rw [digQ_length]; omega)) (by first | rfl | decide | (show (digQ q).length ≤ 1000000; rw [digQ_length]; omega)) (by first | rfl | decide | (show (digQ q).length ≤ 1000000; rw [digQ_length]; omega))) ⟨rfl, rfl, trivial⟩ rfl (trivial) (fun _ => ?_)
        refine jo_pure rfl (pr_sadd rfl rfl (by have := trimR_length (p := z48) (digQ q); rw [digQ_length] at this; have e : (trimR (fun x : UInt8 => decide (x = 48)) (digQ q)).length ≤ 3 := this; simp only [List.length_cons, List.length_nil]; unfold digQ at e; omega)) ?_
        refine jo_pure rfl (pr_assign rfl) ?_
        refine jo_nil ?_
        refine jq_then ?_
        refine jc_ret ?_
        refine j_drop ?_
        exact jq_ret1 rfl () rfl (show (str (fmtQ q) : Value) = (str ([48, 46] ++ (trimR (fun x : UInt8 => decide (x = 48)) [UInt8.ofNat (((48 : Nat) : Int) + (q / ((100 : Nat) : Int))).toNat, UInt8.ofNat (((48 : Nat) : Int) + ((q / ((10 : Nat) : Int)) % ((10 : Nat) : Int))).toNat, UInt8.ofNat (((48 : Nat) : Int) + (q % ((10 : Nat) : Int))).toNat]))) from congrArg str (by rw [fmtQ_some (fun e => by rcases e with e | e <;> omega) h2 h3]; rfl)) (fun _ h => h)

theorem c_grow_new (b n : Nat) (hn : n ≤ 1000000000) (hn0 : 0 < n) : Con Tryd.prog 107 #[.pointer (some ⟨b, 0, none⟩), .int .i64 ((n : Nat) : Int)] [.box b 92 [.pointer (some ⟨b, 0, none⟩), .slice none 0 0]] (fun r1 : Value => .tuple #[]) (fun r1 => [.box b 92 [.pointer (some ⟨b, 0, none⟩), r1], .row (r1) 5 .u8 ([])]) := by
  refine con_of_J (args := [.pointer (some ⟨b, 0, none⟩), .int .i64 ((n : Nat) : Int)]) (n := 30) Tryd.func107 rfl (Nat.le_of_ble_eq_true rfl) rfl (fun w0 I0 m0 => ?_)
  show J _ [(0, .pointer (some ⟨b, 0, none⟩)), (1, .int .i64 ((n : Nat) : Int))] [.box b 92 [.pointer (some ⟨b, 0, none⟩), .slice none 0 0]] _
  refine jc_seq ?_
  refine jc_held (fun (iq : Nat × Nat) => [(0, .pointer (some ⟨b, 0, none⟩)), (4, .slice (some ⟨iq.1, 0, none⟩) (0) (iq.2))]) (fun iq => [.rowg iq.1 (iq.2) 5 .u8 (([] : List UInt8)), .box b 92 [.pointer (some ⟨b, 0, none⟩), .slice none 0 0]]) [.box b 92 [.pointer (some ⟨b, 0, none⟩), .slice none 0 0]] mixed (fun lst hlst => ?_) (fun ⟨g1, cap1⟩ => ?_)
  · subst hlst
    refine jh_take (listed' := #[true, false, false, false, false, false, false, false, false, false, false, false, false, false, false, false]) 0 rfl (by kernel_rfl) (by kernel_rfl) (by kernel_rfl) rfl (pr_move rfl) (fun _ h => h) rfl ?_
    refine jh_take (listed' := #[true, true, false, false, false, false, false, false, false, false, false, false, false, false, false, false]) 1 rfl (by kernel_rfl) (by kernel_rfl) (by kernel_rfl) rfl (pr_nilCheck rfl) (fun _ h => h) rfl ?_
    refine jh_take (listed' := #[true, true, true, false, false, false, false, false, false, false, false, false, false, false, false, false]) 2 rfl (by kernel_rfl) (by kernel_rfl) (by kernel_rfl) rfl (pr_fieldAddr 1 rfl Tryd.underlying92 rfl ty_56 rfl rfl) (fun _ h => h) rfl ?_
    refine jh_take (listed' := #[true, true, true, true, false, false, false, false, false, false, false, false, false, false, false, false]) 3 rfl (by kernel_rfl) (by kernel_rfl) (by kernel_rfl) rfl (pr_load_box (.slice none 0 0) rfl ty_56 (.head _) rfl (by decide) rfl) (fun _ h => h) rfl ?_
    refine jh_take (listed' := #[true, true, true, true, true, false, false, false, false, false, false, false, false, false, false, false]) 4 rfl (by kernel_rfl) (by kernel_rfl) (by kernel_rfl) rfl (pr_cap_nil rfl Tryd.underlying56) (fun _ h => h) rfl ?_
    refine jh_take (listed' := #[true, true, true, true, true, true, false, false, false, false, false, false, false, false, false, false]) 5 rfl (by kernel_rfl) (by kernel_rfl) (by kernel_rfl) rfl (pr_mulN (m := 2) (n := 0) rfl rfl (by omega)) (fun _ h => h) rfl ?_
    refine jh_take (listed' := #[true, true, true, true, true, true, true, false, false, false, false, false, false, false, false, false]) 6 rfl (by kernel_rfl) (by kernel_rfl) (by kernel_rfl) rfl (pr_move rfl) (fun _ h => h) rfl ?_
    refine jh_take (listed' := #[true, true, true, true, true, true, true, true, false, false, false, false, false, false, false, false]) 7 rfl (by kernel_rfl) (by kernel_rfl) (by kernel_rfl) rfl (pr_addN (m := 2 * 0) (n := n) rfl rfl (by omega)) (fun _ h => h) rfl ?_
    refine jh_take (listed' := #[true, true, true, true, true, true, true, true, false, true, false, false, false, false, false, false]) 9 rfl (by kernel_rfl) (by kernel_rfl) (by kernel_rfl) rfl (pr_move rfl) (fun _ h => h) rfl ?_
    refine jh_take (listed' := #[true, true, true, true, true, true, true, true, false, true, true, false, false, false, false, false]) 10 rfl (by kernel_rfl) (by kernel_rfl) (by kernel_rfl) rfl (pr_nilCheck rfl) (fun _ h => h) rfl ?_
    refine jh_take (listed' := #[true, true, true, true, true, true, true, true, false, true, true, true, false, false, false, false]) 11 rfl (by kernel_rfl) (by kernel_rfl) (by kernel_rfl) rfl (pr_fieldAddr 1 rfl Tryd.underlying92 rfl ty_56 rfl rfl) (fun _ h => h) rfl ?_
    refine jh_take (listed' := #[true, true, true, true, true, true, true, true, false, true, true, true, true, false, false, false]) 12 rfl (by kernel_rfl) (by kernel_rfl) (by kernel_rfl) rfl (pr_load_box (.slice none 0 0) rfl ty_56 (.head _) rfl (by decide) rfl) (fun _ h => h) rfl ?_
    refine jh_take (listed' := #[true, true, true, true, true, true, true, true, false, true, true, true, true, true, false, false]) 13 rfl (by kernel_rfl) (by kernel_rfl) (by kernel_rfl) rfl (pr_len rfl Tryd.underlying56) (fun _ h => h) rfl ?_
    refine jh_all [8] (by kernel_rfl) (by simp) (fun i hi => ?_)
    simp only [List.mem_cons, List.not_mem_nil, or_false] at hi
    subst hi
    · refine jh_op rfl ?_
      refine jo_makeNoZero (n := (2 * 0) + n) (ps := #[3]) (t := 56) Tryd.func125 (by kernel_rfl) rfl (by kernel_rfl) (by kernel_rfl) rfl Tryd.underlying56 (by omega) rfl (fun g1 cap1 hcap1 => ?_)
      refine jh_in (listed' := #[true, true, true, true, true, true, true, true, true, true, true, true, true, true, false, false]) (fun _ h => Mem.drop1 (h)) rfl ?_
      refine jh_take (listed' := #[true, true, true, true, true, true, true, true, true, true, true, true, true, true, true, false]) 14 rfl (by kernel_rfl) (by kernel_rfl) (by kernel_rfl) rfl (pr_slice_own (h := 0) rfl rfl Tryd.underlying56 ty_5 (by omega)) (fun _ h => Mem.drop1 (h)) rfl ?_
      refine jh_take (listed' := #[true, true, true, true, true, true, true, true, true, true, true, true, true, true, true, true]) 15 rfl (by kernel_rfl) (by kernel_rfl) (by kernel_rfl) rfl (pr_assign rfl) (fun _ h => Mem.drop1 (h)) rfl ?_
      show J _ _ _ _
      refine j_pull1 ?_
      refine j_pull1 ?_
      show JH _ _ _ _ _ _ _ _
      exact jh_done ⟨g1, cap1⟩ (by kernel_rfl) ⟨rfl, rfl, trivial⟩ (fun _ h => h)
  · skip
    show J _ [(0, .pointer (some ⟨b, 0, none⟩)), (4, .slice (some ⟨g1, 0, none⟩) (0) (cap1))] [.rowg g1 (cap1) 5 .u8 (([] : List UInt8)), .box b 92 [.pointer (some ⟨b, 0, none⟩), .slice none 0 0]] _
    refine jq_then ?_
    refine jc_seq ?_
    refine jc_region ?_
    refine jo_pure rfl (pr_move rfl) ?_
    refine jo_pure rfl (pr_move rfl) ?_
    refine jo_pure rfl (pr_nilCheck rfl) ?_
    refine jo_pure rfl (pr_fieldAddr 1 rfl Tryd.underlying92 rfl ty_56 rfl rfl) ?_
    refine jo_pure rfl (pr_load_box (.slice none 0 0) rfl ty_56 (.tail _ (.head _)) rfl (by decide) rfl) ?_
    refine jo_pure rfl (pr_copy_nil rfl rfl Tryd.underlying56 ty_5) ?_
    refine jo_nil ?_
    refine jq_then ?_
    refine jc_region ?_
    refine jo_pure rfl (pr_move rfl) ?_
    refine jo_pure rfl (pr_move rfl) ?_
    refine jo_pure rfl (pr_nilCheck rfl) ?_
    refine jo_pure rfl (pr_fieldAddr 1 rfl Tryd.underlying92 rfl ty_56 rfl rfl) ?_
    refine j_pull1 ?_
    refine jo_store rfl rfl ty_56 [.slice (some ⟨g1, 0, none⟩) (0) (cap1)] rfl rfl rfl [.pointer (some ⟨b, 0, none⟩), .slice (some ⟨g1, 0, none⟩) (0) (cap1)] rfl rfl ?_
    refine jo_nil ?_
    refine jq_fall ?_
    refine j_pull1 ?_
    refine j_row_of_rowg ?_
    refine j_pull1 ?_
    exact jq_ret0 rfl (.slice (some ⟨g1, 0, none⟩) (([] : List UInt8)).length (cap1)) (show (.tuple #[] : Value) = (.tuple #[]) from rfl) (fun _ h => h)

theorem c_Grow_new (b n : Nat) (hn : n ≤ 1000000000) (hn0 : 0 < n) : Con Tryd.prog 79 #[.pointer (some ⟨b, 0, none⟩), .int .i64 ((n : Nat) : Int)] [.box b 92 [.pointer none, .slice none 0 0]] (fun r1 : Value => .tuple #[]) (fun r1 => [.box b 92 [.pointer (some ⟨b, 0, none⟩), r1], .row (r1) 5 .u8 ([])]) := by
  refine con_of_J (args := [.pointer (some ⟨b, 0, none⟩), .int .i64 ((n : Nat) : Int)]) (n := 25) Tryd.func79 rfl (Nat.le_of_ble_eq_true rfl) rfl (fun w0 I0 m0 => ?_)
  show J _ [(0, .pointer (some ⟨b, 0, none⟩)), (1, .int .i64 ((n : Nat) : Int))] [.box b 92 [.pointer none, .slice none 0 0]] _
  refine jc_seq ?_
  refine jc_region ?_
  refine jo_pure rfl (pr_move rfl) ?_
  refine jo_callm [] rfl cal_106 (c_copyCheck_new b (.slice none 0 0)) ⟨rfl, trivial⟩ rfl (fun _ => ?_)
  show J _ _ [.box b 92 [.pointer (some ⟨b, 0, none⟩), .slice none 0 0]] _
  refine jo_nil ?_
  refine jq_then ?_
  refine jc_seq ?_
  refine jc_seq ?_
  refine jc_region ?_
  refine jo_pure rfl (pr_move rfl) ?_
  refine jo_pure rfl (pr_lssN (m := n) (n := 0) rfl rfl) ?_
  refine jo_nil ?_
  refine jq_then ?_
  refine jc_cond rfl (fun h1b => ?_) (fun h1b => ?_)
  · have h1 := of_decide_eq_true h1b
    exact absurd h1 (Nat.not_lt_zero _)
  · have h1 := of_decide_eq_false h1b
    refine jc_skip ?_
    refine jq_then ?_
    refine jc_seq ?_
    refine jc_draws mixed (by kernel_rfl) ?_
    refine jd_pure rfl (pr_move rfl) ?_
    refine jd_pure rfl (pr_nilCheck rfl) ?_
    refine jd_pure rfl (pr_fieldAddr 1 rfl Tryd.underlying92 rfl ty_56 rfl rfl) ?_
    refine jd_pure rfl (pr_load_box (.slice none 0 0) rfl ty_56 (.head _) rfl (by decide) rfl) ?_
    refine jd_pure rfl (pr_cap_nil rfl Tryd.underlying56) ?_
    refine jd_pure rfl (pr_move rfl) ?_
    refine jd_pure rfl (pr_nilCheck rfl) ?_
    refine jd_pure rfl (pr_fieldAddr 1 rfl Tryd.underlying92 rfl ty_56 rfl rfl) ?_
    refine jd_pure rfl (pr_load_box (.slice none 0 0) rfl ty_56 (.head _) rfl (by decide) rfl) ?_
    refine jd_pure rfl (pr_len rfl Tryd.underlying56) ?_
    refine jd_pure rfl (pr_subN (m := 0) (n := 0) rfl rfl (by omega) (by omega)) ?_
    refine jd_pure rfl (pr_move rfl) ?_
    refine jd_pure rfl (pr_lssN (m := 0 - 0) (n := n) rfl rfl) ?_
    refine jd_nil ?_
    refine jq_then ?_
    refine jc_cond rfl (fun h2b => ?_) (fun h2b => ?_)
    · have h2 := of_decide_eq_true h2b
      refine jc_region ?_
      refine jo_pure rfl (pr_move rfl) ?_
      refine jo_pure rfl (pr_move rfl) ?_
      refine jo_callm [] rfl cal_107 (c_grow_new b n (by omega) (by omega)) ⟨rfl, rfl, trivial⟩ rfl (fun r1 => ?_)
      show J _ _ [.box b 92 [.pointer (some ⟨b, 0, none⟩), r1], .row (r1) 5 .u8 ([])] _
      refine jo_nil ?_
      refine jq_fall ?_
      refine j_pull1 ?_
      refine j_pull1 ?_
      exact jq_ret0 rfl r1 (show (.tuple #[] : Value) = (.tuple #[]) from rfl) (fun _ h => h)
    · have h2 := of_decide_eq_false h2b
      exact absurd h2 (by omega)

theorem c_strings_Join (l : List (List UInt8)) (lv : Value) (sep : List UInt8) (hl : l.length ≤ 1000) (hm : ∀ x ∈ l, x.length ≤ 20000) (hs : 0 < sep.length) (hs2 : sep.length ≤ 10) : Con Tryd.prog 48 #[lv, str (sep)] [.imm (.list .str) (lv) (l)] (fun _ : Unit => str (joinS sep l)) (fun _ => []) := by
  refine con_of_J (args := [lv, str (sep)]) (n := 75) Tryd.func48 rfl (Nat.le_of_ble_eq_true rfl) rfl (fun w0 I0 m0 => ?_)
  show J _ [(0, lv), (1, str (sep))] [.imm (.list .str) (lv) (l)] _
  refine jc_seq ?_
  refine jc_region ?_
  refine jo_pure rfl (pr_assign rfl) ?_
  refine jo_nil ?_
  refine jq_then ?_
  refine jc_seq ?_
  refine jc_seq ?_
  refine jc_region ?_
  refine jo_pure rfl (pr_move rfl) ?_
  refine jo_pure rfl (pr_len_imm rfl (.head _) Tryd.underlying22) ?_
  refine jo_nil ?_
  refine jq_then ?_
  refine jc_block ?_
  refine jc_seq ?_
  refine jc_region ?_
  refine jo_pure rfl (pr_eqlN (m := l.length) (n := 0) rfl rfl) ?_
  refine jo_pure rfl (pr_assign rfl) ?_
  refine jo_nil ?_
  refine jq_then ?_
  refine jc_cond rfl (fun h1b => ?_) (fun h1b => ?_)
  · have h1 := of_decide_eq_true h1b
    refine jc_seq ?_
    refine jc_region ?_
    refine jo_pure rfl (pr_assign rfl) ?_
    refine jo_nil ?_
    refine jq_then ?_
    refine jc_ret ?_
    refine jq_in_ret ?_
    refine jq_then_ret ?_
    refine j_drop ?_
    exact jq_ret1 rfl () rfl (show (str (joinS sep l) : Value) = (str ([])) from congrArg str (by rw [List.length_eq_zero_iff.1 h1]; rfl)) (fun _ h => h)
  · have h1 := of_decide_eq_false h1b
    refine jc_seq ?_
    refine jc_region ?_
    refine jo_pure rfl (pr_eqlN (m := l.length) (n := 1) rfl rfl) ?_
    refine jo_pure rfl (pr_assign rfl) ?_
    refine jo_nil ?_
    refine jq_then ?_
    refine jc_cond rfl (fun h2b => ?_) (fun h2b => ?_)
    · have h2 := of_decide_eq_true h2b
      refine jc_seq ?_
      refine jc_region ?_
      refine jo_pure rfl (pr_move rfl) ?_
      refine jo_pure rfl (pr_idx_imm (i := 0) rfl (.head _) rfl Tryd.underlying22 ty_9 (by omega)) ?_
      refine jo_pure rfl (pr_load_elem_imm (i := 0) (str (l.getD 0 [])) rfl (.head _) ty_9 rfl rfl (by omega) rfl) ?_
      refine jo_pure rfl (pr_assign rfl) ?_
      refine jo_nil ?_
      refine jq_then ?_
      refine jc_ret ?_
      refine jq_in_ret ?_
      refine jq_then_ret ?_
      refine j_drop ?_
      exact jq_ret1 rfl () rfl (show (str (joinS sep l) : Value) = (str (l.getD 0 [])) from congrArg str (by rw [← joinS_first (sep := sep) (by omega), joinS_all (by omega)])) (fun _ h => h)
    · have h2 := of_decide_eq_false h2b
      refine jc_skip ?_
      refine jq_in_normal ?_
      refine jq_then ?_
      refine jc_seq ?_
      refine jc_region ?_
      refine jo_pure rfl (pr_assign rfl) ?_
      refine jo_nil ?_
      refine jq_then ?_
      refine jc_seq ?_
      refine jc_seq ?_
      refine jc_region ?_
      refine jo_pure rfl (pr_move rfl) ?_
      refine jo_pure rfl (pr_slen rfl Tryd.underlying9) ?_
      refine jo_pure rfl (pr_gtrN (m := sep.length) (n := 0) rfl rfl) ?_
      refine jo_nil ?_
      refine jq_then ?_
      refine jc_cond rfl (fun h3b => ?_) (fun h3b => ?_)
      · have h3 := of_decide_eq_true h3b
        refine jc_seq ?_
        refine jc_seq ?_
        refine jc_region ?_
        refine jo_pure rfl (pr_move rfl) ?_
        refine jo_pure rfl (pr_slen rfl Tryd.underlying9) ?_
        refine jo_pure rfl (pr_move rfl) ?_
        refine jo_pure rfl (pr_len_imm rfl (.head _) Tryd.underlying22) ?_
        refine jo_pure rfl (pr_subN (m := l.length) (n := 1) rfl rfl (by omega) (by omega)) ?_
        refine jo_pure rfl (pr_quoN (m := 9223372036854775807) (n := l.length - 1) rfl rfl (by omega) (by omega)) ?_
        refine jo_pure rfl (pr_geqN (m := sep.length) (n := 9223372036854775807 / (l.length - 1)) rfl rfl) ?_
        refine jo_nil ?_
        refine jq_then ?_
        refine jc_cond rfl (fun h4b => ?_) (fun h4b => ?_)
        · have h4 := of_decide_eq_true h4b
          exact absurd h4 (by have := Nat.div_le_div_left (a := 9223372036854775807) (show l.length - 1 ≤ 1000 by omega) (by omega); omega)
        · have h4 := of_decide_eq_false h4b
          have hmul := Nat.mul_le_mul hs2 (show l.length - 1 ≤ 1000 by omega)
          have hmul2 : 0 < sep.length * (l.length - 1) := Nat.mul_pos hs (by omega)
          have htl : ((l.take l.length).drop 1).length = l.length - 1 := by rw [List.take_length, List.length_drop]
          refine jc_skip ?_
          refine jq_then ?_
          refine jc_region ?_
          refine jo_pure rfl (pr_move rfl) ?_
          refine jo_pure rfl (pr_move rfl) ?_
          refine jo_pure rfl (pr_slen rfl Tryd.underlying9) ?_
          refine jo_pure rfl (pr_move rfl) ?_
          refine jo_pure rfl (pr_len_imm rfl (.head _) Tryd.underlying22) ?_
          refine jo_pure rfl (pr_subN (m := l.length) (n := 1) rfl rfl (by omega) (by omega)) ?_
          refine jo_pure rfl (pr_mulN (m := sep.length) (n := l.length - 1) rfl rfl (by have := Nat.mul_le_mul hs2 (Nat.sub_le l.length 1); omega)) ?_
          refine jo_pure rfl (pr_addN (m := 0) (n := sep.length * (l.length - 1)) rfl rfl (by first | omega | (have := getD_len (i := i) hm; omega))) ?_
          refine jo_pure rfl (pr_assign rfl) ?_
          refine jo_nil ?_
          refine jq_then ?_
          refine jc_seq ?_
          refine jc_seq ?_
          refine jc_region ?_
          refine jo_pure rfl (pr_move rfl) ?_
          refine jo_pure rfl (pr_len_imm rfl (.head _) Tryd.underlying22) ?_
          refine jo_pure rfl (pr_move rfl) ?_
          refine jo_nil ?_
          refine jq_then ?_
          refine jc_block ?_
          refine jc_loop2 (fun (i : Nat) (n : Nat) => [(0, lv), (1, str (sep)), (5, .int .i64 ((n : Nat) : Int)), (39, lv), (40, .int .i64 ((l.length : Nat) : Int)), (41, .int .i64 ((i : Nat) : Int))]) (fun (i : Nat) (n : Nat) => [.imm (.list .str) (lv) (l)]) (fun (i : Nat) (n : Nat) => i ≤ l.length ∧ 0 < n ∧ n ≤ 10000 + i * 20000) (fun (i : Nat) (n : Nat) => l.length - i) 0 (0 + (sep.length * (l.length - 1))) (⟨Nat.zero_le _, by omega, by omega⟩) (⟨rfl, rfl, rfl, rfl, rfl, rfl, trivial⟩) (fun _ h => h) (fun i n hinv => ?_)
          refine jc_seq ?_
          refine jc_region ?_
          refine jo_pure rfl (pr_lssN (m := i) (n := l.length) rfl rfl) ?_
          refine jo_nil ?_
          refine jq_then ?_
          refine jc_seq ?_
          refine jc_cond rfl (fun h5b => ?_) (fun h5b => ?_)
          · have h5 := of_decide_eq_true h5b
            refine jc_skip ?_
            refine jq_then ?_
            refine jc_seq ?_
            refine jc_block ?_
            refine jc_seq ?_
            refine jc_region ?_
            refine jo_pure rfl (pr_idx_imm (i := i) rfl (.head _) rfl Tryd.underlying22 ty_9 (by omega)) ?_
            refine jo_pure rfl (pr_load_elem_imm (i := i) (str (l.getD i [])) rfl (.head _) ty_9 rfl rfl (by omega) rfl) ?_
            refine jo_pure rfl (pr_assign rfl) ?_
            refine jo_nil ?_
            refine jq_then ?_
            refine jc_seq ?_
            refine jc_seq ?_
            refine jc_region ?_
            refine jo_pure rfl (pr_move rfl) ?_
            refine jo_pure rfl (pr_slen rfl Tryd.underlying9) ?_
            refine jo_pure rfl (pr_move rfl) ?_
            refine jo_pure rfl (pr_subN (m := 9223372036854775807) (n := n) rfl rfl (by omega) (by omega)) ?_
            refine jo_pure rfl (pr_gtrN (m := (l.getD i []).length) (n := 9223372036854775807 - n) rfl rfl) ?_
            refine jo_nil ?_
            refine jq_then ?_
            refine jc_cond rfl (fun h6b => ?_) (fun h6b => ?_)
            · have h6 := of_decide_eq_true h6b
              exact absurd h6 (by have := getD_len (i := i) hm; omega)
            · have h6 := of_decide_eq_false h6b
              refine jc_skip ?_
              refine jq_then ?_
              refine jc_region ?_
              refine jo_pure rfl (pr_move rfl) ?_
              refine jo_pure rfl (pr_move rfl) ?_
              refine jo_pure rfl (pr_slen rfl Tryd.underlying9) ?_
              refine jo_pure rfl (pr_addN (m := n) (n := (l.getD i []).length) rfl rfl (by first | omega | (have := getD_len (i := i) hm; omega))) ?_
              refine jo_pure rfl (pr_assign rfl) ?_
              refine jo_nil ?_
              refine jq_in_normal ?_
              refine jq_then ?_
              refine jc_region ?_
              refine jo_pure rfl (pr_addN (m := i) (n := 1) rfl rfl (by first | omega | (have := getD_len (i := i) hm; omega))) ?_
              refine jo_pure rfl (pr_move rfl) ?_
              refine jo_nil ?_
              refine jq_round' ((i + 1), (n + ((l.getD i []).length))) (by (try dsimp only); exact (⟨by omega, by omega, by have := getD_len (i := i) hm; omega⟩)) (by (try dsimp only); exact (by omega)) ⟨rfl, rfl, rfl, rfl, rfl, rfl, trivial⟩ (fun _ h => h)
          · have h5 := of_decide_eq_false h5b
            refine jc_exit ?_
            refine jq_then_exit ?_
            refine jq_then_exit ?_
            refine jq_in_hit ?_
            refine jq_then ?_
            refine jc_seq ?_
            refine jc_region ?_
            refine jo_alloc ty_92 [.pointer none, .slice none 0 0] rfl rfl (fun b1 => ?_)
            refine jo_nil ?_
            refine jq_then ?_
            refine jc_seq ?_
            refine jc_region ?_
            refine jo_pure rfl (pr_move rfl) ?_
            refine jo_callm [.imm (.list .str) (lv) (l)] rfl cal_79 (c_Grow_new b1 n (by omega) (by omega)) ⟨rfl, rfl, trivial⟩ rfl (fun r1 => ?_)
            show J _ _ [.box b1 92 [.pointer (some ⟨b1, 0, none⟩), r1], .row (r1) 5 .u8 ([]), .imm (.list .str) (lv) (l)] _
            refine jo_nil ?_
            refine jq_then ?_
            refine jc_seq ?_
            refine jc_region ?_
            refine jo_pure rfl (pr_move rfl) ?_
            refine jo_pure rfl (pr_idx_imm (i := 0) rfl (.tail _ (.tail _ (.head _))) rfl Tryd.underlying22 ty_9 (by omega)) ?_
            refine jo_pure rfl (pr_load_elem_imm (i := 0) (str (l.getD 0 [])) rfl (.tail _ (.tail _ (.head _))) ty_9 rfl rfl (by omega) rfl) ?_
            refine j_pull1 ?_
            refine j_pull1 ?_
            refine jo_callm [.imm (.list .str) (lv) (l)] rfl cal_80 (c_WriteString_used b1 r1 [] (l.getD 0 []) (by first | omega | (simp only [List.length_append, List.length_nil]; have := getD_len (i := 0) hm; omega) | (have := getD_len (i := k + 1) hm; rw [tail_get]; simp only [List.length_append]; omega) | (simp only [List.length_append]; omega))) ⟨rfl, rfl, trivial⟩ rfl (fun r2 => ?_)
            show J _ _ [.box b1 92 [.pointer (some ⟨b1, 0, none⟩), r2], .row (r2) 5 .u8 ([] ++ (l.getD 0 [])), .imm (.list .str) (lv) (l)] _
            refine jo_nil ?_
            refine jq_then ?_
            refine jc_seq ?_
            refine jc_seq ?_
            refine jc_region ?_
            refine jo_pure rfl (pr_move rfl) ?_
            refine j_resl (l := 1) (h := l.length) (.tail _ (.tail _ (.head _))) (by omega) (by omega) ?_
            show J _ _ (.imm (.list .str) (resl (lv) (1) (l.length) 1) ((l.take l.length).drop 1) :: _) _
            refine jo_pure rfl (pr_slice_imm (l := 1) (h := l.length) rfl (.tail _ (.tail _ (.tail _ (.head _)))) Tryd.underlying22 ty_9 ⟨_, rfl⟩ rfl (by omega) (by omega)) ?_
            refine jo_pure rfl (pr_len_imm rfl (.head _) Tryd.underlying22) ?_
            refine jo_pure rfl (pr_move rfl) ?_
            refine jo_nil ?_
            refine jq_then ?_
            refine jc_block ?_
            refine jc_loop3 (fun (k : Nat) (bv : Value) (acc : List UInt8) => [(1, str (sep)), (8, .pointer (some ⟨b1, 0, none⟩)), (63, resl (lv) (1) (l.length) 1), (64, .int .i64 ((((l.take l.length).drop 1).length : Nat) : Int)), (65, .int .i64 ((k : Nat) : Int))]) (fun (k : Nat) (bv : Value) (acc : List UInt8) => [.imm (.list .str) (resl (lv) (1) (l.length) 1) ((l.take l.length).drop 1), .box b1 92 [.pointer (some ⟨b1, 0, none⟩), bv], .row (bv) 5 .u8 (acc), .imm (.list .str) (lv) (l)]) (fun (k : Nat) (bv : Value) (acc : List UInt8) => k ≤ ((l.take l.length).drop 1).length ∧ acc.length ≤ 20000 + k * 20010 ∧ acc = joinS sep (l.take (k + 1))) (fun (k : Nat) (bv : Value) (acc : List UInt8) => ((l.take l.length).drop 1).length - k) 0 r2 ([] ++ (l.getD 0 [])) (⟨Nat.zero_le _, by have := getD_len (i := 0) hm; simp only [List.nil_append]; omega, by rw [joinS_first (by omega), List.nil_append]⟩) (⟨rfl, rfl, rfl, rfl, rfl, trivial⟩) (fun _ h => h) (fun k bv acc hink => ?_)
            refine jc_seq ?_
            refine jc_region ?_
            refine jo_pure rfl (pr_lssN (m := k) (n := ((l.take l.length).drop 1).length) rfl rfl) ?_
            refine jo_nil ?_
            refine jq_then ?_
            refine jc_seq ?_
            refine jc_cond rfl (fun h7b => ?_) (fun h7b => ?_)
            · have h7 := of_decide_eq_true h7b
              refine jc_skip ?_
              refine jq_then ?_
              refine jc_seq ?_
              refine jc_block ?_
              refine jc_seq ?_
              refine jc_region ?_
              refine jo_pure rfl (pr_idx_imm (i := k) rfl (.head _) rfl Tryd.underlying22 ty_9 (by omega)) ?_
              refine jo_pure rfl (pr_load_elem_imm (i := k) (str (((l.take l.length).drop 1).getD k [])) rfl (.head _) ty_9 rfl rfl (by omega) rfl) ?_
              refine jo_pure rfl (pr_assign rfl) ?_
              refine jo_nil ?_
              refine jq_then ?_
              refine jc_seq ?_
              refine jc_region ?_
              refine jo_pure rfl (pr_move rfl) ?_
              refine j_pull2 ?_
              refine j_pull2 ?_
              refine jo_callm [.imm (.list .str) (resl (lv) (1) (l.length) 1) ((l.take l.length).drop 1), .imm (.list .str) (lv) (l)] rfl cal_80 (c_WriteString_used b1 bv acc sep (by first | omega | (simp only [List.length_append, List.length_nil]; have := getD_len (i := 0) hm; omega) | (have := getD_len (i := k + 1) hm; rw [tail_get]; simp only [List.length_append]; omega) | (simp only [List.length_append]; omega))) ⟨rfl, rfl, trivial⟩ rfl (fun r3 => ?_)
              show J _ _ [.box b1 92 [.pointer (some ⟨b1, 0, none⟩), r3], .row (r3) 5 .u8 (acc ++ sep), .imm (.list .str) (resl (lv) (1) (l.length) 1) ((l.take l.length).drop 1), .imm (.list .str) (lv) (l)] _
              refine jo_nil ?_
              refine jq_then ?_
              refine jc_region ?_
              refine jo_pure rfl (pr_move rfl) ?_
              refine j_pull1 ?_
              refine j_pull1 ?_
              refine jo_callm [.imm (.list .str) (resl (lv) (1) (l.length) 1) ((l.take l.length).drop 1), .imm (.list .str) (lv) (l)] rfl cal_80 (c_WriteString_used b1 r3 (acc ++ sep) (((l.take l.length).drop 1).getD k []) (by first | omega | (simp only [List.length_append, List.length_nil]; have := getD_len (i := 0) hm; omega) | (have := getD_len (i := k + 1) hm; rw [tail_get]; simp only [List.length_append]; omega) | (simp only [List.length_append]; omega))) ⟨rfl, rfl, trivial⟩ rfl (fun r4 => ?_)
              show J _ _ [.box b1 92 [.pointer (some ⟨b1, 0, none⟩), r4], .row (r4) 5 .u8 ((acc ++ sep) ++ (((l.take l.length).drop 1).getD k [])), .imm (.list .str) (resl (lv) (1) (l.length) 1) ((l.take l.length).drop 1), .imm (.list .str) (lv) (l)] _
              refine jo_nil ?_
              refine jq_in_normal ?_
              refine jq_then ?_
              refine jc_region ?_
              refine jo_pure rfl (pr_addN (m := k) (n := 1) rfl rfl (by first | omega | (have := getD_len (i := i) hm; omega))) ?_
              refine jo_pure rfl (pr_move rfl) ?_
              refine jo_nil ?_
              refine j_pull3 ?_
              refine j_pull2 ?_
              refine j_pull2 ?_
              refine j_pull3 ?_
              refine jq_round' ((k + 1), r4, ((acc ++ sep) ++ (((l.take l.length).drop 1).getD k []))) (by (try dsimp only); exact (⟨by omega, by have := getD_len (i := k + 1) hm; rw [tail_get]; simp only [List.length_append]; omega, by rw [tail_get, joinS_next (by omega) (by omega), hink.2.2]⟩)) (by (try dsimp only); exact (by omega)) ⟨rfl, rfl, rfl, rfl, rfl, trivial⟩ (fun _ h => h)
            · have h7 := of_decide_eq_false h7b
              refine jc_exit ?_
              refine jq_then_exit ?_
              refine jq_then_exit ?_
              refine jq_in_hit ?_
              refine jq_then ?_
              refine jc_seq ?_
              refine jc_region ?_
              refine j_pull2 ?_
              refine j_pull2 ?_
              refine jo_callm [.imm (.list .str) (resl (lv) (1) (l.length) 1) ((l.take l.length).drop 1), .imm (.list .str) (lv) (l)] rfl cal_81 (c_Builder_String b1 (.pointer (some ⟨b1, 0, none⟩)) bv acc) ⟨rfl, trivial⟩ rfl (fun _ => ?_)
              show J _ _ [.imm (.list .str) (resl (lv) (1) (l.length) 1) ((l.take l.length).drop 1), .imm (.list .str) (lv) (l)] _
              refine jo_pure rfl (pr_assign rfl) ?_
              refine jo_nil ?_
              refine jq_then ?_
              refine jc_ret ?_
              refine j_drop ?_
              refine j_drop ?_
              exact jq_ret1 rfl () rfl (show (str (joinS sep l) : Value) = (str (acc)) from congrArg str (by rw [hink.2.2, joinS_all (by omega)])) (fun _ h => h)
      · have h3 := of_decide_eq_false h3b
        exact absurd hs h3

theorem c_accept_Format (l : List ((List UInt8) × Int)) (lv : Value) (hl : l.length ≤ 100) (hm : ∀ x ∈ l, x.1.length ≤ 15000) : Con Tryd.prog 28 #[lv] [.imm (.list (.pair .str (.int .i64))) (lv) (l)] (fun _ : Unit => str (fmtP l)) (fun _ => []) := by
  refine con_of_J (args := [lv]) (n := 31) Tryd.func28 rfl (Nat.le_of_ble_eq_true rfl) rfl (fun w0 I0 m0 => ?_)
  show J _ [(0, lv)] [.imm (.list (.pair .str (.int .i64))) (lv) (l)] _
  refine jc_seq ?_
  refine jc_region ?_
  refine jo_pure rfl (pr_assign rfl) ?_
  refine jo_nil ?_
  refine jq_then ?_
  refine jc_seq ?_
  refine jc_region ?_
  refine jo_pure rfl (pr_assign rfl) ?_
  refine jo_nil ?_
  refine jq_then ?_
  refine jc_seq ?_
  refine jc_seq ?_
  refine jc_region ?_
  refine jo_pure rfl (pr_move rfl) ?_
  refine jo_pure rfl (pr_len_imm rfl (.head _) Tryd.underlying25) ?_
  refine jo_pure rfl (pr_move rfl) ?_
  refine jo_nil ?_
  refine jq_then ?_
  refine jc_block ?_
  refine j_nil_row 9 .str ?_
  refine jc_loop3 (fun (i : Nat) (w : Value) (acc : List (List UInt8)) => [(3, w), (7, lv), (8, .int .i64 ((l.length : Nat) : Int)), (9, .int .i64 ((i : Nat) : Int))]) (fun (i : Nat) (w : Value) (acc : List (List UInt8)) => [.row (w) 9 .str (acc), .imm (.list (.pair .str (.int .i64))) (lv) (l)]) (fun (i : Nat) (w : Value) (acc : List (List UInt8)) => i ≤ l.length ∧ acc.length ≤ i ∧ acc = (l.take i).map memP) (fun (i : Nat) (w : Value) (acc : List (List UInt8)) => l.length - i) 0 (.slice none 0 0) [] (⟨Nat.zero_le _, Nat.le_refl _, rfl⟩) (⟨rfl, rfl, rfl, rfl, trivial⟩) (fun _ h => h) (fun i w acc hinv => ?_)
  have hjm : ∀ x ∈ acc, x.length ≤ 20000 := fun x hx => by rw [hinv.2.2] at hx; obtain ⟨y, hy, rfl⟩ := List.mem_map.1 hx; have := memP_length y; have := hm y (List.mem_of_mem_take hy); omega
  refine jc_seq ?_
  refine jc_region ?_
  refine jo_pure rfl (pr_lssN (m := i) (n := l.length) rfl rfl) ?_
  refine jo_nil ?_
  refine jq_then ?_
  refine jc_seq ?_
  refine jc_cond rfl (fun h1b => ?_) (fun h1b => ?_)
  · have h1 := of_decide_eq_true h1b
    refine jc_skip ?_
    refine jq_then ?_
    refine jc_seq ?_
    refine jc_block ?_
    refine jc_seq ?_
    refine jc_region ?_
    refine jo_pure rfl (pr_idx_imm (i := i) rfl (.tail _ (.head _)) rfl Tryd.underlying25 ty_45 (by omega)) ?_
    refine jo_pure rfl (pr_load_elem_imm (i := i) (.agg #[str ((l.getD i ([], 0)).1), .int .i64 ((l.getD i ([], 0)).2)]) rfl (.tail _ (.head _)) ty_45 rfl rfl (by omega) rfl) ?_
    refine jo_alloc ty_45 [str ([]), .int .i64 ((0 : Nat) : Int)] rfl rfl (fun b1 => ?_)
    refine jo_store rfl rfl ty_45 [str ((l.getD i ([], 0)).1), .int .i64 ((l.getD i ([], 0)).2)] rfl rfl rfl [str ((l.getD i ([], 0)).1), .int .i64 ((l.getD i ([], 0)).2)] rfl rfl ?_
    refine jo_nil ?_
    refine jq_then ?_
    refine jc_seq ?_
    refine jc_region ?_
    refine jo_pure rfl (pr_fieldAddr 0 rfl Tryd.underlying45 rfl ty_9 rfl rfl) ?_
    refine jo_pure rfl (pr_load_box (str ((l.getD i ([], 0)).1)) rfl ty_9 (.head _) rfl (by decide) rfl) ?_
    refine jo_pure rfl (pr_assign rfl) ?_
    refine jo_nil ?_
    refine jq_then ?_
    refine jc_seq ?_
    refine jc_seq ?_
    refine jc_region ?_
    refine jo_pure rfl (pr_fieldAddr 1 rfl Tryd.underlying45 rfl ty_3 rfl rfl) ?_
    refine jo_pure rfl (pr_load_box (.int .i64 ((l.getD i ([], 0)).2)) rfl ty_3 (.head _) rfl (by decide) rfl) ?_
    refine jo_pure rfl (pr_neq (n := 1000) rfl rfl) ?_
    refine jo_nil ?_
    refine jq_then ?_
    refine jc_cond rfl (fun h2b => ?_) (fun h2b => ?_)
    · have h2 := (fun q => of_decide_eq_false (bt_not q)) h2b
      refine jc_region ?_
      refine jo_pure rfl (pr_move rfl) ?_
      refine jo_pure rfl (pr_fieldAddr 1 rfl Tryd.underlying45 rfl ty_3 rfl rfl) ?_
      refine jo_pure rfl (pr_load_box (.int .i64 ((l.getD i ([], 0)).2)) rfl ty_3 (.head _) rfl (by decide) rfl) ?_
      refine jo_callp cal_47 (c_qvalue_Format ((l.getD i ([], 0)).2)) ⟨rfl, trivial⟩ rfl (trivial) (fun _ => ?_)
      refine jo_pure rfl (pr_sadd rfl rfl (by have := hm _ (getD_mem (dd := ([], 0)) h1); have := fmtQ_length (l.getD i ([], 0)).2; first | omega | (simp only [List.length_append, List.length_cons, List.length_nil]; omega))) ?_
      refine jo_pure rfl (pr_sadd rfl rfl (by have := hm _ (getD_mem (dd := ([], 0)) h1); have := fmtQ_length (l.getD i ([], 0)).2; first | omega | (simp only [List.length_append, List.length_cons, List.length_nil]; omega))) ?_
      refine jo_pure rfl (pr_assign rfl) ?_
      refine jo_nil ?_
      refine jq_then ?_
      refine jc_region ?_
      refine jo_pure rfl (pr_move rfl) ?_
      refine jo_pure rfl (pr_move rfl) ?_
      refine jo_buildSlice (t := .str) [((l.getD i ([], 0)).1) ++ ([59, 113, 61] ++ (fmtQ ((l.getD i ([], 0)).2)))] [str (((l.getD i ([], 0)).1) ++ ([59, 113, 61] ++ (fmtQ ((l.getD i ([], 0)).2))))] (fun a hf => by simp only [List.zipIdx_cons, List.zipIdx_nil, List.map_toArray, List.map_cons, List.map_nil, hf.ev (show ev _ (.tmp 25) = some (str (((l.getD i ([], 0)).1) ++ ([59, 113, 61] ++ (fmtQ ((l.getD i ([], 0)).2))))) from rfl)]) rfl Tryd.underlying22 ty_9 rfl rfl rfl rfl rfl (fun g1 => ?_)
      refine j_pull2 ?_
      refine jo_append rfl rfl Tryd.underlying22 ty_9 rfl (by simp only [List.length_append, List.length_cons, List.length_nil, maxLen]; omega) (by simp only [List.length_append, List.length_cons, List.length_nil]; omega) rfl (fun v1 => ?_)
      refine jo_pure rfl (pr_assign rfl) ?_
      refine jo_nil ?_
      refine jq_in_normal ?_
      refine jq_then ?_
      refine jc_region ?_
      refine jo_pure rfl (pr_addN (m := i) (n := 1) rfl rfl (by omega)) ?_
      refine jo_pure rfl (pr_move rfl) ?_
      refine jo_nil ?_
      refine j_pull1 ?_
      refine j_drop ?_
      refine j_pull1 ?_
      refine j_pull1 ?_
      refine jq_round' ((i + 1), v1, (acc ++ [((l.getD i ([], 0)).1) ++ ([59, 113, 61] ++ (fmtQ ((l.getD i ([], 0)).2)))])) (by (try dsimp only); exact (⟨by omega, by simp; omega, by rw [mapP_step h1, memP_q h2, hinv.2.2]⟩)) (by (try dsimp only); exact (by omega)) ⟨rfl, rfl, rfl, rfl, trivial⟩ (fun _ h => h)
    · have h2 := (fun q => of_decide_eq_true (bf_not q)) h2b
      refine jc_skip ?_
      refine jq_then ?_
      refine jc_region ?_
      refine jo_pure rfl (pr_move rfl) ?_
      refine jo_pure rfl (pr_move rfl) ?_
      refine jo_buildSlice (t := .str) [(l.getD i ([], 0)).1] [str ((l.getD i ([], 0)).1)] (fun a hf => by simp only [List.zipIdx_cons, List.zipIdx_nil, List.map_toArray, List.map_cons, List.map_nil, hf.ev (show ev _ (.tmp 25) = some (str ((l.getD i ([], 0)).1)) from rfl)]) rfl Tryd.underlying22 ty_9 rfl rfl rfl rfl rfl (fun g2 => ?_)
      refine j_pull2 ?_
      refine jo_append rfl rfl Tryd.underlying22 ty_9 rfl (by simp only [List.length_append, List.length_cons, List.length_nil, maxLen]; omega) (by simp only [List.length_append, List.length_cons, List.length_nil]; omega) rfl (fun v2 => ?_)
      refine jo_pure rfl (pr_assign rfl) ?_
      refine jo_nil ?_
      refine jq_in_normal ?_
      refine jq_then ?_
      refine jc_region ?_
      refine jo_pure rfl (pr_addN (m := i) (n := 1) rfl rfl (by omega)) ?_
      refine jo_pure rfl (pr_move rfl) ?_
      refine jo_nil ?_
      refine j_pull1 ?_
      refine j_drop ?_
      refine j_pull1 ?_
      refine j_pull1 ?_
      refine jq_round' ((i + 1), v2, (acc ++ [(l.getD i ([], 0)).1])) (by (try dsimp only); exact (⟨by omega, by simp; omega, by rw [mapP_step h1, memP_plain h2, hinv.2.2]⟩)) (by (try dsimp only); exact (by omega)) ⟨rfl, rfl, rfl, rfl, trivial⟩ (fun _ h => h)
  · have h1 := of_decide_eq_false h1b
    refine jc_exit ?_
    refine jq_then_exit ?_
    refine jq_then_exit ?_
    refine jq_in_hit ?_
    refine jq_then ?_
    refine jc_seq ?_
    refine jc_region ?_
    refine jo_pure rfl (pr_move rfl) ?_
    refine j_pub_row ?_
    refine jo_callp cal_48 (c_strings_Join acc w [44, 32] (by first | omega | rfl | (simp only [List.length_cons, List.length_nil]; omega)) (hjm) (by first | omega | rfl | (simp only [List.length_cons, List.length_nil]; omega)) (by first | omega | rfl | (simp only [List.length_cons, List.length_nil]; omega))) ⟨rfl, rfl, trivial⟩ rfl (⟨⟨rfl, .head _⟩, trivial⟩) (fun _ => ?_)
    refine jo_pure rfl (pr_assign rfl) ?_
    refine jo_nil ?_
    refine jq_then ?_
    refine jc_ret ?_
    refine j_drop ?_
    refine j_drop ?_
    exact jq_ret1 rfl () rfl (show (str (fmtP l) : Value) = (str (joinS [44, 32] acc)) from congrArg str (by rw [hinv.2.2, take_over (s := l) (i := i) (by omega)]; rfl)) (fun _ h => h)

theorem c_keep_Prefs (l : List ((List UInt8) × Int)) (lv : Value) (hl : l.length ≤ 9223372036854775807) : Con Tryd.prog 19 #[lv] [.imm (.list (.pair .str (.int .i64))) (lv) (l)] (fun _ : Unit => .bool (keepR l)) (fun _ => []) := by
  refine con_of_J (args := [lv]) (n := 24) Tryd.func19 rfl (Nat.le_of_ble_eq_true rfl) rfl (fun w0 I0 m0 => ?_)
  show J _ [(0, lv)] [.imm (.list (.pair .str (.int .i64))) (lv) (l)] _
  refine jc_seq ?_
  refine jc_region ?_
  refine jo_pure rfl (pr_assign rfl) ?_
  refine jo_nil ?_
  refine jq_then ?_
  refine jc_seq ?_
  refine jc_seq ?_
  refine jc_region ?_
  refine jo_pure rfl (pr_assign rfl) ?_
  refine jo_nil ?_
  refine jq_then ?_
  refine jc_block ?_
  refine jc_loop (fun (i : Nat) => [(0, lv), (3, .int .i64 ((i : Nat) : Int))]) (fun (i : Nat) => [.imm (.list (.pair .str (.int .i64))) (lv) (l)]) (fun (i : Nat) => i ≤ 21 ∧ (l.take i).all okR = true) (fun (i : Nat) => 21 - i) 0 (⟨Nat.zero_le _, rfl⟩) (⟨rfl, rfl, trivial⟩) (fun _ h => h) (fun i hinv => ?_)
  refine jc_seq ?_
  refine jc_seq ?_
  refine jc_region ?_
  refine jo_pure rfl (pr_move rfl) ?_
  refine jo_pure rfl (pr_move rfl) ?_
  refine jo_pure rfl (pr_len_imm rfl (.head _) Tryd.underlying25) ?_
  refine jo_pure rfl (pr_lssN (m := i) (n := l.length) rfl rfl) ?_
  refine jo_pure rfl (pr_move rfl) ?_
  refine jo_gpure (j := 4) (want := true) rfl rfl rfl rfl (fun hg => pr_move rfl) ?_
  refine jo_gpure (j := 4) (want := true) rfl rfl rfl rfl (fun hg => pr_lssN (m := i) (n := 21) (evg rfl hg) rfl) ?_
  refine jo_pure rfl (pr_pick_and rfl rfl rfl) ?_
  refine jo_nil ?_
  refine jq_then ?_
  refine jc_cond rfl (fun h1b => ?_) (fun h1b => ?_)
  · have h1 := (fun q => And.imp of_decide_eq_true of_decide_eq_true (bt_and q)) h1b
    refine jc_skip ?_
    refine jq_then ?_
    refine jc_seq ?_
    refine jc_block ?_
    refine jc_seq ?_
    refine jc_region ?_
    refine jo_pure rfl (pr_move rfl) ?_
    refine jo_pure rfl (pr_move rfl) ?_
    refine jo_pure rfl (pr_idx_imm (i := i) rfl (.head _) rfl Tryd.underlying25 ty_45 (by omega)) ?_
    refine jo_pure rfl (pr_fieldAddr_imm (i := i) rfl (.head _) Tryd.underlying45 rfl ty_9 rfl rfl (by omega)) ?_
    refine jo_pure rfl (pr_load_off_imm (i := i) (o := 0) (dd := ([], 0)) (str ((l.getD i ([], 0)).1)) rfl (.head _) ty_9 rfl (by decide) rfl (by omega) rfl) ?_
    refine jo_pure rfl (pr_slen rfl Tryd.underlying9) ?_
    refine jo_pure rfl (pr_gtrN (m := ((l.getD i ([], 0)).1).length) (n := 100) rfl rfl) ?_
    refine jo_nil ?_
    refine jq_then ?_
    refine jc_cond rfl (fun h2b => ?_) (fun h2b => ?_)
    · have h2 := of_decide_eq_true h2b
      refine jc_seq ?_
      refine jc_region ?_
      refine jo_pure rfl (pr_assign rfl) ?_
      refine jo_nil ?_
      refine jq_then ?_
      refine jc_ret ?_
      refine jq_in_ret ?_
      refine jq_then_ret ?_
      refine jq_then_ret ?_
      refine jq_in_ret ?_
      refine jq_then_ret ?_
      refine j_drop ?_
      exact jq_ret1 rfl () rfl (show (.bool (keepR l) : Value) = (.bool (false)) from congrArg Value.bool (by rw [keepR, keep_miss (dd := ([], 0)) h1.2 h1.1 (by unfold okR; rw [h2b]; rfl)]; rfl)) (fun _ h => h)
    · have h2 := of_decide_eq_false h2b
      refine jc_skip ?_
      refine jq_in_normal ?_
      refine jq_then ?_
      refine jc_region ?_
      refine jo_pure rfl (pr_move rfl) ?_
      refine jo_pure rfl (pr_addN (m := i) (n := 1) rfl rfl (by omega)) ?_
      refine jo_pure rfl (pr_assign rfl) ?_
      refine jo_nil ?_
      refine jq_round' (i + 1) (by (try dsimp only); exact (⟨by omega, all_step (dd := ([], 0)) h1.1 hinv.2 (by unfold okR; rw [h2b]; rfl)⟩)) (by (try dsimp only); exact (by omega)) ⟨rfl, rfl, trivial⟩ (fun _ h => h)
  · have h1 := (fun q => Or.imp of_decide_eq_false of_decide_eq_false (bf_and q)) h1b
    refine jc_exit ?_
    refine jq_then_exit ?_
    refine jq_then_exit ?_
    refine jq_in_hit ?_
    refine jq_then ?_
    refine jc_seq ?_
    refine jc_region ?_
    refine jo_pure rfl (pr_move rfl) ?_
    refine jo_pure rfl (pr_len_imm rfl (.head _) Tryd.underlying25) ?_
    refine jo_pure rfl (pr_leqN (m := l.length) (n := 20) rfl rfl) ?_
    refine jo_pure rfl (pr_assign rfl) ?_
    refine jo_nil ?_
    refine jq_then ?_
    refine jc_ret ?_
    refine j_drop ?_
    exact jq_ret1 rfl () rfl (show (.bool (keepR l) : Value) = (.bool (decide ((l.length : Nat) ≤ 20))) from congrArg Value.bool (by rw [keepR, keep_end hinv.1 h1 hinv.2]; rfl)) (fun _ h => h)
end Go.Proofs.YtikllmfjgpmcnaaDoor
