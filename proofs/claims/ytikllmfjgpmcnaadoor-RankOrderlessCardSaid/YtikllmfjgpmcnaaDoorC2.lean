/-
  Contracts of functions of the program: each returns what a plain function says, for every input within the bounds named. Conditions: the bounds.
-/
import Derived.Test.YtikllmfjgpmcnaaDoorRows
import Derived.Test.YtikllmfjgpmcnaaDoorC1
import Derived.Test.YtikllmfjgpmcnaaDoorExt
namespace Go.Proofs.YtikllmfjgpmcnaaDoor
open Go Go.Sep
set_option linter.unusedSimpArgs false
set_option linter.unusedVariables false

open Go.Plain

theorem cal_49 : Cal Tryd.prog 49 := cal_of Tryd.func49 (by kernel_rfl) rfl
theorem cal_103 : Cal Tryd.prog 103 := cal_of Tryd.func103 (by kernel_rfl) rfl
theorem cal_104 : Cal Tryd.prog 104 := cal_of Tryd.func104 (by kernel_rfl) rfl
theorem cal_108 : Cal Tryd.prog 108 := cal_of Tryd.func108 (by kernel_rfl) rfl
theorem cal_121 : Cal Tryd.prog 121 := cal_of Tryd.func121 (by kernel_rfl) rfl
theorem cal_127 : Cal Tryd.prog 127 := cal_of Tryd.func127 (by kernel_rfl) rfl
theorem ty_4 : TyF Tryd.prog 4 false 1 1 (some (.bool (false))) := ⟨by kernel_rfl, by kernel_rfl⟩
theorem ty_112 : TyF Tryd.prog 112 true 256 256 (some (.agg #[.bool (false), .bool (false), .bool (false), .bool (false), .bool (false), .bool (false), .bool (false), .bool (false), .bool (false), .bool (false), .bool (false), .bool (false), .bool (false), .bool (false), .bool (false), .bool (false), .bool (false), .bool (false), .bool (false), .bool (false), .bool (false), .bool (false), .bool (false), .bool (false), .bool (false), .bool (false), .bool (false), .bool (false), .bool (false), .bool (false), .bool (false), .bool (false), .bool (false), .bool (false), .bool (false), .bool (false), .bool (false), .bool (false), .bool (false), .bool (false), .bool (false), .bool (false), .bool (false), .bool (false), .bool (false), .bool (false), .bool (false), .bool (false), .bool (false), .bool (false), .bool (false), .bool (false), .bool (false), .bool (false), .bool (false), .bool (false), .bool (false), .bool (false), .bool (false), .bool (false), .bool (false), .bool (false), .bool (false), .bool (false), .bool (false), .bool (false), .bool (false), .bool (false), .bool (false), .bool (false), .bool (false), .bool (false), .bool (false), .bool (false), .bool (false), .bool (false), .bool (false), .bool (false), .bool (false), .bool (false), .bool (false), .bool (false), .bool (false), .bool (false), .bool (false), .bool (false), .bool (false), .bool (false), .bool (false), .bool (false), .bool (false), .bool (false), .bool (false), .bool (false), .bool (false), .bool (false), .bool (false), .bool (false), .bool (false), .bool (false), .bool (false), .bool (false), .bool (false), .bool (false), .bool (false), .bool (false), .bool (false), .bool (false), .bool (false), .bool (false), .bool (false), .bool (false), .bool (false), .bool (false), .bool (false), .bool (false), .bool (false), .bool (false), .bool (false), .bool (false), .bool (false), .bool (false), .bool (false), .bool (false), .bool (false), .bool (false), .bool (false), .bool (false), .bool (false), .bool (false), .bool (false), .bool (false), .bool (false), .bool (false), .bool (false), .bool (false), .bool (false), .bool (false), .bool (false), .bool (false), .bool (false), .bool (false), .bool (false), .bool (false), .bool (false), .bool (false), .bool (false), .bool (false), .bool (false), .bool (false), .bool (false), .bool (false), .bool (false), .bool (false), .bool (false), .bool (false), .bool (false), .bool (false), .bool (false), .bool (false), .bool (false), .bool (false), .bool (false), .bool (false), .bool (false), .bool (false), .bool (false), .bool (false), .bool (false), .bool (false), .bool (false), .bool (false), .bool (false), .bool (false), .bool (false), .bool (false), .bool (false), .bool (false), .bool (false), .bool (false), .bool (false), .bool (false), .bool (false), .bool (false), .bool (false), .bool (false), .bool (false), .bool (false), .bool (false), .bool (false), .bool (false), .bool (false), .bool (false), .bool (false), .bool (false), .bool (false), .bool (false), .bool (false), .bool (false), .bool (false), .bool (false), .bool (false), .bool (false), .bool (false), .bool (false), .bool (false), .bool (false), .bool (false), .bool (false), .bool (false), .bool (false), .bool (false), .bool (false), .bool (false), .bool (false), .bool (false), .bool (false), .bool (false), .bool (false), .bool (false), .bool (false), .bool (false), .bool (false), .bool (false), .bool (false), .bool (false), .bool (false), .bool (false), .bool (false), .bool (false), .bool (false), .bool (false), .bool (false), .bool (false), .bool (false), .bool (false), .bool (false), .bool (false), .bool (false), .bool (false), .bool (false), .bool (false), .bool (false), .bool (false), .bool (false), .bool (false), .bool (false), .bool (false), .bool (false), .bool (false), .bool (false), .bool (false), .bool (false), .bool (false), .bool (false), .bool (false)])) := ⟨by kernel_rfl, by kernel_rfl⟩

theorem c_asciiSet_contains (set : List (Bool)) (setg : Nat) (c : UInt8) (hl : set.length = 256) : Con Tryd.prog 121 #[.pointer (some ⟨setg, 0, none⟩), byte (c)] [.ibox setg 112 ((set).flatMap (enc .bool))] (fun _ : Unit => .bool (set.getD c.toNat false)) (fun _ => []) := by
  refine con_of_J (args := [.pointer (some ⟨setg, 0, none⟩), byte (c)]) (n := 10) Tryd.func121 rfl (Nat.le_of_ble_eq_true rfl) rfl (fun w0 I0 m0 => ?_)
  show J _ [(0, .pointer (some ⟨setg, 0, none⟩)), (1, byte (c))] [.ibox setg 112 ((set).flatMap (enc .bool))] _
  refine jc_seq ?_
  refine jc_region ?_
  refine jo_pure rfl (pr_assign rfl) ?_
  refine jo_nil ?_
  refine jq_then ?_
  refine jc_seq ?_
  refine jc_region ?_
  refine jo_pure rfl (pr_move rfl) ?_
  refine jo_pure rfl (pr_move rfl) ?_
  refine jo_pure rfl (pr_nilCheck rfl) ?_
  refine jo_pure rfl (pr_idx_arr (i := c.toNat) (c.toNat) rfl rfl Tryd.underlying112 ty_4 (by have := c.toNat_lt; omega) (by first | rfl | (simp only [Nat.zero_add, Nat.mul_one]))) ?_
  refine jo_pure rfl (pr_load_iarr (i := c.toNat) (.bool (set.getD c.toNat false)) rfl ty_4 rfl (.head _) (by have := c.toNat_lt; omega) (by first | rfl | exact Nat.mul_one _) rfl) ?_
  refine jo_pure rfl (pr_assign rfl) ?_
  refine jo_nil ?_
  refine jq_then ?_
  refine jc_ret ?_
  refine j_drop ?_
  exact jq_ret1 rfl () rfl (show (.bool (set.getD c.toNat false) : Value) = (.bool (set.getD c.toNat false)) from rfl) (fun _ h => h)

theorem c_strings_makeASCIISet (s : List UInt8) (hs : s.length ≤ 1000000) (hc : s.all (fun c => decide (c < 128)) = true) : Con Tryd.prog 103 #[str (s)] [] (fun _ : Unit => .tuple #[.agg ((setOf s).flatMap (enc .bool)).toArray, .bool (true)]) (fun _ => []) := by
  refine con_of_J (args := [str (s)]) (n := 21) Tryd.func103 rfl (Nat.le_of_ble_eq_true rfl) rfl (fun w0 I0 m0 => ?_)
  show J _ [(0, str (s))] [] _
  refine jc_seq ?_
  refine jc_region ?_
  refine jo_alloc_arr (t := .bool) ty_112 (List.replicate 256 false) (by kernel_rfl) rfl (by rw [List.length_replicate]; simp [maxLen]) rfl (fun b1 => ?_)
  refine jo_pure rfl (pr_assign rfl) ?_
  refine jo_nil ?_
  refine jq_then ?_
  refine jc_seq ?_
  refine jc_seq ?_
  refine jc_region ?_
  refine jo_pure rfl (pr_assign rfl) ?_
  refine jo_nil ?_
  refine jq_then ?_
  refine jc_block ?_
  refine jc_loop (fun (i : Nat) => [(0, str (s)), (2, .pointer (some ⟨b1, 0, none⟩)), (4, .int .i64 ((i : Nat) : Int))]) (fun (i : Nat) => [.rowg b1 ((List.replicate 256 false).length) 112 .bool (setOf (s.take i))]) (fun (i : Nat) => i ≤ s.length) (fun (i : Nat) => s.length - i) 0 (Nat.zero_le _) ⟨rfl, rfl, rfl, trivial⟩ (fun _ h => h) (fun i hinv => ?_)
  refine jc_seq ?_
  refine jc_seq ?_
  refine jc_region ?_
  refine jo_pure rfl (pr_move rfl) ?_
  refine jo_pure rfl (pr_move rfl) ?_
  refine jo_pure rfl (pr_slen rfl Tryd.underlying9) ?_
  refine jo_pure rfl (pr_lssN (m := i) (n := s.length) rfl rfl) ?_
  refine jo_nil ?_
  refine jq_then ?_
  refine jc_cond rfl (fun h1b => ?_) (fun h1b => ?_)
  · have h1 := of_decide_eq_true h1b
    refine jc_skip ?_
    refine jq_then ?_
    refine jc_seq ?_
    refine jc_block ?_
    refine jc_seq ?_
    refine jc_region ?_
    refine jo_pure rfl (pr_move rfl) ?_
    refine jo_pure rfl (pr_move rfl) ?_
    refine jo_pure rfl (pr_sindex (i := i) rfl rfl Tryd.underlying9 (by omega)) ?_
    refine jo_pure rfl (pr_assign rfl) ?_
    refine jo_nil ?_
    refine jq_then ?_
    refine jc_seq ?_
    refine jc_seq ?_
    refine jc_region ?_
    refine jo_pure rfl (pr_move rfl) ?_
    refine jo_pure rfl (pr_bgeq (n := 128) rfl rfl) ?_
    refine jo_nil ?_
    refine jq_then ?_
    refine jc_cond rfl (fun h2b => ?_) (fun h2b => ?_)
    · have h2 := of_decide_eq_true h2b
      exact absurd h2 (by rw [getD_get h1]; simpa using List.all_eq_true.1 hc _ (List.getElem_mem h1))
    · have h2 := of_decide_eq_false h2b
      refine jc_skip ?_
      refine jq_then ?_
      refine jc_region ?_
      refine jo_pure rfl (pr_move rfl) ?_
      refine jo_pure rfl (pr_idx_arr (i := (s.getD i 0).toNat) ((s.getD i 0).toNat) rfl rfl Tryd.underlying112 ty_4 (by have := (s.getD i 0).toNat_lt; omega) (by first | rfl | (simp only [Nat.zero_add, Nat.mul_one]))) ?_
      refine jo_store_g (i := (s.getD i 0).toNat) (true) rfl rfl ty_4 rfl (by rw [setOf_len]; have := (s.getD i 0).toNat_lt; omega) (by first | rfl | exact Nat.mul_one _) rfl ?_
      refine jo_nil ?_
      refine jq_in_normal ?_
      refine jq_then ?_
      refine jc_region ?_
      refine jo_pure rfl (pr_move rfl) ?_
      refine jo_pure rfl (pr_addN (m := i) (n := 1) rfl rfl (by omega)) ?_
      refine jo_pure rfl (pr_assign rfl) ?_
      refine jo_nil ?_
      refine jq_round' (i + 1) (by omega) (by omega) ⟨rfl, rfl, rfl, trivial⟩ (fun _ h => by rw [← setOf_step (by omega)]; exact h)
  · have h1 := of_decide_eq_false h1b
    refine jc_exit ?_
    refine jq_then_exit ?_
    refine jq_then_exit ?_
    refine jq_in_hit ?_
    refine jq_then ?_
    refine jc_seq ?_
    refine jc_region ?_
    refine jo_pure rfl (pr_load_arr rfl ty_112 rfl (.head _) (by first | rfl | exact (setOf_len _).trans List.length_replicate.symm) (by first | (rw [setOf_len]; rfl) | (rw [List.length_replicate]; rfl))) ?_
    refine jo_store_arr (ys := setOf (s.take i)) rfl rfl ty_112 rfl (by first | rfl | exact (setOf_len _).trans List.length_replicate.symm) (by first | rfl | exact (setOf_len _).trans List.length_replicate.symm) (by first | (rw [setOf_len]; rfl) | (rw [List.length_replicate]; rfl)) ?_
    refine jo_pure rfl (pr_assign rfl) ?_
    refine jo_nil ?_
    refine jq_then ?_
    refine jc_ret ?_
    exact jq_rets (rs := [.cell 2 112, .tmp 3]) (vs := [.agg ((setOf (s.take i)).flatMap (enc .bool)).toArray, .bool (true)]) rfl () ⟨resV_arr (t := .bool) rfl ty_112 rfl (.head _) (by first | rfl | exact (setOf_len _).trans List.length_replicate.symm) (by first | (rw [setOf_len]; rfl) | (rw [List.length_replicate]; rfl)), resV_tmp rfl, trivial⟩ rfl (show (.tuple #[.agg ((setOf s).flatMap (enc .bool)).toArray, .bool (true)] : Value) = (.tuple #[.agg ((setOf (s.take i)).flatMap (enc .bool)).toArray, .bool (true)]) from by rw [List.take_of_length_le (by omega)]) (fun w h => (fun h => h) (Mem.front (As := []) h))

theorem c_strings_trimLeftASCII (s : List UInt8) (set : List (Bool)) (setg : Nat) (hs : s.length ≤ 1000000) (hl : set.length = 256) : Con Tryd.prog 127 #[str (s), .pointer (some ⟨setg, 0, none⟩)] [.ibox setg 112 ((set).flatMap (enc .bool))] (fun _ : Unit => str (trimL (fun x : UInt8 => set.getD x.toNat false) s)) (fun _ => []) := by
  refine con_of_J (args := [str (s), .pointer (some ⟨setg, 0, none⟩)]) (n := 16) Tryd.func127 rfl (Nat.le_of_ble_eq_true rfl) rfl (fun w0 I0 m0 => ?_)
  show J _ [(0, str (s)), (1, .pointer (some ⟨setg, 0, none⟩))] [.ibox setg 112 ((set).flatMap (enc .bool))] _
  refine jc_seq ?_
  refine jc_region ?_
  refine jo_pure rfl (pr_assign rfl) ?_
  refine jo_nil ?_
  refine jq_then ?_
  refine jc_seq ?_
  refine jc_block ?_
  refine jc_loop (fun (t : List UInt8) => [(0, str (t)), (1, .pointer (some ⟨setg, 0, none⟩)), (4, str ([]))]) (fun (t : List UInt8) => [.ibox setg 112 ((set).flatMap (enc .bool))]) (fun (t : List UInt8) => trimL (fun x : UInt8 => set.getD x.toNat false) t = trimL (fun x : UInt8 => set.getD x.toNat false) s ∧ t.length ≤ s.length) (fun (t : List UInt8) => t.length) s (⟨rfl, Nat.le_refl _⟩) ⟨rfl, rfl, rfl, trivial⟩ (fun _ h => h) (fun t hinv => ?_)
  refine jc_seq ?_
  refine jc_seq ?_
  refine jc_region ?_
  refine jo_pure rfl (pr_move rfl) ?_
  refine jo_pure rfl (pr_slen rfl Tryd.underlying9) ?_
  refine jo_pure rfl (pr_gtrN (m := t.length) (n := 0) rfl rfl) ?_
  refine jo_nil ?_
  refine jq_then ?_
  refine jc_cond rfl (fun h1b => ?_) (fun h1b => ?_)
  · have h1 := of_decide_eq_true h1b
    refine jc_skip ?_
    refine jq_then ?_
    refine jc_block ?_
    refine jc_seq ?_
    refine jc_seq ?_
    refine jc_region ?_
    refine jo_pure rfl (pr_move rfl) ?_
    refine jo_pure rfl (pr_move rfl) ?_
    refine jo_pure rfl (pr_sindex (i := 0) rfl rfl Tryd.underlying9 (by omega)) ?_
    refine jo_callp cal_121 (c_asciiSet_contains set setg (t.getD 0 0) (by omega)) ⟨rfl, rfl, trivial⟩ rfl (⟨⟨rfl, .head _⟩, trivial⟩) (fun _ => ?_)
    refine jo_pure rfl (pr_not rfl) ?_
    refine jo_nil ?_
    refine jq_then ?_
    refine jc_cond rfl (fun h2b => ?_) (fun h2b => ?_)
    · have h2 := (fun q => id (bt_not q)) h2b
      refine jc_exit ?_
      refine jq_then_exit ?_
      refine jq_in_miss rfl ?_
      refine jq_then_exit ?_
      refine jq_in_hit ?_
      refine jq_then ?_
      refine jc_seq ?_
      refine jc_region ?_
      refine jo_pure rfl (pr_move rfl) ?_
      refine jo_pure rfl (pr_assign rfl) ?_
      refine jo_nil ?_
      refine jq_then ?_
      refine jc_ret ?_
      refine j_drop ?_
      exact jq_ret1 rfl () rfl (show (str (trimL (fun x : UInt8 => set.getD x.toNat false) s) : Value) = (str (t)) from congrArg str (by rw [← hinv.1, trimL_end (p := (fun x : UInt8 => set.getD x.toNat false)) (s := t) (.inr (by simpa using h2))])) (fun _ h => h)
    · have h2 := (fun q => id (bf_not q)) h2b
      refine jc_skip ?_
      refine jq_then ?_
      refine jc_region ?_
      refine jo_pure rfl (pr_move rfl) ?_
      refine jo_pure rfl (pr_sslice_lo (i := 1) rfl rfl Tryd.underlying9 (by omega)) ?_
      refine jo_pure rfl (pr_assign rfl) ?_
      refine jo_nil ?_
      refine jq_in_normal ?_
      refine jq_round' (t.drop 1) (⟨(trimL_step h1 (by simpa using h2)).trans hinv.1, by simp; omega⟩) (by simp; omega) ⟨rfl, rfl, rfl, trivial⟩ (fun _ h => h)
  · have h1 := of_decide_eq_false h1b
    refine jc_exit ?_
    refine jq_then_exit ?_
    refine jq_then_exit ?_
    refine jq_in_hit ?_
    refine jq_then ?_
    refine jc_seq ?_
    refine jc_region ?_
    refine jo_pure rfl (pr_move rfl) ?_
    refine jo_pure rfl (pr_assign rfl) ?_
    refine jo_nil ?_
    refine jq_then ?_
    refine jc_ret ?_
    refine j_drop ?_
    exact jq_ret1 rfl () rfl (show (str (trimL (fun x : UInt8 => set.getD x.toNat false) s) : Value) = (str (t)) from congrArg str (by rw [← hinv.1, trimL_end (p := (fun x : UInt8 => set.getD x.toNat false)) (s := t) (.inl (by omega))])) (fun _ h => h)

theorem c_strings_trimRightASCII (s : List UInt8) (set : List (Bool)) (setg : Nat) (hs : s.length ≤ 1000000) (hl : set.length = 256) : Con Tryd.prog 104 #[str (s), .pointer (some ⟨setg, 0, none⟩)] [.ibox setg 112 ((set).flatMap (enc .bool))] (fun _ : Unit => str (trimR (fun x : UInt8 => set.getD x.toNat false) s)) (fun _ => []) := by
  refine con_of_J (args := [str (s), .pointer (some ⟨setg, 0, none⟩)]) (n := 22) Tryd.func104 rfl (Nat.le_of_ble_eq_true rfl) rfl (fun w0 I0 m0 => ?_)
  show J _ [(0, str (s)), (1, .pointer (some ⟨setg, 0, none⟩))] [.ibox setg 112 ((set).flatMap (enc .bool))] _
  refine jc_seq ?_
  refine jc_region ?_
  refine jo_pure rfl (pr_assign rfl) ?_
  refine jo_nil ?_
  refine jq_then ?_
  refine jc_seq ?_
  refine jc_block ?_
  refine jc_loop (fun (t : List UInt8) => [(0, str (t)), (1, .pointer (some ⟨setg, 0, none⟩)), (4, str ([]))]) (fun (t : List UInt8) => [.ibox setg 112 ((set).flatMap (enc .bool))]) (fun (t : List UInt8) => trimR (fun x : UInt8 => set.getD x.toNat false) t = trimR (fun x : UInt8 => set.getD x.toNat false) s ∧ t.length ≤ s.length) (fun (t : List UInt8) => t.length) s (⟨rfl, Nat.le_refl _⟩) ⟨rfl, rfl, rfl, trivial⟩ (fun _ h => h) (fun t hinv => ?_)
  refine jc_seq ?_
  refine jc_seq ?_
  refine jc_region ?_
  refine jo_pure rfl (pr_move rfl) ?_
  refine jo_pure rfl (pr_slen rfl Tryd.underlying9) ?_
  refine jo_pure rfl (pr_gtrN (m := t.length) (n := 0) rfl rfl) ?_
  refine jo_nil ?_
  refine jq_then ?_
  refine jc_cond rfl (fun h1b => ?_) (fun h1b => ?_)
  · have h1 := of_decide_eq_true h1b
    refine jc_skip ?_
    refine jq_then ?_
    refine jc_block ?_
    refine jc_seq ?_
    refine jc_seq ?_
    refine jc_region ?_
    refine jo_pure rfl (pr_move rfl) ?_
    refine jo_pure rfl (pr_move rfl) ?_
    refine jo_pure rfl (pr_move rfl) ?_
    refine jo_pure rfl (pr_slen rfl Tryd.underlying9) ?_
    refine jo_pure rfl (pr_subN (m := t.length) (n := 1) rfl rfl (by omega) (by omega)) ?_
    refine jo_pure rfl (pr_sindex (i := t.length - 1) rfl rfl Tryd.underlying9 (by omega)) ?_
    refine jo_callp cal_121 (c_asciiSet_contains set setg (t.getD (t.length - 1) 0) (by omega)) ⟨rfl, rfl, trivial⟩ rfl (⟨⟨rfl, .head _⟩, trivial⟩) (fun _ => ?_)
    refine jo_pure rfl (pr_not rfl) ?_
    refine jo_nil ?_
    refine jq_then ?_
    refine jc_cond rfl (fun h2b => ?_) (fun h2b => ?_)
    · have h2 := (fun q => id (bt_not q)) h2b
      refine jc_exit ?_
      refine jq_then_exit ?_
      refine jq_in_miss rfl ?_
      refine jq_then_exit ?_
      refine jq_in_hit ?_
      refine jq_then ?_
      refine jc_seq ?_
      refine jc_region ?_
      refine jo_pure rfl (pr_move rfl) ?_
      refine jo_pure rfl (pr_assign rfl) ?_
      refine jo_nil ?_
      refine jq_then ?_
      refine jc_ret ?_
      refine j_drop ?_
      exact jq_ret1 rfl () rfl (show (str (trimR (fun x : UInt8 => set.getD x.toNat false) s) : Value) = (str (t)) from congrArg str (by rw [← hinv.1, trimR_end (p := (fun x : UInt8 => set.getD x.toNat false)) (s := t) (.inr (by simpa using h2))])) (fun _ h => h)
    · have h2 := (fun q => id (bf_not q)) h2b
      refine jc_skip ?_
      refine jq_then ?_
      refine jc_region ?_
      refine jo_pure rfl (pr_move rfl) ?_
      refine jo_pure rfl (pr_move rfl) ?_
      refine jo_pure rfl (pr_slen rfl Tryd.underlying9) ?_
      refine jo_pure rfl (pr_subN (m := t.length) (n := 1) rfl rfl (by omega) (by omega)) ?_
      refine jo_pure rfl (pr_sslice_hi (j := t.length - 1) rfl rfl Tryd.underlying9 (by omega)) ?_
      refine jo_pure rfl (pr_assign rfl) ?_
      refine jo_nil ?_
      refine jq_in_normal ?_
      refine jq_round' (t.take (t.length - 1)) (⟨(trimR_step h1 (by simpa using h2)).trans hinv.1, by simp; omega⟩) (by simp; omega) ⟨rfl, rfl, rfl, trivial⟩ (fun _ h => h)
  · have h1 := of_decide_eq_false h1b
    refine jc_exit ?_
    refine jq_then_exit ?_
    refine jq_then_exit ?_
    refine jq_in_hit ?_
    refine jq_then ?_
    refine jc_seq ?_
    refine jc_region ?_
    refine jo_pure rfl (pr_move rfl) ?_
    refine jo_pure rfl (pr_assign rfl) ?_
    refine jo_nil ?_
    refine jq_then ?_
    refine jc_ret ?_
    refine j_drop ?_
    exact jq_ret1 rfl () rfl (show (str (trimR (fun x : UInt8 => set.getD x.toNat false) s) : Value) = (str (t)) from congrArg str (by rw [← hinv.1, trimR_end (p := (fun x : UInt8 => set.getD x.toNat false)) (s := t) (.inl (by omega))])) (fun _ h => h)

theorem c_strings_Trim (s : List UInt8) (cut : List UInt8) (hs : s.length ≤ 1000000) (hcut : cut = [32, 9]) : Con Tryd.prog 108 #[str (s), str (cut)] [] (fun _ : Unit => str (trim s)) (fun _ => []) := by
  refine con_of_J (args := [str (s), str (cut)]) (n := 43) Tryd.func108 rfl (Nat.le_of_ble_eq_true rfl) rfl (fun w0 I0 m0 => ?_)
  show J _ [(0, str (s)), (1, str (cut))] [] _
  refine jc_seq ?_
  refine jc_region ?_
  refine jo_pure rfl (pr_assign rfl) ?_
  refine jo_nil ?_
  refine jq_then ?_
  refine jc_seq ?_
  refine jc_seq ?_
  refine jc_region ?_
  refine jo_pure rfl (pr_move rfl) ?_
  refine jo_pure rfl (pr_seql rfl rfl) ?_
  refine jo_pure rfl (pr_move rfl) ?_
  refine jo_gpure (j := 2) (want := false) rfl rfl rfl rfl (fun hg => pr_move rfl) ?_
  refine jo_gpure (j := 2) (want := false) rfl rfl rfl rfl (fun hg => pr_seql (evg rfl hg) rfl) ?_
  refine jo_pure rfl (pr_pick_or rfl rfl rfl) ?_
  refine jo_nil ?_
  refine jq_then ?_
  refine jc_cond rfl (fun h1b => ?_) (fun h1b => ?_)
  · have h1 := (fun q => Or.imp of_decide_eq_true of_decide_eq_true (bt_or q)) h1b
    refine jc_seq ?_
    refine jc_region ?_
    refine jo_pure rfl (pr_move rfl) ?_
    refine jo_pure rfl (pr_assign rfl) ?_
    refine jo_nil ?_
    refine jq_then ?_
    refine jc_ret ?_
    refine jq_then_ret ?_
    exact jq_ret1 rfl () rfl (show (str (trim s) : Value) = (str (s)) from congrArg str (by rcases h1 with h1 | h1; rw [h1]; rfl; rw [hcut] at h1; cases h1)) (fun _ h => h)
  · have h1 := (fun q => And.imp of_decide_eq_false of_decide_eq_false (bf_or q)) h1b
    refine jc_skip ?_
    refine jq_then ?_
    refine jc_seq ?_
    refine jc_seq ?_
    refine jc_region ?_
    refine jo_pure rfl (pr_move rfl) ?_
    refine jo_pure rfl (pr_slen rfl Tryd.underlying9) ?_
    refine jo_pure rfl (pr_eqlN (m := cut.length) (n := 1) rfl rfl) ?_
    refine jo_pure rfl (pr_move rfl) ?_
    refine jo_gpure (j := 3) (want := true) rfl rfl rfl rfl (fun hg => pr_move rfl) ?_
    refine jo_gpure (j := 3) (want := true) rfl rfl rfl rfl (fun hg => pr_sindex (i := 0) (evg rfl hg) rfl Tryd.underlying9 (by rw [hcut]; decide)) ?_
    refine jo_gpure (j := 3) (want := true) rfl rfl rfl rfl (fun hg => pr_blss (n := 128) (evg rfl hg) rfl) ?_
    refine jo_pure rfl (pr_pick_and rfl rfl rfl) ?_
    refine jo_nil ?_
    refine jq_then ?_
    refine jc_cond rfl (fun h2b => ?_) (fun h2b => ?_)
    · have h2 := (fun q => And.imp of_decide_eq_true of_decide_eq_true (bt_and q)) h2b
      exact absurd h2.1 (by rw [hcut]; decide)
    · have h2 := (fun q => Or.imp of_decide_eq_false of_decide_eq_false (bf_and q)) h2b
      refine jc_skip ?_
      refine jq_then ?_
      refine jc_seq ?_
      refine jc_seq ?_
      refine jc_region ?_
      refine jo_pure rfl (pr_move rfl) ?_
      refine jo_callp cal_103 (c_strings_makeASCIISet cut (by rw [hcut]; decide) (by rw [hcut]; decide)) ⟨rfl, trivial⟩ rfl (trivial) (fun _ => ?_)
      refine jo_pure rfl (pr_move rfl) ?_
      refine jo_pure rfl (pr_extract rfl rfl) ?_
      refine jo_pure rfl (pr_extract rfl rfl) ?_
      refine jo_alloc_arr (t := .bool) ty_112 (List.replicate 256 false) (by kernel_rfl) rfl (by rw [List.length_replicate]; simp [maxLen]) rfl (fun b1 => ?_)
      refine jo_store_arr (ys := setOf cut) rfl rfl ty_112 rfl (by first | rfl | exact (setOf_len _).trans List.length_replicate.symm) (by first | rfl | exact (setOf_len _).trans List.length_replicate.symm) (by first | (rw [setOf_len]; rfl) | (rw [List.length_replicate]; rfl)) ?_
      refine jo_pure rfl (pr_assign rfl) ?_
      refine jo_nil ?_
      refine jq_then ?_
      refine jc_seq ?_
      refine jc_region ?_
      refine jo_pure rfl (pr_move rfl) ?_
      refine jo_nil ?_
      refine jq_then ?_
      refine jc_true rfl (rfl) ?_
      refine jc_seq ?_
      refine jc_region ?_
      refine jo_pure rfl (pr_move rfl) ?_
      refine j_pub_arr rfl (by exact (setOf_len _).trans List.length_replicate.symm) ?_
      refine jo_callp cal_104 (c_strings_trimRightASCII s (setOf cut) b1 (hs) (setOf_len _)) ⟨rfl, rfl, trivial⟩ rfl (⟨⟨rfl, .head _⟩, trivial⟩) (fun _ => ?_)
      refine jo_callp cal_127 (c_strings_trimLeftASCII (trimR (fun x : UInt8 => (setOf cut).getD x.toNat false) s) (setOf cut) b1 (Nat.le_trans (trimR_length _) hs) (setOf_len _)) ⟨rfl, rfl, trivial⟩ rfl (⟨⟨rfl, .head _⟩, trivial⟩) (fun _ => ?_)
      refine jo_pure rfl (pr_assign rfl) ?_
      refine jo_nil ?_
      refine jq_then ?_
      refine jc_ret ?_
      refine jq_then_ret ?_
      refine j_drop ?_
      exact jq_ret1 rfl () rfl (show (str (trim s) : Value) = (str (trimL (fun x : UInt8 => (setOf cut).getD x.toNat false) (trimR (fun x : UInt8 => (setOf cut).getD x.toNat false) s))) from congrArg str (by rw [trim, show blankB = (fun x : UInt8 => (setOf cut).getD x.toNat false) from funext fun c => by rw [hcut, setOf_blank]])) (fun _ h => h)

theorem c_ascii_Trim (s : List UInt8) (hs : s.length ≤ 1000000) : Con Tryd.prog 84 #[str (s)] [] (fun _ : Unit => str (trim s)) (fun _ => []) := by
  refine con_of_J (args := [str (s)]) (n := 5) Tryd.func84 rfl (Nat.le_of_ble_eq_true rfl) rfl (fun w0 I0 m0 => ?_)
  show J _ [(0, str (s))] [] _
  refine jc_seq ?_
  refine jc_region ?_
  refine jo_pure rfl (pr_assign rfl) ?_
  refine jo_nil ?_
  refine jq_then ?_
  refine jc_seq ?_
  refine jc_region ?_
  refine jo_pure rfl (pr_move rfl) ?_
  refine jo_callp cal_108 (c_strings_Trim s [32, 9] (by first | omega | rfl) (by first | omega | rfl)) ⟨rfl, rfl, trivial⟩ rfl (trivial) (fun _ => ?_)
  refine jo_pure rfl (pr_assign rfl) ?_
  refine jo_nil ?_
  refine jq_then ?_
  refine jc_ret ?_
  exact jq_ret1 rfl () rfl (show (str (trim s) : Value) = (str (trim s)) from rfl) (fun _ h => h)

theorem c_ref01_blank (c : UInt8)  : Con Tryd.prog 49 #[byte (c)] [] (fun _ : Unit => .bool (blankB c)) (fun _ => []) := by
  refine con_of_J (args := [byte (c)]) (n := 9) Tryd.func49 rfl (Nat.le_of_ble_eq_true rfl) rfl (fun w0 I0 m0 => ?_)
  show J _ [(0, byte (c))] [] _
  refine jc_seq ?_
  refine jc_region ?_
  refine jo_pure rfl (pr_assign rfl) ?_
  refine jo_nil ?_
  refine jq_then ?_
  refine jc_seq ?_
  refine jc_region ?_
  refine jo_pure rfl (pr_move rfl) ?_
  refine jo_pure rfl (pr_beql (n := 32) rfl rfl) ?_
  refine jo_pure rfl (pr_move rfl) ?_
  refine jo_gpure (j := 2) (want := false) rfl rfl rfl rfl (fun hg => pr_move rfl) ?_
  refine jo_gpure (j := 2) (want := false) rfl rfl rfl rfl (fun hg => pr_beql (n := 9) (evg rfl hg) rfl) ?_
  refine jo_pure rfl (pr_pick_or rfl rfl rfl) ?_
  refine jo_pure rfl (pr_assign rfl) ?_
  refine jo_nil ?_
  refine jq_then ?_
  refine jc_ret ?_
  exact jq_ret1 rfl () rfl (show (.bool (blankB c) : Value) = (.bool ((decide ((c : UInt8) = 32) || decide ((c : UInt8) = 9)))) from rfl) (fun _ h => h)

theorem c_ref01_Trim (s : List UInt8) (hs : s.length ≤ 1000000) : Con Tryd.prog 30 #[str (s)] [] (fun _ : Unit => str (trim s)) (fun _ => []) := by
  refine con_of_J (args := [str (s)]) (n := 30) Tryd.func30 rfl (Nat.le_of_ble_eq_true rfl) rfl (fun w0 I0 m0 => ?_)
  show J _ [(0, str (s))] [] _
  refine jc_seq ?_
  refine jc_region ?_
  refine jo_pure rfl (pr_assign rfl) ?_
  refine jo_nil ?_
  refine jq_then ?_
  refine jc_seq ?_
  refine jc_block ?_
  refine jc_loop (fun (t : List UInt8) => [(0, str (t)), (2, str ([]))]) (fun (t : List UInt8) => []) (fun (t : List UInt8) => trimL blankB t = trimL blankB s ∧ t.length ≤ s.length) (fun (t : List UInt8) => t.length) s (⟨rfl, by omega⟩) ⟨rfl, rfl, trivial⟩ (fun _ h => h) (fun t hinv => ?_)
  refine jc_seq ?_
  refine jc_seq ?_
  refine jc_region ?_
  refine jo_pure rfl (pr_move rfl) ?_
  refine jo_pure rfl (pr_slen rfl Tryd.underlying9) ?_
  refine jo_pure rfl (pr_gtrN (m := t.length) (n := 0) rfl rfl) ?_
  refine jo_pure rfl (pr_move rfl) ?_
  refine jo_gpure (j := 3) (want := true) rfl rfl rfl rfl (fun hg => pr_move rfl) ?_
  refine jo_gpure (j := 3) (want := true) rfl rfl rfl rfl (fun hg => pr_sindex (i := 0) (evg rfl hg) rfl Tryd.underlying9 (by have := of_decide_eq_true (eq_of_beq hg); omega)) ?_
  refine jo_gcall (j := 3) (want := true) rfl rfl rfl cal_49 (fun hg => c_ref01_blank (t.getD 0 0)) (fun hg => ⟨evg rfl hg, trivial⟩) rfl (fun _ => trivial) ?_
  refine jo_pure rfl (pr_pick_and rfl rfl rfl) ?_
  refine jo_nil ?_
  refine jq_then ?_
  refine jc_cond rfl (fun h1b => ?_) (fun h1b => ?_)
  · have h1 := (fun q => And.imp of_decide_eq_true id (bt_and q)) h1b
    refine jc_skip ?_
    refine jq_then ?_
    refine jc_block ?_
    refine jc_region ?_
    refine jo_pure rfl (pr_move rfl) ?_
    refine jo_pure rfl (pr_sslice_lo (i := 1) rfl rfl Tryd.underlying9 (by omega)) ?_
    refine jo_pure rfl (pr_assign rfl) ?_
    refine jo_nil ?_
    refine jq_in_normal ?_
    refine jq_round' (t.drop 1) (⟨(trimL_step h1.1 h1.2).trans hinv.1, by simp; omega⟩) (by simp; omega) ⟨rfl, rfl, trivial⟩ (fun _ h => h)
  · have h1 := (fun q => Or.imp of_decide_eq_false id (bf_and q)) h1b
    refine jc_exit ?_
    refine jq_then_exit ?_
    refine jq_then_exit ?_
    refine jq_in_hit ?_
    refine jq_then ?_
    refine jc_seq ?_
    refine jc_block ?_
    refine jc_loop (fun (u : List UInt8) => [(0, str (u)), (2, str ([])), (3, str (t)), (4, .int .i64 ((t.length : Nat) : Int)), (5, .bool (decide ((0 : Nat) < t.length))), (6, .bool (decide ((0 : Nat) < t.length))), (10, .bool ((decide ((0 : Nat) < t.length) && blankB (t.getD 0 0))))]) (fun (u : List UInt8) => []) (fun (u : List UInt8) => trimR blankB u = trimR blankB t ∧ u.length ≤ s.length) (fun (u : List UInt8) => u.length) t (⟨rfl, by omega⟩) ⟨rfl, rfl, rfl, rfl, rfl, rfl, rfl, trivial⟩ (fun _ h => h) (fun u hinu => ?_)
    refine jc_seq ?_
    refine jc_seq ?_
    refine jc_region ?_
    refine jo_pure rfl (pr_move rfl) ?_
    refine jo_pure rfl (pr_slen rfl Tryd.underlying9) ?_
    refine jo_pure rfl (pr_gtrN (m := u.length) (n := 0) rfl rfl) ?_
    refine jo_pure rfl (pr_move rfl) ?_
    refine jo_gpure (j := 3) (want := true) rfl rfl rfl rfl (fun hg => pr_move rfl) ?_
    refine jo_gpure (j := 3) (want := true) rfl rfl rfl rfl (fun hg => pr_move rfl) ?_
    refine jo_gpure (j := 3) (want := true) rfl rfl rfl rfl (fun hg => pr_slen (evg rfl hg) Tryd.underlying9) ?_
    refine jo_gpure (j := 3) (want := true) rfl rfl rfl rfl (fun hg => pr_subN (m := u.length) (n := 1) (evg rfl hg) rfl (by first | (have := of_decide_eq_true (eq_of_beq hg); omega) | omega) (by first | (have := of_decide_eq_true (eq_of_beq hg); omega) | omega)) ?_
    refine jo_gpure (j := 3) (want := true) rfl rfl rfl rfl (fun hg => pr_sindex (i := u.length - 1) (evg rfl hg) (evg rfl hg) Tryd.underlying9 (by have := of_decide_eq_true (eq_of_beq hg); omega)) ?_
    refine jo_gcall (j := 3) (want := true) rfl rfl rfl cal_49 (fun hg => c_ref01_blank (u.getD (u.length - 1) 0)) (fun hg => ⟨evg rfl hg, trivial⟩) rfl (fun _ => trivial) ?_
    refine jo_pure rfl (pr_pick_and rfl rfl rfl) ?_
    refine jo_nil ?_
    refine jq_then ?_
    refine jc_cond rfl (fun h2b => ?_) (fun h2b => ?_)
    · have h2 := (fun q => And.imp of_decide_eq_true id (bt_and q)) h2b
      refine jc_skip ?_
      refine jq_then ?_
      refine jc_block ?_
      refine jc_region ?_
      refine jo_pure rfl (pr_move rfl) ?_
      refine jo_pure rfl (pr_move rfl) ?_
      refine jo_pure rfl (pr_slen rfl Tryd.underlying9) ?_
      refine jo_pure rfl (pr_subN (m := u.length) (n := 1) rfl rfl (by first | (have := of_decide_eq_true (eq_of_beq hg); omega) | omega) (by first | (have := of_decide_eq_true (eq_of_beq hg); omega) | omega)) ?_
      refine jo_pure rfl (pr_sslice_hi (j := u.length - 1) rfl rfl Tryd.underlying9 (by omega)) ?_
      refine jo_pure rfl (pr_assign rfl) ?_
      refine jo_nil ?_
      refine jq_in_normal ?_
      refine jq_round' (u.take (u.length - 1)) (⟨(trimR_step h2.1 h2.2).trans hinu.1, by simp; omega⟩) (by simp; omega) ⟨rfl, rfl, rfl, rfl, rfl, rfl, rfl, trivial⟩ (fun _ h => h)
    · have h2 := (fun q => Or.imp of_decide_eq_false id (bf_and q)) h2b
      refine jc_exit ?_
      refine jq_then_exit ?_
      refine jq_then_exit ?_
      refine jq_in_hit ?_
      refine jq_then ?_
      refine jc_seq ?_
      refine jc_region ?_
      refine jo_pure rfl (pr_move rfl) ?_
      refine jo_pure rfl (pr_assign rfl) ?_
      refine jo_nil ?_
      refine jq_then ?_
      refine jc_ret ?_
      exact jq_ret1 rfl () rfl (show (str (trim s) : Value) = (str (u)) from congrArg str (by rw [← trim_alt, ← hinv.1, trimL_end (h1.imp (by omega) (by simp)), ← hinu.1, trimR_end (h2.imp (by omega) (by simp))])) (fun _ h => h)
end Go.Proofs.YtikllmfjgpmcnaaDoor
