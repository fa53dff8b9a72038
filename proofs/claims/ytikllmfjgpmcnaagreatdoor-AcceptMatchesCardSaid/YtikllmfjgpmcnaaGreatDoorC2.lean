/-
  Contracts of functions of the program: each returns what a plain function says, for every input within the bounds named. Conditions: the bounds.
-/
import Derived.Test.YtikllmfjgpmcnaaGreatDoorRows
import Derived.Test.YtikllmfjgpmcnaaGreatDoorC1
import Derived.Test.YtikllmfjgpmcnaaGreatDoorExt
namespace Go.Proofs.YtikllmfjgpmcnaaGreatDoor
open Go Go.Sep
set_option linter.unusedSimpArgs false
set_option linter.unusedVariables false

open Go.Plain

theorem cal_97 : Cal Tryz.prog 97 := cal_of Tryz.func97 (by kernel_rfl) rfl
theorem cal_98 : Cal Tryz.prog 98 := cal_of Tryz.func98 (by kernel_rfl) rfl
theorem cal_102 : Cal Tryz.prog 102 := cal_of Tryz.func102 (by kernel_rfl) rfl
theorem cal_105 : Cal Tryz.prog 105 := cal_of Tryz.func105 (by kernel_rfl) rfl
theorem cal_110 : Cal Tryz.prog 110 := cal_of Tryz.func110 (by kernel_rfl) rfl
theorem cal_116 : Cal Tryz.prog 116 := cal_of Tryz.func116 (by kernel_rfl) rfl
theorem ty_4 : TyF Tryz.prog 4 false 1 1 (some (.bool (false))) := ⟨by kernel_rfl, by kernel_rfl⟩
theorem ty_103 : TyF Tryz.prog 103 true 256 256 (some (.agg #[.bool (false), .bool (false), .bool (false), .bool (false), .bool (false), .bool (false), .bool (false), .bool (false), .bool (false), .bool (false), .bool (false), .bool (false), .bool (false), .bool (false), .bool (false), .bool (false), .bool (false), .bool (false), .bool (false), .bool (false), .bool (false), .bool (false), .bool (false), .bool (false), .bool (false), .bool (false), .bool (false), .bool (false), .bool (false), .bool (false), .bool (false), .bool (false), .bool (false), .bool (false), .bool (false), .bool (false), .bool (false), .bool (false), .bool (false), .bool (false), .bool (false), .bool (false), .bool (false), .bool (false), .bool (false), .bool (false), .bool (false), .bool (false), .bool (false), .bool (false), .bool (false), .bool (false), .bool (false), .bool (false), .bool (false), .bool (false), .bool (false), .bool (false), .bool (false), .bool (false), .bool (false), .bool (false), .bool (false), .bool (false), .bool (false), .bool (false), .bool (false), .bool (false), .bool (false), .bool (false), .bool (false), .bool (false), .bool (false), .bool (false), .bool (false), .bool (false), .bool (false), .bool (false), .bool (false), .bool (false), .bool (false), .bool (false), .bool (false), .bool (false), .bool (false), .bool (false), .bool (false), .bool (false), .bool (false), .bool (false), .bool (false), .bool (false), .bool (false), .bool (false), .bool (false), .bool (false), .bool (false), .bool (false), .bool (false), .bool (false), .bool (false), .bool (false), .bool (false), .bool (false), .bool (false), .bool (false), .bool (false), .bool (false), .bool (false), .bool (false), .bool (false), .bool (false), .bool (false), .bool (false), .bool (false), .bool (false), .bool (false), .bool (false), .bool (false), .bool (false), .bool (false), .bool (false), .bool (false), .bool (false), .bool (false), .bool (false), .bool (false), .bool (false), .bool (false), .bool (false), .bool (false), .bool (false), .bool (false), .bool (false), .bool (false), .bool (false), .bool (false), .bool (false), .bool (false), .bool (false), .bool (false), .bool (false), .bool (false), .bool (false), .bool (false), .bool (false), .bool (false), .bool (false), .bool (false), .bool (false), .bool (false), .bool (false), .bool (false), .bool (false), .bool (false), .bool (false), .bool (false), .bool (false), .bool (false), .bool (false), .bool (false), .bool (false), .bool (false), .bool (false), .bool (false), .bool (false), .bool (false), .bool (false), .bool (false), .bool (false), .bool (false), .bool (false), .bool (false), .bool (false), .bool (false), .bool (false), .bool (false), .bool (false), .bool (false), .bool (false), .bool (false), .bool (false), .bool (false), .bool (false), .bool (false), .bool (false), .bool (false), .bool (false), .bool (false), .bool (false), .bool (false), .bool (false), .bool (false), .bool (false), .bool (false), .bool (false), .bool (false), .bool (false), .bool (false), .bool (false), .bool (false), .bool (false), .bool (false), .bool (false), .bool (false), .bool (false), .bool (false), .bool (false), .bool (false), .bool (false), .bool (false), .bool (false), .bool (false), .bool (false), .bool (false), .bool (false), .bool (false), .bool (false), .bool (false), .bool (false), .bool (false), .bool (false), .bool (false), .bool (false), .bool (false), .bool (false), .bool (false), .bool (false), .bool (false), .bool (false), .bool (false), .bool (false), .bool (false), .bool (false), .bool (false), .bool (false), .bool (false), .bool (false), .bool (false), .bool (false), .bool (false), .bool (false), .bool (false), .bool (false), .bool (false), .bool (false), .bool (false), .bool (false), .bool (false), .bool (false), .bool (false), .bool (false), .bool (false), .bool (false), .bool (false), .bool (false)])) := ⟨by kernel_rfl, by kernel_rfl⟩

theorem c_asciiSet_contains (set : List (Bool)) (setg : Nat) (c : UInt8) (hl : set.length = 256) : Con Tryz.prog 110 #[.pointer (some ⟨setg, 0, none⟩), byte (c)] [.ibox setg 103 ((set).flatMap (enc .bool))] (fun _ : Unit => .bool (set.getD c.toNat false)) (fun _ => []) := by
  refine con_of_J (args := [.pointer (some ⟨setg, 0, none⟩), byte (c)]) (n := 10) Tryz.func110 rfl (Nat.le_of_ble_eq_true rfl) rfl (fun w0 I0 m0 => ?_)
  show J _ [(0, .pointer (some ⟨setg, 0, none⟩)), (1, byte (c))] [.ibox setg 103 ((set).flatMap (enc .bool))] _
  refine jc_seq ?_
  refine jc_region ?_
  refine jo_pure rfl (pr_assign rfl) ?_
  refine jo_nil ?_
  refine jq_then ?_
  refine jc_seq ?_
  refine jc_region ?_
  refine jo_pure rfl (pr_move rfl) ?_
  refine jo_pure rfl (pr_move rfl) ?_
  refine jo_pure rfl (pr_nilCheck rfl) ?_
  refine jo_pure rfl (pr_idx_arr (i := c.toNat) (c.toNat) rfl rfl Tryz.underlying103 ty_4 (by have := c.toNat_lt; omega) (by first | rfl | (simp only [Nat.zero_add, Nat.mul_one]))) ?_
  refine jo_pure rfl (pr_load_iarr (i := c.toNat) (.bool (set.getD c.toNat false)) rfl ty_4 rfl (.head _) (by have := c.toNat_lt; omega) (by first | rfl | exact Nat.mul_one _) rfl) ?_
  refine jo_pure rfl (pr_assign rfl) ?_
  refine jo_nil ?_
  refine jq_then ?_
  refine jc_ret ?_
  refine j_drop ?_
  exact jq_ret1 rfl () rfl (show (.bool (set.getD c.toNat false) : Value) = (.bool (set.getD c.toNat false)) from rfl) (fun _ h => h)

theorem c_strings_makeASCIISet (s : List UInt8) (hs : s.length ≤ 1000000) (hc : s.all (fun c => decide (c < 128)) = true) : Con Tryz.prog 97 #[str (s)] [] (fun _ : Unit => .tuple #[.agg ((setOf s).flatMap (enc .bool)).toArray, .bool (true)]) (fun _ => []) := by
  refine con_of_J (args := [str (s)]) (n := 21) Tryz.func97 rfl (Nat.le_of_ble_eq_true rfl) rfl (fun w0 I0 m0 => ?_)
  show J _ [(0, str (s))] [] _
  refine jc_seq ?_
  refine jc_region ?_
  refine jo_alloc_arr (t := .bool) ty_103 (List.replicate 256 false) (by kernel_rfl) rfl (by rw [List.length_replicate]; simp [maxLen]) rfl (fun b1 => ?_)
  refine jo_pure rfl (pr_assign rfl) ?_
  refine jo_nil ?_
  refine jq_then ?_
  refine jc_seq ?_
  refine jc_seq ?_
  refine jc_region ?_
  refine jo_pure rfl (pr_assign rfl) ?_
  refine jo_nil ?_
  refine jq_then ?_
  refine jc_block ?_
  refine jc_loop (fun (i : Nat) => [(0, str (s)), (2, .pointer (some ⟨b1, 0, none⟩)), (4, .int .i64 ((i : Nat) : Int))]) (fun (i : Nat) => [.rowg b1 ((List.replicate 256 false).length) 103 .bool (setOf (s.take i))]) (fun (i : Nat) => i ≤ s.length) (fun (i : Nat) => s.length - i) 0 (Nat.zero_le _) ⟨rfl, rfl, rfl, trivial⟩ (fun _ h => h) (fun i hinv => ?_)
  refine jc_seq ?_
  refine jc_seq ?_
  refine jc_region ?_
  refine jo_pure rfl (pr_move rfl) ?_
  refine jo_pure rfl (pr_move rfl) ?_
  refine jo_pure rfl (pr_slen rfl Tryz.underlying9) ?_
  refine jo_pure rfl (pr_lssN (m := i) (n := s.length) rfl rfl) ?_
  refine jo_nil ?_
  refine jq_then ?_
  refine jc_cond rfl (fun h1b => ?_) (fun h1b => ?_)
  · have h1 := of_decide_eq_true h1b
    refine jc_skip ?_
    refine jq_then ?_
    refine jc_seq ?_
    refine jc_block ?_
    refine jc_seq ?_
    refine jc_region ?_
    refine jo_pure rfl (pr_move rfl) ?_
    refine jo_pure rfl (pr_move rfl) ?_
    refine jo_pure rfl (pr_sindex (i := i) rfl rfl Tryz.underlying9 (by omega)) ?_
    refine jo_pure rfl (pr_assign rfl) ?_
    refine jo_nil ?_
    refine jq_then ?_
    refine jc_seq ?_
    refine jc_seq ?_
    refine jc_region ?_
    refine jo_pure rfl (pr_move rfl) ?_
    refine jo_pure rfl (pr_bgeq (n := 128) rfl rfl) ?_
    refine jo_nil ?_
    refine jq_then ?_
    refine jc_cond rfl (fun h2b => ?_) (fun h2b => ?_)
    · have h2 := of_decide_eq_true h2b
      exact absurd h2 (by rw [getD_get h1]; simpa using List.all_eq_true.1 hc _ (List.getElem_mem h1))
    · have h2 := of_decide_eq_false h2b
      refine jc_skip ?_
      refine jq_then ?_
      refine jc_region ?_
      refine jo_pure rfl (pr_move rfl) ?_
      refine jo_pure rfl (pr_idx_arr (i := (s.getD i 0).toNat) ((s.getD i 0).toNat) rfl rfl Tryz.underlying103 ty_4 (by have := (s.getD i 0).toNat_lt; omega) (by first | rfl | (simp only [Nat.zero_add, Nat.mul_one]))) ?_
      refine jo_store_g (i := (s.getD i 0).toNat) (true) rfl rfl ty_4 rfl (by rw [setOf_len]; have := (s.getD i 0).toNat_lt; omega) (by first | rfl | exact Nat.mul_one _) rfl ?_
      refine jo_nil ?_
      refine jq_in_normal ?_
      refine jq_then ?_
      refine jc_region ?_
      refine jo_pure rfl (pr_move rfl) ?_
      refine jo_pure rfl (pr_addN (m := i) (n := 1) rfl rfl (by omega)) ?_
      refine jo_pure rfl (pr_assign rfl) ?_
      refine jo_nil ?_
      refine jq_round' (i + 1) (by omega) (by omega) ⟨rfl, rfl, rfl, trivial⟩ (fun _ h => by rw [← setOf_step (by omega)]; exact h)
  · have h1 := of_decide_eq_false h1b
    refine jc_exit ?_
    refine jq_then_exit ?_
    refine jq_then_exit ?_
    refine jq_in_hit ?_
    refine jq_then ?_
    refine jc_seq ?_
    refine jc_region ?_
    refine jo_pure rfl (pr_load_arr rfl ty_103 rfl (.head _) (by first | rfl | exact (setOf_len _).trans List.length_replicate.symm) (by first | (rw [setOf_len]; rfl) | (rw [List.length_replicate]; rfl))) ?_
    refine jo_store_arr (ys := setOf (s.take i)) rfl rfl ty_103 rfl (by first | rfl | exact (setOf_len _).trans List.length_replicate.symm) (by first | rfl | exact (setOf_len _).trans List.length_replicate.symm) (by first | (rw [setOf_len]; rfl) | (rw [List.length_replicate]; rfl)) ?_
    refine jo_pure rfl (pr_assign rfl) ?_
    refine jo_nil ?_
    refine jq_then ?_
    refine jc_ret ?_
    exact jq_rets (rs := [.cell 2 103, .tmp 3]) (vs := [.agg ((setOf (s.take i)).flatMap (enc .bool)).toArray, .bool (true)]) rfl () ⟨resV_arr (t := .bool) rfl ty_103 rfl (.head _) (by first | rfl | exact (setOf_len _).trans List.length_replicate.symm) (by first | (rw [setOf_len]; rfl) | (rw [List.length_replicate]; rfl)), resV_tmp rfl, trivial⟩ rfl (show (.tuple #[.agg ((setOf s).flatMap (enc .bool)).toArray, .bool (true)] : Value) = (.tuple #[.agg ((setOf (s.take i)).flatMap (enc .bool)).toArray, .bool (true)]) from by rw [List.take_of_length_le (by omega)]) (fun w h => (fun h => h) (Mem.front (As := []) h))

theorem c_strings_trimLeftASCII (s : List UInt8) (set : List (Bool)) (setg : Nat) (hs : s.length ≤ 1000000) (hl : set.length = 256) : Con Tryz.prog 116 #[str (s), .pointer (some ⟨setg, 0, none⟩)] [.ibox setg 103 ((set).flatMap (enc .bool))] (fun _ : Unit => str (trimL (fun x : UInt8 => set.getD x.toNat false) s)) (fun _ => []) := by
  refine con_of_J (args := [str (s), .pointer (some ⟨setg, 0, none⟩)]) (n := 16) Tryz.func116 rfl (Nat.le_of_ble_eq_true rfl) rfl (fun w0 I0 m0 => ?_)
  show J _ [(0, str (s)), (1, .pointer (some ⟨setg, 0, none⟩))] [.ibox setg 103 ((set).flatMap (enc .bool))] _
  refine jc_seq ?_
  refine jc_region ?_
  refine jo_pure rfl (pr_assign rfl) ?_
  refine jo_nil ?_
  refine jq_then ?_
  refine jc_seq ?_
  refine jc_block ?_
  refine jc_loop (fun (t : List UInt8) => [(0, str (t)), (1, .pointer (some ⟨setg, 0, none⟩)), (4, str ([]))]) (fun (t : List UInt8) => [.ibox setg 103 ((set).flatMap (enc .bool))]) (fun (t : List UInt8) => trimL (fun x : UInt8 => set.getD x.toNat false) t = trimL (fun x : UInt8 => set.getD x.toNat false) s ∧ t.length ≤ s.length) (fun (t : List UInt8) => t.length) s (⟨rfl, Nat.le_refl _⟩) ⟨rfl, rfl, rfl, trivial⟩ (fun _ h => h) (fun t hinv => ?_)
  refine jc_seq ?_
  refine jc_seq ?_
  refine jc_region ?_
  refine jo_pure rfl (pr_move rfl) ?_
  refine jo_pure rfl (pr_slen rfl Tryz.underlying9) ?_
  refine jo_pure rfl (pr_gtrN (m := t.length) (n := 0) rfl rfl) ?_
  refine jo_nil ?_
  refine jq_then ?_
  refine jc_cond rfl (fun h1b => ?_) (fun h1b => ?_)
  · have h1 := of_decide_eq_true h1b
    refine jc_skip ?_
    refine jq_then ?_
    refine jc_block ?_
    refine jc_seq ?_
    refine jc_seq ?_
    refine jc_region ?_
    refine jo_pure rfl (pr_move rfl) ?_
    refine jo_pure rfl (pr_move rfl) ?_
    refine jo_pure rfl (pr_sindex (i := 0) rfl rfl Tryz.underlying9 (by omega)) ?_
    refine jo_callp cal_110 (c_asciiSet_contains set setg (t.getD 0 0) (by omega)) ⟨rfl, rfl, trivial⟩ rfl (⟨⟨rfl, .head _⟩, trivial⟩) (fun _ => ?_)
    refine jo_pure rfl (pr_not rfl) ?_
    refine jo_nil ?_
    refine jq_then ?_
    refine jc_cond rfl (fun h2b => ?_) (fun h2b => ?_)
    · have h2 := (fun q => id (bt_not q)) h2b
      refine jc_exit ?_
      refine jq_then_exit ?_
      refine jq_in_miss rfl ?_
      refine jq_then_exit ?_
      refine jq_in_hit ?_
      refine jq_then ?_
      refine jc_seq ?_
      refine jc_region ?_
      refine jo_pure rfl (pr_move rfl) ?_
      refine jo_pure rfl (pr_assign rfl) ?_
      refine jo_nil ?_
      refine jq_then ?_
      refine jc_ret ?_
      refine j_drop ?_
      exact jq_ret1 rfl () rfl (show (str (trimL (fun x : UInt8 => set.getD x.toNat false) s) : Value) = (str (t)) from congrArg str (by rw [← hinv.1, trimL_end (p := (fun x : UInt8 => set.getD x.toNat false)) (s := t) (.inr (by simpa using h2))])) (fun _ h => h)
    · have h2 := (fun q => id (bf_not q)) h2b
      refine jc_skip ?_
      refine jq_then ?_
      refine jc_region ?_
      refine jo_pure rfl (pr_move rfl) ?_
      refine jo_pure rfl (pr_sslice_lo (i := 1) rfl rfl Tryz.underlying9 (by omega)) ?_
      refine jo_pure rfl (pr_assign rfl) ?_
      refine jo_nil ?_
      refine jq_in_normal ?_
      refine jq_round' (t.drop 1) (⟨(trimL_step h1 (by simpa using h2)).trans hinv.1, by simp; omega⟩) (by simp; omega) ⟨rfl, rfl, rfl, trivial⟩ (fun _ h => h)
  · have h1 := of_decide_eq_false h1b
    refine jc_exit ?_
    refine jq_then_exit ?_
    refine jq_then_exit ?_
    refine jq_in_hit ?_
    refine jq_then ?_
    refine jc_seq ?_
    refine jc_region ?_
    refine jo_pure rfl (pr_move rfl) ?_
    refine jo_pure rfl (pr_assign rfl) ?_
    refine jo_nil ?_
    refine jq_then ?_
    refine jc_ret ?_
    refine j_drop ?_
    exact jq_ret1 rfl () rfl (show (str (trimL (fun x : UInt8 => set.getD x.toNat false) s) : Value) = (str (t)) from congrArg str (by rw [← hinv.1, trimL_end (p := (fun x : UInt8 => set.getD x.toNat false)) (s := t) (.inl (by omega))])) (fun _ h => h)

theorem c_strings_trimRightASCII (s : List UInt8) (set : List (Bool)) (setg : Nat) (hs : s.length ≤ 1000000) (hl : set.length = 256) : Con Tryz.prog 98 #[str (s), .pointer (some ⟨setg, 0, none⟩)] [.ibox setg 103 ((set).flatMap (enc .bool))] (fun _ : Unit => str (trimR (fun x : UInt8 => set.getD x.toNat false) s)) (fun _ => []) := by
  refine con_of_J (args := [str (s), .pointer (some ⟨setg, 0, none⟩)]) (n := 22) Tryz.func98 rfl (Nat.le_of_ble_eq_true rfl) rfl (fun w0 I0 m0 => ?_)
  show J _ [(0, str (s)), (1, .pointer (some ⟨setg, 0, none⟩))] [.ibox setg 103 ((set).flatMap (enc .bool))] _
  refine jc_seq ?_
  refine jc_region ?_
  refine jo_pure rfl (pr_assign rfl) ?_
  refine jo_nil ?_
  refine jq_then ?_
  refine jc_seq ?_
  refine jc_block ?_
  refine jc_loop (fun (t : List UInt8) => [(0, str (t)), (1, .pointer (some ⟨setg, 0, none⟩)), (4, str ([]))]) (fun (t : List UInt8) => [.ibox setg 103 ((set).flatMap (enc .bool))]) (fun (t : List UInt8) => trimR (fun x : UInt8 => set.getD x.toNat false) t = trimR (fun x : UInt8 => set.getD x.toNat false) s ∧ t.length ≤ s.length) (fun (t : List UInt8) => t.length) s (⟨rfl, Nat.le_refl _⟩) ⟨rfl, rfl, rfl, trivial⟩ (fun _ h => h) (fun t hinv => ?_)
  refine jc_seq ?_
  refine jc_seq ?_
  refine jc_region ?_
  refine jo_pure rfl (pr_move rfl) ?_
  refine jo_pure rfl (pr_slen rfl Tryz.underlying9) ?_
  refine jo_pure rfl (pr_gtrN (m := t.length) (n := 0) rfl rfl) ?_
  refine jo_nil ?_
  refine jq_then ?_
  refine jc_cond rfl (fun h1b => ?_) (fun h1b => ?_)
  · have h1 := of_decide_eq_true h1b
    refine jc_skip ?_
    refine jq_then ?_
    refine jc_block ?_
    refine jc_seq ?_
    refine jc_seq ?_
    refine jc_region ?_
    refine jo_pure rfl (pr_move rfl) ?_
    refine jo_pure rfl (pr_move rfl) ?_
    refine jo_pure rfl (pr_move rfl) ?_
    refine jo_pure rfl (pr_slen rfl Tryz.underlying9) ?_
    refine jo_pure rfl (pr_subN (m := t.length) (n := 1) rfl rfl (by omega) (by omega)) ?_
    refine jo_pure rfl (pr_sindex (i := t.length - 1) rfl rfl Tryz.underlying9 (by omega)) ?_
    refine jo_callp cal_110 (c_asciiSet_contains set setg (t.getD (t.length - 1) 0) (by omega)) ⟨rfl, rfl, trivial⟩ rfl (⟨⟨rfl, .head _⟩, trivial⟩) (fun _ => ?_)
    refine jo_pure rfl (pr_not rfl) ?_
    refine jo_nil ?_
    refine jq_then ?_
    refine jc_cond rfl (fun h2b => ?_) (fun h2b => ?_)
    · have h2 := (fun q => id (bt_not q)) h2b
      refine jc_exit ?_
      refine jq_then_exit ?_
      refine jq_in_miss rfl ?_
      refine jq_then_exit ?_
      refine jq_in_hit ?_
      refine jq_then ?_
      refine jc_seq ?_
      refine jc_region ?_
      refine jo_pure rfl (pr_move rfl) ?_
      refine jo_pure rfl (pr_assign rfl) ?_
      refine jo_nil ?_
      refine jq_then ?_
      refine jc_ret ?_
      refine j_drop ?_
      exact jq_ret1 rfl () rfl (show (str (trimR (fun x : UInt8 => set.getD x.toNat false) s) : Value) = (str (t)) from congrArg str (by rw [← hinv.1, trimR_end (p := (fun x : UInt8 => set.getD x.toNat false)) (s := t) (.inr (by simpa using h2))])) (fun _ h => h)
    · have h2 := (fun q => id (bf_not q)) h2b
      refine jc_skip ?_
      refine jq_then ?_
      refine jc_region ?_
      refine jo_pure rfl (pr_move rfl) ?_
      refine jo_pure rfl (pr_move rfl) ?_
      refine jo_pure rfl (pr_slen rfl Tryz.underlying9) ?_
      refine jo_pure rfl (pr_subN (m := t.length) (n := 1) rfl rfl (by omega) (by omega)) ?_
      refine jo_pure rfl (pr_sslice_hi (j := t.length - 1) rfl rfl Tryz.underlying9 (by omega)) ?_
      refine jo_pure rfl (pr_assign rfl) ?_
      refine jo_nil ?_
      refine jq_in_normal ?_
      refine jq_round' (t.take (t.length - 1)) (⟨(trimR_step h1 (by simpa using h2)).trans hinv.1, by simp; omega⟩) (by simp; omega) ⟨rfl, rfl, rfl, trivial⟩ (fun _ h => h)
  · have h1 := of_decide_eq_false h1b
    refine jc_exit ?_
    refine jq_then_exit ?_
    refine jq_then_exit ?_
    refine jq_in_hit ?_
    refine jq_then ?_
    refine jc_seq ?_
    refine jc_region ?_
    refine jo_pure rfl (pr_move rfl) ?_
    refine jo_pure rfl (pr_assign rfl) ?_
    refine jo_nil ?_
    refine jq_then ?_
    refine jc_ret ?_
    refine j_drop ?_
    exact jq_ret1 rfl () rfl (show (str (trimR (fun x : UInt8 => set.getD x.toNat false) s) : Value) = (str (t)) from congrArg str (by rw [← hinv.1, trimR_end (p := (fun x : UInt8 => set.getD x.toNat false)) (s := t) (.inl (by omega))])) (fun _ h => h)

theorem c_strings_Trim (s : List UInt8) (cut : List UInt8) (hs : s.length ≤ 1000000) (hcut : cut = [32, 9]) : Con Tryz.prog 102 #[str (s), str (cut)] [] (fun _ : Unit => str (trim s)) (fun _ => []) := by
  refine con_of_J (args := [str (s), str (cut)]) (n := 43) Tryz.func102 rfl (Nat.le_of_ble_eq_true rfl) rfl (fun w0 I0 m0 => ?_)
  show J _ [(0, str (s)), (1, str (cut))] [] _
  refine jc_seq ?_
  refine jc_region ?_
  refine jo_pure rfl (pr_assign rfl) ?_
  refine jo_nil ?_
  refine jq_then ?_
  refine jc_seq ?_
  refine jc_seq ?_
  refine jc_region ?_
  refine jo_pure rfl (pr_move rfl) ?_
  refine jo_pure rfl (pr_seql rfl rfl) ?_
  refine jo_pure rfl (pr_move rfl) ?_
  refine jo_gpure (j := 2) (want := false) rfl rfl rfl rfl (fun hg => pr_move rfl) ?_
  refine jo_gpure (j := 2) (want := false) rfl rfl rfl rfl (fun hg => pr_seql (evg rfl hg) rfl) ?_
  refine jo_pure rfl (pr_pick_or rfl rfl rfl) ?_
  refine jo_nil ?_
  refine jq_then ?_
  refine jc_cond rfl (fun h1b => ?_) (fun h1b => ?_)
  · have h1 := (fun q => Or.imp of_decide_eq_true of_decide_eq_true (bt_or q)) h1b
    refine jc_seq ?_
    refine jc_region ?_
    refine jo_pure rfl (pr_move rfl) ?_
    refine jo_pure rfl (pr_assign rfl) ?_
    refine jo_nil ?_
    refine jq_then ?_
    refine jc_ret ?_
    refine jq_then_ret ?_
    exact jq_ret1 rfl () rfl (show (str (trim s) : Value) = (str (s)) from congrArg str (by rcases h1 with h1 | h1; rw [h1]; rfl; rw [hcut] at h1; cases h1)) (fun _ h => h)
  · have h1 := (fun q => And.imp of_decide_eq_false of_decide_eq_false (bf_or q)) h1b
    refine jc_skip ?_
    refine jq_then ?_
    refine jc_seq ?_
    refine jc_seq ?_
    refine jc_region ?_
    refine jo_pure rfl (pr_move rfl) ?_
    refine jo_pure rfl (pr_slen rfl Tryz.underlying9) ?_
    refine jo_pure rfl (pr_eqlN (m := cut.length) (n := 1) rfl rfl) ?_
    refine jo_pure rfl (pr_move rfl) ?_
    refine jo_gpure (j := 3) (want := true) rfl rfl rfl rfl (fun hg => pr_move rfl) ?_
    refine jo_gpure (j := 3) (want := true) rfl rfl rfl rfl (fun hg => pr_sindex (i := 0) (evg rfl hg) rfl Tryz.underlying9 (by rw [hcut]; decide)) ?_
    refine jo_gpure (j := 3) (want := true) rfl rfl rfl rfl (fun hg => pr_blss (n := 128) (evg rfl hg) rfl) ?_
    refine jo_pure rfl (pr_pick_and rfl rfl rfl) ?_
    refine jo_nil ?_
    refine jq_then ?_
    refine jc_cond rfl (fun h2b => ?_) (fun h2b => ?_)
    · have h2 := (fun q => And.imp of_decide_eq_true of_decide_eq_true (bt_and q)) h2b
      exact absurd h2.1 (by rw [hcut]; decide)
    · have h2 := (fun q => Or.imp of_decide_eq_false of_decide_eq_false (bf_and q)) h2b
      refine jc_skip ?_
      refine jq_then ?_
      refine jc_seq ?_
      refine jc_seq ?_
      refine jc_region ?_
      refine jo_pure rfl (pr_move rfl) ?_
      refine jo_callp cal_97 (c_strings_makeASCIISet cut (by rw [hcut]; decide) (by rw [hcut]; decide)) ⟨rfl, trivial⟩ rfl (trivial) (fun _ => ?_)
      refine jo_pure rfl (pr_move rfl) ?_
      refine jo_pure rfl (pr_extract rfl rfl) ?_
      refine jo_pure rfl (pr_extract rfl rfl) ?_
      refine jo_alloc_arr (t := .bool) ty_103 (List.replicate 256 false) (by kernel_rfl) rfl (by rw [List.length_replicate]; simp [maxLen]) rfl (fun b1 => ?_)
      refine jo_store_arr (ys := setOf cut) rfl rfl ty_103 rfl (by first | rfl | exact (setOf_len _).trans List.length_replicate.symm) (by first | rfl | exact (setOf_len _).trans List.length_replicate.symm) (by first | (rw [setOf_len]; rfl) | (rw [List.length_replicate]; rfl)) ?_
      refine jo_pure rfl (pr_assign rfl) ?_
      refine jo_nil ?_
      refine jq_then ?_
      refine jc_seq ?_
      refine jc_region ?_
      refine jo_pure rfl (pr_move rfl) ?_
      refine jo_nil ?_
      refine jq_then ?_
      refine jc_true rfl (rfl) ?_
      refine jc_seq ?_
      refine jc_region ?_
      refine jo_pure rfl (pr_move rfl) ?_
      refine j_pub_arr rfl (by exact (setOf_len _).trans List.length_replicate.symm) ?_
      refine jo_callp cal_98 (c_strings_trimRightASCII s (setOf cut) b1 (hs) (setOf_len _)) ⟨rfl, rfl, trivial⟩ rfl (⟨⟨rfl, .head _⟩, trivial⟩) (fun _ => ?_)
      refine jo_callp cal_116 (c_strings_trimLeftASCII (trimR (fun x : UInt8 => (setOf cut).getD x.toNat false) s) (setOf cut) b1 (Nat.le_trans (trimR_length _) hs) (setOf_len _)) ⟨rfl, rfl, trivial⟩ rfl (⟨⟨rfl, .head _⟩, trivial⟩) (fun _ => ?_)
      refine jo_pure rfl (pr_assign rfl) ?_
      refine jo_nil ?_
      refine jq_then ?_
      refine jc_ret ?_
      refine jq_then_ret ?_
      refine j_drop ?_
      exact jq_ret1 rfl () rfl (show (str (trim s) : Value) = (str (trimL (fun x : UInt8 => (setOf cut).getD x.toNat false) (trimR (fun x : UInt8 => (setOf cut).getD x.toNat false) s))) from congrArg str (by rw [trim, show blankB = (fun x : UInt8 => (setOf cut).getD x.toNat false) from funext fun c => by rw [hcut, setOf_blank]])) (fun _ h => h)

theorem c_ascii_Trim (s : List UInt8) (hs : s.length ≤ 1000000) : Con Tryz.prog 77 #[str (s)] [] (fun _ : Unit => str (trim s)) (fun _ => []) := by
  refine con_of_J (args := [str (s)]) (n := 5) Tryz.func77 rfl (Nat.le_of_ble_eq_true rfl) rfl (fun w0 I0 m0 => ?_)
  show J _ [(0, str (s))] [] _
  refine jc_seq ?_
  refine jc_region ?_
  refine jo_pure rfl (pr_assign rfl) ?_
  refine jo_nil ?_
  refine jq_then ?_
  refine jc_seq ?_
  refine jc_region ?_
  refine jo_pure rfl (pr_move rfl) ?_
  refine jo_callp cal_102 (c_strings_Trim s [32, 9] (by first | omega | rfl) (by first | omega | rfl)) ⟨rfl, rfl, trivial⟩ rfl (trivial) (fun _ => ?_)
  refine jo_pure rfl (pr_assign rfl) ?_
  refine jo_nil ?_
  refine jq_then ?_
  refine jc_ret ?_
  exact jq_ret1 rfl () rfl (show (str (trim s) : Value) = (str (trim s)) from rfl) (fun _ h => h)

theorem c_ref01_blank (c : UInt8)  : Con Tryz.prog 105 #[byte (c)] [] (fun _ : Unit => .bool (blankB c)) (fun _ => []) := by
  refine con_of_J (args := [byte (c)]) (n := 9) Tryz.func105 rfl (Nat.le_of_ble_eq_true rfl) rfl (fun w0 I0 m0 => ?_)
  show J _ [(0, byte (c))] [] _
  refine jc_seq ?_
  refine jc_region ?_
  refine jo_pure rfl (pr_assign rfl) ?_
  refine jo_nil ?_
  refine jq_then ?_
  refine jc_seq ?_
  refine jc_region ?_
  refine jo_pure rfl (pr_move rfl) ?_
  refine jo_pure rfl (pr_beql (n := 32) rfl rfl) ?_
  refine jo_pure rfl (pr_move rfl) ?_
  refine jo_gpure (j := 2) (want := false) rfl rfl rfl rfl (fun hg => pr_move rfl) ?_
  refine jo_gpure (j := 2) (want := false) rfl rfl rfl rfl (fun hg => pr_beql (n := 9) (evg rfl hg) rfl) ?_
  refine jo_pure rfl (pr_pick_or rfl rfl rfl) ?_
  refine jo_pure rfl (pr_assign rfl) ?_
  refine jo_nil ?_
  refine jq_then ?_
  refine jc_ret ?_
  exact jq_ret1 rfl () rfl (show (.bool (blankB c) : Value) = (.bool ((decide ((c : UInt8) = 32) || decide ((c : UInt8) = 9)))) from rfl) (fun _ h => h)

theorem c_ref01_Trim (s : List UInt8) (hs : s.length ≤ 1000000) : Con Tryz.prog 84 #[str (s)] [] (fun _ : Unit => str (trim s)) (fun _ => []) := by
  refine con_of_J (args := [str (s)]) (n := 30) Tryz.func84 rfl (Nat.le_of_ble_eq_true rfl) rfl (fun w0 I0 m0 => ?_)
  show J _ [(0, str (s))] [] _
  refine jc_seq ?_
  refine jc_region ?_
  refine jo_pure rfl (pr_assign rfl) ?_
  refine jo_nil ?_
  refine jq_then ?_
  refine jc_seq ?_
  refine jc_block ?_
  refine jc_loop (fun (t : List UInt8) => [(0, str (t)), (2, str ([]))]) (fun (t : List UInt8) => []) (fun (t : List UInt8) => trimL blankB t = trimL blankB s ∧ t.length ≤ s.length) (fun (t : List UInt8) => t.length) s (⟨rfl, by omega⟩) ⟨rfl, rfl, trivial⟩ (fun _ h => h) (fun t hinv => ?_)
  refine jc_seq ?_
  refine jc_seq ?_
  refine jc_region ?_
  refine jo_pure rfl (pr_move rfl) ?_
  refine jo_pure rfl (pr_slen rfl Tryz.underlying9) ?_
  refine jo_pure rfl (pr_gtrN (m := t.length) (n := 0) rfl rfl) ?_
  refine jo_pure rfl (pr_move rfl) ?_
  refine jo_gpure (j := 3) (want := true) rfl rfl rfl rfl (fun hg => pr_move rfl) ?_
  refine jo_gpure (j := 3) (want := true) rfl rfl rfl rfl (fun hg => pr_sindex (i := 0) (evg rfl hg) rfl Tryz.underlying9 (by have := of_decide_eq_true (eq_of_beq hg); omega)) ?_
  refine jo_gcall (j := 3) (want := true) rfl rfl rfl cal_105 (fun hg => c_ref01_blank (t.getD 0 0)) (fun hg => ⟨evg rfl hg, trivial⟩) rfl (fun _ => trivial) ?_
  refine jo_pure rfl (pr_pick_and rfl rfl rfl) ?_
  refine jo_nil ?_
  refine jq_then ?_
  refine jc_cond rfl (fun h1b => ?_) (fun h1b => ?_)
  · have h1 := (fun q => And.imp of_decide_eq_true id (bt_and q)) h1b
    refine jc_skip ?_
    refine jq_then ?_
    refine jc_block ?_
    refine jc_region ?_
    refine jo_pure rfl (pr_move rfl) ?_
    refine jo_pure rfl (pr_sslice_lo (i := 1) rfl rfl Tryz.underlying9 (by omega)) ?_
    refine jo_pure rfl (pr_assign rfl) ?_
    refine jo_nil ?_
    refine jq_in_normal ?_
    refine jq_round' (t.drop 1) (⟨(trimL_step h1.1 h1.2).trans hinv.1, by simp; omega⟩) (by simp; omega) ⟨rfl, rfl, trivial⟩ (fun _ h => h)
  · have h1 := (fun q => Or.imp of_decide_eq_false id (bf_and q)) h1b
    refine jc_exit ?_
    refine jq_then_exit ?_
    refine jq_then_exit ?_
    refine jq_in_hit ?_
    refine jq_then ?_
    refine jc_seq ?_
    refine jc_block ?_
    refine jc_loop (fun (u : List UInt8) => [(0, str (u)), (2, str ([])), (3, str (t)), (4, .int .i64 ((t.length : Nat) : Int)), (5, .bool (decide ((0 : Nat) < t.length))), (6, .bool (decide ((0 : Nat) < t.length))), (10, .bool ((decide ((0 : Nat) < t.length) && blankB (t.getD 0 0))))]) (fun (u : List UInt8) => []) (fun (u : List UInt8) => trimR blankB u = trimR blankB t ∧ u.length ≤ s.length) (fun (u : List UInt8) => u.length) t (⟨rfl, by omega⟩) ⟨rfl, rfl, rfl, rfl, rfl, rfl, rfl, trivial⟩ (fun _ h => h) (fun u hinu => ?_)
    refine jc_seq ?_
    refine jc_seq ?_
    refine jc_region ?_
    refine jo_pure rfl (pr_move rfl) ?_
    refine jo_pure rfl (pr_slen rfl Tryz.underlying9) ?_
    refine jo_pure rfl (pr_gtrN (m := u.length) (n := 0) rfl rfl) ?_
    refine jo_pure rfl (pr_move rfl) ?_
    refine jo_gpure (j := 3) (want := true) rfl rfl rfl rfl (fun hg => pr_move rfl) ?_
    refine jo_gpure (j := 3) (want := true) rfl rfl rfl rfl (fun hg => pr_move rfl) ?_
    refine jo_gpure (j := 3) (want := true) rfl rfl rfl rfl (fun hg => pr_slen (evg rfl hg) Tryz.underlying9) ?_
    refine jo_gpure (j := 3) (want := true) rfl rfl rfl rfl (fun hg => pr_subN (m := u.length) (n := 1) (evg rfl hg) rfl (by first | (have := of_decide_eq_true (eq_of_beq hg); omega) | omega) (by first | (have := of_decide_eq_true (eq_of_beq hg); omega) | omega)) ?_
    refine jo_gpure (j := 3) (want := true) rfl rfl rfl rfl (fun hg => pr_sindex (i := u.length - 1) (evg rfl hg) (evg rfl hg) Tryz.underlying9 (by have := of_decide_eq_true (eq_of_beq hg); omega)) ?_
    refine jo_gcall (j := 3) (want := true) rfl rfl rfl cal_105 (fun hg => c_ref01_blank (u.getD (u.length - 1) 0)) (fun hg => ⟨evg rfl hg, trivial⟩) rfl (fun _ => trivial) ?_
    refine jo_pure rfl (pr_pick_and rfl rfl rfl) ?_
    refine jo_nil ?_
    refine jq_then ?_
    refine jc_cond rfl (fun h2b => ?_) (fun h2b => ?_)
    · have h2 := (fun q => And.imp of_decide_eq_true id (bt_and q)) h2b
      refine jc_skip ?_
      refine jq_then ?_
      refine jc_block ?_
      refine jc_region ?_
      refine jo_pure rfl (pr_move rfl) ?_
      refine jo_pure rfl (pr_move rfl) ?_
      refine jo_pure rfl (pr_slen rfl Tryz.underlying9) ?_
      refine jo_pure rfl (pr_subN (m := u.length) (n := 1) rfl rfl (by first | (have := of_decide_eq_true (eq_of_beq hg); omega) | omega) (by first | (have := of_decide_eq_true (eq_of_beq hg); omega) | omega)) ?_
      refine jo_pure rfl (pr_sslice_hi (j := u.length - 1) rfl rfl Tryz.underlying9 (by omega)) ?_
      refine jo_pure rfl (pr_assign rfl) ?_
      refine jo_nil ?_
      refine jq_in_normal ?_
      refine jq_round' (u.take (u.length - 1)) (⟨(trimR_step h2.1 h2.2).trans hinu.1, by simp; omega⟩) (by simp; omega) ⟨rfl, rfl, rfl, rfl, rfl, rfl, rfl, trivial⟩ (fun _ h => h)
    · have h2 := (fun q => Or.imp of_decide_eq_false id (bf_and q)) h2b
      refine jc_exit ?_
      refine jq_then_exit ?_
      refine jq_then_exit ?_
      refine jq_in_hit ?_
      refine jq_then ?_
      refine jc_seq ?_
      refine jc_region ?_
      refine jo_pure rfl (pr_move rfl) ?_
      refine jo_pure rfl (pr_assign rfl) ?_
      refine jo_nil ?_
      refine jq_then ?_
      refine jc_ret ?_
      exact jq_ret1 rfl () rfl (show (str (trim s) : Value) = (str (u)) from congrArg str (by rw [← trim_alt, ← hinv.1, trimL_end (h1.imp (by omega) (by simp)), ← hinu.1, trimR_end (h2.imp (by omega) (by simp))])) (fun _ h => h)
end Go.Proofs.YtikllmfjgpmcnaaGreatDoor
