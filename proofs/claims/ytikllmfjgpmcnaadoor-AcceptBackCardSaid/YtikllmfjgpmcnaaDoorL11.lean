/-
  Contracts of functions of the program: each returns what a plain function says, for every input within the bounds named. Conditions: the bounds.
-/
import Derived.Test.YtikllmfjgpmcnaaDoorRows
import Derived.Test.YtikllmfjgpmcnaaDoorL10
import Derived.Test.YtikllmfjgpmcnaaDoorLaw13
namespace Go.Proofs.YtikllmfjgpmcnaaDoor
open Go Go.Sep
set_option linter.unusedSimpArgs false
set_option linter.unusedVariables false

open Go.Plain

theorem cal_74 : Cal Tryd.prog 74 := cal_of Tryd.func74 (by kernel_rfl) rfl
theorem cal_75 : Cal Tryd.prog 75 := cal_of Tryd.func75 (by kernel_rfl) rfl
theorem cal_101 : Cal Tryd.prog 101 := cal_of Tryd.func101 (by kernel_rfl) rfl

theorem c_ref01_Split (v : List UInt8) (hs : v.length ≤ 1000000) : Con Tryd.prog 10 #[str (v)] [] (fun r1 : Value => r1) (fun r1 => [.row r1 9 .str (splitF v)]) := by
  refine con_of_J (args := [str (v)]) (n := 32) Tryd.func10 rfl (Nat.le_of_ble_eq_true rfl) rfl (fun w0 I0 m0 => ?_)
  show J _ [(0, str (v))] [] _
  refine jc_seq ?_
  refine jc_region ?_
  refine jo_pure rfl (pr_assign rfl) ?_
  refine jo_nil ?_
  refine jq_then ?_
  refine jc_seq ?_
  refine jc_region ?_
  refine jo_pure rfl (pr_assign rfl) ?_
  refine jo_nil ?_
  refine jq_then ?_
  refine jc_seq ?_
  refine jc_region ?_
  refine jo_pure rfl (pr_move rfl) ?_
  refine jo_callp cal_29 (c_ref01_Cut v 44 (by first | omega | (have := getD_len (i := i) (cutF_mem v 44); omega))) ⟨rfl, rfl, trivial⟩ rfl (trivial) (fun r1 => ?_)
  show J _ _ [.row (r1) 9 .str (cutF v 44)] _
  refine jo_pure rfl (pr_assign rfl) ?_
  refine jo_nil ?_
  refine jq_then ?_
  refine jc_seq ?_
  refine jc_seq ?_
  refine jc_region ?_
  refine jo_pure rfl (pr_assign rfl) ?_
  refine jo_nil ?_
  refine jq_then ?_
  refine jc_block ?_
  refine j_nil_row 9 .str ?_
  refine jc_loop3 (fun (i : Nat) (w : Value) (acc : List (List UInt8)) => [(3, w), (4, r1), (5, .int .i64 ((i : Nat) : Int))]) (fun (i : Nat) (w : Value) (acc : List (List UInt8)) => [.row (w) 9 .str (acc), .row (r1) 9 .str (cutF v 44)]) (fun (i : Nat) (w : Value) (acc : List (List UInt8)) => i ≤ (cutF v 44).length ∧ (cutF v 44).length ≤ v.length + 1 ∧ acc.length ≤ 64 ∧ acc ++ memG ((cutF v 44).drop i) = memG (cutF v 44)) (fun (i : Nat) (w : Value) (acc : List (List UInt8)) => (cutF v 44).length - i) 0 (.slice none 0 0) [] (⟨Nat.zero_le _, cutF_length v 44, by simp, rfl⟩) (⟨rfl, rfl, rfl, trivial⟩) (fun _ h => h) (fun i w acc hinv => ?_)
  refine jc_seq ?_
  refine jc_seq ?_
  refine jc_region ?_
  refine jo_pure rfl (pr_move rfl) ?_
  refine jo_pure rfl (pr_move rfl) ?_
  refine jo_pure rfl (pr_len_row rfl (.tail _ (.head _)) Tryd.underlying22) ?_
  refine jo_pure rfl (pr_lssN (m := i) (n := (cutF v 44).length) rfl rfl) ?_
  refine jo_pure rfl (pr_move rfl) ?_
  refine jo_gpure (j := 4) (want := true) rfl rfl rfl rfl (fun hg => pr_move rfl) ?_
  refine jo_gpure (j := 4) (want := true) rfl rfl rfl rfl (fun hg => pr_len_row (evg rfl hg) (.head _) Tryd.underlying22) ?_
  refine jo_gpure (j := 4) (want := true) rfl rfl rfl rfl (fun hg => pr_lssN (m := acc.length) (n := 64) (evg rfl hg) rfl) ?_
  refine jo_pure rfl (pr_pick_and rfl rfl rfl) ?_
  refine jo_nil ?_
  refine jq_then ?_
  refine jc_cond rfl (fun h1b => ?_) (fun h1b => ?_)
  · have h1 := (fun q => And.imp of_decide_eq_true of_decide_eq_true (bt_and q)) h1b
    refine jc_skip ?_
    refine jq_then ?_
    refine jc_seq ?_
    refine jc_block ?_
    refine jc_seq ?_
    refine jc_region ?_
    refine jo_pure rfl (pr_move rfl) ?_
    refine jo_pure rfl (pr_move rfl) ?_
    refine jo_pure rfl (pr_idx_row (i := i) rfl (.tail _ (.head _)) rfl Tryd.underlying22 ty_9 (by omega)) ?_
    refine jo_pure rfl (pr_load_elem_row (i := i) (str ((cutF v 44).getD i [])) rfl (.tail _ (.head _)) ty_9 rfl rfl (by omega) rfl) ?_
    refine jo_callp cal_30 (c_ref01_Trim ((cutF v 44).getD i []) (by first | omega | (have := getD_len (i := i) (cutF_mem v 44); omega))) ⟨rfl, trivial⟩ rfl (trivial) (fun _ => ?_)
    refine jo_pure rfl (pr_assign rfl) ?_
    refine jo_nil ?_
    refine jq_then ?_
    refine jc_seq ?_
    refine jc_region ?_
    refine jo_pure rfl (pr_move rfl) ?_
    refine jo_pure rfl (pr_sneq rfl rfl) ?_
    refine jo_nil ?_
    refine jq_then ?_
    refine jc_cond rfl (fun h2b => ?_) (fun h2b => ?_)
    · have h2 := (fun q => of_decide_eq_false (bt_not q)) h2b
      refine jc_region ?_
      refine jo_pure rfl (pr_move rfl) ?_
      refine jo_pure rfl (pr_move rfl) ?_
      refine jo_buildSlice (t := .str) [trim ((cutF v 44).getD i [])] [str (trim ((cutF v 44).getD i []))] (fun a hf => by simp only [List.zipIdx_cons, List.zipIdx_nil, List.map_toArray, List.map_cons, List.map_nil, hf.ev (show ev _ (.tmp 28) = some (str (trim ((cutF v 44).getD i []))) from rfl)]) rfl Tryd.underlying22 ty_9 rfl rfl rfl rfl rfl (fun g1 => ?_)
      refine j_pull1 ?_
      refine jo_append rfl rfl Tryd.underlying22 ty_9 rfl (by simp only [List.length_append, List.length_cons, List.length_nil, maxLen]; omega) (by simp only [List.length_append, List.length_cons, List.length_nil]; omega) rfl (fun v1 => ?_)
      refine jo_pure rfl (pr_assign rfl) ?_
      refine jo_nil ?_
      refine jq_in_normal ?_
      refine jq_then ?_
      refine jc_region ?_
      refine jo_pure rfl (pr_move rfl) ?_
      refine jo_pure rfl (pr_addN (m := i) (n := 1) rfl rfl (by omega)) ?_
      refine jo_pure rfl (pr_assign rfl) ?_
      refine jo_nil ?_
      refine j_pull1 ?_
      refine j_pull1 ?_
      refine jq_round' ((i + 1), v1, (acc ++ [trim ((cutF v 44).getD i [])])) (by (try dsimp only); exact (⟨by omega, hinv.2.1, by simp; omega, split_more h1.1 h2 hinv.2.2.2⟩)) (by (try dsimp only); exact (by omega)) ⟨rfl, rfl, rfl, trivial⟩ (fun _ h => h)
    · have h2 := (fun q => of_decide_eq_true (bf_not q)) h2b
      refine jc_skip ?_
      refine jq_in_normal ?_
      refine jq_then ?_
      refine jc_region ?_
      refine jo_pure rfl (pr_move rfl) ?_
      refine jo_pure rfl (pr_addN (m := i) (n := 1) rfl rfl (by omega)) ?_
      refine jo_pure rfl (pr_assign rfl) ?_
      refine jo_nil ?_
      refine j_pull1 ?_
      refine j_pull1 ?_
      refine jq_round' ((i + 1), w, acc) (by (try dsimp only); exact (⟨by omega, hinv.2.1, hinv.2.2.1, split_less h1.1 h2 hinv.2.2.2⟩)) (by (try dsimp only); exact (by omega)) ⟨rfl, rfl, rfl, trivial⟩ (fun _ h => h)
  · have h1 := (fun q => Or.imp of_decide_eq_false of_decide_eq_false (bf_and q)) h1b
    refine jc_exit ?_
    refine jq_then_exit ?_
    refine jq_then_exit ?_
    refine jq_in_hit ?_
    refine jq_then ?_
    refine jc_seq ?_
    refine jc_region ?_
    refine jo_pure rfl (pr_move rfl) ?_
    refine jo_pure rfl (pr_assign rfl) ?_
    refine jo_nil ?_
    refine jq_then ?_
    refine jc_ret ?_
    refine j_pull1 ?_
    refine j_drop ?_
    exact jq_ret1 rfl w rfl (show (w : Value) = (w) from rfl) (fun _ h => by rw [memG_done (h1.imp id (fun q => by omega)) hinv.2.2.1 hinv.2.2.2] at h; exact h)

theorem c_ref01_Digit (c : UInt8)  : Con Tryd.prog 101 #[byte (c)] [] (fun _ : Unit => .bool (digB c)) (fun _ => []) := by
  refine con_of_J (args := [byte (c)]) (n := 9) Tryd.func101 rfl (Nat.le_of_ble_eq_true rfl) rfl (fun w0 I0 m0 => ?_)
  show J _ [(0, byte (c))] [] _
  refine jc_seq ?_
  refine jc_region ?_
  refine jo_pure rfl (pr_assign rfl) ?_
  refine jo_nil ?_
  refine jq_then ?_
  refine jc_seq ?_
  refine jc_region ?_
  refine jo_pure rfl (pr_move rfl) ?_
  refine jo_pure rfl (pr_bgeq (n := 48) rfl rfl) ?_
  refine jo_pure rfl (pr_move rfl) ?_
  refine jo_gpure (j := 2) (want := true) rfl rfl rfl rfl (fun hg => pr_move rfl) ?_
  refine jo_gpure (j := 2) (want := true) rfl rfl rfl rfl (fun hg => pr_bleq (n := 57) (evg rfl hg) rfl) ?_
  refine jo_pure rfl (pr_pick_and rfl rfl rfl) ?_
  refine jo_pure rfl (pr_assign rfl) ?_
  refine jo_nil ?_
  refine jq_then ?_
  refine jc_ret ?_
  exact jq_ret1 rfl () rfl (show (.bool (digB c) : Value) = (.bool ((decide ((48 : UInt8) ≤ c) && decide ((c : UInt8) ≤ 57)))) from rfl) (fun _ h => h)

theorem c_ref10_subtags (s : List UInt8) (hs : s.length ≤ 1000000) : Con Tryd.prog 75 #[str (s)] [] (fun r1 : Value => r1) (fun r1 => [.imm (.list .str) r1 (cutAt 45 [] s)]) := by
  refine con_of_J (args := [str (s)]) (n := 23) Tryd.func75 rfl (Nat.le_of_ble_eq_true rfl) rfl (fun w0 I0 m0 => ?_)
  show J _ [(0, str (s))] [] _
  refine jc_seq ?_
  refine jc_region ?_
  refine jo_pure rfl (pr_assign rfl) ?_
  refine jo_nil ?_
  refine jq_then ?_
  refine jc_seq ?_
  refine jc_region ?_
  refine jo_pure rfl (pr_assign rfl) ?_
  refine jo_nil ?_
  refine jq_then ?_
  refine jc_block ?_
  refine j_nil_row 9 .str ?_
  refine jc_loop3 (fun (t : List UInt8) (w : Value) (acc : List (List UInt8)) => [(0, str (t)), (3, w)]) (fun (t : List UInt8) (w : Value) (acc : List (List UInt8)) => [.row (w) 9 .str (acc)]) (fun (t : List UInt8) (w : Value) (acc : List (List UInt8)) => acc ++ cutAt 45 [] t = cutAt 45 [] s ∧ acc.length + t.length ≤ s.length) (fun (t : List UInt8) (w : Value) (acc : List (List UInt8)) => t.length) s (.slice none 0 0) [] (⟨rfl, by simp⟩) (⟨rfl, rfl, trivial⟩) (fun _ h => h) (fun t w acc hinv => ?_)
  refine jc_block ?_
  refine jc_seq ?_
  refine jc_region ?_
  refine jo_pure rfl (pr_move rfl) ?_
  refine jo_callp cal_72 (c_ref01_Index t 45 0 (by omega)) ⟨rfl, rfl, rfl, trivial⟩ rfl (trivial) (fun _ => ?_)
  refine jo_pure rfl (pr_assign rfl) ?_
  refine jo_nil ?_
  refine jq_then ?_
  refine jc_seq ?_
  refine jc_seq ?_
  by_cases hc : pos t 45 < t.length
  · skip
    rw [show (idxF t 45 0 : Int) = ((pos t 45 : Nat) : Int) from by rw [idxF_zero, idx_found hc]]
    refine jc_region ?_
    refine jo_pure rfl (pr_move rfl) ?_
    refine jo_pure rfl (pr_lssN (m := pos t 45) (n := 0) rfl rfl) ?_
    refine jo_nil ?_
    refine jq_then ?_
    refine jc_false rfl (by simp) ?_
    refine jc_skip ?_
    refine jq_then ?_
    refine jc_held (fun (v1 : Value) => [(0, str (t.drop ((pos t 45) + 1))), (3, v1)]) (fun v1 => [.row (v1) 9 .str (acc ++ [t.take (pos t 45)])]) [] mixed (fun lst hlst => ?_) (fun v1 => ?_)
    · subst hlst
      refine jh_take (listed' := #[true, false, false, false, false, false, false, false, false, false, false, false]) 0 rfl (by kernel_rfl) (by kernel_rfl) (by kernel_rfl) rfl (pr_move rfl) (fun _ h => Mem.drop1 (h)) rfl ?_
      refine jh_take (listed' := #[true, true, false, false, false, false, false, false, false, false, false, false]) 1 rfl (by kernel_rfl) (by kernel_rfl) (by kernel_rfl) rfl (pr_move rfl) (fun _ h => Mem.drop1 (h)) rfl ?_
      refine jh_take (listed' := #[true, true, true, false, false, false, false, false, false, false, false, false]) 2 rfl (by kernel_rfl) (by kernel_rfl) (by kernel_rfl) rfl (pr_move rfl) (fun _ h => Mem.drop1 (h)) rfl ?_
      refine jh_take (listed' := #[true, true, true, true, false, false, false, false, false, false, false, false]) 3 rfl (by kernel_rfl) (by kernel_rfl) (by kernel_rfl) rfl (pr_sslice_hi (j := pos t 45) rfl rfl Tryd.underlying9 (by omega)) (fun _ h => Mem.drop1 (h)) rfl ?_
      refine jh_take (listed' := #[true, true, true, true, false, false, true, false, false, false, false, false]) 6 rfl (by kernel_rfl) (by kernel_rfl) (by kernel_rfl) rfl (pr_move rfl) (fun _ h => Mem.drop1 (h)) rfl ?_
      refine jh_take (listed' := #[true, true, true, true, false, false, true, true, false, false, false, false]) 7 rfl (by kernel_rfl) (by kernel_rfl) (by kernel_rfl) rfl (pr_move rfl) (fun _ h => Mem.drop1 (h)) rfl ?_
      refine jh_take (listed' := #[true, true, true, true, false, false, true, true, true, false, false, false]) 8 rfl (by kernel_rfl) (by kernel_rfl) (by kernel_rfl) rfl (pr_addN (m := pos t 45) (n := 1) rfl rfl (by omega)) (fun _ h => Mem.drop1 (h)) rfl ?_
      refine jh_take (listed' := #[true, true, true, true, false, false, true, true, true, true, false, false]) 9 rfl (by kernel_rfl) (by kernel_rfl) (by kernel_rfl) rfl (pr_sslice_lo (i := (pos t 45) + 1) rfl rfl Tryd.underlying9 (by omega)) (fun _ h => Mem.drop1 (h)) rfl ?_
      refine jh_all [4] (by kernel_rfl) (by simp) (fun i hi => ?_)
      simp only [List.mem_cons, List.not_mem_nil, or_false] at hi
      subst hi
      · refine jh_op rfl ?_
        refine jo_buildSlice (t := .str) [t.take (pos t 45)] [str (t.take (pos t 45))] (fun a hf => by simp only [List.zipIdx_cons, List.zipIdx_nil, List.map_toArray, List.map_cons, List.map_nil, hf.ev (show ev _ (.tmp 16) = some (str (t.take (pos t 45))) from rfl)]) rfl Tryd.underlying22 ty_9 rfl rfl rfl rfl rfl (fun g1 => ?_)
        refine jh_in (listed' := #[true, true, true, true, true, false, true, true, true, true, false, false]) (fun _ h => Mem.drop1 (Mem.drop1 (h))) rfl ?_
        refine jh_all [5] (by kernel_rfl) (by simp) (fun i hi => ?_)
        simp only [List.mem_cons, List.not_mem_nil, or_false] at hi
        subst hi
        · refine jh_op rfl ?_
          refine j_pull1 ?_
          refine jo_append rfl rfl Tryd.underlying22 ty_9 rfl (by simp only [List.length_append, List.length_cons, List.length_nil, maxLen]; omega) (by simp only [List.length_append, List.length_cons, List.length_nil]; omega) rfl (fun v1 => ?_)
          refine jh_in (listed' := #[true, true, true, true, true, true, true, true, true, true, false, false]) (fun _ h => Mem.drop1 (h)) rfl ?_
          refine jh_take (listed' := #[true, true, true, true, true, true, true, true, true, true, true, false]) 10 rfl (by kernel_rfl) (by kernel_rfl) (by kernel_rfl) rfl (pr_assign rfl) (fun _ h => Mem.drop1 (h)) rfl ?_
          refine jh_take (listed' := #[true, true, true, true, true, true, true, true, true, true, true, true]) 11 rfl (by kernel_rfl) (by kernel_rfl) (by kernel_rfl) rfl (pr_assign rfl) (fun _ h => Mem.drop1 (h)) rfl ?_
          show J _ _ _ _
          show JH _ _ _ _ _ _ _ _
          exact jh_done v1 (by kernel_rfl) ⟨rfl, rfl, trivial⟩ (fun _ h => h)
    · skip
      refine jq_in_normal ?_
      refine jq_round' ((t.drop ((pos t 45) + 1)), v1, (acc ++ [t.take (pos t 45)])) (by (try dsimp only); exact (⟨by rw [← hinv.1, cutAt_some [] hc]; simp, by simp; omega⟩)) (by (try dsimp only); exact (by simp; omega)) ⟨rfl, rfl, trivial⟩ (fun _ h => h)
  · skip
    rw [show (idxF t 45 0 : Int) = -1 from by rw [idxF_zero, idx_none hc]]
    refine jc_region ?_
    refine jo_pure rfl (pr_move rfl) ?_
    refine jo_pure rfl (pr_lss (n := 0) rfl rfl) ?_
    refine jo_nil ?_
    refine jq_then ?_
    refine jc_true rfl (by decide) ?_
    refine jc_seq ?_
    refine jc_region ?_
    refine jo_pure rfl (pr_move rfl) ?_
    refine jo_pure rfl (pr_move rfl) ?_
    refine jo_buildSlice (t := .str) [t] [str (t)] (fun a hf => by simp only [List.zipIdx_cons, List.zipIdx_nil, List.map_toArray, List.map_cons, List.map_nil, hf.ev (show ev _ (.tmp 10) = some (str (t)) from rfl)]) rfl Tryd.underlying22 ty_9 rfl rfl rfl rfl rfl (fun g2 => ?_)
    refine j_pull1 ?_
    refine jo_append rfl rfl Tryd.underlying22 ty_9 rfl (by simp only [List.length_append, List.length_cons, List.length_nil, maxLen]; omega) (by simp only [List.length_append, List.length_cons, List.length_nil]; omega) rfl (fun v2 => ?_)
    refine jo_pure rfl (pr_assign rfl) ?_
    refine jo_nil ?_
    refine jq_then ?_
    refine jc_ret ?_
    refine jq_then_ret ?_
    refine jq_in_ret ?_
    refine jq_then_ret ?_
    refine jq_in_ret ?_
    refine j_pub_row ?_
    exact jq_ret1 rfl v2 rfl (show (v2 : Value) = (v2) from rfl) (fun _ h => by rw [← hinv.1, cutAt_none [] hc]; exact h)

theorem c_ref10_Tag (s : List UInt8) (hs : s.length ≤ 1000000) : Con Tryd.prog 74 #[str (s)] [] (fun _ : Unit => .bool (tagF s)) (fun _ => []) := by
  refine con_of_J (args := [str (s)]) (n := 67) Tryd.func74 rfl (Nat.le_of_ble_eq_true rfl) rfl (fun w0 I0 m0 => ?_)
  show J _ [(0, str (s))] [] _
  refine jc_seq ?_
  refine jc_region ?_
  refine jo_pure rfl (pr_assign rfl) ?_
  refine jo_nil ?_
  refine jq_then ?_
  refine jc_seq ?_
  refine jc_region ?_
  refine jo_pure rfl (pr_move rfl) ?_
  refine jo_callp cal_75 (c_ref10_subtags s (by omega)) ⟨rfl, trivial⟩ rfl (trivial) (fun r1 => ?_)
  show J _ _ [.imm (.list .str) (r1) (cutAt 45 [] s)] _
  refine jo_pure rfl (pr_assign rfl) ?_
  refine jo_nil ?_
  refine jq_then ?_
  refine jc_seq ?_
  refine jc_seq ?_
  refine jc_region ?_
  refine jo_pure rfl (pr_assign rfl) ?_
  refine jo_nil ?_
  refine jq_then ?_
  refine jc_block ?_
  refine jc_loop (fun (i : Nat) => [(3, r1), (4, .int .i64 ((i : Nat) : Int))]) (fun (i : Nat) => [.imm (.list .str) (r1) (cutAt 45 [] s)]) (fun (i : Nat) => i ≤ (cutAt 45 [] s).length ∧ (cutAt 45 [] s).length ≤ s.length + 1 ∧ ∀ k : Nat, k < i → subOk (decide (0 < k)) ((cutAt 45 [] s).getD k []) = true) (fun (i : Nat) => (cutAt 45 [] s).length - i) 0 (⟨Nat.zero_le _, subt_length s, fun k hk => absurd hk (Nat.not_lt_zero _)⟩) (⟨rfl, rfl, trivial⟩) (fun _ h => h) (fun i hinv => ?_)
  refine jc_seq ?_
  refine jc_seq ?_
  refine jc_region ?_
  refine jo_pure rfl (pr_move rfl) ?_
  refine jo_pure rfl (pr_move rfl) ?_
  refine jo_pure rfl (pr_len_imm rfl (.head _) Tryd.underlying22) ?_
  refine jo_pure rfl (pr_lssN (m := i) (n := (cutAt 45 [] s).length) rfl rfl) ?_
  refine jo_nil ?_
  refine jq_then ?_
  refine jc_cond rfl (fun h1b => ?_) (fun h1b => ?_)
  · have h1 := of_decide_eq_true h1b
    have hml : ((cutAt 45 [] s).getD i []).length ≤ s.length := getD_len (i := i) (subt_mem s)
    refine jc_skip ?_
    refine jq_then ?_
    refine jc_seq ?_
    refine jc_block ?_
    refine jc_seq ?_
    refine jc_seq ?_
    refine jc_region ?_
    refine jo_pure rfl (pr_move rfl) ?_
    refine jo_pure rfl (pr_move rfl) ?_
    refine jo_pure rfl (pr_idx_imm (i := i) rfl (.head _) rfl Tryd.underlying22 ty_9 (by first | omega | (simp at hg; omega))) ?_
    refine jo_pure rfl (pr_load_elem_imm (i := i) (str ((cutAt 45 [] s).getD i [])) rfl (.head _) ty_9 rfl rfl (by first | omega | (simp at hg; omega)) rfl) ?_
    refine jo_pure rfl (pr_slen rfl Tryd.underlying9) ?_
    refine jo_pure rfl (pr_lssN (m := ((cutAt 45 [] s).getD i []).length) (n := 1) rfl rfl) ?_
    refine jo_pure rfl (pr_move rfl) ?_
    refine jo_gpure (j := 6) (want := false) rfl rfl rfl rfl (fun hg => pr_move rfl) ?_
    refine jo_gpure (j := 6) (want := false) rfl rfl rfl rfl (fun hg => pr_move rfl) ?_
    refine jo_gpure (j := 6) (want := false) rfl rfl rfl rfl (fun hg => pr_idx_imm (i := i) (evg rfl hg) (.head _) (evg rfl hg) Tryd.underlying22 ty_9 (by first | omega | (simp at hg; omega))) ?_
    refine jo_gpure (j := 6) (want := false) rfl rfl rfl rfl (fun hg => pr_load_elem_imm (i := i) (str ((cutAt 45 [] s).getD i [])) (evg rfl hg) (.head _) ty_9 rfl rfl (by first | omega | (simp at hg; omega)) rfl) ?_
    refine jo_gpure (j := 6) (want := false) rfl rfl rfl rfl (fun hg => pr_slen (evg rfl hg) Tryd.underlying9) ?_
    refine jo_gpure (j := 6) (want := false) rfl rfl rfl rfl (fun hg => pr_gtrN (m := ((cutAt 45 [] s).getD i []).length) (n := 8) (evg rfl hg) rfl) ?_
    refine jo_pure rfl (pr_pick_or rfl rfl rfl) ?_
    refine jo_nil ?_
    refine jq_then ?_
    refine jc_cond rfl (fun h2b => ?_) (fun h2b => ?_)
    · have h2 := (fun q => Or.imp of_decide_eq_true of_decide_eq_true (bt_or q)) h2b
      refine jc_seq ?_
      refine jc_region ?_
      refine jo_pure rfl (pr_assign rfl) ?_
      refine jo_nil ?_
      refine jq_then ?_
      refine jc_ret ?_
      refine jq_then_ret ?_
      refine jq_in_ret ?_
      refine jq_then_ret ?_
      refine jq_then_ret ?_
      refine jq_in_ret ?_
      refine jq_then_ret ?_
      refine j_drop ?_
      exact jq_ret1 rfl () rfl (show (.bool (tagF s) : Value) = (.bool (false)) from congrArg Value.bool (by rw [tag_bad (s := s) h1 (sub_len h2)])) (fun _ h => h)
    · have h2 := (fun q => And.imp of_decide_eq_false of_decide_eq_false (bf_or q)) h2b
      refine jc_skip ?_
      refine jq_then ?_
      refine jc_seq ?_
      refine jc_region ?_
      refine jo_pure rfl (pr_assign rfl) ?_
      refine jo_nil ?_
      refine jq_then ?_
      refine jc_block ?_
      refine jc_loop (fun (k : Nat) => [(3, r1), (4, .int .i64 ((i : Nat) : Int)), (5, .int .i64 ((k : Nat) : Int))]) (fun (k : Nat) => [.imm (.list .str) (r1) (cutAt 45 [] s)]) (fun (k : Nat) => k ≤ ((cutAt 45 [] s).getD i []).length ∧ (((cutAt 45 [] s).getD i []).take k).all (fun c => alphaB c || (decide (0 < i) && digB c)) = true) (fun (k : Nat) => ((cutAt 45 [] s).getD i []).length - k) 0 (⟨Nat.zero_le _, rfl⟩) (⟨rfl, rfl, rfl, trivial⟩) (fun _ h => h) (fun k hink => ?_)
      refine jc_seq ?_
      refine jc_seq ?_
      refine jc_region ?_
      refine jo_pure rfl (pr_move rfl) ?_
      refine jo_pure rfl (pr_move rfl) ?_
      refine jo_pure rfl (pr_move rfl) ?_
      refine jo_pure rfl (pr_idx_imm (i := i) rfl (.head _) rfl Tryd.underlying22 ty_9 (by first | omega | (simp at hg; omega))) ?_
      refine jo_pure rfl (pr_load_elem_imm (i := i) (str ((cutAt 45 [] s).getD i [])) rfl (.head _) ty_9 rfl rfl (by first | omega | (simp at hg; omega)) rfl) ?_
      refine jo_pure rfl (pr_slen rfl Tryd.underlying9) ?_
      refine jo_pure rfl (pr_lssN (m := k) (n := ((cutAt 45 [] s).getD i []).length) rfl rfl) ?_
      refine jo_nil ?_
      refine jq_then ?_
      refine jc_cond rfl (fun h3b => ?_) (fun h3b => ?_)
      · have h3 := of_decide_eq_true h3b
        refine jc_skip ?_
        refine jq_then ?_
        refine jc_seq ?_
        refine jc_block ?_
        refine jc_seq ?_
        refine jc_region ?_
        refine jo_pure rfl (pr_move rfl) ?_
        refine jo_pure rfl (pr_move rfl) ?_
        refine jo_pure rfl (pr_idx_imm (i := i) rfl (.head _) rfl Tryd.underlying22 ty_9 (by first | omega | (simp at hg; omega))) ?_
        refine jo_pure rfl (pr_load_elem_imm (i := i) (str ((cutAt 45 [] s).getD i [])) rfl (.head _) ty_9 rfl rfl (by first | omega | (simp at hg; omega)) rfl) ?_
        refine jo_pure rfl (pr_move rfl) ?_
        refine jo_pure rfl (pr_sindex (i := k) rfl rfl Tryd.underlying9 (by first | omega | (simp at hg; omega))) ?_
        refine jo_pure rfl (pr_assign rfl) ?_
        refine jo_nil ?_
        refine jq_then ?_
        refine jc_seq ?_
        refine jc_region ?_
        refine jo_pure rfl (pr_move rfl) ?_
        refine jo_pure rfl (pr_bgeq (n := 97) rfl rfl) ?_
        refine jo_pure rfl (pr_move rfl) ?_
        refine jo_gpure (j := 2) (want := true) rfl rfl rfl rfl (fun hg => pr_move rfl) ?_
        refine jo_gpure (j := 2) (want := true) rfl rfl rfl rfl (fun hg => pr_bleq (n := 122) (evg rfl hg) rfl) ?_
        refine jo_pure rfl (pr_pick_and rfl rfl rfl) ?_
        refine jo_pure rfl (pr_move rfl) ?_
        refine jo_gpure (j := 6) (want := false) rfl rfl rfl rfl (fun hg => pr_move rfl) ?_
        refine jo_gpure (j := 6) (want := false) rfl rfl rfl rfl (fun hg => pr_bgeq (n := 65) (evg rfl hg) rfl) ?_
        refine jo_gpure (j := 6) (want := false) rfl rfl rfl rfl (fun hg => pr_move (evg rfl hg)) ?_
        refine jo_gpure2 (j := 9) (want := true) rfl rfl rfl rfl (fun hg => pr_move rfl) ?_
        refine jo_gpure2 (j := 9) (want := true) rfl rfl rfl rfl (fun hg => pr_bleq (n := 90) (evg rfl hg) rfl) ?_
        refine jo_gpure (j := 6) (want := false) rfl rfl rfl rfl (fun hg => pr_pick_and (evg rfl hg) (evg2 rfl hg) rfl) ?_
        refine jo_pure rfl (pr_pick_or rfl rfl rfl) ?_
        refine jo_pure rfl (pr_move rfl) ?_
        refine jo_gpure (j := 14) (want := false) rfl rfl rfl rfl (fun hg => pr_move rfl) ?_
        refine jo_gpure (j := 14) (want := false) rfl rfl rfl rfl (fun hg => pr_gtrN (m := i) (n := 0) (evg rfl hg) rfl) ?_
        refine jo_gpure (j := 14) (want := false) rfl rfl rfl rfl (fun hg => pr_move (evg rfl hg)) ?_
        refine jo_gpure2 (j := 17) (want := true) rfl rfl rfl rfl (fun hg => pr_move rfl) ?_
        refine jo_gcall2 (j := 17) (want := true) rfl rfl rfl cal_101 (fun hg => c_ref01_Digit (((cutAt 45 [] s).getD i []).getD k 0)) (fun hg => ⟨evg rfl hg, trivial⟩) rfl (fun _ => trivial) ?_
        refine jo_gpure (j := 14) (want := false) rfl rfl rfl rfl (fun hg => pr_pick_and (evg rfl hg) (evg2 rfl hg) rfl) ?_
        refine jo_pure rfl (pr_pick_or rfl rfl rfl) ?_
        refine jo_pure rfl (pr_not rfl) ?_
        refine jo_nil ?_
        refine jq_then ?_
        refine jc_cond rfl (fun h4b => ?_) (fun h4b => ?_)
        · have h4 := (fun q => (fun q => And.imp (fun q => And.imp (fun q => Or.imp of_decide_eq_false of_decide_eq_false (bf_and q)) (fun q => Or.imp of_decide_eq_false of_decide_eq_false (bf_and q)) (bf_or q)) (fun q => Or.imp of_decide_eq_false id (bf_and q)) (bf_or q)) (bt_not q)) h4b
          refine jc_seq ?_
          refine jc_region ?_
          refine jo_pure rfl (pr_assign rfl) ?_
          refine jo_nil ?_
          refine jq_then ?_
          refine jc_ret ?_
          refine jq_in_ret ?_
          refine jq_then_ret ?_
          refine jq_then_ret ?_
          refine jq_in_ret ?_
          refine jq_in_ret ?_
          refine jq_then_ret ?_
          refine jq_then_ret ?_
          refine jq_in_ret ?_
          refine jq_then_ret ?_
          refine j_drop ?_
          exact jq_ret1 rfl () rfl (show (.bool (tagF s) : Value) = (.bool (false)) from congrArg Value.bool (by rw [tag_bad (s := s) h1 (sub_ch (d := decide (0 < i)) h3 (bt_not h4b))])) (fun _ h => h)
        · have h4 := (fun q => (fun q => Or.imp (fun q => Or.imp (fun q => And.imp of_decide_eq_true of_decide_eq_true (bt_and q)) (fun q => And.imp of_decide_eq_true of_decide_eq_true (bt_and q)) (bt_or q)) (fun q => And.imp of_decide_eq_true id (bt_and q)) (bt_or q)) (bf_not q)) h4b
          refine jc_skip ?_
          refine jq_in_normal ?_
          refine jq_then ?_
          refine jc_region ?_
          refine jo_pure rfl (pr_move rfl) ?_
          refine jo_pure rfl (pr_addN (m := k) (n := 1) rfl rfl (by omega)) ?_
          refine jo_pure rfl (pr_assign rfl) ?_
          refine jo_nil ?_
          refine jq_round' (k + 1) (by (try dsimp only); exact (⟨by omega, all_step (dd := 0) h3 hink.2 (bf_not h4b)⟩)) (by (try dsimp only); exact (by omega)) ⟨rfl, rfl, rfl, trivial⟩ (fun _ h => h)
      · have h3 := of_decide_eq_false h3b
        refine jc_exit ?_
        refine jq_then_exit ?_
        refine jq_then_exit ?_
        refine jq_in_hit ?_
        refine jq_in_normal ?_
        refine jq_then ?_
        refine jc_region ?_
        refine jo_pure rfl (pr_move rfl) ?_
        refine jo_pure rfl (pr_addN (m := i) (n := 1) rfl rfl (by omega)) ?_
        refine jo_pure rfl (pr_assign rfl) ?_
        refine jo_nil ?_
        refine jq_round' (i + 1) (by (try dsimp only); exact (⟨by omega, hinv.2.1, fun k9 hk => by rcases Nat.lt_or_ge k9 i with q | q; exact hinv.2.2 k9 q; have e : k9 = i := (by omega); rw [e]; exact sub_good ⟨by omega, by omega⟩ (by have h9 := hink.2; rw [take_over (s := ((cutAt 45 [] s).getD i [])) (i := k) (by omega)] at h9; exact h9)⟩)) (by (try dsimp only); exact (by omega)) ⟨rfl, rfl, trivial⟩ (fun _ h => h)
  · have h1 := of_decide_eq_false h1b
    refine jc_exit ?_
    refine jq_then_exit ?_
    refine jq_then_exit ?_
    refine jq_in_hit ?_
    refine jq_then ?_
    refine jc_seq ?_
    refine jc_region ?_
    refine jo_pure rfl (pr_assign rfl) ?_
    refine jo_nil ?_
    refine jq_then ?_
    refine jc_ret ?_
    refine j_drop ?_
    exact jq_ret1 rfl () rfl (show (.bool (tagF s) : Value) = (.bool (true)) from congrArg Value.bool (by rw [tag_end (s := s) (fun k hk => hinv.2.2 k (by have hk2 : k < (cutAt 45 [] s).length := hk; omega))])) (fun _ h => h)

theorem c_ref10_Range (s : List UInt8) (hs : s.length ≤ 1000000) : Con Tryd.prog 73 #[str (s)] [] (fun _ : Unit => .bool (rangeL s)) (fun _ => []) := by
  refine con_of_J (args := [str (s)]) (n := 9) Tryd.func73 rfl (Nat.le_of_ble_eq_true rfl) rfl (fun w0 I0 m0 => ?_)
  show J _ [(0, str (s))] [] _
  refine jc_seq ?_
  refine jc_region ?_
  refine jo_pure rfl (pr_assign rfl) ?_
  refine jo_nil ?_
  refine jq_then ?_
  refine jc_seq ?_
  refine jc_region ?_
  refine jo_pure rfl (pr_move rfl) ?_
  refine jo_pure rfl (pr_seql rfl rfl) ?_
  refine jo_pure rfl (pr_move rfl) ?_
  refine jo_gpure (j := 2) (want := false) rfl rfl rfl rfl (fun hg => pr_move rfl) ?_
  refine jo_gcall (j := 2) (want := false) rfl rfl rfl cal_74 (fun hg => c_ref10_Tag s (by omega)) (fun hg => ⟨evg rfl hg, trivial⟩) rfl (fun _ => trivial) ?_
  refine jo_pure rfl (pr_pick_or rfl rfl rfl) ?_
  refine jo_pure rfl (pr_assign rfl) ?_
  refine jo_nil ?_
  refine jq_then ?_
  refine jc_ret ?_
  exact jq_ret1 rfl () rfl (show (.bool (rangeL s) : Value) = (.bool ((decide ((s : List UInt8) = [42]) || tagF s))) from rfl) (fun _ h => h)

theorem c_keep_SamePrefs (a : List ((List UInt8) × Int)) (av : Value) (b : List ((List UInt8) × Int)) (bv : Value) (hl : a.length ≤ 9223372036854775807) : Con Tryd.prog 14 #[av, bv] [.imm (.list (.pair .str (.int .i64))) (av) (a), .imm (.list (.pair .str (.int .i64))) (bv) (b)] (fun _ : Unit => .bool (decide (a = b))) (fun _ => []) := by
  refine con_of_J (args := [av, bv]) (n := 26) Tryd.func14 rfl (Nat.le_of_ble_eq_true rfl) rfl (fun w0 I0 m0 => ?_)
  show J _ [(0, av), (1, bv)] [.imm (.list (.pair .str (.int .i64))) (av) (a), .imm (.list (.pair .str (.int .i64))) (bv) (b)] _
  refine jc_seq ?_
  refine jc_region ?_
  refine jo_pure rfl (pr_assign rfl) ?_
  refine jo_nil ?_
  refine jq_then ?_
  refine jc_seq ?_
  refine jc_seq ?_
  refine jc_region ?_
  refine jo_pure rfl (pr_move rfl) ?_
  refine jo_pure rfl (pr_len_imm rfl (.head _) Tryd.underlying25) ?_
  refine jo_pure rfl (pr_move rfl) ?_
  refine jo_pure rfl (pr_len_imm rfl (.tail _ (.head _)) Tryd.underlying25) ?_
  refine jo_pure rfl (pr_neqN (m := a.length) (n := b.length) rfl rfl) ?_
  refine jo_nil ?_
  refine jq_then ?_
  refine jc_cond rfl (fun h1b => ?_) (fun h1b => ?_)
  · have h1 := (fun q => of_decide_eq_false (bt_not q)) h1b
    refine jc_seq ?_
    refine jc_region ?_
    refine jo_pure rfl (pr_assign rfl) ?_
    refine jo_nil ?_
    refine jq_then ?_
    refine jc_ret ?_
    refine jq_then_ret ?_
    refine j_drop ?_
    refine j_drop ?_
    exact jq_ret1 rfl () rfl (show (.bool (decide (a = b)) : Value) = (.bool (false)) from congrArg Value.bool (decide_eq_false (fun e => by rw [e] at h1; simp at h1))) (fun _ h => h)
  · have h1 := (fun q => of_decide_eq_true (bf_not q)) h1b
    have hlen : a.length = b.length := by simpa using h1
    refine jc_skip ?_
    refine jq_then ?_
    refine jc_seq ?_
    refine jc_seq ?_
    refine jc_region ?_
    refine jo_pure rfl (pr_assign rfl) ?_
    refine jo_nil ?_
    refine jq_then ?_
    refine jc_block ?_
    refine jc_loop (fun (i : Nat) => [(0, av), (1, bv), (5, .int .i64 ((i : Nat) : Int))]) (fun (i : Nat) => [.imm (.list (.pair .str (.int .i64))) (av) (a), .imm (.list (.pair .str (.int .i64))) (bv) (b)]) (fun (i : Nat) => i ≤ a.length ∧ a.take i = b.take i) (fun (i : Nat) => a.length - i) 0 (⟨Nat.zero_le _, rfl⟩) (⟨rfl, rfl, rfl, trivial⟩) (fun _ h => h) (fun i hinv => ?_)
    refine jc_seq ?_
    refine jc_seq ?_
    refine jc_region ?_
    refine jo_pure rfl (pr_move rfl) ?_
    refine jo_pure rfl (pr_move rfl) ?_
    refine jo_pure rfl (pr_len_imm rfl (.head _) Tryd.underlying25) ?_
    refine jo_pure rfl (pr_lssN (m := i) (n := a.length) rfl rfl) ?_
    refine jo_nil ?_
    refine jq_then ?_
    refine jc_cond rfl (fun h2b => ?_) (fun h2b => ?_)
    · have h2 := of_decide_eq_true h2b
      refine jc_skip ?_
      refine jq_then ?_
      refine jc_seq ?_
      refine jc_block ?_
      refine jc_seq ?_
      refine jc_draws mixed (by kernel_rfl) ?_
      refine jd_pure rfl (pr_move rfl) ?_
      refine jd_pure rfl (pr_move rfl) ?_
      refine jd_pure rfl (pr_idx_imm (i := i) rfl (.head _) rfl Tryd.underlying25 ty_45 (by omega)) ?_
      refine jd_pure rfl (pr_load_elem_imm (i := i) (.agg #[str ((a.getD i ([], 0)).1), .int .i64 ((a.getD i ([], 0)).2)]) rfl (.head _) ty_45 rfl rfl (by omega) rfl) ?_
      refine jd_pure rfl (pr_move rfl) ?_
      refine jd_pure rfl (pr_move rfl) ?_
      refine jd_pure rfl (pr_idx_imm (i := i) rfl (.tail _ (.head _)) rfl Tryd.underlying25 ty_45 (by omega)) ?_
      refine jd_pure rfl (pr_load_elem_imm (i := i) (.agg #[str ((b.getD i ([], 0)).1), .int .i64 ((b.getD i ([], 0)).2)]) rfl (.tail _ (.head _)) ty_45 rfl rfl (by omega) rfl) ?_
      refine jd_pure rfl (pr_neq_si rfl rfl Tryd.underlying45 (by kernel_rfl) (by kernel_rfl) (by decide) (by decide) rfl rfl Tryd.underlying9 Tryd.underlying3 ty_9 ty_3) ?_
      refine jd_nil ?_
      refine jq_then ?_
      refine jc_cond rfl (fun h3b => ?_) (fun h3b => ?_)
      · have h3 := (fun q => (fun q => Or.imp of_decide_eq_false of_decide_eq_false (bf_and q)) (bt_not q)) h3b
        refine jc_seq ?_
        refine jc_region ?_
        refine jo_pure rfl (pr_assign rfl) ?_
        refine jo_nil ?_
        refine jq_then ?_
        refine jc_ret ?_
        refine jq_in_ret ?_
        refine jq_then_ret ?_
        refine jq_then_ret ?_
        refine jq_in_ret ?_
        refine jq_then_ret ?_
        refine j_drop ?_
        refine j_drop ?_
        exact jq_ret1 rfl () rfl (show (.bool (decide (a = b)) : Value) = (.bool (false)) from congrArg Value.bool (decide_eq_false (fun e => by rw [e] at h3; simp at h3))) (fun _ h => h)
      · have h3 := (fun q => (fun q => And.imp of_decide_eq_true of_decide_eq_true (bt_and q)) (bf_not q)) h3b
        refine jc_skip ?_
        refine jq_in_normal ?_
        refine jq_then ?_
        refine jc_region ?_
        refine jo_pure rfl (pr_move rfl) ?_
        refine jo_pure rfl (pr_addN (m := i) (n := 1) rfl rfl (by omega)) ?_
        refine jo_pure rfl (pr_assign rfl) ?_
        refine jo_nil ?_
        refine j_pull1 ?_
        refine j_pull1 ?_
        refine jq_round' (i + 1) (by (try dsimp only); exact (⟨by omega, take_eq_step (dd := ([], 0)) h2 (by omega) hinv.2 (Prod.ext h3.1 h3.2)⟩)) (by (try dsimp only); exact (by omega)) ⟨rfl, rfl, rfl, trivial⟩ (fun _ h => h)
    · have h2 := of_decide_eq_false h2b
      refine jc_exit ?_
      refine jq_then_exit ?_
      refine jq_then_exit ?_
      refine jq_in_hit ?_
      refine jq_then ?_
      refine jc_seq ?_
      refine jc_region ?_
      refine jo_pure rfl (pr_assign rfl) ?_
      refine jo_nil ?_
      refine jq_then ?_
      refine jc_ret ?_
      refine j_drop ?_
      refine j_drop ?_
      exact jq_ret1 rfl () rfl (show (.bool (decide (a = b)) : Value) = (.bool (true)) from congrArg Value.bool (decide_eq_true (by have := hinv.2; rwa [List.take_of_length_le (by omega), List.take_of_length_le (by omega)] at this))) (fun _ h => h)
end Go.Proofs.YtikllmfjgpmcnaaDoor
