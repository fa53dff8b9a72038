/-
  Contracts of functions of the program: each returns what a plain function says, for every input within the bounds named. Conditions: the bounds.
-/
import Derived.Test.YtikllmfjgpmcnaaDoorRows
import Derived.Test.YtikllmfjgpmcnaaDoorC4
import Derived.Test.YtikllmfjgpmcnaaDoorSepK
import Derived.Test.YtikllmfjgpmcnaaDoorLaw03C
namespace Go.Proofs.YtikllmfjgpmcnaaDoor
open Go Go.Sep
set_option linter.unusedSimpArgs false
set_option linter.unusedVariables false

open Go.Plain

theorem cal_13 : Cal Tryd.prog 13 := cal_of Tryd.func13 (by kernel_rfl) rfl
theorem cal_35 : Cal Tryd.prog 35 := cal_of Tryd.func35 (by kernel_rfl) rfl
theorem cal_46 : Cal Tryd.prog 46 := cal_of Tryd.func46 (by kernel_rfl) rfl
theorem cal_50 : Cal Tryd.prog 50 := cal_of Tryd.func50 (by kernel_rfl) rfl
theorem cal_51 : Cal Tryd.prog 51 := cal_of Tryd.func51 (by kernel_rfl) rfl
theorem cal_59 : Cal Tryd.prog 59 := cal_of Tryd.func59 (by kernel_rfl) rfl
theorem cal_66 : Cal Tryd.prog 66 := cal_of Tryd.func66 (by kernel_rfl) rfl
theorem cal_82 : Cal Tryd.prog 82 := cal_of Tryd.func82 (by kernel_rfl) rfl
theorem ty_5 : TyF Tryd.prog 5 false 1 1 (some (byte (0))) := ⟨by kernel_rfl, by kernel_rfl⟩
theorem ty_9 : TyF Tryd.prog 9 false 1 16 (some (str ([]))) := ⟨by kernel_rfl, by kernel_rfl⟩
theorem ty_29 : TyF Tryd.prog 29 true 2 32 (some (.agg #[str ([]), str ([])])) := ⟨by kernel_rfl, by kernel_rfl⟩

theorem c_ascii_Lower (s : List UInt8) (hs : s.length ≤ 1000000) : Con Tryd.prog 59 #[str (s)] [] (fun _ : Unit => str (lower s)) (fun _ => []) := by
  refine con_of_J (args := [str (s)]) (n := 30) Tryd.func59 rfl (Nat.le_of_ble_eq_true rfl) rfl (fun w0 I0 m0 => ?_)
  show J _ [(0, str (s))] [] _
  refine jc_seq ?_
  refine jc_region ?_
  refine jo_pure rfl (pr_assign rfl) ?_
  refine jo_nil ?_
  refine jq_then ?_
  refine jc_seq ?_
  refine jc_region ?_
  refine jo_pure rfl (pr_move rfl) ?_
  refine jo_s2b rfl Tryd.underlying9 Tryd.underlying56 Tryd.underlying5 rfl (by omega) (fun g1 cap1 => ?_)
  refine jo_pure rfl (pr_assign rfl) ?_
  refine jo_nil ?_
  refine jq_then ?_
  refine jc_seq ?_
  refine jc_seq ?_
  refine jc_region ?_
  refine jo_pure rfl (pr_move rfl) ?_
  refine jo_pure rfl (pr_len rfl Tryd.underlying56) ?_
  refine jo_pure rfl (pr_move rfl) ?_
  refine jo_nil ?_
  refine jq_then ?_
  refine jc_block ?_
  refine jc_loop (fun (i : Nat) => [(0, str (s)), (2, str ([])), (6, str (s)), (7, .slice (some ⟨g1, 0, none⟩) (s.length) (cap1)), (3, .slice (some ⟨g1, 0, none⟩) (s.length) (cap1)), (8, .slice (some ⟨g1, 0, none⟩) (s.length) (cap1)), (9, .int .i64 ((s.length : Nat) : Int)), (10, .int .i64 ((i : Nat) : Int))]) (fun (i : Nat) => [.rowm g1 (cap1) 5 .u8 (lowerTo s i)]) (fun (i : Nat) => i ≤ s.length) (fun (i : Nat) => s.length - i) 0 (Nat.zero_le _) ⟨rfl, rfl, rfl, rfl, rfl, rfl, rfl, rfl, trivial⟩ (fun _ h => by rw [lowerTo_zero]; exact h) (fun i hinv => ?_)
  refine jc_seq ?_
  refine jc_region ?_
  refine jo_pure rfl (pr_lssN (m := i) (n := s.length) rfl rfl) ?_
  refine jo_nil ?_
  refine jq_then ?_
  refine jc_seq ?_
  refine jc_cond rfl (fun h1b => ?_) (fun h1b => ?_)
  · have h1 := of_decide_eq_true h1b
    refine jc_skip ?_
    refine jq_then ?_
    refine jc_seq ?_
    refine jc_block ?_
    refine jc_seq ?_
    refine jc_region ?_
    refine jo_pure rfl (pr_move rfl) ?_
    refine jo_pure rfl (pr_idx (i := i) (i) rfl rfl Tryd.underlying56 ty_5 (by omega) (by first | rfl | (simp only [Nat.zero_add, Nat.mul_one]))) ?_
    refine jo_pure rfl (pr_load_rowD (byte ((lowerTo s i).getD i 0)) true rfl ty_5 rfl rfl (.head _) (by rw [lowerTo_len]; omega) (by first | rfl | exact Nat.mul_one _) rfl) ?_
    refine jo_pure rfl (pr_assign rfl) ?_
    refine jo_pure rfl (pr_assign rfl) ?_
    refine jo_nil ?_
    refine jq_then ?_
    refine jc_seq ?_
    refine jc_region ?_
    refine jo_pure rfl (pr_move rfl) ?_
    refine jo_pure rfl (pr_bgeq (n := 65) rfl rfl) ?_
    refine jo_pure rfl (pr_move rfl) ?_
    refine jo_gpure (j := 2) (want := true) rfl rfl rfl rfl (fun hg => pr_move rfl) ?_
    refine jo_gpure (j := 2) (want := true) rfl rfl rfl rfl (fun hg => pr_bleq (n := 90) (evg rfl hg) rfl) ?_
    refine jo_pure rfl (pr_pick_and rfl rfl rfl) ?_
    refine jo_nil ?_
    refine jq_then ?_
    refine jc_cond rfl (fun h2b => ?_) (fun h2b => ?_)
    · have h2 := (fun q => And.imp of_decide_eq_true of_decide_eq_true (bt_and q)) h2b
      refine jc_region ?_
      refine jo_pure rfl (pr_move rfl) ?_
      refine jo_pure rfl (pr_move rfl) ?_
      refine jo_pure rfl (pr_move rfl) ?_
      refine jo_pure rfl (pr_badd (n := 97) rfl rfl) ?_
      refine jo_pure rfl (pr_bsub (n := 65) rfl rfl) ?_
      refine jo_pure rfl (pr_idx (i := i) (i) rfl rfl Tryd.underlying56 ty_5 (by omega) (by first | rfl | (simp only [Nat.zero_add, Nat.mul_one]))) ?_
      refine jo_store_m (i := i) ((((lowerTo s i).getD i 0) + 97) - 65) rfl rfl ty_5 rfl (by rw [lowerTo_len]; omega) (by first | rfl | exact Nat.mul_one _) rfl ?_
      refine jo_nil ?_
      refine jq_in_normal ?_
      refine jq_then ?_
      refine jc_region ?_
      refine jo_pure rfl (pr_addN (m := i) (n := 1) rfl rfl (by omega)) ?_
      refine jo_pure rfl (pr_move rfl) ?_
      refine jo_nil ?_
      refine jq_round' (i + 1) (by omega) (by omega) ⟨rfl, rfl, rfl, rfl, rfl, rfl, rfl, rfl, trivial⟩ (fun _ h => by rw [← lowerTo_hit' s i (by omega) h2.1 h2.2 _ (add97 _)]; exact h)
    · have h2 := (fun q => Or.imp of_decide_eq_false of_decide_eq_false (bf_and q)) h2b
      refine jc_skip ?_
      refine jq_in_normal ?_
      refine jq_then ?_
      refine jc_region ?_
      refine jo_pure rfl (pr_addN (m := i) (n := 1) rfl rfl (by omega)) ?_
      refine jo_pure rfl (pr_move rfl) ?_
      refine jo_nil ?_
      refine jq_round' (i + 1) (by omega) (by omega) ⟨rfl, rfl, rfl, rfl, rfl, rfl, rfl, rfl, trivial⟩ (fun _ h => by rw [lowerTo_miss' s i (by omega) h2]; exact h)
  · have h1 := of_decide_eq_false h1b
    refine jc_exit ?_
    refine jq_then_exit ?_
    refine jq_then_exit ?_
    refine jq_in_hit ?_
    refine jq_then ?_
    refine jc_seq ?_
    refine jc_region ?_
    refine jo_pure rfl (pr_move rfl) ?_
    refine jo_pure rfl (pr_b2s_m (E := 5) rfl (by rw [lowerTo_len]) (.head _) Tryd.underlying56 Tryd.underlying5 Tryd.underlying9) ?_
    refine jo_pure rfl (pr_assign rfl) ?_
    refine jo_nil ?_
    refine jq_then ?_
    refine jc_ret ?_
    refine j_drop ?_
    exact jq_ret1 rfl () rfl (show (str (lower s) : Value) = (str (lowerTo s i)) from by rw [lowerTo_end s i (by omega)]) (fun _ h => h)

theorem c_ref01_Lower (s : List UInt8) (hs : s.length ≤ 1000000) : Con Tryd.prog 13 #[str (s)] [] (fun _ : Unit => str (lower s)) (fun _ => []) := by
  refine con_of_J (args := [str (s)]) (n := 33) Tryd.func13 rfl (Nat.le_of_ble_eq_true rfl) rfl (fun w0 I0 m0 => ?_)
  show J _ [(0, str (s))] [] _
  refine jc_seq ?_
  refine jc_region ?_
  refine jo_pure rfl (pr_assign rfl) ?_
  refine jo_nil ?_
  refine jq_then ?_
  refine jc_seq ?_
  refine jc_region ?_
  refine jo_pure rfl (pr_move rfl) ?_
  refine jo_s2b rfl Tryd.underlying9 Tryd.underlying56 Tryd.underlying5 rfl (by omega) (fun g1 cap1 => ?_)
  refine jo_pure rfl (pr_assign rfl) ?_
  refine jo_nil ?_
  refine jq_then ?_
  refine jc_seq ?_
  refine jc_seq ?_
  refine jc_region ?_
  refine jo_pure rfl (pr_assign rfl) ?_
  refine jo_nil ?_
  refine jq_then ?_
  refine jc_block ?_
  refine jc_loop (fun (i : Nat) => [(0, str (s)), (2, str ([])), (5, str (s)), (6, .slice (some ⟨g1, 0, none⟩) (s.length) (cap1)), (3, .slice (some ⟨g1, 0, none⟩) (s.length) (cap1)), (4, .int .i64 ((i : Nat) : Int))]) (fun (i : Nat) => [.rowm g1 (cap1) 5 .u8 (lowerTo s i)]) (fun (i : Nat) => i ≤ s.length) (fun (i : Nat) => s.length - i) 0 (Nat.zero_le _) ⟨rfl, rfl, rfl, rfl, rfl, rfl, trivial⟩ (fun _ h => by rw [lowerTo_zero]; exact h) (fun i hinv => ?_)
  refine jc_seq ?_
  refine jc_seq ?_
  refine jc_region ?_
  refine jo_pure rfl (pr_move rfl) ?_
  refine jo_pure rfl (pr_move rfl) ?_
  refine jo_pure rfl (pr_len rfl Tryd.underlying56) ?_
  refine jo_pure rfl (pr_lssN (m := i) (n := s.length) rfl rfl) ?_
  refine jo_nil ?_
  refine jq_then ?_
  refine jc_cond rfl (fun h1b => ?_) (fun h1b => ?_)
  · have h1 := of_decide_eq_true h1b
    refine jc_skip ?_
    refine jq_then ?_
    refine jc_seq ?_
    refine jc_block ?_
    refine jc_seq ?_
    refine jc_region ?_
    refine jo_pure rfl (pr_move rfl) ?_
    refine jo_pure rfl (pr_move rfl) ?_
    refine jo_pure rfl (pr_idx (i := i) (i) rfl rfl Tryd.underlying56 ty_5 (by omega) (by first | rfl | (simp only [Nat.zero_add, Nat.mul_one]))) ?_
    refine jo_pure rfl (pr_load_rowD (byte ((lowerTo s i).getD i 0)) true rfl ty_5 rfl rfl (.head _) (by rw [lowerTo_len]; omega) (by first | rfl | exact Nat.mul_one _) rfl) ?_
    refine jo_pure rfl (pr_bgeq (n := 65) rfl rfl) ?_
    refine jo_pure rfl (pr_move rfl) ?_
    refine jo_gpure (j := 5) (want := true) rfl rfl rfl rfl (fun hg => pr_move rfl) ?_
    refine jo_gpure (j := 5) (want := true) rfl rfl rfl rfl (fun hg => pr_move rfl) ?_
    refine jo_gpure (j := 5) (want := true) rfl rfl rfl rfl (fun hg => pr_idx (i := i) (i) (evg rfl hg) (evg rfl hg) Tryd.underlying56 ty_5 (by omega) (by first | rfl | (simp only [Nat.zero_add, Nat.mul_one]))) ?_
    refine jo_gpure (j := 5) (want := true) rfl rfl rfl rfl (fun hg => pr_load_rowD (byte ((lowerTo s i).getD i 0)) true (evg rfl hg) ty_5 rfl rfl (.head _) (by rw [lowerTo_len]; omega) (by first | rfl | exact Nat.mul_one _) rfl) ?_
    refine jo_gpure (j := 5) (want := true) rfl rfl rfl rfl (fun hg => pr_bleq (n := 90) (evg rfl hg) rfl) ?_
    refine jo_pure rfl (pr_pick_and rfl rfl rfl) ?_
    refine jo_nil ?_
    refine jq_then ?_
    refine jc_cond rfl (fun h2b => ?_) (fun h2b => ?_)
    · have h2 := (fun q => And.imp of_decide_eq_true of_decide_eq_true (bt_and q)) h2b
      refine jc_region ?_
      refine jo_pure rfl (pr_move rfl) ?_
      refine jo_pure rfl (pr_move rfl) ?_
      refine jo_pure rfl (pr_idx (i := i) (i) rfl rfl Tryd.underlying56 ty_5 (by omega) (by first | rfl | (simp only [Nat.zero_add, Nat.mul_one]))) ?_
      refine jo_pure rfl (pr_load_rowD (byte ((lowerTo s i).getD i 0)) true rfl ty_5 rfl rfl (.head _) (by rw [lowerTo_len]; omega) (by first | rfl | exact Nat.mul_one _) rfl) ?_
      refine jo_pure rfl (pr_badd (n := 32) rfl rfl) ?_
      refine jo_pure rfl (pr_idx (i := i) (i) rfl rfl Tryd.underlying56 ty_5 (by omega) (by first | rfl | (simp only [Nat.zero_add, Nat.mul_one]))) ?_
      refine jo_store_m (i := i) (((lowerTo s i).getD i 0) + 32) rfl rfl ty_5 rfl (by rw [lowerTo_len]; omega) (by first | rfl | exact Nat.mul_one _) rfl ?_
      refine jo_nil ?_
      refine jq_in_normal ?_
      refine jq_then ?_
      refine jc_region ?_
      refine jo_pure rfl (pr_move rfl) ?_
      refine jo_pure rfl (pr_addN (m := i) (n := 1) rfl rfl (by omega)) ?_
      refine jo_pure rfl (pr_assign rfl) ?_
      refine jo_nil ?_
      refine jq_round' (i + 1) (by omega) (by omega) ⟨rfl, rfl, rfl, rfl, rfl, rfl, trivial⟩ (fun _ h => by rw [← lowerTo_hit' s i (by omega) h2.1 h2.2 _ rfl]; exact h)
    · have h2 := (fun q => Or.imp of_decide_eq_false of_decide_eq_false (bf_and q)) h2b
      refine jc_skip ?_
      refine jq_in_normal ?_
      refine jq_then ?_
      refine jc_region ?_
      refine jo_pure rfl (pr_move rfl) ?_
      refine jo_pure rfl (pr_addN (m := i) (n := 1) rfl rfl (by omega)) ?_
      refine jo_pure rfl (pr_assign rfl) ?_
      refine jo_nil ?_
      refine jq_round' (i + 1) (by omega) (by omega) ⟨rfl, rfl, rfl, rfl, rfl, rfl, trivial⟩ (fun _ h => by rw [lowerTo_miss' s i (by omega) h2]; exact h)
  · have h1 := of_decide_eq_false h1b
    refine jc_exit ?_
    refine jq_then_exit ?_
    refine jq_then_exit ?_
    refine jq_in_hit ?_
    refine jq_then ?_
    refine jc_seq ?_
    refine jc_region ?_
    refine jo_pure rfl (pr_move rfl) ?_
    refine jo_pure rfl (pr_b2s_m (E := 5) rfl (by rw [lowerTo_len]) (.head _) Tryd.underlying56 Tryd.underlying5 Tryd.underlying9) ?_
    refine jo_pure rfl (pr_assign rfl) ?_
    refine jo_nil ?_
    refine jq_then ?_
    refine jc_ret ?_
    refine j_drop ?_
    exact jq_ret1 rfl () rfl (show (str (lower s) : Value) = (str (lowerTo s i)) from by rw [lowerTo_end s i (by omega)]) (fun _ h => h)

theorem c_ref01_Fold (a : List UInt8) (b : List UInt8) (ha : a.length ≤ 1000000) (hb : b.length ≤ 1000000) : Con Tryd.prog 35 #[str (a), str (b)] [] (fun _ : Unit => .bool (fold a b)) (fun _ => []) := by
  refine con_of_J (args := [str (a), str (b)]) (n := 17) Tryd.func35 rfl (Nat.le_of_ble_eq_true rfl) rfl (fun w0 I0 m0 => ?_)
  show J _ [(0, str (a)), (1, str (b))] [] _
  refine jc_seq ?_
  refine jc_region ?_
  refine jo_pure rfl (pr_assign rfl) ?_
  refine jo_nil ?_
  refine jq_then ?_
  refine jc_seq ?_
  refine jc_region ?_
  refine jo_pure rfl (pr_move rfl) ?_
  refine jo_pure rfl (pr_slen rfl Tryd.underlying9) ?_
  refine jo_pure rfl (pr_move rfl) ?_
  refine jo_pure rfl (pr_slen rfl Tryd.underlying9) ?_
  refine jo_pure rfl (pr_eqlN (m := a.length) (n := b.length) rfl rfl) ?_
  refine jo_pure rfl (pr_move rfl) ?_
  refine jo_gpure (j := 5) (want := true) rfl rfl rfl rfl (fun hg => pr_move rfl) ?_
  refine jo_gcall (j := 5) (want := true) rfl rfl rfl cal_13 (fun hg => c_ref01_Lower a (by omega)) (fun hg => ⟨evg rfl hg, trivial⟩) rfl (fun _ => trivial) ?_
  refine jo_gpure (j := 5) (want := true) rfl rfl rfl rfl (fun hg => pr_move rfl) ?_
  refine jo_gcall (j := 5) (want := true) rfl rfl rfl cal_13 (fun hg => c_ref01_Lower b (by omega)) (fun hg => ⟨evg rfl hg, trivial⟩) rfl (fun _ => trivial) ?_
  refine jo_gpure (j := 5) (want := true) rfl rfl rfl rfl (fun hg => pr_seql (evg rfl hg) (evg rfl hg)) ?_
  refine jo_pure rfl (pr_pick_and rfl rfl rfl) ?_
  refine jo_pure rfl (pr_assign rfl) ?_
  refine jo_nil ?_
  refine jq_then ?_
  refine jc_ret ?_
  exact jq_ret1 rfl () rfl (show (.bool (fold a b) : Value) = (.bool ((decide ((a.length : Nat) = b.length) && decide ((lower a : List UInt8) = lower b)))) from rfl) (fun _ h => h)

theorem c_keep_Fields (l : List ((List UInt8) × (List UInt8))) (lv : Value) (hl : l.length ≤ 9223372036854775807) : Con Tryd.prog 26 #[lv] [.imm (.list (.pair .str .str)) (lv) (l)] (fun _ : Unit => .bool (keepF l)) (fun _ => []) := by
  refine con_of_J (args := [lv]) (n := 33) Tryd.func26 rfl (Nat.le_of_ble_eq_true rfl) rfl (fun w0 I0 m0 => ?_)
  show J _ [(0, lv)] [.imm (.list (.pair .str .str)) (lv) (l)] _
  refine jc_seq ?_
  refine jc_region ?_
  refine jo_pure rfl (pr_assign rfl) ?_
  refine jo_nil ?_
  refine jq_then ?_
  refine jc_seq ?_
  refine jc_seq ?_
  refine jc_region ?_
  refine jo_pure rfl (pr_assign rfl) ?_
  refine jo_nil ?_
  refine jq_then ?_
  refine jc_block ?_
  refine jc_loop (fun (i : Nat) => [(0, lv), (3, .int .i64 ((i : Nat) : Int))]) (fun (i : Nat) => [.imm (.list (.pair .str .str)) (lv) (l)]) (fun (i : Nat) => i ≤ 71 ∧ (l.take i).all okF = true) (fun (i : Nat) => 71 - i) 0 (⟨Nat.zero_le _, rfl⟩) ⟨rfl, rfl, trivial⟩ (fun _ h => h) (fun i hinv => ?_)
  refine jc_seq ?_
  refine jc_seq ?_
  refine jc_region ?_
  refine jo_pure rfl (pr_move rfl) ?_
  refine jo_pure rfl (pr_move rfl) ?_
  refine jo_pure rfl (pr_len_imm rfl (.head _) Tryd.underlying31) ?_
  refine jo_pure rfl (pr_lssN (m := i) (n := l.length) rfl rfl) ?_
  refine jo_pure rfl (pr_move rfl) ?_
  refine jo_gpure (j := 4) (want := true) rfl rfl rfl rfl (fun hg => pr_move rfl) ?_
  refine jo_gpure (j := 4) (want := true) rfl rfl rfl rfl (fun hg => pr_lssN (m := i) (n := 71) (evg rfl hg) rfl) ?_
  refine jo_pure rfl (pr_pick_and rfl rfl rfl) ?_
  refine jo_nil ?_
  refine jq_then ?_
  refine jc_cond rfl (fun h1b => ?_) (fun h1b => ?_)
  · have h1 := (fun q => And.imp of_decide_eq_true of_decide_eq_true (bt_and q)) h1b
    refine jc_skip ?_
    refine jq_then ?_
    refine jc_seq ?_
    refine jc_block ?_
    refine jc_seq ?_
    refine jc_region ?_
    refine jo_pure rfl (pr_move rfl) ?_
    refine jo_pure rfl (pr_move rfl) ?_
    refine jo_pure rfl (pr_idx_imm (i := i) rfl (.head _) rfl Tryd.underlying31 ty_29 (by omega)) ?_
    refine jo_pure rfl (pr_fieldAddr_imm (i := i) rfl (.head _) Tryd.underlying29 rfl ty_9 rfl rfl (by omega)) ?_
    refine jo_pure rfl (pr_load_off_imm (i := i) (o := 0) (dd := ([], [])) (str ((l.getD i ([], [])).1)) rfl (.head _) ty_9 rfl (by decide) rfl (by omega) rfl) ?_
    refine jo_pure rfl (pr_slen rfl Tryd.underlying9) ?_
    refine jo_pure rfl (pr_gtrN (m := ((l.getD i ([], [])).1).length) (n := 300) rfl rfl) ?_
    refine jo_pure rfl (pr_move rfl) ?_
    refine jo_gpure (j := 7) (want := false) rfl rfl rfl rfl (fun hg => pr_move rfl) ?_
    refine jo_gpure (j := 7) (want := false) rfl rfl rfl rfl (fun hg => pr_move rfl) ?_
    refine jo_gpure (j := 7) (want := false) rfl rfl rfl rfl (fun hg => pr_idx_imm (i := i) (evg rfl hg) (.head _) (evg rfl hg) Tryd.underlying31 ty_29 (by omega)) ?_
    refine jo_gpure (j := 7) (want := false) rfl rfl rfl rfl (fun hg => pr_fieldAddr_imm (i := i) (evg rfl hg) (.head _) Tryd.underlying29 rfl ty_9 rfl rfl (by omega)) ?_
    refine jo_gpure (j := 7) (want := false) rfl rfl rfl rfl (fun hg => pr_load_off_imm (i := i) (o := 1) (dd := ([], [])) (str ((l.getD i ([], [])).2)) (evg rfl hg) (.head _) ty_9 rfl (by decide) rfl (by omega) rfl) ?_
    refine jo_gpure (j := 7) (want := false) rfl rfl rfl rfl (fun hg => pr_slen (evg rfl hg) Tryd.underlying9) ?_
    refine jo_gpure (j := 7) (want := false) rfl rfl rfl rfl (fun hg => pr_gtrN (m := ((l.getD i ([], [])).2).length) (n := 300) (evg rfl hg) rfl) ?_
    refine jo_pure rfl (pr_pick_or rfl rfl rfl) ?_
    refine jo_nil ?_
    refine jq_then ?_
    refine jc_cond rfl (fun h2b => ?_) (fun h2b => ?_)
    · have h2 := (fun q => Or.imp of_decide_eq_true of_decide_eq_true (bt_or q)) h2b
      refine jc_seq ?_
      refine jc_region ?_
      refine jo_pure rfl (pr_assign rfl) ?_
      refine jo_nil ?_
      refine jq_then ?_
      refine jc_ret ?_
      refine jq_in_ret ?_
      refine jq_then_ret ?_
      refine jq_then_ret ?_
      refine jq_in_ret ?_
      refine jq_then_ret ?_
      refine j_drop ?_
      exact jq_ret1 rfl () rfl (show (.bool (keepF l) : Value) = (.bool (false)) from congrArg Value.bool (by rw [keepF, keep_miss (dd := ([], [])) h1.2 h1.1 (by unfold okF; rw [h2b]; rfl)]; rfl)) (fun _ h => h)
    · have h2 := (fun q => And.imp of_decide_eq_false of_decide_eq_false (bf_or q)) h2b
      refine jc_skip ?_
      refine jq_in_normal ?_
      refine jq_then ?_
      refine jc_region ?_
      refine jo_pure rfl (pr_move rfl) ?_
      refine jo_pure rfl (pr_addN (m := i) (n := 1) rfl rfl (by omega)) ?_
      refine jo_pure rfl (pr_assign rfl) ?_
      refine jo_nil ?_
      refine jq_round' (i + 1) (⟨by omega, all_step (dd := ([], [])) h1.1 hinv.2 (by simp [okF] at h2 ⊢; omega)⟩) (by omega) ⟨rfl, rfl, trivial⟩ (fun _ h => h)
  · have h1 := (fun q => Or.imp of_decide_eq_false of_decide_eq_false (bf_and q)) h1b
    refine jc_exit ?_
    refine jq_then_exit ?_
    refine jq_then_exit ?_
    refine jq_in_hit ?_
    refine jq_then ?_
    refine jc_seq ?_
    refine jc_region ?_
    refine jo_pure rfl (pr_move rfl) ?_
    refine jo_pure rfl (pr_len_imm rfl (.head _) Tryd.underlying31) ?_
    refine jo_pure rfl (pr_leqN (m := l.length) (n := 70) rfl rfl) ?_
    refine jo_pure rfl (pr_assign rfl) ?_
    refine jo_nil ?_
    refine jq_then ?_
    refine jc_ret ?_
    refine j_drop ?_
    exact jq_ret1 rfl () rfl (show (.bool (keepF l) : Value) = (.bool (decide ((l.length : Nat) ≤ 70))) from congrArg Value.bool (by rw [keepF, keep_end hinv.1 h1 hinv.2]; rfl)) (fun _ h => h)

theorem c_ref10_SameStrings (a : List (List UInt8)) (av : Value) (b : List (List UInt8)) (bv : Value) (hl : a.length ≤ 9223372036854775807) : Con Tryd.prog 66 #[av, bv] [.imm (.list .str) (av) (a), .imm (.list .str) (bv) (b)] (fun _ : Unit => .bool (decide (a = b))) (fun _ => []) := by
  refine con_of_J (args := [av, bv]) (n := 26) Tryd.func66 rfl (Nat.le_of_ble_eq_true rfl) rfl (fun w0 I0 m0 => ?_)
  show J _ [(0, av), (1, bv)] [.imm (.list .str) (av) (a), .imm (.list .str) (bv) (b)] _
  refine jc_seq ?_
  refine jc_region ?_
  refine jo_pure rfl (pr_assign rfl) ?_
  refine jo_nil ?_
  refine jq_then ?_
  refine jc_seq ?_
  refine jc_seq ?_
  refine jc_region ?_
  refine jo_pure rfl (pr_move rfl) ?_
  refine jo_pure rfl (pr_len_imm rfl (.head _) Tryd.underlying22) ?_
  refine jo_pure rfl (pr_move rfl) ?_
  refine jo_pure rfl (pr_len_imm rfl (.tail _ (.head _)) Tryd.underlying22) ?_
  refine jo_pure rfl (pr_neqN (m := a.length) (n := b.length) rfl rfl) ?_
  refine jo_nil ?_
  refine jq_then ?_
  refine jc_cond rfl (fun h1b => ?_) (fun h1b => ?_)
  · have h1 := (fun q => of_decide_eq_false (bt_not q)) h1b
    refine jc_seq ?_
    refine jc_region ?_
    refine jo_pure rfl (pr_assign rfl) ?_
    refine jo_nil ?_
    refine jq_then ?_
    refine jc_ret ?_
    refine jq_then_ret ?_
    refine j_drop ?_
    refine j_drop ?_
    exact jq_ret1 rfl () rfl (show (.bool (decide (a = b)) : Value) = (.bool (false)) from congrArg Value.bool (decide_eq_false (fun e => by rw [e] at h1; simp at h1))) (fun _ h => h)
  · have h1 := (fun q => of_decide_eq_true (bf_not q)) h1b
    have hlen : a.length = b.length := by simpa using h1
    refine jc_skip ?_
    refine jq_then ?_
    refine jc_seq ?_
    refine jc_seq ?_
    refine jc_region ?_
    refine jo_pure rfl (pr_assign rfl) ?_
    refine jo_nil ?_
    refine jq_then ?_
    refine jc_block ?_
    refine jc_loop (fun (i : Nat) => [(0, av), (1, bv), (6, av), (7, .int .i64 ((a.length : Nat) : Int)), (8, bv), (9, .int .i64 ((b.length : Nat) : Int)), (10, .bool ((!decide ((a.length : Nat) = b.length)))), (5, .int .i64 ((i : Nat) : Int))]) (fun (i : Nat) => [.imm (.list .str) (av) (a), .imm (.list .str) (bv) (b)]) (fun (i : Nat) => i ≤ a.length ∧ a.take i = b.take i) (fun (i : Nat) => a.length - i) 0 (⟨Nat.zero_le _, rfl⟩) ⟨rfl, rfl, rfl, rfl, rfl, rfl, rfl, rfl, trivial⟩ (fun _ h => h) (fun i hinv => ?_)
    refine jc_seq ?_
    refine jc_seq ?_
    refine jc_region ?_
    refine jo_pure rfl (pr_move rfl) ?_
    refine jo_pure rfl (pr_move rfl) ?_
    refine jo_pure rfl (pr_len_imm rfl (.head _) Tryd.underlying22) ?_
    refine jo_pure rfl (pr_lssN (m := i) (n := a.length) rfl rfl) ?_
    refine jo_nil ?_
    refine jq_then ?_
    refine jc_cond rfl (fun h2b => ?_) (fun h2b => ?_)
    · have h2 := of_decide_eq_true h2b
      refine jc_skip ?_
      refine jq_then ?_
      refine jc_seq ?_
      refine jc_block ?_
      refine jc_seq ?_
      refine jc_draws mixed (by kernel_rfl) ?_
      refine jd_pure rfl (pr_move rfl) ?_
      refine jd_pure rfl (pr_move rfl) ?_
      refine jd_pure rfl (pr_idx_imm (i := i) rfl (.head _) rfl Tryd.underlying22 ty_9 (by omega)) ?_
      refine jd_pure rfl (pr_load_elem_imm (i := i) (str (a.getD i [])) rfl (.head _) ty_9 rfl rfl (by omega) rfl) ?_
      refine jd_pure rfl (pr_move rfl) ?_
      refine jd_pure rfl (pr_move rfl) ?_
      refine jd_pure rfl (pr_idx_imm (i := i) rfl (.tail _ (.head _)) rfl Tryd.underlying22 ty_9 (by omega)) ?_
      refine jd_pure rfl (pr_load_elem_imm (i := i) (str (b.getD i [])) rfl (.tail _ (.head _)) ty_9 rfl rfl (by omega) rfl) ?_
      refine jd_pure rfl (pr_sneq rfl rfl) ?_
      refine jd_nil ?_
      refine jq_then ?_
      refine jc_cond rfl (fun h3b => ?_) (fun h3b => ?_)
      · have h3 := (fun q => of_decide_eq_false (bt_not q)) h3b
        refine jc_seq ?_
        refine jc_region ?_
        refine jo_pure rfl (pr_assign rfl) ?_
        refine jo_nil ?_
        refine jq_then ?_
        refine jc_ret ?_
        refine jq_in_ret ?_
        refine jq_then_ret ?_
        refine jq_then_ret ?_
        refine jq_in_ret ?_
        refine jq_then_ret ?_
        refine j_drop ?_
        refine j_drop ?_
        exact jq_ret1 rfl () rfl (show (.bool (decide (a = b)) : Value) = (.bool (false)) from congrArg Value.bool (decide_eq_false (fun e => by rw [e] at h3; simp at h3))) (fun _ h => h)
      · have h3 := (fun q => of_decide_eq_true (bf_not q)) h3b
        refine jc_skip ?_
        refine jq_in_normal ?_
        refine jq_then ?_
        refine jc_region ?_
        refine jo_pure rfl (pr_move rfl) ?_
        refine jo_pure rfl (pr_addN (m := i) (n := 1) rfl rfl (by omega)) ?_
        refine jo_pure rfl (pr_assign rfl) ?_
        refine jo_nil ?_
        refine j_pull1 ?_
        refine j_pull1 ?_
        refine jq_round' (i + 1) (⟨by omega, take_eq_step (dd := []) h2 (by omega) hinv.2 (by simpa using h3)⟩) (by omega) ⟨rfl, rfl, rfl, rfl, rfl, rfl, rfl, rfl, trivial⟩ (fun _ h => h)
    · have h2 := of_decide_eq_false h2b
      refine jc_exit ?_
      refine jq_then_exit ?_
      refine jq_then_exit ?_
      refine jq_in_hit ?_
      refine jq_then ?_
      refine jc_seq ?_
      refine jc_region ?_
      refine jo_pure rfl (pr_assign rfl) ?_
      refine jo_nil ?_
      refine jq_then ?_
      refine jc_ret ?_
      refine j_drop ?_
      refine j_drop ?_
      exact jq_ret1 rfl () rfl (show (.bool (decide (a = b)) : Value) = (.bool (true)) from congrArg Value.bool (decide_eq_true (by have := hinv.2; rwa [List.take_of_length_le (by omega), List.take_of_length_le (by omega)] at this))) (fun _ h => h)

theorem c_keep_SameStrings (a : List (List UInt8)) (av : Value) (b : List (List UInt8)) (bv : Value) (hl : a.length ≤ 9223372036854775807) : Con Tryd.prog 37 #[av, bv] [.imm (.list .str) (av) (a), .imm (.list .str) (bv) (b)] (fun _ : Unit => .bool (decide (a = b))) (fun _ => []) := by
  refine con_of_J (args := [av, bv]) (n := 8) Tryd.func37 rfl (Nat.le_of_ble_eq_true rfl) rfl (fun w0 I0 m0 => ?_)
  show J _ [(0, av), (1, bv)] [.imm (.list .str) (av) (a), .imm (.list .str) (bv) (b)] _
  refine jc_seq ?_
  refine jc_region ?_
  refine jo_pure rfl (pr_assign rfl) ?_
  refine jo_nil ?_
  refine jq_then ?_
  refine jc_seq ?_
  refine jc_region ?_
  refine jo_pure rfl (pr_move rfl) ?_
  refine jo_pure rfl (pr_move rfl) ?_
  refine jo_callp cal_66 (c_ref10_SameStrings a av b bv (by omega)) ⟨rfl, rfl, trivial⟩ rfl (⟨⟨rfl, .head _⟩, ⟨⟨rfl, .tail _ (.head _)⟩, trivial⟩⟩) (fun _ => ?_)
  refine jo_pure rfl (pr_assign rfl) ?_
  refine jo_nil ?_
  refine jq_then ?_
  refine jc_ret ?_
  refine j_drop ?_
  refine j_drop ?_
  exact jq_ret1 rfl () rfl (show (.bool (decide (a = b)) : Value) = (.bool (decide (a = b))) from rfl) (fun _ h => h)

theorem c_ref01_Get (l : List ((List UInt8) × (List UInt8))) (lv : Value) (name : List UInt8) (hl : l.length ≤ 1000000) (hm : ∀ x ∈ l, x.1.length ≤ 1000000 ∧ x.2.length ≤ 1000000) (hn : name.length ≤ 1000000) : Con Tryd.prog 46 #[lv, str (name)] [.imm (.list (.pair .str .str)) (lv) (l)] (fun r1 : Value => r1) (fun r1 => [.row r1 9 .str (getF l name)]) := by
  refine con_of_J (args := [lv, str (name)]) (n := 29) Tryd.func46 rfl (Nat.le_of_ble_eq_true rfl) rfl (fun w0 I0 m0 => ?_)
  show J _ [(0, lv), (1, str (name))] [.imm (.list (.pair .str .str)) (lv) (l)] _
  refine jc_seq ?_
  refine jc_region ?_
  refine jo_pure rfl (pr_assign rfl) ?_
  refine jo_nil ?_
  refine jq_then ?_
  refine jc_seq ?_
  refine jc_region ?_
  refine jo_pure rfl (pr_assign rfl) ?_
  refine jo_nil ?_
  refine jq_then ?_
  refine jc_seq ?_
  refine jc_seq ?_
  refine jc_region ?_
  refine jo_pure rfl (pr_assign rfl) ?_
  refine jo_nil ?_
  refine jq_then ?_
  refine jc_block ?_
  refine j_nil_row 9 .str ?_
  refine jc_loop2 (fun (i : Nat) (v : Value) => [(0, lv), (1, str (name)), (4, .slice none 0 0), (5, v), (6, .int .i64 ((i : Nat) : Int))]) (fun (i : Nat) (v : Value) => [.row (v) 9 .str (getF (l.take i) name), .imm (.list (.pair .str .str)) (lv) (l)]) (fun (i : Nat) (v : Value) => i ≤ l.length) (fun (i : Nat) (v : Value) => l.length - i) 0 (.slice none 0 0) (Nat.zero_le _) ⟨rfl, rfl, rfl, rfl, rfl, trivial⟩ (fun _ h => h) (fun i v hinv => ?_)
  refine jc_seq ?_
  refine jc_seq ?_
  refine jc_region ?_
  refine jo_pure rfl (pr_move rfl) ?_
  refine jo_pure rfl (pr_move rfl) ?_
  refine jo_pure rfl (pr_len_imm rfl (.tail _ (.head _)) Tryd.underlying31) ?_
  refine jo_pure rfl (pr_lssN (m := i) (n := l.length) rfl rfl) ?_
  refine jo_nil ?_
  refine jq_then ?_
  refine jc_cond rfl (fun h1b => ?_) (fun h1b => ?_)
  · have h1 := of_decide_eq_true h1b
    refine jc_skip ?_
    refine jq_then ?_
    refine jc_seq ?_
    refine jc_block ?_
    refine jc_seq ?_
    refine jc_region ?_
    refine jo_pure rfl (pr_move rfl) ?_
    refine jo_pure rfl (pr_move rfl) ?_
    refine jo_pure rfl (pr_idx_imm (i := i) rfl (.tail _ (.head _)) rfl Tryd.underlying31 ty_29 (by omega)) ?_
    refine jo_pure rfl (pr_fieldAddr_imm (i := i) rfl (.tail _ (.head _)) Tryd.underlying29 rfl ty_9 rfl rfl (by omega)) ?_
    refine jo_pure rfl (pr_load_off_imm (i := i) (o := 0) (dd := ([], [])) (str ((l.getD i ([], [])).1)) rfl (.tail _ (.head _)) ty_9 rfl (by decide) rfl (by omega) rfl) ?_
    refine jo_pure rfl (pr_move rfl) ?_
    refine jo_callp cal_35 (c_ref01_Fold ((l.getD i ([], [])).1) name (by first | omega | exact (hm _ (getD_mem h1)).1) (by first | omega | exact (hm _ (getD_mem h1)).1)) ⟨rfl, rfl, trivial⟩ rfl (trivial) (fun _ => ?_)
    refine jo_nil ?_
    refine jq_then ?_
    refine jc_cond rfl (fun h2b => ?_) (fun h2b => ?_)
    · have h2 := id h2b
      refine jc_region ?_
      refine jo_pure rfl (pr_move rfl) ?_
      refine jo_pure rfl (pr_move rfl) ?_
      refine jo_pure rfl (pr_move rfl) ?_
      refine jo_pure rfl (pr_idx_imm (i := i) rfl (.tail _ (.head _)) rfl Tryd.underlying31 ty_29 (by omega)) ?_
      refine jo_pure rfl (pr_fieldAddr_imm (i := i) rfl (.tail _ (.head _)) Tryd.underlying29 rfl ty_9 rfl rfl (by omega)) ?_
      refine jo_pure rfl (pr_load_off_imm (i := i) (o := 1) (dd := ([], [])) (str ((l.getD i ([], [])).2)) rfl (.tail _ (.head _)) ty_9 rfl (by decide) rfl (by omega) rfl) ?_
      refine jo_buildSlice (t := .str) [(l.getD i ([], [])).2] [str ((l.getD i ([], [])).2)] (fun a hf => by simp only [List.zipIdx_cons, List.zipIdx_nil, List.map_toArray, List.map_cons, List.map_nil, hf.ev (show ev _ (.tmp 25) = some (str ((l.getD i ([], [])).2)) from rfl)]) rfl Tryd.underlying22 ty_9 rfl rfl rfl rfl rfl (fun g1 => ?_)
      refine j_pull1 ?_
      refine jo_append rfl rfl Tryd.underlying22 ty_9 rfl (by have h9 := getF_length (l.take i) name; have h8 := List.length_take_le' i l; simp only [List.length_cons, List.length_nil, maxLen]; omega) (by have := getF_length (l.take i) name; simp at *; omega) rfl (fun v1 => ?_)
      refine jo_pure rfl (pr_assign rfl) ?_
      refine jo_nil ?_
      refine jq_in_normal ?_
      refine jq_then ?_
      refine jc_region ?_
      refine jo_pure rfl (pr_move rfl) ?_
      refine jo_pure rfl (pr_addN (m := i) (n := 1) rfl rfl (by omega)) ?_
      refine jo_pure rfl (pr_assign rfl) ?_
      refine jo_nil ?_
      refine j_pull1 ?_
      refine j_pull1 ?_
      refine jq_round' ((i + 1), v1) (by omega) (by omega) ⟨rfl, rfl, rfl, rfl, rfl, trivial⟩ (fun _ h => by rw [getF_hit (dd := ([], [])) h1 h2]; exact h)
    · have h2 := id h2b
      refine jc_skip ?_
      refine jq_in_normal ?_
      refine jq_then ?_
      refine jc_region ?_
      refine jo_pure rfl (pr_move rfl) ?_
      refine jo_pure rfl (pr_addN (m := i) (n := 1) rfl rfl (by omega)) ?_
      refine jo_pure rfl (pr_assign rfl) ?_
      refine jo_nil ?_
      refine j_pull1 ?_
      refine j_pull1 ?_
      refine jq_round' ((i + 1), v) (by omega) (by omega) ⟨rfl, rfl, rfl, rfl, rfl, trivial⟩ (fun _ h => by rw [getF_miss (dd := ([], [])) h1 (by simpa using h2)]; exact h)
  · have h1 := of_decide_eq_false h1b
    refine jc_exit ?_
    refine jq_then_exit ?_
    refine jq_then_exit ?_
    refine jq_in_hit ?_
    refine jq_then ?_
    refine jc_seq ?_
    refine jc_region ?_
    refine jo_pure rfl (pr_move rfl) ?_
    refine jo_pure rfl (pr_assign rfl) ?_
    refine jo_nil ?_
    refine jq_then ?_
    refine jc_ret ?_
    refine j_pull1 ?_
    refine j_drop ?_
    exact jq_ret1 rfl v rfl (show (v : Value) = (v) from rfl) (fun _ h => by rw [List.take_of_length_le (by omega)] at h; exact h)

theorem c_ref01_Has (l : List ((List UInt8) × (List UInt8))) (lv : Value) (name : List UInt8) (hl : l.length ≤ 1000000) (hm : ∀ x ∈ l, x.1.length ≤ 1000000 ∧ x.2.length ≤ 1000000) (hn : name.length ≤ 1000000) : Con Tryd.prog 27 #[lv, str (name)] [.imm (.list (.pair .str .str)) (lv) (l)] (fun _ : Unit => .bool (decide (0 < (getF l name).length))) (fun _ => []) := by
  refine con_of_J (args := [lv, str (name)]) (n := 10) Tryd.func27 rfl (Nat.le_of_ble_eq_true rfl) rfl (fun w0 I0 m0 => ?_)
  show J _ [(0, lv), (1, str (name))] [.imm (.list (.pair .str .str)) (lv) (l)] _
  refine jc_seq ?_
  refine jc_region ?_
  refine jo_pure rfl (pr_assign rfl) ?_
  refine jo_nil ?_
  refine jq_then ?_
  refine jc_seq ?_
  refine jc_region ?_
  refine jo_pure rfl (pr_move rfl) ?_
  refine jo_pure rfl (pr_move rfl) ?_
  refine jo_callp cal_46 (c_ref01_Get l lv name (by first | omega | exact hm) (by first | omega | exact hm) (by first | omega | exact hm)) ⟨rfl, rfl, trivial⟩ rfl (⟨⟨rfl, .head _⟩, trivial⟩) (fun r1 => ?_)
  show J _ _ [.row (r1) 9 .str (getF l name), .imm (.list (.pair .str .str)) (lv) (l)] _
  refine jo_pure rfl (pr_len_row rfl (.head _) Tryd.underlying22) ?_
  refine jo_pure rfl (pr_gtrN (m := (getF l name).length) (n := 0) rfl rfl) ?_
  refine jo_pure rfl (pr_assign rfl) ?_
  refine jo_nil ?_
  refine jq_then ?_
  refine jc_ret ?_
  refine j_drop ?_
  refine j_drop ?_
  exact jq_ret1 rfl () rfl (show (.bool (decide (0 < (getF l name).length)) : Value) = (.bool (decide ((0 : Nat) < (getF l name).length))) from rfl) (fun _ h => h)

theorem c_named_1 (f : (List UInt8) × (List UInt8)) (nm : List UInt8) (nmb : Nat) (hf : f.1.length ≤ 1000000) : Con Tryd.prog 82 #[.agg #[str (f.1), str (f.2)], .pointer (some ⟨nmb, 0, none⟩)] [.ibox nmb 9 [str (nm)]] (fun _ : Unit => .bool (namedB nm f)) (fun _ => []) := by
  refine con_of_J (args := [.agg #[str (f.1), str (f.2)], .pointer (some ⟨nmb, 0, none⟩)]) (n := 17) Tryd.func82 rfl (Nat.le_of_ble_eq_true rfl) rfl (fun w0 I0 m0 => ?_)
  show J _ [(0, .agg #[str (f.1), str (f.2)]), (1, .pointer (some ⟨nmb, 0, none⟩))] [.ibox nmb 9 [str (nm)]] _
  refine jc_seq ?_
  refine jc_region ?_
  refine jo_box rfl [str (f.1), str (f.2)] rfl rfl (fun b1 => ?_)
  refine jo_pure rfl (pr_assign rfl) ?_
  refine jo_nil ?_
  refine jq_then ?_
  refine jc_seq ?_
  refine jc_draws mixed (by kernel_rfl) ?_
  refine jd_pure rfl (pr_fieldAddr 0 rfl Tryd.underlying29 rfl ty_9 rfl rfl) ?_
  refine jd_pure rfl (pr_load_box (str (f.1)) rfl ty_9 (.head _) rfl (by decide) rfl) ?_
  refine jd_pure rfl (pr_slen rfl Tryd.underlying9) ?_
  refine jd_pure rfl (pr_load_ibox (str (nm)) rfl ty_9 (.tail _ (.head _)) rfl (by decide) rfl) ?_
  refine jd_pure rfl (pr_slen rfl Tryd.underlying9) ?_
  refine jd_pure rfl (pr_eqlN (m := f.1.length) (n := nm.length) rfl rfl) ?_
  refine jd_pure rfl (pr_move rfl) ?_
  refine jd_gpure (j := 6) (want := true) rfl rfl rfl rfl (fun hg => pr_fieldAddr 0 rfl Tryd.underlying29 rfl ty_9 rfl rfl) ?_
  refine jd_gpure (j := 6) (want := true) rfl rfl rfl rfl (fun hg => pr_load_box (str (f.1)) (evg rfl hg) ty_9 (.head _) rfl (by decide) rfl) ?_
  refine jd_gcall (j := 6) (want := true) rfl rfl rfl cal_59 (fun hg => c_ascii_Lower f.1 (by omega)) (fun hg => ⟨evg rfl hg, trivial⟩) rfl (fun _ => trivial) ?_
  refine jd_gpure (j := 6) (want := true) rfl rfl rfl rfl (fun hg => pr_load_ibox (str (nm)) rfl ty_9 (.tail _ (.head _)) rfl (by decide) rfl) ?_
  refine jd_gpure (j := 6) (want := true) rfl rfl rfl rfl (fun hg => pr_seql (evg rfl hg) (evg rfl hg)) ?_
  refine jd_pure rfl (pr_pick_and rfl rfl rfl) ?_
  refine jd_pure rfl (pr_assign rfl) ?_
  refine jd_nil ?_
  refine jq_then ?_
  refine jc_ret ?_
  refine j_drop ?_
  refine j_drop ?_
  exact jq_ret1 rfl () rfl (show (.bool (namedB nm f) : Value) = (.bool ((decide ((f.1.length : Nat) = nm.length) && decide ((lower f.1 : List UInt8) = nm)))) from rfl) (fun _ h => h)

theorem c_fieldline_named (name : List UInt8) (hn : name.length ≤ 1000000) : Con Tryd.prog 51 #[str (name)] [] (fun r1 : Nat => .func (.func 82) #[] #[.pointer (some ⟨r1, 0, none⟩)]) (fun r1 => [.ibox r1 9 [str (lower name)]]) := by
  refine con_of_J (args := [str (name)]) (n := 6) Tryd.func51 rfl (Nat.le_of_ble_eq_true rfl) rfl (fun w0 I0 m0 => ?_)
  show J _ [(0, str (name))] [] _
  refine jc_seq ?_
  refine jc_region ?_
  refine jo_box rfl [str (name)] rfl rfl (fun b1 => ?_)
  refine jo_pure rfl (pr_assign rfl) ?_
  refine jo_nil ?_
  refine jq_then ?_
  refine jc_seq ?_
  refine jc_region ?_
  refine jo_pure rfl (pr_load_box (str (name)) rfl ty_9 (.head _) rfl (by decide) rfl) ?_
  refine jo_callp cal_59 (c_ascii_Lower name (by omega)) ⟨rfl, trivial⟩ rfl (trivial) (fun _ => ?_)
  refine jo_store rfl rfl ty_9 [str (lower name)] rfl rfl rfl [str (lower name)] rfl rfl ?_
  refine jo_nil ?_
  refine jq_then ?_
  refine jc_seq ?_
  refine jc_region ?_
  refine jo_pure rfl (pr_makeFunc (fs := #[]) (cs := #[.pointer (some ⟨b1, 0, none⟩)]) (fun a hf => by simp) (fun a hf => by simp only [List.map_toArray, List.map_cons, List.map_nil, hf.ev (show ev _ (.tmp 1) = some (.pointer (some ⟨b1, 0, none⟩)) from rfl)])) ?_
  refine jo_pure rfl (pr_assign rfl) ?_
  refine jo_nil ?_
  refine jq_then ?_
  refine jc_ret ?_
  refine j_pub_box ?_
  exact jq_ret1 rfl b1 rfl (show (.func (.func 82) #[] #[.pointer (some ⟨b1, 0, none⟩)] : Value) = (.func (.func 82) #[] #[.pointer (some ⟨b1, 0, none⟩)]) from rfl) (fun _ h => h)

theorem c_filter_named (l : List ((List UInt8) × (List UInt8))) (lv : Value) (nm : List UInt8) (nmb : Nat) (hl : l.length ≤ 1000000) (hm : ∀ x ∈ l, x.1.length ≤ 1000000) : Con Tryd.prog 50 #[lv, .func (.func 82) #[] #[.pointer (some ⟨nmb, 0, none⟩)]] [.imm (.list (.pair .str .str)) (lv) (l), .ibox nmb 9 [str (nm)]] (fun r1 : Value => r1) (fun r1 => [.row r1 29 (.pair .str .str) (l.filter (namedB nm))]) := by
  refine con_of_J (args := [lv, .func (.func 82) #[] #[.pointer (some ⟨nmb, 0, none⟩)]]) (n := 23) Tryd.func50 rfl (Nat.le_of_ble_eq_true rfl) rfl (fun w0 I0 m0 => ?_)
  show J _ [(0, lv), (1, .func (.func 82) #[] #[.pointer (some ⟨nmb, 0, none⟩)])] [.imm (.list (.pair .str .str)) (lv) (l), .ibox nmb 9 [str (nm)]] _
  refine jc_seq ?_
  refine jc_region ?_
  refine jo_pure rfl (pr_assign rfl) ?_
  refine jo_nil ?_
  refine jq_then ?_
  refine jc_seq ?_
  refine jc_region ?_
  refine jo_pure rfl (pr_assign rfl) ?_
  refine jo_nil ?_
  refine jq_then ?_
  refine jc_seq ?_
  refine jc_seq ?_
  refine jc_region ?_
  refine jo_pure rfl (pr_move rfl) ?_
  refine jo_pure rfl (pr_len_imm rfl (.head _) Tryd.underlying31) ?_
  refine jo_pure rfl (pr_move rfl) ?_
  refine jo_nil ?_
  refine jq_then ?_
  refine jc_block ?_
  refine j_nil_row 29 (.pair .str .str) ?_
  refine jc_loop2 (fun (i : Nat) (v : Value) => [(0, lv), (1, .func (.func 82) #[] #[.pointer (some ⟨nmb, 0, none⟩)]), (4, .slice none 0 0), (5, v), (8, lv), (9, .int .i64 ((l.length : Nat) : Int)), (10, .int .i64 ((i : Nat) : Int))]) (fun (i : Nat) (v : Value) => [.row (v) 29 (.pair .str .str) ((l.take i).filter (namedB nm)), .imm (.list (.pair .str .str)) (lv) (l), .ibox nmb 9 [str (nm)]]) (fun (i : Nat) (v : Value) => i ≤ l.length) (fun (i : Nat) (v : Value) => l.length - i) 0 (.slice none 0 0) (Nat.zero_le _) ⟨rfl, rfl, rfl, rfl, rfl, rfl, rfl, trivial⟩ (fun _ h => h) (fun i v hinv => ?_)
  refine jc_seq ?_
  refine jc_region ?_
  refine jo_pure rfl (pr_lssN (m := i) (n := l.length) rfl rfl) ?_
  refine jo_nil ?_
  refine jq_then ?_
  refine jc_seq ?_
  refine jc_cond rfl (fun h1b => ?_) (fun h1b => ?_)
  · have h1 := of_decide_eq_true h1b
    refine jc_skip ?_
    refine jq_then ?_
    refine jc_seq ?_
    refine jc_block ?_
    refine jc_seq ?_
    refine jc_region ?_
    refine jo_pure rfl (pr_idx_imm (i := i) rfl (.tail _ (.head _)) rfl Tryd.underlying31 ty_29 (by omega)) ?_
    refine jo_pure rfl (pr_load_elem_imm (i := i) (.agg #[str ((l.getD i ([], [])).1), str ((l.getD i ([], [])).2)]) rfl (.tail _ (.head _)) ty_29 rfl rfl (by omega) rfl) ?_
    refine jo_alloc ty_29 [str ([]), str ([])] rfl rfl (fun b1 => ?_)
    refine jo_store rfl rfl ty_29 [str ((l.getD i ([], [])).1), str ((l.getD i ([], [])).2)] rfl rfl rfl [str ((l.getD i ([], [])).1), str ((l.getD i ([], [])).2)] rfl rfl ?_
    refine jo_nil ?_
    refine jq_then ?_
    refine jc_seq ?_
    refine jc_region ?_
    refine jo_pure rfl (pr_move rfl) ?_
    refine jo_pure rfl (pr_load_box (.agg #[str ((l.getD i ([], [])).1), str ((l.getD i ([], [])).2)]) rfl ty_29 (.head _) rfl (by decide) rfl) ?_
    refine jo_callvp (fi := []) (vs := [.agg #[str ((l.getD i ([], [])).1), str ((l.getD i ([], [])).2)]]) (ca := [.pointer (some ⟨nmb, 0, none⟩)]) rfl cal_82 (c_named_1 (l.getD i ([], [])) nm nmb (hm _ (getD_mem h1))) ⟨rfl, trivial⟩ rfl (⟨⟨rfl, .tail _ (.tail _ (.tail _ (.head _)))⟩, trivial⟩) (fun _ => ?_)
    refine jo_nil ?_
    refine jq_then ?_
    refine jc_cond rfl (fun h2b => ?_) (fun h2b => ?_)
    · have h2 := id h2b
      refine jc_region ?_
      refine jo_pure rfl (pr_move rfl) ?_
      refine jo_pure rfl (pr_load_box (.agg #[str ((l.getD i ([], [])).1), str ((l.getD i ([], [])).2)]) rfl ty_29 (.head _) rfl (by decide) rfl) ?_
      refine jo_buildSlice (t := (.pair .str .str)) [(l.getD i ([], []))] [.agg #[str ((l.getD i ([], [])).1), str ((l.getD i ([], [])).2)]] (fun a hf => by simp only [List.zipIdx_cons, List.zipIdx_nil, List.map_toArray, List.map_cons, List.map_nil, hf.ev (show ev _ (.tmp 18) = some (.agg #[str ((l.getD i ([], [])).1), str ((l.getD i ([], [])).2)]) from rfl)]) rfl Tryd.underlying31 ty_29 rfl rfl rfl rfl rfl (fun g1 => ?_)
      refine j_pull2 ?_
      refine jo_append rfl rfl Tryd.underlying31 ty_29 rfl (by have h9 := List.length_filter_le (namedB nm) (l.take i); have h8 := List.length_take_le' i l; simp only [List.length_cons, List.length_nil, maxLen]; omega) (by have h9 := List.length_filter_le (namedB nm) (l.take i); have h8 := List.length_take_le' i l; simp only [List.length_cons, List.length_nil]; omega) rfl (fun v1 => ?_)
      refine jo_pure rfl (pr_assign rfl) ?_
      refine jo_nil ?_
      refine jq_in_normal ?_
      refine jq_then ?_
      refine jc_region ?_
      refine jo_pure rfl (pr_addN (m := i) (n := 1) rfl rfl (by omega)) ?_
      refine jo_pure rfl (pr_move rfl) ?_
      refine jo_nil ?_
      refine j_pull1 ?_
      refine j_drop ?_
      refine j_pull2 ?_
      refine j_pull2 ?_
      refine j_pull2 ?_
      refine jq_round' ((i + 1), v1) (by omega) (by omega) ⟨rfl, rfl, rfl, rfl, rfl, rfl, rfl, trivial⟩ (fun _ h => by rw [filter_hit (dd := ([], [])) h1 h2]; exact h)
    · have h2 := id h2b
      refine jc_skip ?_
      refine jq_in_normal ?_
      refine jq_then ?_
      refine jc_region ?_
      refine jo_pure rfl (pr_addN (m := i) (n := 1) rfl rfl (by omega)) ?_
      refine jo_pure rfl (pr_move rfl) ?_
      refine jo_nil ?_
      refine j_drop ?_
      refine j_pull2 ?_
      refine j_pull2 ?_
      refine j_pull2 ?_
      refine jq_round' ((i + 1), v) (by omega) (by omega) ⟨rfl, rfl, rfl, rfl, rfl, rfl, rfl, trivial⟩ (fun _ h => by rw [filter_miss (dd := ([], [])) h1 (by simpa using h2)]; exact h)
  · have h1 := of_decide_eq_false h1b
    refine jc_exit ?_
    refine jq_then_exit ?_
    refine jq_then_exit ?_
    refine jq_in_hit ?_
    refine jq_then ?_
    refine jc_seq ?_
    refine jc_region ?_
    refine jo_pure rfl (pr_move rfl) ?_
    refine jo_pure rfl (pr_assign rfl) ?_
    refine jo_nil ?_
    refine jq_then ?_
    refine jc_ret ?_
    refine j_pull1 ?_
    refine j_drop ?_
    refine j_pull1 ?_
    refine j_drop ?_
    exact jq_ret1 rfl v rfl (show (v : Value) = (v) from rfl) (fun _ h => by rw [List.take_of_length_le (by omega)] at h; exact h)

theorem c_fieldline_Has (l : List ((List UInt8) × (List UInt8))) (lv : Value) (name : List UInt8) (hl : l.length ≤ 1000000) (hm : ∀ x ∈ l, x.1.length ≤ 1000000 ∧ x.2.length ≤ 1000000) (hn : name.length ≤ 1000000) : Con Tryd.prog 31 #[lv, str (name)] [.imm (.list (.pair .str .str)) (lv) (l)] (fun _ : Unit => .bool (decide (0 < (getF l name).length))) (fun _ => []) := by
  refine con_of_J (args := [lv, str (name)]) (n := 11) Tryd.func31 rfl (Nat.le_of_ble_eq_true rfl) rfl (fun w0 I0 m0 => ?_)
  show J _ [(0, lv), (1, str (name))] [.imm (.list (.pair .str .str)) (lv) (l)] _
  refine jc_seq ?_
  refine jc_region ?_
  refine jo_pure rfl (pr_assign rfl) ?_
  refine jo_nil ?_
  refine jq_then ?_
  refine jc_seq ?_
  refine jc_region ?_
  refine jo_pure rfl (pr_move rfl) ?_
  refine jo_pure rfl (pr_move rfl) ?_
  refine jo_callp cal_51 (c_fieldline_named name (by first | omega | exact fun x hx => (hm x hx).1)) ⟨rfl, trivial⟩ rfl (trivial) (fun r1 => ?_)
  show J _ _ [.ibox r1 9 [str (lower name)], .imm (.list (.pair .str .str)) (lv) (l)] _
  refine jo_callp cal_50 (c_filter_named l lv (lower name) r1 (by first | omega | exact fun x hx => (hm x hx).1) (by first | omega | exact fun x hx => (hm x hx).1)) ⟨rfl, rfl, trivial⟩ rfl (⟨⟨rfl, .tail _ (.head _)⟩, ⟨⟨rfl, .head _⟩, trivial⟩⟩) (fun r2 => ?_)
  show J _ _ [.row (r2) 29 (.pair .str .str) (l.filter (namedB (lower name))), .ibox r1 9 [str (lower name)], .imm (.list (.pair .str .str)) (lv) (l)] _
  refine jo_pure rfl (pr_len_row rfl (.head _) Tryd.underlying31) ?_
  refine jo_pure rfl (pr_gtrN (m := (l.filter (namedB (lower name))).length) (n := 0) rfl rfl) ?_
  refine jo_pure rfl (pr_assign rfl) ?_
  refine jo_nil ?_
  refine jq_then ?_
  refine jc_ret ?_
  refine j_drop ?_
  refine j_drop ?_
  refine j_drop ?_
  exact jq_ret1 rfl () rfl (show (.bool (decide (0 < (getF l name).length)) : Value) = (.bool (decide ((0 : Nat) < (l.filter (namedB (lower name))).length))) from by rw [← get_filter, List.length_map]) (fun _ h => h)

theorem c_fieldline_Get (l : List ((List UInt8) × (List UInt8))) (lv : Value) (name : List UInt8) (hl : l.length ≤ 1000000) (hm : ∀ x ∈ l, x.1.length ≤ 1000000 ∧ x.2.length ≤ 1000000) (hn : name.length ≤ 1000000) : Con Tryd.prog 52 #[lv, str (name)] [.imm (.list (.pair .str .str)) (lv) (l)] (fun r1 : Value => r1) (fun r1 => [.row r1 9 .str (getF l name)]) := by
  refine con_of_J (args := [lv, str (name)]) (n := 24) Tryd.func52 rfl (Nat.le_of_ble_eq_true rfl) rfl (fun w0 I0 m0 => ?_)
  show J _ [(0, lv), (1, str (name))] [.imm (.list (.pair .str .str)) (lv) (l)] _
  refine jc_seq ?_
  refine jc_region ?_
  refine jo_pure rfl (pr_assign rfl) ?_
  refine jo_nil ?_
  refine jq_then ?_
  refine jc_seq ?_
  refine jc_region ?_
  refine jo_pure rfl (pr_assign rfl) ?_
  refine jo_nil ?_
  refine jq_then ?_
  refine jc_seq ?_
  refine jc_seq ?_
  refine jc_region ?_
  refine jo_pure rfl (pr_move rfl) ?_
  refine jo_pure rfl (pr_move rfl) ?_
  refine jo_callp cal_51 (c_fieldline_named name (by first | omega | exact fun x hx => (hm x hx).1)) ⟨rfl, trivial⟩ rfl (trivial) (fun r1 => ?_)
  show J _ _ [.ibox r1 9 [str (lower name)], .imm (.list (.pair .str .str)) (lv) (l)] _
  refine jo_callp cal_50 (c_filter_named l lv (lower name) r1 (by first | omega | exact fun x hx => (hm x hx).1) (by first | omega | exact fun x hx => (hm x hx).1)) ⟨rfl, rfl, trivial⟩ rfl (⟨⟨rfl, .tail _ (.head _)⟩, ⟨⟨rfl, .head _⟩, trivial⟩⟩) (fun r2 => ?_)
  show J _ _ [.row (r2) 29 (.pair .str .str) (l.filter (namedB (lower name))), .ibox r1 9 [str (lower name)], .imm (.list (.pair .str .str)) (lv) (l)] _
  refine jo_pure rfl (pr_len_row rfl (.head _) Tryd.underlying31) ?_
  refine jo_pure rfl (pr_move rfl) ?_
  refine jo_nil ?_
  refine jq_then ?_
  refine jc_block ?_
  refine j_nil_row 9 .str ?_
  refine jc_loop2 (fun (i : Nat) (v : Value) => [(0, lv), (1, str (name)), (4, .slice none 0 0), (5, v), (8, lv), (9, str (name)), (10, .func (.func 82) #[] #[.pointer (some ⟨r1, 0, none⟩)]), (11, r2), (12, .int .i64 (((l.filter (namedB (lower name))).length : Nat) : Int)), (13, .int .i64 ((i : Nat) : Int))]) (fun (i : Nat) (v : Value) => [.row (v) 9 .str (((l.filter (namedB (lower name))).take i).map (fun x => x.2)), .row (r2) 29 (.pair .str .str) (l.filter (namedB (lower name))), .ibox r1 9 [str (lower name)], .imm (.list (.pair .str .str)) (lv) (l)]) (fun (i : Nat) (v : Value) => i ≤ (l.filter (namedB (lower name))).length) (fun (i : Nat) (v : Value) => (l.filter (namedB (lower name))).length - i) 0 (.slice none 0 0) (Nat.zero_le _) ⟨rfl, rfl, rfl, rfl, rfl, rfl, rfl, rfl, rfl, rfl, trivial⟩ (fun _ h => h) (fun i v hinv => ?_)
  refine jc_seq ?_
  refine jc_region ?_
  refine jo_pure rfl (pr_lssN (m := i) (n := (l.filter (namedB (lower name))).length) rfl rfl) ?_
  refine jo_nil ?_
  refine jq_then ?_
  refine jc_seq ?_
  refine jc_cond rfl (fun h1b => ?_) (fun h1b => ?_)
  · have h1 := of_decide_eq_true h1b
    refine jc_skip ?_
    refine jq_then ?_
    refine jc_seq ?_
    refine jc_block ?_
    refine jc_seq ?_
    refine jc_region ?_
    refine jo_pure rfl (pr_idx_row (i := i) rfl (.tail _ (.head _)) rfl Tryd.underlying31 ty_29 (by omega)) ?_
    refine jo_pure rfl (pr_load_elem_row (i := i) (.agg #[str (((l.filter (namedB (lower name))).getD i ([], [])).1), str (((l.filter (namedB (lower name))).getD i ([], [])).2)]) rfl (.tail _ (.head _)) ty_29 rfl rfl (by omega) rfl) ?_
    refine jo_alloc ty_29 [str ([]), str ([])] rfl rfl (fun b1 => ?_)
    refine jo_store rfl rfl ty_29 [str (((l.filter (namedB (lower name))).getD i ([], [])).1), str (((l.filter (namedB (lower name))).getD i ([], [])).2)] rfl rfl rfl [str (((l.filter (namedB (lower name))).getD i ([], [])).1), str (((l.filter (namedB (lower name))).getD i ([], [])).2)] rfl rfl ?_
    refine jo_nil ?_
    refine jq_then ?_
    refine jc_region ?_
    refine jo_pure rfl (pr_move rfl) ?_
    refine jo_pure rfl (pr_fieldAddr 1 rfl Tryd.underlying29 rfl ty_9 rfl rfl) ?_
    refine jo_pure rfl (pr_load_box (str (((l.filter (namedB (lower name))).getD i ([], [])).2)) rfl ty_9 (.head _) rfl (by decide) rfl) ?_
    refine jo_buildSlice (t := .str) [((l.filter (namedB (lower name))).getD i ([], [])).2] [str (((l.filter (namedB (lower name))).getD i ([], [])).2)] (fun a hf => by simp only [List.zipIdx_cons, List.zipIdx_nil, List.map_toArray, List.map_cons, List.map_nil, hf.ev (show ev _ (.tmp 19) = some (str (((l.filter (namedB (lower name))).getD i ([], [])).2)) from rfl)]) rfl Tryd.underlying22 ty_9 rfl rfl rfl rfl rfl (fun g1 => ?_)
    refine j_pull2 ?_
    refine jo_append rfl rfl Tryd.underlying22 ty_9 rfl (by have := List.length_filter_le (namedB (lower name)) l; simp [maxLen] at *; omega) (by have := List.length_filter_le (namedB (lower name)) l; simp at *; omega) rfl (fun v1 => ?_)
    refine jo_pure rfl (pr_assign rfl) ?_
    refine jo_nil ?_
    refine jq_in_normal ?_
    refine jq_then ?_
    refine jc_region ?_
    refine jo_pure rfl (pr_addN (m := i) (n := 1) rfl rfl (by have h9 := List.length_filter_le (namedB (lower name)) l; omega)) ?_
    refine jo_pure rfl (pr_move rfl) ?_
    refine jo_nil ?_
    refine j_pull1 ?_
    refine j_drop ?_
    refine j_pull3 ?_
    refine j_pull3 ?_
    refine j_pull3 ?_
    refine j_pull3 ?_
    refine jq_round' ((i + 1), v1) (by omega) (by omega) ⟨rfl, rfl, rfl, rfl, rfl, rfl, rfl, rfl, rfl, rfl, trivial⟩ (fun _ h => by rw [map_step (dd := ([], [])) h1]; exact h)
  · have h1 := of_decide_eq_false h1b
    refine jc_exit ?_
    refine jq_then_exit ?_
    refine jq_then_exit ?_
    refine jq_in_hit ?_
    refine jq_then ?_
    refine jc_seq ?_
    refine jc_region ?_
    refine jo_pure rfl (pr_move rfl) ?_
    refine jo_pure rfl (pr_assign rfl) ?_
    refine jo_nil ?_
    refine jq_then ?_
    refine jc_ret ?_
    refine j_pull1 ?_
    refine j_drop ?_
    refine j_pull1 ?_
    refine j_drop ?_
    refine j_pull1 ?_
    refine j_drop ?_
    exact jq_ret1 rfl v rfl (show (v : Value) = (v) from rfl) (fun _ h => by rw [List.take_of_length_le (by omega), get_filter] at h; exact h)
end Go.Proofs.YtikllmfjgpmcnaaDoor
