/-
  Contracts of functions of the program: each returns what a plain function says, for every input within the bounds named. Conditions: the bounds.
-/
import Derived.Test.YtikllmfjgpmcnaaDoorRows
import Derived.Test.YtikllmfjgpmcnaaDoorL16
import Derived.Test.YtikllmfjgpmcnaaDoorLaw14D
namespace Go.Proofs.YtikllmfjgpmcnaaDoor
open Go Go.Sep
set_option linter.unusedSimpArgs false
set_option linter.unusedVariables false

open Go.Plain



set_option maxHeartbeats 2000000 in
theorem c_law14_RankOrderless (kind : Int) (l : List ((List UInt8) × Int)) (lv : Value) (ixx : Int) (kxx : Int) (value : List UInt8) (hl : l.length ≤ 9223372036854775807) : Con Tryd.prog 8 #[.int .i64 (kind), lv, .int .i64 (ixx), .int .i64 (kxx), str (value)] [.imm (.list (.pair .str (.int .i64))) (lv) (l)] (fun _ : Unit => .bool (true)) (fun _ => []) := by
  refine con_of_J (args := [.int .i64 (kind), lv, .int .i64 (ixx), .int .i64 (kxx), str (value)]) (n := 109) Tryd.func8 rfl (Nat.le_of_ble_eq_true rfl) rfl (fun w0 I0 m0 => ?_)
  show J _ [(0, .int .i64 (kind)), (1, lv), (2, .int .i64 (ixx)), (3, .int .i64 (kxx)), (4, str (value))] [.imm (.list (.pair .str (.int .i64))) (lv) (l)] _
  refine jc_seq ?_
  refine jc_region ?_
  refine jo_pure rfl (pr_assign rfl) ?_
  refine jo_nil ?_
  refine jq_then ?_
  refine jc_seq ?_
  refine jc_seq ?_
  refine jc_region ?_
  refine jo_pure rfl (pr_move rfl) ?_
  refine jo_callp cal_19 (c_keep_Prefs l lv (by first | omega | exact hml | exact hmm | exact hml _ (getD_mem h2) | exact hml _ (getD_mem (by omega)) | (simp only [List.nil_append, List.length_set]; omega))) ⟨rfl, trivial⟩ rfl (⟨⟨rfl, .head _⟩, trivial⟩) (fun _ => ?_)
  refine jo_pure rfl (pr_not rfl) ?_
  refine jo_pure rfl (pr_move rfl) ?_
  refine jo_gpure (j := 3) (want := false) rfl rfl rfl rfl (fun hg => pr_move rfl) ?_
  refine jo_gpure (j := 3) (want := false) rfl rfl rfl rfl (fun hg => pr_slen (evg rfl hg) Tryd.underlying9) ?_
  refine jo_gpure (j := 3) (want := false) rfl rfl rfl rfl (fun hg => pr_gtrN (m := value.length) (n := 100) (evg rfl hg) rfl) ?_
  refine jo_pure rfl (pr_pick_or rfl rfl rfl) ?_
  refine jo_pure rfl (pr_move rfl) ?_
  refine jo_gpure (j := 8) (want := false) rfl rfl rfl rfl (fun hg => pr_move rfl) ?_
  refine jo_gpure (j := 8) (want := false) rfl rfl rfl rfl (fun hg => pr_lss (n := 0) (evg rfl hg) rfl) ?_
  refine jo_pure rfl (pr_pick_or rfl rfl rfl) ?_
  refine jo_pure rfl (pr_move rfl) ?_
  refine jo_gpure (j := 12) (want := false) rfl rfl rfl rfl (fun hg => pr_move rfl) ?_
  refine jo_gpure (j := 12) (want := false) rfl rfl rfl rfl (fun hg => pr_move rfl) ?_
  refine jo_gpure (j := 12) (want := false) rfl rfl rfl rfl (fun hg => pr_len_imm (evg rfl hg) (.head _) Tryd.underlying25) ?_
  refine jo_gpure (j := 12) (want := false) rfl rfl rfl rfl (fun hg => pr_geq (n := ((l.length : Nat) : Int)) (evg rfl hg) (evg rfl hg)) ?_
  refine jo_pure rfl (pr_pick_or rfl rfl rfl) ?_
  refine jo_pure rfl (pr_move rfl) ?_
  refine jo_gpure (j := 18) (want := false) rfl rfl rfl rfl (fun hg => pr_move rfl) ?_
  refine jo_gpure (j := 18) (want := false) rfl rfl rfl rfl (fun hg => pr_lss (n := 0) (evg rfl hg) rfl) ?_
  refine jo_pure rfl (pr_pick_or rfl rfl rfl) ?_
  refine jo_pure rfl (pr_move rfl) ?_
  refine jo_gpure (j := 22) (want := false) rfl rfl rfl rfl (fun hg => pr_move rfl) ?_
  refine jo_gpure (j := 22) (want := false) rfl rfl rfl rfl (fun hg => pr_move rfl) ?_
  refine jo_gpure (j := 22) (want := false) rfl rfl rfl rfl (fun hg => pr_len_imm (evg rfl hg) (.head _) Tryd.underlying25) ?_
  refine jo_gpure (j := 22) (want := false) rfl rfl rfl rfl (fun hg => pr_geq (n := ((l.length : Nat) : Int)) (evg rfl hg) (evg rfl hg)) ?_
  refine jo_pure rfl (pr_pick_or rfl rfl rfl) ?_
  refine jo_nil ?_
  refine jq_then ?_
  refine jc_cond rfl (fun h1b => ?_) (fun h1b => ?_)
  · have h1 := (fun q => Or.imp (fun q => Or.imp (fun q => Or.imp (fun q => Or.imp (fun q => Or.imp (fun q => id (bt_not q)) of_decide_eq_true (bt_or q)) of_decide_eq_true (bt_or q)) of_decide_eq_true (bt_or q)) of_decide_eq_true (bt_or q)) of_decide_eq_true (bt_or q)) h1b
    refine jc_seq ?_
    refine jc_region ?_
    refine jo_pure rfl (pr_assign rfl) ?_
    refine jo_nil ?_
    refine jq_then ?_
    refine jc_ret ?_
    refine jq_then_ret ?_
    refine j_drop ?_
    exact jq_ret1 rfl () rfl (show (.bool (true) : Value) = (.bool (true)) from rfl) (fun _ h => h)
  · have h1 := (fun q => And.imp (fun q => And.imp (fun q => And.imp (fun q => And.imp (fun q => And.imp (fun q => id (bf_not q)) of_decide_eq_false (bf_or q)) of_decide_eq_false (bf_or q)) of_decide_eq_false (bf_or q)) of_decide_eq_false (bf_or q)) of_decide_eq_false (bf_or q)) h1b
    have hkeep : keepR l = true := h1.1.1.1.1.1
    have hlen := keepR_len hkeep
    have hvl := h1.1.1.1.1.2
    have hml : ∀ x ∈ l, x.1.length ≤ 1000000 := fun x hx => by have := keepR_mem hkeep x hx; omega
    have hil : ixx.toNat < l.length := by omega
    have hkl : kxx.toNat < l.length := by omega
    refine jc_skip ?_
    refine jq_then ?_
    refine jc_seq ?_
    refine jc_seq ?_
    refine jc_region ?_
    refine jo_pure rfl (pr_assign rfl) ?_
    refine jo_nil ?_
    refine jq_then ?_
    refine jc_block ?_
    refine jc_loop (fun (x : Nat) => [(0, .int .i64 (kind)), (1, lv), (2, .int .i64 (ixx)), (3, .int .i64 (kxx)), (4, str (value)), (11, .int .i64 ((x : Nat) : Int))]) (fun (x : Nat) => [.imm (.list (.pair .str (.int .i64))) (lv) (l)]) (fun (x : Nat) => x ≤ l.length ∧ ∀ a : Nat, a < x → ∀ b : Nat, b < a → ¬ (0 ≤ (matchK kind (l.getD a ([], 0)).1 value) ∧ (matchK kind (l.getD a ([], 0)).1 value) = (matchK kind (l.getD b ([], 0)).1 value))) (fun (x : Nat) => l.length - x) 0 (⟨Nat.zero_le _, fun a h => absurd h (Nat.not_lt_zero _)⟩) (⟨rfl, rfl, rfl, rfl, rfl, rfl, trivial⟩) (fun _ h => h) (fun x hinv => ?_)
    refine jc_seq ?_
    refine jc_seq ?_
    refine jc_region ?_
    refine jo_pure rfl (pr_move rfl) ?_
    refine jo_pure rfl (pr_move rfl) ?_
    refine jo_pure rfl (pr_len_imm rfl (.head _) Tryd.underlying25) ?_
    refine jo_pure rfl (pr_lssN (m := x) (n := l.length) rfl rfl) ?_
    refine jo_nil ?_
    refine jq_then ?_
    refine jc_cond rfl (fun h2b => ?_) (fun h2b => ?_)
    · have h2 := of_decide_eq_true h2b
      refine jc_skip ?_
      refine jq_then ?_
      refine jc_seq ?_
      refine jc_block ?_
      refine jc_seq ?_
      refine jc_region ?_
      refine jo_pure rfl (pr_assign rfl) ?_
      refine jo_nil ?_
      refine jq_then ?_
      refine jc_block ?_
      refine jc_loop (fun (y : Nat) => [(0, .int .i64 (kind)), (1, lv), (2, .int .i64 (ixx)), (3, .int .i64 (kxx)), (4, str (value)), (11, .int .i64 ((x : Nat) : Int)), (12, .int .i64 ((y : Nat) : Int))]) (fun (y : Nat) => [.imm (.list (.pair .str (.int .i64))) (lv) (l)]) (fun (y : Nat) => y ≤ x ∧ ∀ b : Nat, b < y → ¬ (0 ≤ (matchK kind (l.getD x ([], 0)).1 value) ∧ (matchK kind (l.getD x ([], 0)).1 value) = (matchK kind (l.getD b ([], 0)).1 value))) (fun (y : Nat) => x - y) 0 (⟨Nat.zero_le _, fun a h => absurd h (Nat.not_lt_zero _)⟩) (⟨rfl, rfl, rfl, rfl, rfl, rfl, rfl, trivial⟩) (fun _ h => h) (fun y hink => ?_)
      refine jc_seq ?_
      refine jc_seq ?_
      refine jc_region ?_
      refine jo_pure rfl (pr_move rfl) ?_
      refine jo_pure rfl (pr_move rfl) ?_
      refine jo_pure rfl (pr_lssN (m := y) (n := x) rfl rfl) ?_
      refine jo_nil ?_
      refine jq_then ?_
      refine jc_cond rfl (fun h3b => ?_) (fun h3b => ?_)
      · have h3 := of_decide_eq_true h3b
        refine jc_skip ?_
        refine jq_then ?_
        refine jc_seq ?_
        refine jc_block ?_
        refine jc_seq ?_
        refine jc_draws mixed (by kernel_rfl) ?_
        refine jd_pure rfl (pr_move rfl) ?_
        refine jd_pure rfl (pr_move rfl) ?_
        refine jd_pure rfl (pr_move rfl) ?_
        refine jd_pure rfl (pr_idx_imm (i := x) rfl (.head _) rfl Tryd.underlying25 ty_45 (by first | omega | (simp only [List.nil_append, List.length_set]; omega))) ?_
        refine jd_pure rfl (pr_fieldAddr_imm (i := x) rfl (.head _) Tryd.underlying45 rfl ty_9 rfl rfl (by first | omega | (simp only [List.nil_append, List.length_set]; omega))) ?_
        refine jd_pure rfl (pr_load_off_imm (i := x) (o := 0) (dd := ([], 0)) (str ((l.getD x ([], 0)).1)) rfl (.head _) ty_9 rfl (by decide) rfl (by first | omega | (simp only [List.nil_append, List.length_set]; omega)) rfl) ?_
        refine jd_pure rfl (pr_move rfl) ?_
        refine jd_callp cal_25 (c_ref10_Match kind ((l.getD x ([], 0)).1) value (by first | omega | exact hml | exact hmm | exact hml _ (getD_mem h2) | exact hml _ (getD_mem (by omega)) | (simp only [List.nil_append, List.length_set]; omega)) (by first | omega | exact hml | exact hmm | exact hml _ (getD_mem h2) | exact hml _ (getD_mem (by omega)) | (simp only [List.nil_append, List.length_set]; omega))) ⟨rfl, rfl, rfl, trivial⟩ rfl (trivial) ?_
        refine jd_pure rfl (pr_geq (n := 0) rfl rfl) ?_
        refine jd_pure rfl (pr_move rfl) ?_
        refine jd_gpure (j := 9) (want := true) rfl rfl rfl rfl (fun hg => pr_move rfl) ?_
        refine jd_gpure (j := 9) (want := true) rfl rfl rfl rfl (fun hg => pr_move rfl) ?_
        refine jd_gpure (j := 9) (want := true) rfl rfl rfl rfl (fun hg => pr_move rfl) ?_
        refine jd_gpure (j := 9) (want := true) rfl rfl rfl rfl (fun hg => pr_idx_imm (i := x) (evg rfl hg) (.head _) (evg rfl hg) Tryd.underlying25 ty_45 (by first | omega | (simp only [List.nil_append, List.length_set]; omega))) ?_
        refine jd_gpure (j := 9) (want := true) rfl rfl rfl rfl (fun hg => pr_fieldAddr_imm (i := x) (evg rfl hg) (.head _) Tryd.underlying45 rfl ty_9 rfl rfl (by first | omega | (simp only [List.nil_append, List.length_set]; omega))) ?_
        refine jd_gpure (j := 9) (want := true) rfl rfl rfl rfl (fun hg => pr_load_off_imm (i := x) (o := 0) (dd := ([], 0)) (str ((l.getD x ([], 0)).1)) (evg rfl hg) (.head _) ty_9 rfl (by decide) rfl (by first | omega | (simp only [List.nil_append, List.length_set]; omega)) rfl) ?_
        refine jd_gpure (j := 9) (want := true) rfl rfl rfl rfl (fun hg => pr_move rfl) ?_
        refine jd_gcall (j := 9) (want := true) rfl rfl rfl cal_25 (fun hg => c_ref10_Match kind ((l.getD x ([], 0)).1) value (by first | omega | exact hml | exact hmm | exact hml _ (getD_mem h2) | exact hml _ (getD_mem (by omega)) | (simp only [List.nil_append, List.length_set]; omega)) (by first | omega | exact hml | exact hmm | exact hml _ (getD_mem h2) | exact hml _ (getD_mem (by omega)) | (simp only [List.nil_append, List.length_set]; omega))) (fun hg => ⟨evg rfl hg, evg rfl hg, evg rfl hg, trivial⟩) rfl (fun _ => trivial) ?_
        refine jd_gpure (j := 9) (want := true) rfl rfl rfl rfl (fun hg => pr_move rfl) ?_
        refine jd_gpure (j := 9) (want := true) rfl rfl rfl rfl (fun hg => pr_move rfl) ?_
        refine jd_gpure (j := 9) (want := true) rfl rfl rfl rfl (fun hg => pr_move rfl) ?_
        refine jd_gpure (j := 9) (want := true) rfl rfl rfl rfl (fun hg => pr_idx_imm (i := y) (evg rfl hg) (.head _) (evg rfl hg) Tryd.underlying25 ty_45 (by first | omega | (simp only [List.nil_append, List.length_set]; omega))) ?_
        refine jd_gpure (j := 9) (want := true) rfl rfl rfl rfl (fun hg => pr_fieldAddr_imm (i := y) (evg rfl hg) (.head _) Tryd.underlying45 rfl ty_9 rfl rfl (by first | omega | (simp only [List.nil_append, List.length_set]; omega))) ?_
        refine jd_gpure (j := 9) (want := true) rfl rfl rfl rfl (fun hg => pr_load_off_imm (i := y) (o := 0) (dd := ([], 0)) (str ((l.getD y ([], 0)).1)) (evg rfl hg) (.head _) ty_9 rfl (by decide) rfl (by first | omega | (simp only [List.nil_append, List.length_set]; omega)) rfl) ?_
        refine jd_gpure (j := 9) (want := true) rfl rfl rfl rfl (fun hg => pr_move rfl) ?_
        refine jd_gcall (j := 9) (want := true) rfl rfl rfl cal_25 (fun hg => c_ref10_Match kind ((l.getD y ([], 0)).1) value (by first | omega | exact hml | exact hmm | exact hml _ (getD_mem h2) | exact hml _ (getD_mem (by omega)) | (simp only [List.nil_append, List.length_set]; omega)) (by first | omega | exact hml | exact hmm | exact hml _ (getD_mem h2) | exact hml _ (getD_mem (by omega)) | (simp only [List.nil_append, List.length_set]; omega))) (fun hg => ⟨evg rfl hg, evg rfl hg, evg rfl hg, trivial⟩) rfl (fun _ => trivial) ?_
        refine jd_gpure (j := 9) (want := true) rfl rfl rfl rfl (fun hg => pr_eql (evg rfl hg) (evg rfl hg)) ?_
        refine jd_pure rfl (pr_pick_and rfl rfl rfl) ?_
        refine jd_nil ?_
        refine jq_then ?_
        refine jc_cond rfl (fun h4b => ?_) (fun h4b => ?_)
        · have h4 := (fun q => And.imp of_decide_eq_true of_decide_eq_true (bt_and q)) h4b
          refine jc_seq ?_
          refine jc_region ?_
          refine jo_pure rfl (pr_assign rfl) ?_
          refine jo_nil ?_
          refine jq_then ?_
          refine jc_ret ?_
          refine jq_in_ret ?_
          refine jq_then_ret ?_
          refine jq_then_ret ?_
          refine jq_in_ret ?_
          refine jq_in_ret ?_
          refine jq_then_ret ?_
          refine jq_then_ret ?_
          refine jq_in_ret ?_
          refine jq_then_ret ?_
          refine j_drop ?_
          exact jq_ret1 rfl () rfl (show (.bool (true) : Value) = (.bool (true)) from rfl) (fun _ h => h)
        · have h4 := (fun q => Or.imp of_decide_eq_false of_decide_eq_false (bf_and q)) h4b
          refine jc_skip ?_
          refine jq_in_normal ?_
          refine jq_then ?_
          refine jc_region ?_
          refine jo_pure rfl (pr_move rfl) ?_
          refine jo_pure rfl (pr_addN (m := y) (n := 1) rfl rfl (by omega)) ?_
          refine jo_pure rfl (pr_assign rfl) ?_
          refine jo_nil ?_
          refine jq_round' (y + 1) (by (try dsimp only); exact (⟨by omega, fun b hb => by rcases Nat.lt_or_ge b y with q | q; exact hink.2 b q; have e : b = y := (by omega); subst e; exact fun e2 => h4.elim (fun z => z e2.1) (fun z => z e2.2)⟩)) (by (try dsimp only); exact (by omega)) ⟨rfl, rfl, rfl, rfl, rfl, rfl, rfl, trivial⟩ (fun _ h => h)
      · have h3 := of_decide_eq_false h3b
        refine jc_exit ?_
        refine jq_then_exit ?_
        refine jq_then_exit ?_
        refine jq_in_hit ?_
        refine jq_in_normal ?_
        refine jq_then ?_
        refine jc_region ?_
        refine jo_pure rfl (pr_move rfl) ?_
        refine jo_pure rfl (pr_addN (m := x) (n := 1) rfl rfl (by omega)) ?_
        refine jo_pure rfl (pr_assign rfl) ?_
        refine jo_nil ?_
        refine jq_round' (x + 1) (by (try dsimp only); exact (⟨by omega, fun a ha b hb => by rcases Nat.lt_or_ge a x with q | q; exact hinv.2 a q b hb; have e : a = x := (by omega); subst e; exact hink.2 b (by omega)⟩)) (by (try dsimp only); exact (by omega)) ⟨rfl, rfl, rfl, rfl, rfl, rfl, trivial⟩ (fun _ h => h)
    · have h2 := of_decide_eq_false h2b
      have hdist := dist_of (kind := kind) (v := value) (l := l) (fun x hx => hinv.2 x (by omega))
      have hsame := qual_same (kind := kind) (v := value) (swap_mem hil hkl) hdist
      have hsame2 : qualF kind l true value = qualF kind ((([] ++ l).set ixx.toNat (([] ++ l).getD kxx.toNat ([], 0))).set kxx.toNat (([] ++ l).getD ixx.toNat ([], 0))) true value := by rw [List.nil_append]; exact hsame
      have hmm : ∀ x ∈ (l.set ixx.toNat (l.getD kxx.toNat ([], 0))).set kxx.toNat (l.getD ixx.toNat ([], 0)), x.1.length ≤ 1000000 := fun x hx => hml x ((swap_mem hil hkl x).1 hx)
      rw [show (ixx : Int) = ((ixx.toNat : Nat) : Int) from by omega]
      rw [show (kxx : Int) = ((kxx.toNat : Nat) : Int) from by omega]
      refine jc_exit ?_
      refine jq_then_exit ?_
      refine jq_then_exit ?_
      refine jq_in_hit ?_
      refine jq_then ?_
      refine jc_seq ?_
      refine jc_region ?_
      refine jo_pure rfl (pr_move rfl) ?_
      refine j_nil_row 45 (.pair .str (.int .i64)) ?_
      refine jo_append_imm rfl rfl (.head _) Tryd.underlying25 ty_45 rfl (by first | omega | (simp only [List.length_append, List.length_cons, List.length_nil, maxLen]; omega)) (by first | omega | (simp only [List.length_append, List.length_cons, List.length_nil, maxLen]; omega)) rfl (fun v1 => ?_)
      refine jo_pure rfl (pr_assign rfl) ?_
      refine jo_nil ?_
      refine jq_then ?_
      refine jc_seq ?_
      refine j_open_row (by simp only [List.nil_append]; omega) (fun g1 cap1 hv_ => ?_)
      subst hv_
      refine jc_held (fun (_ : Unit) => [(0, .int .i64 (kind)), (1, lv), (4, str (value)), (13, .slice (some ⟨g1, 0, none⟩) (([] ++ l).length) (cap1))]) (fun _ => [.rowg g1 (cap1) 45 (.pair .str (.int .i64)) ((([] ++ l).set ixx.toNat (([] ++ l).getD kxx.toNat ([], 0))).set kxx.toNat (([] ++ l).getD ixx.toNat ([], 0))), .imm (.list (.pair .str (.int .i64))) (lv) (l)]) [.imm (.list (.pair .str (.int .i64))) (lv) (l)] mixed (fun lst hlst => ?_) (fun _ => ?_)
      · subst hlst
        refine jh_take (listed' := #[true, false, false, false, false, false, false, false, false, false, false, false, false, false, false, false]) 0 rfl (by kernel_rfl) (by kernel_rfl) (by kernel_rfl) rfl (pr_move rfl) (fun _ h => Mem.drop1 (h)) rfl ?_
        refine jh_take (listed' := #[true, true, false, false, false, false, false, false, false, false, false, false, false, false, false, false]) 1 rfl (by kernel_rfl) (by kernel_rfl) (by kernel_rfl) rfl (pr_move rfl) (fun _ h => Mem.drop1 (h)) rfl ?_
        refine jh_take (listed' := #[true, true, true, false, false, false, false, false, false, false, false, false, false, false, false, false]) 2 rfl (by kernel_rfl) (by kernel_rfl) (by kernel_rfl) rfl (pr_move rfl) (fun _ h => Mem.drop1 (h)) rfl ?_
        refine jh_take (listed' := #[true, true, true, true, false, false, false, false, false, false, false, false, false, false, false, false]) 3 rfl (by kernel_rfl) (by kernel_rfl) (by kernel_rfl) rfl (pr_move rfl) (fun _ h => Mem.drop1 (h)) rfl ?_
        refine jh_take (listed' := #[true, true, true, true, true, false, false, false, false, false, false, false, false, false, false, false]) 4 rfl (by kernel_rfl) (by kernel_rfl) (by kernel_rfl) rfl (pr_move rfl) (fun _ h => Mem.drop1 (h)) rfl ?_
        refine jh_take (listed' := #[true, true, true, true, true, true, false, false, false, false, false, false, false, false, false, false]) 5 rfl (by kernel_rfl) (by kernel_rfl) (by kernel_rfl) rfl (pr_move rfl) (fun _ h => Mem.drop1 (h)) rfl ?_
        refine jh_take (listed' := #[true, true, true, true, true, true, true, false, false, false, false, false, false, false, false, false]) 6 rfl (by kernel_rfl) (by kernel_rfl) (by kernel_rfl) rfl (pr_idx (i := kxx.toNat) (kxx.toNat * 2) rfl rfl Tryd.underlying25 ty_45 (by first | omega | (simp only [List.nil_append, List.length_set]; omega)) (by first | rfl | (simp only [Nat.zero_add, Nat.mul_one]))) (fun _ h => Mem.drop1 (h)) rfl ?_
        refine jh_take (listed' := #[true, true, true, true, true, true, true, false, true, false, false, false, false, false, false, false]) 8 rfl (by kernel_rfl) (by kernel_rfl) (by kernel_rfl) rfl (pr_move rfl) (fun _ h => Mem.drop1 (h)) rfl ?_
        refine jh_take (listed' := #[true, true, true, true, true, true, true, false, true, true, false, false, false, false, false, false]) 9 rfl (by kernel_rfl) (by kernel_rfl) (by kernel_rfl) rfl (pr_move rfl) (fun _ h => Mem.drop1 (h)) rfl ?_
        refine jh_take (listed' := #[true, true, true, true, true, true, true, false, true, true, true, false, false, false, false, false]) 10 rfl (by kernel_rfl) (by kernel_rfl) (by kernel_rfl) rfl (pr_idx (i := ixx.toNat) (ixx.toNat * 2) rfl rfl Tryd.underlying25 ty_45 (by first | omega | (simp only [List.nil_append, List.length_set]; omega)) (by first | rfl | (simp only [Nat.zero_add, Nat.mul_one]))) (fun _ h => Mem.drop1 (h)) rfl ?_
        refine jh_all [7, 11] (by kernel_rfl) (by simp) (fun i hi => ?_)
        simp only [List.mem_cons, List.not_mem_nil, or_false] at hi
        rcases hi with rfl | rfl
        · refine jh_op rfl ?_
          refine jo_pure rfl (pr_load_rowD (.agg #[str ((([] ++ l).getD kxx.toNat ([], 0)).1), .int .i64 ((([] ++ l).getD kxx.toNat ([], 0)).2)]) false rfl ty_45 rfl rfl (.head _) (by first | omega | (simp only [List.nil_append, List.length_set]; omega)) (by first | rfl | exact Nat.mul_one _) rfl) ?_
          refine jh_in (listed' := #[true, true, true, true, true, true, true, true, true, true, true, false, false, false, false, false]) (fun _ h => Mem.drop1 (h)) rfl ?_
          refine jh_all [11] (by kernel_rfl) (by simp) (fun i hi => ?_)
          simp only [List.mem_cons, List.not_mem_nil, or_false] at hi
          subst hi
          · refine jh_op rfl ?_
            refine jo_pure rfl (pr_load_rowD (.agg #[str ((([] ++ l).getD ixx.toNat ([], 0)).1), .int .i64 ((([] ++ l).getD ixx.toNat ([], 0)).2)]) false rfl ty_45 rfl rfl (.head _) (by first | omega | (simp only [List.nil_append, List.length_set]; omega)) (by first | rfl | exact Nat.mul_one _) rfl) ?_
            refine jh_in (listed' := #[true, true, true, true, true, true, true, true, true, true, true, true, false, false, false, false]) (fun _ h => Mem.drop1 (h)) rfl ?_
            refine jh_take (listed' := #[true, true, true, true, true, true, true, true, true, true, true, true, true, false, false, false]) 12 rfl (by kernel_rfl) (by kernel_rfl) (by kernel_rfl) rfl (pr_idx (i := ixx.toNat) (ixx.toNat * 2) rfl rfl Tryd.underlying25 ty_45 (by first | omega | (simp only [List.nil_append, List.length_set]; omega)) (by first | rfl | (simp only [Nat.zero_add, Nat.mul_one]))) (fun _ h => Mem.drop1 (h)) rfl ?_
            refine jh_all [13] (by kernel_rfl) (by simp) (fun i hi => ?_)
            simp only [List.mem_cons, List.not_mem_nil, or_false] at hi
            subst hi
            · refine jh_op rfl ?_
              refine jo_store_g (i := ixx.toNat) ((([] ++ l).getD kxx.toNat ([], 0))) rfl rfl ty_45 rfl (by first | omega | (simp only [List.nil_append, List.length_set]; omega)) (by first | rfl | exact Nat.mul_one _) rfl ?_
              refine jh_in (listed' := #[true, true, true, true, true, true, true, true, true, true, true, true, true, true, false, false]) (fun _ h => Mem.drop1 (h)) rfl ?_
              refine jh_take (listed' := #[true, true, true, true, true, true, true, true, true, true, true, true, true, true, true, false]) 14 rfl (by kernel_rfl) (by kernel_rfl) (by kernel_rfl) rfl (pr_idx (i := kxx.toNat) (kxx.toNat * 2) rfl rfl Tryd.underlying25 ty_45 (by first | omega | (simp only [List.nil_append, List.length_set]; omega)) (by first | rfl | (simp only [Nat.zero_add, Nat.mul_one]))) (fun _ h => Mem.drop1 (h)) rfl ?_
              refine jh_all [15] (by kernel_rfl) (by simp) (fun i hi => ?_)
              simp only [List.mem_cons, List.not_mem_nil, or_false] at hi
              subst hi
              · refine jh_op rfl ?_
                refine jo_store_g (i := kxx.toNat) ((([] ++ l).getD ixx.toNat ([], 0))) rfl rfl ty_45 rfl (by first | omega | (simp only [List.nil_append, List.length_set]; omega)) (by first | rfl | exact Nat.mul_one _) rfl ?_
                refine jh_in (listed' := #[true, true, true, true, true, true, true, true, true, true, true, true, true, true, true, true]) (fun _ h => Mem.drop1 (h)) rfl ?_
                show J _ _ _ _
                refine j_pull1 ?_
                refine j_pull1 ?_
                show JH _ _ _ _ _ _ _ _
                exact jh_done () (by kernel_rfl) ⟨rfl, rfl, rfl, rfl, trivial⟩ (fun _ h => h)
        · refine jh_op rfl ?_
          refine jo_pure rfl (pr_load_rowD (.agg #[str ((([] ++ l).getD ixx.toNat ([], 0)).1), .int .i64 ((([] ++ l).getD ixx.toNat ([], 0)).2)]) false rfl ty_45 rfl rfl (.head _) (by first | omega | (simp only [List.nil_append, List.length_set]; omega)) (by first | rfl | exact Nat.mul_one _) rfl) ?_
          refine jh_in (listed' := #[true, true, true, true, true, true, true, false, true, true, true, true, false, false, false, false]) (fun _ h => Mem.drop1 (h)) rfl ?_
          refine jh_all [7] (by kernel_rfl) (by simp) (fun i hi => ?_)
          simp only [List.mem_cons, List.not_mem_nil, or_false] at hi
          subst hi
          · refine jh_op rfl ?_
            refine jo_pure rfl (pr_load_rowD (.agg #[str ((([] ++ l).getD kxx.toNat ([], 0)).1), .int .i64 ((([] ++ l).getD kxx.toNat ([], 0)).2)]) false rfl ty_45 rfl rfl (.head _) (by first | omega | (simp only [List.nil_append, List.length_set]; omega)) (by first | rfl | exact Nat.mul_one _) rfl) ?_
            refine jh_in (listed' := #[true, true, true, true, true, true, true, true, true, true, true, true, false, false, false, false]) (fun _ h => Mem.drop1 (h)) rfl ?_
            refine jh_take (listed' := #[true, true, true, true, true, true, true, true, true, true, true, true, true, false, false, false]) 12 rfl (by kernel_rfl) (by kernel_rfl) (by kernel_rfl) rfl (pr_idx (i := ixx.toNat) (ixx.toNat * 2) rfl rfl Tryd.underlying25 ty_45 (by first | omega | (simp only [List.nil_append, List.length_set]; omega)) (by first | rfl | (simp only [Nat.zero_add, Nat.mul_one]))) (fun _ h => Mem.drop1 (h)) rfl ?_
            refine jh_all [13] (by kernel_rfl) (by simp) (fun i hi => ?_)
            simp only [List.mem_cons, List.not_mem_nil, or_false] at hi
            subst hi
            · refine jh_op rfl ?_
              refine jo_store_g (i := ixx.toNat) ((([] ++ l).getD kxx.toNat ([], 0))) rfl rfl ty_45 rfl (by first | omega | (simp only [List.nil_append, List.length_set]; omega)) (by first | rfl | exact Nat.mul_one _) rfl ?_
              refine jh_in (listed' := #[true, true, true, true, true, true, true, true, true, true, true, true, true, true, false, false]) (fun _ h => Mem.drop1 (h)) rfl ?_
              refine jh_take (listed' := #[true, true, true, true, true, true, true, true, true, true, true, true, true, true, true, false]) 14 rfl (by kernel_rfl) (by kernel_rfl) (by kernel_rfl) rfl (pr_idx (i := kxx.toNat) (kxx.toNat * 2) rfl rfl Tryd.underlying25 ty_45 (by first | omega | (simp only [List.nil_append, List.length_set]; omega)) (by first | rfl | (simp only [Nat.zero_add, Nat.mul_one]))) (fun _ h => Mem.drop1 (h)) rfl ?_
              refine jh_all [15] (by kernel_rfl) (by simp) (fun i hi => ?_)
              simp only [List.mem_cons, List.not_mem_nil, or_false] at hi
              subst hi
              · refine jh_op rfl ?_
                refine jo_store_g (i := kxx.toNat) ((([] ++ l).getD ixx.toNat ([], 0))) rfl rfl ty_45 rfl (by first | omega | (simp only [List.nil_append, List.length_set]; omega)) (by first | rfl | exact Nat.mul_one _) rfl ?_
                refine jh_in (listed' := #[true, true, true, true, true, true, true, true, true, true, true, true, true, true, true, true]) (fun _ h => Mem.drop1 (h)) rfl ?_
                show J _ _ _ _
                refine j_pull1 ?_
                refine j_pull1 ?_
                show JH _ _ _ _ _ _ _ _
                exact jh_done () (by kernel_rfl) ⟨rfl, rfl, rfl, rfl, trivial⟩ (fun _ h => h)
      · skip
        refine jq_then ?_
        refine jc_seq ?_
        refine jc_region ?_
        refine jo_pure rfl (pr_move rfl) ?_
        refine jo_pure rfl (pr_move rfl) ?_
        refine jo_pure rfl (pr_move rfl) ?_
        refine jo_callp cal_20 (c_rank_Quality kind l lv true value (by first | omega | exact hml | exact hmm | exact hml _ (getD_mem h2) | exact hml _ (getD_mem (by omega)) | (simp only [List.nil_append, List.length_set]; omega)) (by first | omega | exact hml | exact hmm | exact hml _ (getD_mem h2) | exact hml _ (getD_mem (by omega)) | (simp only [List.nil_append, List.length_set]; omega)) (by first | omega | exact hml | exact hmm | exact hml _ (getD_mem h2) | exact hml _ (getD_mem (by omega)) | (simp only [List.nil_append, List.length_set]; omega))) ⟨rfl, rfl, rfl, rfl, trivial⟩ rfl (⟨⟨rfl, .tail _ (.head _)⟩, trivial⟩) (fun _ => ?_)
        refine jo_pure rfl (pr_move rfl) ?_
        refine jo_pure rfl (pr_move rfl) ?_
        refine jo_pure rfl (pr_move rfl) ?_
        have hlen_ : ([] ++ l).length = ((([] ++ l).set ixx.toNat (([] ++ l).getD kxx.toNat ([], 0))).set kxx.toNat (([] ++ l).getD ixx.toNat ([], 0))).length := by simp only [List.length_set]
        rw [hlen_]
        refine j_pub_rowg ?_
        refine jo_callp cal_20 (c_rank_Quality kind ((([] ++ l).set ixx.toNat (([] ++ l).getD kxx.toNat ([], 0))).set kxx.toNat (([] ++ l).getD ixx.toNat ([], 0))) (.slice (some ⟨g1, 0, none⟩) ((([] ++ l).set ixx.toNat (([] ++ l).getD kxx.toNat ([], 0))).set kxx.toNat (([] ++ l).getD ixx.toNat ([], 0))).length (cap1)) true value (by first | omega | exact hml | exact hmm | exact hml _ (getD_mem h2) | exact hml _ (getD_mem (by omega)) | (simp only [List.nil_append, List.length_set]; omega)) (by first | omega | exact hml | exact hmm | exact hml _ (getD_mem h2) | exact hml _ (getD_mem (by omega)) | (simp only [List.nil_append, List.length_set]; omega)) (by first | omega | exact hml | exact hmm | exact hml _ (getD_mem h2) | exact hml _ (getD_mem (by omega)) | (simp only [List.nil_append, List.length_set]; omega))) ⟨rfl, rfl, rfl, rfl, trivial⟩ rfl (⟨⟨rfl, .head _⟩, trivial⟩) (fun _ => ?_)
        refine jo_pure rfl (pr_eql rfl rfl) ?_
        refine jo_pure rfl (pr_move rfl) ?_
        refine jo_gcall (j := 9) (want := true) rfl rfl rfl cal_22 (fun hg => c_law14_awake) (fun hg => trivial) rfl (fun _ => trivial) ?_
        refine jo_pure rfl (pr_pick_and rfl rfl rfl) ?_
        refine jo_pure rfl (pr_assign rfl) ?_
        refine jo_nil ?_
        refine jq_then ?_
        refine jc_ret ?_
        refine j_drop ?_
        refine j_drop ?_
        exact jq_ret1 rfl () rfl (show (.bool (true) : Value) = (.bool ((decide ((qualF kind l true value : Int) = qualF kind ((([] ++ l).set ixx.toNat (([] ++ l).getD kxx.toNat ([], 0))).set kxx.toNat (([] ++ l).getD ixx.toNat ([], 0))) true value) && true))) from congrArg Value.bool (by rw [← hsame2, decide_eq_true rfl]; rfl)) (fun _ h => h)
end Go.Proofs.YtikllmfjgpmcnaaDoor
