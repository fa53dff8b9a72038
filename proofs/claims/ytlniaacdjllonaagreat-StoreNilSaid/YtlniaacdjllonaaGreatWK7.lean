/-
 Contracts of functions of the program: each returns what a plain function says, for every input within the bounds named. Conditions: the bounds.
-/
import Derived.Test.YtlniaacdjllonaaGreatRows
import Derived.Test.YtlniaacdjllonaaGreatWK6
namespace Go.Proofs.YtlniaacdjllonaaGreat
open Go Go.Sep
set_option linter.unusedSimpArgs false
set_option linter.unusedVariables false

open Go.Plain

theorem cal_73 : Cal Tryz.prog 73 := cal_of Tryz.func73 (by kernel_rfl) rfl
theorem cal_74 : Cal Tryz.prog 74 := cal_of Tryz.func74 (by kernel_rfl) rfl
theorem cal_90 : Cal Tryz.prog 90 := cal_of Tryz.func90 (by kernel_rfl) rfl
theorem cal_91 : Cal Tryz.prog 91 := cal_of Tryz.func91 (by kernel_rfl) rfl
theorem cal_92 : Cal Tryz.prog 92 := cal_of Tryz.func92 (by kernel_rfl) rfl
theorem cal_93 : Cal Tryz.prog 93 := cal_of Tryz.func93 (by kernel_rfl) rfl
theorem cal_105 : Cal Tryz.prog 105 := cal_of Tryz.func105 (by kernel_rfl) rfl
theorem cal_106 : Cal Tryz.prog 106 := cal_of Tryz.func106 (by kernel_rfl) rfl
theorem cal_107 : Cal Tryz.prog 107 := cal_of Tryz.func107 (by kernel_rfl) rfl
theorem cal_117 : Cal Tryz.prog 117 := cal_of Tryz.func117 (by kernel_rfl) rfl
theorem cal_118 : Cal Tryz.prog 118 := cal_of Tryz.func118 (by kernel_rfl) rfl
theorem cal_119 : Cal Tryz.prog 119 := cal_of Tryz.func119 (by kernel_rfl) rfl
theorem ty_3 : TyF Tryz.prog 3 false 1 8 (some (.int .i64 ((0 : Nat) : Int))) := ⟨by kernel_rfl, by kernel_rfl⟩
theorem ty_41 : TyF Tryz.prog 41 false 1 24 (some (.slice none 0 0)) := ⟨by kernel_rfl, by kernel_rfl⟩

theorem c_keySame_1 (x y : Str) (axes : List (Str × List Str)) (axesv : Value) (b ab : Nat) (izz : Int) (i : Nat) (hiz : izz + 1 = ((i : Nat) : Int)) (hi : i < axes.length) (hal : axes.length ≤ 1000000) (ham : ∀ a ∈ axes, a.1.length ≤ 1000000) (hx : x.length ≤ 300000) (hy : y.length ≤ 300000) : Con Tryz.prog 118 #[str (x), str (y), .pointer (some ⟨b, 0, none⟩), .pointer (some ⟨ab, 0, none⟩)] [.box b 3 [.int .i64 (izz)], .imm (.list (.pair .str (.list .str))) (axesv) (axes), .ibox ab 41 [axesv]] (fun _ : Unit => .bool (sameF (axes.getD i ([], [])).1 x y)) (fun _ => [.box b 3 [.int .i64 ((i : Nat) : Int)]]) := by
 refine con_of_J (args := [str (x), str (y), .pointer (some ⟨b, 0, none⟩), .pointer (some ⟨ab, 0, none⟩)]) (n := 17) Tryz.func118 rfl (Nat.le_of_ble_eq_true rfl) rfl (fun w0 I0 m0 => ?_)
 refine jc_seq (jc_region (jo_pure rfl (pr_assign rfl) (jo_nil (jq_then (jc_seq (jc_region (jo_pure rfl (pr_load_box (.int .i64 (izz)) rfl ty_3 (.head _) rfl (by decide) rfl) ?_)))))))
 refine jo_pure rfl (pr_add (m := izz) (n := ((1 : Nat) : Int)) rfl rfl (by omega)) ?_
 refine jo_store rfl rfl ty_3 [.int .i64 (izz + ((1 : Nat) : Int))] rfl rfl rfl [.int .i64 (izz + ((1 : Nat) : Int))] rfl rfl ?_
 refine jo_nil (jq_then (jc_seq ?_))
 by_cases ht : True
 ·skip
  rw [show (izz + ((1 : Nat) : Int) : Int) = ((i : Nat) : Int) from hiz]
  refine jc_region (jo_pure rfl (pr_load_ibox (axesv) rfl ty_41 (.tail _ (.tail _ (.head _))) rfl (by decide) rfl) ?_)
  refine jo_pure rfl (pr_load_box (.int .i64 ((i : Nat) : Int)) rfl ty_3 (.head _) rfl (by decide) rfl) ?_
  refine j_open_elem (t := (.pair .str (.list .str))) (i := i) ([], []) (.tail _ (.head _)) (by omega) (fun ⟨_, e1⟩ => ?_)
  refine jo_pure rfl (pr_idx_imm (i := i) rfl (.tail _ (.tail _ (.tail _ (.head _)))) rfl Tryz.underlying41 ty_83 (by omega)) ?_
  refine jo_pure rfl (pr_fieldAddr_imm (i := i) rfl (.tail _ (.tail _ (.tail _ (.head _)))) Tryz.underlying83 rfl ty_9 rfl rfl (by omega)) ?_
  refine jo_pure rfl (pr_load_off_at (o := 0) (str (((axes.getD i ([], []))).1)) rfl (.tail _ (.head _)) ty_9 (by decide) rfl rfl) ?_
  refine jo_pure rfl (pr_move rfl) (jo_pure rfl (pr_move rfl) ?_)
  refine jo_callp cal_119 (c_variants_Same (((axes.getD i ([], []))).1) x y (by first | omega | exact ham _ (getD_mem hi)) (by first | omega | exact ham _ (getD_mem hi)) (by first | omega | exact ham _ (getD_mem hi))) ⟨rfl, rfl, rfl, trivial⟩ rfl (trivial) (fun _ => ?_)
  refine jo_pure rfl (pr_assign rfl) (jo_nil (jq_then (jc_ret (j_drop (j_drop (j_pull1 (j_drop (j_pull1 (j_drop ?_)))))))))
  exact jq_ret1 rfl () rfl (show (.bool (sameF (axes.getD i ([], [])).1 x y) : Value) = (.bool (sameF (((axes.getD i ([], []))).1) x y)) from rfl) (fun _ h => h)
 ·skip
  exact absurd trivial ht

theorem c_equalFunc_key (p q : List Str) (axes : List (Str × List Str)) (pv qv axesv : Value) (b ab : Nat) (hpl : p.length = axes.length) (hal : axes.length ≤ 1000000) (ham : ∀ a ∈ axes, a.1.length ≤ 1000000) (hx : ∀ x ∈ p, x.length ≤ 300000) (hy : ∀ x ∈ q, x.length ≤ 300000) : Con Tryz.prog 117 #[pv, qv, .func (.func 118) #[] #[.pointer (some ⟨b, 0, none⟩), .pointer (some ⟨ab, 0, none⟩)]] [.box b 3 [.int .i64 (-1)], .imm (.list .str) (pv) (p), .imm (.list .str) (qv) (q), .imm (.list (.pair .str (.list .str))) (axesv) (axes), .ibox ab 41 [axesv]] (fun _ : Unit => .bool (sameK axes p q)) (fun _ => []) := by
 refine con_of_J (args := [pv, qv, .func (.func 118) #[] #[.pointer (some ⟨b, 0, none⟩), .pointer (some ⟨ab, 0, none⟩)]]) (n := 32) Tryz.func117 rfl (Nat.le_of_ble_eq_true rfl) rfl (fun w0 I0 m0 => ?_)
 refine jc_seq (jc_region (jo_pure rfl (pr_assign rfl) (jo_nil (jq_then (jc_seq (jc_seq (jc_region (jo_pure rfl (pr_move rfl) (jo_pure rfl (pr_len_imm rfl (.tail _ (.head _)) Tryz.underlying28) ?_)))))))))
 refine jo_pure rfl (pr_move rfl) (jo_pure rfl (pr_len_imm rfl (.tail _ (.tail _ (.head _))) Tryz.underlying28) ?_)
 refine jo_pure rfl (pr_neqN (m := p.length) (n := q.length) rfl rfl) ?_
 refine jo_nil (jq_then ?_)
 refine jc_cond rfl (fun h1b => ?_) (fun h1b => ?_)
 ·have h1 := (fun q => of_decide_eq_false (bt_not q)) h1b
  refine jc_seq (jc_region (jo_pure rfl (pr_assign rfl) (jo_nil (jq_then (jc_ret (jq_then_ret (j_drop (j_drop (j_drop (j_drop (j_drop ?_)))))))))))
  exact jq_ret1 rfl () rfl (show (.bool (sameK axes p q) : Value) = (.bool (false)) from congrArg Value.bool (by rw [sameK_no (.inr (fun e => by have h9 : ¬ p.length = q.length := (by simpa using h1); omega))])) (fun _ h => h)
 ·have h1 := (fun q => of_decide_eq_true (bf_not q)) h1b
  have hlen : p.length = q.length := by simpa using h1
  refine jc_skip (jq_then (jc_seq (jc_seq (jc_region (jo_pure rfl (pr_move rfl) (jo_pure rfl (pr_len_imm rfl (.tail _ (.head _)) Tryz.underlying28) ?_))))))
  refine jo_pure rfl (pr_move rfl) (jo_nil (jq_then (jc_block ?_)))
  refine jc_loop2 (fun (i : Nat) (kzz : Int) => [(1, qv), (2, .func (.func 118) #[] #[.pointer (some ⟨b, 0, none⟩), .pointer (some ⟨ab, 0, none⟩)]), (15, pv), (16, .int .i64 ((p.length : Nat) : Int)), (17, .int .i64 ((i : Nat) : Int))]) (fun (i : Nat) (kzz : Int) => [.box b 3 [.int .i64 (kzz)], .imm (.list .str) (pv) (p), .imm (.list .str) (qv) (q), .imm (.list (.pair .str (.list .str))) (axesv) (axes), .ibox ab 41 [axesv]]) (fun (i : Nat) (kzz : Int) => i ≤ p.length ∧ kzz + 1 = ((i : Nat) : Int) ∧ (List.range i).all (sameAt axes p q) = true) (fun (i : Nat) (kzz : Int) => p.length - i) 0 (-1) (⟨Nat.zero_le _, rfl, rfl⟩) (⟨rfl, rfl, rfl, rfl, rfl, trivial⟩) (fun _ h => h) (fun i kzz hinv => ?_)
  refine jc_seq (jc_region (jo_pure rfl (pr_lssN (m := i) (n := p.length) rfl rfl) ?_))
  refine jo_nil (jq_then (jc_seq ?_))
  refine jc_cond rfl (fun h2b => ?_) (fun h2b => ?_)
  ·have h2 := of_decide_eq_true h2b
   refine jc_skip (jq_then (jc_seq (jc_block (jc_seq (jc_region (jo_pure rfl (pr_move rfl) (jo_pure rfl (pr_idx_imm (i := i) rfl (.tail _ (.head _)) rfl Tryz.underlying28 ty_9 (by omega)) ?_)))))))
   refine jo_pure rfl (pr_load_elem_imm (i := i) (str (p.getD i [])) rfl (.tail _ (.head _)) ty_9 rfl rfl (by omega) rfl) ?_
   refine jo_pure rfl (pr_assign rfl) (jo_pure rfl (pr_assign rfl) (jo_nil (jq_then (jc_seq (jc_region (jo_pure rfl (pr_move rfl) (jo_pure rfl (pr_move rfl) (jo_pure rfl (pr_idx_imm (i := i) rfl (.tail _ (.tail _ (.head _))) rfl Tryz.underlying28 ty_9 (by omega)) ?_))))))))
   refine jo_pure rfl (pr_load_elem_imm (i := i) (str (q.getD i [])) rfl (.tail _ (.tail _ (.head _))) ty_9 rfl rfl (by omega) rfl) ?_
   refine jo_pure rfl (pr_assign rfl) (jo_nil (jq_then (jc_seq (jc_region (jo_pure rfl (pr_move rfl) (jo_pure rfl (pr_move rfl) (jo_pure rfl (pr_move rfl) (j_pull3 (j_dup rfl ?_)))))))))
   refine j_pull5 ?_
   refine j_dup rfl ?_
   refine j_pull2 (j_pull4 ?_)
   refine jo_callvm (fi := []) (vs := [str (p.getD i []), str (q.getD i [])]) (ca := [.pointer (some ⟨b, 0, none⟩), .pointer (some ⟨ab, 0, none⟩)]) [.ibox ab 41 [axesv], .imm (.list (.pair .str (.list .str))) (axesv) (axes), .imm (.list .str) (pv) (p), .imm (.list .str) (qv) (q)] rfl rfl cal_118 (c_keySame_1 (p.getD i []) (q.getD i []) axes axesv b ab kzz i (hinv.2.1) (by omega) (hal) (ham) (hx _ (getD_mem (by omega))) (hy _ (getD_mem (by omega)))) ⟨rfl, rfl, trivial⟩ rfl (fun _ => ?_)
   refine jo_pure rfl (pr_not rfl) ?_
   refine jo_nil (jq_then ?_)
   refine jc_cond rfl (fun h3b => ?_) (fun h3b => ?_)
   ·have h3 := (fun q => id (bt_not q)) h3b
    refine jc_seq (jc_region (jo_pure rfl (pr_assign rfl) (jo_nil (jq_then (jc_ret (jq_in_ret ?_))))))
    refine jq_then_ret (jq_then_ret (jq_in_ret ?_))
    refine jq_then_ret (j_drop (j_drop (j_drop (j_drop (j_drop ?_)))))
    exact jq_ret1 rfl () rfl (show (.bool (sameK axes p q) : Value) = (.bool (false)) from congrArg Value.bool (by rw [sameK_bad (i := i) (by omega) (by have h9 := h3b; unfold sameAt; simpa using h9)])) (fun _ h => h)
   ·have h3 := (fun q => id (bf_not q)) h3b
    refine jc_skip (jq_in_normal (jq_then (jc_region (jo_pure rfl (pr_addN (m := i) (n := 1) rfl rfl (by omega)) ?_))))
    refine jo_pure rfl (pr_move rfl) (jo_nil (j_pull1 (j_pull2 (j_pull4 ?_))))
    refine j_pull4 ?_
    refine j_pull4 ?_
    refine jq_round' ((i + 1), ((i : Nat) : Int)) (by (try dsimp only); exact (⟨by omega, by omega, range_all hinv.2.2 (by have h9 := h3b; unfold sameAt; simpa using h9)⟩)) (by (try dsimp only); exact (by omega)) ⟨rfl, rfl, rfl, rfl, rfl, trivial⟩ (fun _ h => h)
  ·have h2 := of_decide_eq_false h2b
   refine jc_exit ?_
   refine jq_then_exit ?_
   refine jq_then_exit ?_
   refine jq_in_hit ?_
   refine jq_then (jc_seq (jc_region (jo_pure rfl (pr_assign rfl) (jo_nil (jq_then (jc_ret (j_drop (j_drop (j_drop (j_drop (j_drop ?_)))))))))))
   exact jq_ret1 rfl () rfl (show (.bool (sameK axes p q) : Value) = (.bool (true)) from congrArg Value.bool (by rw [sameK_ok hpl (by omega) (by rw [show axes.length = i by omega]; exact hinv.2.2)])) (fun _ h => h)

theorem c_variantkey_Same (axes : List (Axs)) (axesv : Value) (p : List Str) (pv : Value) (q : List Str) (qv : Value) (hal : axes.length ≤ 1000000) (ham : ∀ a ∈ axes, a.1.length ≤ 1000000) (hx : ∀ x ∈ p, x.length ≤ 300000) (hy : ∀ x ∈ q, x.length ≤ 300000) : Con Tryz.prog 107 #[axesv, pv, qv] [.imm (.list (.pair .str (.list .str))) (axesv) (axes), .imm (.list .str) (pv) (p), .imm (.list .str) (qv) (q)] (fun _ : Unit => .bool (sameK axes p q)) (fun _ => []) := by
 refine con_of_J (args := [axesv, pv, qv]) (n := 17) Tryz.func107 rfl (Nat.le_of_ble_eq_true rfl) rfl (fun w0 I0 m0 => ?_)
 refine jc_seq (jc_region ?_)
 refine jo_boxV rfl [axesv] (fun w I m hs => SliceV.cells (imm_slice (.head _) hs)) rfl (fun b1 => ?_)
 refine jo_pure rfl (pr_assign rfl) (jo_nil (jq_then (jc_seq (jc_seq (jc_region (jo_pure rfl (pr_move rfl) (jo_pure rfl (pr_len_imm rfl (.tail _ (.tail _ (.head _))) Tryz.underlying28) ?_)))))))
 refine jo_pure rfl (pr_load_box (axesv) rfl ty_41 (.head _) rfl (by decide) rfl) ?_
 refine jo_pure rfl (pr_len_imm rfl (.tail _ (.head _)) Tryz.underlying41) ?_
 refine jo_pure rfl (pr_neqN (m := p.length) (n := axes.length) rfl rfl) ?_
 refine jo_nil (jq_then ?_)
 refine jc_cond rfl (fun h1b => ?_) (fun h1b => ?_)
 ·have h1 := (fun q => of_decide_eq_false (bt_not q)) h1b
  refine jc_seq (jc_region (jo_pure rfl (pr_assign rfl) (jo_nil (jq_then (jc_ret (jq_then_ret (j_drop (j_drop (j_drop (j_drop ?_))))))))))
  exact jq_ret1 rfl () rfl (show (.bool (sameK axes p q) : Value) = (.bool (false)) from congrArg Value.bool (by rw [sameK_no (.inl (by simpa using h1))])) (fun _ h => h)
 ·have h1 := (fun q => of_decide_eq_true (bf_not q)) h1b
  refine jc_skip (jq_then (jc_seq (jc_region ?_)))
  refine jo_alloc ty_3 [.int .i64 ((0 : Nat) : Int)] rfl rfl (fun b2 => ?_)
  refine jo_store rfl rfl ty_3 [.int .i64 (-1)] rfl rfl rfl [.int .i64 (-1)] rfl rfl ?_
  refine jo_nil (jq_then (jc_seq (jc_region (jo_pure rfl (pr_move rfl) (jo_pure rfl (pr_move rfl) (jo_pure rfl (pr_makeFunc (fs := #[]) (cs := #[.pointer (some ⟨b2, 0, none⟩), .pointer (some ⟨b1, 0, none⟩)]) (fun a hf => by simp) (fun a hf => by simp only [List.map_toArray, List.map_cons, List.map_nil, hf.ev (show ev _ (.tmp 7) = some (.pointer (some ⟨b2, 0, none⟩)) from rfl), hf.ev (show ev _ (.tmp 3) = some (.pointer (some ⟨b1, 0, none⟩)) from rfl)])) ?_))))))
  refine j_pull1 (j_pub_box ?_)
  refine j_pull3 (j_dup rfl ?_)
  refine j_pull5 ?_
  refine j_dup rfl ?_
  refine j_pull6 ?_
  refine j_dup rfl ?_
  refine j_pull6 ?_
  refine j_dup rfl ?_
  refine j_pull2 (j_pull4 ?_)
  refine j_pull6 ?_
  refine j_pull8 ?_
  refine jo_callm [.ibox b1 41 [axesv], .imm (.list (.pair .str (.list .str))) (axesv) (axes), .imm (.list .str) (qv) (q), .imm (.list .str) (pv) (p)] rfl cal_117 (c_equalFunc_key p q axes pv qv axesv b2 b1 (by simpa using h1) (hal) (ham) (hx) (hy)) ⟨rfl, rfl, rfl, trivial⟩ rfl (fun _ => ?_)
  refine jo_pure rfl (pr_assign rfl) (jo_nil (jq_then (jc_ret (j_drop (j_drop (j_drop (j_drop ?_)))))))
  exact jq_ret1 rfl () rfl (show (.bool (sameK axes p q) : Value) = (.bool (sameK axes p q)) from rfl) (fun _ h => h)

theorem c_keep_Keys (l : List (List Str)) (lv : Value) (hl : l.length ≤ 9223372036854775807) (hm : ∀ k ∈ l, k.length ≤ 9223372036854775807) : Con Tryz.prog 56 #[lv] [.imm (.list (.list .str)) (lv) (l)] (fun _ : Unit => .bool (keepK l)) (fun _ => []) := by
 refine con_of_J (args := [lv]) (n := 23) Tryz.func56 rfl (Nat.le_of_ble_eq_true rfl) rfl (fun w0 I0 m0 => ?_)
 refine jc_seq (jc_region (jo_pure rfl (pr_assign rfl) (jo_nil (jq_then (jc_seq (jc_seq (jc_region (jo_pure rfl (pr_assign rfl) (jo_nil (jq_then (jc_block ?_)))))))))))
 refine jc_loop (fun (i : Nat) => [(0, lv), (3, .int .i64 ((i : Nat) : Int))]) (fun (i : Nat) => [.imm (.list (.list .str)) (lv) (l)]) (fun (i : Nat) => i ≤ 11 ∧ (l.take i).all keepS = true) (fun (i : Nat) => 11 - i) 0 (⟨Nat.zero_le _, rfl⟩) (⟨rfl, rfl, trivial⟩) (fun _ h => h) (fun i hinv => ?_)
 refine jc_seq (jc_seq (jc_region (jo_pure rfl (pr_move rfl) (jo_pure rfl (pr_move rfl) (jo_pure rfl (pr_len_imm rfl (.head _) Tryz.underlying37) ?_)))))
 refine jo_pure rfl (pr_lssN (m := i) (n := l.length) rfl rfl) ?_
 refine jo_pure rfl (pr_move rfl) (jo_gpure (j := 4) (want := true) rfl rfl rfl rfl (fun hg=>pr_move rfl) (jo_gpure (j := 4) (want := true) rfl rfl rfl rfl (fun hg=>pr_lssN (m := i) (n := 11) (evg rfl hg) rfl) ?_))
 refine jo_pure rfl (pr_pick_and rfl rfl rfl) ?_
 refine jo_nil (jq_then ?_)
 refine jc_cond rfl (fun h1b => ?_) (fun h1b => ?_)
 ·have h1 := (fun q => And.imp of_decide_eq_true of_decide_eq_true (bt_and q)) h1b
  refine jc_skip (jq_then (jc_seq (jc_block (jc_seq (jc_region (jo_pure rfl (pr_move rfl) (jo_pure rfl (pr_move rfl) ?_)))))))
  refine j_open_elem (t := (.list .str)) (i := i) [] (.head _) (by first | omega | (simp at hg; omega)) (fun e1 => ?_)
  refine jo_pure rfl (pr_idx_imm (i := i) rfl (.tail _ (.tail _ (.head _))) rfl Tryz.underlying37 ty_28 (by first | omega | (simp at hg; omega))) ?_
  refine jo_pure rfl (pr_load_at (e1) rfl (.tail _ (.head _)) ty_28 (by decide) rfl) ?_
  refine jo_callp cal_57 (c_keep_Strings (l.getD i []) e1 (by exact hm _ (getD_mem (dd := []) h1.1))) ⟨rfl, trivial⟩ rfl (⟨⟨rfl, .head _⟩, trivial⟩) (fun _ => ?_)
  refine jo_pure rfl (pr_not rfl) ?_
  refine jo_nil (jq_then ?_)
  refine jc_cond rfl (fun h2b => ?_) (fun h2b => ?_)
  ·have h2 := (fun q => id (bt_not q)) h2b
   refine jc_seq (jc_region (jo_pure rfl (pr_assign rfl) (jo_nil (jq_then (jc_ret (jq_in_ret ?_))))))
   refine jq_then_ret (jq_then_ret (jq_in_ret ?_))
   refine jq_then_ret (j_drop (j_drop (j_drop ?_)))
   exact jq_ret1 rfl () rfl (show (.bool (keepK l) : Value) = (.bool (false)) from congrArg Value.bool (by rw [keepK, keep_miss (dd := []) h1.2 h1.1 h2]; rfl)) (fun _ h => h)
  ·have h2 := (fun q => id (bf_not q)) h2b
   refine jc_skip (jq_in_normal (jq_then (jc_region (jo_pure rfl (pr_move rfl) (jo_pure rfl (pr_addN (m := i) (n := 1) rfl rfl (by omega)) ?_)))))
   refine jo_pure rfl (pr_assign rfl) (jo_nil (j_drop (j_drop ?_)))
   refine jq_round' (i + 1) (by (try dsimp only); exact (⟨by omega, all_step (dd := []) h1.1 hinv.2 h2⟩)) (by (try dsimp only); exact (by omega)) ⟨rfl, rfl, trivial⟩ (fun _ h => h)
 ·have h1 := (fun q => Or.imp of_decide_eq_false of_decide_eq_false (bf_and q)) h1b
  refine jc_exit ?_
  refine jq_then_exit ?_
  refine jq_then_exit ?_
  refine jq_in_hit ?_
  refine jq_then (jc_seq (jc_region (jo_pure rfl (pr_move rfl) (jo_pure rfl (pr_len_imm rfl (.head _) Tryz.underlying37) ?_))))
  refine jo_pure rfl (pr_leqN (m := l.length) (n := 10) rfl rfl) ?_
  refine jo_pure rfl (pr_assign rfl) (jo_nil (jq_then (jc_ret (j_drop ?_))))
  exact jq_ret1 rfl () rfl (show (.bool (keepK l) : Value) = (.bool (decide ((l.length : Nat) ≤ 10))) from congrArg Value.bool (by rw [keepK, keep_end hinv.1 h1 hinv.2]; rfl)) (fun _ h => h)

theorem c_has_1 (k : List Str) (kv : Value) (axes : List (Axs)) (axesv : Value) (axesb : Nat) (key : List Str) (keyv : Value) (keyb : Nat) (hax : OkA axes) (hk : ∀ s ∈ k, s.length ≤ 300000) (hkey : ∀ s ∈ key, s.length ≤ 300000) : Con Tryz.prog 106 #[kv, .pointer (some ⟨axesb, 0, none⟩), .pointer (some ⟨keyb, 0, none⟩)] [.imm (.list .str) (kv) (k), .imm (.list (.pair .str (.list .str))) (axesv) (axes), .ibox axesb 41 [axesv], .imm (.list .str) (keyv) (key), .ibox keyb 28 [keyv]] (fun _ : Unit => .bool (sameK axes k key)) (fun _ => []) := by
 refine con_of_J (args := [kv, .pointer (some ⟨axesb, 0, none⟩), .pointer (some ⟨keyb, 0, none⟩)]) (n := 9) Tryz.func106 rfl (Nat.le_of_ble_eq_true rfl) rfl (fun w0 I0 m0 => ?_)
 refine jc_seq (jc_region (jo_pure rfl (pr_assign rfl) (jo_nil (jq_then (jc_seq (jc_region (jo_pure rfl (pr_load_ibox (axesv) rfl ty_41 (.tail _ (.tail _ (.head _))) rfl (by decide) rfl) ?_)))))))
 refine jo_pure rfl (pr_move rfl) (jo_pure rfl (pr_load_ibox (keyv) rfl ty_28 (.tail _ (.tail _ (.tail _ (.tail _ (.head _))))) rfl (by decide) rfl) ?_)
 refine jo_callp cal_107 (c_variantkey_Same axes axesv k kv key keyv (by first | omega | exact hax | exact hax.names | (have := hax.len; omega) | exact hk | exact hkey) (by first | omega | exact hax | exact hax.names | (have := hax.len; omega) | exact hk | exact hkey) (by first | omega | exact hax | exact hax.names | (have := hax.len; omega) | exact hk | exact hkey) (by first | omega | exact hax | exact hax.names | (have := hax.len; omega) | exact hk | exact hkey)) ⟨rfl, rfl, rfl, trivial⟩ rfl (⟨⟨rfl, .tail _ (.head _)⟩, ⟨⟨rfl, .head _⟩, ⟨⟨rfl, .tail _ (.tail _ (.tail _ (.head _)))⟩, trivial⟩⟩⟩) (fun _ => ?_)
 refine jo_pure rfl (pr_assign rfl) (jo_nil (jq_then (jc_ret (j_drop (j_drop (j_drop (j_drop (j_drop ?_))))))))
 exact jq_ret1 rfl () rfl (show (.bool (sameK axes k key) : Value) = (.bool (sameK axes k key)) from rfl) (fun _ h => h)

theorem c_indexFunc_has (l : List (List Str)) (lv : Value) (axes : List (Axs)) (axesv : Value) (axesb : Nat) (key : List Str) (keyv : Value) (keyb : Nat) (hax : OkA axes) (hl : l.length ≤ 1000000000) (hlm : ∀ k ∈ l, ∀ s ∈ k, s.length ≤ 300000) (hkey : ∀ s ∈ key, s.length ≤ 300000) : Con Tryz.prog 105 #[lv, .func (.func 106) #[] #[.pointer (some ⟨axesb, 0, none⟩), .pointer (some ⟨keyb, 0, none⟩)]] [.imm (.list (.list .str)) (lv) (l), .imm (.list (.pair .str (.list .str))) (axesv) (axes), .ibox axesb 41 [axesv], .imm (.list .str) (keyv) (key), .ibox keyb 28 [keyv]] (fun _ : Unit => .int .i64 (idxP (fun k => sameK axes k key) l)) (fun _ => []) := by
 refine con_of_J (args := [lv, .func (.func 106) #[] #[.pointer (some ⟨axesb, 0, none⟩), .pointer (some ⟨keyb, 0, none⟩)]]) (n := 19) Tryz.func105 rfl (Nat.le_of_ble_eq_true rfl) rfl (fun w0 I0 m0 => ?_)
 refine jc_seq (jc_region (jo_pure rfl (pr_assign rfl) (jo_nil (jq_then (jc_seq (jc_seq (jc_region (jo_pure rfl (pr_move rfl) (jo_pure rfl (pr_len_imm rfl (.head _) Tryz.underlying37) ?_)))))))))
 refine jo_pure rfl (pr_move rfl) (jo_nil (jq_then (jc_block ?_)))
 refine jc_loop (fun (j : Nat) => [(0, lv), (1, .func (.func 106) #[] #[.pointer (some ⟨axesb, 0, none⟩), .pointer (some ⟨keyb, 0, none⟩)]), (7, .int .i64 ((l.length : Nat) : Int)), (8, .int .i64 ((j : Nat) : Int))]) (fun (j : Nat) => [.imm (.list (.list .str)) (lv) (l), .imm (.list (.pair .str (.list .str))) (axesv) (axes), .ibox axesb 41 [axesv], .imm (.list .str) (keyv) (key), .ibox keyb 28 [keyv]]) (fun (j : Nat) => j ≤ l.length ∧ (l.take j).any (fun k => sameK axes k key) = false) (fun (j : Nat) => l.length - j) 0 (⟨Nat.zero_le _, rfl⟩) (⟨rfl, rfl, rfl, rfl, trivial⟩) (fun _ h => h) (fun j hinv => ?_)
 refine jc_seq (jc_region (jo_pure rfl (pr_lssN (m := j) (n := l.length) rfl rfl) ?_))
 refine jo_nil (jq_then (jc_seq ?_))
 refine jc_cond rfl (fun h1b => ?_) (fun h1b => ?_)
 ·have h1 := of_decide_eq_true h1b
  refine jc_skip (jq_then (jc_seq (jc_block (jc_seq (jc_region (jo_pure rfl (pr_move rfl) (jo_pure rfl (pr_assign rfl) (jo_nil (jq_then (jc_seq (jc_region (jo_pure rfl (pr_move rfl) (jo_pure rfl (pr_move rfl) (jo_pure rfl (pr_move rfl) ?_))))))))))))))
  refine j_open_elem (t := (.list .str)) (i := j) [] (.head _) (by omega) (fun e1 => ?_)
  refine jo_pure rfl (pr_idx_imm (i := j) rfl (.tail _ (.tail _ (.head _))) rfl Tryz.underlying37 ty_28 (by omega)) ?_
  refine jo_pure rfl (pr_load_at (e1) rfl (.tail _ (.head _)) ty_28 (by decide) rfl) ?_
  refine jo_callvp (fi := []) (vs := [e1]) (ca := [.pointer (some ⟨axesb, 0, none⟩), .pointer (some ⟨keyb, 0, none⟩)]) rfl cal_106 (c_has_1 (l.getD j []) e1 axes axesv axesb key keyv keyb (by first | exact hax | exact hlm _ (getD_mem h1) | exact hkey) (by first | exact hax | exact hlm _ (getD_mem h1) | exact hkey) (by first | exact hax | exact hlm _ (getD_mem h1) | exact hkey)) ⟨rfl, trivial⟩ rfl (⟨⟨rfl, .head _⟩, ⟨⟨rfl, .tail _ (.tail _ (.tail _ (.head _)))⟩, ⟨⟨rfl, .tail _ (.tail _ (.tail _ (.tail _ (.head _))))⟩, ⟨⟨rfl, .tail _ (.tail _ (.tail _ (.tail _ (.tail _ (.head _)))))⟩, ⟨⟨rfl, .tail _ (.tail _ (.tail _ (.tail _ (.tail _ (.tail _ (.head _))))))⟩, trivial⟩⟩⟩⟩⟩) (fun _ => ?_)
  refine jo_nil (jq_then ?_)
  refine jc_cond rfl (fun h2b => ?_) (fun h2b => ?_)
  ·have h2 := id h2b
   refine jc_seq (jc_region (jo_pure rfl (pr_move rfl) (jo_pure rfl (pr_assign rfl) (jo_nil (jq_then (jc_ret (jq_in_ret ?_)))))))
   refine jq_then_ret (jq_then_ret (jq_in_ret ?_))
   refine jq_then_ret (j_drop (j_drop (j_drop (j_drop (j_drop (j_drop (j_drop ?_)))))))
   exact jq_ret1 rfl () rfl (show (.int .i64 (idxP (fun k => sameK axes k key) l) : Value) = (.int .i64 ((j : Nat) : Int)) from congrArg (Value.int .i64) (by rw [idxP_hit (dd := []) h1 hinv.2 h2])) (fun _ h => h)
  ·have h2 := id h2b
   refine jc_skip (jq_in_normal (jq_then (jc_region (jo_pure rfl (pr_addN (m := j) (n := 1) rfl rfl (by omega)) ?_))))
   refine jo_pure rfl (pr_move rfl) (jo_nil (j_drop (j_drop (j_pull4 ?_))))
   refine j_pull4 ?_
   refine j_pull4 ?_
   refine j_pull4 ?_
   refine j_pull4 ?_
   refine jq_round' (j + 1) (by (try dsimp only); exact (⟨by omega, any_step (dd := []) h1 hinv.2 h2⟩)) (by (try dsimp only); exact (by omega)) ⟨rfl, rfl, rfl, rfl, trivial⟩ (fun _ h => h)
 ·have h1 := of_decide_eq_false h1b
  refine jc_exit ?_
  refine jq_then_exit ?_
  refine jq_then_exit ?_
  refine jq_in_hit ?_
  refine jq_then (jc_seq (jc_region (jo_pure rfl (pr_assign rfl) (jo_nil (jq_then (jc_ret (j_drop (j_drop (j_drop (j_drop (j_drop ?_)))))))))))
  exact jq_ret1 rfl () rfl (show (.int .i64 (idxP (fun k => sameK axes k key) l) : Value) = (.int .i64 (-1)) from congrArg (Value.int .i64) (by rw [idxP_none (any_end (by omega) hinv.2)])) (fun _ h => h)

theorem c_containsFunc_has (l : List (List Str)) (lv : Value) (axes : List (Axs)) (axesv : Value) (axesb : Nat) (key : List Str) (keyv : Value) (keyb : Nat) (hax : OkA axes) (hl : l.length ≤ 1000000000) (hlm : ∀ k ∈ l, ∀ s ∈ k, s.length ≤ 300000) (hkey : ∀ s ∈ key, s.length ≤ 300000) : Con Tryz.prog 91 #[lv, .func (.func 106) #[] #[.pointer (some ⟨axesb, 0, none⟩), .pointer (some ⟨keyb, 0, none⟩)]] [.imm (.list (.list .str)) (lv) (l), .imm (.list (.pair .str (.list .str))) (axesv) (axes), .ibox axesb 41 [axesv], .imm (.list .str) (keyv) (key), .ibox keyb 28 [keyv]] (fun _ : Unit => .bool (l.any (fun k => sameK axes k key))) (fun _ => []) := by
 refine con_of_J (args := [lv, .func (.func 106) #[] #[.pointer (some ⟨axesb, 0, none⟩), .pointer (some ⟨keyb, 0, none⟩)]]) (n := 9) Tryz.func91 rfl (Nat.le_of_ble_eq_true rfl) rfl (fun w0 I0 m0 => ?_)
 refine jc_seq (jc_region (jo_pure rfl (pr_assign rfl) (jo_nil (jq_then (jc_seq (jc_region (jo_pure rfl (pr_move rfl) (jo_pure rfl (pr_move rfl) ?_))))))))
 refine jo_callp cal_105 (c_indexFunc_has l lv axes axesv axesb key keyv keyb (by first | exact hax | exact hl | exact hlm | exact hkey) (by first | exact hax | exact hl | exact hlm | exact hkey) (by first | exact hax | exact hl | exact hlm | exact hkey) (by first | exact hax | exact hl | exact hlm | exact hkey)) ⟨rfl, rfl, trivial⟩ rfl (⟨⟨rfl, .head _⟩, ⟨⟨rfl, .tail _ (.head _)⟩, ⟨⟨rfl, .tail _ (.tail _ (.head _))⟩, ⟨⟨rfl, .tail _ (.tail _ (.tail _ (.head _)))⟩, ⟨⟨rfl, .tail _ (.tail _ (.tail _ (.tail _ (.head _))))⟩, trivial⟩⟩⟩⟩⟩) (fun _ => ?_)
 refine jo_pure rfl (pr_geq (n := 0) rfl rfl) ?_
 refine jo_pure rfl (pr_assign rfl) (jo_nil (jq_then (jc_ret (j_drop (j_drop (j_drop (j_drop (j_drop ?_))))))))
 exact jq_ret1 rfl () rfl (show (.bool (l.any (fun k => sameK axes k key)) : Value) = (.bool (decide ((0 : Int) ≤ idxP (fun k => sameK axes k key) l))) from congrArg Value.bool (idxP_ge _ _).symm) (fun _ h => h)

theorem c_table_has (axes : List (Axs)) (axesv : Value) (en : Ent) (env : Value) (env2 : Value) (env3 : Value) (env4 : Value) (key : List Str) (keyv : Value) (hax : OkA axes) (hen : ∀ k ∈ en.1, ∀ s ∈ k, s.length ≤ 300000) (hel : en.1.length ≤ 1000000000) (hkey : ∀ s ∈ key, s.length ≤ 300000) : Con Tryz.prog 93 #[axesv, .agg #[env, env2, env3, str (en.2.2.2.1), env4, str (en.2.2.2.2.2.1), .int .i64 (en.2.2.2.2.2.2.1), .int .i64 (en.2.2.2.2.2.2.2)], keyv] [.imm (.list (.pair .str (.list .str))) (axesv) (axes), .imm (.list (.list .str)) (env) (en.1), .imm (.list .str) (env2) (en.2.1), .imm (.list .str) (env3) (en.2.2.1), .imm (.list (.pair .str .str)) (env4) (en.2.2.2.2.1), .imm (.list .str) (keyv) (key)] (fun _ : Unit => .bool (hasK axes en key)) (fun _ => []) := by
 refine con_of_J (args := [axesv, .agg #[env, env2, env3, str (en.2.2.2.1), env4, str (en.2.2.2.2.2.1), .int .i64 (en.2.2.2.2.2.2.1), .int .i64 (en.2.2.2.2.2.2.2)], keyv]) (n := 11) Tryz.func93 rfl (Nat.le_of_ble_eq_true rfl) rfl (fun w0 I0 m0 => ?_)
 refine jc_seq (jc_region ?_)
 refine jo_boxV rfl [axesv] (fun w I m hs => SliceV.cells (imm_slice (.head _) hs)) rfl (fun b1 => ?_)
 refine jo_box rfl [env, env2, env3, str (en.2.2.2.1), env4, str (en.2.2.2.2.2.1), .int .i64 (en.2.2.2.2.2.2.1), .int .i64 (en.2.2.2.2.2.2.2)] rfl rfl (fun b2 => ?_)
 refine jo_boxV rfl [keyv] (fun w I m hs => SliceV.cells (imm_slice (.tail _ (.tail _ (.tail _ (.tail _ (.tail _ (.tail _ (.tail _ (.head _)))))))) hs)) rfl (fun b3 => ?_)
 refine jo_pure rfl (pr_assign rfl) (jo_nil (jq_then (jc_seq (jc_region (jo_pure rfl (pr_fieldAddr 0 rfl Tryz.underlying40 rfl ty_37 rfl rfl) ?_)))))
 refine jo_pure rfl (pr_load_box (env) rfl ty_37 (.tail _ (.head _)) rfl (by decide) rfl) ?_
 refine jo_pure rfl (pr_makeFunc (fs := #[]) (cs := #[.pointer (some ⟨b1, 0, none⟩), .pointer (some ⟨b3, 0, none⟩)]) (fun a hf => by simp) (fun a hf => by simp only [List.map_toArray, List.map_cons, List.map_nil, hf.ev (show ev _ (.tmp 3) = some (.pointer (some ⟨b1, 0, none⟩)) from rfl), hf.ev (show ev _ (.tmp 5) = some (.pointer (some ⟨b3, 0, none⟩)) from rfl)])) ?_
 refine j_pull2 (j_pub_box ?_)
 refine j_pull1 (j_pub_box ?_)
 refine jo_callp cal_91 (c_containsFunc_has en.1 env axes axesv b1 key keyv b3 (by first | omega | exact hax | exact hax.names | (have := hax.len; omega) | exact hel | exact hen | exact hkey) (by first | omega | exact hax | exact hax.names | (have := hax.len; omega) | exact hel | exact hen | exact hkey) (by first | omega | exact hax | exact hax.names | (have := hax.len; omega) | exact hel | exact hen | exact hkey) (by first | omega | exact hax | exact hax.names | (have := hax.len; omega) | exact hel | exact hen | exact hkey)) ⟨rfl, rfl, trivial⟩ rfl (⟨⟨rfl, .tail _ (.tail _ (.tail _ (.tail _ (.head _))))⟩, ⟨⟨rfl, .tail _ (.tail _ (.tail _ (.head _)))⟩, ⟨⟨rfl, .tail _ (.head _)⟩, ⟨⟨rfl, .tail _ (.tail _ (.tail _ (.tail _ (.tail _ (.tail _ (.tail _ (.tail _ (.head _))))))))⟩, ⟨⟨rfl, .head _⟩, trivial⟩⟩⟩⟩⟩) (fun _ => ?_)
 refine jo_pure rfl (pr_assign rfl) (jo_nil (jq_then (jc_ret (j_drop (j_drop (j_drop (j_drop (j_drop (j_drop (j_drop (j_drop (j_drop ?_))))))))))))
 exact jq_ret1 rfl () rfl (show (.bool (hasK axes en key) : Value) = (.bool (en.1.any (fun k => sameK axes k key))) from rfl) (fun _ h => h)

theorem c_replaces_1 (k : List Str) (kv : Value) (axes : List (Axs)) (axesv : Value) (axesb : Nat) (old : Ent) (oldv : Value) (oldv2 : Value) (oldv3 : Value) (oldv4 : Value) (oldb : Nat) (hax : OkA axes) (ho : OkE old) (hk : ∀ s ∈ k, s.length ≤ 300000) : Con Tryz.prog 92 #[kv, .pointer (some ⟨axesb, 0, none⟩), .pointer (some ⟨oldb, 0, none⟩)] [.imm (.list .str) (kv) (k), .imm (.list (.pair .str (.list .str))) (axesv) (axes), .ibox axesb 41 [axesv], .imm (.list (.list .str)) (oldv) (old.1), .imm (.list .str) (oldv2) (old.2.1), .imm (.list .str) (oldv3) (old.2.2.1), .imm (.list (.pair .str .str)) (oldv4) (old.2.2.2.2.1), .ibox oldb 40 [oldv, oldv2, oldv3, str (old.2.2.2.1), oldv4, str (old.2.2.2.2.2.1), .int .i64 (old.2.2.2.2.2.2.1), .int .i64 (old.2.2.2.2.2.2.2)]] (fun _ : Unit => .bool (hasK axes old k)) (fun _ => []) := by
 refine con_of_J (args := [kv, .pointer (some ⟨axesb, 0, none⟩), .pointer (some ⟨oldb, 0, none⟩)]) (n := 9) Tryz.func92 rfl (Nat.le_of_ble_eq_true rfl) rfl (fun w0 I0 m0 => ?_)
 refine jc_seq (jc_region (jo_pure rfl (pr_assign rfl) (jo_nil (jq_then (jc_seq (jc_region (jo_pure rfl (pr_load_ibox (axesv) rfl ty_41 (.tail _ (.tail _ (.head _))) rfl (by decide) rfl) ?_)))))))
 refine jo_pure rfl (pr_load_ibox (.agg #[oldv, oldv2, oldv3, str (old.2.2.2.1), oldv4, str (old.2.2.2.2.2.1), .int .i64 (old.2.2.2.2.2.2.1), .int .i64 (old.2.2.2.2.2.2.2)]) rfl ty_40 (.tail _ (.tail _ (.tail _ (.tail _ (.tail _ (.tail _ (.tail _ (.head _)))))))) rfl (by decide) rfl) ?_
 refine jo_pure rfl (pr_move rfl) ?_
 have con1 := c_table_has axes axesv old oldv oldv2 oldv3 oldv4 k kv (by first | omega | exact hax | exact ho.strs | (have := ho.keys; omega) | exact hk) (by first | omega | exact hax | exact ho.strs | (have := ho.keys; omega) | exact hk) (by first | omega | exact hax | exact ho.strs | (have := ho.keys; omega) | exact hk) (by first | omega | exact hax | exact ho.strs | (have := ho.keys; omega) | exact hk)
 refine jo_callp cal_93 con1 (by exact ⟨rfl, rfl, rfl, trivial⟩) rfl (by exact ⟨⟨rfl, .tail _ (.head _)⟩, ⟨⟨rfl, .tail _ (.tail _ (.tail _ (.head _)))⟩, ⟨⟨rfl, .tail _ (.tail _ (.tail _ (.tail _ (.head _))))⟩, ⟨⟨rfl, .tail _ (.tail _ (.tail _ (.tail _ (.tail _ (.head _)))))⟩, ⟨⟨rfl, .tail _ (.tail _ (.tail _ (.tail _ (.tail _ (.tail _ (.head _))))))⟩, ⟨⟨rfl, .head _⟩, trivial⟩⟩⟩⟩⟩⟩) (fun _ => ?_)
 clear con1
 refine jo_pure rfl (pr_assign rfl) (jo_nil (jq_then (jc_ret (j_drop (j_drop (j_drop (j_drop (j_drop (j_drop (j_drop (j_drop ?_)))))))))))
 exact jq_ret1 rfl () rfl (show (.bool (hasK axes old k) : Value) = (.bool (hasK axes old k)) from rfl) (fun _ h => h)

theorem c_indexFunc_replaces (l : List (List Str)) (lv : Value) (axes : List (Axs)) (axesv : Value) (axesb : Nat) (old : Ent) (oldv : Value) (oldv2 : Value) (oldv3 : Value) (oldv4 : Value) (oldb : Nat) (hax : OkA axes) (ho : OkE old) (hl : l.length ≤ 1000000000) (hlm : ∀ k ∈ l, ∀ s ∈ k, s.length ≤ 300000) : Con Tryz.prog 105 #[lv, .func (.func 92) #[] #[.pointer (some ⟨axesb, 0, none⟩), .pointer (some ⟨oldb, 0, none⟩)]] [.imm (.list (.list .str)) (lv) (l), .imm (.list (.pair .str (.list .str))) (axesv) (axes), .ibox axesb 41 [axesv], .imm (.list (.list .str)) (oldv) (old.1), .imm (.list .str) (oldv2) (old.2.1), .imm (.list .str) (oldv3) (old.2.2.1), .imm (.list (.pair .str .str)) (oldv4) (old.2.2.2.2.1), .ibox oldb 40 [oldv, oldv2, oldv3, str (old.2.2.2.1), oldv4, str (old.2.2.2.2.2.1), .int .i64 (old.2.2.2.2.2.2.1), .int .i64 (old.2.2.2.2.2.2.2)]] (fun _ : Unit => .int .i64 (idxP (fun k => hasK axes old k) l)) (fun _ => []) := by
 refine con_of_J (args := [lv, .func (.func 92) #[] #[.pointer (some ⟨axesb, 0, none⟩), .pointer (some ⟨oldb, 0, none⟩)]]) (n := 19) Tryz.func105 rfl (Nat.le_of_ble_eq_true rfl) rfl (fun w0 I0 m0 => ?_)
 refine jc_seq (jc_region (jo_pure rfl (pr_assign rfl) (jo_nil (jq_then (jc_seq (jc_seq (jc_region (jo_pure rfl (pr_move rfl) (jo_pure rfl (pr_len_imm rfl (.head _) Tryz.underlying37) ?_)))))))))
 refine jo_pure rfl (pr_move rfl) (jo_nil (jq_then (jc_block ?_)))
 refine jc_loop (fun (j : Nat) => [(0, lv), (1, .func (.func 92) #[] #[.pointer (some ⟨axesb, 0, none⟩), .pointer (some ⟨oldb, 0, none⟩)]), (7, .int .i64 ((l.length : Nat) : Int)), (8, .int .i64 ((j : Nat) : Int))]) (fun (j : Nat) => [.imm (.list (.list .str)) (lv) (l), .imm (.list (.pair .str (.list .str))) (axesv) (axes), .ibox axesb 41 [axesv], .imm (.list (.list .str)) (oldv) (old.1), .imm (.list .str) (oldv2) (old.2.1), .imm (.list .str) (oldv3) (old.2.2.1), .imm (.list (.pair .str .str)) (oldv4) (old.2.2.2.2.1), .ibox oldb 40 [oldv, oldv2, oldv3, str (old.2.2.2.1), oldv4, str (old.2.2.2.2.2.1), .int .i64 (old.2.2.2.2.2.2.1), .int .i64 (old.2.2.2.2.2.2.2)]]) (fun (j : Nat) => j ≤ l.length ∧ (l.take j).any (fun k => hasK axes old k) = false) (fun (j : Nat) => l.length - j) 0 (⟨Nat.zero_le _, rfl⟩) (⟨rfl, rfl, rfl, rfl, trivial⟩) (fun _ h => h) (fun j hinv => ?_)
 refine jc_seq (jc_region (jo_pure rfl (pr_lssN (m := j) (n := l.length) rfl rfl) ?_))
 refine jo_nil (jq_then (jc_seq ?_))
 refine jc_cond rfl (fun h1b => ?_) (fun h1b => ?_)
 ·have h1 := of_decide_eq_true h1b
  refine jc_skip (jq_then (jc_seq (jc_block (jc_seq (jc_region (jo_pure rfl (pr_move rfl) (jo_pure rfl (pr_assign rfl) (jo_nil (jq_then (jc_seq (jc_region (jo_pure rfl (pr_move rfl) (jo_pure rfl (pr_move rfl) (jo_pure rfl (pr_move rfl) ?_))))))))))))))
  refine j_open_elem (t := (.list .str)) (i := j) [] (.head _) (by omega) (fun e1 => ?_)
  refine jo_pure rfl (pr_idx_imm (i := j) rfl (.tail _ (.tail _ (.head _))) rfl Tryz.underlying37 ty_28 (by omega)) ?_
  refine jo_pure rfl (pr_load_at (e1) rfl (.tail _ (.head _)) ty_28 (by decide) rfl) ?_
  refine jo_callvp (fi := []) (vs := [e1]) (ca := [.pointer (some ⟨axesb, 0, none⟩), .pointer (some ⟨oldb, 0, none⟩)]) rfl cal_92 (c_replaces_1 (l.getD j []) e1 axes axesv axesb old oldv oldv2 oldv3 oldv4 oldb (by first | exact hax | exact ho | exact hlm _ (getD_mem h1)) (by first | exact hax | exact ho | exact hlm _ (getD_mem h1)) (by first | exact hax | exact ho | exact hlm _ (getD_mem h1))) ⟨rfl, trivial⟩ rfl (⟨⟨rfl, .head _⟩, ⟨⟨rfl, .tail _ (.tail _ (.tail _ (.head _)))⟩, ⟨⟨rfl, .tail _ (.tail _ (.tail _ (.tail _ (.head _))))⟩, ⟨⟨rfl, .tail _ (.tail _ (.tail _ (.tail _ (.tail _ (.head _)))))⟩, ⟨⟨rfl, .tail _ (.tail _ (.tail _ (.tail _ (.tail _ (.tail _ (.head _))))))⟩, ⟨⟨rfl, .tail _ (.tail _ (.tail _ (.tail _ (.tail _ (.tail _ (.tail _ (.head _)))))))⟩, ⟨⟨rfl, .tail _ (.tail _ (.tail _ (.tail _ (.tail _ (.tail _ (.tail _ (.tail _ (.head _))))))))⟩, ⟨⟨rfl, .tail _ (.tail _ (.tail _ (.tail _ (.tail _ (.tail _ (.tail _ (.tail _ (.tail _ (.head _)))))))))⟩, trivial⟩⟩⟩⟩⟩⟩⟩⟩) (fun _ => ?_)
  refine jo_nil (jq_then ?_)
  refine jc_cond rfl (fun h2b => ?_) (fun h2b => ?_)
  ·have h2 := id h2b
   refine jc_seq (jc_region (jo_pure rfl (pr_move rfl) (jo_pure rfl (pr_assign rfl) (jo_nil (jq_then (jc_ret (jq_in_ret ?_)))))))
   refine jq_then_ret (jq_then_ret (jq_in_ret ?_))
   refine jq_then_ret (j_drop (j_drop (j_drop (j_drop (j_drop (j_drop (j_drop (j_drop (j_drop (j_drop ?_))))))))))
   exact jq_ret1 rfl () rfl (show (.int .i64 (idxP (fun k => hasK axes old k) l) : Value) = (.int .i64 ((j : Nat) : Int)) from congrArg (Value.int .i64) (by rw [idxP_hit (dd := []) h1 hinv.2 h2])) (fun _ h => h)
  ·have h2 := id h2b
   refine jc_skip (jq_in_normal (jq_then (jc_region (jo_pure rfl (pr_addN (m := j) (n := 1) rfl rfl (by omega)) ?_))))
   refine jo_pure rfl (pr_move rfl) (jo_nil (j_drop (j_drop (j_pull7 ?_))))
   refine j_pull7 ?_
   refine j_pull7 ?_
   refine j_pull7 ?_
   refine j_pull7 ?_
   refine j_pull7 ?_
   refine j_pull7 ?_
   refine j_pull7 ?_
   refine jq_round' (j + 1) (by (try dsimp only); exact (⟨by omega, any_step (dd := []) h1 hinv.2 h2⟩)) (by (try dsimp only); exact (by omega)) ⟨rfl, rfl, rfl, rfl, trivial⟩ (fun _ h => h)
 ·have h1 := of_decide_eq_false h1b
  refine jc_exit ?_
  refine jq_then_exit ?_
  refine jq_then_exit ?_
  refine jq_in_hit ?_
  refine jq_then (jc_seq (jc_region (jo_pure rfl (pr_assign rfl) (jo_nil (jq_then (jc_ret (j_drop (j_drop (j_drop (j_drop (j_drop (j_drop (j_drop (j_drop ?_))))))))))))))
  exact jq_ret1 rfl () rfl (show (.int .i64 (idxP (fun k => hasK axes old k) l) : Value) = (.int .i64 (-1)) from congrArg (Value.int .i64) (by rw [idxP_none (any_end (by omega) hinv.2)])) (fun _ h => h)

theorem c_containsFunc_replaces (l : List (List Str)) (lv : Value) (axes : List (Axs)) (axesv : Value) (axesb : Nat) (old : Ent) (oldv : Value) (oldv2 : Value) (oldv3 : Value) (oldv4 : Value) (oldb : Nat) (hax : OkA axes) (ho : OkE old) (hl : l.length ≤ 1000000000) (hlm : ∀ k ∈ l, ∀ s ∈ k, s.length ≤ 300000) : Con Tryz.prog 91 #[lv, .func (.func 92) #[] #[.pointer (some ⟨axesb, 0, none⟩), .pointer (some ⟨oldb, 0, none⟩)]] [.imm (.list (.list .str)) (lv) (l), .imm (.list (.pair .str (.list .str))) (axesv) (axes), .ibox axesb 41 [axesv], .imm (.list (.list .str)) (oldv) (old.1), .imm (.list .str) (oldv2) (old.2.1), .imm (.list .str) (oldv3) (old.2.2.1), .imm (.list (.pair .str .str)) (oldv4) (old.2.2.2.2.1), .ibox oldb 40 [oldv, oldv2, oldv3, str (old.2.2.2.1), oldv4, str (old.2.2.2.2.2.1), .int .i64 (old.2.2.2.2.2.2.1), .int .i64 (old.2.2.2.2.2.2.2)]] (fun _ : Unit => .bool (l.any (fun k => hasK axes old k))) (fun _ => []) := by
 refine con_of_J (args := [lv, .func (.func 92) #[] #[.pointer (some ⟨axesb, 0, none⟩), .pointer (some ⟨oldb, 0, none⟩)]]) (n := 9) Tryz.func91 rfl (Nat.le_of_ble_eq_true rfl) rfl (fun w0 I0 m0 => ?_)
 refine jc_seq (jc_region (jo_pure rfl (pr_assign rfl) (jo_nil (jq_then (jc_seq (jc_region (jo_pure rfl (pr_move rfl) (jo_pure rfl (pr_move rfl) ?_))))))))
 refine jo_callp cal_105 (c_indexFunc_replaces l lv axes axesv axesb old oldv oldv2 oldv3 oldv4 oldb (by first | exact hax | exact ho | exact hl | exact hlm) (by first | exact hax | exact ho | exact hl | exact hlm) (by first | exact hax | exact ho | exact hl | exact hlm) (by first | exact hax | exact ho | exact hl | exact hlm)) ⟨rfl, rfl, trivial⟩ rfl (⟨⟨rfl, .head _⟩, ⟨⟨rfl, .tail _ (.head _)⟩, ⟨⟨rfl, .tail _ (.tail _ (.head _))⟩, ⟨⟨rfl, .tail _ (.tail _ (.tail _ (.head _)))⟩, ⟨⟨rfl, .tail _ (.tail _ (.tail _ (.tail _ (.head _))))⟩, ⟨⟨rfl, .tail _ (.tail _ (.tail _ (.tail _ (.tail _ (.head _)))))⟩, ⟨⟨rfl, .tail _ (.tail _ (.tail _ (.tail _ (.tail _ (.tail _ (.head _))))))⟩, ⟨⟨rfl, .tail _ (.tail _ (.tail _ (.tail _ (.tail _ (.tail _ (.tail _ (.head _)))))))⟩, trivial⟩⟩⟩⟩⟩⟩⟩⟩) (fun _ => ?_)
 refine jo_pure rfl (pr_geq (n := 0) rfl rfl) ?_
 refine jo_pure rfl (pr_assign rfl) (jo_nil (jq_then (jc_ret (j_drop (j_drop (j_drop (j_drop (j_drop (j_drop (j_drop (j_drop ?_)))))))))))
 exact jq_ret1 rfl () rfl (show (.bool (l.any (fun k => hasK axes old k)) : Value) = (.bool (decide ((0 : Int) ≤ idxP (fun k => hasK axes old k) l))) from congrArg Value.bool (idxP_ge _ _).symm) (fun _ h => h)

theorem c_table_replaces (axes : List (Axs)) (axesv : Value) (en : Ent) (env : Value) (env2 : Value) (env3 : Value) (env4 : Value) (old : Ent) (oldv : Value) (oldv2 : Value) (oldv3 : Value) (oldv4 : Value) (hax : OkA axes) (he : OkE en) (ho : OkE old) : Con Tryz.prog 74 #[axesv, .agg #[env, env2, env3, str (en.2.2.2.1), env4, str (en.2.2.2.2.2.1), .int .i64 (en.2.2.2.2.2.2.1), .int .i64 (en.2.2.2.2.2.2.2)], .agg #[oldv, oldv2, oldv3, str (old.2.2.2.1), oldv4, str (old.2.2.2.2.2.1), .int .i64 (old.2.2.2.2.2.2.1), .int .i64 (old.2.2.2.2.2.2.2)]] [.imm (.list (.pair .str (.list .str))) (axesv) (axes), .imm (.list (.list .str)) (env) (en.1), .imm (.list .str) (env2) (en.2.1), .imm (.list .str) (env3) (en.2.2.1), .imm (.list (.pair .str .str)) (env4) (en.2.2.2.2.1), .imm (.list (.list .str)) (oldv) (old.1), .imm (.list .str) (oldv2) (old.2.1), .imm (.list .str) (oldv3) (old.2.2.1), .imm (.list (.pair .str .str)) (oldv4) (old.2.2.2.2.1)] (fun _ : Unit => .bool (replB axes en old)) (fun _ => []) := by
 refine con_of_J (args := [axesv, .agg #[env, env2, env3, str (en.2.2.2.1), env4, str (en.2.2.2.2.2.1), .int .i64 (en.2.2.2.2.2.2.1), .int .i64 (en.2.2.2.2.2.2.2)], .agg #[oldv, oldv2, oldv3, str (old.2.2.2.1), oldv4, str (old.2.2.2.2.2.1), .int .i64 (old.2.2.2.2.2.2.1), .int .i64 (old.2.2.2.2.2.2.2)]]) (n := 26) Tryz.func74 rfl (Nat.le_of_ble_eq_true rfl) rfl (fun w0 I0 m0 => ?_)
 obtain ⟨_, _, hovl, hosl, _⟩ := ho.lens
 obtain ⟨_, _, hevl, hesl, _⟩ := he.lens
 refine jc_seq (jc_region ?_)
 refine jo_boxV rfl [axesv] (fun w I m hs => SliceV.cells (imm_slice (.head _) hs)) rfl (fun b1 => ?_)
 refine jo_box rfl [env, env2, env3, str (en.2.2.2.1), env4, str (en.2.2.2.2.2.1), .int .i64 (en.2.2.2.2.2.2.1), .int .i64 (en.2.2.2.2.2.2.2)] rfl rfl (fun b2 => ?_)
 refine jo_box rfl [oldv, oldv2, oldv3, str (old.2.2.2.1), oldv4, str (old.2.2.2.2.2.1), .int .i64 (old.2.2.2.2.2.2.1), .int .i64 (old.2.2.2.2.2.2.2)] rfl rfl (fun b3 => ?_)
 refine jo_pure rfl (pr_assign rfl) (jo_nil (jq_then (jc_seq (jc_seq (jc_region (jo_pure rfl (pr_load_box (axesv) rfl ty_41 (.tail _ (.tail _ (.head _))) rfl (by decide) rfl) ?_))))))
 refine jo_pure rfl (pr_len_imm rfl (.tail _ (.tail _ (.tail _ (.head _)))) Tryz.underlying41) ?_
 refine jo_pure rfl (pr_eqlN (m := axes.length) (n := 0) rfl rfl) ?_
 refine jo_nil (jq_then ?_)
 refine jc_cond rfl (fun h1b => ?_) (fun h1b => ?_)
 ·have h1 := of_decide_eq_true h1b
  refine jc_seq (jc_region (jo_pure rfl (pr_fieldAddr 1 rfl Tryz.underlying40 rfl ty_28 rfl rfl) ?_))
  refine jo_pure rfl (pr_load_box (env2) rfl ty_28 (.tail _ (.head _)) rfl (by decide) rfl) ?_
  refine jo_pure rfl (pr_fieldAddr 1 rfl Tryz.underlying40 rfl ty_28 rfl rfl) ?_
  refine jo_pure rfl (pr_load_box (oldv2) rfl ty_28 (.head _) rfl (by decide) rfl) ?_
  refine jo_callp cal_89 (c_slices_Equal_string_string en.2.1 env2 old.2.1 oldv2 (by first | omega | exact hax | exact ho | exact he.strs | (have := he.keys; omega))) ⟨rfl, rfl, trivial⟩ rfl (⟨⟨rfl, .tail _ (.tail _ (.tail _ (.tail _ (.tail _ (.head _)))))⟩, ⟨⟨rfl, .tail _ (.tail _ (.tail _ (.tail _ (.tail _ (.tail _ (.tail _ (.tail _ (.tail _ (.head _)))))))))⟩, trivial⟩⟩) (fun _ => ?_)
  refine jo_pure rfl (pr_move rfl) (jo_gpure (j := 5) (want := true) rfl rfl rfl rfl (fun hg=>pr_fieldAddr 2 rfl Tryz.underlying40 rfl ty_28 rfl rfl) ?_)
  refine jo_gpure (j := 5) (want := true) rfl rfl rfl rfl (fun hg=>pr_load_box (env3) (evg rfl hg) ty_28 (.tail _ (.head _)) rfl (by decide) rfl) ?_
  refine jo_gpure (j := 5) (want := true) rfl rfl rfl rfl (fun hg=>pr_fieldAddr 2 rfl Tryz.underlying40 rfl ty_28 rfl rfl) ?_
  refine jo_gpure (j := 5) (want := true) rfl rfl rfl rfl (fun hg=>pr_load_box (oldv3) (evg rfl hg) ty_28 (.head _) rfl (by decide) rfl) ?_
  refine jo_gcall (j := 5) (want := true) rfl rfl rfl cal_89 (fun hg => c_slices_Equal_string_string en.2.2.1 env3 old.2.2.1 oldv3 (by first | omega | exact hax | exact ho | exact he.strs | (have := he.keys; omega))) (fun hg => ⟨evg rfl hg, evg rfl hg, trivial⟩) rfl (fun _ => ⟨⟨rfl, .tail _ (.tail _ (.tail _ (.tail _ (.tail _ (.tail _ (.head _))))))⟩, ⟨⟨rfl, .tail _ (.tail _ (.tail _ (.tail _ (.tail _ (.tail _ (.tail _ (.tail _ (.tail _ (.tail _ (.head _))))))))))⟩, trivial⟩⟩) ?_
  refine jo_pure rfl (pr_pick_and rfl rfl rfl) ?_
  refine jo_pure rfl (pr_assign rfl) (jo_nil (jq_then (jc_ret (jq_then_ret (j_drop (j_drop (j_drop (j_drop (j_drop (j_drop (j_drop (j_drop (j_drop (j_drop (j_drop (j_drop ?_))))))))))))))))
  exact jq_ret1 rfl () rfl (show (.bool (replB axes en old) : Value) = (.bool ((decide (en.2.1 = old.2.1) && decide (en.2.2.1 = old.2.2.1)))) from congrArg Value.bool (by unfold replB; rw [if_pos (List.length_eq_zero_iff.1 h1)])) (fun _ h => h)
 ·have h1 := of_decide_eq_false h1b
  refine jc_skip (jq_then (jc_seq (jc_region (jo_pure rfl (pr_fieldAddr 0 rfl Tryz.underlying40 rfl ty_37 rfl rfl) ?_))))
  refine jo_pure rfl (pr_load_box (env) rfl ty_37 (.tail _ (.head _)) rfl (by decide) rfl) ?_
  refine jo_pure rfl (pr_makeFunc (fs := #[]) (cs := #[.pointer (some ⟨b1, 0, none⟩), .pointer (some ⟨b3, 0, none⟩)]) (fun a hf => by simp) (fun a hf => by simp only [List.map_toArray, List.map_cons, List.map_nil, hf.ev (show ev _ (.tmp 3) = some (.pointer (some ⟨b1, 0, none⟩)) from rfl), hf.ev (show ev _ (.tmp 5) = some (.pointer (some ⟨b3, 0, none⟩)) from rfl)])) ?_
  refine j_pull2 (j_pub_box ?_)
  refine j_pull1 (j_pub_box ?_)
  refine jo_callp cal_91 (c_containsFunc_replaces en.1 env axes axesv b1 old oldv oldv2 oldv3 oldv4 b3 (by first | omega | exact hax | exact ho | exact he.strs | (have := he.keys; omega)) (by first | omega | exact hax | exact ho | exact he.strs | (have := he.keys; omega)) (by first | omega | exact hax | exact ho | exact he.strs | (have := he.keys; omega)) (by first | omega | exact hax | exact ho | exact he.strs | (have := he.keys; omega))) ⟨rfl, rfl, trivial⟩ rfl (⟨⟨rfl, .tail _ (.tail _ (.tail _ (.tail _ (.head _))))⟩, ⟨⟨rfl, .tail _ (.tail _ (.tail _ (.head _)))⟩, ⟨⟨rfl, .tail _ (.head _)⟩, ⟨⟨rfl, .tail _ (.tail _ (.tail _ (.tail _ (.tail _ (.tail _ (.tail _ (.tail _ (.head _))))))))⟩, ⟨⟨rfl, .tail _ (.tail _ (.tail _ (.tail _ (.tail _ (.tail _ (.tail _ (.tail _ (.tail _ (.head _)))))))))⟩, ⟨⟨rfl, .tail _ (.tail _ (.tail _ (.tail _ (.tail _ (.tail _ (.tail _ (.tail _ (.tail _ (.tail _ (.head _))))))))))⟩, ⟨⟨rfl, .tail _ (.tail _ (.tail _ (.tail _ (.tail _ (.tail _ (.tail _ (.tail _ (.tail _ (.tail _ (.tail _ (.head _)))))))))))⟩, ⟨⟨rfl, .head _⟩, trivial⟩⟩⟩⟩⟩⟩⟩⟩) (fun _ => ?_)
  refine jo_pure rfl (pr_assign rfl) (jo_nil (jq_then (jc_ret (j_drop (j_drop (j_drop (j_drop (j_drop (j_drop (j_drop (j_drop (j_drop (j_drop (j_drop (j_drop ?_)))))))))))))))
  exact jq_ret1 rfl () rfl (show (.bool (replB axes en old) : Value) = (.bool (en.1.any (fun k => hasK axes old k))) from congrArg Value.bool (by unfold replB; rw [if_neg (fun e => h1 (by rw [e]; rfl))])) (fun _ h => h)

theorem c_tablePut_1 (old : Ent) (oldv : Value) (oldv2 : Value) (oldv3 : Value) (oldv4 : Value) (axes : List (Axs)) (axesv : Value) (axesb : Nat) (en : Ent) (env : Value) (env2 : Value) (env3 : Value) (env4 : Value) (enb : Nat) (hax : OkA axes) (he : OkE en) (ho : OkE old) : Con Tryz.prog 73 #[.agg #[oldv, oldv2, oldv3, str (old.2.2.2.1), oldv4, str (old.2.2.2.2.2.1), .int .i64 (old.2.2.2.2.2.2.1), .int .i64 (old.2.2.2.2.2.2.2)], .pointer (some ⟨axesb, 0, none⟩), .pointer (some ⟨enb, 0, none⟩)] [.imm (.list (.list .str)) (oldv) (old.1), .imm (.list .str) (oldv2) (old.2.1), .imm (.list .str) (oldv3) (old.2.2.1), .imm (.list (.pair .str .str)) (oldv4) (old.2.2.2.2.1), .imm (.list (.pair .str (.list .str))) (axesv) (axes), .ibox axesb 41 [axesv], .imm (.list (.list .str)) (env) (en.1), .imm (.list .str) (env2) (en.2.1), .imm (.list .str) (env3) (en.2.2.1), .imm (.list (.pair .str .str)) (env4) (en.2.2.2.2.1), .ibox enb 40 [env, env2, env3, str (en.2.2.2.1), env4, str (en.2.2.2.2.2.1), .int .i64 (en.2.2.2.2.2.2.1), .int .i64 (en.2.2.2.2.2.2.2)]] (fun _ : Unit => .bool (replB axes en old)) (fun _ => []) := by
 refine con_of_J (args := [.agg #[oldv, oldv2, oldv3, str (old.2.2.2.1), oldv4, str (old.2.2.2.2.2.1), .int .i64 (old.2.2.2.2.2.2.1), .int .i64 (old.2.2.2.2.2.2.2)], .pointer (some ⟨axesb, 0, none⟩), .pointer (some ⟨enb, 0, none⟩)]) (n := 9) Tryz.func73 rfl (Nat.le_of_ble_eq_true rfl) rfl (fun w0 I0 m0 => ?_)
 refine jc_seq (jc_region ?_)
 refine jo_box rfl [oldv, oldv2, oldv3, str (old.2.2.2.1), oldv4, str (old.2.2.2.2.2.1), .int .i64 (old.2.2.2.2.2.2.1), .int .i64 (old.2.2.2.2.2.2.2)] rfl rfl (fun b1 => ?_)
 refine jo_pure rfl (pr_assign rfl) (jo_nil (jq_then (jc_seq (jc_region (jo_pure rfl (pr_load_ibox (axesv) rfl ty_41 (.tail _ (.tail _ (.tail _ (.tail _ (.tail _ (.tail _ (.head _))))))) rfl (by decide) rfl) ?_)))))
 refine jo_pure rfl (pr_load_ibox (.agg #[env, env2, env3, str (en.2.2.2.1), env4, str (en.2.2.2.2.2.1), .int .i64 (en.2.2.2.2.2.2.1), .int .i64 (en.2.2.2.2.2.2.2)]) rfl ty_40 (.tail _ (.tail _ (.tail _ (.tail _ (.tail _ (.tail _ (.tail _ (.tail _ (.tail _ (.tail _ (.tail _ (.head _)))))))))))) rfl (by decide) rfl) ?_
 refine jo_pure rfl (pr_load_box (.agg #[oldv, oldv2, oldv3, str (old.2.2.2.1), oldv4, str (old.2.2.2.2.2.1), .int .i64 (old.2.2.2.2.2.2.1), .int .i64 (old.2.2.2.2.2.2.2)]) rfl ty_40 (.head _) rfl (by decide) rfl) ?_
 have con1 := c_table_replaces axes axesv en env env2 env3 env4 old oldv oldv2 oldv3 oldv4 (by first | exact hax | exact ho | exact he) (by first | exact hax | exact ho | exact he) (by first | exact hax | exact ho | exact he)
 refine jo_callp cal_74 con1 (by exact ⟨rfl, rfl, rfl, trivial⟩) rfl (by exact ⟨⟨rfl, .tail _ (.tail _ (.tail _ (.tail _ (.tail _ (.head _)))))⟩, ⟨⟨rfl, .tail _ (.tail _ (.tail _ (.tail _ (.tail _ (.tail _ (.tail _ (.head _)))))))⟩, ⟨⟨rfl, .tail _ (.tail _ (.tail _ (.tail _ (.tail _ (.tail _ (.tail _ (.tail _ (.head _))))))))⟩, ⟨⟨rfl, .tail _ (.tail _ (.tail _ (.tail _ (.tail _ (.tail _ (.tail _ (.tail _ (.tail _ (.head _)))))))))⟩, ⟨⟨rfl, .tail _ (.tail _ (.tail _ (.tail _ (.tail _ (.tail _ (.tail _ (.tail _ (.tail _ (.tail _ (.head _))))))))))⟩, ⟨⟨rfl, .tail _ (.head _)⟩, ⟨⟨rfl, .tail _ (.tail _ (.head _))⟩, ⟨⟨rfl, .tail _ (.tail _ (.tail _ (.head _)))⟩, ⟨⟨rfl, .tail _ (.tail _ (.tail _ (.tail _ (.head _))))⟩, trivial⟩⟩⟩⟩⟩⟩⟩⟩⟩) (fun _ => ?_)
 clear con1
 refine jo_pure rfl (pr_assign rfl) (jo_nil (jq_then (jc_ret (j_drop (j_drop (j_drop (j_drop (j_drop (j_drop (j_drop (j_drop (j_drop (j_drop (j_drop (j_drop ?_)))))))))))))))
 exact jq_ret1 rfl () rfl (show (.bool (replB axes en old) : Value) = (.bool (replB axes en old)) from rfl) (fun _ h => h)

theorem c_indexFunc_tablePut (l : List Ent) (lv : Value) (axes : List (Axs)) (axesv : Value) (axesb : Nat) (en : Ent) (env : Value) (env2 : Value) (env3 : Value) (env4 : Value) (enb : Nat) (hax : OkA axes) (he : OkE en) (hl : l.length ≤ 1000000000) (hlm : ∀ o ∈ l, OkE o) : Con Tryz.prog 90 #[lv, .func (.func 73) #[] #[.pointer (some ⟨axesb, 0, none⟩), .pointer (some ⟨enb, 0, none⟩)]] [.imm (.list tyE) (lv) (l), .imm (.list (.pair .str (.list .str))) (axesv) (axes), .ibox axesb 41 [axesv], .imm (.list (.list .str)) (env) (en.1), .imm (.list .str) (env2) (en.2.1), .imm (.list .str) (env3) (en.2.2.1), .imm (.list (.pair .str .str)) (env4) (en.2.2.2.2.1), .ibox enb 40 [env, env2, env3, str (en.2.2.2.1), env4, str (en.2.2.2.2.2.1), .int .i64 (en.2.2.2.2.2.2.1), .int .i64 (en.2.2.2.2.2.2.2)]] (fun _ : Unit => .int .i64 (idxP (fun o => replB axes en o) l)) (fun _ => []) := by
 refine con_of_J (args := [lv, .func (.func 73) #[] #[.pointer (some ⟨axesb, 0, none⟩), .pointer (some ⟨enb, 0, none⟩)]]) (n := 19) Tryz.func90 rfl (Nat.le_of_ble_eq_true rfl) rfl (fun w0 I0 m0 => ?_)
 refine jc_seq (jc_region (jo_pure rfl (pr_assign rfl) (jo_nil (jq_then (jc_seq (jc_seq (jc_region (jo_pure rfl (pr_move rfl) (jo_pure rfl (pr_len_imm rfl (.head _) Tryz.underlying48) ?_)))))))))
 refine jo_pure rfl (pr_move rfl) (jo_nil (jq_then (jc_block ?_)))
 refine jc_loop (fun (j : Nat) => [(0, lv), (1, .func (.func 73) #[] #[.pointer (some ⟨axesb, 0, none⟩), .pointer (some ⟨enb, 0, none⟩)]), (7, .int .i64 ((l.length : Nat) : Int)), (8, .int .i64 ((j : Nat) : Int))]) (fun (j : Nat) => [.imm (.list tyE) (lv) (l), .imm (.list (.pair .str (.list .str))) (axesv) (axes), .ibox axesb 41 [axesv], .imm (.list (.list .str)) (env) (en.1), .imm (.list .str) (env2) (en.2.1), .imm (.list .str) (env3) (en.2.2.1), .imm (.list (.pair .str .str)) (env4) (en.2.2.2.2.1), .ibox enb 40 [env, env2, env3, str (en.2.2.2.1), env4, str (en.2.2.2.2.2.1), .int .i64 (en.2.2.2.2.2.2.1), .int .i64 (en.2.2.2.2.2.2.2)]]) (fun (j : Nat) => j ≤ l.length ∧ (l.take j).any (fun o => replB axes en o) = false) (fun (j : Nat) => l.length - j) 0 (⟨Nat.zero_le _, rfl⟩) (⟨rfl, rfl, rfl, rfl, trivial⟩) (fun _ h => h) (fun j hinv => ?_)
 refine jc_seq (jc_region (jo_pure rfl (pr_lssN (m := j) (n := l.length) rfl rfl) ?_))
 refine jo_nil (jq_then (jc_seq ?_))
 refine jc_cond rfl (fun h1b => ?_) (fun h1b => ?_)
 ·have h1 := of_decide_eq_true h1b
  refine jc_skip (jq_then (jc_seq (jc_block (jc_seq (jc_region (jo_pure rfl (pr_move rfl) (jo_pure rfl (pr_assign rfl) (jo_nil (jq_then (jc_seq (jc_region (jo_pure rfl (pr_move rfl) (jo_pure rfl (pr_move rfl) (jo_pure rfl (pr_move rfl) ?_))))))))))))))
  refine j_open_elem (t := tyE) (i := j) ([],[],[],[],[],[],0,0) (.head _) (by omega) (fun ⟨e1, ⟨e2, ⟨e3, ⟨_, ⟨e4, ⟨_, ⟨_, _⟩⟩⟩⟩⟩⟩⟩ => ?_)
  refine jo_pure rfl (pr_idx_imm (i := j) rfl (.tail _ (.tail _ (.tail _ (.tail _ (.tail _ (.head _)))))) rfl Tryz.underlying48 ty_40 (by omega)) ?_
  refine jo_pure rfl (pr_load_at (.agg #[e1, e2, e3, str ((((((l.getD j ([],[],[],[],[],[],0,0))).2).2).2).1), e4, str ((((((((l.getD j ([],[],[],[],[],[],0,0))).2).2).2).2).2).1), .int .i64 (((((((((l.getD j ([],[],[],[],[],[],0,0))).2).2).2).2).2).2).1), .int .i64 (((((((((l.getD j ([],[],[],[],[],[],0,0))).2).2).2).2).2).2).2)]) rfl (.tail _ (.tail _ (.tail _ (.tail _ (.head _))))) ty_40 (by decide) rfl) ?_
  refine jo_callvp (fi := []) (vs := [.agg #[e1, e2, e3, str ((((((l.getD j ([],[],[],[],[],[],0,0))).2).2).2).1), e4, str ((((((((l.getD j ([],[],[],[],[],[],0,0))).2).2).2).2).2).1), .int .i64 (((((((((l.getD j ([],[],[],[],[],[],0,0))).2).2).2).2).2).2).1), .int .i64 (((((((((l.getD j ([],[],[],[],[],[],0,0))).2).2).2).2).2).2).2)]]) (ca := [.pointer (some ⟨axesb, 0, none⟩), .pointer (some ⟨enb, 0, none⟩)]) rfl cal_73 (c_tablePut_1 ((l.getD j ([],[],[],[],[],[],0,0))) e1 e2 e3 e4 axes axesv axesb en env env2 env3 env4 enb (by first | exact hax | exact he | exact hlm _ (getD_mem h1)) (by first | exact hax | exact he | exact hlm _ (getD_mem h1)) (by first | exact hax | exact he | exact hlm _ (getD_mem h1))) ⟨rfl, trivial⟩ rfl (⟨⟨rfl, .head _⟩, ⟨⟨rfl, .tail _ (.head _)⟩, ⟨⟨rfl, .tail _ (.tail _ (.head _))⟩, ⟨⟨rfl, .tail _ (.tail _ (.tail _ (.head _)))⟩, ⟨⟨rfl, .tail _ (.tail _ (.tail _ (.tail _ (.tail _ (.tail _ (.head _))))))⟩, ⟨⟨rfl, .tail _ (.tail _ (.tail _ (.tail _ (.tail _ (.tail _ (.tail _ (.head _)))))))⟩, ⟨⟨rfl, .tail _ (.tail _ (.tail _ (.tail _ (.tail _ (.tail _ (.tail _ (.tail _ (.head _))))))))⟩, ⟨⟨rfl, .tail _ (.tail _ (.tail _ (.tail _ (.tail _ (.tail _ (.tail _ (.tail _ (.tail _ (.head _)))))))))⟩, ⟨⟨rfl, .tail _ (.tail _ (.tail _ (.tail _ (.tail _ (.tail _ (.tail _ (.tail _ (.tail _ (.tail _ (.head _))))))))))⟩, ⟨⟨rfl, .tail _ (.tail _ (.tail _ (.tail _ (.tail _ (.tail _ (.tail _ (.tail _ (.tail _ (.tail _ (.tail _ (.head _)))))))))))⟩, ⟨⟨rfl, .tail _ (.tail _ (.tail _ (.tail _ (.tail _ (.tail _ (.tail _ (.tail _ (.tail _ (.tail _ (.tail _ (.tail _ (.head _))))))))))))⟩, trivial⟩⟩⟩⟩⟩⟩⟩⟩⟩⟩⟩) (fun _ => ?_)
  refine jo_nil (jq_then ?_)
  refine jc_cond rfl (fun h2b => ?_) (fun h2b => ?_)
  ·have h2 := id h2b
   refine jc_seq (jc_region (jo_pure rfl (pr_move rfl) (jo_pure rfl (pr_assign rfl) (jo_nil (jq_then (jc_ret (jq_in_ret ?_)))))))
   refine jq_then_ret (jq_then_ret (jq_in_ret ?_))
   refine jq_then_ret (j_drop (j_drop (j_drop (j_drop (j_drop (j_drop (j_drop (j_drop (j_drop (j_drop (j_drop (j_drop (j_drop ?_)))))))))))))
   exact jq_ret1 rfl () rfl (show (.int .i64 (idxP (fun o => replB axes en o) l) : Value) = (.int .i64 ((j : Nat) : Int)) from congrArg (Value.int .i64) (by rw [idxP_hit (dd := ([],[],[],[],[],[],0,0)) h1 hinv.2 h2])) (fun _ h => h)
  ·have h2 := id h2b
   refine jc_skip (jq_in_normal (jq_then (jc_region (jo_pure rfl (pr_addN (m := j) (n := 1) rfl rfl (by omega)) ?_))))
   refine jo_pure rfl (pr_move rfl) (jo_nil (j_drop (j_drop (j_drop (j_drop (j_drop (j_pull7 ?_)))))))
   refine j_pull7 ?_
   refine j_pull7 ?_
   refine j_pull7 ?_
   refine j_pull7 ?_
   refine j_pull7 ?_
   refine j_pull7 ?_
   refine j_pull7 ?_
   refine jq_round' (j + 1) (by (try dsimp only); exact (⟨by omega, any_step (dd := ([],[],[],[],[],[],0,0)) h1 hinv.2 h2⟩)) (by (try dsimp only); exact (by omega)) ⟨rfl, rfl, rfl, rfl, trivial⟩ (fun _ h => h)
 ·have h1 := of_decide_eq_false h1b
  refine jc_exit ?_
  refine jq_then_exit ?_
  refine jq_then_exit ?_
  refine jq_in_hit ?_
  refine jq_then (jc_seq (jc_region (jo_pure rfl (pr_assign rfl) (jo_nil (jq_then (jc_ret (j_drop (j_drop (j_drop (j_drop (j_drop (j_drop (j_drop (j_drop ?_))))))))))))))
  exact jq_ret1 rfl () rfl (show (.int .i64 (idxP (fun o => replB axes en o) l) : Value) = (.int .i64 (-1)) from congrArg (Value.int .i64) (by rw [idxP_none (any_end (by omega) hinv.2)])) (fun _ h => h)

theorem c_deleteFunc_entry (l : List Ent) (sv : Value) (axes : List (Axs)) (axesv : Value) (axesb : Nat) (en : Ent) (env : Value) (env2 : Value) (env3 : Value) (env4 : Value) (enb : Nat) (hax : OkA axes) (he : OkE en) (hl : l.length ≤ 1000000000) (hlm : ∀ o ∈ l, OkE o) : Con Tryz.prog 72 #[sv, .func (.func 73) #[] #[.pointer (some ⟨axesb, 0, none⟩), .pointer (some ⟨enb, 0, none⟩)]] [.row (sv) 40 tyE (l), .imm (.list (.pair .str (.list .str))) (axesv) (axes), .ibox axesb 41 [axesv], .imm (.list (.list .str)) (env) (en.1), .imm (.list .str) (env2) (en.2.1), .imm (.list .str) (env3) (en.2.2.1), .imm (.list (.pair .str .str)) (env4) (en.2.2.2.2.1), .ibox enb 40 [env, env2, env3, str (en.2.2.2.1), env4, str (en.2.2.2.2.2.1), .int .i64 (en.2.2.2.2.2.2.1), .int .i64 (en.2.2.2.2.2.2.2)]] (fun r1 : Value => r1) (fun r1 => [.row (r1) 40 tyE (l.filter (fun o => !(fun o => replB axes en o) o))]) := by
 refine con_of_J (args := [sv, .func (.func 73) #[] #[.pointer (some ⟨axesb, 0, none⟩), .pointer (some ⟨enb, 0, none⟩)]]) (n := 42) Tryz.func72 rfl (Nat.le_of_ble_eq_true rfl) rfl (fun w0 I0 m0 => ?_)
 refine jc_seq (jc_region (jo_pure rfl (pr_assign rfl) (jo_nil (jq_then (jc_seq (jc_region (jo_pure rfl (pr_move rfl) (jo_pure rfl (pr_move rfl) ?_))))))))
 refine jo_callq cal_90 (c_indexFunc_tablePut l sv axes axesv axesb en env env2 env3 env4 enb (by first | exact hax | exact he | exact hl | exact hlm | (exact hlm _ (getD_mem h2)) | (rw [hgd]; exact hlm _ (getD_mem h2))) (by first | exact hax | exact he | exact hl | exact hlm | (exact hlm _ (getD_mem h2)) | (rw [hgd]; exact hlm _ (getD_mem h2))) (by first | exact hax | exact he | exact hl | exact hlm | (exact hlm _ (getD_mem h2)) | (rw [hgd]; exact hlm _ (getD_mem h2))) (by first | exact hax | exact he | exact hl | exact hlm | (exact hlm _ (getD_mem h2)) | (rw [hgd]; exact hlm _ (getD_mem h2)))) ⟨rfl, rfl, trivial⟩ rfl (⟨peek_row (.head _), ⟨peek_pers rfl (.tail _ (.head _)), ⟨peek_pers rfl (.tail _ (.tail _ (.head _))), ⟨peek_pers rfl (.tail _ (.tail _ (.tail _ (.head _)))), ⟨peek_pers rfl (.tail _ (.tail _ (.tail _ (.tail _ (.head _))))), ⟨peek_pers rfl (.tail _ (.tail _ (.tail _ (.tail _ (.tail _ (.head _)))))), ⟨peek_pers rfl (.tail _ (.tail _ (.tail _ (.tail _ (.tail _ (.tail _ (.head _))))))), ⟨peek_pers rfl (.tail _ (.tail _ (.tail _ (.tail _ (.tail _ (.tail _ (.tail _ (.head _)))))))), trivial⟩⟩⟩⟩⟩⟩⟩⟩) (fun _ => ?_)
 refine jo_pure rfl (pr_assign rfl) (jo_nil (jq_then (jc_seq (jc_seq (jc_region (jo_pure rfl (pr_move rfl) (jo_pure rfl (pr_eql (n := -1) rfl rfl) ?_)))))))
 refine jo_nil (jq_then ?_)
 refine jc_cond rfl (fun h1b => ?_) (fun h1b => ?_)
 ·have h1 := of_decide_eq_true h1b
  refine jc_seq (jc_region (jo_pure rfl (pr_move rfl) (jo_pure rfl (pr_assign rfl) (jo_nil (jq_then (jc_ret (jq_then_ret (j_pull1 (j_drop (j_pull1 (j_drop (j_pull1 (j_drop (j_pull1 (j_drop (j_pull1 (j_drop (j_pull1 (j_drop (j_pull1 (j_drop ?_)))))))))))))))))))))
  exact jq_ret1 rfl sv rfl (show (_ : Value) = (sv) from rfl) (fun _ h => by rw [idxP_no h1]; exact h)
 ·have h1 := of_decide_eq_false h1b
  have hat := idxP_at h1 ([],[],[],[],[],[],0,0)
  obtain ⟨k0, hk0⟩ : ∃ k0, k0 = (idxP (fun o => replB axes en o) l).toNat := ⟨_, rfl⟩
  rw [← hk0] at hat
  have hst := DelTo.start ([],[],[],[],[],[],0,0) hat.2.1 hat.2.2.1 hat.2.2.2
  rw [show (idxP (fun o => replB axes en o) l : Int) = ((k0 : Nat) : Int) from by rw [hk0]; exact (Int.toNat_of_nonneg hat.1).symm]
  refine jc_skip (jq_then (jc_seq (jc_seq ?_)))
  refine j_open_row (Nat.lt_of_le_of_lt (Nat.zero_le _) hat.2.1) (fun g1 cap1 hv_ => ?_)
  subst hv_
  refine jc_region (jo_pure rfl (pr_move rfl) (jo_pure rfl (pr_addN (m := k0) (n := 1) rfl rfl (by omega)) ?_))
  refine jo_pure rfl (pr_assign rfl) (jo_nil (jq_then (jc_block ?_)))
  refine jc_loop3 (fun (j : Nat) (k : Nat) (xs : List Ent) => [(0, .slice (some ⟨g1, 0, none⟩) (l.length) (cap1)), (1, .func (.func 73) #[] #[.pointer (some ⟨axesb, 0, none⟩), .pointer (some ⟨enb, 0, none⟩)]), (5, .int .i64 ((k : Nat) : Int)), (6, .int .i64 ((j : Nat) : Int))]) (fun (j : Nat) (k : Nat) (xs : List Ent) => [.rowg g1 (cap1) 40 tyE (xs), .imm (.list (.pair .str (.list .str))) (axesv) (axes), .ibox axesb 41 [axesv], .imm (.list (.list .str)) (env) (en.1), .imm (.list .str) (env2) (en.2.1), .imm (.list .str) (env3) (en.2.2.1), .imm (.list (.pair .str .str)) (env4) (en.2.2.2.2.1), .ibox enb 40 [env, env2, env3, str (en.2.2.2.1), env4, str (en.2.2.2.2.2.1), .int .i64 (en.2.2.2.2.2.2.1), .int .i64 (en.2.2.2.2.2.2.2)]]) (fun (j : Nat) (k : Nat) (xs : List Ent) => DelTo (fun o => replB axes en o) l xs k j) (fun (j : Nat) (k : Nat) (xs : List Ent) => l.length - j) (k0 + 1) k0 l (hst) (⟨rfl, rfl, rfl, rfl, trivial⟩) (fun _ h => h) (fun j k xs hinv => ?_)
  refine j_cap (.head _) (fun hcap => ?_)
  refine jc_seq (jc_seq (jc_region (jo_pure rfl (pr_move rfl) (jo_pure rfl (pr_move rfl) (jo_pure rfl (pr_len rfl Tryz.underlying48) ?_)))))
  refine jo_pure rfl (pr_lssN (m := j) (n := l.length) rfl rfl) ?_
  refine jo_nil (jq_then ?_)
  refine jc_cond rfl (fun h2b => ?_) (fun h2b => ?_)
  ·have h2 := of_decide_eq_true h2b
   have hgd := hinv.get h2 ([],[],[],[],[],[],0,0)
   have hkj : k ≤ j ∧ j ≤ l.length ∧ xs.length = l.length := ⟨hinv.1, hinv.2.1, hinv.2.2.1⟩
   refine jc_skip (jq_then (jc_seq (jc_block (jc_seq (jc_region (jo_pure rfl (pr_move rfl) (jo_pure rfl (pr_move rfl) (jo_pure rfl (pr_idx (i := j) (j * 8) rfl rfl Tryz.underlying48 ty_40 (by omega) (by first | rfl | (simp only [Nat.zero_add, Nat.mul_one]))) ?_))))))))
   refine jo_loadO (o := 0) (i := j) ([],[],[],[],[],[],0,0) rfl ty_40 (by decide) rfl (.head _) (by omega) (by first | rfl | (simp only [Ty.n]; omega)) rfl (fun ⟨e1, ⟨e2, ⟨e3, ⟨_, ⟨e4, ⟨_, ⟨_, _⟩⟩⟩⟩⟩⟩⟩ => ?_)
   refine jo_alloc ty_40 [.slice none 0 0, .slice none 0 0, .slice none 0 0, str ([]), .slice none 0 0, str ([]), .int .i64 ((0 : Nat) : Int), .int .i64 ((0 : Nat) : Int)] rfl rfl (fun b1 => ?_)
   refine jo_storeV rfl rfl ty_40 [e1, e2, e3, str ((((((xs.getD j ([],[],[],[],[],[],0,0))).2).2).2).1), e4, str ((((((((xs.getD j ([],[],[],[],[],[],0,0))).2).2).2).2).2).1), .int .i64 (((((((((xs.getD j ([],[],[],[],[],[],0,0))).2).2).2).2).2).2).1), .int .i64 (((((((((xs.getD j ([],[],[],[],[],[],0,0))).2).2).2).2).2).2).2)] (fun _ _ _ _ => rfl) rfl (fun w I m hs => by simp only [List.all_cons, List.all_nil, Bool.and_true, Bool.and_eq_true]; exact ⟨(SliceV.one (imm_slice (.tail _ (.head _)) hs)), (SliceV.one (imm_slice (.tail _ (.tail _ (.head _))) hs)), (SliceV.one (imm_slice (.tail _ (.tail _ (.tail _ (.head _)))) hs)), rfl, (SliceV.one (imm_slice (.tail _ (.tail _ (.tail _ (.tail _ (.head _))))) hs)), rfl, rfl, rfl⟩) [e1, e2, e3, str ((((((xs.getD j ([],[],[],[],[],[],0,0))).2).2).2).1), e4, str ((((((((xs.getD j ([],[],[],[],[],[],0,0))).2).2).2).2).2).1), .int .i64 (((((((((xs.getD j ([],[],[],[],[],[],0,0))).2).2).2).2).2).2).1), .int .i64 (((((((((xs.getD j ([],[],[],[],[],[],0,0))).2).2).2).2).2).2).2)] rfl rfl ?_
   refine jo_nil (jq_then (jc_seq (jc_region (jo_pure rfl (pr_move rfl) (jo_pure rfl (pr_load_box (.agg #[e1, e2, e3, str ((((((xs.getD j ([],[],[],[],[],[],0,0))).2).2).2).1), e4, str ((((((((xs.getD j ([],[],[],[],[],[],0,0))).2).2).2).2).2).1), .int .i64 (((((((((xs.getD j ([],[],[],[],[],[],0,0))).2).2).2).2).2).2).1), .int .i64 (((((((((xs.getD j ([],[],[],[],[],[],0,0))).2).2).2).2).2).2).2)]) rfl ty_40 (.head _) rfl (by decide) rfl) ?_)))))
   refine jo_callvp (fi := []) (vs := [.agg #[e1, e2, e3, str ((((((xs.getD j ([],[],[],[],[],[],0,0))).2).2).2).1), e4, str ((((((((xs.getD j ([],[],[],[],[],[],0,0))).2).2).2).2).2).1), .int .i64 (((((((((xs.getD j ([],[],[],[],[],[],0,0))).2).2).2).2).2).2).1), .int .i64 (((((((((xs.getD j ([],[],[],[],[],[],0,0))).2).2).2).2).2).2).2)]]) (ca := [.pointer (some ⟨axesb, 0, none⟩), .pointer (some ⟨enb, 0, none⟩)]) rfl cal_73 (c_tablePut_1 ((xs.getD j ([],[],[],[],[],[],0,0))) e1 e2 e3 e4 axes axesv axesb en env env2 env3 env4 enb (by first | exact hax | exact he | exact hl | exact hlm | (exact hlm _ (getD_mem h2)) | (rw [hgd]; exact hlm _ (getD_mem h2))) (by first | exact hax | exact he | exact hl | exact hlm | (exact hlm _ (getD_mem h2)) | (rw [hgd]; exact hlm _ (getD_mem h2))) (by first | exact hax | exact he | exact hl | exact hlm | (exact hlm _ (getD_mem h2)) | (rw [hgd]; exact hlm _ (getD_mem h2)))) ⟨rfl, trivial⟩ rfl (⟨⟨rfl, .tail _ (.head _)⟩, ⟨⟨rfl, .tail _ (.tail _ (.head _))⟩, ⟨⟨rfl, .tail _ (.tail _ (.tail _ (.head _)))⟩, ⟨⟨rfl, .tail _ (.tail _ (.tail _ (.tail _ (.head _))))⟩, ⟨⟨rfl, .tail _ (.tail _ (.tail _ (.tail _ (.tail _ (.tail _ (.head _))))))⟩, ⟨⟨rfl, .tail _ (.tail _ (.tail _ (.tail _ (.tail _ (.tail _ (.tail _ (.head _)))))))⟩, ⟨⟨rfl, .tail _ (.tail _ (.tail _ (.tail _ (.tail _ (.tail _ (.tail _ (.tail _ (.head _))))))))⟩, ⟨⟨rfl, .tail _ (.tail _ (.tail _ (.tail _ (.tail _ (.tail _ (.tail _ (.tail _ (.tail _ (.head _)))))))))⟩, ⟨⟨rfl, .tail _ (.tail _ (.tail _ (.tail _ (.tail _ (.tail _ (.tail _ (.tail _ (.tail _ (.tail _ (.head _))))))))))⟩, ⟨⟨rfl, .tail _ (.tail _ (.tail _ (.tail _ (.tail _ (.tail _ (.tail _ (.tail _ (.tail _ (.tail _ (.tail _ (.head _)))))))))))⟩, ⟨⟨rfl, .tail _ (.tail _ (.tail _ (.tail _ (.tail _ (.tail _ (.tail _ (.tail _ (.tail _ (.tail _ (.tail _ (.tail _ (.head _))))))))))))⟩, trivial⟩⟩⟩⟩⟩⟩⟩⟩⟩⟩⟩) (fun _ => ?_)
   refine jo_pure rfl (pr_not rfl) ?_
   refine jo_nil (jq_then ?_)
   refine jc_cond rfl (fun h3b => ?_) (fun h3b => ?_)
   ·have h3 := (fun q => id (bt_not q)) h3b
    refine jc_seq (jc_region (jo_pure rfl (pr_move rfl) (jo_pure rfl (pr_move rfl) (jo_pure rfl (pr_load_box (.agg #[e1, e2, e3, str ((((((xs.getD j ([],[],[],[],[],[],0,0))).2).2).2).1), e4, str ((((((((xs.getD j ([],[],[],[],[],[],0,0))).2).2).2).2).2).1), .int .i64 (((((((((xs.getD j ([],[],[],[],[],[],0,0))).2).2).2).2).2).2).1), .int .i64 (((((((((xs.getD j ([],[],[],[],[],[],0,0))).2).2).2).2).2).2).2)]) rfl ty_40 (.head _) rfl (by decide) rfl) ?_))))
    refine jo_pure rfl (pr_idx (i := k) (k * 8) rfl rfl Tryz.underlying48 ty_40 (by omega) (by first | rfl | (simp only [Nat.zero_add, Nat.mul_one]))) ?_
    refine j_pull5 ?_
    refine jo_storeO (t := tyE) (i := k) ((xs.getD j ([],[],[],[],[],[],0,0))) [e1, e2, e3, str ((((((xs.getD j ([],[],[],[],[],[],0,0))).2).2).2).1), e4, str ((((((((xs.getD j ([],[],[],[],[],[],0,0))).2).2).2).2).2).1), .int .i64 (((((((((xs.getD j ([],[],[],[],[],[],0,0))).2).2).2).2).2).2).1), .int .i64 (((((((((xs.getD j ([],[],[],[],[],[],0,0))).2).2).2).2).2).2).2)] rfl rfl rfl (⟨[e1], [e2, e3, str ((((((xs.getD j ([],[],[],[],[],[],0,0))).2).2).2).1), e4, str ((((((((xs.getD j ([],[],[],[],[],[],0,0))).2).2).2).2).2).1), .int .i64 (((((((((xs.getD j ([],[],[],[],[],[],0,0))).2).2).2).2).2).2).1), .int .i64 (((((((((xs.getD j ([],[],[],[],[],[],0,0))).2).2).2).2).2).2).2)], rfl, ⟨e1, rfl, .tail _ (.head _)⟩, ⟨[e2], [e3, str ((((((xs.getD j ([],[],[],[],[],[],0,0))).2).2).2).1), e4, str ((((((((xs.getD j ([],[],[],[],[],[],0,0))).2).2).2).2).2).1), .int .i64 (((((((((xs.getD j ([],[],[],[],[],[],0,0))).2).2).2).2).2).2).1), .int .i64 (((((((((xs.getD j ([],[],[],[],[],[],0,0))).2).2).2).2).2).2).2)], rfl, ⟨e2, rfl, .tail _ (.tail _ (.head _))⟩, ⟨[e3], [str ((((((xs.getD j ([],[],[],[],[],[],0,0))).2).2).2).1), e4, str ((((((((xs.getD j ([],[],[],[],[],[],0,0))).2).2).2).2).2).1), .int .i64 (((((((((xs.getD j ([],[],[],[],[],[],0,0))).2).2).2).2).2).2).1), .int .i64 (((((((((xs.getD j ([],[],[],[],[],[],0,0))).2).2).2).2).2).2).2)], rfl, ⟨e3, rfl, .tail _ (.tail _ (.tail _ (.head _)))⟩, ⟨[str ((((((xs.getD j ([],[],[],[],[],[],0,0))).2).2).2).1)], [e4, str ((((((((xs.getD j ([],[],[],[],[],[],0,0))).2).2).2).2).2).1), .int .i64 (((((((((xs.getD j ([],[],[],[],[],[],0,0))).2).2).2).2).2).2).1), .int .i64 (((((((((xs.getD j ([],[],[],[],[],[],0,0))).2).2).2).2).2).2).2)], rfl, rfl, ⟨[e4], [str ((((((((xs.getD j ([],[],[],[],[],[],0,0))).2).2).2).2).2).1), .int .i64 (((((((((xs.getD j ([],[],[],[],[],[],0,0))).2).2).2).2).2).2).1), .int .i64 (((((((((xs.getD j ([],[],[],[],[],[],0,0))).2).2).2).2).2).2).2)], rfl, ⟨e4, rfl, .tail _ (.tail _ (.tail _ (.tail _ (.head _))))⟩, ⟨[str ((((((((xs.getD j ([],[],[],[],[],[],0,0))).2).2).2).2).2).1)], [.int .i64 (((((((((xs.getD j ([],[],[],[],[],[],0,0))).2).2).2).2).2).2).1), .int .i64 (((((((((xs.getD j ([],[],[],[],[],[],0,0))).2).2).2).2).2).2).2)], rfl, rfl, ⟨[.int .i64 (((((((((xs.getD j ([],[],[],[],[],[],0,0))).2).2).2).2).2).2).1)], [.int .i64 (((((((((xs.getD j ([],[],[],[],[],[],0,0))).2).2).2).2).2).2).2)], rfl, rfl, rfl⟩⟩⟩⟩⟩⟩⟩) ty_40 (by omega) (by first | rfl | (simp only [Ty.n]; omega)) ?_
    refine jo_nil (jq_then (jc_region (jo_pure rfl (pr_move rfl) (jo_pure rfl (pr_addN (m := k) (n := 1) rfl rfl (by omega)) ?_))))
    refine jo_pure rfl (pr_assign rfl) (jo_nil (jq_in_normal (jq_then (jc_region (jo_pure rfl (pr_move rfl) (jo_pure rfl (pr_addN (m := j) (n := 1) rfl rfl (by omega)) ?_))))))
    refine jo_pure rfl (pr_assign rfl) (jo_nil (j_pull1 (j_drop (j_pull1 (j_drop (j_pull1 (j_drop (j_pull1 (j_drop (j_pull1 (j_drop (j_pull7 ?_))))))))))))
    refine j_pull7 ?_
    refine j_pull7 ?_
    refine j_pull7 ?_
    refine j_pull7 ?_
    refine j_pull7 ?_
    refine j_pull7 ?_
    refine j_pull7 ?_
    refine jq_round' ((j + 1), (k + 1), (xs.set k ((xs.getD j ([],[],[],[],[],[],0,0))))) (by (try dsimp only); exact (by rw [hgd]; exact hinv.keep (dd := ([],[],[],[],[],[],0,0)) h2 (by rw [← hgd]; first | (simpa using h3b) | (simpa using h3)))) (by (try dsimp only); exact (by omega)) ⟨rfl, rfl, rfl, rfl, trivial⟩ (fun _ h => h)
   ·have h3 := (fun q => id (bf_not q)) h3b
    refine jc_skip (jq_in_normal (jq_then (jc_region (jo_pure rfl (pr_move rfl) (jo_pure rfl (pr_addN (m := j) (n := 1) rfl rfl (by omega)) ?_)))))
    refine jo_pure rfl (pr_assign rfl) (jo_nil (j_drop (j_drop (j_drop (j_drop (j_drop (j_pull7 ?_)))))))
    refine j_pull7 ?_
    refine j_pull7 ?_
    refine j_pull7 ?_
    refine j_pull7 ?_
    refine j_pull7 ?_
    refine j_pull7 ?_
    refine j_pull7 ?_
    refine jq_round' ((j + 1), k, xs) (by (try dsimp only); exact (hinv.skip (dd := ([],[],[],[],[],[],0,0)) h2 (by rw [← hgd]; first | (simpa using h3b) | (simpa using h3)))) (by (try dsimp only); exact (by omega)) ⟨rfl, rfl, rfl, rfl, trivial⟩ (fun _ h => h)
  ·have h2 := of_decide_eq_false h2b
   have hkj : k ≤ j ∧ j ≤ l.length ∧ xs.length = l.length := ⟨hinv.1, hinv.2.1, hinv.2.2.1⟩
   refine jc_exit ?_
   refine jq_then_exit ?_
   refine jq_then_exit ?_
   refine jq_in_hit ?_
   refine jq_then (jc_seq (jc_region (jo_pure rfl (pr_move rfl) (jo_pure rfl (pr_move rfl) (jo_pure rfl (pr_slice_lo (l := k) rfl rfl Tryz.underlying48 ty_40 (by omega)) ?_)))))
   refine j_own_take k ?_
   refine jo_clearO rfl Tryz.underlying48 ty_40 rfl rfl (by first | omega | (rw [List.length_take]; omega)) (by omega) ?_
   refine jo_nil (jq_then (jc_seq (jc_region (jo_pure rfl (pr_move rfl) (jo_pure rfl (pr_move rfl) (jo_pure rfl (pr_slice_own (h := k) rfl rfl Tryz.underlying48 ty_40 (by omega)) ?_))))))
   refine jo_pure rfl (pr_assign rfl) (jo_nil (jq_then (jc_ret (j_hide (n := k) (by rw [List.length_take]; omega) ?_))))
   refine j_pull1 (j_drop (j_pull1 (j_drop (j_pull1 (j_drop (j_pull1 (j_drop (j_pull1 (j_drop (j_pull1 (j_drop (j_pull1 (j_drop ?_)))))))))))))
   exact jq_ret1 rfl (.slice (some ⟨g1, 0, none⟩) (k) (cap1)) rfl (show (_ : Value) = (.slice (some ⟨g1, 0, none⟩) (k) (cap1)) from rfl) (fun _ h => by rw [← hinv.done (by omega)]; exact h)
end Go.Proofs.YtlniaacdjllonaaGreat
