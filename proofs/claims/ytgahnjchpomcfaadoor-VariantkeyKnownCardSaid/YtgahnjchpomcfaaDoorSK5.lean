/-
 Contracts of functions of the program: each returns what a plain function says, for every input within the bounds named. Conditions: the bounds.
-/
import Derived.Test.YtgahnjchpomcfaaDoorRows
import Derived.Test.YtgahnjchpomcfaaDoorSK4
import Derived.Test.YtgahnjchpomcfaaDoorSSep3
import Derived.Test.YtgahnjchpomcfaaDoorSLawC
namespace Go.Proofs.YtgahnjchpomcfaaDoor
open Go Go.Sep
set_option linter.unusedSimpArgs false
set_option linter.unusedVariables false

open Go.Plain

theorem cal_4 : Cal Tryd.prog 4 := cal_of Tryd.func4 (by kernel_rfl) rfl
theorem cal_5 : Cal Tryd.prog 5 := cal_of Tryd.func5 (by kernel_rfl) rfl
theorem cal_6 : Cal Tryd.prog 6 := cal_of Tryd.func6 (by kernel_rfl) rfl
theorem cal_7 : Cal Tryd.prog 7 := cal_of Tryd.func7 (by kernel_rfl) rfl
theorem cal_8 : Cal Tryd.prog 8 := cal_of Tryd.func8 (by kernel_rfl) rfl
theorem cal_10 : Cal Tryd.prog 10 := cal_of Tryd.func10 (by kernel_rfl) rfl
theorem cal_11 : Cal Tryd.prog 11 := cal_of Tryd.func11 (by kernel_rfl) rfl
theorem cal_12 : Cal Tryd.prog 12 := cal_of Tryd.func12 (by kernel_rfl) rfl
theorem cal_13 : Cal Tryd.prog 13 := cal_of Tryd.func13 (by kernel_rfl) rfl
theorem cal_14 : Cal Tryd.prog 14 := cal_of Tryd.func14 (by kernel_rfl) rfl
theorem cal_15 : Cal Tryd.prog 15 := cal_of Tryd.func15 (by kernel_rfl) rfl
theorem cal_16 : Cal Tryd.prog 16 := cal_of Tryd.func16 (by kernel_rfl) rfl
theorem cal_17 : Cal Tryd.prog 17 := cal_of Tryd.func17 (by kernel_rfl) rfl
theorem cal_18 : Cal Tryd.prog 18 := cal_of Tryd.func18 (by kernel_rfl) rfl
theorem cal_29 : Cal Tryd.prog 29 := cal_of Tryd.func29 (by kernel_rfl) rfl
theorem cal_30 : Cal Tryd.prog 30 := cal_of Tryd.func30 (by kernel_rfl) rfl
theorem cal_31 : Cal Tryd.prog 31 := cal_of Tryd.func31 (by kernel_rfl) rfl
theorem cal_32 : Cal Tryd.prog 32 := cal_of Tryd.func32 (by kernel_rfl) rfl
theorem cal_33 : Cal Tryd.prog 33 := cal_of Tryd.func33 (by kernel_rfl) rfl
theorem ty_3 : TyF Tryd.prog 3 false 1 8 (some (.int .i64 ((0 : Nat) : Int))) := ⟨by kernel_rfl, by kernel_rfl⟩

theorem c_resolve_1 (v : List UInt8) (a : (List UInt8) × (List (List UInt8))) (av : Value) (ab : Nat) (key : List (List UInt8)) (keyv : Value) (keyb : Nat) (i : Nat) (ib : Nat) (hv : v.length ≤ 300000) (ha : a.1.length ≤ 1000000) (hk : ∀ x ∈ key, x.length ≤ 300000) (hi : i < key.length) : Con Tryd.prog 30 #[str (v), .pointer (some ⟨ab, 0, none⟩), .pointer (some ⟨keyb, 0, none⟩), .pointer (some ⟨ib, 0, none⟩)] [.imm (.list .str) (av) (a.2), .ibox ab 33 [str (a.1), av], .imm (.list .str) (keyv) (key), .ibox keyb 31 [keyv], .ibox ib 3 [.int .i64 ((i : Nat) : Int)]] (fun _ : Unit => .bool (sameF a.1 v (key.getD i []))) (fun _ => []) := by
 refine con_of_J (args := [str (v), .pointer (some ⟨ab, 0, none⟩), .pointer (some ⟨keyb, 0, none⟩), .pointer (some ⟨ib, 0, none⟩)]) (n := 14) Tryd.func30 rfl (Nat.le_of_ble_eq_true rfl) rfl (fun w0 I0 m0 => ?_)
 show J _ [(0, str (v)), (1, .pointer (some ⟨ab, 0, none⟩)), (2, .pointer (some ⟨keyb, 0, none⟩)), (3, .pointer (some ⟨ib, 0, none⟩))] [.imm (.list .str) (av) (a.2), .ibox ab 33 [str (a.1), av], .imm (.list .str) (keyv) (key), .ibox keyb 31 [keyv], .ibox ib 3 [.int .i64 ((i : Nat) : Int)]] _
 refine jc_seq (jc_region (jo_pure rfl (pr_assign rfl) (jo_nil (jq_then (jc_seq ?_)))))
 refine jc_draws mixed (by kernel_rfl) (jd_pure rfl (pr_fieldAddr 0 rfl Tryd.underlying33 rfl ty_9 rfl rfl) ?_)
 refine jd_pure rfl (pr_load_ibox (str (a.1)) rfl ty_9 (.tail _ (.head _)) rfl (by decide) rfl) ?_
 refine jd_pure rfl (pr_move rfl) ?_
 refine jd_pure rfl (pr_load_ibox (keyv) rfl ty_31 (.tail _ (.tail _ (.tail _ (.head _)))) rfl (by decide) rfl) ?_
 refine jd_pure rfl (pr_load_ibox (.int .i64 ((i : Nat) : Int)) rfl ty_3 (.tail _ (.tail _ (.tail _ (.tail _ (.head _))))) rfl (by decide) rfl) ?_
 refine jd_pure rfl (pr_idx_imm (i := i) rfl (.tail _ (.tail _ (.head _))) rfl Tryd.underlying31 ty_9 (hi)) ?_
 refine jd_pure rfl (pr_load_elem_imm (i := i) (str (key.getD i [])) rfl (.tail _ (.tail _ (.head _))) ty_9 rfl rfl (hi) rfl) ?_
 refine jd_callp cal_31 (c_variants_Same a.1 v (key.getD i []) (by first | omega | exact hk _ (getD_mem hi)) (by first | omega | exact hk _ (getD_mem hi)) (by first | omega | exact hk _ (getD_mem hi))) ⟨rfl, rfl, rfl, trivial⟩ rfl (trivial) ?_
 refine jd_pure rfl (pr_assign rfl) ?_
 refine jd_nil ?_
 refine jq_then (jc_ret (j_drop (j_drop (j_drop (j_drop ?_)))))
 refine j_drop ?_
 exact jq_ret1 rfl () rfl (show (.bool (sameF a.1 v (key.getD i [])) : Value) = (.bool (sameF a.1 v (key.getD i []))) from rfl) (fun _ h => h)

theorem c_indexFunc_resolve (l : List (List UInt8)) (lv : Value) (a : (List UInt8) × (List (List UInt8))) (av : Value) (ab : Nat) (key : List (List UInt8)) (keyv : Value) (keyb : Nat) (i : Nat) (ib : Nat) (hl : l.length ≤ 1000000) (hlm : ∀ x ∈ l, x.length ≤ 300000) (ha : a.1.length ≤ 1000000) (hk : ∀ x ∈ key, x.length ≤ 300000) (hi : i < key.length) : Con Tryd.prog 29 #[lv, .func (.func 30) #[] #[.pointer (some ⟨ab, 0, none⟩), .pointer (some ⟨keyb, 0, none⟩), .pointer (some ⟨ib, 0, none⟩)]] [.imm (.list .str) (lv) (l), .imm (.list .str) (av) (a.2), .ibox ab 33 [str (a.1), av], .imm (.list .str) (keyv) (key), .ibox keyb 31 [keyv], .ibox ib 3 [.int .i64 ((i : Nat) : Int)]] (fun _ : Unit => .int .i64 (idxP (fun v => sameF a.1 v (key.getD i [])) l)) (fun _ => []) := by
 refine con_of_J (args := [lv, .func (.func 30) #[] #[.pointer (some ⟨ab, 0, none⟩), .pointer (some ⟨keyb, 0, none⟩), .pointer (some ⟨ib, 0, none⟩)]]) (n := 19) Tryd.func29 rfl (Nat.le_of_ble_eq_true rfl) rfl (fun w0 I0 m0 => ?_)
 show J _ [(0, lv), (1, .func (.func 30) #[] #[.pointer (some ⟨ab, 0, none⟩), .pointer (some ⟨keyb, 0, none⟩), .pointer (some ⟨ib, 0, none⟩)])] [.imm (.list .str) (lv) (l), .imm (.list .str) (av) (a.2), .ibox ab 33 [str (a.1), av], .imm (.list .str) (keyv) (key), .ibox keyb 31 [keyv], .ibox ib 3 [.int .i64 ((i : Nat) : Int)]] _
 refine jc_seq (jc_region (jo_pure rfl (pr_assign rfl) (jo_nil (jq_then (jc_seq ?_)))))
 refine jc_seq (jc_region (jo_pure rfl (pr_move rfl) (jo_pure rfl (pr_len_imm rfl (.head _) Tryd.underlying31) ?_)))
 refine jo_pure rfl (pr_move rfl) (jo_nil (jq_then (jc_block ?_)))
 refine jc_loop (fun (j : Nat) => [(0, lv), (1, .func (.func 30) #[] #[.pointer (some ⟨ab, 0, none⟩), .pointer (some ⟨keyb, 0, none⟩), .pointer (some ⟨ib, 0, none⟩)]), (7, .int .i64 ((l.length : Nat) : Int)), (8, .int .i64 ((j : Nat) : Int))]) (fun (j : Nat) => [.imm (.list .str) (lv) (l), .imm (.list .str) (av) (a.2), .ibox ab 33 [str (a.1), av], .imm (.list .str) (keyv) (key), .ibox keyb 31 [keyv], .ibox ib 3 [.int .i64 ((i : Nat) : Int)]]) (fun (j : Nat) => j ≤ l.length ∧ (l.take j).any (fun v => sameF a.1 v (key.getD i [])) = false) (fun (j : Nat) => l.length - j) 0 (⟨Nat.zero_le _, rfl⟩) (⟨rfl, rfl, rfl, rfl, trivial⟩) (fun _ h => h) (fun j hinv => ?_)
 refine jc_seq (jc_region (jo_pure rfl (pr_lssN (m := j) (n := l.length) rfl rfl) ?_))
 refine jo_nil (jq_then (jc_seq ?_))
 refine jc_cond rfl (fun h1b => ?_) (fun h1b => ?_)
 ·have h1 := of_decide_eq_true h1b
  refine jc_skip (jq_then (jc_seq (jc_block (jc_seq (jc_region ?_)))))
  refine jo_pure rfl (pr_move rfl) (jo_pure rfl (pr_assign rfl) (jo_nil (jq_then (jc_seq (jc_region ?_)))))
  refine jo_pure rfl (pr_move rfl) (jo_pure rfl (pr_move rfl) (jo_pure rfl (pr_move rfl) (jo_pure rfl (pr_idx_imm (i := j) rfl (.head _) rfl Tryd.underlying31 ty_9 (by omega)) ?_)))
  refine jo_pure rfl (pr_load_elem_imm (i := j) (str (l.getD j [])) rfl (.head _) ty_9 rfl rfl (by omega) rfl) ?_
  refine jo_callvp (fi := []) (vs := [str (l.getD j [])]) (ca := [.pointer (some ⟨ab, 0, none⟩), .pointer (some ⟨keyb, 0, none⟩), .pointer (some ⟨ib, 0, none⟩)]) rfl cal_30 (c_resolve_1 (l.getD j []) a av ab key keyv keyb i ib (by first | exact ha | exact hk | exact hi | exact hlm _ (getD_mem h1)) (by first | exact ha | exact hk | exact hi | exact hlm _ (getD_mem h1)) (by first | exact ha | exact hk | exact hi | exact hlm _ (getD_mem h1)) (by first | exact ha | exact hk | exact hi | exact hlm _ (getD_mem h1))) ⟨rfl, trivial⟩ rfl (⟨⟨rfl, .tail _ (.head _)⟩, ⟨⟨rfl, .tail _ (.tail _ (.head _))⟩, ⟨⟨rfl, .tail _ (.tail _ (.tail _ (.head _)))⟩, ⟨⟨rfl, .tail _ (.tail _ (.tail _ (.tail _ (.head _))))⟩, ⟨⟨rfl, .tail _ (.tail _ (.tail _ (.tail _ (.tail _ (.head _)))))⟩, trivial⟩⟩⟩⟩⟩) (fun _ => ?_)
  refine jo_nil (jq_then ?_)
  refine jc_cond rfl (fun h2b => ?_) (fun h2b => ?_)
  ·have h2 := id h2b
   refine jc_seq (jc_region (jo_pure rfl (pr_move rfl) (jo_pure rfl (pr_assign rfl) (jo_nil (jq_then ?_)))))
   refine jc_ret (jq_in_ret ?_)
   refine jq_then_ret (jq_then_ret (jq_in_ret ?_))
   refine jq_then_ret (j_drop (j_drop (j_drop (j_drop (j_drop ?_)))))
   refine j_drop ?_
   exact jq_ret1 rfl () rfl (show (.int .i64 (idxP (fun v => sameF a.1 v (key.getD i [])) l) : Value) = (.int .i64 ((j : Nat) : Int)) from congrArg (Value.int .i64) (by rw [idxP_hit (dd := []) h1 hinv.2 h2])) (fun _ h => h)
  ·have h2 := id h2b
   refine jc_skip (jq_in_normal (jq_then (jc_region (jo_pure rfl (pr_addN (m := j) (n := 1) rfl rfl (by omega)) ?_))))
   refine jo_pure rfl (pr_move rfl) (jo_nil (j_pull5 ?_))
   refine j_pull5 ?_
   refine j_pull5 ?_
   refine j_pull5 ?_
   refine j_pull5 ?_
   refine j_pull5 ?_
   refine jq_round' (j + 1) (by (try dsimp only); exact (⟨by omega, any_step (dd := []) h1 hinv.2 h2⟩)) (by (try dsimp only); exact (by omega)) ⟨rfl, rfl, rfl, rfl, trivial⟩ (fun _ h => h)
 ·have h1 := of_decide_eq_false h1b
  refine jc_exit ?_
  refine jq_then_exit ?_
  refine jq_then_exit ?_
  refine jq_in_hit ?_
  refine jq_then (jc_seq (jc_region (jo_pure rfl (pr_assign rfl) (jo_nil (jq_then ?_)))))
  refine jc_ret (j_drop (j_drop (j_drop (j_drop (j_drop ?_)))))
  refine j_drop ?_
  exact jq_ret1 rfl () rfl (show (.int .i64 (idxP (fun v => sameF a.1 v (key.getD i [])) l) : Value) = (.int .i64 (-1)) from congrArg (Value.int .i64) (by rw [idxP_none (any_end (by omega) hinv.2)])) (fun _ h => h)

theorem c_variantkey_resolve (axes : List ((List UInt8) × (List (List UInt8)))) (axesv : Value) (key : List (List UInt8)) (keyv : Value) (hal : axes.length ≤ 1000) (ham : ∀ a ∈ axes, a.1.length ≤ 1000000 ∧ a.2.length ≤ 1000000 ∧ ∀ x ∈ a.2, x.length ≤ 300000) (hkm : ∀ x ∈ key, x.length ≤ 300000) (hkl : key.length ≤ 9223372036854775807) : Con Tryd.prog 13 #[axesv, keyv] [.imm (.list (.pair .str (.list .str))) (axesv) (axes), .imm (.list .str) (keyv) (key)] (fun r1 : Value => .tuple #[r1, .bool (resB axes key)]) (fun r1 => [.imm (.list .str) r1 (resR axes key)]) := by
 refine con_of_J (args := [axesv, keyv]) (n := 41) Tryd.func13 rfl (Nat.le_of_ble_eq_true rfl) rfl (fun w0 I0 m0 => ?_)
 show J _ [(0, axesv), (1, keyv)] [.imm (.list (.pair .str (.list .str))) (axesv) (axes), .imm (.list .str) (keyv) (key)] _
 refine jc_seq (jc_region ?_)
 refine jo_boxV rfl [keyv] (fun w I m hs => SliceV.cells (imm_slice (.tail _ (.head _)) hs)) rfl (fun b1 => ?_)
 refine jo_pure rfl (pr_assign rfl) (jo_pure rfl (pr_assign rfl) (jo_nil (jq_then (jc_seq (jc_seq ?_)))))
 refine jc_region (jo_pure rfl (pr_load_box (keyv) rfl ty_31 (.head _) rfl (by decide) rfl) ?_)
 refine jo_pure rfl (pr_len_imm rfl (.tail _ (.tail _ (.head _))) Tryd.underlying31) ?_
 refine jo_pure rfl (pr_move rfl) (jo_pure rfl (pr_len_imm rfl (.tail _ (.head _)) Tryd.underlying23) ?_)
 refine jo_pure rfl (pr_neqN (m := key.length) (n := axes.length) rfl rfl) ?_
 refine jo_nil (jq_then ?_)
 refine jc_cond rfl (fun h1b => ?_) (fun h1b => ?_)
 ·have h1 := (fun q => of_decide_eq_false (bt_not q)) h1b
  refine jc_seq (jc_region (jo_pure rfl (pr_assign rfl) (jo_pure rfl (pr_assign rfl) (jo_nil (jq_then ?_)))))
  refine jc_ret (jq_then_ret (j_nil_imm .str ?_))
  refine j_pull1 (j_drop (j_pull1 (j_drop (j_pull1 (j_drop ?_)))))
  exact jq_rets (rs := [.tmp 4, .tmp 5]) (vs := [.slice none 0 0, .bool (false)]) rfl (.slice none 0 0) ⟨resV_tmp rfl, resV_tmp rfl, trivial⟩ rfl (show (.tuple #[(.slice none 0 0), .bool (resB axes key)] : Value) = (.tuple #[.slice none 0 0, .bool (false)]) from by rw [res_len (fun e => by simp [e] at h1)]) (fun _ h => by rw [resR_no (res_len (fun e => by simp [e] at h1))]; exact h)
 ·have h1 := (fun q => of_decide_eq_true (bf_not q)) h1b
  have hkn : key.length = axes.length := by simpa using h1
  refine jc_skip (jq_then (jc_seq (jc_region (jo_pure rfl (pr_load_box (keyv) rfl ty_31 (.head _) rfl (by decide) rfl) ?_))))
  refine jo_pure rfl (pr_len_imm rfl (.tail _ (.tail _ (.head _))) Tryd.underlying31) ?_
  refine jo_makeSlice (n := key.length) (t := .str) [] rfl Tryd.underlying31 ty_9 rfl rfl (by simp only [maxLen]; omega) (by omega) rfl (fun g1 => ?_)
  refine jo_pure rfl (pr_assign rfl) (jo_nil (jq_then (jc_seq (jc_seq (j_pull1 ?_)))))
  refine j_pub_box ?_
  refine jc_region (jo_pure rfl (pr_move rfl) (jo_pure rfl (pr_len_imm rfl (.tail _ (.tail _ (.head _))) Tryd.underlying23) ?_))
  refine jo_pure rfl (pr_move rfl) (jo_nil (jq_then (jc_block ?_)))
  refine jc_loop2 (fun (i : Nat) (xs : List (List UInt8)) => [(3, .pointer (some ⟨b1, 0, none⟩)), (6, .slice (some ⟨g1, 0, none⟩) (key.length) (key.length)), (18, axesv), (19, .int .i64 ((axes.length : Nat) : Int)), (20, .int .i64 ((i : Nat) : Int))]) (fun (i : Nat) (xs : List (List UInt8)) => [.ibox b1 31 [keyv], .rowg g1 (key.length) 9 .str (xs), .imm (.list (.pair .str (.list .str))) (axesv) (axes), .imm (.list .str) (keyv) (key)]) (fun (i : Nat) (xs : List (List UInt8)) => i ≤ axes.length ∧ xs.length = axes.length ∧ (List.range i).all (okAt axes key) = true ∧ xs.take i = (List.range i).map (valAt axes key)) (fun (i : Nat) (xs : List (List UInt8)) => axes.length - i) 0 (List.replicate key.length []) (⟨Nat.zero_le _, by rw [List.length_replicate, hkn], rfl, rfl⟩) (⟨rfl, rfl, rfl, rfl, rfl, trivial⟩) (fun _ h => h) (fun i xs hinv => ?_)
  refine jc_seq (jc_region (jo_pure rfl (pr_lssN (m := i) (n := axes.length) rfl rfl) ?_))
  refine jo_nil (jq_then (jc_seq ?_))
  refine jc_cond rfl (fun h2b => ?_) (fun h2b => ?_)
  ·have h2 := of_decide_eq_true h2b
   have hA := ham _ (getD_mem (dd := ([], [])) h2)
   refine jc_skip (jq_then (jc_seq (jc_block (jc_seq (jc_region ?_)))))
   refine jo_pure rfl (pr_move rfl) ?_
   refine j_open_elem (t := (.pair .str (.list .str))) (i := i) ([], []) (.tail _ (.tail _ (.head _))) (by first | omega | exact at_lt h3) (fun ⟨_, e1⟩ => ?_)
   show J _ _ (.imm (.list .str) (e1) (((axes.getD i ([], []))).2) :: .fact (fun w_ I_ => ElemAt w_ I_ (axesv) (i) 2 [str (((axes.getD i ([], []))).1), e1]) :: _) _
   refine jo_pure rfl (pr_idx_imm (i := i) rfl (.tail _ (.tail _ (.tail _ (.tail _ (.head _))))) rfl Tryd.underlying23 ty_33 (by first | omega | exact at_lt h3)) ?_
   refine jo_pure rfl (pr_load_at (.agg #[str (((axes.getD i ([], []))).1), e1]) rfl (.tail _ (.head _)) ty_33 (by decide) rfl) ?_
   refine jo_alloc ty_3 [.int .i64 ((0 : Nat) : Int)] rfl rfl (fun b2 => ?_)
   refine jo_alloc ty_33 [str ([]), .slice none 0 0] rfl rfl (fun b3 => ?_)
   refine j_pull1 (jo_store rfl rfl ty_3 [.int .i64 ((i : Nat) : Int)] rfl rfl rfl [.int .i64 ((i : Nat) : Int)] rfl rfl ?_)
   refine j_pull1 (jo_storeV rfl rfl ty_33 [str (((axes.getD i ([], []))).1), e1] (fun _ _ _ _ => rfl) rfl (fun w I m hs => by simp only [List.all_cons, List.all_nil, Bool.and_true, Bool.and_eq_true]; exact ⟨rfl, (SliceV.one (imm_slice (.tail _ (.tail _ (.head _))) hs))⟩) [str (((axes.getD i ([], []))).1), e1] rfl rfl ?_)
   refine jo_nil (jq_then (jc_seq (jc_region (jo_pure rfl (pr_fieldAddr 1 rfl Tryd.underlying33 rfl ty_31 rfl rfl) ?_))))
   refine jo_pure rfl (pr_load_box (e1) rfl ty_31 (.head _) rfl (by decide) rfl) ?_
   refine jo_pure rfl (pr_makeFunc (fs := #[]) (cs := #[.pointer (some ⟨b3, 0, none⟩), .pointer (some ⟨b1, 0, none⟩), .pointer (some ⟨b2, 0, none⟩)]) (fun a hf => by simp) (fun a hf => by simp only [List.map_toArray, List.map_cons, List.map_nil, hf.ev (show ev _ (.tmp 8) = some (.pointer (some ⟨b3, 0, none⟩)) from rfl), hf.ev (show ev _ (.tmp 3) = some (.pointer (some ⟨b1, 0, none⟩)) from rfl), hf.ev (show ev _ (.tmp 7) = some (.pointer (some ⟨b2, 0, none⟩)) from rfl)])) ?_
   refine j_pub_box ?_
   refine j_pull1 (j_pub_box ?_)
   refine jo_callp cal_29 (c_indexFunc_resolve (((axes.getD i ([], []))).2) e1 ((axes.getD i ([], []))) e1 b3 key keyv b1 i b2 (by first | omega | exact hA.1 | exact hA.2.2 | exact hkm) (by first | omega | exact hA.1 | exact hA.2.2 | exact hkm) (by first | omega | exact hA.1 | exact hA.2.2 | exact hkm) (by first | omega | exact hA.1 | exact hA.2.2 | exact hkm) (by first | omega | exact hA.1 | exact hA.2.2 | exact hkm)) ⟨rfl, rfl, trivial⟩ rfl (⟨⟨rfl, .tail _ (.tail _ (.head _))⟩, ⟨⟨rfl, .tail _ (.tail _ (.head _))⟩, ⟨⟨rfl, .tail _ (.head _)⟩, ⟨⟨rfl, .tail _ (.tail _ (.tail _ (.tail _ (.tail _ (.tail _ (.tail _ (.head _)))))))⟩, ⟨⟨rfl, .tail _ (.tail _ (.tail _ (.tail _ (.head _))))⟩, ⟨⟨rfl, .head _⟩, trivial⟩⟩⟩⟩⟩⟩) (fun _ => ?_)
   refine jo_pure rfl (pr_assign rfl) (jo_nil (jq_then (jc_seq (jc_seq (jc_region ?_)))))
   refine jo_pure rfl (pr_move rfl) (jo_pure rfl (pr_lss (n := 0) rfl rfl) ?_)
   refine jo_nil (jq_then ?_)
   refine jc_cond rfl (fun h3b => ?_) (fun h3b => ?_)
   ·have h3 := of_decide_eq_true h3b
    refine jc_seq (jc_region (jo_pure rfl (pr_assign rfl) (jo_pure rfl (pr_assign rfl) (jo_nil (jq_then ?_)))))
    refine jc_ret (jq_then_ret (jq_in_ret ?_))
    refine jq_then_ret (jq_then_ret (jq_in_ret ?_))
    refine jq_then_ret (j_nil_imm .str ?_)
    refine j_pull1 (j_drop (j_pull1 (j_drop (j_pull1 (j_drop ?_)))))
    refine j_pull1 (j_drop (j_pull1 (j_drop (j_pull1 (j_drop ?_)))))
    refine j_pull1 (j_drop (j_pull1 (j_drop ?_)))
    exact jq_rets (rs := [.tmp 4, .tmp 5]) (vs := [.slice none 0 0, .bool (false)]) rfl (.slice none 0 0) ⟨resV_tmp rfl, resV_tmp rfl, trivial⟩ rfl (show (.tuple #[(.slice none 0 0), .bool (resB axes key)] : Value) = (.tuple #[.slice none 0 0, .bool (false)]) from by rw [res_bad h2 h3]) (fun _ h => by rw [resR_no (res_bad h2 h3)]; exact h)
   ·have h3 := of_decide_eq_false h3b
    refine jc_skip (jq_then ?_)
    by_cases ht : True
    ·skip
     rw [show (idxP (fun v => sameF ((axes.getD i ([], []))).1 v (key.getD i [])) (((axes.getD i ([], []))).2) : Int) = (((atF axes key i).toNat : Nat) : Int) from (Int.toNat_of_nonneg (a := atF axes key i) (by have h9 : ¬ atF axes key i < 0 := h3; omega)).symm]
     refine j_pull5 ?_
     refine jc_held (fun (_ : Unit) => [(3, .pointer (some ⟨b1, 0, none⟩)), (6, .slice (some ⟨g1, 0, none⟩) (key.length) (key.length)), (18, axesv), (19, .int .i64 ((axes.length : Nat) : Int)), (20, .int .i64 ((i : Nat) : Int))]) (fun _ => [.rowg g1 (key.length) 9 .str (xs.set i ((((axes.getD i ([], []))).2).getD ((atF axes key i).toNat) [])), .ibox b2 3 [.int .i64 ((i : Nat) : Int)], .ibox b3 33 [str (((axes.getD i ([], []))).1), e1], .imm (.list .str) (e1) (((axes.getD i ([], []))).2), .fact (fun w_ I_ => ElemAt w_ I_ (axesv) (i) 2 [str (((axes.getD i ([], []))).1), e1]), .ibox b1 31 [keyv], .imm (.list (.pair .str (.list .str))) (axesv) (axes), .imm (.list .str) (keyv) (key)]) [.ibox b2 3 [.int .i64 ((i : Nat) : Int)], .ibox b3 33 [str (((axes.getD i ([], []))).1), e1], .imm (.list .str) (e1) (((axes.getD i ([], []))).2), .fact (fun w_ I_ => ElemAt w_ I_ (axesv) (i) 2 [str (((axes.getD i ([], []))).1), e1]), .ibox b1 31 [keyv], .imm (.list (.pair .str (.list .str))) (axesv) (axes), .imm (.list .str) (keyv) (key)] mixed (fun lst hlst => ?_) (fun _ => ?_)
     ·subst hlst
      refine jh_take (listed' := #[true, false, false, false, false, false, false, false, false]) 0 rfl (by kernel_rfl) (by kernel_rfl) (by kernel_rfl) rfl (pr_move rfl) (fun _ h => Mem.drop1 (h)) rfl ?_
      refine jh_take (listed' := #[true, true, false, false, false, false, false, false, false]) 1 rfl (by kernel_rfl) (by kernel_rfl) (by kernel_rfl) rfl (pr_load_ibox (.int .i64 ((i : Nat) : Int)) rfl ty_3 (.head _) rfl (by decide) rfl) (fun _ h => Mem.drop1 (h)) rfl ?_
      refine jh_take (listed' := #[true, true, true, false, false, false, false, false, false]) 2 rfl (by kernel_rfl) (by kernel_rfl) (by kernel_rfl) rfl (pr_fieldAddr 1 rfl Tryd.underlying33 rfl ty_31 rfl rfl) (fun _ h => Mem.drop1 (h)) rfl ?_
      refine jh_take (listed' := #[true, true, true, true, false, false, false, false, false]) 3 rfl (by kernel_rfl) (by kernel_rfl) (by kernel_rfl) rfl (pr_load_ibox (e1) rfl ty_31 (.tail _ (.head _)) rfl (by decide) rfl) (fun _ h => Mem.drop1 (h)) rfl ?_
      refine jh_take (listed' := #[true, true, true, true, true, false, false, false, false]) 4 rfl (by kernel_rfl) (by kernel_rfl) (by kernel_rfl) rfl (pr_move rfl) (fun _ h => Mem.drop1 (h)) rfl ?_
      refine jh_take (listed' := #[true, true, true, true, true, true, false, false, false]) 5 rfl (by kernel_rfl) (by kernel_rfl) (by kernel_rfl) rfl (pr_idx_imm (i := (atF axes key i).toNat) rfl (.tail _ (.tail _ (.head _))) rfl Tryd.underlying31 ty_9 (by first | omega | exact at_lt h3)) (fun _ h => Mem.drop1 (h)) rfl ?_
      refine jh_take (listed' := #[true, true, true, true, true, true, true, false, false]) 6 rfl (by kernel_rfl) (by kernel_rfl) (by kernel_rfl) rfl (pr_load_elem_imm (i := (atF axes key i).toNat) (str ((((axes.getD i ([], []))).2).getD ((atF axes key i).toNat) [])) rfl (.tail _ (.tail _ (.head _))) ty_9 rfl rfl (by first | omega | exact at_lt h3) rfl) (fun _ h => Mem.drop1 (h)) rfl ?_
      refine jh_take (listed' := #[true, true, true, true, true, true, true, true, false]) 7 rfl (by kernel_rfl) (by kernel_rfl) (by kernel_rfl) rfl (pr_idx (i := i) (i) rfl rfl Tryd.underlying31 ty_9 (by first | omega | exact at_lt h3) (by first | rfl | (simp only [Nat.zero_add, Nat.mul_one]))) (fun _ h => Mem.drop1 (h)) rfl ?_
      refine jh_all [8] (by kernel_rfl) (by simp) (fun i hi => ?_)
      simp only [List.mem_cons, List.not_mem_nil, or_false] at hi
      subst hi
      ·refine jh_op rfl ?_
       refine jo_store_g (i := i) ((((axes.getD i ([], []))).2).getD ((atF axes key i).toNat) []) rfl rfl ty_9 rfl (by omega) (by first | rfl | exact Nat.mul_one _) rfl ?_
       refine jh_in (listed' := #[true, true, true, true, true, true, true, true, true]) (fun _ h => Mem.drop1 (h)) rfl ?_
       show J _ _ _ _
       refine j_pull7 ?_
       refine j_pull7 ?_
       refine j_pull7 ?_
       refine j_pull7 ?_
       refine j_pull7 ?_
       refine j_pull7 ?_
       refine j_pull7 ?_
       refine j_pull7 ?_
       show JH _ _ _ _ _ _ _ _
       exact jh_done () (by kernel_rfl) ⟨rfl, rfl, rfl, rfl, rfl, trivial⟩ (fun _ h => h)
     ·skip
      refine jq_in_normal (jq_then (jc_region (jo_pure rfl (pr_addN (m := i) (n := 1) rfl rfl (by omega)) ?_)))
      refine jo_pure rfl (pr_move rfl) (jo_nil (j_pull1 (j_drop (j_pull1 (j_drop ?_)))))
      refine j_pull1 (j_drop (j_pull1 (j_drop (j_pull3 (j_pull3 ?_)))))
      refine j_pull2 (j_pull3 ?_)
      refine jq_round' ((i + 1), (xs.set i ((((axes.getD i ([], []))).2).getD ((atF axes key i).toNat) []))) (by (try dsimp only); exact (⟨by omega, by rw [List.length_set]; omega, range_all hinv.2.2.1 (decide_eq_true (by have h9 : ¬ atF axes key i < 0 := h3; omega)), by rw [take_set (by omega), hinv.2.2.2, range_map]; rfl⟩)) (by (try dsimp only); exact (by omega)) ⟨rfl, rfl, rfl, rfl, rfl, trivial⟩ (fun _ h => h)
    ·skip
     exact absurd trivial ht
  ·have h2 := of_decide_eq_false h2b
   refine jc_exit ?_
   refine jq_then_exit ?_
   refine jq_then_exit ?_
   refine jq_in_hit ?_
   refine jq_then (jc_seq (jc_region (jo_pure rfl (pr_move rfl) (jo_pure rfl (pr_assign rfl) (jo_pure rfl (pr_assign rfl) ?_)))))
   refine jo_nil (jq_then (jc_ret (j_pull1 (j_hide (n := key.length) (by omega) ?_))))
   refine j_pub_row (j_pull1 (j_drop (j_pull1 (j_drop (j_pull1 ?_)))))
   refine j_drop ?_
   exact jq_rets (rs := [.tmp 4, .tmp 5]) (vs := [.slice (some ⟨g1, 0, none⟩) (key.length) (key.length), .bool (true)]) rfl (.slice (some ⟨g1, 0, none⟩) (key.length) (key.length)) ⟨resV_tmp rfl, resV_tmp rfl, trivial⟩ rfl (show (.tuple #[(.slice (some ⟨g1, 0, none⟩) (key.length) (key.length)), .bool (resB axes key)] : Value) = (.tuple #[.slice (some ⟨g1, 0, none⟩) (key.length) (key.length), .bool (true)]) from by rw [res_ok hkn (by rw [← show i = axes.length by omega]; exact hinv.2.2.1)]) (fun _ h => by rw [resR_yes (res_ok hkn (by rw [← show i = axes.length by omega]; exact hinv.2.2.1)), show resV axes key = xs from by have h9 := hinv.2.2.2; rw [show i = axes.length by omega, List.take_of_length_le (by omega)] at h9; exact h9.symm]; exact h)

theorem c_keyParse_1 (k : List (List UInt8)) (kv : Value) (key : List (List UInt8)) (keyv : Value) (keyb : Nat) (hk : k.length ≤ 9223372036854775807) : Con Tryd.prog 15 #[kv, .pointer (some ⟨keyb, 0, none⟩)] [.imm (.list .str) (kv) (k), .imm (.list .str) (keyv) (key), .ibox keyb 31 [keyv]] (fun _ : Unit => .bool (decide (k = key))) (fun _ => []) := by
 refine con_of_J (args := [kv, .pointer (some ⟨keyb, 0, none⟩)]) (n := 7) Tryd.func15 rfl (Nat.le_of_ble_eq_true rfl) rfl (fun w0 I0 m0 => ?_)
 show J _ [(0, kv), (1, .pointer (some ⟨keyb, 0, none⟩))] [.imm (.list .str) (kv) (k), .imm (.list .str) (keyv) (key), .ibox keyb 31 [keyv]] _
 refine jc_seq (jc_region (jo_pure rfl (pr_assign rfl) (jo_nil (jq_then (jc_seq ?_)))))
 refine jc_region (jo_pure rfl (pr_move rfl) (jo_pure rfl (pr_load_ibox (keyv) rfl ty_31 (.tail _ (.tail _ (.head _))) rfl (by decide) rfl) ?_))
 refine jo_callp cal_16 (c_slices_Equal_string_string k kv key keyv (by omega)) ⟨rfl, rfl, trivial⟩ rfl (⟨⟨rfl, .head _⟩, ⟨⟨rfl, .tail _ (.head _)⟩, trivial⟩⟩) (fun _ => ?_)
 refine jo_pure rfl (pr_assign rfl) (jo_nil (jq_then (jc_ret (j_drop (j_drop ?_)))))
 refine j_drop ?_
 exact jq_ret1 rfl () rfl (show (.bool (decide (k = key)) : Value) = (.bool (decide (k = key))) from rfl) (fun _ h => h)

theorem c_indexFunc_keys (l : List (List (List UInt8))) (lv : Value) (key : List (List UInt8)) (keyv : Value) (keyb : Nat) (hl : l.length ≤ 1000000) (hm : ∀ k ∈ l, k.length ≤ 9223372036854775807) : Con Tryd.prog 32 #[lv, .func (.func 15) #[] #[.pointer (some ⟨keyb, 0, none⟩)]] [.imm (.list (.list .str)) (lv) (l), .imm (.list .str) (keyv) (key), .ibox keyb 31 [keyv]] (fun _ : Unit => .int .i64 (idxP (fun x => decide (x = key)) l)) (fun _ => []) := by
 refine con_of_J (args := [lv, .func (.func 15) #[] #[.pointer (some ⟨keyb, 0, none⟩)]]) (n := 19) Tryd.func32 rfl (Nat.le_of_ble_eq_true rfl) rfl (fun w0 I0 m0 => ?_)
 show J _ [(0, lv), (1, .func (.func 15) #[] #[.pointer (some ⟨keyb, 0, none⟩)])] [.imm (.list (.list .str)) (lv) (l), .imm (.list .str) (keyv) (key), .ibox keyb 31 [keyv]] _
 refine jc_seq (jc_region (jo_pure rfl (pr_assign rfl) (jo_nil (jq_then (jc_seq ?_)))))
 refine jc_seq (jc_region (jo_pure rfl (pr_move rfl) (jo_pure rfl (pr_len_imm rfl (.head _) Tryd.underlying26) ?_)))
 refine jo_pure rfl (pr_move rfl) (jo_nil (jq_then (jc_block ?_)))
 refine jc_loop (fun (j : Nat) => [(0, lv), (1, .func (.func 15) #[] #[.pointer (some ⟨keyb, 0, none⟩)]), (7, .int .i64 ((l.length : Nat) : Int)), (8, .int .i64 ((j : Nat) : Int))]) (fun (j : Nat) => [.imm (.list (.list .str)) (lv) (l), .imm (.list .str) (keyv) (key), .ibox keyb 31 [keyv]]) (fun (j : Nat) => j ≤ l.length ∧ (l.take j).any (fun x => decide (x = key)) = false) (fun (j : Nat) => l.length - j) 0 (⟨Nat.zero_le _, rfl⟩) (⟨rfl, rfl, rfl, rfl, trivial⟩) (fun _ h => h) (fun j hinv => ?_)
 refine jc_seq (jc_region (jo_pure rfl (pr_lssN (m := j) (n := l.length) rfl rfl) ?_))
 refine jo_nil (jq_then (jc_seq ?_))
 refine jc_cond rfl (fun h1b => ?_) (fun h1b => ?_)
 ·have h1 := of_decide_eq_true h1b
  refine jc_skip (jq_then (jc_seq (jc_block (jc_seq (jc_region ?_)))))
  refine jo_pure rfl (pr_move rfl) (jo_pure rfl (pr_assign rfl) (jo_nil (jq_then (jc_seq (jc_region ?_)))))
  refine jo_pure rfl (pr_move rfl) (jo_pure rfl (pr_move rfl) (jo_pure rfl (pr_move rfl) ?_))
  refine j_open_elem (t := (.list .str)) (i := j) [] (.head _) (by omega) (fun e1 => ?_)
  show J _ _ (.imm (.list .str) (e1) ((l.getD j [])) :: .fact (fun w_ I_ => ElemAt w_ I_ (lv) (j) 1 [e1]) :: _) _
  refine jo_pure rfl (pr_idx_imm (i := j) rfl (.tail _ (.tail _ (.head _))) rfl Tryd.underlying26 ty_31 (by omega)) ?_
  refine jo_pure rfl (pr_load_at (e1) rfl (.tail _ (.head _)) ty_31 (by decide) rfl) ?_
  refine jo_callvp (fi := []) (vs := [e1]) (ca := [.pointer (some ⟨keyb, 0, none⟩)]) rfl cal_15 (c_keyParse_1 (l.getD j []) e1 key keyv keyb (by exact hm _ (getD_mem h1))) ⟨rfl, trivial⟩ rfl (⟨⟨rfl, .head _⟩, ⟨⟨rfl, .tail _ (.tail _ (.tail _ (.head _)))⟩, ⟨⟨rfl, .tail _ (.tail _ (.tail _ (.tail _ (.head _))))⟩, trivial⟩⟩⟩) (fun _ => ?_)
  refine jo_nil (jq_then ?_)
  refine jc_cond rfl (fun h2b => ?_) (fun h2b => ?_)
  ·have h2 := id h2b
   refine jc_seq (jc_region (jo_pure rfl (pr_move rfl) (jo_pure rfl (pr_assign rfl) (jo_nil (jq_then ?_)))))
   refine jc_ret (jq_in_ret ?_)
   refine jq_then_ret (jq_then_ret (jq_in_ret ?_))
   refine jq_then_ret (j_drop (j_drop (j_drop (j_drop (j_drop ?_)))))
   exact jq_ret1 rfl () rfl (show (.int .i64 (idxP (fun x => decide (x = key)) l) : Value) = (.int .i64 ((j : Nat) : Int)) from congrArg (Value.int .i64) (by rw [idxP_hit (dd := []) h1 hinv.2 h2b])) (fun _ h => h)
  ·have h2 := id h2b
   refine jc_skip (jq_in_normal (jq_then (jc_region (jo_pure rfl (pr_addN (m := j) (n := 1) rfl rfl (by omega)) ?_))))
   refine jo_pure rfl (pr_move rfl) (jo_nil (j_drop (j_drop (j_pull2 (j_pull2 ?_)))))
   refine j_pull2 ?_
   refine jq_round' (j + 1) (by (try dsimp only); exact (⟨by omega, any_step (dd := []) h1 hinv.2 h2b⟩)) (by (try dsimp only); exact (by omega)) ⟨rfl, rfl, rfl, rfl, trivial⟩ (fun _ h => h)
 ·have h1 := of_decide_eq_false h1b
  refine jc_exit ?_
  refine jq_then_exit ?_
  refine jq_then_exit ?_
  refine jq_in_hit ?_
  refine jq_then (jc_seq (jc_region (jo_pure rfl (pr_assign rfl) (jo_nil (jq_then ?_)))))
  refine jc_ret (j_drop (j_drop (j_drop ?_)))
  exact jq_ret1 rfl () rfl (show (.int .i64 (idxP (fun x => decide (x = key)) l) : Value) = (.int .i64 (-1)) from congrArg (Value.int .i64) (by rw [idxP_none (any_end (by omega) hinv.2)])) (fun _ h => h)

theorem c_containsFunc_keys (l : List (List (List UInt8))) (lv : Value) (key : List (List UInt8)) (keyv : Value) (keyb : Nat) (hl : l.length ≤ 1000000) (hm : ∀ k ∈ l, k.length ≤ 9223372036854775807) : Con Tryd.prog 14 #[lv, .func (.func 15) #[] #[.pointer (some ⟨keyb, 0, none⟩)]] [.imm (.list (.list .str)) (lv) (l), .imm (.list .str) (keyv) (key), .ibox keyb 31 [keyv]] (fun _ : Unit => .bool (l.any (fun x => decide (x = key)))) (fun _ => []) := by
 refine con_of_J (args := [lv, .func (.func 15) #[] #[.pointer (some ⟨keyb, 0, none⟩)]]) (n := 9) Tryd.func14 rfl (Nat.le_of_ble_eq_true rfl) rfl (fun w0 I0 m0 => ?_)
 show J _ [(0, lv), (1, .func (.func 15) #[] #[.pointer (some ⟨keyb, 0, none⟩)])] [.imm (.list (.list .str)) (lv) (l), .imm (.list .str) (keyv) (key), .ibox keyb 31 [keyv]] _
 refine jc_seq (jc_region (jo_pure rfl (pr_assign rfl) (jo_nil (jq_then (jc_seq ?_)))))
 refine jc_region (jo_pure rfl (pr_move rfl) (jo_pure rfl (pr_move rfl) ?_))
 refine jo_callp cal_32 (c_indexFunc_keys l lv key keyv keyb (by first | exact hl | exact hm) (by first | exact hl | exact hm)) ⟨rfl, rfl, trivial⟩ rfl (⟨⟨rfl, .head _⟩, ⟨⟨rfl, .tail _ (.head _)⟩, ⟨⟨rfl, .tail _ (.tail _ (.head _))⟩, trivial⟩⟩⟩) (fun _ => ?_)
 refine jo_pure rfl (pr_geq (n := 0) rfl rfl) ?_
 refine jo_pure rfl (pr_assign rfl) (jo_nil (jq_then (jc_ret (j_drop (j_drop ?_)))))
 refine j_drop ?_
 exact jq_ret1 rfl () rfl (show (.bool (l.any (fun x => decide (x = key))) : Value) = (.bool (decide ((0 : Int) ≤ idxP (fun x => decide (x = key)) l))) from congrArg Value.bool (idxP_ge _ _).symm) (fun _ h => h)

theorem c_variantkey_Parse (l : List ((List UInt8) × (List UInt8))) (lv : Value) (axes : List ((List UInt8) × (List (List UInt8)))) (axesv : Value) (hl : l.length ≤ 1000000) (hm : ∀ x ∈ l, x.1.length ≤ 300000 ∧ x.2.length ≤ 300000) (hal : axes.length ≤ 9223372036854775807) (ham : ∀ a ∈ axes, a.1.length ≤ 1000000 ∧ a.2.length ≤ 1000000 ∧ ∀ x ∈ a.2, x.length ≤ 300000) : Con Tryd.prog 6 #[lv, axesv] [.imm (.list (.pair .str .str)) (lv) (l), .imm (.list (.pair .str (.list .str))) (axesv) (axes)] (fun r1 : Value => .tuple #[r1, .int .i64 ((parseK l axes).2)]) (fun r1 => [.imm (.list (.list .str)) r1 ((parseK l axes).1)]) := by
 refine con_of_J (args := [lv, axesv]) (n := 67) Tryd.func6 rfl (Nat.le_of_ble_eq_true rfl) rfl (fun w0 I0 m0 => ?_)
 show J _ [(0, lv), (1, axesv)] [.imm (.list (.pair .str .str)) (lv) (l), .imm (.list (.pair .str (.list .str))) (axesv) (axes)] _
 have hm6 : ∀ x ∈ l, x.1.length ≤ 1000000 ∧ x.2.length ≤ 1000000 := fun x hx => by have := hm x hx; omega
 have hM : ∀ x ∈ (allF l [86, 97, 114, 105, 97, 110, 116, 45, 75, 101, 121]), x.length ≤ 300000 := allV_mem (getF_mem (n := 300000) hm)
 have hM64 : (allF l [86, 97, 114, 105, 97, 110, 116, 45, 75, 101, 121]).length ≤ 64 := allV_length _
 have hav : ∀ a ∈ axes, a.1.length ≤ 1000000 ∧ (∀ x ∈ a.2, x.length ≤ 300000) ∧ a.2.length ≤ 9223372036854775807 := fun a ha => by have := ham a ha; exact ⟨by omega, this.2.2, by omega⟩
 have hRl : (readM (allF l [86, 97, 114, 105, 97, 110, 116, 45, 75, 101, 121])).length = (allF l [86, 97, 114, 105, 97, 110, 116, 45, 75, 101, 121]).length := readM_length _
 have hRm := readM_mem hM
 refine jc_seq (jc_region (jo_pure rfl (pr_assign rfl) (jo_pure rfl (pr_assign rfl) (jo_nil (jq_then ?_)))))
 refine jc_seq (jc_seq (jc_region (jo_pure rfl (pr_move rfl) ?_)))
 refine jo_callp cal_10 (c_variants_Valid axes axesv (by first | omega | rfl | exact hm6 | exact hav | exact ham | exact hg2 | exact hg3 | (have := getD_len (i := i) hM; omega) | decide) (by first | omega | rfl | exact hm6 | exact hav | exact ham | exact hg2 | exact hg3 | (have := getD_len (i := i) hM; omega) | decide)) ⟨rfl, trivial⟩ rfl (⟨⟨rfl, .tail _ (.head _)⟩, trivial⟩) (fun _ => ?_)
 refine jo_pure rfl (pr_not rfl) ?_
 refine jo_nil (jq_then ?_)
 refine jc_cond rfl (fun h1b => ?_) (fun h1b => ?_)
 ·have h1 := (fun q => id (bt_not q)) h1b
  refine jc_seq (jc_region (jo_pure rfl (pr_assign rfl) (jo_pure rfl (pr_assign rfl) (jo_nil (jq_then ?_)))))
  refine jc_ret (jq_then_ret (j_nil_imm (.list .str) ?_))
  refine j_pull1 (j_drop (j_pull1 (j_drop ?_)))
  exact jq_rets (rs := [.tmp 4, .tmp 5]) (vs := [.slice none 0 0, .int .i64 ((10 : Nat) : Int)]) rfl (.slice none 0 0) ⟨resV_tmp rfl, resV_tmp rfl, trivial⟩ rfl (show (.tuple #[(.slice none 0 0), .int .i64 ((parseK l axes).2)] : Value) = (.tuple #[.slice none 0 0, .int .i64 ((10 : Nat) : Int)]) from by rw [pk_range h1] <;> rfl) (fun _ h => by rw [pk_range h1]; exact h)
 ·have h1 := (fun q => id (bf_not q)) h1b
  have hv4 := validL_len h1
  refine jc_skip (jq_then (jc_seq (jc_region (jo_pure rfl (pr_move rfl) ?_))))
  refine jo_callp cal_11 (c_list_All l lv [86, 97, 114, 105, 97, 110, 116, 45, 75, 101, 121] (by first | omega | rfl | exact hm6 | exact hav | exact ham | exact hg2 | exact hg3 | (have := getD_len (i := i) hM; omega) | decide) (by first | omega | rfl | exact hm6 | exact hav | exact ham | exact hg2 | exact hg3 | (have := getD_len (i := i) hM; omega) | decide) (by first | omega | rfl | exact hm6 | exact hav | exact ham | exact hg2 | exact hg3 | (have := getD_len (i := i) hM; omega) | decide)) ⟨rfl, rfl, trivial⟩ rfl (⟨⟨rfl, .head _⟩, trivial⟩) (fun r1 => ?_)
  show J _ _ [.imm (.list .str) (r1) (allF l [86, 97, 114, 105, 97, 110, 116, 45, 75, 101, 121]), .imm (.list (.pair .str .str)) (lv) (l), .imm (.list (.pair .str (.list .str))) (axesv) (axes)] _
  refine jo_pure rfl (pr_assign rfl) (jo_nil (jq_then (jc_seq (jc_seq (jc_region ?_)))))
  refine jo_pure rfl (pr_move rfl) (jo_pure rfl (pr_len_imm rfl (.head _) Tryd.underlying31) ?_)
  refine jo_pure rfl (pr_eqlN (m := (allF l [86, 97, 114, 105, 97, 110, 116, 45, 75, 101, 121]).length) (n := 0) rfl rfl) ?_
  refine jo_nil (jq_then ?_)
  refine jc_cond rfl (fun h2b => ?_) (fun h2b => ?_)
  ·have h2 := of_decide_eq_true h2b
   refine jc_seq (jc_region (jo_pure rfl (pr_assign rfl) (jo_pure rfl (pr_assign rfl) (jo_nil (jq_then ?_)))))
   refine jc_ret (jq_then_ret (j_nil_imm (.list .str) ?_))
   refine j_pull1 (j_drop (j_pull1 (j_drop (j_pull1 (j_drop ?_)))))
   exact jq_rets (rs := [.tmp 4, .tmp 5]) (vs := [.slice none 0 0, .int .i64 ((12 : Nat) : Int)]) rfl (.slice none 0 0) ⟨resV_tmp rfl, resV_tmp rfl, trivial⟩ rfl (show (.tuple #[(.slice none 0 0), .int .i64 ((parseK l axes).2)] : Value) = (.tuple #[.slice none 0 0, .int .i64 ((12 : Nat) : Int)]) from by rw [pk_none h1 h2] <;> rfl) (fun _ h => by rw [pk_none h1 h2]; exact h)
  ·have h2 := of_decide_eq_false h2b
   refine jc_skip (jq_then (jc_seq (jc_region (jo_pure rfl (pr_assign rfl) (jo_nil ?_)))))
   refine jq_then (jc_seq (jc_seq (jc_region (jo_pure rfl (pr_move rfl) (jo_pure rfl (pr_len_imm rfl (.head _) Tryd.underlying31) ?_)))))
   refine jo_pure rfl (pr_move rfl) (jo_nil (jq_then (jc_block (j_nil_row 31 (.list .str) ?_))))
   refine jc_loop3 (fun (i : Nat) (w : Value) (acc : List (List (List UInt8))) => [(1, axesv), (7, w), (25, r1), (26, .int .i64 (((allF l [86, 97, 114, 105, 97, 110, 116, 45, 75, 101, 121]).length : Nat) : Int)), (27, .int .i64 ((i : Nat) : Int))]) (fun (i : Nat) (w : Value) (acc : List (List (List UInt8))) => [.row (w) 31 (.list .str) (acc), .imm (.list .str) (r1) (allF l [86, 97, 114, 105, 97, 110, 116, 45, 75, 101, 121]), .imm (.list (.pair .str .str)) (lv) (l), .imm (.list (.pair .str (.list .str))) (axesv) (axes)]) (fun (i : Nat) (w : Value) (acc : List (List (List UInt8))) => i ≤ (allF l [86, 97, 114, 105, 97, 110, 116, 45, 75, 101, 121]).length ∧ acc = readM ((allF l [86, 97, 114, 105, 97, 110, 116, 45, 75, 101, 121]).take i) ∧ ((allF l [86, 97, 114, 105, 97, 110, 116, 45, 75, 101, 121]).take i).all (fun m => (readF m).2) = true) (fun (i : Nat) (w : Value) (acc : List (List (List UInt8))) => (allF l [86, 97, 114, 105, 97, 110, 116, 45, 75, 101, 121]).length - i) 0 (.slice none 0 0) [] (⟨Nat.zero_le _, rfl, rfl⟩) (⟨rfl, rfl, rfl, rfl, rfl, trivial⟩) (fun _ h => h) (fun i w acc hinv => ?_)
   have hacl : acc.length ≤ 64 := by rw [hinv.2.1, readM_length, List.length_take]; omega
   refine jc_seq (jc_region (jo_pure rfl (pr_lssN (m := i) (n := (allF l [86, 97, 114, 105, 97, 110, 116, 45, 75, 101, 121]).length) rfl rfl) ?_))
   refine jo_nil (jq_then (jc_seq ?_))
   refine jc_cond rfl (fun h3b => ?_) (fun h3b => ?_)
   ·have h3 := of_decide_eq_true h3b
    refine jc_skip (jq_then (jc_seq (jc_block (jc_seq (jc_region ?_)))))
    refine jo_pure rfl (pr_idx_imm (i := i) rfl (.tail _ (.head _)) rfl Tryd.underlying31 ty_9 (by omega)) ?_
    refine jo_pure rfl (pr_load_elem_imm (i := i) (str ((allF l [86, 97, 114, 105, 97, 110, 116, 45, 75, 101, 121]).getD i [])) rfl (.tail _ (.head _)) ty_9 rfl rfl (by omega) rfl) ?_
    refine jo_pure rfl (pr_assign rfl) (jo_nil (jq_then (jc_seq (jc_region (jo_pure rfl (pr_move rfl) ?_)))))
    refine jo_callp cal_12 (c_group_Read ((allF l [86, 97, 114, 105, 97, 110, 116, 45, 75, 101, 121]).getD i []) (by first | omega | rfl | exact hm6 | exact hav | exact ham | exact hg2 | exact hg3 | (have := getD_len (i := i) hM; omega) | decide)) ⟨rfl, trivial⟩ rfl (trivial) (fun r2 => ?_)
    show J _ _ [.imm (.list .str) (r2) ((readF ((allF l [86, 97, 114, 105, 97, 110, 116, 45, 75, 101, 121]).getD i [])).1), .row (w) 31 (.list .str) (acc), .imm (.list .str) (r1) (allF l [86, 97, 114, 105, 97, 110, 116, 45, 75, 101, 121]), .imm (.list (.pair .str .str)) (lv) (l), .imm (.list (.pair .str (.list .str))) (axesv) (axes)] _
    refine jo_pure rfl (pr_move rfl) (jo_pure rfl (pr_extract rfl rfl) ?_)
    refine jo_pure rfl (pr_extract rfl rfl) ?_
    refine jo_pure rfl (pr_assign rfl) (jo_pure rfl (pr_assign rfl) (jo_nil (jq_then (jc_seq (jc_seq ?_)))))
    refine jc_region (jo_pure rfl (pr_move rfl) (jo_pure rfl (pr_not rfl) ?_))
    refine jo_nil (jq_then ?_)
    refine jc_cond rfl (fun h4b => ?_) (fun h4b => ?_)
    ·have h4 := (fun q => id (bt_not q)) h4b
     refine jc_seq (jc_region (jo_pure rfl (pr_assign rfl) (jo_pure rfl (pr_assign rfl) (jo_nil (jq_then ?_)))))
     refine jc_ret (jq_then_ret (jq_in_ret ?_))
     refine jq_then_ret (jq_then_ret (jq_in_ret ?_))
     refine jq_then_ret (j_nil_imm (.list .str) ?_)
     refine j_pull1 (j_drop (j_pull1 (j_drop (j_pull1 (j_drop ?_)))))
     refine j_pull1 (j_drop (j_pull1 (j_drop ?_)))
     exact jq_rets (rs := [.tmp 4, .tmp 5]) (vs := [.slice none 0 0, .int .i64 ((1 : Nat) : Int)]) rfl (.slice none 0 0) ⟨resV_tmp rfl, resV_tmp rfl, trivial⟩ rfl (show (.tuple #[(.slice none 0 0), .int .i64 ((parseK l axes).2)] : Value) = (.tuple #[.slice none 0 0, .int .i64 ((1 : Nat) : Int)]) from by rw [pk_syn h1 h2 h3 h4] <;> rfl) (fun _ h => by rw [pk_syn h1 h2 h3 h4]; exact h)
    ·have h4 := (fun q => id (bf_not q)) h4b
     refine jc_skip (jq_then (jc_region (jo_pure rfl (pr_move rfl) (jo_pure rfl (pr_move rfl) ?_))))
     refine jo_buildSliceLV (t := (.list .str)) [(readF ((allF l [86, 97, 114, 105, 97, 110, 116, 45, 75, 101, 121]).getD i [])).1] [r2] [[r2]] (fun a hf => by simp only [List.zipIdx_cons, List.zipIdx_nil, List.map_toArray, List.map_cons, List.map_nil, hf.ev (show ev _ (.tmp 39) = some (r2) from rfl)] <;> rfl) (fun w I m hs => by obtain ⟨_, _, _, e0⟩ := imm_slice (.head _) hs; rw [e0]; rfl) ⟨⟨r2, rfl, .head _⟩, trivial⟩ Tryd.underlying26 ty_31 rfl rfl rfl rfl (fun g1 => ?_)
     refine j_pull2 ?_
     refine jo_append rfl rfl Tryd.underlying26 ty_31 rfl (by simp only [List.length_append, List.length_cons, List.length_nil, maxLen]; omega) (by simp only [List.length_append, List.length_cons, List.length_nil]; omega) rfl (fun v1 => ?_)
     refine jo_pure rfl (pr_assign rfl) (jo_nil (jq_in_normal (jq_then (jc_region (jo_pure rfl (pr_addN (m := i) (n := 1) rfl rfl (by omega)) ?_)))))
     refine jo_pure rfl (pr_move rfl) (jo_nil (j_pull1 (j_drop (j_pull3 (j_pull3 ?_)))))
     refine j_pull3 (j_pull3 ?_)
     refine jq_round' ((i + 1), v1, (acc ++ [(readF ((allF l [86, 97, 114, 105, 97, 110, 116, 45, 75, 101, 121]).getD i [])).1])) (by (try dsimp only); exact (⟨by omega, by rw [readM_step h3, hinv.2.1], all_step (dd := []) h3 hinv.2.2 h4⟩)) (by (try dsimp only); exact (by omega)) ⟨rfl, rfl, rfl, rfl, rfl, trivial⟩ (fun _ h => h)
   ·have h3 := of_decide_eq_false h3b
    have hallM : (allF l [86, 97, 114, 105, 97, 110, 116, 45, 75, 101, 121]).all (fun m => (readF m).2) = true := all_end (by omega) hinv.2.2
    have hraw : acc = (readM (allF l [86, 97, 114, 105, 97, 110, 116, 45, 75, 101, 121])) := by rw [hinv.2.1, take_over (by omega)]
    refine jc_exit ?_
    refine jq_then_exit ?_
    refine jq_then_exit ?_
    refine jq_in_hit ?_
    refine jq_then (jc_seq (jc_region (jo_pure rfl (pr_assign rfl) (jo_nil (jq_then ?_)))))
    refine jc_seq (jc_seq (j_pub_row (jc_region (jo_pure rfl (pr_move rfl) (jo_pure rfl (pr_len_imm rfl (.head _) Tryd.underlying26) ?_)))))
    refine jo_pure rfl (pr_move rfl) (jo_nil (jq_then (jc_block (j_nil_row 31 (.list .str) ?_))))
    refine jc_loop3 (fun (i2 : Nat) (w2 : Value) (out2 : List (List (List UInt8))) => [(1, axesv), (12, w2), (43, w), (44, .int .i64 ((acc.length : Nat) : Int)), (45, .int .i64 ((i2 : Nat) : Int))]) (fun (i2 : Nat) (w2 : Value) (out2 : List (List (List UInt8))) => [.row (w2) 31 (.list .str) (out2), .imm (.list (.list .str)) (w) (acc), .imm (.list .str) (r1) (allF l [86, 97, 114, 105, 97, 110, 116, 45, 75, 101, 121]), .imm (.list (.pair .str .str)) (lv) (l), .imm (.list (.pair .str (.list .str))) (axesv) (axes)]) (fun (i2 : Nat) (w2 : Value) (out2 : List (List (List UInt8))) => i2 ≤ acc.length ∧ out2 = dedK ((acc.take i2).map (resV axes)) ∧ (acc.take i2).all (resB axes) = true) (fun (i2 : Nat) (w2 : Value) (out2 : List (List (List UInt8))) => acc.length - i2) 0 (.slice none 0 0) [] (⟨Nat.zero_le _, rfl, rfl⟩) (⟨rfl, rfl, rfl, rfl, rfl, trivial⟩) (fun _ h => h) (fun i2 w2 out2 hin2 => ?_)
    have hol : out2.length ≤ 64 := by rw [hin2.2.1]; have := ded_len ((acc.take i2).map (resV axes)); rw [List.length_map, List.length_take] at this; omega
    have hg3 : ∀ k ∈ out2, k.length ≤ 9223372036854775807 := fun k hk => by rw [hin2.2.1] at hk; exact ded_mem (P := fun k => k.length ≤ 9223372036854775807) _ (fun z hz => by obtain ⟨y, _, rfl⟩ := List.mem_map.1 hz; rw [resV_length]; omega) k hk
    refine jc_seq (jc_region (jo_pure rfl (pr_lssN (m := i2) (n := acc.length) rfl rfl) ?_))
    refine jo_nil (jq_then (jc_seq ?_))
    refine jc_cond rfl (fun h5b => ?_) (fun h5b => ?_)
    ·have h5 := of_decide_eq_true h5b
     have hG := hRm _ (by rw [← hraw]; exact getD_mem (dd := []) h5)
     have hg2 := hG.2
     refine jc_skip (jq_then (jc_seq (jc_block (jc_seq (jc_region ?_)))))
     refine j_open_elem (t := (.list .str)) (i := i2) [] (.tail _ (.head _)) (by omega) (fun e1 => ?_)
     show J _ _ (.imm (.list .str) (e1) ((acc.getD i2 [])) :: .fact (fun w_ I_ => ElemAt w_ I_ (w) (i2) 1 [e1]) :: _) _
     refine jo_pure rfl (pr_idx_imm (i := i2) rfl (.tail _ (.tail _ (.tail _ (.head _)))) rfl Tryd.underlying26 ty_31 (by omega)) ?_
     refine jo_pure rfl (pr_load_at (e1) rfl (.tail _ (.head _)) ty_31 (by decide) rfl) ?_
     refine jo_pure rfl (pr_assign rfl) (jo_nil (jq_then (jc_seq (jc_region (jo_pure rfl (pr_move rfl) ?_)))))
     refine jo_pure rfl (pr_move rfl) ?_
     refine jo_callp cal_13 (c_variantkey_resolve axes axesv (acc.getD i2 []) e1 (by first | omega | rfl | exact hm6 | exact hav | exact ham | exact hg2 | exact hg3 | (have := getD_len (i := i) hM; omega) | decide) (by first | omega | rfl | exact hm6 | exact hav | exact ham | exact hg2 | exact hg3 | (have := getD_len (i := i) hM; omega) | decide) (by first | omega | rfl | exact hm6 | exact hav | exact ham | exact hg2 | exact hg3 | (have := getD_len (i := i) hM; omega) | decide) (by first | omega | rfl | exact hm6 | exact hav | exact ham | exact hg2 | exact hg3 | (have := getD_len (i := i) hM; omega) | decide)) ⟨rfl, rfl, trivial⟩ rfl (⟨⟨rfl, .tail _ (.tail _ (.tail _ (.tail _ (.tail _ (.tail _ (.head _))))))⟩, ⟨⟨rfl, .head _⟩, trivial⟩⟩) (fun r3 => ?_)
     show J _ _ [.imm (.list .str) (r3) (resR axes (acc.getD i2 [])), .imm (.list .str) (e1) ((acc.getD i2 [])), .fact (fun w_ I_ => ElemAt w_ I_ (w) (i2) 1 [e1]), .row (w2) 31 (.list .str) (out2), .imm (.list (.list .str)) (w) (acc), .imm (.list .str) (r1) (allF l [86, 97, 114, 105, 97, 110, 116, 45, 75, 101, 121]), .imm (.list (.pair .str .str)) (lv) (l), .imm (.list (.pair .str (.list .str))) (axesv) (axes)] _
     refine jo_pure rfl (pr_move rfl) (jo_pure rfl (pr_extract rfl rfl) ?_)
     refine jo_pure rfl (pr_extract rfl rfl) ?_
     refine jo_alloc ty_31 [.slice none 0 0] rfl rfl (fun b1 => ?_)
     refine jo_storeV rfl rfl ty_31 [r3] (fun w I m hs => (SliceV.cells (imm_slice (.tail _ (.head _)) hs))) rfl (fun w I m hs => by simp only [List.all_cons, List.all_nil, Bool.and_true, Bool.and_eq_true]; exact (SliceV.one (imm_slice (.tail _ (.head _)) hs))) [r3] rfl rfl ?_
     refine jo_pure rfl (pr_assign rfl) (jo_nil (jq_then (jc_seq (jc_seq (jc_region ?_)))))
     refine jo_pure rfl (pr_move rfl) (jo_pure rfl (pr_not rfl) ?_)
     refine jo_nil (jq_then ?_)
     refine jc_cond rfl (fun h6b => ?_) (fun h6b => ?_)
     ·have h6 := (fun q => id (bt_not q)) h6b
      refine jc_seq (jc_region (jo_pure rfl (pr_assign rfl) (jo_pure rfl (pr_assign rfl) (jo_nil (jq_then ?_)))))
      refine jc_ret (jq_then_ret (jq_in_ret ?_))
      refine jq_then_ret (jq_then_ret (jq_in_ret ?_))
      refine jq_then_ret (j_nil_imm (.list .str) ?_)
      refine j_pull1 (j_drop (j_pull1 (j_drop (j_pull1 (j_drop ?_)))))
      refine j_pull1 (j_drop (j_pull1 (j_drop (j_pull1 (j_drop ?_)))))
      refine j_pull1 (j_drop (j_pull1 (j_drop (j_pull1 (j_drop ?_)))))
      exact jq_rets (rs := [.tmp 4, .tmp 5]) (vs := [.slice none 0 0, .int .i64 ((11 : Nat) : Int)]) rfl (.slice none 0 0) ⟨resV_tmp rfl, resV_tmp rfl, trivial⟩ rfl (show (.tuple #[(.slice none 0 0), .int .i64 ((parseK l axes).2)] : Value) = (.tuple #[.slice none 0 0, .int .i64 ((11 : Nat) : Int)]) from by rw [pk_lim (i := i2) h1 h2 hallM (by have h9 := h5; rw [hraw] at h9; exact h9) (by have h9 := h6; rw [hraw] at h9; exact h9)] <;> rfl) (fun _ h => by rw [pk_lim (i := i2) h1 h2 hallM (by have h9 := h5; rw [hraw] at h9; exact h9) (by have h9 := h6; rw [hraw] at h9; exact h9)]; exact h)
     ·have h6 := (fun q => id (bf_not q)) h6b
      refine jc_skip (jq_then (jc_seq (jc_region (jo_pure rfl (pr_move rfl) (jo_pure rfl (pr_makeFunc (fs := #[]) (cs := #[.pointer (some ⟨b1, 0, none⟩)]) (fun a hf => by simp) (fun a hf => by simp only [List.map_toArray, List.map_cons, List.map_nil, hf.ev (show ev _ (.tmp 15) = some (.pointer (some ⟨b1, 0, none⟩)) from rfl)])) ?_)))))
      refine j_pub_box ?_
      refine jo_callq cal_14 (c_containsFunc_keys out2 w2 (resR axes (acc.getD i2 [])) r3 b1 (by first | omega | rfl | exact hm6 | exact hav | exact ham | exact hg2 | exact hg3 | (have := getD_len (i := i) hM; omega) | decide) (by first | omega | rfl | exact hm6 | exact hav | exact ham | exact hg2 | exact hg3 | (have := getD_len (i := i) hM; omega) | decide)) ⟨rfl, rfl, trivial⟩ rfl (⟨peek_row (.tail _ (.tail _ (.tail _ (.tail _ (.head _))))), ⟨peek_pers rfl (.tail _ (.head _)), ⟨peek_pers rfl (.head _), trivial⟩⟩⟩) (fun _ => ?_)
      refine jo_pure rfl (pr_not rfl) ?_
      refine jo_nil (jq_then ?_)
      refine jc_cond rfl (fun h7b => ?_) (fun h7b => ?_)
      ·have h7 := (fun q => id (bt_not q)) h7b
       refine jc_region (jo_pure rfl (pr_move rfl) (jo_pure rfl (pr_load_ibox (r3) rfl ty_31 (.head _) rfl (by decide) rfl) ?_))
       refine jo_buildSliceLV (t := (.list .str)) [resR axes (acc.getD i2 [])] [r3] [[r3]] (fun a hf => by simp only [List.zipIdx_cons, List.zipIdx_nil, List.map_toArray, List.map_cons, List.map_nil, hf.ev (show ev _ (.tmp 62) = some (r3) from rfl)] <;> rfl) (fun w I m hs => by obtain ⟨_, _, _, e0⟩ := imm_slice (.tail _ (.head _)) hs; rw [e0]; rfl) ⟨⟨r3, rfl, .tail _ (.head _)⟩, trivial⟩ Tryd.underlying26 ty_31 rfl rfl rfl rfl (fun g2 => ?_)
       refine j_pull5 ?_
       refine jo_append rfl rfl Tryd.underlying26 ty_31 rfl (by simp only [List.length_append, List.length_cons, List.length_nil, maxLen]; omega) (by simp only [List.length_append, List.length_cons, List.length_nil]; omega) rfl (fun v2 => ?_)
       refine jo_pure rfl (pr_assign rfl) (jo_nil (jq_in_normal (jq_then (jc_region (jo_pure rfl (pr_addN (m := i2) (n := 1) rfl rfl (by omega)) ?_)))))
       refine jo_pure rfl (pr_move rfl) (jo_nil (j_pull1 (j_drop (j_pull1 (j_drop ?_)))))
       refine j_pull1 (j_drop (j_pull1 (j_drop (j_pull4 ?_))))
       refine j_pull4 ?_
       refine j_pull4 ?_
       refine j_pull4 ?_
       refine j_pull4 ?_
       refine jq_round' ((i2 + 1), v2, (out2 ++ [resR axes (acc.getD i2 [])])) (by (try dsimp only); exact (⟨by omega, by rw [dedm_step h5, ← hin2.2.1, resR_yes h6, add_new (by have h9 := h7b; rw [resR_yes h6] at h9; simpa using h9)], all_step (dd := []) h5 hin2.2.2 h6⟩)) (by (try dsimp only); exact (by omega)) ⟨rfl, rfl, rfl, rfl, rfl, trivial⟩ (fun _ h => h)
      ·have h7 := (fun q => id (bf_not q)) h7b
       refine jc_skip (jq_in_normal (jq_then (jc_region (jo_pure rfl (pr_addN (m := i2) (n := 1) rfl rfl (by omega)) ?_))))
       refine jo_pure rfl (pr_move rfl) (jo_nil (j_drop (j_drop (j_drop (j_drop ?_)))))
       refine j_pull4 ?_
       refine j_pull4 ?_
       refine j_pull4 ?_
       refine j_pull4 ?_
       refine j_pull4 ?_
       refine jq_round' ((i2 + 1), w2, out2) (by (try dsimp only); exact (⟨by omega, by rw [dedm_step h5, ← hin2.2.1, add_old (by have h9 := h7b; rw [resR_yes h6] at h9; simpa using h9)], all_step (dd := []) h5 hin2.2.2 h6⟩)) (by (try dsimp only); exact (by omega)) ⟨rfl, rfl, rfl, rfl, rfl, trivial⟩ (fun _ h => h)
    ·have h5 := of_decide_eq_false h5b
     refine jc_exit ?_
     refine jq_then_exit ?_
     refine jq_then_exit ?_
     refine jq_in_hit ?_
     refine jq_then (jc_seq (jc_region (jo_pure rfl (pr_move rfl) (jo_pure rfl (pr_assign rfl) (jo_pure rfl (pr_assign rfl) ?_)))))
     refine jo_nil (jq_then (jc_ret (j_pub_row (j_pull1 (j_drop ?_)))))
     refine j_pull1 (j_drop (j_pull1 (j_drop (j_pull1 (j_drop ?_)))))
     exact jq_rets (rs := [.tmp 4, .tmp 5]) (vs := [w2, .int .i64 ((0 : Nat) : Int)]) rfl w2 ⟨resV_tmp rfl, resV_tmp rfl, trivial⟩ rfl (show (.tuple #[w2, .int .i64 ((parseK l axes).2)] : Value) = (.tuple #[w2, .int .i64 ((0 : Nat) : Int)]) from by rw [pk_ok h1 h2 hallM (by have h9 := all_end (by omega) hin2.2.2; rw [hraw] at h9; exact h9)] <;> rfl) (fun _ h => by rw [pk_ok h1 h2 hallM (by have h9 := all_end (by omega) hin2.2.2; rw [hraw] at h9; exact h9)]; show Mem _ [.imm (.list (.list .str)) w2 (dedK ((readM (allF l [86, 97, 114, 105, 97, 110, 116, 45, 75, 101, 121])).map (resV axes)))] _; rw [← hraw, ← take_over (s := acc) (i := i2) (by omega), ← hin2.2.1]; exact h)

theorem c_ref26_SameKeys (a : List (List (List UInt8))) (av : Value) (b : List (List (List UInt8))) (bv : Value) (hl : a.length ≤ 9223372036854775807) (hm : ∀ x ∈ a, x.length ≤ 9223372036854775807) : Con Tryd.prog 18 #[av, bv] [.imm (.list (.list .str)) (av) (a), .imm (.list (.list .str)) (bv) (b)] (fun _ : Unit => .bool (decide (a = b))) (fun _ => []) := by
 refine con_of_J (args := [av, bv]) (n := 27) Tryd.func18 rfl (Nat.le_of_ble_eq_true rfl) rfl (fun w0 I0 m0 => ?_)
 show J _ [(0, av), (1, bv)] [.imm (.list (.list .str)) (av) (a), .imm (.list (.list .str)) (bv) (b)] _
 refine jc_seq (jc_region (jo_pure rfl (pr_assign rfl) (jo_nil (jq_then (jc_seq ?_)))))
 refine jc_seq (jc_region (jo_pure rfl (pr_move rfl) (jo_pure rfl (pr_len_imm rfl (.head _) Tryd.underlying26) ?_)))
 refine jo_pure rfl (pr_move rfl) (jo_pure rfl (pr_len_imm rfl (.tail _ (.head _)) Tryd.underlying26) ?_)
 refine jo_pure rfl (pr_neqN (m := a.length) (n := b.length) rfl rfl) ?_
 refine jo_nil (jq_then ?_)
 refine jc_cond rfl (fun h1b => ?_) (fun h1b => ?_)
 ·have h1 := (fun q => of_decide_eq_false (bt_not q)) h1b
  refine jc_seq (jc_region (jo_pure rfl (pr_assign rfl) (jo_nil (jq_then (jc_ret ?_)))))
  refine jq_then_ret (j_drop (j_drop ?_))
  exact jq_ret1 rfl () rfl (show (.bool (decide (a = b)) : Value) = (.bool (false)) from congrArg Value.bool (decide_eq_false (fun e => by rw [e] at h1; simp at h1))) (fun _ h => h)
 ·have h1 := (fun q => of_decide_eq_true (bf_not q)) h1b
  have hlen : a.length = b.length := by simpa using h1
  refine jc_skip (jq_then (jc_seq (jc_seq (jc_region (jo_pure rfl (pr_assign rfl) ?_)))))
  refine jo_nil (jq_then (jc_block ?_))
  refine jc_loop (fun (i : Nat) => [(0, av), (1, bv), (5, .int .i64 ((i : Nat) : Int))]) (fun (i : Nat) => [.imm (.list (.list .str)) (av) (a), .imm (.list (.list .str)) (bv) (b)]) (fun (i : Nat) => i ≤ a.length ∧ a.take i = b.take i) (fun (i : Nat) => a.length - i) 0 (⟨Nat.zero_le _, rfl⟩) (⟨rfl, rfl, rfl, trivial⟩) (fun _ h => h) (fun i hinv => ?_)
  refine jc_seq (jc_seq (jc_region (jo_pure rfl (pr_move rfl) (jo_pure rfl (pr_move rfl) (jo_pure rfl (pr_len_imm rfl (.head _) Tryd.underlying26) ?_)))))
  refine jo_pure rfl (pr_lssN (m := i) (n := a.length) rfl rfl) ?_
  refine jo_nil (jq_then ?_)
  refine jc_cond rfl (fun h2b => ?_) (fun h2b => ?_)
  ·have h2 := of_decide_eq_true h2b
   refine jc_skip (jq_then (jc_seq (jc_block (jc_seq ?_))))
   refine j_open_elem (t := (.list .str)) (i := i) [] (.head _) (by omega) (fun e1 => ?_)
   show J _ _ (.imm (.list .str) (e1) ((a.getD i [])) :: .fact (fun w_ I_ => ElemAt w_ I_ (av) (i) 1 [e1]) :: _) _
   refine j_open_elem (t := (.list .str)) (i := i) [] (.tail _ (.tail _ (.tail _ (.head _)))) (by omega) (fun e2 => ?_)
   show J _ _ (.imm (.list .str) (e2) ((b.getD i [])) :: .fact (fun w_ I_ => ElemAt w_ I_ (bv) (i) 1 [e2]) :: _) _
   refine jc_draws mixed (by kernel_rfl) (jd_pure rfl (pr_move rfl) ?_)
   refine jd_pure rfl (pr_move rfl) ?_
   refine jd_pure rfl (pr_idx_imm (i := i) rfl (.tail _ (.tail _ (.tail _ (.tail _ (.head _))))) rfl Tryd.underlying26 ty_31 (by omega)) ?_
   refine jd_pure rfl (pr_load_at (e1) rfl (.tail _ (.tail _ (.tail _ (.head _)))) ty_31 (by decide) rfl) ?_
   refine jd_pure rfl (pr_move rfl) ?_
   refine jd_pure rfl (pr_move rfl) ?_
   refine jd_pure rfl (pr_idx_imm (i := i) rfl (.tail _ (.tail _ (.tail _ (.tail _ (.tail _ (.head _)))))) rfl Tryd.underlying26 ty_31 (by omega)) ?_
   refine jd_pure rfl (pr_load_at (e2) rfl (.tail _ (.head _)) ty_31 (by decide) rfl) ?_
   refine jd_callp cal_33 (c_ref10_SameStrings (a.getD i []) e1 (b.getD i []) e2 (by exact hm _ (getD_mem (dd := []) h2))) ⟨rfl, rfl, trivial⟩ rfl (⟨⟨rfl, .tail _ (.tail _ (.head _))⟩, ⟨⟨rfl, .head _⟩, trivial⟩⟩) ?_
   refine jd_pure rfl (pr_not rfl) ?_
   refine jd_nil ?_
   refine jq_then ?_
   refine jc_cond rfl (fun h3b => ?_) (fun h3b => ?_)
   ·have h3 := (fun q => id (bt_not q)) h3b
    refine jc_seq (jc_region (jo_pure rfl (pr_assign rfl) (jo_nil (jq_then (jc_ret ?_)))))
    refine jq_in_ret ?_
    refine jq_then_ret (jq_then_ret (jq_in_ret ?_))
    refine jq_then_ret (j_drop (j_drop (j_drop (j_drop (j_drop ?_)))))
    refine j_drop ?_
    exact jq_ret1 rfl () rfl (show (.bool (decide (a = b)) : Value) = (.bool (false)) from congrArg Value.bool (decide_eq_false (fun e => by rw [e] at h3b; simp at h3b))) (fun _ h => h)
   ·have h3 := (fun q => id (bf_not q)) h3b
    refine jc_skip (jq_in_normal (jq_then (jc_region (jo_pure rfl (pr_move rfl) (jo_pure rfl (pr_addN (m := i) (n := 1) rfl rfl (by omega)) ?_)))))
    refine jo_pure rfl (pr_assign rfl) (jo_nil (j_drop (j_drop (j_drop (j_drop ?_)))))
    refine j_pull1 (j_pull1 ?_)
    refine jq_round' (i + 1) (by (try dsimp only); exact (⟨by omega, take_eq_step (dd := []) h2 (by omega) hinv.2 (by simpa using h3b)⟩)) (by (try dsimp only); exact (by omega)) ⟨rfl, rfl, rfl, trivial⟩ (fun _ h => h)
  ·have h2 := of_decide_eq_false h2b
   refine jc_exit ?_
   refine jq_then_exit ?_
   refine jq_then_exit ?_
   refine jq_in_hit ?_
   refine jq_then (jc_seq (jc_region (jo_pure rfl (pr_assign rfl) (jo_nil (jq_then ?_)))))
   refine jc_ret (j_drop (j_drop ?_))
   exact jq_ret1 rfl () rfl (show (.bool (decide (a = b)) : Value) = (.bool (true)) from congrArg Value.bool (decide_eq_true (by have := hinv.2; rwa [List.take_of_length_le (by omega), List.take_of_length_le (by omega)] at this))) (fun _ h => h)

theorem c_law16_axes   : Con Tryd.prog 17 #[] [] (fun r1 : Value => r1) (fun r1 => [.imm (.list (.pair .str (.list .str))) r1 ([([97, 99, 99, 101, 112, 116, 45, 108, 97, 110, 103, 117, 97, 103, 101], [[101, 110], [102, 114]]), ([97, 99, 99, 101, 112, 116, 45, 101, 110, 99, 111, 100, 105, 110, 103], [[103, 122, 105, 112], [105, 100, 101, 110, 116, 105, 116, 121]])])]) := by
 refine con_of_J (args := []) (n := 6) Tryd.func17 rfl (Nat.le_of_ble_eq_true rfl) rfl (fun w0 I0 m0 => ?_)
 show J _ [] [] _
 refine jc_seq (jc_region (jo_pure rfl (pr_assign rfl) (jo_nil (jq_then (jc_seq ?_)))))
 refine jc_region ?_
 refine jo_buildSlice (t := .str) [[101, 110], [102, 114]] [str ([101, 110]), str ([102, 114])] (fun a hf => by simp only [List.zipIdx_cons, List.zipIdx_nil, List.map_toArray, List.map_cons, List.map_nil] <;> rfl) rfl Tryd.underlying31 ty_9 rfl rfl rfl rfl rfl (fun g1 => ?_)
 refine jo_pure rfl (pr_build [(0, str ([97, 99, 99, 101, 112, 116, 45, 108, 97, 110, 103, 117, 97, 103, 101])), (1, .slice (some ⟨g1, 0, none⟩) (([[101, 110], [102, 114]]).length) (([[101, 110], [102, 114]]).length))] [str ([97, 99, 99, 101, 112, 116, 45, 108, 97, 110, 103, 117, 97, 103, 101]), .slice (some ⟨g1, 0, none⟩) (([[101, 110], [102, 114]]).length) (([[101, 110], [102, 114]]).length)] (fun a hf => by simp only [List.map_toArray, List.map_cons, List.map_nil, hf.ev (show ev _ (.tmp 1) = some (.slice (some ⟨g1, 0, none⟩) (([[101, 110], [102, 114]]).length) (([[101, 110], [102, 114]]).length)) from rfl)] <;> rfl) (by kernel_rfl)) ?_
 refine jo_buildSlice (t := .str) [[103, 122, 105, 112], [105, 100, 101, 110, 116, 105, 116, 121]] [str ([103, 122, 105, 112]), str ([105, 100, 101, 110, 116, 105, 116, 121])] (fun a hf => by simp only [List.zipIdx_cons, List.zipIdx_nil, List.map_toArray, List.map_cons, List.map_nil] <;> rfl) rfl Tryd.underlying31 ty_9 rfl rfl rfl rfl rfl (fun g2 => ?_)
 refine jo_pure rfl (pr_build [(0, str ([97, 99, 99, 101, 112, 116, 45, 101, 110, 99, 111, 100, 105, 110, 103])), (1, .slice (some ⟨g2, 0, none⟩) (([[103, 122, 105, 112], [105, 100, 101, 110, 116, 105, 116, 121]]).length) (([[103, 122, 105, 112], [105, 100, 101, 110, 116, 105, 116, 121]]).length))] [str ([97, 99, 99, 101, 112, 116, 45, 101, 110, 99, 111, 100, 105, 110, 103]), .slice (some ⟨g2, 0, none⟩) (([[103, 122, 105, 112], [105, 100, 101, 110, 116, 105, 116, 121]]).length) (([[103, 122, 105, 112], [105, 100, 101, 110, 116, 105, 116, 121]]).length)] (fun a hf => by simp only [List.map_toArray, List.map_cons, List.map_nil, hf.ev (show ev _ (.tmp 3) = some (.slice (some ⟨g2, 0, none⟩) (([[103, 122, 105, 112], [105, 100, 101, 110, 116, 105, 116, 121]]).length) (([[103, 122, 105, 112], [105, 100, 101, 110, 116, 105, 116, 121]]).length)) from rfl)] <;> rfl) (by kernel_rfl)) ?_
 refine j_pull1 (j_pub_rowg (j_pull1 (j_pub_rowg ?_)))
 refine jo_buildSliceL (t := (.pair .str (.list .str))) [([97, 99, 99, 101, 112, 116, 45, 108, 97, 110, 103, 117, 97, 103, 101], [[101, 110], [102, 114]]), ([97, 99, 99, 101, 112, 116, 45, 101, 110, 99, 111, 100, 105, 110, 103], [[103, 122, 105, 112], [105, 100, 101, 110, 116, 105, 116, 121]])] [.agg #[str ([97, 99, 99, 101, 112, 116, 45, 108, 97, 110, 103, 117, 97, 103, 101]), .slice (some ⟨g1, 0, none⟩) ([[101, 110], [102, 114]]).length (([[101, 110], [102, 114]]).length)], .agg #[str ([97, 99, 99, 101, 112, 116, 45, 101, 110, 99, 111, 100, 105, 110, 103]), .slice (some ⟨g2, 0, none⟩) ([[103, 122, 105, 112], [105, 100, 101, 110, 116, 105, 116, 121]]).length (([[103, 122, 105, 112], [105, 100, 101, 110, 116, 105, 116, 121]]).length)]] [[str ([97, 99, 99, 101, 112, 116, 45, 108, 97, 110, 103, 117, 97, 103, 101]), .slice (some ⟨g1, 0, none⟩) ([[101, 110], [102, 114]]).length (([[101, 110], [102, 114]]).length)], [str ([97, 99, 99, 101, 112, 116, 45, 101, 110, 99, 111, 100, 105, 110, 103]), .slice (some ⟨g2, 0, none⟩) ([[103, 122, 105, 112], [105, 100, 101, 110, 116, 105, 116, 121]]).length (([[103, 122, 105, 112], [105, 100, 101, 110, 116, 105, 116, 121]]).length)]] (fun a hf => by simp only [List.zipIdx_cons, List.zipIdx_nil, List.map_toArray, List.map_cons, List.map_nil, hf.ev (show ev _ (.tmp 2) = some (.agg #[str ([97, 99, 99, 101, 112, 116, 45, 108, 97, 110, 103, 117, 97, 103, 101]), .slice (some ⟨g1, 0, none⟩) ([[101, 110], [102, 114]]).length (([[101, 110], [102, 114]]).length)]) from rfl), hf.ev (show ev _ (.tmp 4) = some (.agg #[str ([97, 99, 99, 101, 112, 116, 45, 101, 110, 99, 111, 100, 105, 110, 103]), .slice (some ⟨g2, 0, none⟩) ([[103, 122, 105, 112], [105, 100, 101, 110, 116, 105, 116, 121]]).length (([[103, 122, 105, 112], [105, 100, 101, 110, 116, 105, 116, 121]]).length)]) from rfl)] <;> rfl) rfl ⟨⟨[str ([97, 99, 99, 101, 112, 116, 45, 108, 97, 110, 103, 117, 97, 103, 101])], [.slice (some ⟨g1, 0, none⟩) ([[101, 110], [102, 114]]).length (([[101, 110], [102, 114]]).length)], rfl, rfl, ⟨(.slice (some ⟨g1, 0, none⟩) ([[101, 110], [102, 114]]).length (([[101, 110], [102, 114]]).length)), rfl, .tail _ (.head _)⟩⟩, ⟨⟨[str ([97, 99, 99, 101, 112, 116, 45, 101, 110, 99, 111, 100, 105, 110, 103])], [.slice (some ⟨g2, 0, none⟩) ([[103, 122, 105, 112], [105, 100, 101, 110, 116, 105, 116, 121]]).length (([[103, 122, 105, 112], [105, 100, 101, 110, 116, 105, 116, 121]]).length)], rfl, rfl, ⟨(.slice (some ⟨g2, 0, none⟩) ([[103, 122, 105, 112], [105, 100, 101, 110, 116, 105, 116, 121]]).length (([[103, 122, 105, 112], [105, 100, 101, 110, 116, 105, 116, 121]]).length)), rfl, .head _⟩⟩, trivial⟩⟩ Tryd.underlying23 ty_33 rfl rfl rfl rfl (fun g3 => ?_)
 refine jo_pure rfl (pr_assign rfl) (jo_nil (jq_then (jc_ret (j_row_of_rowg ?_))))
 refine j_pub_row (j_pull1 (j_drop (j_pull1 (j_drop ?_))))
 exact jq_ret1 rfl (.slice (some ⟨g3, 0, none⟩) ([([97, 99, 99, 101, 112, 116, 45, 108, 97, 110, 103, 117, 97, 103, 101], [[101, 110], [102, 114]]), ([97, 99, 99, 101, 112, 116, 45, 101, 110, 99, 111, 100, 105, 110, 103], [[103, 122, 105, 112], [105, 100, 101, 110, 116, 105, 116, 121]])]).length (([([97, 99, 99, 101, 112, 116, 45, 108, 97, 110, 103, 117, 97, 103, 101], [[101, 110], [102, 114]]), ([97, 99, 99, 101, 112, 116, 45, 101, 110, 99, 111, 100, 105, 110, 103], [[103, 122, 105, 112], [105, 100, 101, 110, 116, 105, 116, 121]])]).length)) rfl (show (.slice (some ⟨g3, 0, none⟩) ([([97, 99, 99, 101, 112, 116, 45, 108, 97, 110, 103, 117, 97, 103, 101], [[101, 110], [102, 114]]), ([97, 99, 99, 101, 112, 116, 45, 101, 110, 99, 111, 100, 105, 110, 103], [[103, 122, 105, 112], [105, 100, 101, 110, 116, 105, 116, 121]])]).length (([([97, 99, 99, 101, 112, 116, 45, 108, 97, 110, 103, 117, 97, 103, 101], [[101, 110], [102, 114]]), ([97, 99, 99, 101, 112, 116, 45, 101, 110, 99, 111, 100, 105, 110, 103], [[103, 122, 105, 112], [105, 100, 101, 110, 116, 105, 116, 121]])]).length) : Value) = (.slice (some ⟨g3, 0, none⟩) ([([97, 99, 99, 101, 112, 116, 45, 108, 97, 110, 103, 117, 97, 103, 101], [[101, 110], [102, 114]]), ([97, 99, 99, 101, 112, 116, 45, 101, 110, 99, 111, 100, 105, 110, 103], [[103, 122, 105, 112], [105, 100, 101, 110, 116, 105, 116, 121]])]).length (([([97, 99, 99, 101, 112, 116, 45, 108, 97, 110, 103, 117, 97, 103, 101], [[101, 110], [102, 114]]), ([97, 99, 99, 101, 112, 116, 45, 101, 110, 99, 111, 100, 105, 110, 103], [[103, 122, 105, 112], [105, 100, 101, 110, 116, 105, 116, 121]])]).length)) from rfl) (fun _ h => h)

theorem c_law16_awake   : Con Tryd.prog 7 #[] [] (fun _ : Unit => .bool (true)) (fun _ => []) := by
 refine con_of_J (args := []) (n := 19) Tryd.func7 rfl (Nat.le_of_ble_eq_true rfl) rfl (fun w0 I0 m0 => ?_)
 show J _ [] [] _
 refine jc_seq (jc_region (jo_pure rfl (pr_assign rfl) (jo_nil (jq_then (jc_seq ?_)))))
 refine jc_region (jo_pure rfl (pr_build [(0, str ([86, 97, 114, 105, 97, 110, 116, 45, 75, 101, 121])), (1, str ([40, 70, 82, 32, 103, 122, 105, 112, 41, 44, 32, 40, 101, 110, 32, 103, 122, 105, 112, 41, 44, 32, 40, 102, 114, 32, 71, 90, 73, 80, 41]))] [str ([86, 97, 114, 105, 97, 110, 116, 45, 75, 101, 121]), str ([40, 70, 82, 32, 103, 122, 105, 112, 41, 44, 32, 40, 101, 110, 32, 103, 122, 105, 112, 41, 44, 32, 40, 102, 114, 32, 71, 90, 73, 80, 41])] (fun a hf => by simp only [List.map_toArray, List.map_cons, List.map_nil] <;> rfl) (by kernel_rfl)) ?_)
 refine jo_buildSlice (t := (.pair .str .str)) [([86, 97, 114, 105, 97, 110, 116, 45, 75, 101, 121], [40, 70, 82, 32, 103, 122, 105, 112, 41, 44, 32, 40, 101, 110, 32, 103, 122, 105, 112, 41, 44, 32, 40, 102, 114, 32, 71, 90, 73, 80, 41])] [.agg #[str ([86, 97, 114, 105, 97, 110, 116, 45, 75, 101, 121]), str ([40, 70, 82, 32, 103, 122, 105, 112, 41, 44, 32, 40, 101, 110, 32, 103, 122, 105, 112, 41, 44, 32, 40, 102, 114, 32, 71, 90, 73, 80, 41])]] (fun a hf => by simp only [List.zipIdx_cons, List.zipIdx_nil, List.map_toArray, List.map_cons, List.map_nil, hf.ev (show ev _ (.tmp 4) = some (.agg #[str ([86, 97, 114, 105, 97, 110, 116, 45, 75, 101, 121]), str ([40, 70, 82, 32, 103, 122, 105, 112, 41, 44, 32, 40, 101, 110, 32, 103, 122, 105, 112, 41, 44, 32, 40, 102, 114, 32, 71, 90, 73, 80, 41])]) from rfl)] <;> rfl) rfl Tryd.underlying22 ty_37 rfl rfl rfl rfl rfl (fun g1 => ?_)
 refine jo_callp cal_17 (c_law16_axes) trivial rfl (trivial) (fun r1 => ?_)
 show J _ _ [.imm (.list (.pair .str (.list .str))) (r1) ([([97, 99, 99, 101, 112, 116, 45, 108, 97, 110, 103, 117, 97, 103, 101], [[101, 110], [102, 114]]), ([97, 99, 99, 101, 112, 116, 45, 101, 110, 99, 111, 100, 105, 110, 103], [[103, 122, 105, 112], [105, 100, 101, 110, 116, 105, 116, 121]])]), .rowg g1 (([([86, 97, 114, 105, 97, 110, 116, 45, 75, 101, 121], [40, 70, 82, 32, 103, 122, 105, 112, 41, 44, 32, 40, 101, 110, 32, 103, 122, 105, 112, 41, 44, 32, 40, 102, 114, 32, 71, 90, 73, 80, 41])]).length) 37 (.pair .str .str) ([([86, 97, 114, 105, 97, 110, 116, 45, 75, 101, 121], [40, 70, 82, 32, 103, 122, 105, 112, 41, 44, 32, 40, 101, 110, 32, 103, 122, 105, 112, 41, 44, 32, 40, 102, 114, 32, 71, 90, 73, 80, 41])])] _
 refine j_pull1 (j_pub_rowg ?_)
 refine jo_callp cal_6 (c_variantkey_Parse [([86, 97, 114, 105, 97, 110, 116, 45, 75, 101, 121], [40, 70, 82, 32, 103, 122, 105, 112, 41, 44, 32, 40, 101, 110, 32, 103, 122, 105, 112, 41, 44, 32, 40, 102, 114, 32, 71, 90, 73, 80, 41])] (.slice (some ⟨g1, 0, none⟩) ([([86, 97, 114, 105, 97, 110, 116, 45, 75, 101, 121], [40, 70, 82, 32, 103, 122, 105, 112, 41, 44, 32, 40, 101, 110, 32, 103, 122, 105, 112, 41, 44, 32, 40, 102, 114, 32, 71, 90, 73, 80, 41])]).length (([([86, 97, 114, 105, 97, 110, 116, 45, 75, 101, 121], [40, 70, 82, 32, 103, 122, 105, 112, 41, 44, 32, 40, 101, 110, 32, 103, 122, 105, 112, 41, 44, 32, 40, 102, 114, 32, 71, 90, 73, 80, 41])]).length)) [([97, 99, 99, 101, 112, 116, 45, 108, 97, 110, 103, 117, 97, 103, 101], [[101, 110], [102, 114]]), ([97, 99, 99, 101, 112, 116, 45, 101, 110, 99, 111, 100, 105, 110, 103], [[103, 122, 105, 112], [105, 100, 101, 110, 116, 105, 116, 121]])] r1 (by decide +kernel) (by decide +kernel) (by decide +kernel) (by decide +kernel)) ⟨rfl, rfl, trivial⟩ rfl (⟨⟨rfl, .head _⟩, ⟨⟨rfl, .tail _ (.head _)⟩, trivial⟩⟩) (fun r2 => ?_)
 show J _ _ [.imm (.list (.list .str)) (r2) ((parseK [([86, 97, 114, 105, 97, 110, 116, 45, 75, 101, 121], [40, 70, 82, 32, 103, 122, 105, 112, 41, 44, 32, 40, 101, 110, 32, 103, 122, 105, 112, 41, 44, 32, 40, 102, 114, 32, 71, 90, 73, 80, 41])] [([97, 99, 99, 101, 112, 116, 45, 108, 97, 110, 103, 117, 97, 103, 101], [[101, 110], [102, 114]]), ([97, 99, 99, 101, 112, 116, 45, 101, 110, 99, 111, 100, 105, 110, 103], [[103, 122, 105, 112], [105, 100, 101, 110, 116, 105, 116, 121]])]).1), .imm (.list (.pair .str .str)) (.slice (some ⟨g1, 0, none⟩) ([([86, 97, 114, 105, 97, 110, 116, 45, 75, 101, 121], [40, 70, 82, 32, 103, 122, 105, 112, 41, 44, 32, 40, 101, 110, 32, 103, 122, 105, 112, 41, 44, 32, 40, 102, 114, 32, 71, 90, 73, 80, 41])]).length (([([86, 97, 114, 105, 97, 110, 116, 45, 75, 101, 121], [40, 70, 82, 32, 103, 122, 105, 112, 41, 44, 32, 40, 101, 110, 32, 103, 122, 105, 112, 41, 44, 32, 40, 102, 114, 32, 71, 90, 73, 80, 41])]).length)) ([([86, 97, 114, 105, 97, 110, 116, 45, 75, 101, 121], [40, 70, 82, 32, 103, 122, 105, 112, 41, 44, 32, 40, 101, 110, 32, 103, 122, 105, 112, 41, 44, 32, 40, 102, 114, 32, 71, 90, 73, 80, 41])]), .imm (.list (.pair .str (.list .str))) (r1) ([([97, 99, 99, 101, 112, 116, 45, 108, 97, 110, 103, 117, 97, 103, 101], [[101, 110], [102, 114]]), ([97, 99, 99, 101, 112, 116, 45, 101, 110, 99, 111, 100, 105, 110, 103], [[103, 122, 105, 112], [105, 100, 101, 110, 116, 105, 116, 121]])])] _
 refine jo_pure rfl (pr_move rfl) (jo_pure rfl (pr_extract rfl rfl) ?_)
 refine jo_pure rfl (pr_extract rfl rfl) ?_
 refine jo_pure rfl (pr_assign rfl) (jo_pure rfl (pr_assign rfl) (jo_nil (jq_then (jc_seq (jc_region ?_)))))
 refine jo_pure rfl (pr_move rfl) (jo_pure rfl (pr_eql (n := 0) rfl rfl) ?_)
 refine jo_pure rfl (pr_move rfl) ?_
 have ht1 : (decide (((parseK [([86, 97, 114, 105, 97, 110, 116, 45, 75, 101, 121], [40, 70, 82, 32, 103, 122, 105, 112, 41, 44, 32, 40, 101, 110, 32, 103, 122, 105, 112, 41, 44, 32, 40, 102, 114, 32, 71, 90, 73, 80, 41])] [([97, 99, 99, 101, 112, 116, 45, 108, 97, 110, 103, 117, 97, 103, 101], [[101, 110], [102, 114]]), ([97, 99, 99, 101, 112, 116, 45, 101, 110, 99, 111, 100, 105, 110, 103], [[103, 122, 105, 112], [105, 100, 101, 110, 116, 105, 116, 121]])]).2 : Int) = 0)) = true := by decide +kernel
 refine jo_run (j := 2) (want := true) rfl rfl (ht1) ?_
 refine jo_pure rfl (pr_move rfl) (jo_run (j := 2) (want := true) rfl rfl (ht1) ?_)
 refine jo_buildSlice (t := .str) [[102, 114], [103, 122, 105, 112]] [str ([102, 114]), str ([103, 122, 105, 112])] (fun a hf => by simp only [List.zipIdx_cons, List.zipIdx_nil, List.map_toArray, List.map_cons, List.map_nil] <;> rfl) rfl Tryd.underlying31 ty_9 rfl rfl rfl rfl rfl (fun g2 => ?_)
 refine jo_run (j := 2) (want := true) rfl rfl (ht1) ?_
 refine jo_buildSlice (t := .str) [[101, 110], [103, 122, 105, 112]] [str ([101, 110]), str ([103, 122, 105, 112])] (fun a hf => by simp only [List.zipIdx_cons, List.zipIdx_nil, List.map_toArray, List.map_cons, List.map_nil] <;> rfl) rfl Tryd.underlying31 ty_9 rfl rfl rfl rfl rfl (fun g3 => ?_)
 refine jo_run (j := 2) (want := true) rfl rfl (ht1) ?_
 refine j_pull1 (j_pub_rowg (j_pull1 (j_pub_rowg ?_)))
 refine jo_buildSliceL (t := (.list .str)) [[[102, 114], [103, 122, 105, 112]], [[101, 110], [103, 122, 105, 112]]] [.slice (some ⟨g2, 0, none⟩) ([[102, 114], [103, 122, 105, 112]]).length (([[102, 114], [103, 122, 105, 112]]).length), .slice (some ⟨g3, 0, none⟩) ([[101, 110], [103, 122, 105, 112]]).length (([[101, 110], [103, 122, 105, 112]]).length)] [[.slice (some ⟨g2, 0, none⟩) ([[102, 114], [103, 122, 105, 112]]).length (([[102, 114], [103, 122, 105, 112]]).length)], [.slice (some ⟨g3, 0, none⟩) ([[101, 110], [103, 122, 105, 112]]).length (([[101, 110], [103, 122, 105, 112]]).length)]] (fun a hf => by simp only [List.zipIdx_cons, List.zipIdx_nil, List.map_toArray, List.map_cons, List.map_nil, hf.ev (show ev _ (.tmp 14) = some (.slice (some ⟨g2, 0, none⟩) ([[102, 114], [103, 122, 105, 112]]).length (([[102, 114], [103, 122, 105, 112]]).length)) from rfl), hf.ev (show ev _ (.tmp 15) = some (.slice (some ⟨g3, 0, none⟩) ([[101, 110], [103, 122, 105, 112]]).length (([[101, 110], [103, 122, 105, 112]]).length)) from rfl)] <;> rfl) rfl ⟨⟨(.slice (some ⟨g2, 0, none⟩) ([[102, 114], [103, 122, 105, 112]]).length (([[102, 114], [103, 122, 105, 112]]).length)), rfl, .tail _ (.head _)⟩, ⟨⟨(.slice (some ⟨g3, 0, none⟩) ([[101, 110], [103, 122, 105, 112]]).length (([[101, 110], [103, 122, 105, 112]]).length)), rfl, .head _⟩, trivial⟩⟩ Tryd.underlying26 ty_31 rfl rfl rfl rfl (fun g4 => ?_)
 refine jo_run (j := 2) (want := true) rfl rfl (ht1) ?_
 refine j_pub_rowg ?_
 refine jo_callp cal_18 (c_ref26_SameKeys ((parseK [([86, 97, 114, 105, 97, 110, 116, 45, 75, 101, 121], [40, 70, 82, 32, 103, 122, 105, 112, 41, 44, 32, 40, 101, 110, 32, 103, 122, 105, 112, 41, 44, 32, 40, 102, 114, 32, 71, 90, 73, 80, 41])] [([97, 99, 99, 101, 112, 116, 45, 108, 97, 110, 103, 117, 97, 103, 101], [[101, 110], [102, 114]]), ([97, 99, 99, 101, 112, 116, 45, 101, 110, 99, 111, 100, 105, 110, 103], [[103, 122, 105, 112], [105, 100, 101, 110, 116, 105, 116, 121]])]).1) r2 [[[102, 114], [103, 122, 105, 112]], [[101, 110], [103, 122, 105, 112]]] (.slice (some ⟨g4, 0, none⟩) ([[[102, 114], [103, 122, 105, 112]], [[101, 110], [103, 122, 105, 112]]]).length (([[[102, 114], [103, 122, 105, 112]], [[101, 110], [103, 122, 105, 112]]]).length)) (by decide +kernel) (by decide +kernel)) ⟨rfl, rfl, trivial⟩ rfl (⟨⟨rfl, .tail _ (.tail _ (.tail _ (.head _)))⟩, ⟨⟨rfl, .head _⟩, trivial⟩⟩) (fun _ => ?_)
 refine jo_pure rfl (pr_pick_t rfl (ht1) rfl) ?_
 refine jo_pure rfl (pr_assign rfl) (jo_nil (jq_then (jc_ret (j_drop (j_drop ?_)))))
 refine j_drop (j_drop (j_drop (j_drop ?_)))
 exact jq_ret1 rfl () rfl (show (.bool (true) : Value) = (.bool (decide (((parseK [([86, 97, 114, 105, 97, 110, 116, 45, 75, 101, 121], [40, 70, 82, 32, 103, 122, 105, 112, 41, 44, 32, 40, 101, 110, 32, 103, 122, 105, 112, 41, 44, 32, 40, 102, 114, 32, 71, 90, 73, 80, 41])] [([97, 99, 99, 101, 112, 116, 45, 108, 97, 110, 103, 117, 97, 103, 101], [[101, 110], [102, 114]]), ([97, 99, 99, 101, 112, 116, 45, 101, 110, 99, 111, 100, 105, 110, 103], [[103, 122, 105, 112], [105, 100, 101, 110, 116, 105, 116, 121]])]).1) = [[[102, 114], [103, 122, 105, 112]], [[101, 110], [103, 122, 105, 112]]]))) from congrArg Value.bool (by decide +kernel)) (fun _ h => h)

theorem c_law16_VariantkeyKnown (l : List ((List UInt8) × (List UInt8))) (lv : Value) (x : List ((List UInt8) × (List (List UInt8)))) (xv : Value) (hl : l.length ≤ 9223372036854775807) (hlx : x.length ≤ 9223372036854775807) (hmx : ∀ a ∈ x, a.2.length ≤ 9223372036854775807) : Con Tryd.prog 3 #[lv, xv] [.imm (.list (.pair .str .str)) (lv) (l), .imm (.list (.pair .str (.list .str))) (xv) (x)] (fun _ : Unit => .bool (true)) (fun _ => []) := by
 refine con_of_J (args := [lv, xv]) (n := 99) Tryd.func3 rfl (Nat.le_of_ble_eq_true rfl) rfl (fun w0 I0 m0 => ?_)
 show J _ [(0, lv), (1, xv)] [.imm (.list (.pair .str .str)) (lv) (l), .imm (.list (.pair .str (.list .str))) (xv) (x)] _
 refine jc_seq (jc_region (jo_pure rfl (pr_assign rfl) (jo_nil (jq_then (jc_seq ?_)))))
 refine jc_seq (jc_region (jo_pure rfl (pr_move rfl) ?_))
 refine jo_callp cal_4 (c_keep_Fields l lv (by first | omega | exact hl | exact hlx | exact hmx | exact hlen | exact hmem | exact hxm | exact hpl | exact hpm | (exact fun z hz => by have := hmem z hz; omega) | decide)) ⟨rfl, trivial⟩ rfl (⟨⟨rfl, .head _⟩, trivial⟩) (fun _ => ?_)
 refine jo_pure rfl (pr_not rfl) ?_
 refine jo_pure rfl (pr_move rfl) (jo_gpure (j := 3) (want := false) rfl rfl rfl rfl (fun hg => pr_move rfl) ?_)
 refine jo_gcall (j := 3) (want := false) rfl rfl rfl cal_5 (fun hg => c_keep_Axes x xv (by first | omega | exact hl | exact hlx | exact hmx | exact hlen | exact hmem | exact hxm | exact hpl | exact hpm | (exact fun z hz => by have := hmem z hz; omega) | decide) (by first | omega | exact hl | exact hlx | exact hmx | exact hlen | exact hmem | exact hxm | exact hpl | exact hpm | (exact fun z hz => by have := hmem z hz; omega) | decide)) (fun hg => ⟨evg rfl hg, trivial⟩) rfl (fun _ => ⟨⟨rfl, .tail _ (.head _)⟩, trivial⟩) ?_
 refine jo_gpure (j := 3) (want := false) rfl rfl rfl rfl (fun hg => pr_not (evg rfl hg)) ?_
 refine jo_pure rfl (pr_pick_or rfl rfl rfl) ?_
 refine jo_nil (jq_then ?_)
 refine jc_cond rfl (fun h1b => ?_) (fun h1b => ?_)
 ·have h1 := (fun q => Or.imp (fun q => id (bt_not q)) (fun q => id (bt_not q)) (bt_or q)) h1b
  refine jc_seq (jc_region (jo_pure rfl (pr_assign rfl) (jo_nil (jq_then (jc_ret ?_)))))
  refine jq_then_ret (j_drop (j_drop ?_))
  exact jq_ret1 rfl () rfl (show (.bool (true) : Value) = (.bool (true)) from rfl) (fun _ h => h)
 ·have h1 := (fun q => And.imp (fun q => id (bf_not q)) (fun q => id (bf_not q)) (bf_or q)) h1b
  have hkeep : keepF l = true ∧ keepA x = true := by simpa using h1
  have hxl : x.length ≤ 1000 := by have := keepA_len (hkeep.2); omega
  have hxm : ∀ a ∈ x, a.1.length ≤ 1000000 ∧ a.2.length ≤ 1000000 ∧ ∀ z ∈ a.2, z.length ≤ 300000 := fun a ha => by have h9 := keepA_mem (hkeep.2) a ha; exact ⟨by omega, by omega, fun z hz => Nat.le_trans (h9.2.2 z hz) (by omega)⟩
  have hlen : l.length ≤ 1000000 := by have := keepF_len (hkeep.1); omega
  have hmem : ∀ z ∈ l, z.1.length ≤ 300000 ∧ z.2.length ≤ 300000 := fun z hz => by have := keepF_mem (hkeep.1) z hz; omega
  have hpf := parseK_fin l x
  have hpl : (parseK l x).1.length ≤ 9223372036854775807 := by omega
  have hpm : ∀ k ∈ (parseK l x).1, k.length ≤ 9223372036854775807 := fun k hk => by rw [hpf.2 k hk]; omega
  refine jc_skip (jq_then (jc_seq (jc_region (jo_pure rfl (pr_move rfl) (jo_pure rfl (pr_move rfl) ?_)))))
  refine jo_callp cal_6 (c_variantkey_Parse l lv x xv (by first | omega | exact hl | exact hlx | exact hmx | exact hlen | exact hmem | exact hxm | exact hpl | exact hpm | (exact fun z hz => by have := hmem z hz; omega) | decide) (by first | omega | exact hl | exact hlx | exact hmx | exact hlen | exact hmem | exact hxm | exact hpl | exact hpm | (exact fun z hz => by have := hmem z hz; omega) | decide) (by first | omega | exact hl | exact hlx | exact hmx | exact hlen | exact hmem | exact hxm | exact hpl | exact hpm | (exact fun z hz => by have := hmem z hz; omega) | decide) (by first | omega | exact hl | exact hlx | exact hmx | exact hlen | exact hmem | exact hxm | exact hpl | exact hpm | (exact fun z hz => by have := hmem z hz; omega) | decide)) ⟨rfl, rfl, trivial⟩ rfl (⟨⟨rfl, .head _⟩, ⟨⟨rfl, .tail _ (.head _)⟩, trivial⟩⟩) (fun r1 => ?_)
  show J _ _ [.imm (.list (.list .str)) (r1) ((parseK l x).1), .imm (.list (.pair .str .str)) (lv) (l), .imm (.list (.pair .str (.list .str))) (xv) (x)] _
  refine jo_pure rfl (pr_move rfl) (jo_pure rfl (pr_extract rfl rfl) ?_)
  refine jo_pure rfl (pr_extract rfl rfl) ?_
  refine jo_pure rfl (pr_assign rfl) (jo_pure rfl (pr_assign rfl) (jo_nil (jq_then (jc_seq (jc_seq ?_)))))
  refine jc_region (jo_pure rfl (pr_move rfl) (jo_pure rfl (pr_neq (n := 0) rfl rfl) ?_))
  refine jo_nil (jq_then ?_)
  refine jc_cond rfl (fun h2b => ?_) (fun h2b => ?_)
  ·have h2 := (fun q => of_decide_eq_false (bt_not q)) h2b
   have hun := unknown h2
   refine jc_seq (jc_region (jo_pure rfl (pr_move rfl) (jo_pure rfl (pr_len_imm rfl (.head _) Tryd.underlying26) ?_)))
   refine jo_pure rfl (pr_eqlN (m := ((parseK l x).1).length) (n := 0) rfl rfl) ?_
   refine jo_pure rfl (pr_move rfl) (jo_gcall (j := 3) (want := true) rfl rfl rfl cal_7 (fun hg => c_law16_awake) (fun hg => trivial) rfl (fun _ => trivial) ?_)
   refine jo_pure rfl (pr_pick_and rfl rfl rfl) ?_
   refine jo_pure rfl (pr_assign rfl) (jo_nil (jq_then (jc_ret (jq_then_ret (j_drop ?_)))))
   refine j_drop (j_drop ?_)
   exact jq_ret1 rfl () rfl (show (.bool (true) : Value) = (.bool ((decide ((((parseK l x).1).length : Nat) = 0) && true))) from congrArg Value.bool (by rw [hun]; rfl)) (fun _ h => h)
  ·have h2 := (fun q => of_decide_eq_true (bf_not q)) h2b
   have hkn := known h2
   refine jc_skip (jq_then (jc_seq (jc_seq (jc_region (jo_pure rfl (pr_assign rfl) ?_)))))
   refine jo_nil (jq_then (jc_block ?_))
   refine jc_loop (fun (i : Nat) => [(0, lv), (1, xv), (5, r1), (7, .int .i64 ((i : Nat) : Int))]) (fun (i : Nat) => [.imm (.list (.list .str)) (r1) ((parseK l x).1), .imm (.list (.pair .str .str)) (lv) (l), .imm (.list (.pair .str (.list .str))) (xv) (x)]) (fun (i : Nat) => i ≤ (parseK l x).1.length) (fun (i : Nat) => (parseK l x).1.length - i) 0 (Nat.zero_le _) (⟨rfl, rfl, rfl, rfl, trivial⟩) (fun _ h => h) (fun i hinv => ?_)
   refine jc_seq (jc_seq (jc_region (jo_pure rfl (pr_move rfl) (jo_pure rfl (pr_move rfl) (jo_pure rfl (pr_len_imm rfl (.head _) Tryd.underlying26) ?_)))))
   refine jo_pure rfl (pr_lssN (m := i) (n := ((parseK l x).1).length) rfl rfl) ?_
   refine jo_nil (jq_then ?_)
   refine jc_cond rfl (fun h3b => ?_) (fun h3b => ?_)
   ·have h3 := of_decide_eq_true h3b
    have hof := hkn.2.2.1 _ (getD_mem (dd := []) h3)
    refine jc_skip (jq_then (jc_seq (jc_block (jc_seq (jc_seq ?_)))))
    refine jc_region (jo_pure rfl (pr_move rfl) (jo_pure rfl (pr_move rfl) ?_))
    refine j_open_elem (t := (.list .str)) (i := i) [] (.head _) (by first | omega | (simp at hg; omega)) (fun e1 => ?_)
    show J _ _ (.imm (.list .str) (e1) ((((parseK l x).1).getD i [])) :: .fact (fun w_ I_ => ElemAt w_ I_ (r1) (i) 1 [e1]) :: _) _
    refine jo_pure rfl (pr_idx_imm (i := i) rfl (.tail _ (.tail _ (.head _))) rfl Tryd.underlying26 ty_31 (by first | omega | (simp at hg; omega))) ?_
    refine jo_pure rfl (pr_load_at (e1) rfl (.tail _ (.head _)) ty_31 (by decide) rfl) ?_
    refine jo_pure rfl (pr_len_imm rfl (.head _) Tryd.underlying31) ?_
    refine jo_pure rfl (pr_move rfl) (jo_pure rfl (pr_len_imm rfl (.tail _ (.tail _ (.tail _ (.tail _ (.head _))))) Tryd.underlying23) ?_)
    refine jo_pure rfl (pr_neqN (m := (((parseK l x).1).getD i []).length) (n := x.length) rfl rfl) ?_
    refine jo_nil (jq_then ?_)
    refine jc_cond rfl (fun h4b => ?_) (fun h4b => ?_)
    ·have h4 := (fun q => of_decide_eq_false (bt_not q)) h4b
     exact absurd hof.1 h4
    ·have h4 := (fun q => of_decide_eq_true (bf_not q)) h4b
     refine jc_skip (jq_then (jc_seq (jc_region (jo_pure rfl (pr_assign rfl) (jo_nil ?_)))))
     refine jq_then (jc_block ?_)
     refine jc_loop (fun (k : Nat) => [(0, lv), (1, xv), (5, r1), (7, .int .i64 ((i : Nat) : Int)), (8, .int .i64 ((k : Nat) : Int))]) (fun (k : Nat) => [.imm (.list .str) (e1) ((((parseK l x).1).getD i [])), .fact (fun w_ I_ => ElemAt w_ I_ (r1) (i) 1 [e1]), .imm (.list (.list .str)) (r1) ((parseK l x).1), .imm (.list (.pair .str .str)) (lv) (l), .imm (.list (.pair .str (.list .str))) (xv) (x)]) (fun (k : Nat) => k ≤ x.length) (fun (k : Nat) => x.length - k) 0 (Nat.zero_le _) (⟨rfl, rfl, rfl, rfl, rfl, trivial⟩) (fun _ h => h) (fun k hinK => ?_)
     refine jc_seq (jc_seq (jc_region (jo_pure rfl (pr_move rfl) (jo_pure rfl (pr_move rfl) (jo_pure rfl (pr_len_imm rfl (.tail _ (.tail _ (.tail _ (.tail _ (.head _))))) Tryd.underlying23) ?_)))))
     refine jo_pure rfl (pr_lssN (m := k) (n := x.length) rfl rfl) ?_
     refine jo_nil (jq_then ?_)
     refine jc_cond rfl (fun h5b => ?_) (fun h5b => ?_)
     ·have h5 := of_decide_eq_true h5b
      have hAk := hxm _ (getD_mem (dd := ([], [])) h5)
      refine jc_skip (jq_then (jc_seq (jc_block (jc_seq (jc_region ?_)))))
      refine jo_pure rfl (pr_assign rfl) (jo_nil (jq_then (jc_seq (jc_seq (jc_region ?_)))))
      refine jo_pure rfl (pr_assign rfl) (jo_nil (jq_then (jc_block ?_)))
      refine jc_loop2 (fun (j : Nat) (fd : Bool) => [(0, lv), (1, xv), (5, r1), (7, .int .i64 ((i : Nat) : Int)), (8, .int .i64 ((k : Nat) : Int)), (9, .bool (fd)), (10, .int .i64 ((j : Nat) : Int))]) (fun (j : Nat) (fd : Bool) => [.imm (.list .str) (e1) ((((parseK l x).1).getD i [])), .fact (fun w_ I_ => ElemAt w_ I_ (r1) (i) 1 [e1]), .imm (.list (.list .str)) (r1) ((parseK l x).1), .imm (.list (.pair .str .str)) (lv) (l), .imm (.list (.pair .str (.list .str))) (xv) (x)]) (fun (j : Nat) (fd : Bool) => j ≤ (x.getD k ([], [])).2.length ∧ fd = ((x.getD k ([], [])).2.take j).any (fun v => decide (v = ((parseK l x).1.getD i []).getD k []))) (fun (j : Nat) (fd : Bool) => (x.getD k ([], [])).2.length - j) 0 false (⟨Nat.zero_le _, rfl⟩) (⟨rfl, rfl, rfl, rfl, rfl, rfl, rfl, trivial⟩) (fun _ h => h) (fun j fd hinJ => ?_)
      refine jc_seq (jc_seq (jc_region (jo_pure rfl (pr_move rfl) (jo_pure rfl (pr_move rfl) (jo_pure rfl (pr_move rfl) ?_)))))
      refine j_open_elem (t := (.pair .str (.list .str))) (i := k) ([], []) (.tail _ (.tail _ (.tail _ (.tail _ (.head _))))) (by first | omega | (simp at hg; omega)) (fun ⟨_, e2⟩ => ?_)
      show J _ _ (.imm (.list .str) (e2) (((x.getD k ([], []))).2) :: .fact (fun w_ I_ => ElemAt w_ I_ (xv) (k) 2 [str (((x.getD k ([], []))).1), e2]) :: _) _
      refine jo_pure rfl (pr_idx_imm (i := k) rfl (.tail _ (.tail _ (.tail _ (.tail _ (.tail _ (.tail _ (.head _))))))) rfl Tryd.underlying23 ty_33 (by first | omega | (simp at hg; omega))) ?_
      refine jo_pure rfl (pr_fieldAddr_imm (i := k) rfl (.tail _ (.tail _ (.tail _ (.tail _ (.tail _ (.tail _ (.head _))))))) Tryd.underlying33 rfl ty_31 rfl rfl (by first | omega | (simp at hg; omega))) ?_
      refine jo_pure rfl (pr_load_off_at (o := 1) (e2) rfl (.tail _ (.head _)) ty_31 (by decide) rfl rfl) ?_
      refine jo_pure rfl (pr_len_imm rfl (.head _) Tryd.underlying31) ?_
      refine jo_pure rfl (pr_lssN (m := j) (n := (((x.getD k ([], []))).2).length) rfl rfl) ?_
      refine jo_nil (jq_then ?_)
      refine jc_cond rfl (fun h6b => ?_) (fun h6b => ?_)
      ·have h6 := of_decide_eq_true h6b
       refine jc_skip (jq_then (jc_seq (jc_block (jc_draws mixed (by kernel_rfl) (jd_pure rfl (pr_move rfl) ?_)))))
       refine jd_pure rfl (pr_move rfl) ?_
       refine jd_gpure (j := 1) (want := false) rfl rfl rfl rfl (fun hg => pr_move rfl) ?_
       refine jd_gpure (j := 1) (want := false) rfl rfl rfl rfl (fun hg => pr_move rfl) ?_
       refine jd_gpure (j := 1) (want := false) rfl rfl rfl rfl (fun hg => pr_idx_imm (i := k) (evg rfl hg) (.tail _ (.tail _ (.tail _ (.tail _ (.tail _ (.tail _ (.head _))))))) (evg rfl hg) Tryd.underlying23 ty_33 (by first | omega | (simp at hg; omega))) ?_
       refine jd_gpure (j := 1) (want := false) rfl rfl rfl rfl (fun hg => pr_fieldAddr_imm (i := k) (evg rfl hg) (.tail _ (.tail _ (.tail _ (.tail _ (.tail _ (.tail _ (.head _))))))) Tryd.underlying33 rfl ty_31 rfl rfl (by first | omega | (simp at hg; omega))) ?_
       refine jd_gpure (j := 1) (want := false) rfl rfl rfl rfl (fun hg => pr_load_off_at (o := 1) (e2) (evg rfl hg) (.tail _ (.head _)) ty_31 (by decide) rfl rfl) ?_
       refine jd_gpure (j := 1) (want := false) rfl rfl rfl rfl (fun hg => pr_move rfl) ?_
       refine jd_gpure (j := 1) (want := false) rfl rfl rfl rfl (fun hg => pr_idx_imm (i := j) (evg rfl hg) (.head _) (evg rfl hg) Tryd.underlying31 ty_9 (by first | omega | (simp at hg; omega))) ?_
       refine jd_gpure (j := 1) (want := false) rfl rfl rfl rfl (fun hg => pr_load_elem_imm (i := j) (str ((((x.getD k ([], []))).2).getD j [])) (evg rfl hg) (.head _) ty_9 rfl rfl (by first | omega | (simp at hg; omega)) rfl) ?_
       refine jd_gpure (j := 1) (want := false) rfl rfl rfl rfl (fun hg => pr_move rfl) ?_
       refine jd_gpure (j := 1) (want := false) rfl rfl rfl rfl (fun hg => pr_move rfl) ?_
       refine jd_gpure (j := 1) (want := false) rfl rfl rfl rfl (fun hg => pr_idx_imm (i := i) (evg rfl hg) (.tail _ (.tail _ (.tail _ (.tail _ (.head _))))) (evg rfl hg) Tryd.underlying26 ty_31 (by first | omega | (simp at hg; omega))) ?_
       refine jd_gpure (j := 1) (want := false) rfl rfl rfl rfl (fun hg => pr_load_at (e1) (evg rfl hg) (.tail _ (.tail _ (.tail _ (.head _)))) ty_31 (by decide) rfl) ?_
       refine jd_gpure (j := 1) (want := false) rfl rfl rfl rfl (fun hg => pr_move rfl) ?_
       refine jd_gpure (j := 1) (want := false) rfl rfl rfl rfl (fun hg => pr_idx_imm (i := k) (evg rfl hg) (.tail _ (.tail _ (.head _))) (evg rfl hg) Tryd.underlying31 ty_9 (by first | omega | (simp at hg; omega))) ?_
       refine jd_gpure (j := 1) (want := false) rfl rfl rfl rfl (fun hg => pr_load_elem_imm (i := k) (str ((((parseK l x).1).getD i []).getD k [])) (evg rfl hg) (.tail _ (.tail _ (.head _))) ty_9 rfl rfl (by first | omega | (simp at hg; omega)) rfl) ?_
       refine jd_gpure (j := 1) (want := false) rfl rfl rfl rfl (fun hg => pr_seql (evg rfl hg) (evg rfl hg)) ?_
       refine jd_pure rfl (pr_pick_or rfl rfl rfl) ?_
       refine jd_pure rfl (pr_assign rfl) ?_
       refine jd_nil ?_
       refine jq_in_normal (jq_then (jc_region (jo_pure rfl (pr_move rfl) (jo_pure rfl (pr_addN (m := j) (n := 1) rfl rfl (by omega)) ?_))))
       refine jo_pure rfl (pr_assign rfl) (jo_nil (j_drop (j_drop (j_pull4 ?_))))
       refine j_pull4 ?_
       refine j_pull4 ?_
       refine j_pull4 ?_
       refine j_pull4 ?_
       refine jq_round' ((j + 1), (fd || decide (((((x.getD k ([], []))).2).getD j [] : List UInt8) = (((parseK l x).1).getD i []).getD k []))) (by (try dsimp only); exact (⟨by omega, by rw [any_next (dd := []) h6, hinJ.2]⟩)) (by (try dsimp only); exact (by omega)) ⟨rfl, rfl, rfl, rfl, rfl, rfl, rfl, trivial⟩ (fun _ h => h)
      ·have h6 := of_decide_eq_false h6b
       refine jc_exit ?_
       refine jq_then_exit ?_
       refine jq_then_exit ?_
       refine jq_in_hit ?_
       refine jq_then (jc_seq (jc_region (jo_pure rfl (pr_move rfl) (jo_pure rfl (pr_not rfl) ?_))))
       refine jo_nil (jq_then ?_)
       refine jc_cond rfl (fun h7b => ?_) (fun h7b => ?_)
       ·have h7 := (fun q => id (bt_not q)) h7b
        exact absurd h7 (fun e => found_last hof h5 (by rw [hinJ.2, take_over (by omega)] at e; exact e))
       ·have h7 := (fun q => id (bf_not q)) h7b
        refine jc_skip (jq_in_normal (jq_then (jc_region (jo_pure rfl (pr_move rfl) (jo_pure rfl (pr_addN (m := k) (n := 1) rfl rfl (by omega)) ?_)))))
        refine jo_pure rfl (pr_assign rfl) (jo_nil (j_drop (j_drop (j_pull4 ?_))))
        refine j_pull4 ?_
        refine j_pull4 ?_
        refine j_pull4 ?_
        refine j_pull4 ?_
        refine jq_round' (k + 1) (by (try dsimp only); exact (by omega)) (by (try dsimp only); exact (by omega)) ⟨rfl, rfl, rfl, rfl, rfl, trivial⟩ (fun _ h => h)
     ·have h5 := of_decide_eq_false h5b
      refine jc_exit ?_
      refine jq_then_exit ?_
      refine jq_then_exit ?_
      refine jq_in_hit ?_
      refine jq_in_normal (jq_then (jc_region (jo_pure rfl (pr_move rfl) (jo_pure rfl (pr_addN (m := i) (n := 1) rfl rfl (by omega)) ?_))))
      refine jo_pure rfl (pr_assign rfl) (jo_nil (j_drop (j_drop (j_pull2 (j_pull2 ?_)))))
      refine j_pull2 ?_
      refine jq_round' (i + 1) (by (try dsimp only); exact (by omega)) (by (try dsimp only); exact (by omega)) ⟨rfl, rfl, rfl, rfl, trivial⟩ (fun _ h => h)
   ·have h3 := of_decide_eq_false h3b
    refine jc_exit ?_
    refine jq_then_exit ?_
    refine jq_then_exit ?_
    refine jq_in_hit ?_
    refine jq_then (jc_seq (jc_region (jo_pure rfl (pr_move rfl) (jo_pure rfl (pr_len_imm rfl (.head _) Tryd.underlying26) ?_))))
    refine jo_pure rfl (pr_gtrN (m := ((parseK l x).1).length) (n := 0) rfl rfl) ?_
    refine jo_pure rfl (pr_move rfl) (jo_gpure (j := 3) (want := true) rfl rfl rfl rfl (fun hg => pr_move rfl) ?_)
    refine jo_gpure (j := 3) (want := true) rfl rfl rfl rfl (fun hg => pr_len_imm (evg rfl hg) (.head _) Tryd.underlying26) ?_
    refine jo_gpure (j := 3) (want := true) rfl rfl rfl rfl (fun hg => pr_leqN (m := ((parseK l x).1).length) (n := 64) (evg rfl hg) rfl) ?_
    refine jo_pure rfl (pr_pick_and rfl rfl rfl) ?_
    refine jo_pure rfl (pr_move rfl) (jo_gpure (j := 8) (want := true) rfl rfl rfl rfl (fun hg => pr_move rfl) ?_)
    refine jo_gcall (j := 8) (want := true) rfl rfl rfl cal_8 (fun hg => c_ref01_Has l lv [86, 97, 114, 105, 97, 110, 116, 45, 75, 101, 121] (by first | omega | exact hl | exact hlx | exact hmx | exact hlen | exact hmem | exact hxm | exact hpl | exact hpm | (exact fun z hz => by have := hmem z hz; omega) | decide) (by first | omega | exact hl | exact hlx | exact hmx | exact hlen | exact hmem | exact hxm | exact hpl | exact hpm | (exact fun z hz => by have := hmem z hz; omega) | decide) (by first | omega | exact hl | exact hlx | exact hmx | exact hlen | exact hmem | exact hxm | exact hpl | exact hpm | (exact fun z hz => by have := hmem z hz; omega) | decide)) (fun hg => ⟨evg rfl hg, rfl, trivial⟩) rfl (fun _ => ⟨⟨rfl, .tail _ (.head _)⟩, trivial⟩) ?_
    refine jo_pure rfl (pr_pick_and rfl rfl rfl) ?_
    refine jo_pure rfl (pr_move rfl) (jo_gcall (j := 12) (want := true) rfl rfl rfl cal_7 (fun hg => c_law16_awake) (fun hg => trivial) rfl (fun _ => trivial) ?_)
    refine jo_pure rfl (pr_pick_and rfl rfl rfl) ?_
    refine jo_pure rfl (pr_assign rfl) (jo_nil (jq_then (jc_ret (j_drop (j_drop ?_)))))
    refine j_drop ?_
    exact jq_ret1 rfl () rfl (show (.bool (true) : Value) = (.bool ((((decide ((0 : Nat) < ((parseK l x).1).length) && decide ((((parseK l x).1).length : Nat) ≤ 64)) && decide (0 < (getF l [86, 97, 114, 105, 97, 110, 116, 45, 75, 101, 121]).length)) && true))) from congrArg Value.bool (by have h98 : 0 < (parseK l x).1.length := List.length_pos_iff.2 hkn.1; have h97 : 0 < (getF l sVariantKey).length := Nat.pos_of_ne_zero hkn.2.2.2; rw [decide_eq_true h98, decide_eq_true hkn.2.1, show decide (0 < (getF l [86, 97, 114, 105, 97, 110, 116, 45, 75, 101, 121]).length) = true from decide_eq_true h97]; rfl)) (fun _ h => h)
end Go.Proofs.YtgahnjchpomcfaaDoor
