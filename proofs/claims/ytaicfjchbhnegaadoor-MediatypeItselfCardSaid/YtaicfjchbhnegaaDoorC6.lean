/-
  Contracts of functions of the program: each returns what a plain function says, for every input within the bounds named. Conditions: the bounds.
-/
import Derived.Test.YtaicfjchbhnegaaDoorRows
import Derived.Test.YtaicfjchbhnegaaDoorC5
import Derived.Test.YtaicfjchbhnegaaDoorSepM
import Derived.Test.YtaicfjchbhnegaaDoorLaw03D
namespace Go.Proofs.YtaicfjchbhnegaaDoor
open Go Go.Sep
set_option linter.unusedSimpArgs false
set_option linter.unusedVariables false

open Go.Plain

theorem cal_32 : Cal Tryd.prog 32 := cal_of Tryd.func32 (by kernel_rfl) rfl
theorem cal_33 : Cal Tryd.prog 33 := cal_of Tryd.func33 (by kernel_rfl) rfl
theorem cal_34 : Cal Tryd.prog 34 := cal_of Tryd.func34 (by kernel_rfl) rfl
theorem cal_35 : Cal Tryd.prog 35 := cal_of Tryd.func35 (by kernel_rfl) rfl
theorem cal_36 : Cal Tryd.prog 36 := cal_of Tryd.func36 (by kernel_rfl) rfl
theorem cal_73 : Cal Tryd.prog 73 := cal_of Tryd.func73 (by kernel_rfl) rfl
theorem ty_29 : TyF Tryd.prog 29 false 1 8 (some (.nilFunc)) := ⟨by kernel_rfl, by kernel_rfl⟩

theorem c_ref26_SameFields (a : List ((List UInt8) × (List UInt8))) (av : Value) (b : List ((List UInt8) × (List UInt8))) (bv : Value) (hl : a.length ≤ 9223372036854775807) : Con Tryd.prog 32 #[av, bv] [.imm (.list (.pair .str .str)) (av) (a), .imm (.list (.pair .str .str)) (bv) (b)] (fun _ : Unit => .bool (decide (a = b))) (fun _ => []) := by
  refine con_of_J (args := [av, bv]) (n := 26) Tryd.func32 rfl (Nat.le_of_ble_eq_true rfl) rfl (fun w0 I0 m0 => ?_)
  show J _ [(0, av), (1, bv)] [.imm (.list (.pair .str .str)) (av) (a), .imm (.list (.pair .str .str)) (bv) (b)] _
  refine jc_seq ?_
  refine jc_region ?_
  refine jo_pure rfl (pr_assign rfl) ?_
  refine jo_nil ?_
  refine jq_then ?_
  refine jc_seq ?_
  refine jc_seq ?_
  refine jc_region ?_
  refine jo_pure rfl (pr_move rfl) ?_
  refine jo_pure rfl (pr_len_imm rfl (.head _) Tryd.underlying31) ?_
  refine jo_pure rfl (pr_move rfl) ?_
  refine jo_pure rfl (pr_len_imm rfl (.tail _ (.head _)) Tryd.underlying31) ?_
  refine jo_pure rfl (pr_neqN (m := a.length) (n := b.length) rfl rfl) ?_
  refine jo_nil ?_
  refine jq_then ?_
  refine jc_cond rfl (fun h1b => ?_) (fun h1b => ?_)
  · have h1 := (fun q => of_decide_eq_false (bt_not q)) h1b
    refine jc_seq ?_
    refine jc_region ?_
    refine jo_pure rfl (pr_assign rfl) ?_
    refine jo_nil ?_
    refine jq_then ?_
    refine jc_ret ?_
    refine jq_then_ret ?_
    refine j_drop ?_
    refine j_drop ?_
    exact jq_ret1 rfl () rfl (show (_ : Value) = (.bool (false)) from congrArg Value.bool (decide_eq_false (fun e => by rw [e] at h1; simp at h1))) (fun _ h => h)
  · have h1 := (fun q => of_decide_eq_true (bf_not q)) h1b
    have hlen : a.length = b.length := by simpa using h1
    refine jc_skip ?_
    refine jq_then ?_
    refine jc_seq ?_
    refine jc_seq ?_
    refine jc_region ?_
    refine jo_pure rfl (pr_assign rfl) ?_
    refine jo_nil ?_
    refine jq_then ?_
    refine jc_block ?_
    refine jc_loop (fun (i : Nat) => [(0, av), (1, bv), (5, .int .i64 ((i : Nat) : Int))]) (fun (i : Nat) => [.imm (.list (.pair .str .str)) (av) (a), .imm (.list (.pair .str .str)) (bv) (b)]) (fun (i : Nat) => i ≤ a.length ∧ a.take i = b.take i) (fun (i : Nat) => a.length - i) 0 (⟨Nat.zero_le _, rfl⟩) (⟨rfl, rfl, rfl, trivial⟩) (fun _ h => h) (fun i hinv => ?_)
    refine jc_seq ?_
    refine jc_seq ?_
    refine jc_region ?_
    refine jo_pure rfl (pr_move rfl) ?_
    refine jo_pure rfl (pr_move rfl) ?_
    refine jo_pure rfl (pr_len_imm rfl (.head _) Tryd.underlying31) ?_
    refine jo_pure rfl (pr_lssN (m := i) (n := a.length) rfl rfl) ?_
    refine jo_nil ?_
    refine jq_then ?_
    refine jc_cond rfl (fun h2b => ?_) (fun h2b => ?_)
    · have h2 := of_decide_eq_true h2b
      refine jc_skip ?_
      refine jq_then ?_
      refine jc_seq ?_
      refine jc_block ?_
      refine jc_seq ?_
      refine jc_draws mixed (by kernel_rfl) ?_
      refine jd_pure rfl (pr_move rfl) ?_
      refine jd_pure rfl (pr_move rfl) ?_
      refine jd_pure rfl (pr_idx_imm (i := i) rfl (.head _) rfl Tryd.underlying31 ty_23 (by omega)) ?_
      refine jd_pure rfl (pr_load_elem_imm (i := i) (.agg #[str ((a.getD i ([], [])).1), str ((a.getD i ([], [])).2)]) rfl (.head _) ty_23 rfl rfl (by omega) rfl) ?_
      refine jd_pure rfl (pr_move rfl) ?_
      refine jd_pure rfl (pr_move rfl) ?_
      refine jd_pure rfl (pr_idx_imm (i := i) rfl (.tail _ (.head _)) rfl Tryd.underlying31 ty_23 (by omega)) ?_
      refine jd_pure rfl (pr_load_elem_imm (i := i) (.agg #[str ((b.getD i ([], [])).1), str ((b.getD i ([], [])).2)]) rfl (.tail _ (.head _)) ty_23 rfl rfl (by omega) rfl) ?_
      refine jd_pure rfl (pr_neq_ss rfl rfl Tryd.underlying23 (by kernel_rfl) (by kernel_rfl) (by decide) (by decide) rfl rfl Tryd.underlying9 Tryd.underlying9 ty_9 ty_9) ?_
      refine jd_nil ?_
      refine jq_then ?_
      refine jc_cond rfl (fun h3b => ?_) (fun h3b => ?_)
      · have h3 := (fun q => (fun q => Or.imp of_decide_eq_false of_decide_eq_false (bf_and q)) (bt_not q)) h3b
        refine jc_seq ?_
        refine jc_region ?_
        refine jo_pure rfl (pr_assign rfl) ?_
        refine jo_nil ?_
        refine jq_then ?_
        refine jc_ret ?_
        refine jq_in_ret ?_
        refine jq_then_ret ?_
        refine jq_then_ret ?_
        refine jq_in_ret ?_
        refine jq_then_ret ?_
        refine j_drop ?_
        refine j_drop ?_
        exact jq_ret1 rfl () rfl (show (_ : Value) = (.bool (false)) from congrArg Value.bool (decide_eq_false (fun e => by rw [e] at h3; simp at h3))) (fun _ h => h)
      · have h3 := (fun q => (fun q => And.imp of_decide_eq_true of_decide_eq_true (bt_and q)) (bf_not q)) h3b
        refine jc_skip ?_
        refine jq_in_normal ?_
        refine jq_then ?_
        refine jc_region ?_
        refine jo_pure rfl (pr_move rfl) ?_
        refine jo_pure rfl (pr_addN (m := i) (n := 1) rfl rfl (by omega)) ?_
        refine jo_pure rfl (pr_assign rfl) ?_
        refine jo_nil ?_
        refine j_pull1 ?_
        refine j_pull1 ?_
        refine jq_round' (i + 1) (by (try dsimp only); exact (⟨by omega, take_eq_step (dd := ([], [])) h2 (by omega) hinv.2 (Prod.ext h3.1 h3.2)⟩)) (by (try dsimp only); exact (by omega)) ⟨rfl, rfl, rfl, trivial⟩ (fun _ h => h)
    · have h2 := of_decide_eq_false h2b
      refine jc_exit ?_
      refine jq_then_exit ?_
      refine jq_then_exit ?_
      refine jq_in_hit ?_
      refine jq_then ?_
      refine jc_seq ?_
      refine jc_region ?_
      refine jo_pure rfl (pr_assign rfl) ?_
      refine jo_nil ?_
      refine jq_then ?_
      refine jc_ret ?_
      refine j_drop ?_
      refine j_drop ?_
      exact jq_ret1 rfl () rfl (show (_ : Value) = (.bool (true)) from congrArg Value.bool (decide_eq_true (by have := hinv.2; rwa [List.take_of_length_le (by omega), List.take_of_length_le (by omega)] at this))) (fun _ h => h)

theorem c_remove_1 (f : (List UInt8) × (List UInt8)) (nm : List UInt8) (nmb : Nat) (isb : Nat) (hf : f.1.length ≤ 1000000) : Con Tryd.prog 73 #[.agg #[str (f.1), str (f.2)], .pointer (some ⟨isb, 0, none⟩)] [.ibox nmb 9 [str (nm)], .ibox isb 29 [.func (.func 89) #[] #[.pointer (some ⟨nmb, 0, none⟩)]]] (fun _ : Unit => .bool (!namedB nm f)) (fun _ => []) := by
  refine con_of_J (args := [.agg #[str (f.1), str (f.2)], .pointer (some ⟨isb, 0, none⟩)]) (n := 8) Tryd.func73 rfl (Nat.le_of_ble_eq_true rfl) rfl (fun w0 I0 m0 => ?_)
  show J _ [(0, .agg #[str (f.1), str (f.2)]), (1, .pointer (some ⟨isb, 0, none⟩))] [.ibox nmb 9 [str (nm)], .ibox isb 29 [.func (.func 89) #[] #[.pointer (some ⟨nmb, 0, none⟩)]]] _
  refine jc_seq ?_
  refine jc_region ?_
  refine jo_box rfl [str (f.1), str (f.2)] rfl rfl (fun b1 => ?_)
  refine jo_pure rfl (pr_assign rfl) ?_
  refine jo_nil ?_
  refine jq_then ?_
  refine jc_seq ?_
  refine jc_region ?_
  refine jo_pure rfl (pr_load_ibox (.func (.func 89) #[] #[.pointer (some ⟨nmb, 0, none⟩)]) rfl ty_29 (.tail _ (.tail _ (.head _))) rfl (by decide) rfl) ?_
  refine jo_pure rfl (pr_load_box (.agg #[str (f.1), str (f.2)]) rfl ty_23 (.head _) rfl (by decide) rfl) ?_
  refine jo_callvp (fi := []) (vs := [.agg #[str (f.1), str (f.2)]]) (ca := [.pointer (some ⟨nmb, 0, none⟩)]) rfl cal_89 (c_named_1 f nm nmb (by omega)) ⟨rfl, trivial⟩ rfl (⟨⟨rfl, .tail _ (.head _)⟩, trivial⟩) (fun _ => ?_)
  refine jo_pure rfl (pr_not rfl) ?_
  refine jo_pure rfl (pr_assign rfl) ?_
  refine jo_nil ?_
  refine jq_then ?_
  refine jc_ret ?_
  refine j_drop ?_
  refine j_drop ?_
  refine j_drop ?_
  exact jq_ret1 rfl () rfl (show (_ : Value) = (.bool ((!namedB nm f))) from rfl) (fun _ h => h)

theorem c_filter_remove (l : List ((List UInt8) × (List UInt8))) (lv : Value) (nm : List UInt8) (nmb : Nat) (isb : Nat) (hl : l.length ≤ 1000000) (hm : ∀ x ∈ l, x.1.length ≤ 1000000) : Con Tryd.prog 71 #[lv, .func (.func 73) #[] #[.pointer (some ⟨isb, 0, none⟩)]] [.imm (.list (.pair .str .str)) (lv) (l), .ibox nmb 9 [str (nm)], .ibox isb 29 [.func (.func 89) #[] #[.pointer (some ⟨nmb, 0, none⟩)]]] (fun r1 : Value => r1) (fun r1 => [.row r1 23 (.pair .str .str) (l.filter (fun f => !namedB nm f))]) := by
  refine con_of_J (args := [lv, .func (.func 73) #[] #[.pointer (some ⟨isb, 0, none⟩)]]) (n := 23) Tryd.func71 rfl (Nat.le_of_ble_eq_true rfl) rfl (fun w0 I0 m0 => ?_)
  show J _ [(0, lv), (1, .func (.func 73) #[] #[.pointer (some ⟨isb, 0, none⟩)])] [.imm (.list (.pair .str .str)) (lv) (l), .ibox nmb 9 [str (nm)], .ibox isb 29 [.func (.func 89) #[] #[.pointer (some ⟨nmb, 0, none⟩)]]] _
  refine jc_seq ?_
  refine jc_region ?_
  refine jo_pure rfl (pr_assign rfl) ?_
  refine jo_nil ?_
  refine jq_then ?_
  refine jc_seq ?_
  refine jc_region ?_
  refine jo_pure rfl (pr_assign rfl) ?_
  refine jo_nil ?_
  refine jq_then ?_
  refine jc_seq ?_
  refine jc_seq ?_
  refine jc_region ?_
  refine jo_pure rfl (pr_move rfl) ?_
  refine jo_pure rfl (pr_len_imm rfl (.head _) Tryd.underlying31) ?_
  refine jo_pure rfl (pr_move rfl) ?_
  refine jo_nil ?_
  refine jq_then ?_
  refine jc_block ?_
  refine j_nil_row 23 (.pair .str .str) ?_
  refine jc_loop3 (fun (i : Nat) (v : Value) (acc : List Fld) => [(1, .func (.func 73) #[] #[.pointer (some ⟨isb, 0, none⟩)]), (5, v), (8, lv), (9, .int .i64 ((l.length : Nat) : Int)), (10, .int .i64 ((i : Nat) : Int))]) (fun (i : Nat) (v : Value) (acc : List Fld) => [.row (v) 23 (.pair .str .str) (acc), .imm (.list (.pair .str .str)) (lv) (l), .ibox nmb 9 [str (nm)], .ibox isb 29 [.func (.func 89) #[] #[.pointer (some ⟨nmb, 0, none⟩)]]]) (fun (i : Nat) (v : Value) (acc : List Fld) => i ≤ l.length ∧ acc.length ≤ i ∧ acc = (l.take i).filter (fun f => !namedB nm f)) (fun (i : Nat) (v : Value) (acc : List Fld) => l.length - i) 0 (.slice none 0 0) [] (⟨Nat.zero_le _, Nat.le_refl _, rfl⟩) (⟨rfl, rfl, rfl, rfl, rfl, trivial⟩) (fun _ h => h) (fun i v acc hinv => ?_)
  refine jc_seq ?_
  refine jc_region ?_
  refine jo_pure rfl (pr_lssN (m := i) (n := l.length) rfl rfl) ?_
  refine jo_nil ?_
  refine jq_then ?_
  refine jc_seq ?_
  refine jc_cond rfl (fun h1b => ?_) (fun h1b => ?_)
  · have h1 := of_decide_eq_true h1b
    refine jc_skip ?_
    refine jq_then ?_
    refine jc_seq ?_
    refine jc_block ?_
    refine jc_seq ?_
    refine jc_region ?_
    refine jo_pure rfl (pr_idx_imm (i := i) rfl (.tail _ (.head _)) rfl Tryd.underlying31 ty_23 (by omega)) ?_
    refine jo_pure rfl (pr_load_elem_imm (i := i) (.agg #[str ((l.getD i ([], [])).1), str ((l.getD i ([], [])).2)]) rfl (.tail _ (.head _)) ty_23 rfl rfl (by omega) rfl) ?_
    refine jo_alloc ty_23 [str ([]), str ([])] rfl rfl (fun b1 => ?_)
    refine jo_store rfl rfl ty_23 [str ((l.getD i ([], [])).1), str ((l.getD i ([], [])).2)] rfl rfl rfl [str ((l.getD i ([], [])).1), str ((l.getD i ([], [])).2)] rfl rfl ?_
    refine jo_nil ?_
    refine jq_then ?_
    refine jc_seq ?_
    refine jc_region ?_
    refine jo_pure rfl (pr_move rfl) ?_
    refine jo_pure rfl (pr_load_box (.agg #[str ((l.getD i ([], [])).1), str ((l.getD i ([], [])).2)]) rfl ty_23 (.head _) rfl (by decide) rfl) ?_
    refine jo_callvp (fi := []) (vs := [.agg #[str ((l.getD i ([], [])).1), str ((l.getD i ([], [])).2)]]) (ca := [.pointer (some ⟨isb, 0, none⟩)]) rfl cal_73 (c_remove_1 (l.getD i ([], [])) nm nmb isb (hm _ (getD_mem h1))) ⟨rfl, trivial⟩ rfl (⟨⟨rfl, .tail _ (.tail _ (.tail _ (.head _)))⟩, ⟨⟨rfl, .tail _ (.tail _ (.tail _ (.tail _ (.head _))))⟩, trivial⟩⟩) (fun _ => ?_)
    refine jo_nil ?_
    refine jq_then ?_
    refine jc_cond rfl (fun h2b => ?_) (fun h2b => ?_)
    · have h2 := id h2b
      refine jc_region ?_
      refine jo_pure rfl (pr_move rfl) ?_
      refine jo_pure rfl (pr_load_box (.agg #[str ((l.getD i ([], [])).1), str ((l.getD i ([], [])).2)]) rfl ty_23 (.head _) rfl (by decide) rfl) ?_
      refine jo_buildSlice (t := (.pair .str .str)) [(l.getD i ([], []))] [.agg #[str ((l.getD i ([], [])).1), str ((l.getD i ([], [])).2)]] (fun a hf => by simp only [List.zipIdx_cons, List.zipIdx_nil, List.map_toArray, List.map_cons, List.map_nil, hf.ev (show ev _ (.tmp 18) = some (.agg #[str ((l.getD i ([], [])).1), str ((l.getD i ([], [])).2)]) from rfl)]) rfl Tryd.underlying31 ty_23 rfl rfl rfl rfl rfl (fun g1 => ?_)
      refine j_pull2 ?_
      refine jo_append rfl rfl Tryd.underlying31 ty_23 rfl (by simp only [List.length_cons, List.length_nil, maxLen]; omega) (by simp only [List.length_cons, List.length_nil]; omega) rfl (fun v1 => ?_)
      refine jo_pure rfl (pr_assign rfl) ?_
      refine jo_nil ?_
      refine jq_in_normal ?_
      refine jq_then ?_
      refine jc_region ?_
      refine jo_pure rfl (pr_addN (m := i) (n := 1) rfl rfl (by omega)) ?_
      refine jo_pure rfl (pr_move rfl) ?_
      refine jo_nil ?_
      refine j_pull1 ?_
      refine j_drop ?_
      refine j_pull3 ?_
      refine j_pull3 ?_
      refine j_pull3 ?_
      refine j_pull3 ?_
      refine jq_round' ((i + 1), v1, (acc ++ [(l.getD i ([], []))])) (by (try dsimp only); exact (⟨by omega, by simp; omega, by rw [filter_hit (p := fun f => !namedB nm f) (dd := ([], [])) h1 (by simpa using h2), hinv.2.2]⟩)) (by (try dsimp only); exact (by omega)) ⟨rfl, rfl, rfl, rfl, rfl, trivial⟩ (fun _ h => h)
    · have h2 := id h2b
      refine jc_skip ?_
      refine jq_in_normal ?_
      refine jq_then ?_
      refine jc_region ?_
      refine jo_pure rfl (pr_addN (m := i) (n := 1) rfl rfl (by omega)) ?_
      refine jo_pure rfl (pr_move rfl) ?_
      refine jo_nil ?_
      refine j_drop ?_
      refine j_pull3 ?_
      refine j_pull3 ?_
      refine j_pull3 ?_
      refine j_pull3 ?_
      refine jq_round' ((i + 1), v, acc) (by (try dsimp only); exact (⟨by omega, by omega, by rw [filter_miss (p := fun f => !namedB nm f) (dd := ([], [])) h1 (by simpa using h2), hinv.2.2]⟩)) (by (try dsimp only); exact (by omega)) ⟨rfl, rfl, rfl, rfl, rfl, trivial⟩ (fun _ h => h)
  · have h1 := of_decide_eq_false h1b
    refine jc_exit ?_
    refine jq_then_exit ?_
    refine jq_then_exit ?_
    refine jq_in_hit ?_
    refine jq_then ?_
    refine jc_seq ?_
    refine jc_region ?_
    refine jo_pure rfl (pr_move rfl) ?_
    refine jo_pure rfl (pr_assign rfl) ?_
    refine jo_nil ?_
    refine jq_then ?_
    refine jc_ret ?_
    refine j_pull1 ?_
    refine j_drop ?_
    refine j_pull1 ?_
    refine j_drop ?_
    refine j_pull1 ?_
    refine j_drop ?_
    exact jq_ret1 rfl v rfl (show (_ : Value) = (v) from rfl) (fun _ h => by rw [hinv.2.2, List.take_of_length_le (by omega)] at h; exact h)

theorem c_fieldline_Remove (l : List ((List UInt8) × (List UInt8))) (lv : Value) (name : List UInt8) (hl : l.length ≤ 1000000) (hm : ∀ x ∈ l, x.1.length ≤ 1000000 ∧ x.2.length ≤ 1000000) (hn : name.length ≤ 1000000) : Con Tryd.prog 33 #[lv, str (name)] [.imm (.list (.pair .str .str)) (lv) (l)] (fun r1 : Value => r1) (fun r1 => [.row r1 23 (.pair .str .str) (removeF l name)]) := by
  refine con_of_J (args := [lv, str (name)]) (n := 11) Tryd.func33 rfl (Nat.le_of_ble_eq_true rfl) rfl (fun w0 I0 m0 => ?_)
  show J _ [(0, lv), (1, str (name))] [.imm (.list (.pair .str .str)) (lv) (l)] _
  refine jc_seq ?_
  refine jc_region ?_
  refine jo_pure rfl (pr_assign rfl) ?_
  refine jo_nil ?_
  refine jq_then ?_
  refine jc_seq ?_
  refine jc_region ?_
  refine jo_pure rfl (pr_move rfl) ?_
  refine jo_callp cal_72 (c_fieldline_named name (by first | omega | exact fun x hx => (hm x hx).1)) ⟨rfl, trivial⟩ rfl (trivial) (fun r1 => ?_)
  show J _ _ [.ibox r1 9 [str (lower name)], .imm (.list (.pair .str .str)) (lv) (l)] _
  refine jo_alloc ty_29 [.nilFunc] rfl rfl (fun b1 => ?_)
  refine jo_store rfl rfl ty_29 [.func (.func 89) #[] #[.pointer (some ⟨r1, 0, none⟩)]] rfl rfl rfl [.func (.func 89) #[] #[.pointer (some ⟨r1, 0, none⟩)]] rfl rfl ?_
  refine jo_nil ?_
  refine jq_then ?_
  refine jc_seq ?_
  refine jc_region ?_
  refine jo_pure rfl (pr_move rfl) ?_
  refine jo_pure rfl (pr_makeFunc (fs := #[]) (cs := #[.pointer (some ⟨b1, 0, none⟩)]) (fun a hf => by simp) (fun a hf => by simp only [List.map_toArray, List.map_cons, List.map_nil, hf.ev (show ev _ (.tmp 5) = some (.pointer (some ⟨b1, 0, none⟩)) from rfl)])) ?_
  refine j_pub_box ?_
  refine jo_callp cal_71 (c_filter_remove l lv (lower name) r1 b1 (by first | omega | exact fun x hx => (hm x hx).1) (by first | omega | exact fun x hx => (hm x hx).1)) ⟨rfl, rfl, trivial⟩ rfl (⟨⟨rfl, .tail _ (.tail _ (.head _))⟩, ⟨⟨rfl, .tail _ (.head _)⟩, ⟨⟨rfl, .head _⟩, trivial⟩⟩⟩) (fun r2 => ?_)
  show J _ _ [.row (r2) 23 (.pair .str .str) (l.filter (fun f => !namedB (lower name) f)), .ibox b1 29 [.func (.func 89) #[] #[.pointer (some ⟨r1, 0, none⟩)]], .ibox r1 9 [str (lower name)], .imm (.list (.pair .str .str)) (lv) (l)] _
  refine jo_pure rfl (pr_assign rfl) ?_
  refine jo_nil ?_
  refine jq_then ?_
  refine jc_ret ?_
  refine j_pull1 ?_
  refine j_drop ?_
  refine j_pull1 ?_
  refine j_drop ?_
  refine j_pull1 ?_
  refine j_drop ?_
  exact jq_ret1 rfl r2 rfl (show (_ : Value) = (r2) from rfl) (fun _ h => by rw [remove_filter] at h; exact h)

theorem c_ref01_Remove (l : List ((List UInt8) × (List UInt8))) (lv : Value) (name : List UInt8) (hl : l.length ≤ 1000000) (hm : ∀ x ∈ l, x.1.length ≤ 1000000 ∧ x.2.length ≤ 1000000) (hn : name.length ≤ 1000000) : Con Tryd.prog 34 #[lv, str (name)] [.imm (.list (.pair .str .str)) (lv) (l)] (fun r1 : Value => r1) (fun r1 => [.row r1 23 (.pair .str .str) (removeF l name)]) := by
  refine con_of_J (args := [lv, str (name)]) (n := 29) Tryd.func34 rfl (Nat.le_of_ble_eq_true rfl) rfl (fun w0 I0 m0 => ?_)
  show J _ [(0, lv), (1, str (name))] [.imm (.list (.pair .str .str)) (lv) (l)] _
  refine jc_seq ?_
  refine jc_region ?_
  refine jo_pure rfl (pr_assign rfl) ?_
  refine jo_nil ?_
  refine jq_then ?_
  refine jc_seq ?_
  refine jc_region ?_
  refine jo_pure rfl (pr_assign rfl) ?_
  refine jo_nil ?_
  refine jq_then ?_
  refine jc_seq ?_
  refine jc_seq ?_
  refine jc_region ?_
  refine jo_pure rfl (pr_assign rfl) ?_
  refine jo_nil ?_
  refine jq_then ?_
  refine jc_block ?_
  refine j_nil_row 23 (.pair .str .str) ?_
  refine jc_loop3 (fun (i : Nat) (v : Value) (acc : List Fld) => [(0, lv), (1, str (name)), (5, v), (6, .int .i64 ((i : Nat) : Int))]) (fun (i : Nat) (v : Value) (acc : List Fld) => [.row (v) 23 (.pair .str .str) (acc), .imm (.list (.pair .str .str)) (lv) (l)]) (fun (i : Nat) (v : Value) (acc : List Fld) => i ≤ l.length ∧ acc.length ≤ i ∧ acc = removeF (l.take i) name) (fun (i : Nat) (v : Value) (acc : List Fld) => l.length - i) 0 (.slice none 0 0) [] (⟨Nat.zero_le _, Nat.le_refl _, rfl⟩) (⟨rfl, rfl, rfl, rfl, trivial⟩) (fun _ h => h) (fun i v acc hinv => ?_)
  refine jc_seq ?_
  refine jc_seq ?_
  refine jc_region ?_
  refine jo_pure rfl (pr_move rfl) ?_
  refine jo_pure rfl (pr_move rfl) ?_
  refine jo_pure rfl (pr_len_imm rfl (.tail _ (.head _)) Tryd.underlying31) ?_
  refine jo_pure rfl (pr_lssN (m := i) (n := l.length) rfl rfl) ?_
  refine jo_nil ?_
  refine jq_then ?_
  refine jc_cond rfl (fun h1b => ?_) (fun h1b => ?_)
  · have h1 := of_decide_eq_true h1b
    refine jc_skip ?_
    refine jq_then ?_
    refine jc_seq ?_
    refine jc_block ?_
    refine jc_seq ?_
    refine jc_region ?_
    refine jo_pure rfl (pr_move rfl) ?_
    refine jo_pure rfl (pr_move rfl) ?_
    refine jo_pure rfl (pr_idx_imm (i := i) rfl (.tail _ (.head _)) rfl Tryd.underlying31 ty_23 (by omega)) ?_
    refine jo_pure rfl (pr_fieldAddr_imm (i := i) rfl (.tail _ (.head _)) Tryd.underlying23 rfl ty_9 rfl rfl (by omega)) ?_
    refine jo_pure rfl (pr_load_off_imm (i := i) (o := 0) (dd := ([], [])) (str ((l.getD i ([], [])).1)) rfl (.tail _ (.head _)) ty_9 rfl (by decide) rfl (by omega) rfl) ?_
    refine jo_pure rfl (pr_move rfl) ?_
    refine jo_callp cal_37 (c_ref01_Fold ((l.getD i ([], [])).1) name (by first | omega | exact (hm _ (getD_mem h1)).1) (by first | omega | exact (hm _ (getD_mem h1)).1)) ⟨rfl, rfl, trivial⟩ rfl (trivial) (fun _ => ?_)
    refine jo_pure rfl (pr_not rfl) ?_
    refine jo_nil ?_
    refine jq_then ?_
    refine jc_cond rfl (fun h2b => ?_) (fun h2b => ?_)
    · have h2 := (fun q => id (bt_not q)) h2b
      refine jc_region ?_
      refine jo_pure rfl (pr_move rfl) ?_
      refine jo_pure rfl (pr_move rfl) ?_
      refine jo_pure rfl (pr_move rfl) ?_
      refine jo_pure rfl (pr_idx_imm (i := i) rfl (.tail _ (.head _)) rfl Tryd.underlying31 ty_23 (by omega)) ?_
      refine jo_pure rfl (pr_load_elem_imm (i := i) (.agg #[str ((l.getD i ([], [])).1), str ((l.getD i ([], [])).2)]) rfl (.tail _ (.head _)) ty_23 rfl rfl (by omega) rfl) ?_
      refine jo_buildSlice (t := (.pair .str .str)) [(l.getD i ([], []))] [.agg #[str ((l.getD i ([], [])).1), str ((l.getD i ([], [])).2)]] (fun a hf => by simp only [List.zipIdx_cons, List.zipIdx_nil, List.map_toArray, List.map_cons, List.map_nil, hf.ev (show ev _ (.tmp 25) = some (.agg #[str ((l.getD i ([], [])).1), str ((l.getD i ([], [])).2)]) from rfl)]) rfl Tryd.underlying31 ty_23 rfl rfl rfl rfl rfl (fun g1 => ?_)
      refine j_pull1 ?_
      refine jo_append rfl rfl Tryd.underlying31 ty_23 rfl (by simp only [List.length_cons, List.length_nil, maxLen]; omega) (by simp only [List.length_cons, List.length_nil]; omega) rfl (fun v1 => ?_)
      refine jo_pure rfl (pr_assign rfl) ?_
      refine jo_nil ?_
      refine jq_in_normal ?_
      refine jq_then ?_
      refine jc_region ?_
      refine jo_pure rfl (pr_move rfl) ?_
      refine jo_pure rfl (pr_addN (m := i) (n := 1) rfl rfl (by omega)) ?_
      refine jo_pure rfl (pr_assign rfl) ?_
      refine jo_nil ?_
      refine j_pull1 ?_
      refine j_pull1 ?_
      refine jq_round' ((i + 1), v1, (acc ++ [(l.getD i ([], []))])) (by (try dsimp only); exact (⟨by omega, by simp; omega, by rw [remove_hit (dd := ([], [])) h1 h2, hinv.2.2]⟩)) (by (try dsimp only); exact (by omega)) ⟨rfl, rfl, rfl, rfl, trivial⟩ (fun _ h => h)
    · have h2 := (fun q => id (bf_not q)) h2b
      refine jc_skip ?_
      refine jq_in_normal ?_
      refine jq_then ?_
      refine jc_region ?_
      refine jo_pure rfl (pr_move rfl) ?_
      refine jo_pure rfl (pr_addN (m := i) (n := 1) rfl rfl (by omega)) ?_
      refine jo_pure rfl (pr_assign rfl) ?_
      refine jo_nil ?_
      refine j_pull1 ?_
      refine j_pull1 ?_
      refine jq_round' ((i + 1), v, acc) (by (try dsimp only); exact (⟨by omega, by omega, by rw [remove_miss (dd := ([], [])) h1 (by simpa using h2), hinv.2.2]⟩)) (by (try dsimp only); exact (by omega)) ⟨rfl, rfl, rfl, rfl, trivial⟩ (fun _ h => h)
  · have h1 := of_decide_eq_false h1b
    refine jc_exit ?_
    refine jq_then_exit ?_
    refine jq_then_exit ?_
    refine jq_in_hit ?_
    refine jq_then ?_
    refine jc_seq ?_
    refine jc_region ?_
    refine jo_pure rfl (pr_move rfl) ?_
    refine jo_pure rfl (pr_assign rfl) ?_
    refine jo_nil ?_
    refine jq_then ?_
    refine jc_ret ?_
    refine j_pull1 ?_
    refine j_drop ?_
    exact jq_ret1 rfl v rfl (show (_ : Value) = (v) from rfl) (fun _ h => by rw [hinv.2.2, List.take_of_length_le (by omega)] at h; exact h)

theorem c_fieldline_Set (l : List ((List UInt8) × (List UInt8))) (lv : Value) (name : List UInt8) (value : List UInt8) (hl : l.length ≤ 1000000) (hm : ∀ x ∈ l, x.1.length ≤ 1000000 ∧ x.2.length ≤ 1000000) (hn : name.length ≤ 1000000) (hv : value.length ≤ 1000000) : Con Tryd.prog 35 #[lv, str (name), str (value)] [.imm (.list (.pair .str .str)) (lv) (l)] (fun r1 : Value => r1) (fun r1 => [.row r1 23 (.pair .str .str) (setF l name value)]) := by
  refine con_of_J (args := [lv, str (name), str (value)]) (n := 49) Tryd.func35 rfl (Nat.le_of_ble_eq_true rfl) rfl (fun w0 I0 m0 => ?_)
  show J _ [(0, lv), (1, str (name)), (2, str (value))] [.imm (.list (.pair .str .str)) (lv) (l)] _
  refine jc_seq ?_
  refine jc_region ?_
  refine jo_pure rfl (pr_assign rfl) ?_
  refine jo_nil ?_
  refine jq_then ?_
  refine jc_seq ?_
  refine jc_region ?_
  refine jo_pure rfl (pr_move rfl) ?_
  refine jo_callp cal_72 (c_fieldline_named name (by first | omega | exact (hm _ (getD_mem h1)).1)) ⟨rfl, trivial⟩ rfl (trivial) (fun r1 => ?_)
  show J _ _ [.ibox r1 9 [str (lower name)], .imm (.list (.pair .str .str)) (lv) (l)] _
  refine jo_pure rfl (pr_assign rfl) ?_
  refine jo_pure rfl (pr_assign rfl) ?_
  refine jo_nil ?_
  refine jq_then ?_
  refine jc_seq ?_
  refine jc_region ?_
  refine jo_pure rfl (pr_assign rfl) ?_
  refine jo_nil ?_
  refine jq_then ?_
  refine jc_seq ?_
  refine jc_seq ?_
  refine jc_region ?_
  refine jo_pure rfl (pr_move rfl) ?_
  refine jo_pure rfl (pr_len_imm rfl (.tail _ (.head _)) Tryd.underlying31) ?_
  refine jo_pure rfl (pr_move rfl) ?_
  refine jo_nil ?_
  refine jq_then ?_
  refine jc_block ?_
  refine j_nil_row 23 (.pair .str .str) ?_
  refine jc_loop4 (fun (i : Nat) (v : Value) (acc : List Fld) (d : Bool) => [(1, str (name)), (2, str (value)), (7, .func (.func 89) #[] #[.pointer (some ⟨r1, 0, none⟩)]), (8, .bool (d)), (9, v), (14, lv), (15, .int .i64 ((l.length : Nat) : Int)), (16, .int .i64 ((i : Nat) : Int))]) (fun (i : Nat) (v : Value) (acc : List Fld) (d : Bool) => [.row (v) 23 (.pair .str .str) (acc), .ibox r1 9 [str (lower name)], .imm (.list (.pair .str .str)) (lv) (l)]) (fun (i : Nat) (v : Value) (acc : List Fld) (d : Bool) => i ≤ l.length ∧ acc.length ≤ i ∧ acc ++ setGo name value d (l.drop i) = setF l name value) (fun (i : Nat) (v : Value) (acc : List Fld) (d : Bool) => l.length - i) 0 (.slice none 0 0) [] false (⟨Nat.zero_le _, Nat.le_refl _, rfl⟩) (⟨rfl, rfl, rfl, rfl, rfl, rfl, rfl, rfl, trivial⟩) (fun _ h => h) (fun i v acc d hinv => ?_)
  refine jc_seq ?_
  refine jc_region ?_
  refine jo_pure rfl (pr_lssN (m := i) (n := l.length) rfl rfl) ?_
  refine jo_nil ?_
  refine jq_then ?_
  refine jc_seq ?_
  refine jc_cond rfl (fun h1b => ?_) (fun h1b => ?_)
  · have h1 := of_decide_eq_true h1b
    refine jc_skip ?_
    refine jq_then ?_
    refine jc_seq ?_
    refine jc_block ?_
    refine jc_seq ?_
    refine jc_region ?_
    refine jo_pure rfl (pr_idx_imm (i := i) rfl (.tail _ (.tail _ (.head _))) rfl Tryd.underlying31 ty_23 (by omega)) ?_
    refine jo_pure rfl (pr_load_elem_imm (i := i) (.agg #[str ((l.getD i ([], [])).1), str ((l.getD i ([], [])).2)]) rfl (.tail _ (.tail _ (.head _))) ty_23 rfl rfl (by omega) rfl) ?_
    refine jo_alloc ty_23 [str ([]), str ([])] rfl rfl (fun b1 => ?_)
    refine jo_store rfl rfl ty_23 [str ((l.getD i ([], [])).1), str ((l.getD i ([], [])).2)] rfl rfl rfl [str ((l.getD i ([], [])).1), str ((l.getD i ([], [])).2)] rfl rfl ?_
    refine jo_nil ?_
    refine jq_then ?_
    refine jc_block ?_
    refine jc_seq ?_
    refine jc_region ?_
    refine jo_pure rfl (pr_move rfl) ?_
    refine jo_pure rfl (pr_load_box (.agg #[str ((l.getD i ([], [])).1), str ((l.getD i ([], [])).2)]) rfl ty_23 (.head _) rfl (by decide) rfl) ?_
    refine jo_callvp (fi := []) (vs := [.agg #[str ((l.getD i ([], [])).1), str ((l.getD i ([], [])).2)]]) (ca := [.pointer (some ⟨r1, 0, none⟩)]) rfl cal_89 (c_named_1 (l.getD i ([], [])) (lower name) r1 (by first | omega | exact (hm _ (getD_mem h1)).1)) ⟨rfl, trivial⟩ rfl (⟨⟨rfl, .tail _ (.tail _ (.head _))⟩, trivial⟩) (fun _ => ?_)
    refine jo_pure rfl (pr_not rfl) ?_
    refine jo_pure rfl (pr_assign rfl) ?_
    refine jo_nil ?_
    refine jq_then ?_
    refine jc_cond rfl (fun h2b => ?_) (fun h2b => ?_)
    · have h2 := (fun q => id (bt_not q)) h2b
      refine jc_region ?_
      refine jo_pure rfl (pr_move rfl) ?_
      refine jo_pure rfl (pr_load_box (.agg #[str ((l.getD i ([], [])).1), str ((l.getD i ([], [])).2)]) rfl ty_23 (.head _) rfl (by decide) rfl) ?_
      refine jo_buildSlice (t := (.pair .str .str)) [(l.getD i ([], []))] [.agg #[str ((l.getD i ([], [])).1), str ((l.getD i ([], [])).2)]] (fun a hf => by simp only [List.zipIdx_cons, List.zipIdx_nil, List.map_toArray, List.map_cons, List.map_nil, hf.ev (show ev _ (.tmp 26) = some (.agg #[str ((l.getD i ([], [])).1), str ((l.getD i ([], [])).2)]) from rfl)]) rfl Tryd.underlying31 ty_23 rfl rfl rfl rfl rfl (fun g1 => ?_)
      refine j_pull2 ?_
      refine jo_append rfl rfl Tryd.underlying31 ty_23 rfl (by simp only [List.length_cons, List.length_nil, maxLen]; omega) (by simp only [List.length_cons, List.length_nil]; omega) rfl (fun v1 => ?_)
      refine jo_pure rfl (pr_assign rfl) ?_
      refine jo_nil ?_
      refine jq_in_normal ?_
      refine jq_in_normal ?_
      refine jq_then ?_
      refine jc_region ?_
      refine jo_pure rfl (pr_addN (m := i) (n := 1) rfl rfl (by omega)) ?_
      refine jo_pure rfl (pr_move rfl) ?_
      refine jo_nil ?_
      refine j_pull1 ?_
      refine j_drop ?_
      refine j_pull2 ?_
      refine j_pull2 ?_
      refine j_pull2 ?_
      refine jq_round' ((i + 1), v1, (acc ++ [(l.getD i ([], []))]), d) (by (try dsimp only); exact (⟨by omega, by simp; omega, setGo_miss (dd := ([], [])) h1 (by rw [← named_fold]; exact h2) hinv.2.2⟩)) (by (try dsimp only); exact (by omega)) ⟨rfl, rfl, rfl, rfl, rfl, rfl, rfl, rfl, trivial⟩ (fun _ h => h)
    · have h2 := (fun q => id (bf_not q)) h2b
      refine jc_seq ?_
      refine jc_region ?_
      refine jo_pure rfl (pr_move rfl) ?_
      refine jo_pure rfl (pr_not rfl) ?_
      refine jo_pure rfl (pr_assign rfl) ?_
      refine jo_nil ?_
      refine jq_then ?_
      refine jc_cond rfl (fun h3b => ?_) (fun h3b => ?_)
      · have h3 := (fun q => id (bt_not q)) h3b
        refine jc_seq ?_
        refine jc_region ?_
        refine jo_pure rfl (pr_move rfl) ?_
        refine jo_pure rfl (pr_fieldAddr 0 rfl Tryd.underlying23 rfl ty_9 rfl rfl) ?_
        refine jo_pure rfl (pr_load_box (str ((l.getD i ([], [])).1)) rfl ty_9 (.head _) rfl (by decide) rfl) ?_
        refine jo_pure rfl (pr_move rfl) ?_
        refine jo_pure rfl (pr_build [(0, str ((l.getD i ([], [])).1)), (1, str (value))] [str ((l.getD i ([], [])).1), str (value)] (fun a hf => by simp only [List.map_toArray, List.map_cons, List.map_nil, hf.ev (show ev _ (.tmp 34) = some (str ((l.getD i ([], [])).1)) from rfl), hf.ev (show ev _ (.tmp 35) = some (str (value)) from rfl)]) (by kernel_rfl)) ?_
        refine jo_buildSlice (t := (.pair .str .str)) [((l.getD i ([], [])).1, value)] [.agg #[str ((l.getD i ([], [])).1), str (value)]] (fun a hf => by simp only [List.zipIdx_cons, List.zipIdx_nil, List.map_toArray, List.map_cons, List.map_nil, hf.ev (show ev _ (.tmp 36) = some (.agg #[str ((l.getD i ([], [])).1), str (value)]) from rfl)]) rfl Tryd.underlying31 ty_23 rfl rfl rfl rfl rfl (fun g2 => ?_)
        refine j_pull2 ?_
        refine jo_append rfl rfl Tryd.underlying31 ty_23 rfl (by simp only [List.length_cons, List.length_nil, maxLen]; omega) (by simp only [List.length_cons, List.length_nil]; omega) rfl (fun v2 => ?_)
        refine jo_pure rfl (pr_assign rfl) ?_
        refine jo_nil ?_
        refine jq_then ?_
        refine jc_region ?_
        refine jo_pure rfl (pr_assign rfl) ?_
        refine jo_nil ?_
        refine jq_in_normal ?_
        refine jq_in_normal ?_
        refine jq_then ?_
        refine jc_region ?_
        refine jo_pure rfl (pr_addN (m := i) (n := 1) rfl rfl (by omega)) ?_
        refine jo_pure rfl (pr_move rfl) ?_
        refine jo_nil ?_
        refine j_pull1 ?_
        refine j_drop ?_
        refine j_pull2 ?_
        refine j_pull2 ?_
        refine j_pull2 ?_
        refine jq_round' ((i + 1), v2, (acc ++ [((l.getD i ([], [])).1, value)]), true) (by (try dsimp only); exact (⟨by omega, by simp; omega, setGo_new (dd := ([], [])) h1 (by rw [← named_fold]; exact (by simpa using h2)) (by simpa using h3) hinv.2.2⟩)) (by (try dsimp only); exact (by omega)) ⟨rfl, rfl, rfl, rfl, rfl, rfl, rfl, rfl, trivial⟩ (fun _ h => h)
      · have h3 := (fun q => id (bf_not q)) h3b
        refine jc_skip ?_
        refine jq_in_normal ?_
        refine jq_in_normal ?_
        refine jq_then ?_
        refine jc_region ?_
        refine jo_pure rfl (pr_addN (m := i) (n := 1) rfl rfl (by omega)) ?_
        refine jo_pure rfl (pr_move rfl) ?_
        refine jo_nil ?_
        refine j_drop ?_
        refine j_pull2 ?_
        refine j_pull2 ?_
        refine j_pull2 ?_
        refine jq_round' ((i + 1), v, acc, d) (by (try dsimp only); exact (⟨by omega, by omega, setGo_old (dd := ([], [])) h1 (by rw [← named_fold]; exact (by simpa using h2)) (by simpa using h3) hinv.2.2⟩)) (by (try dsimp only); exact (by omega)) ⟨rfl, rfl, rfl, rfl, rfl, rfl, rfl, rfl, trivial⟩ (fun _ h => h)
  · have h1 := of_decide_eq_false h1b
    refine jc_exit ?_
    refine jq_then_exit ?_
    refine jq_then_exit ?_
    refine jq_in_hit ?_
    refine jq_then ?_
    refine jc_seq ?_
    refine jc_seq ?_
    refine jc_region ?_
    refine jo_pure rfl (pr_move rfl) ?_
    refine jo_pure rfl (pr_not rfl) ?_
    refine jo_nil ?_
    refine jq_then ?_
    refine jc_cond rfl (fun h4b => ?_) (fun h4b => ?_)
    · have h4 := (fun q => id (bt_not q)) h4b
      refine jc_region ?_
      refine jo_pure rfl (pr_move rfl) ?_
      refine jo_pure rfl (pr_move rfl) ?_
      refine jo_pure rfl (pr_move rfl) ?_
      refine jo_pure rfl (pr_build [(0, str (name)), (1, str (value))] [str (name), str (value)] (fun a hf => by simp only [List.map_toArray, List.map_cons, List.map_nil, hf.ev (show ev _ (.tmp 43) = some (str (name)) from rfl), hf.ev (show ev _ (.tmp 44) = some (str (value)) from rfl)]) (by kernel_rfl)) ?_
      refine jo_buildSlice (t := (.pair .str .str)) [(name, value)] [.agg #[str (name), str (value)]] (fun a hf => by simp only [List.zipIdx_cons, List.zipIdx_nil, List.map_toArray, List.map_cons, List.map_nil, hf.ev (show ev _ (.tmp 45) = some (.agg #[str (name), str (value)]) from rfl)]) rfl Tryd.underlying31 ty_23 rfl rfl rfl rfl rfl (fun g3 => ?_)
      refine j_pull1 ?_
      refine jo_append rfl rfl Tryd.underlying31 ty_23 rfl (by simp only [List.length_cons, List.length_nil, maxLen]; omega) (by simp only [List.length_cons, List.length_nil]; omega) rfl (fun v3 => ?_)
      refine jo_pure rfl (pr_assign rfl) ?_
      refine jo_nil ?_
      refine jq_then ?_
      refine jc_seq ?_
      refine jc_region ?_
      refine jo_pure rfl (pr_move rfl) ?_
      refine jo_pure rfl (pr_assign rfl) ?_
      refine jo_nil ?_
      refine jq_then ?_
      refine jc_ret ?_
      refine j_pull1 ?_
      refine j_drop ?_
      refine j_pull1 ?_
      refine j_drop ?_
      exact jq_ret1 rfl v3 rfl (show (_ : Value) = (v3) from rfl) (fun _ h => by rw [setGo_last (by omega) (by simpa using h4) hinv.2.2] at h; exact h)
    · have h4 := (fun q => id (bf_not q)) h4b
      refine jc_skip ?_
      refine jq_then ?_
      refine jc_seq ?_
      refine jc_region ?_
      refine jo_pure rfl (pr_move rfl) ?_
      refine jo_pure rfl (pr_assign rfl) ?_
      refine jo_nil ?_
      refine jq_then ?_
      refine jc_ret ?_
      refine j_pull1 ?_
      refine j_drop ?_
      refine j_pull1 ?_
      refine j_drop ?_
      exact jq_ret1 rfl v rfl (show (_ : Value) = (v) from rfl) (fun _ h => by rw [setGo_end (by omega) (by simpa using h4) hinv.2.2] at h; exact h)

theorem c_ref01_Set (l : List ((List UInt8) × (List UInt8))) (lv : Value) (name : List UInt8) (value : List UInt8) (hl : l.length ≤ 1000000) (hm : ∀ x ∈ l, x.1.length ≤ 1000000 ∧ x.2.length ≤ 1000000) (hn : name.length ≤ 1000000) (hv : value.length ≤ 1000000) : Con Tryd.prog 36 #[lv, str (name), str (value)] [.imm (.list (.pair .str .str)) (lv) (l)] (fun r1 : Value => r1) (fun r1 => [.row r1 23 (.pair .str .str) (setF l name value)]) := by
  refine con_of_J (args := [lv, str (name), str (value)]) (n := 52) Tryd.func36 rfl (Nat.le_of_ble_eq_true rfl) rfl (fun w0 I0 m0 => ?_)
  show J _ [(0, lv), (1, str (name)), (2, str (value))] [.imm (.list (.pair .str .str)) (lv) (l)] _
  refine jc_seq ?_
  refine jc_region ?_
  refine jo_pure rfl (pr_assign rfl) ?_
  refine jo_nil ?_
  refine jq_then ?_
  refine jc_seq ?_
  refine jc_region ?_
  refine jo_pure rfl (pr_assign rfl) ?_
  refine jo_nil ?_
  refine jq_then ?_
  refine jc_seq ?_
  refine jc_region ?_
  refine jo_pure rfl (pr_assign rfl) ?_
  refine jo_nil ?_
  refine jq_then ?_
  refine jc_seq ?_
  refine jc_seq ?_
  refine jc_region ?_
  refine jo_pure rfl (pr_assign rfl) ?_
  refine jo_nil ?_
  refine jq_then ?_
  refine jc_block ?_
  refine j_nil_row 23 (.pair .str .str) ?_
  refine jc_loop4 (fun (i : Nat) (v : Value) (acc : List Fld) (d : Bool) => [(0, lv), (1, str (name)), (2, str (value)), (7, v), (8, .bool (d)), (9, .int .i64 ((i : Nat) : Int))]) (fun (i : Nat) (v : Value) (acc : List Fld) (d : Bool) => [.row (v) 23 (.pair .str .str) (acc), .imm (.list (.pair .str .str)) (lv) (l)]) (fun (i : Nat) (v : Value) (acc : List Fld) (d : Bool) => i ≤ l.length ∧ acc.length ≤ i ∧ acc ++ setGo name value d (l.drop i) = setF l name value) (fun (i : Nat) (v : Value) (acc : List Fld) (d : Bool) => l.length - i) 0 (.slice none 0 0) [] false (⟨Nat.zero_le _, Nat.le_refl _, rfl⟩) (⟨rfl, rfl, rfl, rfl, rfl, rfl, trivial⟩) (fun _ h => h) (fun i v acc d hinv => ?_)
  refine jc_seq ?_
  refine jc_seq ?_
  refine jc_region ?_
  refine jo_pure rfl (pr_move rfl) ?_
  refine jo_pure rfl (pr_move rfl) ?_
  refine jo_pure rfl (pr_len_imm rfl (.tail _ (.head _)) Tryd.underlying31) ?_
  refine jo_pure rfl (pr_lssN (m := i) (n := l.length) rfl rfl) ?_
  refine jo_nil ?_
  refine jq_then ?_
  refine jc_cond rfl (fun h1b => ?_) (fun h1b => ?_)
  · have h1 := of_decide_eq_true h1b
    refine jc_skip ?_
    refine jq_then ?_
    refine jc_seq ?_
    refine jc_block ?_
    refine jc_seq ?_
    refine jc_region ?_
    refine jo_pure rfl (pr_move rfl) ?_
    refine jo_pure rfl (pr_move rfl) ?_
    refine jo_pure rfl (pr_idx_imm (i := i) rfl (.tail _ (.head _)) rfl Tryd.underlying31 ty_23 (by omega)) ?_
    refine jo_pure rfl (pr_fieldAddr_imm (i := i) rfl (.tail _ (.head _)) Tryd.underlying23 rfl ty_9 rfl rfl (by omega)) ?_
    refine jo_pure rfl (pr_load_off_imm (i := i) (o := 0) (dd := ([], [])) (str ((l.getD i ([], [])).1)) rfl (.tail _ (.head _)) ty_9 rfl (by decide) rfl (by omega) rfl) ?_
    refine jo_pure rfl (pr_move rfl) ?_
    refine jo_callp cal_37 (c_ref01_Fold ((l.getD i ([], [])).1) name (by first | omega | exact (hm _ (getD_mem h1)).1) (by first | omega | exact (hm _ (getD_mem h1)).1)) ⟨rfl, rfl, trivial⟩ rfl (trivial) (fun _ => ?_)
    refine jo_pure rfl (pr_not rfl) ?_
    refine jo_nil ?_
    refine jq_then ?_
    refine jc_cond rfl (fun h2b => ?_) (fun h2b => ?_)
    · have h2 := (fun q => id (bt_not q)) h2b
      refine jc_region ?_
      refine jo_pure rfl (pr_move rfl) ?_
      refine jo_pure rfl (pr_move rfl) ?_
      refine jo_pure rfl (pr_move rfl) ?_
      refine jo_pure rfl (pr_idx_imm (i := i) rfl (.tail _ (.head _)) rfl Tryd.underlying31 ty_23 (by omega)) ?_
      refine jo_pure rfl (pr_load_elem_imm (i := i) (.agg #[str ((l.getD i ([], [])).1), str ((l.getD i ([], [])).2)]) rfl (.tail _ (.head _)) ty_23 rfl rfl (by omega) rfl) ?_
      refine jo_buildSlice (t := (.pair .str .str)) [(l.getD i ([], []))] [.agg #[str ((l.getD i ([], [])).1), str ((l.getD i ([], [])).2)]] (fun a hf => by simp only [List.zipIdx_cons, List.zipIdx_nil, List.map_toArray, List.map_cons, List.map_nil, hf.ev (show ev _ (.tmp 28) = some (.agg #[str ((l.getD i ([], [])).1), str ((l.getD i ([], [])).2)]) from rfl)]) rfl Tryd.underlying31 ty_23 rfl rfl rfl rfl rfl (fun g1 => ?_)
      refine j_pull1 ?_
      refine jo_append rfl rfl Tryd.underlying31 ty_23 rfl (by simp only [List.length_cons, List.length_nil, maxLen]; omega) (by simp only [List.length_cons, List.length_nil]; omega) rfl (fun v1 => ?_)
      refine jo_pure rfl (pr_assign rfl) ?_
      refine jo_nil ?_
      refine jq_in_normal ?_
      refine jq_then ?_
      refine jc_region ?_
      refine jo_pure rfl (pr_move rfl) ?_
      refine jo_pure rfl (pr_addN (m := i) (n := 1) rfl rfl (by omega)) ?_
      refine jo_pure rfl (pr_assign rfl) ?_
      refine jo_nil ?_
      refine j_pull1 ?_
      refine j_pull1 ?_
      refine jq_round' ((i + 1), v1, (acc ++ [(l.getD i ([], []))]), d) (by (try dsimp only); exact (⟨by omega, by simp; omega, setGo_miss (dd := ([], [])) h1 (h2) hinv.2.2⟩)) (by (try dsimp only); exact (by omega)) ⟨rfl, rfl, rfl, rfl, rfl, rfl, trivial⟩ (fun _ h => h)
    · have h2 := (fun q => id (bf_not q)) h2b
      refine jc_seq ?_
      refine jc_region ?_
      refine jo_pure rfl (pr_move rfl) ?_
      refine jo_pure rfl (pr_not rfl) ?_
      refine jo_nil ?_
      refine jq_then ?_
      refine jc_cond rfl (fun h3b => ?_) (fun h3b => ?_)
      · have h3 := (fun q => id (bt_not q)) h3b
        refine jc_region ?_
        refine jo_pure rfl (pr_move rfl) ?_
        refine jo_pure rfl (pr_move rfl) ?_
        refine jo_pure rfl (pr_move rfl) ?_
        refine jo_pure rfl (pr_idx_imm (i := i) rfl (.tail _ (.head _)) rfl Tryd.underlying31 ty_23 (by omega)) ?_
        refine jo_pure rfl (pr_fieldAddr_imm (i := i) rfl (.tail _ (.head _)) Tryd.underlying23 rfl ty_9 rfl rfl (by omega)) ?_
        refine jo_pure rfl (pr_load_off_imm (i := i) (o := 0) (dd := ([], [])) (str ((l.getD i ([], [])).1)) rfl (.tail _ (.head _)) ty_9 rfl (by decide) rfl (by omega) rfl) ?_
        refine jo_pure rfl (pr_move rfl) ?_
        refine jo_pure rfl (pr_build [(0, str ((l.getD i ([], [])).1)), (1, str (value))] [str ((l.getD i ([], [])).1), str (value)] (fun a hf => by simp only [List.map_toArray, List.map_cons, List.map_nil, hf.ev (show ev _ (.tmp 38) = some (str ((l.getD i ([], [])).1)) from rfl), hf.ev (show ev _ (.tmp 39) = some (str (value)) from rfl)]) (by kernel_rfl)) ?_
        refine jo_buildSlice (t := (.pair .str .str)) [((l.getD i ([], [])).1, value)] [.agg #[str ((l.getD i ([], [])).1), str (value)]] (fun a hf => by simp only [List.zipIdx_cons, List.zipIdx_nil, List.map_toArray, List.map_cons, List.map_nil, hf.ev (show ev _ (.tmp 40) = some (.agg #[str ((l.getD i ([], [])).1), str (value)]) from rfl)]) rfl Tryd.underlying31 ty_23 rfl rfl rfl rfl rfl (fun g2 => ?_)
        refine j_pull1 ?_
        refine jo_append rfl rfl Tryd.underlying31 ty_23 rfl (by simp only [List.length_cons, List.length_nil, maxLen]; omega) (by simp only [List.length_cons, List.length_nil]; omega) rfl (fun v2 => ?_)
        refine jo_pure rfl (pr_assign rfl) ?_
        refine jo_pure rfl (pr_assign rfl) ?_
        refine jo_nil ?_
        refine jq_in_normal ?_
        refine jq_then ?_
        refine jc_region ?_
        refine jo_pure rfl (pr_move rfl) ?_
        refine jo_pure rfl (pr_addN (m := i) (n := 1) rfl rfl (by omega)) ?_
        refine jo_pure rfl (pr_assign rfl) ?_
        refine jo_nil ?_
        refine j_pull1 ?_
        refine j_pull1 ?_
        refine jq_round' ((i + 1), v2, (acc ++ [((l.getD i ([], [])).1, value)]), true) (by (try dsimp only); exact (⟨by omega, by simp; omega, setGo_new (dd := ([], [])) h1 ((by simpa using h2)) (by simpa using h3) hinv.2.2⟩)) (by (try dsimp only); exact (by omega)) ⟨rfl, rfl, rfl, rfl, rfl, rfl, trivial⟩ (fun _ h => h)
      · have h3 := (fun q => id (bf_not q)) h3b
        refine jc_skip ?_
        refine jq_in_normal ?_
        refine jq_then ?_
        refine jc_region ?_
        refine jo_pure rfl (pr_move rfl) ?_
        refine jo_pure rfl (pr_addN (m := i) (n := 1) rfl rfl (by omega)) ?_
        refine jo_pure rfl (pr_assign rfl) ?_
        refine jo_nil ?_
        refine j_pull1 ?_
        refine j_pull1 ?_
        refine jq_round' ((i + 1), v, acc, d) (by (try dsimp only); exact (⟨by omega, by omega, setGo_old (dd := ([], [])) h1 ((by simpa using h2)) (by simpa using h3) hinv.2.2⟩)) (by (try dsimp only); exact (by omega)) ⟨rfl, rfl, rfl, rfl, rfl, rfl, trivial⟩ (fun _ h => h)
  · have h1 := of_decide_eq_false h1b
    refine jc_exit ?_
    refine jq_then_exit ?_
    refine jq_then_exit ?_
    refine jq_in_hit ?_
    refine jq_then ?_
    refine jc_seq ?_
    refine jc_seq ?_
    refine jc_region ?_
    refine jo_pure rfl (pr_move rfl) ?_
    refine jo_pure rfl (pr_not rfl) ?_
    refine jo_nil ?_
    refine jq_then ?_
    refine jc_cond rfl (fun h4b => ?_) (fun h4b => ?_)
    · have h4 := (fun q => id (bt_not q)) h4b
      refine jc_region ?_
      refine jo_pure rfl (pr_move rfl) ?_
      refine jo_pure rfl (pr_move rfl) ?_
      refine jo_pure rfl (pr_move rfl) ?_
      refine jo_pure rfl (pr_build [(0, str (name)), (1, str (value))] [str (name), str (value)] (fun a hf => by simp only [List.map_toArray, List.map_cons, List.map_nil, hf.ev (show ev _ (.tmp 46) = some (str (name)) from rfl), hf.ev (show ev _ (.tmp 47) = some (str (value)) from rfl)]) (by kernel_rfl)) ?_
      refine jo_buildSlice (t := (.pair .str .str)) [(name, value)] [.agg #[str (name), str (value)]] (fun a hf => by simp only [List.zipIdx_cons, List.zipIdx_nil, List.map_toArray, List.map_cons, List.map_nil, hf.ev (show ev _ (.tmp 48) = some (.agg #[str (name), str (value)]) from rfl)]) rfl Tryd.underlying31 ty_23 rfl rfl rfl rfl rfl (fun g3 => ?_)
      refine j_pull1 ?_
      refine jo_append rfl rfl Tryd.underlying31 ty_23 rfl (by simp only [List.length_cons, List.length_nil, maxLen]; omega) (by simp only [List.length_cons, List.length_nil]; omega) rfl (fun v3 => ?_)
      refine jo_pure rfl (pr_assign rfl) ?_
      refine jo_nil ?_
      refine jq_then ?_
      refine jc_seq ?_
      refine jc_region ?_
      refine jo_pure rfl (pr_move rfl) ?_
      refine jo_pure rfl (pr_assign rfl) ?_
      refine jo_nil ?_
      refine jq_then ?_
      refine jc_ret ?_
      refine j_pull1 ?_
      refine j_drop ?_
      exact jq_ret1 rfl v3 rfl (show (_ : Value) = (v3) from rfl) (fun _ h => by rw [setGo_last (by omega) (by simpa using h4) hinv.2.2] at h; exact h)
    · have h4 := (fun q => id (bf_not q)) h4b
      refine jc_skip ?_
      refine jq_then ?_
      refine jc_seq ?_
      refine jc_region ?_
      refine jo_pure rfl (pr_move rfl) ?_
      refine jo_pure rfl (pr_assign rfl) ?_
      refine jo_nil ?_
      refine jq_then ?_
      refine jc_ret ?_
      refine j_pull1 ?_
      refine j_drop ?_
      exact jq_ret1 rfl v rfl (show (_ : Value) = (v) from rfl) (fun _ h => by rw [setGo_end (by omega) (by simpa using h4) hinv.2.2] at h; exact h)

theorem c_law03_FieldlineEdits (l : List ((List UInt8) × (List UInt8))) (lv : Value) (name : List UInt8) (value : List UInt8) (hl : l.length ≤ 9223372036854775807) : Con Tryd.prog 7 #[lv, str (name), str (value)] [.imm (.list (.pair .str .str)) (lv) (l)] (fun _ : Unit => .bool (true)) (fun _ => []) := by
  refine con_of_J (args := [lv, str (name), str (value)]) (n := 41) Tryd.func7 rfl (Nat.le_of_ble_eq_true rfl) rfl (fun w0 I0 m0 => ?_)
  show J _ [(0, lv), (1, str (name)), (2, str (value))] [.imm (.list (.pair .str .str)) (lv) (l)] _
  refine jc_seq ?_
  refine jc_region ?_
  refine jo_pure rfl (pr_assign rfl) ?_
  refine jo_nil ?_
  refine jq_then ?_
  refine jc_seq ?_
  refine jc_seq ?_
  refine jc_region ?_
  refine jo_pure rfl (pr_move rfl) ?_
  refine jo_callp cal_24 (c_keep_Fields l lv (by first | omega | exact fun x hx => by have := keepF_mem hkeep x hx; omega | (have := removeF_length l name; omega) | (have := setF_length l name value; omega))) ⟨rfl, trivial⟩ rfl (⟨⟨rfl, .head _⟩, trivial⟩) (fun _ => ?_)
  refine jo_pure rfl (pr_not rfl) ?_
  refine jo_pure rfl (pr_move rfl) ?_
  refine jo_gpure (j := 3) (want := false) rfl rfl rfl rfl (fun hg => pr_move rfl) ?_
  refine jo_gpure (j := 3) (want := false) rfl rfl rfl rfl (fun hg => pr_slen (evg rfl hg) Tryd.underlying9) ?_
  refine jo_gpure (j := 3) (want := false) rfl rfl rfl rfl (fun hg => pr_gtrN (m := name.length) (n := 300) (evg rfl hg) rfl) ?_
  refine jo_pure rfl (pr_pick_or rfl rfl rfl) ?_
  refine jo_pure rfl (pr_move rfl) ?_
  refine jo_gpure (j := 8) (want := false) rfl rfl rfl rfl (fun hg => pr_move rfl) ?_
  refine jo_gpure (j := 8) (want := false) rfl rfl rfl rfl (fun hg => pr_slen (evg rfl hg) Tryd.underlying9) ?_
  refine jo_gpure (j := 8) (want := false) rfl rfl rfl rfl (fun hg => pr_gtrN (m := value.length) (n := 300) (evg rfl hg) rfl) ?_
  refine jo_pure rfl (pr_pick_or rfl rfl rfl) ?_
  refine jo_nil ?_
  refine jq_then ?_
  refine jc_cond rfl (fun h1b => ?_) (fun h1b => ?_)
  · have h1 := (fun q => Or.imp (fun q => Or.imp (fun q => id (bt_not q)) of_decide_eq_true (bt_or q)) of_decide_eq_true (bt_or q)) h1b
    refine jc_seq ?_
    refine jc_region ?_
    refine jo_pure rfl (pr_assign rfl) ?_
    refine jo_nil ?_
    refine jq_then ?_
    refine jc_ret ?_
    refine jq_then_ret ?_
    refine j_drop ?_
    exact jq_ret1 rfl () rfl (show (_ : Value) = (.bool (true)) from rfl) (fun _ h => h)
  · have h1 := (fun q => And.imp (fun q => And.imp (fun q => id (bf_not q)) of_decide_eq_false (bf_or q)) of_decide_eq_false (bf_or q)) h1b
    have hc := h1; simp at hc
    have hkeep : keepF l = true := hc.1.1
    have hlen := keepF_len hkeep
    refine jc_skip ?_
    refine jq_then ?_
    refine jc_seq ?_
    refine jc_region ?_
    refine jo_pure rfl (pr_move rfl) ?_
    refine jo_pure rfl (pr_move rfl) ?_
    refine jo_callp cal_33 (c_fieldline_Remove l lv name (by first | omega | exact fun x hx => by have := keepF_mem hkeep x hx; omega | (have := removeF_length l name; omega) | (have := setF_length l name value; omega)) (by first | omega | exact fun x hx => by have := keepF_mem hkeep x hx; omega | (have := removeF_length l name; omega) | (have := setF_length l name value; omega)) (by first | omega | exact fun x hx => by have := keepF_mem hkeep x hx; omega | (have := removeF_length l name; omega) | (have := setF_length l name value; omega))) ⟨rfl, rfl, trivial⟩ rfl (⟨⟨rfl, .head _⟩, trivial⟩) (fun r1 => ?_)
    show J _ _ [.row (r1) 23 (.pair .str .str) (removeF l name), .imm (.list (.pair .str .str)) (lv) (l)] _
    refine jo_pure rfl (pr_move rfl) ?_
    refine jo_pure rfl (pr_move rfl) ?_
    refine jo_callp cal_34 (c_ref01_Remove l lv name (by first | omega | exact fun x hx => by have := keepF_mem hkeep x hx; omega | (have := removeF_length l name; omega) | (have := setF_length l name value; omega)) (by first | omega | exact fun x hx => by have := keepF_mem hkeep x hx; omega | (have := removeF_length l name; omega) | (have := setF_length l name value; omega)) (by first | omega | exact fun x hx => by have := keepF_mem hkeep x hx; omega | (have := removeF_length l name; omega) | (have := setF_length l name value; omega))) ⟨rfl, rfl, trivial⟩ rfl (⟨⟨rfl, .tail _ (.head _)⟩, trivial⟩) (fun r2 => ?_)
    show J _ _ [.row (r2) 23 (.pair .str .str) (removeF l name), .row (r1) 23 (.pair .str .str) (removeF l name), .imm (.list (.pair .str .str)) (lv) (l)] _
    refine j_pull1 ?_
    refine j_pub_row ?_
    refine j_pull1 ?_
    refine j_pub_row ?_
    refine jo_callp cal_32 (c_ref26_SameFields (removeF l name) r1 (removeF l name) r2 (by first | omega | exact fun x hx => by have := keepF_mem hkeep x hx; omega | (have := removeF_length l name; omega) | (have := setF_length l name value; omega))) ⟨rfl, rfl, trivial⟩ rfl (⟨⟨rfl, .tail _ (.head _)⟩, ⟨⟨rfl, .head _⟩, trivial⟩⟩) (fun _ => ?_)
    refine jo_pure rfl (pr_move rfl) ?_
    have ht1 : (decide ((removeF l name) = (removeF l name))) = true := by simp
    refine jo_run (j := 7) (want := true) rfl rfl (ht1) ?_
    refine jo_pure rfl (pr_move rfl) ?_
    refine jo_run (j := 7) (want := true) rfl rfl (ht1) ?_
    refine jo_pure rfl (pr_move rfl) ?_
    refine jo_run (j := 7) (want := true) rfl rfl (ht1) ?_
    refine jo_pure rfl (pr_move rfl) ?_
    refine jo_run (j := 7) (want := true) rfl rfl (ht1) ?_
    refine jo_callp cal_35 (c_fieldline_Set l lv name value (by first | omega | exact fun x hx => by have := keepF_mem hkeep x hx; omega | (have := removeF_length l name; omega) | (have := setF_length l name value; omega)) (by first | omega | exact fun x hx => by have := keepF_mem hkeep x hx; omega | (have := removeF_length l name; omega) | (have := setF_length l name value; omega)) (by first | omega | exact fun x hx => by have := keepF_mem hkeep x hx; omega | (have := removeF_length l name; omega) | (have := setF_length l name value; omega)) (by first | omega | exact fun x hx => by have := keepF_mem hkeep x hx; omega | (have := removeF_length l name; omega) | (have := setF_length l name value; omega))) ⟨rfl, rfl, rfl, trivial⟩ rfl (⟨⟨rfl, .tail _ (.tail _ (.head _))⟩, trivial⟩) (fun r3 => ?_)
    show J _ _ [.row (r3) 23 (.pair .str .str) (setF l name value), .imm (.list (.pair .str .str)) (r2) (removeF l name), .imm (.list (.pair .str .str)) (r1) (removeF l name), .imm (.list (.pair .str .str)) (lv) (l)] _
    refine jo_run (j := 7) (want := true) rfl rfl (ht1) ?_
    refine jo_pure rfl (pr_move rfl) ?_
    refine jo_run (j := 7) (want := true) rfl rfl (ht1) ?_
    refine jo_pure rfl (pr_move rfl) ?_
    refine jo_run (j := 7) (want := true) rfl rfl (ht1) ?_
    refine jo_pure rfl (pr_move rfl) ?_
    refine jo_run (j := 7) (want := true) rfl rfl (ht1) ?_
    refine jo_callp cal_36 (c_ref01_Set l lv name value (by first | omega | exact fun x hx => by have := keepF_mem hkeep x hx; omega | (have := removeF_length l name; omega) | (have := setF_length l name value; omega)) (by first | omega | exact fun x hx => by have := keepF_mem hkeep x hx; omega | (have := removeF_length l name; omega) | (have := setF_length l name value; omega)) (by first | omega | exact fun x hx => by have := keepF_mem hkeep x hx; omega | (have := removeF_length l name; omega) | (have := setF_length l name value; omega)) (by first | omega | exact fun x hx => by have := keepF_mem hkeep x hx; omega | (have := removeF_length l name; omega) | (have := setF_length l name value; omega))) ⟨rfl, rfl, rfl, trivial⟩ rfl (⟨⟨rfl, .tail _ (.tail _ (.tail _ (.head _)))⟩, trivial⟩) (fun r4 => ?_)
    show J _ _ [.row (r4) 23 (.pair .str .str) (setF l name value), .row (r3) 23 (.pair .str .str) (setF l name value), .imm (.list (.pair .str .str)) (r2) (removeF l name), .imm (.list (.pair .str .str)) (r1) (removeF l name), .imm (.list (.pair .str .str)) (lv) (l)] _
    refine jo_run (j := 7) (want := true) rfl rfl (ht1) ?_
    refine j_pull1 ?_
    refine j_pub_row ?_
    refine j_pull1 ?_
    refine j_pub_row ?_
    refine jo_callp cal_32 (c_ref26_SameFields (setF l name value) r3 (setF l name value) r4 (by first | omega | exact fun x hx => by have := keepF_mem hkeep x hx; omega | (have := removeF_length l name; omega) | (have := setF_length l name value; omega))) ⟨rfl, rfl, trivial⟩ rfl (⟨⟨rfl, .tail _ (.head _)⟩, ⟨⟨rfl, .head _⟩, trivial⟩⟩) (fun _ => ?_)
    refine jo_pure rfl (pr_pick_t rfl (ht1) rfl) ?_
    refine jo_pure rfl (pr_move rfl) ?_
    have ht2 : (decide ((setF l name value) = (setF l name value))) = true := by simp
    refine jo_run (j := 18) (want := true) rfl rfl (ht2) ?_
    refine jo_callp cal_19 (c_law03_awake) trivial rfl (trivial) (fun _ => ?_)
    refine jo_pure rfl (pr_pick_t rfl (ht2) rfl) ?_
    refine jo_pure rfl (pr_assign rfl) ?_
    refine jo_nil ?_
    refine jq_then ?_
    refine jc_ret ?_
    refine j_drop ?_
    refine j_drop ?_
    refine j_drop ?_
    refine j_drop ?_
    refine j_drop ?_
    exact jq_ret1 rfl () rfl (show (_ : Value) = (.bool (true)) from by simp) (fun _ h => h)

theorem c_law03_FieldlineSets (l : List ((List UInt8) × (List UInt8))) (lv : Value) (name : List UInt8) (value : List UInt8) (other : List UInt8) (hl : l.length ≤ 9223372036854775807) : Con Tryd.prog 8 #[lv, str (name), str (value), str (other)] [.imm (.list (.pair .str .str)) (lv) (l)] (fun _ : Unit => .bool (true)) (fun _ => []) := by
  refine con_of_J (args := [lv, str (name), str (value), str (other)]) (n := 74) Tryd.func8 rfl (Nat.le_of_ble_eq_true rfl) rfl (fun w0 I0 m0 => ?_)
  show J _ [(0, lv), (1, str (name)), (2, str (value)), (3, str (other))] [.imm (.list (.pair .str .str)) (lv) (l)] _
  refine jc_seq ?_
  refine jc_region ?_
  refine jo_pure rfl (pr_assign rfl) ?_
  refine jo_nil ?_
  refine jq_then ?_
  refine jc_seq ?_
  refine jc_seq ?_
  refine jc_region ?_
  refine jo_pure rfl (pr_move rfl) ?_
  refine jo_callp cal_24 (c_keep_Fields l lv (by first | omega | exact (fun x hx => by have := keepF_mem hkeep x hx; omega) | exact (fun x hx => by have := setF_mem (n := 300) (keepF_mem hkeep) (by omega) (by omega) x hx; omega) | exact (fun x hx => by have := removeF_mem (p := fun x => x.1.length ≤ 300 ∧ x.2.length ≤ 300) (keepF_mem hkeep) x hx; omega) | (have := removeF_length l name; omega) | (have := setF_length l name value; omega) | (have := getF_length l other; omega) | (have := getF_length (setF l name value) name; have := setF_length l name value; omega) | (have := getF_length (setF l name value) other; have := setF_length l name value; omega) | (have := getF_length (removeF l name) other; have := removeF_length l name; omega))) ⟨rfl, trivial⟩ rfl (⟨⟨rfl, .head _⟩, trivial⟩) (fun _ => ?_)
  refine jo_pure rfl (pr_not rfl) ?_
  refine jo_pure rfl (pr_move rfl) ?_
  refine jo_gpure (j := 3) (want := false) rfl rfl rfl rfl (fun hg => pr_move rfl) ?_
  refine jo_gpure (j := 3) (want := false) rfl rfl rfl rfl (fun hg => pr_slen (evg rfl hg) Tryd.underlying9) ?_
  refine jo_gpure (j := 3) (want := false) rfl rfl rfl rfl (fun hg => pr_gtrN (m := name.length) (n := 300) (evg rfl hg) rfl) ?_
  refine jo_pure rfl (pr_pick_or rfl rfl rfl) ?_
  refine jo_pure rfl (pr_move rfl) ?_
  refine jo_gpure (j := 8) (want := false) rfl rfl rfl rfl (fun hg => pr_move rfl) ?_
  refine jo_gpure (j := 8) (want := false) rfl rfl rfl rfl (fun hg => pr_slen (evg rfl hg) Tryd.underlying9) ?_
  refine jo_gpure (j := 8) (want := false) rfl rfl rfl rfl (fun hg => pr_gtrN (m := value.length) (n := 300) (evg rfl hg) rfl) ?_
  refine jo_pure rfl (pr_pick_or rfl rfl rfl) ?_
  refine jo_pure rfl (pr_move rfl) ?_
  refine jo_gpure (j := 13) (want := false) rfl rfl rfl rfl (fun hg => pr_move rfl) ?_
  refine jo_gpure (j := 13) (want := false) rfl rfl rfl rfl (fun hg => pr_slen (evg rfl hg) Tryd.underlying9) ?_
  refine jo_gpure (j := 13) (want := false) rfl rfl rfl rfl (fun hg => pr_gtrN (m := other.length) (n := 300) (evg rfl hg) rfl) ?_
  refine jo_pure rfl (pr_pick_or rfl rfl rfl) ?_
  refine jo_pure rfl (pr_move rfl) ?_
  refine jo_gpure (j := 18) (want := false) rfl rfl rfl rfl (fun hg => pr_move rfl) ?_
  refine jo_gpure (j := 18) (want := false) rfl rfl rfl rfl (fun hg => pr_move rfl) ?_
  refine jo_gcall (j := 18) (want := false) rfl rfl rfl cal_37 (fun hg => c_ref01_Fold name other (by simp at hg; omega) (by simp at hg; omega)) (fun hg => ⟨evg rfl hg, evg rfl hg, trivial⟩) rfl (fun _ => trivial) ?_
  refine jo_pure rfl (pr_pick_or rfl rfl rfl) ?_
  refine jo_nil ?_
  refine jq_then ?_
  refine jc_cond rfl (fun h1b => ?_) (fun h1b => ?_)
  · have h1 := (fun q => Or.imp (fun q => Or.imp (fun q => Or.imp (fun q => Or.imp (fun q => id (bt_not q)) of_decide_eq_true (bt_or q)) of_decide_eq_true (bt_or q)) of_decide_eq_true (bt_or q)) id (bt_or q)) h1b
    refine jc_seq ?_
    refine jc_region ?_
    refine jo_pure rfl (pr_assign rfl) ?_
    refine jo_nil ?_
    refine jq_then ?_
    refine jc_ret ?_
    refine jq_then_ret ?_
    refine j_drop ?_
    exact jq_ret1 rfl () rfl (show (_ : Value) = (.bool (true)) from rfl) (fun _ h => h)
  · have h1 := (fun q => And.imp (fun q => And.imp (fun q => And.imp (fun q => And.imp (fun q => id (bf_not q)) of_decide_eq_false (bf_or q)) of_decide_eq_false (bf_or q)) of_decide_eq_false (bf_or q)) id (bf_or q)) h1b
    have hc := h1; simp at hc
    have hkeep : keepF l = true := hc.1.1.1.1
    have hne : fold name other = false := by simpa using hc.2
    have hn1 : name.length ≤ 300 := hc.1.1.1.2
    have hn2 : value.length ≤ 300 := hc.1.1.2
    have hn3 : other.length ≤ 300 := hc.1.2
    have hlen := keepF_len hkeep
    refine jc_skip ?_
    refine jq_then ?_
    refine jc_seq ?_
    refine jc_region ?_
    refine jo_pure rfl (pr_move rfl) ?_
    refine jo_pure rfl (pr_move rfl) ?_
    refine jo_pure rfl (pr_move rfl) ?_
    refine jo_callp cal_35 (c_fieldline_Set l lv name value (by first | omega | exact (fun x hx => by have := keepF_mem hkeep x hx; omega) | exact (fun x hx => by have := setF_mem (n := 300) (keepF_mem hkeep) (by omega) (by omega) x hx; omega) | exact (fun x hx => by have := removeF_mem (p := fun x => x.1.length ≤ 300 ∧ x.2.length ≤ 300) (keepF_mem hkeep) x hx; omega) | (have := removeF_length l name; omega) | (have := setF_length l name value; omega) | (have := getF_length l other; omega) | (have := getF_length (setF l name value) name; have := setF_length l name value; omega) | (have := getF_length (setF l name value) other; have := setF_length l name value; omega) | (have := getF_length (removeF l name) other; have := removeF_length l name; omega)) (by first | omega | exact (fun x hx => by have := keepF_mem hkeep x hx; omega) | exact (fun x hx => by have := setF_mem (n := 300) (keepF_mem hkeep) (by omega) (by omega) x hx; omega) | exact (fun x hx => by have := removeF_mem (p := fun x => x.1.length ≤ 300 ∧ x.2.length ≤ 300) (keepF_mem hkeep) x hx; omega) | (have := removeF_length l name; omega) | (have := setF_length l name value; omega) | (have := getF_length l other; omega) | (have := getF_length (setF l name value) name; have := setF_length l name value; omega) | (have := getF_length (setF l name value) other; have := setF_length l name value; omega) | (have := getF_length (removeF l name) other; have := removeF_length l name; omega)) (by first | omega | exact (fun x hx => by have := keepF_mem hkeep x hx; omega) | exact (fun x hx => by have := setF_mem (n := 300) (keepF_mem hkeep) (by omega) (by omega) x hx; omega) | exact (fun x hx => by have := removeF_mem (p := fun x => x.1.length ≤ 300 ∧ x.2.length ≤ 300) (keepF_mem hkeep) x hx; omega) | (have := removeF_length l name; omega) | (have := setF_length l name value; omega) | (have := getF_length l other; omega) | (have := getF_length (setF l name value) name; have := setF_length l name value; omega) | (have := getF_length (setF l name value) other; have := setF_length l name value; omega) | (have := getF_length (removeF l name) other; have := removeF_length l name; omega)) (by first | omega | exact (fun x hx => by have := keepF_mem hkeep x hx; omega) | exact (fun x hx => by have := setF_mem (n := 300) (keepF_mem hkeep) (by omega) (by omega) x hx; omega) | exact (fun x hx => by have := removeF_mem (p := fun x => x.1.length ≤ 300 ∧ x.2.length ≤ 300) (keepF_mem hkeep) x hx; omega) | (have := removeF_length l name; omega) | (have := setF_length l name value; omega) | (have := getF_length l other; omega) | (have := getF_length (setF l name value) name; have := setF_length l name value; omega) | (have := getF_length (setF l name value) other; have := setF_length l name value; omega) | (have := getF_length (removeF l name) other; have := removeF_length l name; omega))) ⟨rfl, rfl, rfl, trivial⟩ rfl (⟨⟨rfl, .head _⟩, trivial⟩) (fun r1 => ?_)
    show J _ _ [.row (r1) 23 (.pair .str .str) (setF l name value), .imm (.list (.pair .str .str)) (lv) (l)] _
    refine jo_pure rfl (pr_move rfl) ?_
    refine jo_pure rfl (pr_move rfl) ?_
    refine jo_callp cal_33 (c_fieldline_Remove l lv name (by first | omega | exact (fun x hx => by have := keepF_mem hkeep x hx; omega) | exact (fun x hx => by have := setF_mem (n := 300) (keepF_mem hkeep) (by omega) (by omega) x hx; omega) | exact (fun x hx => by have := removeF_mem (p := fun x => x.1.length ≤ 300 ∧ x.2.length ≤ 300) (keepF_mem hkeep) x hx; omega) | (have := removeF_length l name; omega) | (have := setF_length l name value; omega) | (have := getF_length l other; omega) | (have := getF_length (setF l name value) name; have := setF_length l name value; omega) | (have := getF_length (setF l name value) other; have := setF_length l name value; omega) | (have := getF_length (removeF l name) other; have := removeF_length l name; omega)) (by first | omega | exact (fun x hx => by have := keepF_mem hkeep x hx; omega) | exact (fun x hx => by have := setF_mem (n := 300) (keepF_mem hkeep) (by omega) (by omega) x hx; omega) | exact (fun x hx => by have := removeF_mem (p := fun x => x.1.length ≤ 300 ∧ x.2.length ≤ 300) (keepF_mem hkeep) x hx; omega) | (have := removeF_length l name; omega) | (have := setF_length l name value; omega) | (have := getF_length l other; omega) | (have := getF_length (setF l name value) name; have := setF_length l name value; omega) | (have := getF_length (setF l name value) other; have := setF_length l name value; omega) | (have := getF_length (removeF l name) other; have := removeF_length l name; omega)) (by first | omega | exact (fun x hx => by have := keepF_mem hkeep x hx; omega) | exact (fun x hx => by have := setF_mem (n := 300) (keepF_mem hkeep) (by omega) (by omega) x hx; omega) | exact (fun x hx => by have := removeF_mem (p := fun x => x.1.length ≤ 300 ∧ x.2.length ≤ 300) (keepF_mem hkeep) x hx; omega) | (have := removeF_length l name; omega) | (have := setF_length l name value; omega) | (have := getF_length l other; omega) | (have := getF_length (setF l name value) name; have := setF_length l name value; omega) | (have := getF_length (setF l name value) other; have := setF_length l name value; omega) | (have := getF_length (removeF l name) other; have := removeF_length l name; omega))) ⟨rfl, rfl, trivial⟩ rfl (⟨⟨rfl, .tail _ (.head _)⟩, trivial⟩) (fun r2 => ?_)
    show J _ _ [.row (r2) 23 (.pair .str .str) (removeF l name), .row (r1) 23 (.pair .str .str) (setF l name value), .imm (.list (.pair .str .str)) (lv) (l)] _
    refine jo_pure rfl (pr_assign rfl) ?_
    refine jo_pure rfl (pr_assign rfl) ?_
    refine jo_nil ?_
    refine jq_then ?_
    refine jc_seq ?_
    refine jc_region ?_
    refine jo_pure rfl (pr_move rfl) ?_
    refine jo_pure rfl (pr_move rfl) ?_
    refine jo_callp cal_28 (c_fieldline_Get l lv other (by first | omega | exact (fun x hx => by have := keepF_mem hkeep x hx; omega) | exact (fun x hx => by have := setF_mem (n := 300) (keepF_mem hkeep) (by omega) (by omega) x hx; omega) | exact (fun x hx => by have := removeF_mem (p := fun x => x.1.length ≤ 300 ∧ x.2.length ≤ 300) (keepF_mem hkeep) x hx; omega) | (have := removeF_length l name; omega) | (have := setF_length l name value; omega) | (have := getF_length l other; omega) | (have := getF_length (setF l name value) name; have := setF_length l name value; omega) | (have := getF_length (setF l name value) other; have := setF_length l name value; omega) | (have := getF_length (removeF l name) other; have := removeF_length l name; omega)) (by first | omega | exact (fun x hx => by have := keepF_mem hkeep x hx; omega) | exact (fun x hx => by have := setF_mem (n := 300) (keepF_mem hkeep) (by omega) (by omega) x hx; omega) | exact (fun x hx => by have := removeF_mem (p := fun x => x.1.length ≤ 300 ∧ x.2.length ≤ 300) (keepF_mem hkeep) x hx; omega) | (have := removeF_length l name; omega) | (have := setF_length l name value; omega) | (have := getF_length l other; omega) | (have := getF_length (setF l name value) name; have := setF_length l name value; omega) | (have := getF_length (setF l name value) other; have := setF_length l name value; omega) | (have := getF_length (removeF l name) other; have := removeF_length l name; omega)) (by first | omega | exact (fun x hx => by have := keepF_mem hkeep x hx; omega) | exact (fun x hx => by have := setF_mem (n := 300) (keepF_mem hkeep) (by omega) (by omega) x hx; omega) | exact (fun x hx => by have := removeF_mem (p := fun x => x.1.length ≤ 300 ∧ x.2.length ≤ 300) (keepF_mem hkeep) x hx; omega) | (have := removeF_length l name; omega) | (have := setF_length l name value; omega) | (have := getF_length l other; omega) | (have := getF_length (setF l name value) name; have := setF_length l name value; omega) | (have := getF_length (setF l name value) other; have := setF_length l name value; omega) | (have := getF_length (removeF l name) other; have := removeF_length l name; omega))) ⟨rfl, rfl, trivial⟩ rfl (⟨⟨rfl, .tail _ (.tail _ (.head _))⟩, trivial⟩) (fun r3 => ?_)
    show J _ _ [.row (r3) 9 .str (getF l other), .row (r2) 23 (.pair .str .str) (removeF l name), .row (r1) 23 (.pair .str .str) (setF l name value), .imm (.list (.pair .str .str)) (lv) (l)] _
    refine jo_pure rfl (pr_assign rfl) ?_
    refine jo_nil ?_
    refine jq_then ?_
    refine jc_seq ?_
    refine jc_region ?_
    refine jo_pure rfl (pr_move rfl) ?_
    refine jo_pure rfl (pr_move rfl) ?_
    refine j_pull2 ?_
    refine j_pub_row ?_
    refine jo_callp cal_28 (c_fieldline_Get (setF l name value) r1 name (by first | omega | exact (fun x hx => by have := keepF_mem hkeep x hx; omega) | exact (fun x hx => by have := setF_mem (n := 300) (keepF_mem hkeep) (by omega) (by omega) x hx; omega) | exact (fun x hx => by have := removeF_mem (p := fun x => x.1.length ≤ 300 ∧ x.2.length ≤ 300) (keepF_mem hkeep) x hx; omega) | (have := removeF_length l name; omega) | (have := setF_length l name value; omega) | (have := getF_length l other; omega) | (have := getF_length (setF l name value) name; have := setF_length l name value; omega) | (have := getF_length (setF l name value) other; have := setF_length l name value; omega) | (have := getF_length (removeF l name) other; have := removeF_length l name; omega)) (by first | omega | exact (fun x hx => by have := keepF_mem hkeep x hx; omega) | exact (fun x hx => by have := setF_mem (n := 300) (keepF_mem hkeep) (by omega) (by omega) x hx; omega) | exact (fun x hx => by have := removeF_mem (p := fun x => x.1.length ≤ 300 ∧ x.2.length ≤ 300) (keepF_mem hkeep) x hx; omega) | (have := removeF_length l name; omega) | (have := setF_length l name value; omega) | (have := getF_length l other; omega) | (have := getF_length (setF l name value) name; have := setF_length l name value; omega) | (have := getF_length (setF l name value) other; have := setF_length l name value; omega) | (have := getF_length (removeF l name) other; have := removeF_length l name; omega)) (by first | omega | exact (fun x hx => by have := keepF_mem hkeep x hx; omega) | exact (fun x hx => by have := setF_mem (n := 300) (keepF_mem hkeep) (by omega) (by omega) x hx; omega) | exact (fun x hx => by have := removeF_mem (p := fun x => x.1.length ≤ 300 ∧ x.2.length ≤ 300) (keepF_mem hkeep) x hx; omega) | (have := removeF_length l name; omega) | (have := setF_length l name value; omega) | (have := getF_length l other; omega) | (have := getF_length (setF l name value) name; have := setF_length l name value; omega) | (have := getF_length (setF l name value) other; have := setF_length l name value; omega) | (have := getF_length (removeF l name) other; have := removeF_length l name; omega))) ⟨rfl, rfl, trivial⟩ rfl (⟨⟨rfl, .head _⟩, trivial⟩) (fun r4 => ?_)
    show J _ _ [.row (r4) 9 .str (getF (setF l name value) name), .imm (.list (.pair .str .str)) (r1) (setF l name value), .row (r3) 9 .str (getF l other), .row (r2) 23 (.pair .str .str) (removeF l name), .imm (.list (.pair .str .str)) (lv) (l)] _
    refine jo_pure rfl (pr_move rfl) ?_
    refine jo_buildSlice (t := .str) [value] [str (value)] (fun a hf => by simp only [List.zipIdx_cons, List.zipIdx_nil, List.map_toArray, List.map_cons, List.map_nil, hf.ev (show ev _ (.tmp 48) = some (str (value)) from rfl)]) rfl Tryd.underlying36 ty_9 rfl rfl rfl rfl rfl (fun g1 => ?_)
    refine j_pull1 ?_
    refine j_pub_row ?_
    refine j_pull1 ?_
    refine j_pub_rowg ?_
    refine jo_callp cal_27 (c_keep_SameStrings (getF (setF l name value) name) r4 [value] (.slice (some ⟨g1, 0, none⟩) ([value]).length (([value]).length)) (by first | omega | exact (fun x hx => by have := keepF_mem hkeep x hx; omega) | exact (fun x hx => by have := setF_mem (n := 300) (keepF_mem hkeep) (by omega) (by omega) x hx; omega) | exact (fun x hx => by have := removeF_mem (p := fun x => x.1.length ≤ 300 ∧ x.2.length ≤ 300) (keepF_mem hkeep) x hx; omega) | (have := removeF_length l name; omega) | (have := setF_length l name value; omega) | (have := getF_length l other; omega) | (have := getF_length (setF l name value) name; have := setF_length l name value; omega) | (have := getF_length (setF l name value) other; have := setF_length l name value; omega) | (have := getF_length (removeF l name) other; have := removeF_length l name; omega))) ⟨rfl, rfl, trivial⟩ rfl (⟨⟨rfl, .tail _ (.head _)⟩, ⟨⟨rfl, .head _⟩, trivial⟩⟩) (fun _ => ?_)
    refine jo_pure rfl (pr_move rfl) ?_
    have ht1 : (decide ((getF (setF l name value) name) = [value])) = true := by simp [get_set, get_remove, get_set_other hne, get_remove_other hne]
    refine jo_run (j := 6) (want := true) rfl rfl (ht1) ?_
    refine jo_pure rfl (pr_move rfl) ?_
    refine jo_run (j := 6) (want := true) rfl rfl (ht1) ?_
    refine jo_pure rfl (pr_move rfl) ?_
    refine jo_run (j := 6) (want := true) rfl rfl (ht1) ?_
    refine j_pull4 ?_
    refine j_pub_row ?_
    refine jo_callp cal_30 (c_fieldline_Has (removeF l name) r2 name (by first | omega | exact (fun x hx => by have := keepF_mem hkeep x hx; omega) | exact (fun x hx => by have := setF_mem (n := 300) (keepF_mem hkeep) (by omega) (by omega) x hx; omega) | exact (fun x hx => by have := removeF_mem (p := fun x => x.1.length ≤ 300 ∧ x.2.length ≤ 300) (keepF_mem hkeep) x hx; omega) | (have := removeF_length l name; omega) | (have := setF_length l name value; omega) | (have := getF_length l other; omega) | (have := getF_length (setF l name value) name; have := setF_length l name value; omega) | (have := getF_length (setF l name value) other; have := setF_length l name value; omega) | (have := getF_length (removeF l name) other; have := removeF_length l name; omega)) (by first | omega | exact (fun x hx => by have := keepF_mem hkeep x hx; omega) | exact (fun x hx => by have := setF_mem (n := 300) (keepF_mem hkeep) (by omega) (by omega) x hx; omega) | exact (fun x hx => by have := removeF_mem (p := fun x => x.1.length ≤ 300 ∧ x.2.length ≤ 300) (keepF_mem hkeep) x hx; omega) | (have := removeF_length l name; omega) | (have := setF_length l name value; omega) | (have := getF_length l other; omega) | (have := getF_length (setF l name value) name; have := setF_length l name value; omega) | (have := getF_length (setF l name value) other; have := setF_length l name value; omega) | (have := getF_length (removeF l name) other; have := removeF_length l name; omega)) (by first | omega | exact (fun x hx => by have := keepF_mem hkeep x hx; omega) | exact (fun x hx => by have := setF_mem (n := 300) (keepF_mem hkeep) (by omega) (by omega) x hx; omega) | exact (fun x hx => by have := removeF_mem (p := fun x => x.1.length ≤ 300 ∧ x.2.length ≤ 300) (keepF_mem hkeep) x hx; omega) | (have := removeF_length l name; omega) | (have := setF_length l name value; omega) | (have := getF_length l other; omega) | (have := getF_length (setF l name value) name; have := setF_length l name value; omega) | (have := getF_length (setF l name value) other; have := setF_length l name value; omega) | (have := getF_length (removeF l name) other; have := removeF_length l name; omega))) ⟨rfl, rfl, trivial⟩ rfl (⟨⟨rfl, .head _⟩, trivial⟩) (fun _ => ?_)
    refine jo_run (j := 6) (want := true) rfl rfl (ht1) ?_
    refine jo_pure rfl (pr_not rfl) ?_
    refine jo_pure rfl (pr_pick_t rfl (ht1) rfl) ?_
    refine jo_pure rfl (pr_move rfl) ?_
    have ht2 : ((!decide (0 < (getF (removeF l name) name).length))) = true := by simp [get_set, get_remove, get_set_other hne, get_remove_other hne]
    refine jo_run (j := 12) (want := true) rfl rfl (ht2) ?_
    refine jo_pure rfl (pr_move rfl) ?_
    refine jo_run (j := 12) (want := true) rfl rfl (ht2) ?_
    refine jo_pure rfl (pr_move rfl) ?_
    refine jo_run (j := 12) (want := true) rfl rfl (ht2) ?_
    refine jo_callp cal_28 (c_fieldline_Get (setF l name value) r1 other (by first | omega | exact (fun x hx => by have := keepF_mem hkeep x hx; omega) | exact (fun x hx => by have := setF_mem (n := 300) (keepF_mem hkeep) (by omega) (by omega) x hx; omega) | exact (fun x hx => by have := removeF_mem (p := fun x => x.1.length ≤ 300 ∧ x.2.length ≤ 300) (keepF_mem hkeep) x hx; omega) | (have := removeF_length l name; omega) | (have := setF_length l name value; omega) | (have := getF_length l other; omega) | (have := getF_length (setF l name value) name; have := setF_length l name value; omega) | (have := getF_length (setF l name value) other; have := setF_length l name value; omega) | (have := getF_length (removeF l name) other; have := removeF_length l name; omega)) (by first | omega | exact (fun x hx => by have := keepF_mem hkeep x hx; omega) | exact (fun x hx => by have := setF_mem (n := 300) (keepF_mem hkeep) (by omega) (by omega) x hx; omega) | exact (fun x hx => by have := removeF_mem (p := fun x => x.1.length ≤ 300 ∧ x.2.length ≤ 300) (keepF_mem hkeep) x hx; omega) | (have := removeF_length l name; omega) | (have := setF_length l name value; omega) | (have := getF_length l other; omega) | (have := getF_length (setF l name value) name; have := setF_length l name value; omega) | (have := getF_length (setF l name value) other; have := setF_length l name value; omega) | (have := getF_length (removeF l name) other; have := removeF_length l name; omega)) (by first | omega | exact (fun x hx => by have := keepF_mem hkeep x hx; omega) | exact (fun x hx => by have := setF_mem (n := 300) (keepF_mem hkeep) (by omega) (by omega) x hx; omega) | exact (fun x hx => by have := removeF_mem (p := fun x => x.1.length ≤ 300 ∧ x.2.length ≤ 300) (keepF_mem hkeep) x hx; omega) | (have := removeF_length l name; omega) | (have := setF_length l name value; omega) | (have := getF_length l other; omega) | (have := getF_length (setF l name value) name; have := setF_length l name value; omega) | (have := getF_length (setF l name value) other; have := setF_length l name value; omega) | (have := getF_length (removeF l name) other; have := removeF_length l name; omega))) ⟨rfl, rfl, trivial⟩ rfl (⟨⟨rfl, .tail _ (.tail _ (.tail _ (.head _)))⟩, trivial⟩) (fun r5 => ?_)
    show J _ _ [.row (r5) 9 .str (getF (setF l name value) other), .imm (.list (.pair .str .str)) (r2) (removeF l name), .imm (.list .str) (.slice (some ⟨g1, 0, none⟩) ([value]).length (([value]).length)) ([value]), .imm (.list .str) (r4) (getF (setF l name value) name), .imm (.list (.pair .str .str)) (r1) (setF l name value), .row (r3) 9 .str (getF l other), .imm (.list (.pair .str .str)) (lv) (l)] _
    refine jo_run (j := 12) (want := true) rfl rfl (ht2) ?_
    refine jo_pure rfl (pr_move rfl) ?_
    refine jo_run (j := 12) (want := true) rfl rfl (ht2) ?_
    refine j_pub_row ?_
    refine j_pull5 ?_
    refine j_pub_row ?_
    refine jo_callp cal_27 (c_keep_SameStrings (getF (setF l name value) other) r5 (getF l other) r3 (by first | omega | exact (fun x hx => by have := keepF_mem hkeep x hx; omega) | exact (fun x hx => by have := setF_mem (n := 300) (keepF_mem hkeep) (by omega) (by omega) x hx; omega) | exact (fun x hx => by have := removeF_mem (p := fun x => x.1.length ≤ 300 ∧ x.2.length ≤ 300) (keepF_mem hkeep) x hx; omega) | (have := removeF_length l name; omega) | (have := setF_length l name value; omega) | (have := getF_length l other; omega) | (have := getF_length (setF l name value) name; have := setF_length l name value; omega) | (have := getF_length (setF l name value) other; have := setF_length l name value; omega) | (have := getF_length (removeF l name) other; have := removeF_length l name; omega))) ⟨rfl, rfl, trivial⟩ rfl (⟨⟨rfl, .tail _ (.head _)⟩, ⟨⟨rfl, .head _⟩, trivial⟩⟩) (fun _ => ?_)
    refine jo_pure rfl (pr_pick_t rfl (ht2) rfl) ?_
    refine jo_pure rfl (pr_move rfl) ?_
    have ht3 : (decide ((getF (setF l name value) other) = (getF l other))) = true := by simp [get_set, get_remove, get_set_other hne, get_remove_other hne]
    refine jo_run (j := 19) (want := true) rfl rfl (ht3) ?_
    refine jo_pure rfl (pr_move rfl) ?_
    refine jo_run (j := 19) (want := true) rfl rfl (ht3) ?_
    refine jo_pure rfl (pr_move rfl) ?_
    refine jo_run (j := 19) (want := true) rfl rfl (ht3) ?_
    refine jo_callp cal_28 (c_fieldline_Get (removeF l name) r2 other (by first | omega | exact (fun x hx => by have := keepF_mem hkeep x hx; omega) | exact (fun x hx => by have := setF_mem (n := 300) (keepF_mem hkeep) (by omega) (by omega) x hx; omega) | exact (fun x hx => by have := removeF_mem (p := fun x => x.1.length ≤ 300 ∧ x.2.length ≤ 300) (keepF_mem hkeep) x hx; omega) | (have := removeF_length l name; omega) | (have := setF_length l name value; omega) | (have := getF_length l other; omega) | (have := getF_length (setF l name value) name; have := setF_length l name value; omega) | (have := getF_length (setF l name value) other; have := setF_length l name value; omega) | (have := getF_length (removeF l name) other; have := removeF_length l name; omega)) (by first | omega | exact (fun x hx => by have := keepF_mem hkeep x hx; omega) | exact (fun x hx => by have := setF_mem (n := 300) (keepF_mem hkeep) (by omega) (by omega) x hx; omega) | exact (fun x hx => by have := removeF_mem (p := fun x => x.1.length ≤ 300 ∧ x.2.length ≤ 300) (keepF_mem hkeep) x hx; omega) | (have := removeF_length l name; omega) | (have := setF_length l name value; omega) | (have := getF_length l other; omega) | (have := getF_length (setF l name value) name; have := setF_length l name value; omega) | (have := getF_length (setF l name value) other; have := setF_length l name value; omega) | (have := getF_length (removeF l name) other; have := removeF_length l name; omega)) (by first | omega | exact (fun x hx => by have := keepF_mem hkeep x hx; omega) | exact (fun x hx => by have := setF_mem (n := 300) (keepF_mem hkeep) (by omega) (by omega) x hx; omega) | exact (fun x hx => by have := removeF_mem (p := fun x => x.1.length ≤ 300 ∧ x.2.length ≤ 300) (keepF_mem hkeep) x hx; omega) | (have := removeF_length l name; omega) | (have := setF_length l name value; omega) | (have := getF_length l other; omega) | (have := getF_length (setF l name value) name; have := setF_length l name value; omega) | (have := getF_length (setF l name value) other; have := setF_length l name value; omega) | (have := getF_length (removeF l name) other; have := removeF_length l name; omega))) ⟨rfl, rfl, trivial⟩ rfl (⟨⟨rfl, .tail _ (.tail _ (.head _))⟩, trivial⟩) (fun r6 => ?_)
    show J _ _ [.row (r6) 9 .str (getF (removeF l name) other), .imm (.list .str) (r3) (getF l other), .imm (.list .str) (r5) (getF (setF l name value) other), .imm (.list (.pair .str .str)) (r2) (removeF l name), .imm (.list .str) (.slice (some ⟨g1, 0, none⟩) ([value]).length (([value]).length)) ([value]), .imm (.list .str) (r4) (getF (setF l name value) name), .imm (.list (.pair .str .str)) (r1) (setF l name value), .imm (.list (.pair .str .str)) (lv) (l)] _
    refine jo_run (j := 19) (want := true) rfl rfl (ht3) ?_
    refine jo_pure rfl (pr_move rfl) ?_
    refine jo_run (j := 19) (want := true) rfl rfl (ht3) ?_
    refine j_pub_row ?_
    refine jo_callp cal_27 (c_keep_SameStrings (getF (removeF l name) other) r6 (getF l other) r3 (by first | omega | exact (fun x hx => by have := keepF_mem hkeep x hx; omega) | exact (fun x hx => by have := setF_mem (n := 300) (keepF_mem hkeep) (by omega) (by omega) x hx; omega) | exact (fun x hx => by have := removeF_mem (p := fun x => x.1.length ≤ 300 ∧ x.2.length ≤ 300) (keepF_mem hkeep) x hx; omega) | (have := removeF_length l name; omega) | (have := setF_length l name value; omega) | (have := getF_length l other; omega) | (have := getF_length (setF l name value) name; have := setF_length l name value; omega) | (have := getF_length (setF l name value) other; have := setF_length l name value; omega) | (have := getF_length (removeF l name) other; have := removeF_length l name; omega))) ⟨rfl, rfl, trivial⟩ rfl (⟨⟨rfl, .head _⟩, ⟨⟨rfl, .tail _ (.head _)⟩, trivial⟩⟩) (fun _ => ?_)
    refine jo_pure rfl (pr_pick_t rfl (ht3) rfl) ?_
    refine jo_pure rfl (pr_move rfl) ?_
    have ht4 : (decide ((getF (removeF l name) other) = (getF l other))) = true := by simp [get_set, get_remove, get_set_other hne, get_remove_other hne]
    refine jo_run (j := 26) (want := true) rfl rfl (ht4) ?_
    refine jo_callp cal_19 (c_law03_awake) trivial rfl (trivial) (fun _ => ?_)
    refine jo_pure rfl (pr_pick_t rfl (ht4) rfl) ?_
    refine jo_pure rfl (pr_assign rfl) ?_
    refine jo_nil ?_
    refine jq_then ?_
    refine jc_ret ?_
    refine j_drop ?_
    refine j_drop ?_
    refine j_drop ?_
    refine j_drop ?_
    refine j_drop ?_
    refine j_drop ?_
    refine j_drop ?_
    refine j_drop ?_
    exact jq_ret1 rfl () rfl (show (_ : Value) = (.bool (true)) from by simp [get_set, get_remove, get_set_other hne, get_remove_other hne]) (fun _ h => h)
end Go.Proofs.YtaicfjchbhnegaaDoor
