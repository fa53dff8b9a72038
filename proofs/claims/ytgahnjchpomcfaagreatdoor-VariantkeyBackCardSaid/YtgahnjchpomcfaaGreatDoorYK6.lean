/-
  Contracts of functions of the program: each returns what a plain function says, for every input within the bounds named. Conditions: the bounds.
-/
import Derived.Test.YtgahnjchpomcfaaGreatDoorRows
import Derived.Test.YtgahnjchpomcfaaGreatDoorYK5
namespace Go.Proofs.YtgahnjchpomcfaaGreatDoor
open Go Go.Sep
set_option linter.unusedSimpArgs false
set_option linter.unusedVariables false

open Go.Plain

theorem cal_75 : Cal Tryz.prog 75 := cal_of Tryz.func75 (by kernel_rfl) rfl
theorem cal_76 : Cal Tryz.prog 76 := cal_of Tryz.func76 (by kernel_rfl) rfl
theorem ty_23 : TyF Tryz.prog 23 false 1 24 (some (.slice none 0 0)) := ⟨by kernel_rfl, by kernel_rfl⟩

theorem c_ref10_ParseKeys (l : List ((List UInt8) × (List UInt8))) (lv : Value) (axes : List ((List UInt8) × (List (List UInt8)))) (axesv : Value) (hl : l.length ≤ 1000000) (hm : ∀ x ∈ l, x.1.length ≤ 300000 ∧ x.2.length ≤ 300000) (hal : axes.length ≤ 9223372036854775807) (ham : ∀ a ∈ axes, a.1.length ≤ 1000000 ∧ a.2.length ≤ 1000000 ∧ ∀ x ∈ a.2, x.length ≤ 300000) : Con Tryz.prog 15 #[lv, axesv] [.imm (.list (.pair .str .str)) (lv) (l), .imm (.list (.pair .str (.list .str))) (axesv) (axes)] (fun r1 : Value => .tuple #[r1, .int .i64 ((parseK l axes).2)]) (fun r1 => [.imm (.list (.list .str)) r1 ((parseK l axes).1)]) := by
  refine con_of_J (args := [lv, axesv]) (n := 134) Tryz.func15 rfl (Nat.le_of_ble_eq_true rfl) rfl (fun w0 I0 m0 => ?_)
  show J _ [(0, lv), (1, axesv)] [.imm (.list (.pair .str .str)) (lv) (l), .imm (.list (.pair .str (.list .str))) (axesv) (axes)] _
  have hm6 : ∀ x ∈ l, x.1.length ≤ 1000000 ∧ x.2.length ≤ 1000000 := fun x hx => by have := hm x hx; omega
  have hM : ∀ x ∈ (allF l [86, 97, 114, 105, 97, 110, 116, 45, 75, 101, 121]), x.length ≤ 300000 := allV_mem (getF_mem (n := 300000) hm)
  have hM64 : (allF l [86, 97, 114, 105, 97, 110, 116, 45, 75, 101, 121]).length ≤ 64 := allV_length _
  have hav : ∀ a ∈ axes, a.1.length ≤ 1000000 ∧ (∀ x ∈ a.2, x.length ≤ 300000) ∧ a.2.length ≤ 9223372036854775807 := fun a ha => by have := ham a ha; exact ⟨by omega, this.2.2, by omega⟩
  have hRl : (readM (allF l [86, 97, 114, 105, 97, 110, 116, 45, 75, 101, 121])).length = (allF l [86, 97, 114, 105, 97, 110, 116, 45, 75, 101, 121]).length := readM_length _
  have hRm := readM_mem hM
  refine jc_seq ?_
  refine jc_region ?_
  refine jo_pure rfl (pr_assign rfl) ?_
  refine jo_pure rfl (pr_assign rfl) ?_
  refine jo_nil ?_
  refine jq_then ?_
  refine jc_seq ?_
  refine jc_seq ?_
  refine jc_region ?_
  refine jo_pure rfl (pr_move rfl) ?_
  refine jo_callp cal_19 (c_ref10_Valid axes axesv (by first | omega | rfl | exact hm6 | exact hav | exact hA.1 | exact hA.2.2 _ (getD_mem h8) | exact hGm _ (getD_mem (by omega)) | (rw [hkey, resV_length]; omega) | exact hg3 _ (getD_mem (dd := []) h11) | (have := getD_len (i := i) hM; omega) | decide) (by first | omega | rfl | exact hm6 | exact hav | exact hA.1 | exact hA.2.2 _ (getD_mem h8) | exact hGm _ (getD_mem (by omega)) | (rw [hkey, resV_length]; omega) | exact hg3 _ (getD_mem (dd := []) h11) | (have := getD_len (i := i) hM; omega) | decide)) ⟨rfl, trivial⟩ rfl (⟨⟨rfl, .tail _ (.head _)⟩, trivial⟩) (fun _ => ?_)
  refine jo_pure rfl (pr_not rfl) ?_
  refine jo_nil ?_
  refine jq_then ?_
  refine jc_cond rfl (fun h1b => ?_) (fun h1b => ?_)
  · have h1 := (fun q => id (bt_not q)) h1b
    refine jc_seq ?_
    refine jc_region ?_
    refine jo_pure rfl (pr_assign rfl) ?_
    refine jo_pure rfl (pr_assign rfl) ?_
    refine jo_nil ?_
    refine jq_then ?_
    refine jc_ret ?_
    refine jq_then_ret ?_
    refine j_nil_imm (.list .str) ?_
    refine j_pull1 ?_
    refine j_drop ?_
    refine j_pull1 ?_
    refine j_drop ?_
    exact jq_rets (rs := [.tmp 4, .tmp 5]) (vs := [.slice none 0 0, .int .i64 ((10 : Nat) : Int)]) rfl (.slice none 0 0) ⟨resV_tmp rfl, resV_tmp rfl, trivial⟩ rfl (show (.tuple #[(.slice none 0 0), .int .i64 ((parseK l axes).2)] : Value) = (.tuple #[.slice none 0 0, .int .i64 ((10 : Nat) : Int)]) from by rw [pk_range h1] <;> rfl) (fun _ h => by rw [pk_range h1]; exact h)
  · have h1 := (fun q => id (bf_not q)) h1b
    have hv4 := validL_len h1
    have hva := valid_all h1
    refine jc_skip ?_
    refine jq_then ?_
    refine jc_seq ?_
    refine jc_region ?_
    refine jo_pure rfl (pr_move rfl) ?_
    refine jo_callp cal_46 (c_ref01_All l lv [86, 97, 114, 105, 97, 110, 116, 45, 75, 101, 121] (by first | omega | rfl | exact hm6 | exact hav | exact hA.1 | exact hA.2.2 _ (getD_mem h8) | exact hGm _ (getD_mem (by omega)) | (rw [hkey, resV_length]; omega) | exact hg3 _ (getD_mem (dd := []) h11) | (have := getD_len (i := i) hM; omega) | decide) (by first | omega | rfl | exact hm6 | exact hav | exact hA.1 | exact hA.2.2 _ (getD_mem h8) | exact hGm _ (getD_mem (by omega)) | (rw [hkey, resV_length]; omega) | exact hg3 _ (getD_mem (dd := []) h11) | (have := getD_len (i := i) hM; omega) | decide) (by first | omega | rfl | exact hm6 | exact hav | exact hA.1 | exact hA.2.2 _ (getD_mem h8) | exact hGm _ (getD_mem (by omega)) | (rw [hkey, resV_length]; omega) | exact hg3 _ (getD_mem (dd := []) h11) | (have := getD_len (i := i) hM; omega) | decide)) ⟨rfl, rfl, trivial⟩ rfl (⟨⟨rfl, .head _⟩, trivial⟩) (fun r1 => ?_)
    show J _ _ [.row (r1) 9 .str (allF l [86, 97, 114, 105, 97, 110, 116, 45, 75, 101, 121]), .imm (.list (.pair .str .str)) (lv) (l), .imm (.list (.pair .str (.list .str))) (axesv) (axes)] _
    refine jo_pure rfl (pr_assign rfl) ?_
    refine jo_nil ?_
    refine jq_then ?_
    refine jc_seq ?_
    refine jc_seq ?_
    refine jc_region ?_
    refine jo_pure rfl (pr_move rfl) ?_
    refine jo_pure rfl (pr_len_row rfl (.head _) Tryz.underlying45) ?_
    refine jo_pure rfl (pr_eqlN (m := (allF l [86, 97, 114, 105, 97, 110, 116, 45, 75, 101, 121]).length) (n := 0) rfl rfl) ?_
    refine jo_nil ?_
    refine jq_then ?_
    refine jc_cond rfl (fun h2b => ?_) (fun h2b => ?_)
    · have h2 := of_decide_eq_true h2b
      refine jc_seq ?_
      refine jc_region ?_
      refine jo_pure rfl (pr_assign rfl) ?_
      refine jo_pure rfl (pr_assign rfl) ?_
      refine jo_nil ?_
      refine jq_then ?_
      refine jc_ret ?_
      refine jq_then_ret ?_
      refine j_nil_imm (.list .str) ?_
      refine j_pull1 ?_
      refine j_drop ?_
      refine j_pull1 ?_
      refine j_drop ?_
      refine j_pull1 ?_
      refine j_drop ?_
      exact jq_rets (rs := [.tmp 4, .tmp 5]) (vs := [.slice none 0 0, .int .i64 ((12 : Nat) : Int)]) rfl (.slice none 0 0) ⟨resV_tmp rfl, resV_tmp rfl, trivial⟩ rfl (show (.tuple #[(.slice none 0 0), .int .i64 ((parseK l axes).2)] : Value) = (.tuple #[.slice none 0 0, .int .i64 ((12 : Nat) : Int)]) from by rw [pk_none h1 h2] <;> rfl) (fun _ h => by rw [pk_none h1 h2]; exact h)
    · have h2 := of_decide_eq_false h2b
      refine jc_skip ?_
      refine jq_then ?_
      refine jc_seq ?_
      refine jc_region ?_
      refine jo_pure rfl (pr_assign rfl) ?_
      refine jo_nil ?_
      refine jq_then ?_
      refine jc_seq ?_
      refine jc_seq ?_
      refine jc_region ?_
      refine jo_pure rfl (pr_assign rfl) ?_
      refine jo_nil ?_
      refine jq_then ?_
      refine jc_block ?_
      refine j_nil_row 45 (.list .str) ?_
      refine jc_loop3 (fun (i : Nat) (w : Value) (acc : List (List (List UInt8))) => [(1, axesv), (6, r1), (7, w), (8, .int .i64 ((i : Nat) : Int))]) (fun (i : Nat) (w : Value) (acc : List (List (List UInt8))) => [.row (w) 45 (.list .str) (acc), .row (r1) 9 .str (allF l [86, 97, 114, 105, 97, 110, 116, 45, 75, 101, 121]), .imm (.list (.pair .str .str)) (lv) (l), .imm (.list (.pair .str (.list .str))) (axesv) (axes)]) (fun (i : Nat) (w : Value) (acc : List (List (List UInt8))) => i ≤ (allF l [86, 97, 114, 105, 97, 110, 116, 45, 75, 101, 121]).length ∧ acc = readM ((allF l [86, 97, 114, 105, 97, 110, 116, 45, 75, 101, 121]).take i) ∧ ((allF l [86, 97, 114, 105, 97, 110, 116, 45, 75, 101, 121]).take i).all (fun m => (readF m).2) = true) (fun (i : Nat) (w : Value) (acc : List (List (List UInt8))) => (allF l [86, 97, 114, 105, 97, 110, 116, 45, 75, 101, 121]).length - i) 0 (.slice none 0 0) [] (⟨Nat.zero_le _, rfl, rfl⟩) (⟨rfl, rfl, rfl, rfl, trivial⟩) (fun _ h => h) (fun i w acc hinv => ?_)
      have hacl : acc.length ≤ 64 := by rw [hinv.2.1, readM_length, List.length_take]; omega
      refine jc_seq ?_
      refine jc_seq ?_
      refine jc_region ?_
      refine jo_pure rfl (pr_move rfl) ?_
      refine jo_pure rfl (pr_move rfl) ?_
      refine jo_pure rfl (pr_len_row rfl (.tail _ (.head _)) Tryz.underlying45) ?_
      refine jo_pure rfl (pr_lssN (m := i) (n := (allF l [86, 97, 114, 105, 97, 110, 116, 45, 75, 101, 121]).length) rfl rfl) ?_
      refine jo_nil ?_
      refine jq_then ?_
      refine jc_cond rfl (fun h3b => ?_) (fun h3b => ?_)
      · have h3 := of_decide_eq_true h3b
        refine jc_skip ?_
        refine jq_then ?_
        refine jc_seq ?_
        refine jc_block ?_
        refine jc_seq ?_
        refine jc_region ?_
        refine jo_pure rfl (pr_move rfl) ?_
        refine jo_pure rfl (pr_move rfl) ?_
        refine jo_pure rfl (pr_idx_row (i := i) rfl (.tail _ (.head _)) rfl Tryz.underlying45 ty_9 (by first | omega | exact at_lt h10)) ?_
        refine jo_pure rfl (pr_load_elem_row (i := i) (str ((allF l [86, 97, 114, 105, 97, 110, 116, 45, 75, 101, 121]).getD i [])) rfl (.tail _ (.head _)) ty_9 rfl rfl (by first | omega | exact at_lt h10) rfl) ?_
        refine jo_callp cal_47 (c_ref10_values ((allF l [86, 97, 114, 105, 97, 110, 116, 45, 75, 101, 121]).getD i []) (by first | omega | rfl | exact hm6 | exact hav | exact hA.1 | exact hA.2.2 _ (getD_mem h8) | exact hGm _ (getD_mem (by omega)) | (rw [hkey, resV_length]; omega) | exact hg3 _ (getD_mem (dd := []) h11) | (have := getD_len (i := i) hM; omega) | decide)) ⟨rfl, trivial⟩ rfl (trivial) (fun r2 => ?_)
        show J _ _ [.imm (.list .str) (r2) ((readF ((allF l [86, 97, 114, 105, 97, 110, 116, 45, 75, 101, 121]).getD i [])).1), .row (w) 45 (.list .str) (acc), .row (r1) 9 .str (allF l [86, 97, 114, 105, 97, 110, 116, 45, 75, 101, 121]), .imm (.list (.pair .str .str)) (lv) (l), .imm (.list (.pair .str (.list .str))) (axesv) (axes)] _
        refine jo_pure rfl (pr_move rfl) ?_
        refine jo_pure rfl (pr_extract rfl rfl) ?_
        refine jo_pure rfl (pr_extract rfl rfl) ?_
        refine jo_pure rfl (pr_assign rfl) ?_
        refine jo_pure rfl (pr_assign rfl) ?_
        refine jo_nil ?_
        refine jq_then ?_
        refine jc_seq ?_
        refine jc_seq ?_
        refine jc_region ?_
        refine jo_pure rfl (pr_move rfl) ?_
        refine jo_pure rfl (pr_not rfl) ?_
        refine jo_nil ?_
        refine jq_then ?_
        refine jc_cond rfl (fun h4b => ?_) (fun h4b => ?_)
        · have h4 := (fun q => id (bt_not q)) h4b
          refine jc_seq ?_
          refine jc_region ?_
          refine jo_pure rfl (pr_assign rfl) ?_
          refine jo_pure rfl (pr_assign rfl) ?_
          refine jo_nil ?_
          refine jq_then ?_
          refine jc_ret ?_
          refine jq_then_ret ?_
          refine jq_in_ret ?_
          refine jq_then_ret ?_
          refine jq_then_ret ?_
          refine jq_in_ret ?_
          refine jq_then_ret ?_
          refine j_nil_imm (.list .str) ?_
          refine j_pull1 ?_
          refine j_drop ?_
          refine j_pull1 ?_
          refine j_drop ?_
          refine j_pull1 ?_
          refine j_drop ?_
          refine j_pull1 ?_
          refine j_drop ?_
          refine j_pull1 ?_
          refine j_drop ?_
          exact jq_rets (rs := [.tmp 4, .tmp 5]) (vs := [.slice none 0 0, .int .i64 ((1 : Nat) : Int)]) rfl (.slice none 0 0) ⟨resV_tmp rfl, resV_tmp rfl, trivial⟩ rfl (show (.tuple #[(.slice none 0 0), .int .i64 ((parseK l axes).2)] : Value) = (.tuple #[.slice none 0 0, .int .i64 ((1 : Nat) : Int)]) from by rw [pk_syn h1 h2 h3 h4] <;> rfl) (fun _ h => by rw [pk_syn h1 h2 h3 h4]; exact h)
        · have h4 := (fun q => id (bf_not q)) h4b
          refine jc_skip ?_
          refine jq_then ?_
          refine jc_region ?_
          refine jo_pure rfl (pr_move rfl) ?_
          refine jo_pure rfl (pr_move rfl) ?_
          refine jo_buildSliceLV (t := (.list .str)) [(readF ((allF l [86, 97, 114, 105, 97, 110, 116, 45, 75, 101, 121]).getD i [])).1] [r2] [[r2]] (fun a hf => by simp only [List.zipIdx_cons, List.zipIdx_nil, List.map_toArray, List.map_cons, List.map_nil, hf.ev (show ev _ (.tmp 44) = some (r2) from rfl)] <;> rfl) (fun w I m hs => by obtain ⟨_, _, _, e0⟩ := imm_slice (.head _) hs; rw [e0]; rfl) ⟨⟨r2, rfl, .head _⟩, trivial⟩ Tryz.underlying26 ty_45 rfl rfl rfl rfl (fun g1 => ?_)
          refine j_pull2 ?_
          refine jo_append rfl rfl Tryz.underlying26 ty_45 rfl (by simp only [List.length_append, List.length_cons, List.length_nil, maxLen]; omega) (by simp only [List.length_append, List.length_cons, List.length_nil]; omega) rfl (fun v1 => ?_)
          refine jo_pure rfl (pr_assign rfl) ?_
          refine jo_nil ?_
          refine jq_in_normal ?_
          refine jq_then ?_
          refine jc_region ?_
          refine jo_pure rfl (pr_move rfl) ?_
          refine jo_pure rfl (pr_addN (m := i) (n := 1) rfl rfl (by omega)) ?_
          refine jo_pure rfl (pr_assign rfl) ?_
          refine jo_nil ?_
          refine j_pull1 ?_
          refine j_drop ?_
          refine j_pull3 ?_
          refine j_pull3 ?_
          refine j_pull3 ?_
          refine j_pull3 ?_
          refine jq_round' ((i + 1), v1, (acc ++ [(readF ((allF l [86, 97, 114, 105, 97, 110, 116, 45, 75, 101, 121]).getD i [])).1])) (by (try dsimp only); exact (⟨by omega, by rw [readM_step h3, hinv.2.1], all_step (dd := []) h3 hinv.2.2 h4⟩)) (by (try dsimp only); exact (by omega)) ⟨rfl, rfl, rfl, rfl, trivial⟩ (fun _ h => h)
      · have h3 := of_decide_eq_false h3b
        have hallM : (allF l [86, 97, 114, 105, 97, 110, 116, 45, 75, 101, 121]).all (fun m => (readF m).2) = true := all_end (by omega) hinv.2.2
        have hraw : acc = (readM (allF l [86, 97, 114, 105, 97, 110, 116, 45, 75, 101, 121])) := by rw [hinv.2.1, take_over (by omega)]
        refine jc_exit ?_
        refine jq_then_exit ?_
        refine jq_then_exit ?_
        refine jq_in_hit ?_
        refine jq_then ?_
        refine jc_seq ?_
        refine j_pub_row ?_
        refine jc_region ?_
        refine jo_pure rfl (pr_assign rfl) ?_
        refine jo_nil ?_
        refine jq_then ?_
        refine jc_seq ?_
        refine jc_seq ?_
        refine jc_region ?_
        refine jo_pure rfl (pr_assign rfl) ?_
        refine jo_nil ?_
        refine jq_then ?_
        refine jc_block ?_
        refine j_nil_row 45 (.list .str) ?_
        refine jc_loop3 (fun (i2 : Nat) (w2 : Value) (out2 : List (List (List UInt8))) => [(1, axesv), (7, w), (11, w2), (12, .int .i64 ((i2 : Nat) : Int))]) (fun (i2 : Nat) (w2 : Value) (out2 : List (List (List UInt8))) => [.row (w2) 45 (.list .str) (out2), .imm (.list (.list .str)) (w) (acc), .row (r1) 9 .str (allF l [86, 97, 114, 105, 97, 110, 116, 45, 75, 101, 121]), .imm (.list (.pair .str .str)) (lv) (l), .imm (.list (.pair .str (.list .str))) (axesv) (axes)]) (fun (i2 : Nat) (w2 : Value) (out2 : List (List (List UInt8))) => i2 ≤ acc.length ∧ out2 = dedK ((acc.take i2).map (resV axes)) ∧ (acc.take i2).all (resB axes) = true) (fun (i2 : Nat) (w2 : Value) (out2 : List (List (List UInt8))) => acc.length - i2) 0 (.slice none 0 0) [] (⟨Nat.zero_le _, rfl, rfl⟩) (⟨rfl, rfl, rfl, rfl, trivial⟩) (fun _ h => h) (fun i2 w2 out2 hin2 => ?_)
        have hol : out2.length ≤ 64 := by rw [hin2.2.1]; have := ded_len ((acc.take i2).map (resV axes)); rw [List.length_map, List.length_take] at this; omega
        have hg3 : ∀ k ∈ out2, k.length ≤ 9223372036854775807 := fun k hk => by rw [hin2.2.1] at hk; exact ded_mem (P := fun k => k.length ≤ 9223372036854775807) _ (fun z hz => by obtain ⟨y, _, rfl⟩ := List.mem_map.1 hz; rw [resV_length]; omega) k hk
        refine jc_seq ?_
        refine jc_seq ?_
        refine jc_region ?_
        refine jo_pure rfl (pr_move rfl) ?_
        refine jo_pure rfl (pr_move rfl) ?_
        refine jo_pure rfl (pr_len_imm rfl (.tail _ (.head _)) Tryz.underlying26) ?_
        refine jo_pure rfl (pr_lssN (m := i2) (n := acc.length) rfl rfl) ?_
        refine jo_nil ?_
        refine jq_then ?_
        refine jc_cond rfl (fun h5b => ?_) (fun h5b => ?_)
        · have h5 := of_decide_eq_true h5b
          have hG := hRm _ (by rw [← hraw]; exact getD_mem (dd := []) h5)
          have hGm := hG.2
          refine jc_skip ?_
          refine jq_then ?_
          refine jc_seq ?_
          refine jc_block ?_
          refine jc_seq ?_
          refine jc_seq ?_
          refine jc_region ?_
          refine jo_pure rfl (pr_move rfl) ?_
          refine jo_pure rfl (pr_move rfl) ?_
          refine j_open_elem (t := (.list .str)) (i := i2) [] (.tail _ (.head _)) (by first | omega | exact at_lt h10) (fun e1 => ?_)
          show J _ _ (.imm (.list .str) (e1) ((acc.getD i2 [])) :: .fact (fun w_ I_ => ElemAt w_ I_ (w) (i2) 1 [e1]) :: _) _
          refine jo_pure rfl (pr_idx_imm (i := i2) rfl (.tail _ (.tail _ (.tail _ (.head _)))) rfl Tryz.underlying26 ty_45 (by first | omega | exact at_lt h10)) ?_
          refine jo_pure rfl (pr_load_at (e1) rfl (.tail _ (.head _)) ty_45 (by decide) rfl) ?_
          refine jo_pure rfl (pr_len_imm rfl (.head _) Tryz.underlying45) ?_
          refine jo_pure rfl (pr_move rfl) ?_
          refine jo_pure rfl (pr_len_imm rfl (.tail _ (.tail _ (.tail _ (.tail _ (.tail _ (.tail _ (.head _))))))) Tryz.underlying23) ?_
          refine jo_pure rfl (pr_neqN (m := (acc.getD i2 []).length) (n := axes.length) rfl rfl) ?_
          refine jo_nil ?_
          refine jq_then ?_
          refine jc_cond rfl (fun h6b => ?_) (fun h6b => ?_)
          · have h6 := (fun q => of_decide_eq_false (bt_not q)) h6b
            refine jc_seq ?_
            refine jc_region ?_
            refine jo_pure rfl (pr_assign rfl) ?_
            refine jo_pure rfl (pr_assign rfl) ?_
            refine jo_nil ?_
            refine jq_then ?_
            refine jc_ret ?_
            refine jq_then_ret ?_
            refine jq_in_ret ?_
            refine jq_then_ret ?_
            refine jq_then_ret ?_
            refine jq_in_ret ?_
            refine jq_then_ret ?_
            refine j_nil_imm (.list .str) ?_
            refine j_pull1 ?_
            refine j_drop ?_
            refine j_pull1 ?_
            refine j_drop ?_
            refine j_pull1 ?_
            refine j_drop ?_
            refine j_pull1 ?_
            refine j_drop ?_
            refine j_pull1 ?_
            refine j_drop ?_
            refine j_pull1 ?_
            refine j_drop ?_
            refine j_pull1 ?_
            refine j_drop ?_
            exact jq_rets (rs := [.tmp 4, .tmp 5]) (vs := [.slice none 0 0, .int .i64 ((11 : Nat) : Int)]) rfl (.slice none 0 0) ⟨resV_tmp rfl, resV_tmp rfl, trivial⟩ rfl (show (.tuple #[(.slice none 0 0), .int .i64 ((parseK l axes).2)] : Value) = (.tuple #[.slice none 0 0, .int .i64 ((11 : Nat) : Int)]) from by rw [pk_lim (i := i2) h1 h2 hallM (by have h99 := h5; rw [hraw] at h99; exact h99) (by have h99 : resB axes (acc.getD i2 []) = false := res_len (fun e => absurd e (by simpa using h6)); rw [hraw] at h99; exact h99)] <;> rfl) (fun _ h => by rw [pk_lim (i := i2) h1 h2 hallM (by have h99 := h5; rw [hraw] at h99; exact h99) (by have h99 : resB axes (acc.getD i2 []) = false := res_len (fun e => absurd e (by simpa using h6)); rw [hraw] at h99; exact h99)]; exact h)
          · have h6 := (fun q => of_decide_eq_true (bf_not q)) h6b
            have hGl : (acc.getD i2 []).length = axes.length := by simpa using h6
            refine jc_skip ?_
            refine jq_then ?_
            refine jc_seq ?_
            refine jc_region ?_
            refine jo_pure rfl (pr_assign rfl) ?_
            refine jo_nil ?_
            refine jq_then ?_
            refine jc_seq ?_
            refine jc_seq ?_
            refine jc_region ?_
            refine jo_pure rfl (pr_assign rfl) ?_
            refine jo_nil ?_
            refine jq_then ?_
            refine jc_block ?_
            refine j_nil_row 9 .str ?_
            refine jc_loop3 (fun (k : Nat) (kw : Value) (key : List (List UInt8)) => [(1, axesv), (7, w), (11, w2), (12, .int .i64 ((i2 : Nat) : Int)), (13, kw), (14, .int .i64 ((k : Nat) : Int))]) (fun (k : Nat) (kw : Value) (key : List (List UInt8)) => [.row (kw) 9 .str (key), .imm (.list .str) (e1) ((acc.getD i2 [])), .fact (fun w_ I_ => ElemAt w_ I_ (w) (i2) 1 [e1]), .row (w2) 45 (.list .str) (out2), .imm (.list (.list .str)) (w) (acc), .row (r1) 9 .str (allF l [86, 97, 114, 105, 97, 110, 116, 45, 75, 101, 121]), .imm (.list (.pair .str .str)) (lv) (l), .imm (.list (.pair .str (.list .str))) (axesv) (axes)]) (fun (k : Nat) (kw : Value) (key : List (List UInt8)) => k ≤ axes.length ∧ key = (List.range k).map (valAt axes (acc.getD i2 [])) ∧ (List.range k).all (okAt axes (acc.getD i2 [])) = true) (fun (k : Nat) (kw : Value) (key : List (List UInt8)) => axes.length - k) 0 (.slice none 0 0) [] (⟨Nat.zero_le _, rfl, rfl⟩) (⟨rfl, rfl, rfl, rfl, rfl, rfl, trivial⟩) (fun _ h => h) (fun k kw key hinK => ?_)
            have hkl : key.length ≤ 4 := by rw [hinK.2.1, List.length_map, List.length_range]; omega
            refine jc_seq ?_
            refine jc_seq ?_
            refine jc_region ?_
            refine jo_pure rfl (pr_move rfl) ?_
            refine jo_pure rfl (pr_move rfl) ?_
            refine jo_pure rfl (pr_len_imm rfl (.tail _ (.tail _ (.tail _ (.tail _ (.tail _ (.tail _ (.tail _ (.head _)))))))) Tryz.underlying23) ?_
            refine jo_pure rfl (pr_lssN (m := k) (n := axes.length) rfl rfl) ?_
            refine jo_nil ?_
            refine jq_then ?_
            refine jc_cond rfl (fun h7b => ?_) (fun h7b => ?_)
            · have h7 := of_decide_eq_true h7b
              have hA := ham _ (getD_mem (dd := ([], [])) h7)
              have hvA := hva _ (getD_mem (dd := ([], [])) h7)
              refine jc_skip ?_
              refine jq_then ?_
              refine jc_seq ?_
              refine jc_block ?_
              refine jc_seq ?_
              refine jc_region ?_
              refine jo_pure rfl (pr_assign rfl) ?_
              refine jo_nil ?_
              refine jq_then ?_
              refine jc_seq ?_
              refine jc_seq ?_
              refine jc_region ?_
              refine jo_pure rfl (pr_assign rfl) ?_
              refine jo_nil ?_
              refine jq_then ?_
              refine jc_block ?_
              refine jc_loop2 (fun (j : Nat) (atzz : Int) => [(1, axesv), (7, w), (11, w2), (12, .int .i64 ((i2 : Nat) : Int)), (13, kw), (14, .int .i64 ((k : Nat) : Int)), (15, .int .i64 (atzz)), (16, .int .i64 ((j : Nat) : Int))]) (fun (j : Nat) (atzz : Int) => [.row (kw) 9 .str (key), .imm (.list .str) (e1) ((acc.getD i2 [])), .fact (fun w_ I_ => ElemAt w_ I_ (w) (i2) 1 [e1]), .row (w2) 45 (.list .str) (out2), .imm (.list (.list .str)) (w) (acc), .row (r1) 9 .str (allF l [86, 97, 114, 105, 97, 110, 116, 45, 75, 101, 121]), .imm (.list (.pair .str .str)) (lv) (l), .imm (.list (.pair .str (.list .str))) (axesv) (axes)]) (fun (j : Nat) (atzz : Int) => j ≤ (axes.getD k ([], [])).2.length ∧ atzz = idxP (fun v => sameF (axes.getD k ([], [])).1 v ((acc.getD i2 []).getD k [])) ((axes.getD k ([], [])).2.take j)) (fun (j : Nat) (atzz : Int) => (axes.getD k ([], [])).2.length - j) 0 (-1) (⟨Nat.zero_le _, rfl⟩) (⟨rfl, rfl, rfl, rfl, rfl, rfl, rfl, rfl, trivial⟩) (fun _ h => h) (fun j atzz hinJ => ?_)
              refine jc_seq ?_
              refine jc_seq ?_
              refine jc_region ?_
              refine jo_pure rfl (pr_move rfl) ?_
              refine jo_pure rfl (pr_move rfl) ?_
              refine jo_pure rfl (pr_move rfl) ?_
              refine j_open_elem (t := (.pair .str (.list .str))) (i := k) ([], []) (.tail _ (.tail _ (.tail _ (.tail _ (.tail _ (.tail _ (.tail _ (.head _)))))))) (by first | omega | exact at_lt h10) (fun ⟨_, e2⟩ => ?_)
              show J _ _ (.imm (.list .str) (e2) (((axes.getD k ([], []))).2) :: .fact (fun w_ I_ => ElemAt w_ I_ (axesv) (k) 2 [str (((axes.getD k ([], []))).1), e2]) :: _) _
              refine jo_pure rfl (pr_idx_imm (i := k) rfl (.tail _ (.tail _ (.tail _ (.tail _ (.tail _ (.tail _ (.tail _ (.tail _ (.tail _ (.head _)))))))))) rfl Tryz.underlying23 ty_48 (by first | omega | exact at_lt h10)) ?_
              refine jo_pure rfl (pr_fieldAddr_imm (i := k) rfl (.tail _ (.tail _ (.tail _ (.tail _ (.tail _ (.tail _ (.tail _ (.tail _ (.tail _ (.head _)))))))))) Tryz.underlying48 rfl ty_45 rfl rfl (by first | omega | exact at_lt h10)) ?_
              refine jo_pure rfl (pr_load_off_at (o := 1) (e2) rfl (.tail _ (.head _)) ty_45 (by decide) rfl rfl) ?_
              refine jo_pure rfl (pr_len_imm rfl (.head _) Tryz.underlying45) ?_
              refine jo_pure rfl (pr_lssN (m := j) (n := (((axes.getD k ([], []))).2).length) rfl rfl) ?_
              refine jo_nil ?_
              refine jq_then ?_
              refine jc_cond rfl (fun h8b => ?_) (fun h8b => ?_)
              · have h8 := of_decide_eq_true h8b
                refine jc_skip ?_
                refine jq_then ?_
                refine jc_seq ?_
                refine jc_block ?_
                refine jc_seq ?_
                refine jc_draws mixed (by kernel_rfl) ?_
                refine jd_pure rfl (pr_move rfl) ?_
                refine jd_pure rfl (pr_move rfl) ?_
                refine jd_pure rfl (pr_idx_imm (i := k) rfl (.tail _ (.tail _ (.tail _ (.tail _ (.tail _ (.tail _ (.tail _ (.tail _ (.tail _ (.head _)))))))))) rfl Tryz.underlying23 ty_48 (by first | omega | exact at_lt h10)) ?_
                refine jd_pure rfl (pr_fieldAddr_imm (i := k) rfl (.tail _ (.tail _ (.tail _ (.tail _ (.tail _ (.tail _ (.tail _ (.tail _ (.tail _ (.head _)))))))))) Tryz.underlying48 rfl ty_9 rfl rfl (by first | omega | exact at_lt h10)) ?_
                refine jd_pure rfl (pr_load_off_at (o := 0) (str (((axes.getD k ([], []))).1)) rfl (.tail _ (.head _)) ty_9 (by decide) rfl rfl) ?_
                refine jd_pure rfl (pr_move rfl) ?_
                refine jd_pure rfl (pr_move rfl) ?_
                refine jd_pure rfl (pr_idx_imm (i := i2) rfl (.tail _ (.tail _ (.tail _ (.tail _ (.tail _ (.tail _ (.head _))))))) rfl Tryz.underlying26 ty_45 (by first | omega | exact at_lt h10)) ?_
                refine jd_pure rfl (pr_load_at (e1) rfl (.tail _ (.tail _ (.tail _ (.tail _ (.head _))))) ty_45 (by decide) rfl) ?_
                refine jd_pure rfl (pr_move rfl) ?_
                refine jd_pure rfl (pr_idx_imm (i := k) rfl (.tail _ (.tail _ (.tail _ (.head _)))) rfl Tryz.underlying45 ty_9 (by first | omega | exact at_lt h10)) ?_
                refine jd_pure rfl (pr_load_elem_imm (i := k) (str ((acc.getD i2 []).getD k [])) rfl (.tail _ (.tail _ (.tail _ (.head _)))) ty_9 rfl rfl (by first | omega | exact at_lt h10) rfl) ?_
                refine jd_pure rfl (pr_move rfl) ?_
                refine jd_pure rfl (pr_move rfl) ?_
                refine jd_pure rfl (pr_idx_imm (i := k) rfl (.tail _ (.tail _ (.tail _ (.tail _ (.tail _ (.tail _ (.tail _ (.tail _ (.tail _ (.head _)))))))))) rfl Tryz.underlying23 ty_48 (by first | omega | exact at_lt h10)) ?_
                refine jd_pure rfl (pr_fieldAddr_imm (i := k) rfl (.tail _ (.tail _ (.tail _ (.tail _ (.tail _ (.tail _ (.tail _ (.tail _ (.tail _ (.head _)))))))))) Tryz.underlying48 rfl ty_45 rfl rfl (by first | omega | exact at_lt h10)) ?_
                refine jd_pure rfl (pr_load_off_at (o := 1) (e2) rfl (.tail _ (.head _)) ty_45 (by decide) rfl rfl) ?_
                refine jd_pure rfl (pr_move rfl) ?_
                refine jd_pure rfl (pr_idx_imm (i := j) rfl (.head _) rfl Tryz.underlying45 ty_9 (by first | omega | exact at_lt h10)) ?_
                refine jd_pure rfl (pr_load_elem_imm (i := j) (str ((((axes.getD k ([], []))).2).getD j [])) rfl (.head _) ty_9 rfl rfl (by first | omega | exact at_lt h10) rfl) ?_
                refine jd_callp cal_30 (c_ref10_Same (((axes.getD k ([], []))).1) ((acc.getD i2 []).getD k []) ((((axes.getD k ([], []))).2).getD j []) (by first | omega | rfl | exact hm6 | exact hav | exact hA.1 | exact hA.2.2 _ (getD_mem h8) | exact hGm _ (getD_mem (by omega)) | (rw [hkey, resV_length]; omega) | exact hg3 _ (getD_mem (dd := []) h11) | (have := getD_len (i := i) hM; omega) | decide) (by first | omega | rfl | exact hm6 | exact hav | exact hA.1 | exact hA.2.2 _ (getD_mem h8) | exact hGm _ (getD_mem (by omega)) | (rw [hkey, resV_length]; omega) | exact hg3 _ (getD_mem (dd := []) h11) | (have := getD_len (i := i) hM; omega) | decide) (by first | omega | rfl | exact hm6 | exact hav | exact hA.1 | exact hA.2.2 _ (getD_mem h8) | exact hGm _ (getD_mem (by omega)) | (rw [hkey, resV_length]; omega) | exact hg3 _ (getD_mem (dd := []) h11) | (have := getD_len (i := i) hM; omega) | decide)) ⟨rfl, rfl, rfl, trivial⟩ rfl (trivial) ?_
                refine jd_nil ?_
                refine jq_then ?_
                refine jc_cond rfl (fun h9b => ?_) (fun h9b => ?_)
                · have h9 := id h9b
                  refine jc_region ?_
                  refine jo_pure rfl (pr_move rfl) ?_
                  refine jo_pure rfl (pr_assign rfl) ?_
                  refine jo_nil ?_
                  refine jq_in_normal ?_
                  refine jq_then ?_
                  refine jc_region ?_
                  refine jo_pure rfl (pr_move rfl) ?_
                  refine jo_pure rfl (pr_addN (m := j) (n := 1) rfl rfl (by omega)) ?_
                  refine jo_pure rfl (pr_assign rfl) ?_
                  refine jo_nil ?_
                  refine j_drop ?_
                  refine j_drop ?_
                  refine j_pull7 ?_
                  refine j_pull7 ?_
                  refine j_pull7 ?_
                  refine j_pull7 ?_
                  refine j_pull7 ?_
                  refine j_pull7 ?_
                  refine j_pull7 ?_
                  refine j_pull7 ?_
                  refine jq_round' ((j + 1), ((j : Nat) : Int)) (by (try dsimp only); exact (⟨by omega, by have h99 : sameF (axes.getD k ([], [])).1 ((axes.getD k ([], [])).2.getD j []) ((acc.getD i2 []).getD k []) = true := (same_comm _ _ _).trans h9; exact (idxP_take_hit (dd := []) h8 (axis_uniq hvA h8 h99) h99).symm⟩)) (by (try dsimp only); exact (by omega)) ⟨rfl, rfl, rfl, rfl, rfl, rfl, rfl, rfl, trivial⟩ (fun _ h => h)
                · have h9 := id h9b
                  refine jc_skip ?_
                  refine jq_in_normal ?_
                  refine jq_then ?_
                  refine jc_region ?_
                  refine jo_pure rfl (pr_move rfl) ?_
                  refine jo_pure rfl (pr_addN (m := j) (n := 1) rfl rfl (by omega)) ?_
                  refine jo_pure rfl (pr_assign rfl) ?_
                  refine jo_nil ?_
                  refine j_drop ?_
                  refine j_drop ?_
                  refine j_pull7 ?_
                  refine j_pull7 ?_
                  refine j_pull7 ?_
                  refine j_pull7 ?_
                  refine j_pull7 ?_
                  refine j_pull7 ?_
                  refine j_pull7 ?_
                  refine j_pull7 ?_
                  refine jq_round' ((j + 1), atzz) (by (try dsimp only); exact (⟨by omega, by have h99 : sameF (axes.getD k ([], [])).1 ((axes.getD k ([], [])).2.getD j []) ((acc.getD i2 []).getD k []) = false := (same_comm _ _ _).trans h9; rw [hinJ.2]; exact (idxP_take_miss (dd := []) h8 h99).symm⟩)) (by (try dsimp only); exact (by omega)) ⟨rfl, rfl, rfl, rfl, rfl, rfl, rfl, rfl, trivial⟩ (fun _ h => h)
              · have h8 := of_decide_eq_false h8b
                have hat : atzz = atF axes (acc.getD i2 []) k := by rw [hinJ.2, take_over (by omega)]; rfl
                refine jc_exit ?_
                refine jq_then_exit ?_
                refine jq_then_exit ?_
                refine jq_in_hit ?_
                refine jq_then ?_
                refine jc_seq ?_
                refine jc_seq ?_
                refine jc_region ?_
                refine jo_pure rfl (pr_move rfl) ?_
                refine jo_pure rfl (pr_lss (n := 0) rfl rfl) ?_
                refine jo_nil ?_
                refine jq_then ?_
                refine jc_cond rfl (fun h10b => ?_) (fun h10b => ?_)
                · have h10 := of_decide_eq_true h10b
                  refine jc_seq ?_
                  refine jc_region ?_
                  refine jo_pure rfl (pr_assign rfl) ?_
                  refine jo_pure rfl (pr_assign rfl) ?_
                  refine jo_nil ?_
                  refine jq_then ?_
                  refine jc_ret ?_
                  refine jq_then_ret ?_
                  refine jq_in_ret ?_
                  refine jq_then_ret ?_
                  refine jq_then_ret ?_
                  refine jq_in_ret ?_
                  refine jq_then_ret ?_
                  refine jq_in_ret ?_
                  refine jq_then_ret ?_
                  refine jq_then_ret ?_
                  refine jq_in_ret ?_
                  refine jq_then_ret ?_
                  refine j_nil_imm (.list .str) ?_
                  refine j_pull1 ?_
                  refine j_drop ?_
                  refine j_pull1 ?_
                  refine j_drop ?_
                  refine j_pull1 ?_
                  refine j_drop ?_
                  refine j_pull1 ?_
                  refine j_drop ?_
                  refine j_pull1 ?_
                  refine j_drop ?_
                  refine j_pull1 ?_
                  refine j_drop ?_
                  refine j_pull1 ?_
                  refine j_drop ?_
                  refine j_pull1 ?_
                  refine j_drop ?_
                  refine j_pull1 ?_
                  refine j_drop ?_
                  refine j_pull1 ?_
                  refine j_drop ?_
                  exact jq_rets (rs := [.tmp 4, .tmp 5]) (vs := [.slice none 0 0, .int .i64 ((11 : Nat) : Int)]) rfl (.slice none 0 0) ⟨resV_tmp rfl, resV_tmp rfl, trivial⟩ rfl (show (.tuple #[(.slice none 0 0), .int .i64 ((parseK l axes).2)] : Value) = (.tuple #[.slice none 0 0, .int .i64 ((11 : Nat) : Int)]) from by rw [pk_lim (i := i2) h1 h2 hallM (by have h99 := h5; rw [hraw] at h99; exact h99) (by have h99 : resB axes (acc.getD i2 []) = false := res_bad h7 (by rw [← hat]; exact h10); rw [hraw] at h99; exact h99)] <;> rfl) (fun _ h => by rw [pk_lim (i := i2) h1 h2 hallM (by have h99 := h5; rw [hraw] at h99; exact h99) (by have h99 : resB axes (acc.getD i2 []) = false := res_bad h7 (by rw [← hat]; exact h10); rw [hraw] at h99; exact h99)]; exact h)
                · have h10 := of_decide_eq_false h10b
                  refine jc_skip ?_
                  refine jq_then ?_
                  by_cases ht : True
                  · skip
                    have h10 : ¬ atF axes (acc.getD i2 []) k < 0 := fun e => h10 (by rw [hat]; exact e)
                    rw [show (atzz : Int) = (((atF axes (acc.getD i2 []) k).toNat : Nat) : Int) from by rw [hat]; exact (Int.toNat_of_nonneg (by omega)).symm]
                    refine jc_region ?_
                    refine jo_pure rfl (pr_move rfl) ?_
                    refine jo_pure rfl (pr_move rfl) ?_
                    refine jo_pure rfl (pr_move rfl) ?_
                    refine jo_pure rfl (pr_idx_imm (i := k) rfl (.tail _ (.tail _ (.tail _ (.tail _ (.tail _ (.tail _ (.tail _ (.tail _ (.tail _ (.head _)))))))))) rfl Tryz.underlying23 ty_48 (by first | omega | exact at_lt h10)) ?_
                    refine jo_pure rfl (pr_fieldAddr_imm (i := k) rfl (.tail _ (.tail _ (.tail _ (.tail _ (.tail _ (.tail _ (.tail _ (.tail _ (.tail _ (.head _)))))))))) Tryz.underlying48 rfl ty_45 rfl rfl (by first | omega | exact at_lt h10)) ?_
                    refine jo_pure rfl (pr_load_off_at (o := 1) (e2) rfl (.tail _ (.head _)) ty_45 (by decide) rfl rfl) ?_
                    refine jo_pure rfl (pr_move rfl) ?_
                    refine jo_pure rfl (pr_idx_imm (i := (atF axes (acc.getD i2 []) k).toNat) rfl (.head _) rfl Tryz.underlying45 ty_9 (by first | omega | exact at_lt h10)) ?_
                    refine jo_pure rfl (pr_load_elem_imm (i := (atF axes (acc.getD i2 []) k).toNat) (str ((((axes.getD k ([], []))).2).getD ((atF axes (acc.getD i2 []) k).toNat) [])) rfl (.head _) ty_9 rfl rfl (by first | omega | exact at_lt h10) rfl) ?_
                    refine jo_buildSlice (t := .str) [(((axes.getD k ([], []))).2).getD ((atF axes (acc.getD i2 []) k).toNat) []] [str ((((axes.getD k ([], []))).2).getD ((atF axes (acc.getD i2 []) k).toNat) [])] (fun a hf => by simp only [List.zipIdx_cons, List.zipIdx_nil, List.map_toArray, List.map_cons, List.map_nil, hf.ev (show ev _ (.tmp 109) = some (str ((((axes.getD k ([], []))).2).getD ((atF axes (acc.getD i2 []) k).toNat) [])) from rfl)] <;> rfl) rfl Tryz.underlying45 ty_9 rfl rfl rfl rfl rfl (fun g2 => ?_)
                    refine j_pull3 ?_
                    refine jo_append rfl rfl Tryz.underlying45 ty_9 rfl (by simp only [List.length_append, List.length_cons, List.length_nil, maxLen]; omega) (by simp only [List.length_append, List.length_cons, List.length_nil]; omega) rfl (fun v2 => ?_)
                    refine jo_pure rfl (pr_assign rfl) ?_
                    refine jo_nil ?_
                    refine jq_in_normal ?_
                    refine jq_then ?_
                    refine jc_region ?_
                    refine jo_pure rfl (pr_move rfl) ?_
                    refine jo_pure rfl (pr_addN (m := k) (n := 1) rfl rfl (by omega)) ?_
                    refine jo_pure rfl (pr_assign rfl) ?_
                    refine jo_nil ?_
                    refine j_pull1 ?_
                    refine j_drop ?_
                    refine j_pull1 ?_
                    refine j_drop ?_
                    refine j_pull7 ?_
                    refine j_pull7 ?_
                    refine j_pull7 ?_
                    refine j_pull7 ?_
                    refine j_pull7 ?_
                    refine j_pull7 ?_
                    refine j_pull7 ?_
                    refine j_pull7 ?_
                    refine jq_round' ((k + 1), v2, (key ++ [(((axes.getD k ([], []))).2).getD ((atF axes (acc.getD i2 []) k).toNat) []])) (by (try dsimp only); exact (⟨by omega, by rw [range_map, ← hinK.2.1]; rfl, range_all hinK.2.2 (decide_eq_true (by omega))⟩)) (by (try dsimp only); exact (by omega)) ⟨rfl, rfl, rfl, rfl, rfl, rfl, trivial⟩ (fun _ h => h)
                  · skip
                    exact absurd trivial ht
            · have h7 := of_decide_eq_false h7b
              have hkey : key = resV axes (acc.getD i2 []) := by rw [hinK.2.1, show k = axes.length by omega]; rfl
              have hres : resB axes (acc.getD i2 []) = true := res_ok (by simpa using h6) (by rw [show axes.length = k by omega]; exact hinK.2.2)
              refine jc_exit ?_
              refine jq_then_exit ?_
              refine jq_then_exit ?_
              refine jq_in_hit ?_
              refine jq_then ?_
              refine jc_seq ?_
              refine j_pub_row ?_
              refine jc_region ?_
              refine jo_pure rfl (pr_assign rfl) ?_
              refine jo_nil ?_
              refine jq_then ?_
              refine jc_seq ?_
              refine jc_seq ?_
              refine jc_region ?_
              refine jo_pure rfl (pr_assign rfl) ?_
              refine jo_nil ?_
              refine jq_then ?_
              refine jc_block ?_
              refine jc_loop2 (fun (n : Nat) (kn : Bool) => [(1, axesv), (7, w), (11, w2), (12, .int .i64 ((i2 : Nat) : Int)), (13, kw), (17, .bool (kn)), (18, .int .i64 ((n : Nat) : Int))]) (fun (n : Nat) (kn : Bool) => [.imm (.list .str) (kw) (key), .imm (.list .str) (e1) ((acc.getD i2 [])), .fact (fun w_ I_ => ElemAt w_ I_ (w) (i2) 1 [e1]), .row (w2) 45 (.list .str) (out2), .imm (.list (.list .str)) (w) (acc), .row (r1) 9 .str (allF l [86, 97, 114, 105, 97, 110, 116, 45, 75, 101, 121]), .imm (.list (.pair .str .str)) (lv) (l), .imm (.list (.pair .str (.list .str))) (axesv) (axes)]) (fun (n : Nat) (kn : Bool) => n ≤ out2.length ∧ kn = (out2.take n).any (fun x => decide (x = key))) (fun (n : Nat) (kn : Bool) => out2.length - n) 0 false (⟨Nat.zero_le _, rfl⟩) (⟨rfl, rfl, rfl, rfl, rfl, rfl, rfl, trivial⟩) (fun _ h => h) (fun n kn hinN => ?_)
              refine jc_seq ?_
              refine jc_seq ?_
              refine jc_region ?_
              refine jo_pure rfl (pr_move rfl) ?_
              refine jo_pure rfl (pr_move rfl) ?_
              refine jo_pure rfl (pr_len_row rfl (.tail _ (.tail _ (.tail _ (.head _)))) Tryz.underlying26) ?_
              refine jo_pure rfl (pr_lssN (m := n) (n := out2.length) rfl rfl) ?_
              refine jo_nil ?_
              refine jq_then ?_
              refine jc_cond rfl (fun h11b => ?_) (fun h11b => ?_)
              · have h11 := of_decide_eq_true h11b
                refine jc_skip ?_
                refine jq_then ?_
                refine jc_seq ?_
                refine jc_block ?_
                by_cases hkn : kn = true
                · skip
                  refine jc_region ?_
                  refine jo_pure rfl (pr_move rfl) ?_
                  refine jo_pure rfl (pr_move rfl) ?_
                  refine jo_skipu (j := 1) (want := false) rfl rfl (hkn) rfl ?_
                  refine jo_skipu (j := 1) (want := false) rfl rfl (hkn) rfl ?_
                  refine jo_skipu (j := 1) (want := false) rfl rfl (hkn) rfl ?_
                  refine jo_skipu (j := 1) (want := false) rfl rfl (hkn) rfl ?_
                  refine jo_skipu (j := 1) (want := false) rfl rfl (hkn) rfl ?_
                  refine jo_skipu (j := 1) (want := false) rfl rfl (hkn) rfl ?_
                  refine jo_pure rfl (pr_pick_t rfl (hkn) rfl) ?_
                  refine jo_pure rfl (pr_assign rfl) ?_
                  refine jo_nil ?_
                  refine jq_in_normal ?_
                  refine jq_then ?_
                  refine jc_region ?_
                  refine jo_pure rfl (pr_move rfl) ?_
                  refine jo_pure rfl (pr_addN (m := n) (n := 1) rfl rfl (by omega)) ?_
                  refine jo_pure rfl (pr_assign rfl) ?_
                  refine jo_nil ?_
                  refine j_pull7 ?_
                  refine j_pull7 ?_
                  refine j_pull7 ?_
                  refine j_pull7 ?_
                  refine j_pull7 ?_
                  refine j_pull7 ?_
                  refine j_pull7 ?_
                  refine j_pull7 ?_
                  refine jq_round' ((n + 1), true) (by (try dsimp only); exact (⟨by omega, by rw [any_next (dd := []) h11, ← hinN.2, hkn]; rfl⟩)) (by (try dsimp only); exact (by omega)) ⟨rfl, rfl, rfl, rfl, rfl, rfl, rfl, trivial⟩ (fun _ h => h)
                · skip
                  refine jc_region ?_
                  refine jo_pure rfl (pr_move rfl) ?_
                  refine jo_pure rfl (pr_move rfl) ?_
                  refine jo_run (j := 1) (want := false) rfl rfl (by simpa using hkn) ?_
                  refine jo_pure rfl (pr_move rfl) ?_
                  refine jo_run (j := 1) (want := false) rfl rfl (by simpa using hkn) ?_
                  refine jo_pure rfl (pr_move rfl) ?_
                  refine jo_run (j := 1) (want := false) rfl rfl (by simpa using hkn) ?_
                  refine jo_pure rfl (pr_idx_row (i := n) rfl (.tail _ (.tail _ (.tail _ (.head _)))) rfl Tryz.underlying26 ty_45 (by first | omega | exact at_lt h10)) ?_
                  refine jo_run (j := 1) (want := false) rfl rfl (by simpa using hkn) ?_
                  refine jo_loadRowL (i := n) rfl ty_45 (.tail _ (.tail _ (.tail _ (.head _)))) (by first | omega | exact at_lt h10) rfl (fun r3 => ?_)
                  refine jo_run (j := 1) (want := false) rfl rfl (by simpa using hkn) ?_
                  refine jo_pure rfl (pr_move rfl) ?_
                  refine jo_run (j := 1) (want := false) rfl rfl (by simpa using hkn) ?_
                  refine jo_callp cal_48 (c_ref10_SameStrings (out2.getD n []) r3 key kw (by first | omega | rfl | exact hm6 | exact hav | exact hA.1 | exact hA.2.2 _ (getD_mem h8) | exact hGm _ (getD_mem (by omega)) | (rw [hkey, resV_length]; omega) | exact hg3 _ (getD_mem (dd := []) h11) | (have := getD_len (i := i) hM; omega) | decide)) ⟨rfl, rfl, trivial⟩ rfl (⟨⟨rfl, .head _⟩, ⟨⟨rfl, .tail _ (.head _)⟩, trivial⟩⟩) (fun _ => ?_)
                  refine jo_pure rfl (pr_pick_f rfl (by simpa using hkn) rfl) ?_
                  refine jo_pure rfl (pr_assign rfl) ?_
                  refine jo_nil ?_
                  refine jq_in_normal ?_
                  refine jq_then ?_
                  refine jc_region ?_
                  refine jo_pure rfl (pr_move rfl) ?_
                  refine jo_pure rfl (pr_addN (m := n) (n := 1) rfl rfl (by omega)) ?_
                  refine jo_pure rfl (pr_assign rfl) ?_
                  refine jo_nil ?_
                  refine j_drop ?_
                  refine j_pull7 ?_
                  refine j_pull7 ?_
                  refine j_pull7 ?_
                  refine j_pull7 ?_
                  refine j_pull7 ?_
                  refine j_pull7 ?_
                  refine j_pull7 ?_
                  refine j_pull7 ?_
                  refine jq_round' ((n + 1), (decide ((out2.getD n []) = key))) (by (try dsimp only); exact (⟨by omega, by rw [any_next (dd := []) h11, ← hinN.2, show kn = false by simpa using hkn]; rfl⟩)) (by (try dsimp only); exact (by omega)) ⟨rfl, rfl, rfl, rfl, rfl, rfl, rfl, trivial⟩ (fun _ h => h)
              · have h11 := of_decide_eq_false h11b
                refine jc_exit ?_
                refine jq_then_exit ?_
                refine jq_then_exit ?_
                refine jq_in_hit ?_
                refine jq_then ?_
                refine jc_seq ?_
                refine jc_region ?_
                refine jo_pure rfl (pr_move rfl) ?_
                refine jo_pure rfl (pr_not rfl) ?_
                refine jo_nil ?_
                refine jq_then ?_
                refine jc_cond rfl (fun h12b => ?_) (fun h12b => ?_)
                · have h12 := (fun q => id (bt_not q)) h12b
                  refine jc_region ?_
                  refine jo_pure rfl (pr_move rfl) ?_
                  refine jo_pure rfl (pr_move rfl) ?_
                  refine jo_buildSliceLV (t := (.list .str)) [key] [kw] [[kw]] (fun a hf => by simp only [List.zipIdx_cons, List.zipIdx_nil, List.map_toArray, List.map_cons, List.map_nil, hf.ev (show ev _ (.tmp 130) = some (kw) from rfl)] <;> rfl) (fun w I m hs => by obtain ⟨_, _, _, e0⟩ := imm_slice (.head _) hs; rw [e0]; rfl) ⟨⟨kw, rfl, .head _⟩, trivial⟩ Tryz.underlying26 ty_45 rfl rfl rfl rfl (fun g3 => ?_)
                  refine j_pull4 ?_
                  refine jo_append rfl rfl Tryz.underlying26 ty_45 rfl (by simp only [List.length_append, List.length_cons, List.length_nil, maxLen]; omega) (by simp only [List.length_append, List.length_cons, List.length_nil]; omega) rfl (fun v3 => ?_)
                  refine jo_pure rfl (pr_assign rfl) ?_
                  refine jo_nil ?_
                  refine jq_in_normal ?_
                  refine jq_then ?_
                  refine jc_region ?_
                  refine jo_pure rfl (pr_move rfl) ?_
                  refine jo_pure rfl (pr_addN (m := i2) (n := 1) rfl rfl (by omega)) ?_
                  refine jo_pure rfl (pr_assign rfl) ?_
                  refine jo_nil ?_
                  refine j_pull1 ?_
                  refine j_drop ?_
                  refine j_pull1 ?_
                  refine j_drop ?_
                  refine j_pull1 ?_
                  refine j_drop ?_
                  refine j_pull4 ?_
                  refine j_pull4 ?_
                  refine j_pull4 ?_
                  refine j_pull4 ?_
                  refine j_pull4 ?_
                  refine jq_round' ((i2 + 1), v3, (out2 ++ [key])) (by (try dsimp only); exact (⟨by omega, by rw [dedm_step h5, ← hin2.2.1, ← hkey, add_new (by have h9 := h12; rw [hinN.2, take_over (by omega)] at h9; simpa using h9)], all_step (dd := []) h5 hin2.2.2 hres⟩)) (by (try dsimp only); exact (by omega)) ⟨rfl, rfl, rfl, rfl, trivial⟩ (fun _ h => h)
                · have h12 := (fun q => id (bf_not q)) h12b
                  refine jc_skip ?_
                  refine jq_in_normal ?_
                  refine jq_then ?_
                  refine jc_region ?_
                  refine jo_pure rfl (pr_move rfl) ?_
                  refine jo_pure rfl (pr_addN (m := i2) (n := 1) rfl rfl (by omega)) ?_
                  refine jo_pure rfl (pr_assign rfl) ?_
                  refine jo_nil ?_
                  refine j_drop ?_
                  refine j_drop ?_
                  refine j_drop ?_
                  refine j_pull4 ?_
                  refine j_pull4 ?_
                  refine j_pull4 ?_
                  refine j_pull4 ?_
                  refine j_pull4 ?_
                  refine jq_round' ((i2 + 1), w2, out2) (by (try dsimp only); exact (⟨by omega, by rw [dedm_step h5, ← hin2.2.1, ← hkey, add_old (by have h9 := h12; rw [hinN.2, take_over (by omega)] at h9; simpa using h9)], all_step (dd := []) h5 hin2.2.2 hres⟩)) (by (try dsimp only); exact (by omega)) ⟨rfl, rfl, rfl, rfl, trivial⟩ (fun _ h => h)
        · have h5 := of_decide_eq_false h5b
          refine jc_exit ?_
          refine jq_then_exit ?_
          refine jq_then_exit ?_
          refine jq_in_hit ?_
          refine jq_then ?_
          refine jc_seq ?_
          refine jc_region ?_
          refine jo_pure rfl (pr_move rfl) ?_
          refine jo_pure rfl (pr_assign rfl) ?_
          refine jo_pure rfl (pr_assign rfl) ?_
          refine jo_nil ?_
          refine jq_then ?_
          refine jc_ret ?_
          refine j_pub_row ?_
          refine j_pull1 ?_
          refine j_drop ?_
          refine j_pull1 ?_
          refine j_drop ?_
          refine j_pull1 ?_
          refine j_drop ?_
          refine j_pull1 ?_
          refine j_drop ?_
          exact jq_rets (rs := [.tmp 4, .tmp 5]) (vs := [w2, .int .i64 ((0 : Nat) : Int)]) rfl w2 ⟨resV_tmp rfl, resV_tmp rfl, trivial⟩ rfl (show (.tuple #[w2, .int .i64 ((parseK l axes).2)] : Value) = (.tuple #[w2, .int .i64 ((0 : Nat) : Int)]) from by rw [pk_ok h1 h2 hallM (by have h9 := all_end (by omega) hin2.2.2; rw [hraw] at h9; exact h9)] <;> rfl) (fun _ h => by rw [pk_ok h1 h2 hallM (by have h9 := all_end (by omega) hin2.2.2; rw [hraw] at h9; exact h9)]; show Mem _ [.imm (.list (.list .str)) w2 (dedK ((readM (allF l [86, 97, 114, 105, 97, 110, 116, 45, 75, 101, 121])).map (resV axes)))] _; rw [← hraw, ← take_over (s := acc) (i := i2) (by omega), ← hin2.2.1]; exact h)

theorem c_ref26_SameKeys (a : List (List (List UInt8))) (av : Value) (b : List (List (List UInt8))) (bv : Value) (hl : a.length ≤ 9223372036854775807) (hm : ∀ x ∈ a, x.length ≤ 9223372036854775807) : Con Tryz.prog 16 #[av, bv] [.imm (.list (.list .str)) (av) (a), .imm (.list (.list .str)) (bv) (b)] (fun _ : Unit => .bool (decide (a = b))) (fun _ => []) := by
  refine con_of_J (args := [av, bv]) (n := 27) Tryz.func16 rfl (Nat.le_of_ble_eq_true rfl) rfl (fun w0 I0 m0 => ?_)
  show J _ [(0, av), (1, bv)] [.imm (.list (.list .str)) (av) (a), .imm (.list (.list .str)) (bv) (b)] _
  refine jc_seq ?_
  refine jc_region ?_
  refine jo_pure rfl (pr_assign rfl) ?_
  refine jo_nil ?_
  refine jq_then ?_
  refine jc_seq ?_
  refine jc_seq ?_
  refine jc_region ?_
  refine jo_pure rfl (pr_move rfl) ?_
  refine jo_pure rfl (pr_len_imm rfl (.head _) Tryz.underlying26) ?_
  refine jo_pure rfl (pr_move rfl) ?_
  refine jo_pure rfl (pr_len_imm rfl (.tail _ (.head _)) Tryz.underlying26) ?_
  refine jo_pure rfl (pr_neqN (m := a.length) (n := b.length) rfl rfl) ?_
  refine jo_nil ?_
  refine jq_then ?_
  refine jc_cond rfl (fun h1b => ?_) (fun h1b => ?_)
  · have h1 := (fun q => of_decide_eq_false (bt_not q)) h1b
    refine jc_seq ?_
    refine jc_region ?_
    refine jo_pure rfl (pr_assign rfl) ?_
    refine jo_nil ?_
    refine jq_then ?_
    refine jc_ret ?_
    refine jq_then_ret ?_
    refine j_drop ?_
    refine j_drop ?_
    exact jq_ret1 rfl () rfl (show (.bool (decide (a = b)) : Value) = (.bool (false)) from congrArg Value.bool (decide_eq_false (fun e => by rw [e] at h1; simp at h1))) (fun _ h => h)
  · have h1 := (fun q => of_decide_eq_true (bf_not q)) h1b
    have hlen : a.length = b.length := by simpa using h1
    refine jc_skip ?_
    refine jq_then ?_
    refine jc_seq ?_
    refine jc_seq ?_
    refine jc_region ?_
    refine jo_pure rfl (pr_assign rfl) ?_
    refine jo_nil ?_
    refine jq_then ?_
    refine jc_block ?_
    refine jc_loop (fun (i : Nat) => [(0, av), (1, bv), (5, .int .i64 ((i : Nat) : Int))]) (fun (i : Nat) => [.imm (.list (.list .str)) (av) (a), .imm (.list (.list .str)) (bv) (b)]) (fun (i : Nat) => i ≤ a.length ∧ a.take i = b.take i) (fun (i : Nat) => a.length - i) 0 (⟨Nat.zero_le _, rfl⟩) (⟨rfl, rfl, rfl, trivial⟩) (fun _ h => h) (fun i hinv => ?_)
    refine jc_seq ?_
    refine jc_seq ?_
    refine jc_region ?_
    refine jo_pure rfl (pr_move rfl) ?_
    refine jo_pure rfl (pr_move rfl) ?_
    refine jo_pure rfl (pr_len_imm rfl (.head _) Tryz.underlying26) ?_
    refine jo_pure rfl (pr_lssN (m := i) (n := a.length) rfl rfl) ?_
    refine jo_nil ?_
    refine jq_then ?_
    refine jc_cond rfl (fun h2b => ?_) (fun h2b => ?_)
    · have h2 := of_decide_eq_true h2b
      refine jc_skip ?_
      refine jq_then ?_
      refine jc_seq ?_
      refine jc_block ?_
      refine jc_seq ?_
      refine j_open_elem (t := (.list .str)) (i := i) [] (.head _) (by omega) (fun e1 => ?_)
      show J _ _ (.imm (.list .str) (e1) ((a.getD i [])) :: .fact (fun w_ I_ => ElemAt w_ I_ (av) (i) 1 [e1]) :: _) _
      refine j_open_elem (t := (.list .str)) (i := i) [] (.tail _ (.tail _ (.tail _ (.head _)))) (by omega) (fun e2 => ?_)
      show J _ _ (.imm (.list .str) (e2) ((b.getD i [])) :: .fact (fun w_ I_ => ElemAt w_ I_ (bv) (i) 1 [e2]) :: _) _
      refine jc_draws mixed (by kernel_rfl) ?_
      refine jd_pure rfl (pr_move rfl) ?_
      refine jd_pure rfl (pr_move rfl) ?_
      refine jd_pure rfl (pr_idx_imm (i := i) rfl (.tail _ (.tail _ (.tail _ (.tail _ (.head _))))) rfl Tryz.underlying26 ty_45 (by omega)) ?_
      refine jd_pure rfl (pr_load_at (e1) rfl (.tail _ (.tail _ (.tail _ (.head _)))) ty_45 (by decide) rfl) ?_
      refine jd_pure rfl (pr_move rfl) ?_
      refine jd_pure rfl (pr_move rfl) ?_
      refine jd_pure rfl (pr_idx_imm (i := i) rfl (.tail _ (.tail _ (.tail _ (.tail _ (.tail _ (.head _)))))) rfl Tryz.underlying26 ty_45 (by omega)) ?_
      refine jd_pure rfl (pr_load_at (e2) rfl (.tail _ (.head _)) ty_45 (by decide) rfl) ?_
      refine jd_callp cal_48 (c_ref10_SameStrings (a.getD i []) e1 (b.getD i []) e2 (by exact hm _ (getD_mem (dd := []) h2))) ⟨rfl, rfl, trivial⟩ rfl (⟨⟨rfl, .tail _ (.tail _ (.head _))⟩, ⟨⟨rfl, .head _⟩, trivial⟩⟩) ?_
      refine jd_pure rfl (pr_not rfl) ?_
      refine jd_nil ?_
      refine jq_then ?_
      refine jc_cond rfl (fun h3b => ?_) (fun h3b => ?_)
      · have h3 := (fun q => id (bt_not q)) h3b
        refine jc_seq ?_
        refine jc_region ?_
        refine jo_pure rfl (pr_assign rfl) ?_
        refine jo_nil ?_
        refine jq_then ?_
        refine jc_ret ?_
        refine jq_in_ret ?_
        refine jq_then_ret ?_
        refine jq_then_ret ?_
        refine jq_in_ret ?_
        refine jq_then_ret ?_
        refine j_drop ?_
        refine j_drop ?_
        refine j_drop ?_
        refine j_drop ?_
        refine j_drop ?_
        refine j_drop ?_
        exact jq_ret1 rfl () rfl (show (.bool (decide (a = b)) : Value) = (.bool (false)) from congrArg Value.bool (decide_eq_false (fun e => by rw [e] at h3b; simp at h3b))) (fun _ h => h)
      · have h3 := (fun q => id (bf_not q)) h3b
        refine jc_skip ?_
        refine jq_in_normal ?_
        refine jq_then ?_
        refine jc_region ?_
        refine jo_pure rfl (pr_move rfl) ?_
        refine jo_pure rfl (pr_addN (m := i) (n := 1) rfl rfl (by omega)) ?_
        refine jo_pure rfl (pr_assign rfl) ?_
        refine jo_nil ?_
        refine j_drop ?_
        refine j_drop ?_
        refine j_drop ?_
        refine j_drop ?_
        refine j_pull1 ?_
        refine j_pull1 ?_
        refine jq_round' (i + 1) (by (try dsimp only); exact (⟨by omega, take_eq_step (dd := []) h2 (by omega) hinv.2 (by simpa using h3b)⟩)) (by (try dsimp only); exact (by omega)) ⟨rfl, rfl, rfl, trivial⟩ (fun _ h => h)
    · have h2 := of_decide_eq_false h2b
      refine jc_exit ?_
      refine jq_then_exit ?_
      refine jq_then_exit ?_
      refine jq_in_hit ?_
      refine jq_then ?_
      refine jc_seq ?_
      refine jc_region ?_
      refine jo_pure rfl (pr_assign rfl) ?_
      refine jo_nil ?_
      refine jq_then ?_
      refine jc_ret ?_
      refine j_drop ?_
      refine j_drop ?_
      exact jq_ret1 rfl () rfl (show (.bool (decide (a = b)) : Value) = (.bool (true)) from congrArg Value.bool (decide_eq_true (by have := hinv.2; rwa [List.take_of_length_le (by omega), List.take_of_length_le (by omega)] at this))) (fun _ h => h)

theorem c_variantkey_Format (l : List (List (List UInt8))) (lv : Value) (hl : l.length ≤ 64) (hm : ∀ k ∈ l, k.length ≤ 20 ∧ ∀ x ∈ k, x.length ≤ 100) : Con Tryz.prog 34 #[lv] [.imm (.list (.list .str)) (lv) (l)] (fun _ : Unit => str (keysT l)) (fun _ => []) := by
  refine con_of_J (args := [lv]) (n := 20) Tryz.func34 rfl (Nat.le_of_ble_eq_true rfl) rfl (fun w0 I0 m0 => ?_)
  show J _ [(0, lv)] [.imm (.list (.list .str)) (lv) (l)] _
  refine jc_seq ?_
  refine jc_region ?_
  refine jo_pure rfl (pr_assign rfl) ?_
  refine jo_nil ?_
  refine jq_then ?_
  refine jc_seq ?_
  refine jc_region ?_
  refine jo_pure rfl (pr_assign rfl) ?_
  refine jo_nil ?_
  refine jq_then ?_
  refine jc_seq ?_
  refine jc_seq ?_
  refine jc_region ?_
  refine jo_pure rfl (pr_move rfl) ?_
  refine jo_pure rfl (pr_len_imm rfl (.head _) Tryz.underlying26) ?_
  refine jo_pure rfl (pr_move rfl) ?_
  refine jo_nil ?_
  refine jq_then ?_
  refine jc_block ?_
  refine j_nil_row 9 .str ?_
  refine jc_loop3 (fun (i : Nat) (w : Value) (acc : List (List UInt8)) => [(3, w), (6, lv), (7, .int .i64 ((l.length : Nat) : Int)), (8, .int .i64 ((i : Nat) : Int))]) (fun (i : Nat) (w : Value) (acc : List (List UInt8)) => [.row (w) 9 .str (acc), .imm (.list (.list .str)) (lv) (l)]) (fun (i : Nat) (w : Value) (acc : List (List UInt8)) => i ≤ l.length ∧ acc.length ≤ i ∧ acc = (l.take i).map writeF) (fun (i : Nat) (w : Value) (acc : List (List UInt8)) => l.length - i) 0 (.slice none 0 0) [] (⟨Nat.zero_le _, Nat.le_refl _, rfl⟩) (⟨rfl, rfl, rfl, rfl, trivial⟩) (fun _ h => h) (fun i w acc hinv => ?_)
  have hjm : ∀ x ∈ acc, x.length ≤ 20000 := fun x hx => by rw [hinv.2.2] at hx; obtain ⟨y, hy, rfl⟩ := List.mem_map.1 hx; have h9 := hm y (List.mem_of_mem_take hy); have := writeF_length h9.2; have := Nat.mul_le_mul h9.1 (Nat.le_refl (2 * 100 + 3)); omega
  refine jc_seq ?_
  refine jc_region ?_
  refine jo_pure rfl (pr_lssN (m := i) (n := l.length) rfl rfl) ?_
  refine jo_nil ?_
  refine jq_then ?_
  refine jc_seq ?_
  refine jc_cond rfl (fun h1b => ?_) (fun h1b => ?_)
  · have h1 := of_decide_eq_true h1b
    have hK := hm _ (getD_mem (dd := []) h1)
    refine jc_skip ?_
    refine jq_then ?_
    refine jc_seq ?_
    refine jc_block ?_
    refine jc_seq ?_
    refine jc_region ?_
    refine j_open_elem (t := (.list .str)) (i := i) [] (.tail _ (.head _)) (by omega) (fun e1 => ?_)
    show J _ _ (.imm (.list .str) (e1) ((l.getD i [])) :: .fact (fun w_ I_ => ElemAt w_ I_ (lv) (i) 1 [e1]) :: _) _
    refine jo_pure rfl (pr_idx_imm (i := i) rfl (.tail _ (.tail _ (.tail _ (.head _)))) rfl Tryz.underlying26 ty_45 (by omega)) ?_
    refine jo_pure rfl (pr_load_at (e1) rfl (.tail _ (.head _)) ty_45 (by decide) rfl) ?_
    refine jo_pure rfl (pr_assign rfl) ?_
    refine jo_nil ?_
    refine jq_then ?_
    refine jc_region ?_
    refine jo_pure rfl (pr_move rfl) ?_
    refine jo_pure rfl (pr_move rfl) ?_
    refine jo_callp cal_62 (c_group_Write (l.getD i []) e1 (by first | omega | rfl | exact hK.1 | (exact fun x hx => Nat.le_trans (hK.2 x hx) (by omega)) | (have := hK.1; omega) | (simp only [List.length_cons, List.length_nil]; omega)) (by first | omega | rfl | exact hK.1 | (exact fun x hx => Nat.le_trans (hK.2 x hx) (by omega)) | (have := hK.1; omega) | (simp only [List.length_cons, List.length_nil]; omega))) ⟨rfl, trivial⟩ rfl (⟨⟨rfl, .head _⟩, trivial⟩) (fun _ => ?_)
    refine jo_buildSlice (t := .str) [writeF (l.getD i [])] [str (writeF (l.getD i []))] (fun a hf => by simp only [List.zipIdx_cons, List.zipIdx_nil, List.map_toArray, List.map_cons, List.map_nil, hf.ev (show ev _ (.tmp 14) = some (str (writeF (l.getD i []))) from rfl)] <;> rfl) rfl Tryz.underlying45 ty_9 rfl rfl rfl rfl rfl (fun g1 => ?_)
    refine j_pull3 ?_
    refine jo_append rfl rfl Tryz.underlying45 ty_9 rfl (by simp only [List.length_append, List.length_cons, List.length_nil, maxLen]; omega) (by simp only [List.length_append, List.length_cons, List.length_nil]; omega) rfl (fun v1 => ?_)
    refine jo_pure rfl (pr_assign rfl) ?_
    refine jo_nil ?_
    refine jq_in_normal ?_
    refine jq_then ?_
    refine jc_region ?_
    refine jo_pure rfl (pr_addN (m := i) (n := 1) rfl rfl (by omega)) ?_
    refine jo_pure rfl (pr_move rfl) ?_
    refine jo_nil ?_
    refine j_pull1 ?_
    refine j_drop ?_
    refine j_pull1 ?_
    refine j_drop ?_
    refine j_pull1 ?_
    refine j_pull1 ?_
    refine jq_round' ((i + 1), v1, (acc ++ [writeF (l.getD i [])])) (by (try dsimp only); exact (⟨by omega, by simp; omega, by rw [mapK_step h1, hinv.2.2]⟩)) (by (try dsimp only); exact (by omega)) ⟨rfl, rfl, rfl, rfl, trivial⟩ (fun _ h => h)
  · have h1 := of_decide_eq_false h1b
    refine jc_exit ?_
    refine jq_then_exit ?_
    refine jq_then_exit ?_
    refine jq_in_hit ?_
    refine jq_then ?_
    refine jc_seq ?_
    refine jc_region ?_
    refine jo_pure rfl (pr_move rfl) ?_
    refine j_pub_row ?_
    refine jo_callp cal_63 (c_strings_Join acc w [44, 32] (by first | omega | rfl | exact hK.1 | (exact fun x hx => Nat.le_trans (hK.2 x hx) (by omega)) | (have := hK.1; omega) | (simp only [List.length_cons, List.length_nil]; omega)) (hjm) (by first | omega | rfl | exact hK.1 | (exact fun x hx => Nat.le_trans (hK.2 x hx) (by omega)) | (have := hK.1; omega) | (simp only [List.length_cons, List.length_nil]; omega)) (by first | omega | rfl | exact hK.1 | (exact fun x hx => Nat.le_trans (hK.2 x hx) (by omega)) | (have := hK.1; omega) | (simp only [List.length_cons, List.length_nil]; omega))) ⟨rfl, rfl, trivial⟩ rfl (⟨⟨rfl, .head _⟩, trivial⟩) (fun _ => ?_)
    refine jo_pure rfl (pr_assign rfl) ?_
    refine jo_nil ?_
    refine jq_then ?_
    refine jc_ret ?_
    refine j_drop ?_
    refine j_drop ?_
    exact jq_ret1 rfl () rfl (show (str (keysT l) : Value) = (str (joinS [44, 32] acc)) from congrArg str (by rw [hinv.2.2, take_over (s := l) (i := i) (by omega)]; rfl)) (fun _ h => h)

theorem c_ref10_FormatKeys (l : List (List (List UInt8))) (lv : Value) (hl : l.length ≤ 64) (hm : ∀ k ∈ l, k.length ≤ 20 ∧ ∀ x ∈ k, x.length ≤ 100) : Con Tryz.prog 37 #[lv] [.imm (.list (.list .str)) (lv) (l)] (fun _ : Unit => str (keysT l)) (fun _ => []) := by
  refine con_of_J (args := [lv]) (n := 21) Tryz.func37 rfl (Nat.le_of_ble_eq_true rfl) rfl (fun w0 I0 m0 => ?_)
  show J _ [(0, lv)] [.imm (.list (.list .str)) (lv) (l)] _
  refine jc_seq ?_
  refine jc_region ?_
  refine jo_pure rfl (pr_assign rfl) ?_
  refine jo_nil ?_
  refine jq_then ?_
  refine jc_seq ?_
  refine jc_region ?_
  refine jo_pure rfl (pr_assign rfl) ?_
  refine jo_nil ?_
  refine jq_then ?_
  refine jc_seq ?_
  refine jc_seq ?_
  refine jc_region ?_
  refine jo_pure rfl (pr_assign rfl) ?_
  refine jo_nil ?_
  refine jq_then ?_
  refine jc_block ?_
  refine j_nil_row 9 .str ?_
  refine jc_loop3 (fun (i : Nat) (w : Value) (acc : List (List UInt8)) => [(0, lv), (3, w), (4, .int .i64 ((i : Nat) : Int))]) (fun (i : Nat) (w : Value) (acc : List (List UInt8)) => [.row (w) 9 .str (acc), .imm (.list (.list .str)) (lv) (l)]) (fun (i : Nat) (w : Value) (acc : List (List UInt8)) => i ≤ l.length ∧ acc.length ≤ i ∧ acc = (l.take i).map writeF) (fun (i : Nat) (w : Value) (acc : List (List UInt8)) => l.length - i) 0 (.slice none 0 0) [] (⟨Nat.zero_le _, Nat.le_refl _, rfl⟩) (⟨rfl, rfl, rfl, trivial⟩) (fun _ h => h) (fun i w acc hinv => ?_)
  have hjm : ∀ x ∈ acc, x.length ≤ 20000 := fun x hx => by rw [hinv.2.2] at hx; obtain ⟨y, hy, rfl⟩ := List.mem_map.1 hx; have h9 := hm y (List.mem_of_mem_take hy); have := writeF_length h9.2; have := Nat.mul_le_mul h9.1 (Nat.le_refl (2 * 100 + 3)); omega
  refine jc_seq ?_
  refine jc_seq ?_
  refine jc_region ?_
  refine jo_pure rfl (pr_move rfl) ?_
  refine jo_pure rfl (pr_move rfl) ?_
  refine jo_pure rfl (pr_len_imm rfl (.tail _ (.head _)) Tryz.underlying26) ?_
  refine jo_pure rfl (pr_lssN (m := i) (n := l.length) rfl rfl) ?_
  refine jo_nil ?_
  refine jq_then ?_
  refine jc_cond rfl (fun h1b => ?_) (fun h1b => ?_)
  · have h1 := of_decide_eq_true h1b
    have hK := hm _ (getD_mem (dd := []) h1)
    refine jc_skip ?_
    refine jq_then ?_
    refine jc_seq ?_
    refine jc_block ?_
    refine jc_region ?_
    refine jo_pure rfl (pr_move rfl) ?_
    refine jo_pure rfl (pr_move rfl) ?_
    refine jo_pure rfl (pr_move rfl) ?_
    refine j_open_elem (t := (.list .str)) (i := i) [] (.tail _ (.head _)) (by omega) (fun e1 => ?_)
    show J _ _ (.imm (.list .str) (e1) ((l.getD i [])) :: .fact (fun w_ I_ => ElemAt w_ I_ (lv) (i) 1 [e1]) :: _) _
    refine jo_pure rfl (pr_idx_imm (i := i) rfl (.tail _ (.tail _ (.tail _ (.head _)))) rfl Tryz.underlying26 ty_45 (by omega)) ?_
    refine jo_pure rfl (pr_load_at (e1) rfl (.tail _ (.head _)) ty_45 (by decide) rfl) ?_
    refine jo_callp cal_73 (c_ref10_written (l.getD i []) e1 (by first | omega | rfl | exact hK.1 | (exact fun x hx => Nat.le_trans (hK.2 x hx) (by omega)) | (have := hK.1; omega) | (simp only [List.length_cons, List.length_nil]; omega)) (by first | omega | rfl | exact hK.1 | (exact fun x hx => Nat.le_trans (hK.2 x hx) (by omega)) | (have := hK.1; omega) | (simp only [List.length_cons, List.length_nil]; omega))) ⟨rfl, trivial⟩ rfl (⟨⟨rfl, .head _⟩, trivial⟩) (fun _ => ?_)
    refine jo_buildSlice (t := .str) [writeF (l.getD i [])] [str (writeF (l.getD i []))] (fun a hf => by simp only [List.zipIdx_cons, List.zipIdx_nil, List.map_toArray, List.map_cons, List.map_nil, hf.ev (show ev _ (.tmp 16) = some (str (writeF (l.getD i []))) from rfl)] <;> rfl) rfl Tryz.underlying45 ty_9 rfl rfl rfl rfl rfl (fun g1 => ?_)
    refine j_pull3 ?_
    refine jo_append rfl rfl Tryz.underlying45 ty_9 rfl (by simp only [List.length_append, List.length_cons, List.length_nil, maxLen]; omega) (by simp only [List.length_append, List.length_cons, List.length_nil]; omega) rfl (fun v1 => ?_)
    refine jo_pure rfl (pr_assign rfl) ?_
    refine jo_nil ?_
    refine jq_in_normal ?_
    refine jq_then ?_
    refine jc_region ?_
    refine jo_pure rfl (pr_move rfl) ?_
    refine jo_pure rfl (pr_addN (m := i) (n := 1) rfl rfl (by omega)) ?_
    refine jo_pure rfl (pr_assign rfl) ?_
    refine jo_nil ?_
    refine j_pull1 ?_
    refine j_drop ?_
    refine j_pull1 ?_
    refine j_drop ?_
    refine j_pull1 ?_
    refine j_pull1 ?_
    refine jq_round' ((i + 1), v1, (acc ++ [writeF (l.getD i [])])) (by (try dsimp only); exact (⟨by omega, by simp; omega, by rw [mapK_step h1, hinv.2.2]⟩)) (by (try dsimp only); exact (by omega)) ⟨rfl, rfl, rfl, trivial⟩ (fun _ h => h)
  · have h1 := of_decide_eq_false h1b
    refine jc_exit ?_
    refine jq_then_exit ?_
    refine jq_then_exit ?_
    refine jq_in_hit ?_
    refine jq_then ?_
    refine jc_seq ?_
    refine jc_region ?_
    refine jo_pure rfl (pr_move rfl) ?_
    refine j_pub_row ?_
    refine jo_callp cal_74 (c_ref01_Join acc w (by first | omega | rfl | exact hK.1 | (exact fun x hx => Nat.le_trans (hK.2 x hx) (by omega)) | (have := hK.1; omega) | (simp only [List.length_cons, List.length_nil]; omega)) (hjm)) ⟨rfl, trivial⟩ rfl (⟨⟨rfl, .head _⟩, trivial⟩) (fun _ => ?_)
    refine jo_pure rfl (pr_assign rfl) ?_
    refine jo_nil ?_
    refine jq_then ?_
    refine jc_ret ?_
    refine j_drop ?_
    refine j_drop ?_
    exact jq_ret1 rfl () rfl (show (str (keysT l) : Value) = (str (joinS [44, 32] acc)) from congrArg str (by rw [hinv.2.2, take_over (s := l) (i := i) (by omega)]; rfl)) (fun _ h => h)

theorem c_keySame_1 (x y : List UInt8) (axes : List (List UInt8 × List (List UInt8))) (axesv : Value) (b ab : Nat) (izz : Int) (i : Nat) (hiz : izz + 1 = ((i : Nat) : Int)) (hi : i < axes.length) (hal : axes.length ≤ 1000000) (ham : ∀ a ∈ axes, a.1.length ≤ 1000000) (hx : x.length ≤ 300000) (hy : y.length ≤ 300000) : Con Tryz.prog 76 #[str (x), str (y), .pointer (some ⟨b, 0, none⟩), .pointer (some ⟨ab, 0, none⟩)] [.box b 3 [.int .i64 (izz)], .imm (.list (.pair .str (.list .str))) (axesv) (axes), .ibox ab 23 [axesv]] (fun _ : Unit => .bool (sameF (axes.getD i ([], [])).1 x y)) (fun _ => [.box b 3 [.int .i64 ((i : Nat) : Int)]]) := by
  refine con_of_J (args := [str (x), str (y), .pointer (some ⟨b, 0, none⟩), .pointer (some ⟨ab, 0, none⟩)]) (n := 17) Tryz.func76 rfl (Nat.le_of_ble_eq_true rfl) rfl (fun w0 I0 m0 => ?_)
  show J _ [(0, str (x)), (1, str (y)), (2, .pointer (some ⟨b, 0, none⟩)), (3, .pointer (some ⟨ab, 0, none⟩))] [.box b 3 [.int .i64 (izz)], .imm (.list (.pair .str (.list .str))) (axesv) (axes), .ibox ab 23 [axesv]] _
  refine jc_seq ?_
  refine jc_region ?_
  refine jo_pure rfl (pr_assign rfl) ?_
  refine jo_nil ?_
  refine jq_then ?_
  refine jc_seq ?_
  refine jc_region ?_
  refine jo_pure rfl (pr_load_box (.int .i64 (izz)) rfl ty_3 (.head _) rfl (by decide) rfl) ?_
  refine jo_pure rfl (pr_add (m := izz) (n := ((1 : Nat) : Int)) rfl rfl (by omega)) ?_
  refine jo_store rfl rfl ty_3 [.int .i64 (izz + ((1 : Nat) : Int))] rfl rfl rfl [.int .i64 (izz + ((1 : Nat) : Int))] rfl rfl ?_
  refine jo_nil ?_
  refine jq_then ?_
  refine jc_seq ?_
  by_cases ht : True
  · skip
    rw [show (izz + ((1 : Nat) : Int) : Int) = ((i : Nat) : Int) from hiz]
    refine jc_region ?_
    refine jo_pure rfl (pr_load_ibox (axesv) rfl ty_23 (.tail _ (.tail _ (.head _))) rfl (by decide) rfl) ?_
    refine jo_pure rfl (pr_load_box (.int .i64 ((i : Nat) : Int)) rfl ty_3 (.head _) rfl (by decide) rfl) ?_
    refine j_open_elem (t := (.pair .str (.list .str))) (i := i) ([], []) (.tail _ (.head _)) (by omega) (fun ⟨_, e1⟩ => ?_)
    show J _ _ (.imm (.list .str) (e1) (((axes.getD i ([], []))).2) :: .fact (fun w_ I_ => ElemAt w_ I_ (axesv) (i) 2 [str (((axes.getD i ([], []))).1), e1]) :: _) _
    refine jo_pure rfl (pr_idx_imm (i := i) rfl (.tail _ (.tail _ (.tail _ (.head _)))) rfl Tryz.underlying23 ty_48 (by omega)) ?_
    refine jo_pure rfl (pr_fieldAddr_imm (i := i) rfl (.tail _ (.tail _ (.tail _ (.head _)))) Tryz.underlying48 rfl ty_9 rfl rfl (by omega)) ?_
    refine jo_pure rfl (pr_load_off_at (o := 0) (str (((axes.getD i ([], []))).1)) rfl (.tail _ (.head _)) ty_9 (by decide) rfl rfl) ?_
    refine jo_pure rfl (pr_move rfl) ?_
    refine jo_pure rfl (pr_move rfl) ?_
    refine jo_callp cal_29 (c_variants_Same (((axes.getD i ([], []))).1) x y (by first | omega | exact ham _ (getD_mem hi)) (by first | omega | exact ham _ (getD_mem hi)) (by first | omega | exact ham _ (getD_mem hi))) ⟨rfl, rfl, rfl, trivial⟩ rfl (trivial) (fun _ => ?_)
    refine jo_pure rfl (pr_assign rfl) ?_
    refine jo_nil ?_
    refine jq_then ?_
    refine jc_ret ?_
    refine j_drop ?_
    refine j_drop ?_
    refine j_pull1 ?_
    refine j_drop ?_
    refine j_pull1 ?_
    refine j_drop ?_
    exact jq_ret1 rfl () rfl (show (.bool (sameF (axes.getD i ([], [])).1 x y) : Value) = (.bool (sameF (((axes.getD i ([], []))).1) x y)) from rfl) (fun _ h => h)
  · skip
    exact absurd trivial ht

theorem c_equalFunc_key (p q : List (List UInt8)) (axes : List (List UInt8 × List (List UInt8))) (pv qv axesv : Value) (b ab : Nat) (hpl : p.length = axes.length) (hal : axes.length ≤ 1000000) (ham : ∀ a ∈ axes, a.1.length ≤ 1000000) (hx : ∀ x ∈ p, x.length ≤ 300000) (hy : ∀ x ∈ q, x.length ≤ 300000) : Con Tryz.prog 75 #[pv, qv, .func (.func 76) #[] #[.pointer (some ⟨b, 0, none⟩), .pointer (some ⟨ab, 0, none⟩)]] [.box b 3 [.int .i64 (-1)], .imm (.list .str) (pv) (p), .imm (.list .str) (qv) (q), .imm (.list (.pair .str (.list .str))) (axesv) (axes), .ibox ab 23 [axesv]] (fun _ : Unit => .bool (sameK axes p q)) (fun _ => []) := by
  refine con_of_J (args := [pv, qv, .func (.func 76) #[] #[.pointer (some ⟨b, 0, none⟩), .pointer (some ⟨ab, 0, none⟩)]]) (n := 32) Tryz.func75 rfl (Nat.le_of_ble_eq_true rfl) rfl (fun w0 I0 m0 => ?_)
  show J _ [(0, pv), (1, qv), (2, .func (.func 76) #[] #[.pointer (some ⟨b, 0, none⟩), .pointer (some ⟨ab, 0, none⟩)])] [.box b 3 [.int .i64 (-1)], .imm (.list .str) (pv) (p), .imm (.list .str) (qv) (q), .imm (.list (.pair .str (.list .str))) (axesv) (axes), .ibox ab 23 [axesv]] _
  refine jc_seq ?_
  refine jc_region ?_
  refine jo_pure rfl (pr_assign rfl) ?_
  refine jo_nil ?_
  refine jq_then ?_
  refine jc_seq ?_
  refine jc_seq ?_
  refine jc_region ?_
  refine jo_pure rfl (pr_move rfl) ?_
  refine jo_pure rfl (pr_len_imm rfl (.tail _ (.head _)) Tryz.underlying45) ?_
  refine jo_pure rfl (pr_move rfl) ?_
  refine jo_pure rfl (pr_len_imm rfl (.tail _ (.tail _ (.head _))) Tryz.underlying45) ?_
  refine jo_pure rfl (pr_neqN (m := p.length) (n := q.length) rfl rfl) ?_
  refine jo_nil ?_
  refine jq_then ?_
  refine jc_cond rfl (fun h1b => ?_) (fun h1b => ?_)
  · have h1 := (fun q => of_decide_eq_false (bt_not q)) h1b
    refine jc_seq ?_
    refine jc_region ?_
    refine jo_pure rfl (pr_assign rfl) ?_
    refine jo_nil ?_
    refine jq_then ?_
    refine jc_ret ?_
    refine jq_then_ret ?_
    refine j_drop ?_
    refine j_drop ?_
    refine j_drop ?_
    refine j_drop ?_
    refine j_drop ?_
    exact jq_ret1 rfl () rfl (show (.bool (sameK axes p q) : Value) = (.bool (false)) from congrArg Value.bool (by rw [sameK_no (.inr (fun e => by have h9 : ¬ p.length = q.length := (by simpa using h1); omega))])) (fun _ h => h)
  · have h1 := (fun q => of_decide_eq_true (bf_not q)) h1b
    have hlen : p.length = q.length := by simpa using h1
    refine jc_skip ?_
    refine jq_then ?_
    refine jc_seq ?_
    refine jc_seq ?_
    refine jc_region ?_
    refine jo_pure rfl (pr_move rfl) ?_
    refine jo_pure rfl (pr_len_imm rfl (.tail _ (.head _)) Tryz.underlying45) ?_
    refine jo_pure rfl (pr_move rfl) ?_
    refine jo_nil ?_
    refine jq_then ?_
    refine jc_block ?_
    refine jc_loop2 (fun (i : Nat) (kzz : Int) => [(1, qv), (2, .func (.func 76) #[] #[.pointer (some ⟨b, 0, none⟩), .pointer (some ⟨ab, 0, none⟩)]), (15, pv), (16, .int .i64 ((p.length : Nat) : Int)), (17, .int .i64 ((i : Nat) : Int))]) (fun (i : Nat) (kzz : Int) => [.box b 3 [.int .i64 (kzz)], .imm (.list .str) (pv) (p), .imm (.list .str) (qv) (q), .imm (.list (.pair .str (.list .str))) (axesv) (axes), .ibox ab 23 [axesv]]) (fun (i : Nat) (kzz : Int) => i ≤ p.length ∧ kzz + 1 = ((i : Nat) : Int) ∧ (List.range i).all (sameAt axes p q) = true) (fun (i : Nat) (kzz : Int) => p.length - i) 0 (-1) (⟨Nat.zero_le _, rfl, rfl⟩) (⟨rfl, rfl, rfl, rfl, rfl, trivial⟩) (fun _ h => h) (fun i kzz hinv => ?_)
    refine jc_seq ?_
    refine jc_region ?_
    refine jo_pure rfl (pr_lssN (m := i) (n := p.length) rfl rfl) ?_
    refine jo_nil ?_
    refine jq_then ?_
    refine jc_seq ?_
    refine jc_cond rfl (fun h2b => ?_) (fun h2b => ?_)
    · have h2 := of_decide_eq_true h2b
      refine jc_skip ?_
      refine jq_then ?_
      refine jc_seq ?_
      refine jc_block ?_
      refine jc_seq ?_
      refine jc_region ?_
      refine jo_pure rfl (pr_move rfl) ?_
      refine jo_pure rfl (pr_idx_imm (i := i) rfl (.tail _ (.head _)) rfl Tryz.underlying45 ty_9 (by omega)) ?_
      refine jo_pure rfl (pr_load_elem_imm (i := i) (str (p.getD i [])) rfl (.tail _ (.head _)) ty_9 rfl rfl (by omega) rfl) ?_
      refine jo_pure rfl (pr_assign rfl) ?_
      refine jo_pure rfl (pr_assign rfl) ?_
      refine jo_nil ?_
      refine jq_then ?_
      refine jc_seq ?_
      refine jc_region ?_
      refine jo_pure rfl (pr_move rfl) ?_
      refine jo_pure rfl (pr_move rfl) ?_
      refine jo_pure rfl (pr_idx_imm (i := i) rfl (.tail _ (.tail _ (.head _))) rfl Tryz.underlying45 ty_9 (by omega)) ?_
      refine jo_pure rfl (pr_load_elem_imm (i := i) (str (q.getD i [])) rfl (.tail _ (.tail _ (.head _))) ty_9 rfl rfl (by omega) rfl) ?_
      refine jo_pure rfl (pr_assign rfl) ?_
      refine jo_nil ?_
      refine jq_then ?_
      refine jc_seq ?_
      refine jc_region ?_
      refine jo_pure rfl (pr_move rfl) ?_
      refine jo_pure rfl (pr_move rfl) ?_
      refine jo_pure rfl (pr_move rfl) ?_
      refine j_pull3 ?_
      refine j_dup rfl ?_
      refine j_pull5 ?_
      refine j_dup rfl ?_
      refine j_pull2 ?_
      refine j_pull4 ?_
      refine jo_callvm (fi := []) (vs := [str (p.getD i []), str (q.getD i [])]) (ca := [.pointer (some ⟨b, 0, none⟩), .pointer (some ⟨ab, 0, none⟩)]) [.ibox ab 23 [axesv], .imm (.list (.pair .str (.list .str))) (axesv) (axes), .imm (.list .str) (pv) (p), .imm (.list .str) (qv) (q)] rfl rfl cal_76 (c_keySame_1 (p.getD i []) (q.getD i []) axes axesv b ab kzz i (hinv.2.1) (by omega) (hal) (ham) (hx _ (getD_mem (by omega))) (hy _ (getD_mem (by omega)))) ⟨rfl, rfl, trivial⟩ rfl (fun _ => ?_)
      show J _ _ [.box b 3 [.int .i64 ((i : Nat) : Int)], .ibox ab 23 [axesv], .imm (.list (.pair .str (.list .str))) (axesv) (axes), .imm (.list .str) (pv) (p), .imm (.list .str) (qv) (q)] _
      refine jo_pure rfl (pr_not rfl) ?_
      refine jo_nil ?_
      refine jq_then ?_
      refine jc_cond rfl (fun h3b => ?_) (fun h3b => ?_)
      · have h3 := (fun q => id (bt_not q)) h3b
        refine jc_seq ?_
        refine jc_region ?_
        refine jo_pure rfl (pr_assign rfl) ?_
        refine jo_nil ?_
        refine jq_then ?_
        refine jc_ret ?_
        refine jq_in_ret ?_
        refine jq_then_ret ?_
        refine jq_then_ret ?_
        refine jq_in_ret ?_
        refine jq_then_ret ?_
        refine j_drop ?_
        refine j_drop ?_
        refine j_drop ?_
        refine j_drop ?_
        refine j_drop ?_
        exact jq_ret1 rfl () rfl (show (.bool (sameK axes p q) : Value) = (.bool (false)) from congrArg Value.bool (by rw [sameK_bad (i := i) (by omega) (by have h9 := h3b; unfold sameAt; simpa using h9)])) (fun _ h => h)
      · have h3 := (fun q => id (bf_not q)) h3b
        refine jc_skip ?_
        refine jq_in_normal ?_
        refine jq_then ?_
        refine jc_region ?_
        refine jo_pure rfl (pr_addN (m := i) (n := 1) rfl rfl (by omega)) ?_
        refine jo_pure rfl (pr_move rfl) ?_
        refine jo_nil ?_
        refine j_pull1 ?_
        refine j_pull2 ?_
        refine j_pull4 ?_
        refine j_pull4 ?_
        refine j_pull4 ?_
        refine jq_round' ((i + 1), ((i : Nat) : Int)) (by (try dsimp only); exact (⟨by omega, by omega, range_all hinv.2.2 (by have h9 := h3b; unfold sameAt; simpa using h9)⟩)) (by (try dsimp only); exact (by omega)) ⟨rfl, rfl, rfl, rfl, rfl, trivial⟩ (fun _ h => h)
    · have h2 := of_decide_eq_false h2b
      refine jc_exit ?_
      refine jq_then_exit ?_
      refine jq_then_exit ?_
      refine jq_in_hit ?_
      refine jq_then ?_
      refine jc_seq ?_
      refine jc_region ?_
      refine jo_pure rfl (pr_assign rfl) ?_
      refine jo_nil ?_
      refine jq_then ?_
      refine jc_ret ?_
      refine j_drop ?_
      refine j_drop ?_
      refine j_drop ?_
      refine j_drop ?_
      refine j_drop ?_
      exact jq_ret1 rfl () rfl (show (.bool (sameK axes p q) : Value) = (.bool (true)) from congrArg Value.bool (by rw [sameK_ok hpl (by omega) (by rw [show axes.length = i by omega]; exact hinv.2.2)])) (fun _ h => h)

theorem c_variantkey_Same (axes : List ((List UInt8) × (List (List UInt8)))) (axesv : Value) (p : List (List UInt8)) (pv : Value) (q : List (List UInt8)) (qv : Value) (hal : axes.length ≤ 1000000) (ham : ∀ a ∈ axes, a.1.length ≤ 1000000) (hx : ∀ x ∈ p, x.length ≤ 300000) (hy : ∀ x ∈ q, x.length ≤ 300000) : Con Tryz.prog 38 #[axesv, pv, qv] [.imm (.list (.pair .str (.list .str))) (axesv) (axes), .imm (.list .str) (pv) (p), .imm (.list .str) (qv) (q)] (fun _ : Unit => .bool (sameK axes p q)) (fun _ => []) := by
  refine con_of_J (args := [axesv, pv, qv]) (n := 17) Tryz.func38 rfl (Nat.le_of_ble_eq_true rfl) rfl (fun w0 I0 m0 => ?_)
  show J _ [(0, axesv), (1, pv), (2, qv)] [.imm (.list (.pair .str (.list .str))) (axesv) (axes), .imm (.list .str) (pv) (p), .imm (.list .str) (qv) (q)] _
  refine jc_seq ?_
  refine jc_region ?_
  refine jo_boxV rfl [axesv] (fun w I m hs => SliceV.cells (imm_slice (.head _) hs)) rfl (fun b1 => ?_)
  refine jo_pure rfl (pr_assign rfl) ?_
  refine jo_nil ?_
  refine jq_then ?_
  refine jc_seq ?_
  refine jc_seq ?_
  refine jc_region ?_
  refine jo_pure rfl (pr_move rfl) ?_
  refine jo_pure rfl (pr_len_imm rfl (.tail _ (.tail _ (.head _))) Tryz.underlying45) ?_
  refine jo_pure rfl (pr_load_box (axesv) rfl ty_23 (.head _) rfl (by decide) rfl) ?_
  refine jo_pure rfl (pr_len_imm rfl (.tail _ (.head _)) Tryz.underlying23) ?_
  refine jo_pure rfl (pr_neqN (m := p.length) (n := axes.length) rfl rfl) ?_
  refine jo_nil ?_
  refine jq_then ?_
  refine jc_cond rfl (fun h1b => ?_) (fun h1b => ?_)
  · have h1 := (fun q => of_decide_eq_false (bt_not q)) h1b
    refine jc_seq ?_
    refine jc_region ?_
    refine jo_pure rfl (pr_assign rfl) ?_
    refine jo_nil ?_
    refine jq_then ?_
    refine jc_ret ?_
    refine jq_then_ret ?_
    refine j_drop ?_
    refine j_drop ?_
    refine j_drop ?_
    refine j_drop ?_
    exact jq_ret1 rfl () rfl (show (.bool (sameK axes p q) : Value) = (.bool (false)) from congrArg Value.bool (by rw [sameK_no (.inl (by simpa using h1))])) (fun _ h => h)
  · have h1 := (fun q => of_decide_eq_true (bf_not q)) h1b
    refine jc_skip ?_
    refine jq_then ?_
    refine jc_seq ?_
    refine jc_region ?_
    refine jo_alloc ty_3 [.int .i64 ((0 : Nat) : Int)] rfl rfl (fun b2 => ?_)
    refine jo_store rfl rfl ty_3 [.int .i64 (-1)] rfl rfl rfl [.int .i64 (-1)] rfl rfl ?_
    refine jo_nil ?_
    refine jq_then ?_
    refine jc_seq ?_
    refine jc_region ?_
    refine jo_pure rfl (pr_move rfl) ?_
    refine jo_pure rfl (pr_move rfl) ?_
    refine jo_pure rfl (pr_makeFunc (fs := #[]) (cs := #[.pointer (some ⟨b2, 0, none⟩), .pointer (some ⟨b1, 0, none⟩)]) (fun a hf => by simp) (fun a hf => by simp only [List.map_toArray, List.map_cons, List.map_nil, hf.ev (show ev _ (.tmp 7) = some (.pointer (some ⟨b2, 0, none⟩)) from rfl), hf.ev (show ev _ (.tmp 3) = some (.pointer (some ⟨b1, 0, none⟩)) from rfl)])) ?_
    refine j_pull1 ?_
    refine j_pub_box ?_
    refine j_pull3 ?_
    refine j_dup rfl ?_
    refine j_pull5 ?_
    refine j_dup rfl ?_
    refine j_pull6 ?_
    refine j_dup rfl ?_
    refine j_pull6 ?_
    refine j_dup rfl ?_
    refine j_pull2 ?_
    refine j_pull4 ?_
    refine j_pull6 ?_
    refine j_pull8 ?_
    refine jo_callm [.ibox b1 23 [axesv], .imm (.list (.pair .str (.list .str))) (axesv) (axes), .imm (.list .str) (qv) (q), .imm (.list .str) (pv) (p)] rfl cal_75 (c_equalFunc_key p q axes pv qv axesv b2 b1 (by simpa using h1) (hal) (ham) (hx) (hy)) ⟨rfl, rfl, rfl, trivial⟩ rfl (fun _ => ?_)
    show J _ _ [.ibox b1 23 [axesv], .imm (.list (.pair .str (.list .str))) (axesv) (axes), .imm (.list .str) (qv) (q), .imm (.list .str) (pv) (p)] _
    refine jo_pure rfl (pr_assign rfl) ?_
    refine jo_nil ?_
    refine jq_then ?_
    refine jc_ret ?_
    refine j_drop ?_
    refine j_drop ?_
    refine j_drop ?_
    refine j_drop ?_
    exact jq_ret1 rfl () rfl (show (.bool (sameK axes p q) : Value) = (.bool (sameK axes p q)) from rfl) (fun _ h => h)

theorem c_ref10_SameKey (axes : List ((List UInt8) × (List (List UInt8)))) (axesv : Value) (p : List (List UInt8)) (pv : Value) (q : List (List UInt8)) (qv : Value) (hal : axes.length ≤ 1000000) (ham : ∀ a ∈ axes, a.1.length ≤ 1000000) (hx : ∀ x ∈ p, x.length ≤ 300000) (hy : ∀ x ∈ q, x.length ≤ 300000) : Con Tryz.prog 39 #[axesv, pv, qv] [.imm (.list (.pair .str (.list .str))) (axesv) (axes), .imm (.list .str) (pv) (p), .imm (.list .str) (qv) (q)] (fun _ : Unit => .bool (sameK axes p q)) (fun _ => []) := by
  refine con_of_J (args := [axesv, pv, qv]) (n := 41) Tryz.func39 rfl (Nat.le_of_ble_eq_true rfl) rfl (fun w0 I0 m0 => ?_)
  show J _ [(0, axesv), (1, pv), (2, qv)] [.imm (.list (.pair .str (.list .str))) (axesv) (axes), .imm (.list .str) (pv) (p), .imm (.list .str) (qv) (q)] _
  refine jc_seq ?_
  refine jc_region ?_
  refine jo_pure rfl (pr_assign rfl) ?_
  refine jo_nil ?_
  refine jq_then ?_
  refine jc_seq ?_
  refine jc_seq ?_
  refine jc_region ?_
  refine jo_pure rfl (pr_move rfl) ?_
  refine jo_pure rfl (pr_len_imm rfl (.tail _ (.head _)) Tryz.underlying45) ?_
  refine jo_pure rfl (pr_move rfl) ?_
  refine jo_pure rfl (pr_len_imm rfl (.head _) Tryz.underlying23) ?_
  refine jo_pure rfl (pr_neqN (m := p.length) (n := axes.length) rfl rfl) ?_
  refine jo_pure rfl (pr_move rfl) ?_
  refine jo_gpure (j := 5) (want := false) rfl rfl rfl rfl (fun hg => pr_move rfl) ?_
  refine jo_gpure (j := 5) (want := false) rfl rfl rfl rfl (fun hg => pr_len_imm (evg rfl hg) (.tail _ (.tail _ (.head _))) Tryz.underlying45) ?_
  refine jo_gpure (j := 5) (want := false) rfl rfl rfl rfl (fun hg => pr_move rfl) ?_
  refine jo_gpure (j := 5) (want := false) rfl rfl rfl rfl (fun hg => pr_len_imm (evg rfl hg) (.head _) Tryz.underlying23) ?_
  refine jo_gpure (j := 5) (want := false) rfl rfl rfl rfl (fun hg => pr_neqN (m := q.length) (n := axes.length) (evg rfl hg) (evg rfl hg)) ?_
  refine jo_pure rfl (pr_pick_or rfl rfl rfl) ?_
  refine jo_nil ?_
  refine jq_then ?_
  refine jc_cond rfl (fun h1b => ?_) (fun h1b => ?_)
  · have h1 := (fun q => Or.imp (fun q => of_decide_eq_false (bt_not q)) (fun q => of_decide_eq_false (bt_not q)) (bt_or q)) h1b
    refine jc_seq ?_
    refine jc_region ?_
    refine jo_pure rfl (pr_assign rfl) ?_
    refine jo_nil ?_
    refine jq_then ?_
    refine jc_ret ?_
    refine jq_then_ret ?_
    refine j_drop ?_
    refine j_drop ?_
    refine j_drop ?_
    exact jq_ret1 rfl () rfl (show (.bool (sameK axes p q) : Value) = (.bool (false)) from congrArg Value.bool (by rw [sameK_no (by simpa using h1)])) (fun _ h => h)
  · have h1 := (fun q => And.imp (fun q => of_decide_eq_true (bf_not q)) (fun q => of_decide_eq_true (bf_not q)) (bf_or q)) h1b
    have hpq : p.length = axes.length ∧ q.length = axes.length := by simpa using h1
    refine jc_skip ?_
    refine jq_then ?_
    refine jc_seq ?_
    refine jc_seq ?_
    refine jc_region ?_
    refine jo_pure rfl (pr_assign rfl) ?_
    refine jo_nil ?_
    refine jq_then ?_
    refine jc_block ?_
    refine jc_loop (fun (i : Nat) => [(0, axesv), (1, pv), (2, qv), (7, .int .i64 ((i : Nat) : Int))]) (fun (i : Nat) => [.imm (.list (.pair .str (.list .str))) (axesv) (axes), .imm (.list .str) (pv) (p), .imm (.list .str) (qv) (q)]) (fun (i : Nat) => i ≤ axes.length ∧ (List.range i).all (sameAt axes p q) = true) (fun (i : Nat) => axes.length - i) 0 (⟨Nat.zero_le _, rfl⟩) (⟨rfl, rfl, rfl, rfl, trivial⟩) (fun _ h => h) (fun i hinv => ?_)
    refine jc_seq ?_
    refine jc_seq ?_
    refine jc_region ?_
    refine jo_pure rfl (pr_move rfl) ?_
    refine jo_pure rfl (pr_move rfl) ?_
    refine jo_pure rfl (pr_len_imm rfl (.head _) Tryz.underlying23) ?_
    refine jo_pure rfl (pr_lssN (m := i) (n := axes.length) rfl rfl) ?_
    refine jo_nil ?_
    refine jq_then ?_
    refine jc_cond rfl (fun h2b => ?_) (fun h2b => ?_)
    · have h2 := of_decide_eq_true h2b
      refine jc_skip ?_
      refine jq_then ?_
      refine jc_seq ?_
      refine jc_block ?_
      refine jc_seq ?_
      refine j_open_elem (t := (.pair .str (.list .str))) (i := i) ([], []) (.head _) (by omega) (fun ⟨_, e1⟩ => ?_)
      show J _ _ (.imm (.list .str) (e1) (((axes.getD i ([], []))).2) :: .fact (fun w_ I_ => ElemAt w_ I_ (axesv) (i) 2 [str (((axes.getD i ([], []))).1), e1]) :: _) _
      refine jc_draws mixed (by kernel_rfl) ?_
      refine jd_pure rfl (pr_move rfl) ?_
      refine jd_pure rfl (pr_move rfl) ?_
      refine jd_pure rfl (pr_idx_imm (i := i) rfl (.tail _ (.tail _ (.head _))) rfl Tryz.underlying23 ty_48 (by omega)) ?_
      refine jd_pure rfl (pr_fieldAddr_imm (i := i) rfl (.tail _ (.tail _ (.head _))) Tryz.underlying48 rfl ty_9 rfl rfl (by omega)) ?_
      refine jd_pure rfl (pr_load_off_at (o := 0) (str (((axes.getD i ([], []))).1)) rfl (.tail _ (.head _)) ty_9 (by decide) rfl rfl) ?_
      refine jd_pure rfl (pr_move rfl) ?_
      refine jd_pure rfl (pr_move rfl) ?_
      refine jd_pure rfl (pr_idx_imm (i := i) rfl (.tail _ (.tail _ (.tail _ (.head _)))) rfl Tryz.underlying45 ty_9 (by omega)) ?_
      refine jd_pure rfl (pr_load_elem_imm (i := i) (str (p.getD i [])) rfl (.tail _ (.tail _ (.tail _ (.head _)))) ty_9 rfl rfl (by omega) rfl) ?_
      refine jd_pure rfl (pr_move rfl) ?_
      refine jd_pure rfl (pr_move rfl) ?_
      refine jd_pure rfl (pr_idx_imm (i := i) rfl (.tail _ (.tail _ (.tail _ (.tail _ (.head _))))) rfl Tryz.underlying45 ty_9 (by omega)) ?_
      refine jd_pure rfl (pr_load_elem_imm (i := i) (str (q.getD i [])) rfl (.tail _ (.tail _ (.tail _ (.tail _ (.head _))))) ty_9 rfl rfl (by omega) rfl) ?_
      refine jd_callp cal_30 (c_ref10_Same (((axes.getD i ([], []))).1) (p.getD i []) (q.getD i []) (by first | omega | exact ham _ (getD_mem (dd := ([], [])) h2) | exact hx _ (getD_mem (by omega)) | exact hy _ (getD_mem (by omega))) (by first | omega | exact ham _ (getD_mem (dd := ([], [])) h2) | exact hx _ (getD_mem (by omega)) | exact hy _ (getD_mem (by omega))) (by first | omega | exact ham _ (getD_mem (dd := ([], [])) h2) | exact hx _ (getD_mem (by omega)) | exact hy _ (getD_mem (by omega)))) ⟨rfl, rfl, rfl, trivial⟩ rfl (trivial) ?_
      refine jd_pure rfl (pr_not rfl) ?_
      refine jd_nil ?_
      refine jq_then ?_
      refine jc_cond rfl (fun h3b => ?_) (fun h3b => ?_)
      · have h3 := (fun q => id (bt_not q)) h3b
        refine jc_seq ?_
        refine jc_region ?_
        refine jo_pure rfl (pr_assign rfl) ?_
        refine jo_nil ?_
        refine jq_then ?_
        refine jc_ret ?_
        refine jq_in_ret ?_
        refine jq_then_ret ?_
        refine jq_then_ret ?_
        refine jq_in_ret ?_
        refine jq_then_ret ?_
        refine j_drop ?_
        refine j_drop ?_
        refine j_drop ?_
        refine j_drop ?_
        refine j_drop ?_
        exact jq_ret1 rfl () rfl (show (.bool (sameK axes p q) : Value) = (.bool (false)) from congrArg Value.bool (by rw [sameK_bad (i := i) h2 (by have h9 := h3b; unfold sameAt; simpa using h9)])) (fun _ h => h)
      · have h3 := (fun q => id (bf_not q)) h3b
        refine jc_skip ?_
        refine jq_in_normal ?_
        refine jq_then ?_
        refine jc_region ?_
        refine jo_pure rfl (pr_move rfl) ?_
        refine jo_pure rfl (pr_addN (m := i) (n := 1) rfl rfl (by omega)) ?_
        refine jo_pure rfl (pr_assign rfl) ?_
        refine jo_nil ?_
        refine j_drop ?_
        refine j_drop ?_
        refine j_pull2 ?_
        refine j_pull2 ?_
        refine j_pull2 ?_
        refine jq_round' (i + 1) (by (try dsimp only); exact (⟨by omega, range_all hinv.2 (by have h9 := h3b; unfold sameAt; simpa using h9)⟩)) (by (try dsimp only); exact (by omega)) ⟨rfl, rfl, rfl, rfl, trivial⟩ (fun _ h => h)
    · have h2 := of_decide_eq_false h2b
      refine jc_exit ?_
      refine jq_then_exit ?_
      refine jq_then_exit ?_
      refine jq_in_hit ?_
      refine jq_then ?_
      refine jc_seq ?_
      refine jc_region ?_
      refine jo_pure rfl (pr_assign rfl) ?_
      refine jo_nil ?_
      refine jq_then ?_
      refine jc_ret ?_
      refine j_drop ?_
      refine j_drop ?_
      refine j_drop ?_
      exact jq_ret1 rfl () rfl (show (.bool (sameK axes p q) : Value) = (.bool (true)) from congrArg Value.bool (by rw [sameK_ok hpq.1 hpq.2 (by rw [show axes.length = i by omega]; exact hinv.2)])) (fun _ h => h)

theorem c_keep_Keys (l : List (List (List UInt8))) (lv : Value) (hl : l.length ≤ 9223372036854775807) (hm : ∀ k ∈ l, k.length ≤ 9223372036854775807) : Con Tryz.prog 35 #[lv] [.imm (.list (.list .str)) (lv) (l)] (fun _ : Unit => .bool (keepK l)) (fun _ => []) := by
  refine con_of_J (args := [lv]) (n := 23) Tryz.func35 rfl (Nat.le_of_ble_eq_true rfl) rfl (fun w0 I0 m0 => ?_)
  show J _ [(0, lv)] [.imm (.list (.list .str)) (lv) (l)] _
  refine jc_seq ?_
  refine jc_region ?_
  refine jo_pure rfl (pr_assign rfl) ?_
  refine jo_nil ?_
  refine jq_then ?_
  refine jc_seq ?_
  refine jc_seq ?_
  refine jc_region ?_
  refine jo_pure rfl (pr_assign rfl) ?_
  refine jo_nil ?_
  refine jq_then ?_
  refine jc_block ?_
  refine jc_loop (fun (i : Nat) => [(0, lv), (3, .int .i64 ((i : Nat) : Int))]) (fun (i : Nat) => [.imm (.list (.list .str)) (lv) (l)]) (fun (i : Nat) => i ≤ 11 ∧ (l.take i).all keepS = true) (fun (i : Nat) => 11 - i) 0 (⟨Nat.zero_le _, rfl⟩) (⟨rfl, rfl, trivial⟩) (fun _ h => h) (fun i hinv => ?_)
  refine jc_seq ?_
  refine jc_seq ?_
  refine jc_region ?_
  refine jo_pure rfl (pr_move rfl) ?_
  refine jo_pure rfl (pr_move rfl) ?_
  refine jo_pure rfl (pr_len_imm rfl (.head _) Tryz.underlying26) ?_
  refine jo_pure rfl (pr_lssN (m := i) (n := l.length) rfl rfl) ?_
  refine jo_pure rfl (pr_move rfl) ?_
  refine jo_gpure (j := 4) (want := true) rfl rfl rfl rfl (fun hg => pr_move rfl) ?_
  refine jo_gpure (j := 4) (want := true) rfl rfl rfl rfl (fun hg => pr_lssN (m := i) (n := 11) (evg rfl hg) rfl) ?_
  refine jo_pure rfl (pr_pick_and rfl rfl rfl) ?_
  refine jo_nil ?_
  refine jq_then ?_
  refine jc_cond rfl (fun h1b => ?_) (fun h1b => ?_)
  · have h1 := (fun q => And.imp of_decide_eq_true of_decide_eq_true (bt_and q)) h1b
    refine jc_skip ?_
    refine jq_then ?_
    refine jc_seq ?_
    refine jc_block ?_
    refine jc_seq ?_
    refine jc_region ?_
    refine jo_pure rfl (pr_move rfl) ?_
    refine jo_pure rfl (pr_move rfl) ?_
    refine j_open_elem (t := (.list .str)) (i := i) [] (.head _) (by first | omega | (simp at hg; omega)) (fun e1 => ?_)
    show J _ _ (.imm (.list .str) (e1) ((l.getD i [])) :: .fact (fun w_ I_ => ElemAt w_ I_ (lv) (i) 1 [e1]) :: _) _
    refine jo_pure rfl (pr_idx_imm (i := i) rfl (.tail _ (.tail _ (.head _))) rfl Tryz.underlying26 ty_45 (by first | omega | (simp at hg; omega))) ?_
    refine jo_pure rfl (pr_load_at (e1) rfl (.tail _ (.head _)) ty_45 (by decide) rfl) ?_
    refine jo_callp cal_36 (c_keep_Strings (l.getD i []) e1 (by exact hm _ (getD_mem (dd := []) h1.1))) ⟨rfl, trivial⟩ rfl (⟨⟨rfl, .head _⟩, trivial⟩) (fun _ => ?_)
    refine jo_pure rfl (pr_not rfl) ?_
    refine jo_nil ?_
    refine jq_then ?_
    refine jc_cond rfl (fun h2b => ?_) (fun h2b => ?_)
    · have h2 := (fun q => id (bt_not q)) h2b
      refine jc_seq ?_
      refine jc_region ?_
      refine jo_pure rfl (pr_assign rfl) ?_
      refine jo_nil ?_
      refine jq_then ?_
      refine jc_ret ?_
      refine jq_in_ret ?_
      refine jq_then_ret ?_
      refine jq_then_ret ?_
      refine jq_in_ret ?_
      refine jq_then_ret ?_
      refine j_drop ?_
      refine j_drop ?_
      refine j_drop ?_
      exact jq_ret1 rfl () rfl (show (.bool (keepK l) : Value) = (.bool (false)) from congrArg Value.bool (by rw [keepK, keep_miss (dd := []) h1.2 h1.1 h2]; rfl)) (fun _ h => h)
    · have h2 := (fun q => id (bf_not q)) h2b
      refine jc_skip ?_
      refine jq_in_normal ?_
      refine jq_then ?_
      refine jc_region ?_
      refine jo_pure rfl (pr_move rfl) ?_
      refine jo_pure rfl (pr_addN (m := i) (n := 1) rfl rfl (by omega)) ?_
      refine jo_pure rfl (pr_assign rfl) ?_
      refine jo_nil ?_
      refine j_drop ?_
      refine j_drop ?_
      refine jq_round' (i + 1) (by (try dsimp only); exact (⟨by omega, all_step (dd := []) h1.1 hinv.2 h2⟩)) (by (try dsimp only); exact (by omega)) ⟨rfl, rfl, trivial⟩ (fun _ h => h)
  · have h1 := (fun q => Or.imp of_decide_eq_false of_decide_eq_false (bf_and q)) h1b
    refine jc_exit ?_
    refine jq_then_exit ?_
    refine jq_then_exit ?_
    refine jq_in_hit ?_
    refine jq_then ?_
    refine jc_seq ?_
    refine jc_region ?_
    refine jo_pure rfl (pr_move rfl) ?_
    refine jo_pure rfl (pr_len_imm rfl (.head _) Tryz.underlying26) ?_
    refine jo_pure rfl (pr_leqN (m := l.length) (n := 10) rfl rfl) ?_
    refine jo_pure rfl (pr_assign rfl) ?_
    refine jo_nil ?_
    refine jq_then ?_
    refine jc_ret ?_
    refine j_drop ?_
    exact jq_ret1 rfl () rfl (show (.bool (keepK l) : Value) = (.bool (decide ((l.length : Nat) ≤ 10))) from congrArg Value.bool (by rw [keepK, keep_end hinv.1 h1 hinv.2]; rfl)) (fun _ h => h)
end Go.Proofs.YtgahnjchpomcfaaGreatDoor
