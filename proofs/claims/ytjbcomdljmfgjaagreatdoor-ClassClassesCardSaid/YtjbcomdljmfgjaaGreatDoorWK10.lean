/-
 Contracts of functions of the program: each returns what a plain function says, for every input within the bounds named. Conditions: the bounds.
-/
import Derived.Test.YtjbcomdljmfgjaaGreatDoorRows
import Derived.Test.YtjbcomdljmfgjaaGreatDoorWK9
namespace Go.Proofs.YtjbcomdljmfgjaaGreatDoor
open Go Go.Sep
set_option linter.unusedSimpArgs false
set_option linter.unusedVariables false

open Go.Plain

theorem cal_18 : Cal Tryz.prog 18 := cal_of Tryz.func18 (by kernel_rfl) rfl
theorem cal_20 : Cal Tryz.prog 20 := cal_of Tryz.func20 (by kernel_rfl) rfl
theorem cal_52 : Cal Tryz.prog 52 := cal_of Tryz.func52 (by kernel_rfl) rfl

theorem c_ref10_Class (axes : List ((List UInt8) × (List (List UInt8)))) (axesv : Value) (l : List ((List UInt8) × (List UInt8))) (lv : Value) (strict : Bool) (hal : axes.length ≤ 1000) (hav : ∀ a ∈ axes, a.1.length ≤ 300 ∧ a.2.length ≤ 1000 ∧ ∀ x ∈ a.2, x.length ≤ 300) (hfl : l.length ≤ 1000000) (hml : ∀ x ∈ l, x.1.length ≤ 20000 ∧ x.2.length ≤ 20000) : Con Tryz.prog 18 #[axesv, lv, .bool (strict)] [.imm (.list (.pair .str (.list .str))) (axesv) (axes), .imm (.list (.pair .str .str)) (lv) (l)] (fun _ : Unit => str (classF axes l strict)) (fun _ => []) := by
 refine con_of_J (args := [axesv, lv, .bool (strict)]) (n := 36) Tryz.func18 rfl (Nat.le_of_ble_eq_true rfl) rfl (fun w0 I0 m0 => ?_)
 show J _ [(0, axesv), (1, lv), (2, .bool (strict))] [.imm (.list (.pair .str (.list .str))) (axesv) (axes), .imm (.list (.pair .str .str)) (lv) (l)] _
 have ham : ∀ a ∈ axes, a.1.length ≤ 1000000 ∧ (∀ x ∈ a.2, x.length ≤ 300000) ∧ a.2.length ≤ 9223372036854775807 := fun a ha => by have := hav a ha; exact ⟨by omega, fun x hx => Nat.le_trans (this.2.2 x hx) (by omega), by omega⟩
 refine jc_seq (jc_region (jo_pure rfl (pr_assign rfl) (jo_nil (jq_then (jc_seq ?_)))))
 refine jc_seq (jc_region (jo_pure rfl (pr_move rfl) ?_))
 refine jo_callp cal_22 (c_ref10_Valid axes axesv (by first | omega | exact ham | exact hfl | exact hml | exact hA.1 | exact hA.2.1 | exact hA.2.2 | (exact fun x hx => Nat.le_trans (hrm x hx) (by omega)) | (rw [List.length_cons]; omega) | exact hacm) (by first | omega | exact ham | exact hfl | exact hml | exact hA.1 | exact hA.2.1 | exact hA.2.2 | (exact fun x hx => Nat.le_trans (hrm x hx) (by omega)) | (rw [List.length_cons]; omega) | exact hacm)) ⟨rfl, trivial⟩ rfl (⟨⟨rfl, .head _⟩, trivial⟩) (fun _ => ?_)
 refine jo_pure rfl (pr_not rfl) ?_
 refine jo_nil (jq_then ?_)
 refine jc_cond rfl (fun h1b => ?_) (fun h1b => ?_)
 ·have h1 := (fun q => id (bt_not q)) h1b
  refine jc_seq (jc_region (jo_pure rfl (pr_assign rfl) (jo_nil (jq_then (jc_ret ?_)))))
  refine jq_then_ret (j_drop (j_drop ?_))
  exact jq_ret1 rfl () rfl (show (str (classF axes l strict) : Value) = (str ([])) from congrArg str (by rw [class_no h1])) (fun _ h => h)
 ·have h1 := (fun q => id (bf_not q)) h1b
  have hv4 := validL_len h1
  refine jc_skip (jq_then (jc_seq (jc_region (jo_pure rfl (pr_assign rfl) (jo_nil ?_)))))
  refine jq_then (jc_seq (jc_seq (jc_region (jo_pure rfl (pr_assign rfl) (jo_nil ?_)))))
  refine jq_then (jc_block (j_nil_row 32 (.pair .str (.list .str)) ?_))
  refine jc_loop3 (fun (i : Nat) (w : Value) (acc : List (List UInt8 × List (List UInt8))) => [(0, axesv), (1, lv), (2, .bool (strict)), (7, w), (8, .int .i64 ((i : Nat) : Int))]) (fun (i : Nat) (w : Value) (acc : List (List UInt8 × List (List UInt8))) => [.row (w) 32 (.pair .str (.list .str)) (acc), .imm (.list (.pair .str (.list .str))) (axesv) (axes), .imm (.list (.pair .str .str)) (lv) (l)]) (fun (i : Nat) (w : Value) (acc : List (List UInt8 × List (List UInt8))) => i ≤ axes.length ∧ acc.length ≤ i ∧ acc = rankedAx (axes.take i) l strict) (fun (i : Nat) (w : Value) (acc : List (List UInt8 × List (List UInt8))) => axes.length - i) 0 (.slice none 0 0) [] (⟨Nat.zero_le _, Nat.le_refl _, rfl⟩) (⟨rfl, rfl, rfl, rfl, rfl, trivial⟩) (fun _ h => h) (fun i w acc hinv => ?_)
  refine jc_seq (jc_seq (jc_region (jo_pure rfl (pr_move rfl) (jo_pure rfl (pr_move rfl) (jo_pure rfl (pr_len_imm rfl (.tail _ (.head _)) Tryz.underlying22) ?_)))))
  refine jo_pure rfl (pr_lssN (m := i) (n := axes.length) rfl rfl) ?_
  refine jo_nil (jq_then ?_)
  refine jc_cond rfl (fun h2b => ?_) (fun h2b => ?_)
  ·have h2 := of_decide_eq_true h2b
   have hA := ham _ (getD_mem (dd := ([], [])) h2)
   have hB := hav _ (getD_mem (dd := ([], [])) h2)
   have hrl := rankA_length (a := (axes.getD i ([], []))) (l := l) (strict := strict)
   have hrm : ∀ x ∈ (rankA (axes.getD i ([], [])) l strict), x.length ≤ 300 := fun x hx => hB.2.2 x (rankA_sub x hx)
   have hwl := writeF_length hrm
   have hwl2 := Nat.mul_le_mul hrl (Nat.le_refl (2 * 300 + 3))
   refine jc_skip (jq_then (jc_seq (jc_block ?_)))
   refine j_open_elem (t := (.pair .str (.list .str))) (i := i) ([], []) (.tail _ (.head _)) (by omega) (fun ⟨_, e1⟩ => ?_)
   show J _ _ (.imm (.list .str) (e1) (((axes.getD i ([], []))).2) :: .fact (fun w_ I_ => ElemAt w_ I_ (axesv) (i) 2 [str (((axes.getD i ([], []))).1), e1]) :: _) _
   refine j_pull2 ?_
   refine jc_held (fun (iq : Value × Value) => [(0, axesv), (1, lv), (2, .bool (strict)), (7, iq.1), (8, .int .i64 ((i : Nat) : Int))]) (fun iq => [.row (iq.1) 32 (.pair .str (.list .str)) (acc ++ [(((axes.getD i ([], []))).1, rankA ((axes.getD i ([], []))) l strict)]), .imm (.list .str) (iq.2) (rankA ((axes.getD i ([], []))) l strict), .imm (.list .str) (e1) (((axes.getD i ([], []))).2), .fact (fun w_ I_ => ElemAt w_ I_ (axesv) (i) 2 [str (((axes.getD i ([], []))).1), e1]), .imm (.list (.pair .str (.list .str))) (axesv) (axes), .imm (.list (.pair .str .str)) (lv) (l)]) [.imm (.list .str) (e1) (((axes.getD i ([], []))).2), .fact (fun w_ I_ => ElemAt w_ I_ (axesv) (i) 2 [str (((axes.getD i ([], []))).1), e1]), .imm (.list (.pair .str (.list .str))) (axesv) (axes), .imm (.list (.pair .str .str)) (lv) (l)] mixed (fun lst hlst => ?_) (fun ⟨v1, r1⟩ => ?_)
   ·subst hlst
    refine jh_take (listed' := #[true, false, false, false, false, false, false, false, false, false, false, false, false, false, false, false, false]) 0 rfl (by kernel_rfl) (by kernel_rfl) (by kernel_rfl) rfl (pr_move rfl) (fun _ h => Mem.drop1 (h)) rfl ?_
    refine jh_take (listed' := #[true, true, false, false, false, false, false, false, false, false, false, false, false, false, false, false, false]) 1 rfl (by kernel_rfl) (by kernel_rfl) (by kernel_rfl) rfl (pr_move rfl) (fun _ h => Mem.drop1 (h)) rfl ?_
    refine jh_take (listed' := #[true, true, true, false, false, false, false, false, false, false, false, false, false, false, false, false, false]) 2 rfl (by kernel_rfl) (by kernel_rfl) (by kernel_rfl) rfl (pr_move rfl) (fun _ h => Mem.drop1 (h)) rfl ?_
    refine jh_take (listed' := #[true, true, true, true, false, false, false, false, false, false, false, false, false, false, false, false, false]) 3 rfl (by kernel_rfl) (by kernel_rfl) (by kernel_rfl) rfl (pr_idx_imm (i := i) rfl (.tail _ (.tail _ (.head _))) rfl Tryz.underlying22 ty_32 (by omega)) (fun _ h => Mem.drop1 (h)) rfl ?_
    refine jh_take (listed' := #[true, true, true, true, true, false, false, false, false, false, false, false, false, false, false, false, false]) 4 rfl (by kernel_rfl) (by kernel_rfl) (by kernel_rfl) rfl (pr_fieldAddr_imm (i := i) rfl (.tail _ (.tail _ (.head _))) Tryz.underlying32 rfl ty_9 rfl rfl (by omega)) (fun _ h => Mem.drop1 (h)) rfl ?_
    refine jh_take (listed' := #[true, true, true, true, true, true, false, false, false, false, false, false, false, false, false, false, false]) 5 rfl (by kernel_rfl) (by kernel_rfl) (by kernel_rfl) rfl (pr_load_off_at (o := 0) (str (((axes.getD i ([], []))).1)) rfl (.tail _ (.head _)) ty_9 (by decide) rfl rfl) (fun _ h => Mem.drop1 (h)) rfl ?_
    refine jh_take (listed' := #[true, true, true, true, true, true, true, false, false, false, false, false, false, false, false, false, false]) 6 rfl (by kernel_rfl) (by kernel_rfl) (by kernel_rfl) rfl (pr_move rfl) (fun _ h => Mem.drop1 (h)) rfl ?_
    refine jh_take (listed' := #[true, true, true, true, true, true, true, true, false, false, false, false, false, false, false, false, false]) 7 rfl (by kernel_rfl) (by kernel_rfl) (by kernel_rfl) rfl (pr_move rfl) (fun _ h => Mem.drop1 (h)) rfl ?_
    refine jh_take (listed' := #[true, true, true, true, true, true, true, true, true, false, false, false, false, false, false, false, false]) 8 rfl (by kernel_rfl) (by kernel_rfl) (by kernel_rfl) rfl (pr_idx_imm (i := i) rfl (.tail _ (.tail _ (.head _))) rfl Tryz.underlying22 ty_32 (by omega)) (fun _ h => Mem.drop1 (h)) rfl ?_
    refine jh_take (listed' := #[true, true, true, true, true, true, true, true, true, true, false, false, false, false, false, false, false]) 9 rfl (by kernel_rfl) (by kernel_rfl) (by kernel_rfl) rfl (pr_load_at (.agg #[str (((axes.getD i ([], []))).1), e1]) rfl (.tail _ (.head _)) ty_32 (by decide) rfl) (fun _ h => Mem.drop1 (h)) rfl ?_
    refine jh_take (listed' := #[true, true, true, true, true, true, true, true, true, true, true, false, false, false, false, false, false]) 10 rfl (by kernel_rfl) (by kernel_rfl) (by kernel_rfl) rfl (pr_move rfl) (fun _ h => Mem.drop1 (h)) rfl ?_
    refine jh_take (listed' := #[true, true, true, true, true, true, true, true, true, true, true, true, false, false, false, false, false]) 11 rfl (by kernel_rfl) (by kernel_rfl) (by kernel_rfl) rfl (pr_move rfl) (fun _ h => Mem.drop1 (h)) rfl ?_
    refine jh_all [12] (by kernel_rfl) (by simp) (fun i hi => ?_)
    simp only [List.mem_cons, List.not_mem_nil, or_false] at hi
    subst hi
    ·refine jh_op rfl ?_
     have con1 := c_ref10_Ranked ((axes.getD i ([], []))) e1 l lv strict (by first | omega | exact ham | exact hfl | exact hml | exact hA.1 | exact hA.2.1 | exact hA.2.2 | (exact fun x hx => Nat.le_trans (hrm x hx) (by omega)) | (rw [List.length_cons]; omega) | exact hacm) (by first | omega | exact ham | exact hfl | exact hml | exact hA.1 | exact hA.2.1 | exact hA.2.2 | (exact fun x hx => Nat.le_trans (hrm x hx) (by omega)) | (rw [List.length_cons]; omega) | exact hacm) (by first | omega | exact ham | exact hfl | exact hml | exact hA.1 | exact hA.2.1 | exact hA.2.2 | (exact fun x hx => Nat.le_trans (hrm x hx) (by omega)) | (rw [List.length_cons]; omega) | exact hacm) (by first | omega | exact ham | exact hfl | exact hml | exact hA.1 | exact hA.2.1 | exact hA.2.2 | (exact fun x hx => Nat.le_trans (hrm x hx) (by omega)) | (rw [List.length_cons]; omega) | exact hacm) (by first | omega | exact ham | exact hfl | exact hml | exact hA.1 | exact hA.2.1 | exact hA.2.2 | (exact fun x hx => Nat.le_trans (hrm x hx) (by omega)) | (rw [List.length_cons]; omega) | exact hacm)
     refine jo_callp cal_35 con1 (by exact ⟨rfl, rfl, rfl, trivial⟩) rfl (by exact ⟨⟨rfl, .tail _ (.head _)⟩, ⟨⟨rfl, .tail _ (.tail _ (.tail _ (.tail _ (.head _))))⟩, trivial⟩⟩) (fun r1 => ?_)
     clear con1
     show J _ _ [.imm (.list .str) (r1) (rankA ((axes.getD i ([], []))) l strict), .row (w) 32 (.pair .str (.list .str)) (acc), .imm (.list .str) (e1) (((axes.getD i ([], []))).2), .fact (fun w_ I_ => ElemAt w_ I_ (axesv) (i) 2 [str (((axes.getD i ([], []))).1), e1]), .imm (.list (.pair .str (.list .str))) (axesv) (axes), .imm (.list (.pair .str .str)) (lv) (l)] _
     refine jh_in (listed' := #[true, true, true, true, true, true, true, true, true, true, true, true, true, false, false, false, false]) (fun _ h => Mem.drop1 (Mem.drop1 (h))) rfl ?_
     refine jh_all [13] (by kernel_rfl) (by simp) (fun i hi => ?_)
     simp only [List.mem_cons, List.not_mem_nil, or_false] at hi
     subst hi
     ·refine jh_op rfl ?_
      refine jo_pure rfl (pr_buildV [(0, str (((axes.getD i ([], []))).1)), (1, r1)] [str (((axes.getD i ([], []))).1), r1] (fun a hf => by simp only [List.map_toArray, List.map_cons, List.map_nil, hf.ev (show ev _ (.tmp 23) = some (str (((axes.getD i ([], []))).1)) from rfl), hf.ev (show ev _ (.tmp 30) = some (r1) from rfl)]) (fun w I m hs => by obtain ⟨_, _, _, e0⟩ := imm_slice (.head _) hs; rw [e0]; kernel_rfl)) ?_
      refine jh_in (listed' := #[true, true, true, true, true, true, true, true, true, true, true, true, true, true, false, false, false]) (fun _ h => Mem.drop1 (Mem.drop1 (h))) rfl ?_
      refine jh_all [14] (by kernel_rfl) (by simp) (fun i hi => ?_)
      simp only [List.mem_cons, List.not_mem_nil, or_false] at hi
      subst hi
      ·refine jh_op rfl ?_
       refine jo_buildSliceL (t := (.pair .str (.list .str))) [(((axes.getD i ([], []))).1, rankA ((axes.getD i ([], []))) l strict)] [.agg #[str (((axes.getD i ([], []))).1), r1]] [[str (((axes.getD i ([], []))).1), r1]] (fun a hf => by simp only [List.zipIdx_cons, List.zipIdx_nil, List.map_toArray, List.map_cons, List.map_nil, hf.ev (show ev _ (.tmp 31) = some (.agg #[str (((axes.getD i ([], []))).1), r1]) from rfl)] <;> rfl) rfl ⟨⟨[str (((axes.getD i ([], []))).1)], [r1], rfl, rfl, ⟨r1, rfl, .head _⟩⟩, trivial⟩ Tryz.underlying22 ty_32 rfl rfl rfl rfl (fun g1 => ?_)
       refine jh_in (listed' := #[true, true, true, true, true, true, true, true, true, true, true, true, true, true, true, false, false]) (fun _ h => Mem.drop1 (Mem.drop1 (Mem.drop1 (h)))) rfl ?_
       refine jh_all [15] (by kernel_rfl) (by simp) (fun i hi => ?_)
       simp only [List.mem_cons, List.not_mem_nil, or_false] at hi
       subst hi
       ·refine jh_op rfl ?_
        refine j_pull2 ?_
        refine jo_append rfl rfl Tryz.underlying22 ty_32 rfl (by simp only [List.length_append, List.length_cons, List.length_nil, maxLen]; omega) (by simp only [List.length_append, List.length_cons, List.length_nil]; omega) rfl (fun v1 => ?_)
        refine jh_in (listed' := #[true, true, true, true, true, true, true, true, true, true, true, true, true, true, true, true, false]) (fun _ h => Mem.drop1 (Mem.drop1 (h))) rfl ?_
        refine jh_take (listed' := #[true, true, true, true, true, true, true, true, true, true, true, true, true, true, true, true, true]) 16 rfl (by kernel_rfl) (by kernel_rfl) (by kernel_rfl) rfl (pr_assign rfl) (fun _ h => Mem.drop1 (Mem.drop1 (h))) rfl ?_
        show J _ _ _ _
        refine j_pull5 ?_
        refine j_pull5 ?_
        refine j_pull5 ?_
        refine j_pull5 ?_
        refine j_pull5 ?_
        refine j_pull5 ?_
        show JH _ _ _ _ _ _ _ _
        exact jh_done ⟨v1, r1⟩ (by kernel_rfl) ⟨rfl, rfl, rfl, rfl, rfl, trivial⟩ (fun _ h => h)
   ·skip
    show J _ [(0, axesv), (1, lv), (2, .bool (strict)), (7, v1), (8, .int .i64 ((i : Nat) : Int))] [.row (v1) 32 (.pair .str (.list .str)) (acc ++ [(((axes.getD i ([], []))).1, rankA ((axes.getD i ([], []))) l strict)]), .imm (.list .str) (r1) (rankA ((axes.getD i ([], []))) l strict), .imm (.list .str) (e1) (((axes.getD i ([], []))).2), .fact (fun w_ I_ => ElemAt w_ I_ (axesv) (i) 2 [str (((axes.getD i ([], []))).1), e1]), .imm (.list (.pair .str (.list .str))) (axesv) (axes), .imm (.list (.pair .str .str)) (lv) (l)] _
    refine jq_in_normal (jq_then (jc_region (jo_pure rfl (pr_move rfl) (jo_pure rfl (pr_addN (m := i) (n := 1) rfl rfl (by omega)) ?_))))
    refine jo_pure rfl (pr_assign rfl) (jo_nil (j_pull1 (j_drop (j_pull1 (j_drop ?_)))))
    refine j_pull1 (j_drop (j_pull2 (j_pull2 (j_pull2 ?_))))
    refine jq_round' ((i + 1), v1, (acc ++ [(((axes.getD i ([], []))).1, rankA ((axes.getD i ([], []))) l strict)])) (by (try dsimp only); exact (⟨by omega, by simp only [List.length_append, List.length_cons, List.length_nil]; omega, by rw [ranked_step2 h2, hinv.2.2]⟩)) (by (try dsimp only); exact (by omega)) ⟨rfl, rfl, rfl, rfl, rfl, trivial⟩ (fun _ h => h)
  ·have h2 := of_decide_eq_false h2b
   have hacm : ∀ a ∈ acc, a.1.length ≤ 300 ∧ a.2.length ≤ 20 ∧ ∀ x ∈ a.2, x.length ≤ 300 := fun a ha => by rw [hinv.2.2] at ha; obtain ⟨b, hb, rfl⟩ := List.mem_map.1 ha; have hb2 := hav b (List.mem_of_mem_take hb); have := rankA_length (a := b) (l := l) (strict := strict); exact ⟨hb2.1, by show (rankA b l strict).length ≤ 20; omega, fun x hx => hb2.2.2 x (rankA_sub x hx)⟩
   refine jc_exit ?_
   refine jq_then_exit ?_
   refine jq_then_exit ?_
   refine jq_in_hit ?_
   refine jq_then (jc_seq (jc_region (jo_pure rfl (pr_move rfl) (j_pub_row ?_))))
   refine jo_callp cal_52 (c_ref10_axesText acc w (by first | omega | exact ham | exact hfl | exact hml | exact hA.1 | exact hA.2.1 | exact hA.2.2 | (exact fun x hx => Nat.le_trans (hrm x hx) (by omega)) | (rw [List.length_cons]; omega) | exact hacm) (by first | omega | exact ham | exact hfl | exact hml | exact hA.1 | exact hA.2.1 | exact hA.2.2 | (exact fun x hx => Nat.le_trans (hrm x hx) (by omega)) | (rw [List.length_cons]; omega) | exact hacm)) ⟨rfl, trivial⟩ rfl (⟨⟨rfl, .head _⟩, trivial⟩) (fun _ => ?_)
   refine jo_pure rfl (pr_assign rfl) (jo_nil (jq_then (jc_ret (j_drop (j_drop ?_)))))
   refine j_drop ?_
   exact jq_ret1 rfl () rfl (show (str (classF axes l strict) : Value) = (str (axesT acc)) from congrArg str (by rw [class_yes h1, hinv.2.2, take_over (s := axes) (i := i) (by omega)])) (fun _ h => h)

theorem c_ref10_SameClass (axes : List ((List UInt8) × (List (List UInt8)))) (axesv : Value) (l : List ((List UInt8) × (List UInt8))) (lv : Value) (m : List ((List UInt8) × (List UInt8))) (mv : Value) (strict : Bool) (hal : axes.length ≤ 1000) (hav : ∀ a ∈ axes, a.1.length ≤ 300 ∧ a.2.length ≤ 1000 ∧ ∀ x ∈ a.2, x.length ≤ 300) (hfl : l.length ≤ 1000000) (hml : ∀ x ∈ l, x.1.length ≤ 20000 ∧ x.2.length ≤ 20000) (hfm : m.length ≤ 1000000) (hmm : ∀ x ∈ m, x.1.length ≤ 20000 ∧ x.2.length ≤ 20000) : Con Tryz.prog 20 #[axesv, lv, mv, .bool (strict)] [.imm (.list (.pair .str (.list .str))) (axesv) (axes), .imm (.list (.pair .str .str)) (lv) (l), .imm (.list (.pair .str .str)) (mv) (m)] (fun _ : Unit => .bool (sameC axes l m strict)) (fun _ => []) := by
 refine con_of_J (args := [axesv, lv, mv, .bool (strict)]) (n := 22) Tryz.func20 rfl (Nat.le_of_ble_eq_true rfl) rfl (fun w0 I0 m0 => ?_)
 show J _ [(0, axesv), (1, lv), (2, mv), (3, .bool (strict))] [.imm (.list (.pair .str (.list .str))) (axesv) (axes), .imm (.list (.pair .str .str)) (lv) (l), .imm (.list (.pair .str .str)) (mv) (m)] _
 have ham : ∀ a ∈ axes, a.1.length ≤ 1000000 ∧ (∀ x ∈ a.2, x.length ≤ 300000) ∧ a.2.length ≤ 9223372036854775807 := fun a ha => by have := hav a ha; exact ⟨by omega, fun x hx => Nat.le_trans (this.2.2 x hx) (by omega), by omega⟩
 refine jc_seq (jc_region (jo_pure rfl (pr_assign rfl) (jo_nil (jq_then (jc_seq ?_)))))
 refine jc_region (jo_pure rfl (pr_move rfl) ?_)
 refine jo_callp cal_22 (c_ref10_Valid axes axesv (by first | omega | exact ham | exact hav | exact hfl | exact hml | exact hfm | exact hmm) (by first | omega | exact ham | exact hav | exact hfl | exact hml | exact hfm | exact hmm)) ⟨rfl, trivial⟩ rfl (⟨⟨rfl, .head _⟩, trivial⟩) (fun _ => ?_)
 refine jo_pure rfl (pr_move rfl) (jo_gpure (j := 2) (want := true) rfl rfl rfl rfl (fun hg => pr_move rfl) ?_)
 refine jo_gpure (j := 2) (want := true) rfl rfl rfl rfl (fun hg => pr_move rfl) ?_
 refine jo_gpure (j := 2) (want := true) rfl rfl rfl rfl (fun hg => pr_move rfl) ?_
 refine jo_gcall (j := 2) (want := true) rfl rfl rfl cal_18 (fun hg => c_ref10_Class axes axesv l lv strict (by first | omega | exact ham | exact hav | exact hfl | exact hml | exact hfm | exact hmm) (by first | omega | exact ham | exact hav | exact hfl | exact hml | exact hfm | exact hmm) (by first | omega | exact ham | exact hav | exact hfl | exact hml | exact hfm | exact hmm) (by first | omega | exact ham | exact hav | exact hfl | exact hml | exact hfm | exact hmm)) (fun hg => ⟨evg rfl hg, evg rfl hg, evg rfl hg, trivial⟩) rfl (fun _ => ⟨⟨rfl, .head _⟩, ⟨⟨rfl, .tail _ (.head _)⟩, trivial⟩⟩) ?_
 refine jo_gpure (j := 2) (want := true) rfl rfl rfl rfl (fun hg => pr_move rfl) ?_
 refine jo_gpure (j := 2) (want := true) rfl rfl rfl rfl (fun hg => pr_move rfl) ?_
 refine jo_gpure (j := 2) (want := true) rfl rfl rfl rfl (fun hg => pr_move rfl) ?_
 refine jo_gcall (j := 2) (want := true) rfl rfl rfl cal_18 (fun hg => c_ref10_Class axes axesv m mv strict (by first | omega | exact ham | exact hav | exact hfl | exact hml | exact hfm | exact hmm) (by first | omega | exact ham | exact hav | exact hfl | exact hml | exact hfm | exact hmm) (by first | omega | exact ham | exact hav | exact hfl | exact hml | exact hfm | exact hmm) (by first | omega | exact ham | exact hav | exact hfl | exact hml | exact hfm | exact hmm)) (fun hg => ⟨evg rfl hg, evg rfl hg, evg rfl hg, trivial⟩) rfl (fun _ => ⟨⟨rfl, .head _⟩, ⟨⟨rfl, .tail _ (.tail _ (.head _))⟩, trivial⟩⟩) ?_
 refine jo_gpure (j := 2) (want := true) rfl rfl rfl rfl (fun hg => pr_seql (evg rfl hg) (evg rfl hg)) ?_
 refine jo_pure rfl (pr_pick_and rfl rfl rfl) ?_
 refine jo_pure rfl (pr_assign rfl) (jo_nil (jq_then (jc_ret (j_drop (j_drop ?_)))))
 refine j_drop ?_
 exact jq_ret1 rfl () rfl (show (.bool (sameC axes l m strict) : Value) = (.bool ((validL axes && decide ((classF axes l strict : List UInt8) = classF axes m strict)))) from rfl) (fun _ h => h)

theorem c_law18_ClassClasses (x : List ((List UInt8) × (List (List UInt8)))) (xv : Value) (l : List ((List UInt8) × (List UInt8))) (lv : Value) (m : List ((List UInt8) × (List UInt8))) (mv : Value) (strict : Bool) (hlx : x.length ≤ 9223372036854775807) (hmx : ∀ a ∈ x, a.2.length ≤ 9223372036854775807) (hl : l.length ≤ 9223372036854775807) (hm : m.length ≤ 9223372036854775807) : Con Tryz.prog 3 #[xv, lv, mv, .bool (strict)] [.imm (.list (.pair .str (.list .str))) (xv) (x), .imm (.list (.pair .str .str)) (lv) (l), .imm (.list (.pair .str .str)) (mv) (m)] (fun _ : Unit => .bool (true)) (fun _ => []) := by
 refine con_of_J (args := [xv, lv, mv, .bool (strict)]) (n := 47) Tryz.func3 rfl (Nat.le_of_ble_eq_true rfl) rfl (fun w0 I0 m0 => ?_)
 show J _ [(0, xv), (1, lv), (2, mv), (3, .bool (strict))] [.imm (.list (.pair .str (.list .str))) (xv) (x), .imm (.list (.pair .str .str)) (lv) (l), .imm (.list (.pair .str .str)) (mv) (m)] _
 refine jc_seq (jc_region (jo_pure rfl (pr_assign rfl) (jo_nil (jq_then (jc_seq ?_)))))
 refine jc_seq ?_
 by_cases hz : keepA x = true
 ·skip
  have hxl : x.length ≤ 1000 := by have := keepA_len (hz); omega
  have hxv : ∀ a ∈ x, a.1.length ≤ 1000000 ∧ (∀ z ∈ a.2, z.length ≤ 300000) ∧ a.2.length ≤ 9223372036854775807 := fun a ha => by have h9 := keepA_mem (hz) a ha; exact ⟨by omega, fun z hz => Nat.le_trans (h9.2.2 z hz) (by omega), by omega⟩
  have hav : ∀ a ∈ x, a.1.length ≤ 300 ∧ a.2.length ≤ 1000 ∧ ∀ z ∈ a.2, z.length ≤ 300 := fun a ha => by have h9 := keepA_mem hz a ha; exact ⟨by omega, by omega, fun z hz => Nat.le_trans (h9.2.2 z hz) (by omega)⟩
  have hav1 : ∀ a ∈ x, a.1.length ≤ 100 := fun a ha => (keepA_mem hz a ha).1
  by_cases hkl : keepF l = true
  ·skip
   have hlenl : l.length ≤ 1000000 := by have := keepF_len (hkl); omega
   have hmeml : ∀ z ∈ l, z.1.length ≤ 20000 ∧ z.2.length ≤ 20000 := fun z hz => by have := keepF_mem (hkl) z hz; omega
   have hmem3l : ∀ z ∈ l, z.1.length ≤ 300000 ∧ z.2.length ≤ 300000 := fun z hz => by have := keepF_mem (hkl) z hz; omega
   have hmem6l : ∀ z ∈ l, z.1.length ≤ 1000000 ∧ z.2.length ≤ 1000000 := fun z hz => by have := hmeml z hz; omega
   by_cases hkm : keepF m = true
   ·skip
    have hlenm : m.length ≤ 1000000 := by have := keepF_len (hkm); omega
    have hmemm : ∀ z ∈ m, z.1.length ≤ 20000 ∧ z.2.length ≤ 20000 := fun z hz => by have := keepF_mem (hkm) z hz; omega
    have hmem3m : ∀ z ∈ m, z.1.length ≤ 300000 ∧ z.2.length ≤ 300000 := fun z hz => by have := keepF_mem (hkm) z hz; omega
    have hmem6m : ∀ z ∈ m, z.1.length ≤ 1000000 ∧ z.2.length ≤ 1000000 := fun z hz => by have := hmemm z hz; omega
    refine jc_region (jo_pure rfl (pr_move rfl) ?_)
    refine jo_callp cal_15 (c_keep_Axes x xv (by first | omega | exact hl | exact hm | exact hlx | exact hmx | exact hxl | exact hxv | exact hav | exact hlenl | exact hmeml | exact hmem3l | exact hmem6l | exact hlenm | exact hmemm | decide) (by first | omega | exact hl | exact hm | exact hlx | exact hmx | exact hxl | exact hxv | exact hav | exact hlenl | exact hmeml | exact hmem3l | exact hmem6l | exact hlenm | exact hmemm | decide)) ⟨rfl, trivial⟩ rfl (⟨⟨rfl, .head _⟩, trivial⟩) (fun _ => ?_)
    refine jo_pure rfl (pr_not rfl) ?_
    refine jo_pure rfl (pr_move rfl) (jo_run (j := 3) (want := false) rfl rfl (by rw [hz]; rfl) ?_)
    refine jo_pure rfl (pr_move rfl) (jo_run (j := 3) (want := false) rfl rfl (by rw [hz]; rfl) ?_)
    refine jo_callp cal_16 (c_keep_Fields l lv (by first | omega | exact hl | exact hm | exact hlx | exact hmx | exact hxl | exact hxv | exact hav | exact hlenl | exact hmeml | exact hmem3l | exact hmem6l | exact hlenm | exact hmemm | decide)) ⟨rfl, trivial⟩ rfl (⟨⟨rfl, .tail _ (.head _)⟩, trivial⟩) (fun _ => ?_)
    refine jo_run (j := 3) (want := false) rfl rfl (by rw [hz]; rfl) ?_
    refine jo_pure rfl (pr_not rfl) ?_
    refine jo_pure rfl (pr_pick_f rfl (by rw [hz]; rfl) rfl) ?_
    refine jo_pure rfl (pr_move rfl) (jo_run (j := 8) (want := false) rfl rfl (by rw [hkl]; rfl) ?_)
    refine jo_pure rfl (pr_move rfl) (jo_run (j := 8) (want := false) rfl rfl (by rw [hkl]; rfl) ?_)
    refine jo_callp cal_16 (c_keep_Fields m mv (by first | omega | exact hl | exact hm | exact hlx | exact hmx | exact hxl | exact hxv | exact hav | exact hlenl | exact hmeml | exact hmem3l | exact hmem6l | exact hlenm | exact hmemm | decide)) ⟨rfl, trivial⟩ rfl (⟨⟨rfl, .tail _ (.tail _ (.head _))⟩, trivial⟩) (fun _ => ?_)
    refine jo_run (j := 8) (want := false) rfl rfl (by rw [hkl]; rfl) ?_
    refine jo_pure rfl (pr_not rfl) ?_
    refine jo_pure rfl (pr_pick_f rfl (by rw [hkl]; rfl) rfl) ?_
    refine jo_nil (jq_then (jc_false rfl (by rw [hkm]; rfl) ?_))
    refine jc_skip (jq_then (jc_seq (jc_region (jo_pure rfl (pr_move rfl) (jo_pure rfl (pr_move rfl) ?_)))))
    refine jo_pure rfl (pr_move rfl) ?_
    refine jo_callp cal_17 (c_class_Class x xv l lv strict (by first | omega | exact hl | exact hm | exact hlx | exact hmx | exact hxl | exact hxv | exact hav | exact hlenl | exact hmeml | exact hmem3l | exact hmem6l | exact hlenm | exact hmemm | decide) (by first | omega | exact hl | exact hm | exact hlx | exact hmx | exact hxl | exact hxv | exact hav | exact hlenl | exact hmeml | exact hmem3l | exact hmem6l | exact hlenm | exact hmemm | decide) (by first | omega | exact hl | exact hm | exact hlx | exact hmx | exact hxl | exact hxv | exact hav | exact hlenl | exact hmeml | exact hmem3l | exact hmem6l | exact hlenm | exact hmemm | decide) (by first | omega | exact hl | exact hm | exact hlx | exact hmx | exact hxl | exact hxv | exact hav | exact hlenl | exact hmeml | exact hmem3l | exact hmem6l | exact hlenm | exact hmemm | decide)) ⟨rfl, rfl, rfl, trivial⟩ rfl (⟨⟨rfl, .head _⟩, ⟨⟨rfl, .tail _ (.head _)⟩, trivial⟩⟩) (fun _ => ?_)
    refine jo_pure rfl (pr_move rfl) (jo_pure rfl (pr_move rfl) (jo_pure rfl (pr_move rfl) ?_))
    refine jo_callp cal_18 (c_ref10_Class x xv l lv strict (by first | omega | exact hl | exact hm | exact hlx | exact hmx | exact hxl | exact hxv | exact hav | exact hlenl | exact hmeml | exact hmem3l | exact hmem6l | exact hlenm | exact hmemm | decide) (by first | omega | exact hl | exact hm | exact hlx | exact hmx | exact hxl | exact hxv | exact hav | exact hlenl | exact hmeml | exact hmem3l | exact hmem6l | exact hlenm | exact hmemm | decide) (by first | omega | exact hl | exact hm | exact hlx | exact hmx | exact hxl | exact hxv | exact hav | exact hlenl | exact hmeml | exact hmem3l | exact hmem6l | exact hlenm | exact hmemm | decide) (by first | omega | exact hl | exact hm | exact hlx | exact hmx | exact hxl | exact hxv | exact hav | exact hlenl | exact hmeml | exact hmem3l | exact hmem6l | exact hlenm | exact hmemm | decide)) ⟨rfl, rfl, rfl, trivial⟩ rfl (⟨⟨rfl, .head _⟩, ⟨⟨rfl, .tail _ (.head _)⟩, trivial⟩⟩) (fun _ => ?_)
    refine jo_pure rfl (pr_seql rfl rfl) ?_
    refine jo_pure rfl (pr_move rfl) (jo_gpure (j := 9) (want := true) rfl rfl rfl rfl (fun hg => pr_move rfl) ?_)
    refine jo_gpure (j := 9) (want := true) rfl rfl rfl rfl (fun hg => pr_move rfl) ?_
    refine jo_gpure (j := 9) (want := true) rfl rfl rfl rfl (fun hg => pr_move rfl) ?_
    refine jo_gpure (j := 9) (want := true) rfl rfl rfl rfl (fun hg => pr_move rfl) ?_
    refine jo_gcall (j := 9) (want := true) rfl rfl rfl cal_19 (fun hg => c_class_Same x xv l lv m mv strict (by first | omega | exact hl | exact hm | exact hlx | exact hmx | exact hxl | exact hxv | exact hav | exact hlenl | exact hmeml | exact hmem3l | exact hmem6l | exact hlenm | exact hmemm | decide) (by first | omega | exact hl | exact hm | exact hlx | exact hmx | exact hxl | exact hxv | exact hav | exact hlenl | exact hmeml | exact hmem3l | exact hmem6l | exact hlenm | exact hmemm | decide) (by first | omega | exact hl | exact hm | exact hlx | exact hmx | exact hxl | exact hxv | exact hav | exact hlenl | exact hmeml | exact hmem3l | exact hmem6l | exact hlenm | exact hmemm | decide) (by first | omega | exact hl | exact hm | exact hlx | exact hmx | exact hxl | exact hxv | exact hav | exact hlenl | exact hmeml | exact hmem3l | exact hmem6l | exact hlenm | exact hmemm | decide) (by first | omega | exact hl | exact hm | exact hlx | exact hmx | exact hxl | exact hxv | exact hav | exact hlenl | exact hmeml | exact hmem3l | exact hmem6l | exact hlenm | exact hmemm | decide) (by first | omega | exact hl | exact hm | exact hlx | exact hmx | exact hxl | exact hxv | exact hav | exact hlenl | exact hmeml | exact hmem3l | exact hmem6l | exact hlenm | exact hmemm | decide)) (fun hg => ⟨evg rfl hg, evg rfl hg, evg rfl hg, evg rfl hg, trivial⟩) rfl (fun _ => ⟨⟨rfl, .head _⟩, ⟨⟨rfl, .tail _ (.head _)⟩, ⟨⟨rfl, .tail _ (.tail _ (.head _))⟩, trivial⟩⟩⟩) ?_
    refine jo_gpure (j := 9) (want := true) rfl rfl rfl rfl (fun hg => pr_move rfl) ?_
    refine jo_gpure (j := 9) (want := true) rfl rfl rfl rfl (fun hg => pr_move rfl) ?_
    refine jo_gpure (j := 9) (want := true) rfl rfl rfl rfl (fun hg => pr_move rfl) ?_
    refine jo_gpure (j := 9) (want := true) rfl rfl rfl rfl (fun hg => pr_move rfl) ?_
    refine jo_gcall (j := 9) (want := true) rfl rfl rfl cal_20 (fun hg => c_ref10_SameClass x xv l lv m mv strict (by first | omega | exact hl | exact hm | exact hlx | exact hmx | exact hxl | exact hxv | exact hav | exact hlenl | exact hmeml | exact hmem3l | exact hmem6l | exact hlenm | exact hmemm | decide) (by first | omega | exact hl | exact hm | exact hlx | exact hmx | exact hxl | exact hxv | exact hav | exact hlenl | exact hmeml | exact hmem3l | exact hmem6l | exact hlenm | exact hmemm | decide) (by first | omega | exact hl | exact hm | exact hlx | exact hmx | exact hxl | exact hxv | exact hav | exact hlenl | exact hmeml | exact hmem3l | exact hmem6l | exact hlenm | exact hmemm | decide) (by first | omega | exact hl | exact hm | exact hlx | exact hmx | exact hxl | exact hxv | exact hav | exact hlenl | exact hmeml | exact hmem3l | exact hmem6l | exact hlenm | exact hmemm | decide) (by first | omega | exact hl | exact hm | exact hlx | exact hmx | exact hxl | exact hxv | exact hav | exact hlenl | exact hmeml | exact hmem3l | exact hmem6l | exact hlenm | exact hmemm | decide) (by first | omega | exact hl | exact hm | exact hlx | exact hmx | exact hxl | exact hxv | exact hav | exact hlenl | exact hmeml | exact hmem3l | exact hmem6l | exact hlenm | exact hmemm | decide)) (fun hg => ⟨evg rfl hg, evg rfl hg, evg rfl hg, evg rfl hg, trivial⟩) rfl (fun _ => ⟨⟨rfl, .head _⟩, ⟨⟨rfl, .tail _ (.head _)⟩, ⟨⟨rfl, .tail _ (.tail _ (.head _))⟩, trivial⟩⟩⟩) ?_
    refine jo_gpure (j := 9) (want := true) rfl rfl rfl rfl (fun hg => pr_eqlb (evg rfl hg) (evg rfl hg) Tryz.underlying4) ?_
    refine jo_pure rfl (pr_pick_and rfl rfl rfl) ?_
    refine jo_pure rfl (pr_move rfl) (jo_gcall (j := 22) (want := true) rfl rfl rfl cal_21 (fun hg => c_law18_awake) (fun hg => trivial) rfl (fun _ => trivial) ?_)
    refine jo_pure rfl (pr_pick_and rfl rfl rfl) ?_
    refine jo_pure rfl (pr_assign rfl) (jo_nil (jq_then (jc_ret (j_drop (j_drop ?_)))))
    refine j_drop ?_
    exact jq_ret1 rfl () rfl (show (.bool (true) : Value) = (.bool (((decide ((classF x l strict : List UInt8) = classF x l strict) && (sameC x l m strict == sameC x l m strict)) && true))) from congrArg Value.bool (by simp)) (fun _ h => h)
   ·skip
    refine jc_region (jo_pure rfl (pr_move rfl) ?_)
    refine jo_callp cal_15 (c_keep_Axes x xv (by first | omega | exact hl | exact hm | exact hlx | exact hmx | exact hxl | exact hxv | exact hav | exact hlenl | exact hmeml | exact hmem3l | exact hmem6l | exact hlenm | exact hmemm | decide) (by first | omega | exact hl | exact hm | exact hlx | exact hmx | exact hxl | exact hxv | exact hav | exact hlenl | exact hmeml | exact hmem3l | exact hmem6l | exact hlenm | exact hmemm | decide)) ⟨rfl, trivial⟩ rfl (⟨⟨rfl, .head _⟩, trivial⟩) (fun _ => ?_)
    refine jo_pure rfl (pr_not rfl) ?_
    refine jo_pure rfl (pr_move rfl) (jo_run (j := 3) (want := false) rfl rfl (by rw [hz]; rfl) ?_)
    refine jo_pure rfl (pr_move rfl) (jo_run (j := 3) (want := false) rfl rfl (by rw [hz]; rfl) ?_)
    refine jo_callp cal_16 (c_keep_Fields l lv (by first | omega | exact hl | exact hm | exact hlx | exact hmx | exact hxl | exact hxv | exact hav | exact hlenl | exact hmeml | exact hmem3l | exact hmem6l | exact hlenm | exact hmemm | decide)) ⟨rfl, trivial⟩ rfl (⟨⟨rfl, .tail _ (.head _)⟩, trivial⟩) (fun _ => ?_)
    refine jo_run (j := 3) (want := false) rfl rfl (by rw [hz]; rfl) ?_
    refine jo_pure rfl (pr_not rfl) ?_
    refine jo_pure rfl (pr_pick_f rfl (by rw [hz]; rfl) rfl) ?_
    refine jo_pure rfl (pr_move rfl) (jo_run (j := 8) (want := false) rfl rfl (by rw [hkl]; rfl) ?_)
    refine jo_pure rfl (pr_move rfl) (jo_run (j := 8) (want := false) rfl rfl (by rw [hkl]; rfl) ?_)
    refine jo_callp cal_16 (c_keep_Fields m mv (by first | omega | exact hl | exact hm | exact hlx | exact hmx | exact hxl | exact hxv | exact hav | exact hlenl | exact hmeml | exact hmem3l | exact hmem6l | exact hlenm | exact hmemm | decide)) ⟨rfl, trivial⟩ rfl (⟨⟨rfl, .tail _ (.tail _ (.head _))⟩, trivial⟩) (fun _ => ?_)
    refine jo_run (j := 8) (want := false) rfl rfl (by rw [hkl]; rfl) ?_
    refine jo_pure rfl (pr_not rfl) ?_
    refine jo_pure rfl (pr_pick_f rfl (by rw [hkl]; rfl) rfl) ?_
    refine jo_nil (jq_then (jc_true rfl (by simpa using hkm) ?_))
    refine jc_seq (jc_region (jo_pure rfl (pr_assign rfl) (jo_nil (jq_then (jc_ret ?_)))))
    refine jq_then_ret (j_drop (j_drop (j_drop ?_)))
    exact jq_ret1 rfl () rfl (show (.bool (true) : Value) = (.bool (true)) from rfl) (fun _ h => h)
  ·skip
   refine jc_region (jo_pure rfl (pr_move rfl) ?_)
   refine jo_callp cal_15 (c_keep_Axes x xv (by first | omega | exact hl | exact hm | exact hlx | exact hmx | exact hxl | exact hxv | exact hav | exact hlenl | exact hmeml | exact hmem3l | exact hmem6l | exact hlenm | exact hmemm | decide) (by first | omega | exact hl | exact hm | exact hlx | exact hmx | exact hxl | exact hxv | exact hav | exact hlenl | exact hmeml | exact hmem3l | exact hmem6l | exact hlenm | exact hmemm | decide)) ⟨rfl, trivial⟩ rfl (⟨⟨rfl, .head _⟩, trivial⟩) (fun _ => ?_)
   refine jo_pure rfl (pr_not rfl) ?_
   refine jo_pure rfl (pr_move rfl) (jo_run (j := 3) (want := false) rfl rfl (by rw [hz]; rfl) ?_)
   refine jo_pure rfl (pr_move rfl) (jo_run (j := 3) (want := false) rfl rfl (by rw [hz]; rfl) ?_)
   refine jo_callp cal_16 (c_keep_Fields l lv (by first | omega | exact hl | exact hm | exact hlx | exact hmx | exact hxl | exact hxv | exact hav | exact hlenl | exact hmeml | exact hmem3l | exact hmem6l | exact hlenm | exact hmemm | decide)) ⟨rfl, trivial⟩ rfl (⟨⟨rfl, .tail _ (.head _)⟩, trivial⟩) (fun _ => ?_)
   refine jo_run (j := 3) (want := false) rfl rfl (by rw [hz]; rfl) ?_
   refine jo_pure rfl (pr_not rfl) ?_
   refine jo_pure rfl (pr_pick_f rfl (by rw [hz]; rfl) rfl) ?_
   refine jo_pure rfl (pr_move rfl) (jo_skipu (j := 8) (want := false) rfl rfl (by simpa using hkl) rfl ?_)
   refine jo_skipu (j := 8) (want := false) rfl rfl (by simpa using hkl) rfl ?_
   refine jo_skipu (j := 8) (want := false) rfl rfl (by simpa using hkl) rfl ?_
   refine jo_pure rfl (pr_pick_t rfl (by simpa using hkl) rfl) ?_
   refine jo_nil (jq_then (jc_true rfl (rfl) ?_))
   refine jc_seq (jc_region (jo_pure rfl (pr_assign rfl) (jo_nil (jq_then (jc_ret ?_)))))
   refine jq_then_ret (j_drop (j_drop (j_drop ?_)))
   exact jq_ret1 rfl () rfl (show (.bool (true) : Value) = (.bool (true)) from rfl) (fun _ h => h)
 ·skip
  refine jc_region (jo_pure rfl (pr_move rfl) ?_)
  refine jo_callp cal_15 (c_keep_Axes x xv (by first | omega | exact hl | exact hm | exact hlx | exact hmx | exact hxl | exact hxv | exact hav | exact hlenl | exact hmeml | exact hmem3l | exact hmem6l | exact hlenm | exact hmemm | decide) (by first | omega | exact hl | exact hm | exact hlx | exact hmx | exact hxl | exact hxv | exact hav | exact hlenl | exact hmeml | exact hmem3l | exact hmem6l | exact hlenm | exact hmemm | decide)) ⟨rfl, trivial⟩ rfl (⟨⟨rfl, .head _⟩, trivial⟩) (fun _ => ?_)
  refine jo_pure rfl (pr_not rfl) ?_
  refine jo_pure rfl (pr_move rfl) (jo_skipu (j := 3) (want := false) rfl rfl (by simpa using hz) rfl ?_)
  refine jo_skipu (j := 3) (want := false) rfl rfl (by simpa using hz) rfl ?_
  refine jo_skipu (j := 3) (want := false) rfl rfl (by simpa using hz) rfl ?_
  refine jo_pure rfl (pr_pick_t rfl (by simpa using hz) rfl) ?_
  refine jo_pure rfl (pr_move rfl) (jo_skipu (j := 8) (want := false) rfl rfl (rfl) rfl ?_)
  refine jo_skipu (j := 8) (want := false) rfl rfl (rfl) rfl ?_
  refine jo_skipu (j := 8) (want := false) rfl rfl (rfl) rfl ?_
  refine jo_pure rfl (pr_pick_t rfl (rfl) rfl) ?_
  refine jo_nil (jq_then (jc_true rfl (rfl) ?_))
  refine jc_seq (jc_region (jo_pure rfl (pr_assign rfl) (jo_nil (jq_then (jc_ret ?_)))))
  refine jq_then_ret (j_drop (j_drop (j_drop ?_)))
  exact jq_ret1 rfl () rfl (show (.bool (true) : Value) = (.bool (true)) from rfl) (fun _ h => h)
end Go.Proofs.YtjbcomdljmfgjaaGreatDoor
