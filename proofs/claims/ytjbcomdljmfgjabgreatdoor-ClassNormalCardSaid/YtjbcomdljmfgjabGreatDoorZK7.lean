/-
 Contracts of functions of the program: each returns what a plain function says, for every input within the bounds named. Conditions: the bounds.
-/
import Derived.Test.YtjbcomdljmfgjabGreatDoorRows
import Derived.Test.YtjbcomdljmfgjabGreatDoorZK5
import Derived.Test.YtjbcomdljmfgjabGreatDoorZLawD
namespace Go.Proofs.YtjbcomdljmfgjabGreatDoor
open Go Go.Sep
set_option linter.unusedSimpArgs false
set_option linter.unusedVariables false

open Go.Plain

theorem cal_23 : Cal Tryz.prog 23 := cal_of Tryz.func23 (by kernel_rfl) rfl
theorem cal_24 : Cal Tryz.prog 24 := cal_of Tryz.func24 (by kernel_rfl) rfl
theorem cal_45 : Cal Tryz.prog 45 := cal_of Tryz.func45 (by kernel_rfl) rfl
theorem cal_46 : Cal Tryz.prog 46 := cal_of Tryz.func46 (by kernel_rfl) rfl

theorem c_class_Class (axes : List ((List UInt8) × (List (List UInt8)))) (axesv : Value) (l : List ((List UInt8) × (List UInt8))) (lv : Value) (strict : Bool) (hal : axes.length ≤ 1000) (hav : ∀ a ∈ axes, a.1.length ≤ 300 ∧ a.2.length ≤ 1000 ∧ ∀ x ∈ a.2, x.length ≤ 300) (hfl : l.length ≤ 1000000) (hml : ∀ x ∈ l, x.1.length ≤ 20000 ∧ x.2.length ≤ 20000) : Con Tryz.prog 23 #[axesv, lv, .bool (strict)] [.imm (.list (.pair .str (.list .str))) (axesv) (axes), .imm (.list (.pair .str .str)) (lv) (l)] (fun _ : Unit => str (classF axes l strict)) (fun _ => []) := by
 refine con_of_J (args := [axesv, lv, .bool (strict)]) (n := 35) Tryz.func23 rfl (Nat.le_of_ble_eq_true rfl) rfl (fun w0 I0 m0 => ?_)
 show J _ [(0, axesv), (1, lv), (2, .bool (strict))] [.imm (.list (.pair .str (.list .str))) (axesv) (axes), .imm (.list (.pair .str .str)) (lv) (l)] _
 have ham : ∀ a ∈ axes, a.1.length ≤ 1000000 ∧ (∀ x ∈ a.2, x.length ≤ 300000) ∧ a.2.length ≤ 9223372036854775807 := fun a ha => by have := hav a ha; exact ⟨by omega, fun x hx => Nat.le_trans (this.2.2 x hx) (by omega), by omega⟩
 refine jc_seq (jc_region (jo_pure rfl (pr_assign rfl) (jo_nil (jq_then (jc_seq ?_)))))
 refine jc_seq (jc_region (jo_pure rfl (pr_move rfl) ?_))
 refine jo_callp cal_22 (c_variants_Valid axes axesv (by first | omega | exact ham | exact hfl | exact hml | exact hA.1 | exact hA.2.1 | exact hA.2.2 | (exact fun x hx => Nat.le_trans (hrm x hx) (by omega)) | (rw [List.length_cons]; omega)) (by first | omega | exact ham | exact hfl | exact hml | exact hA.1 | exact hA.2.1 | exact hA.2.2 | (exact fun x hx => Nat.le_trans (hrm x hx) (by omega)) | (rw [List.length_cons]; omega))) ⟨rfl, trivial⟩ rfl (⟨⟨rfl, .head _⟩, trivial⟩) (fun _ => ?_)
 refine jo_pure rfl (pr_not rfl) ?_
 refine jo_nil (jq_then ?_)
 refine jc_cond rfl (fun h1b => ?_) (fun h1b => ?_)
 ·have h1 := (fun q => id (bt_not q)) h1b
  refine jc_seq (jc_region (jo_pure rfl (pr_assign rfl) (jo_nil (jq_then (jc_ret ?_)))))
  refine jq_then_ret (j_drop (j_drop ?_))
  exact jq_ret1 rfl () rfl (show (str (classF axes l strict) : Value) = (str ([])) from congrArg str (by rw [class_no h1])) (fun _ h => h)
 ·have h1 := (fun q => id (bf_not q)) h1b
  have hv4 := validL_len h1
  refine jc_skip (jq_then (jc_seq (jc_region ?_)))
  refine jo_alloc ty_72 [.pointer none, .slice none 0 0] rfl rfl (fun b1 => ?_)
  refine jo_nil (jq_then (jc_seq (jc_seq (jc_region (jo_pure rfl (pr_move rfl) ?_)))))
  refine jo_pure rfl (pr_len_imm rfl (.tail _ (.head _)) Tryz.underlying22) ?_
  refine jo_pure rfl (pr_move rfl) (jo_nil (jq_then (jc_block (j_nil_row 5 .u8 ?_))))
  refine jc_loop4 (fun (i : Nat) (pv : Value) (bv : Value) (acc : List UInt8) => [(1, lv), (2, .bool (strict)), (7, .pointer (some ⟨b1, 0, none⟩)), (13, axesv), (14, .int .i64 ((axes.length : Nat) : Int)), (15, .int .i64 ((i : Nat) : Int))]) (fun (i : Nat) (pv : Value) (bv : Value) (acc : List UInt8) => [.row (bv) 5 .u8 (acc), .box b1 72 [pv, bv], .imm (.list (.pair .str (.list .str))) (axesv) (axes), .imm (.list (.pair .str .str)) (lv) (l)]) (fun (i : Nat) (pv : Value) (bv : Value) (acc : List UInt8) => i ≤ axes.length ∧ (pv = .pointer none ∨ pv = .pointer (some ⟨b1, 0, none⟩)) ∧ acc.length ≤ i * 10000 ∧ acc = axesT (rankedAx (axes.take i) l strict)) (fun (i : Nat) (pv : Value) (bv : Value) (acc : List UInt8) => axes.length - i) 0 (.pointer none) (.slice none 0 0) [] (⟨Nat.zero_le _, .inl rfl, Nat.le_refl _, rfl⟩) (⟨rfl, rfl, rfl, rfl, rfl, rfl, trivial⟩) (fun _ h => h) (fun i pv bv acc hinv => ?_)
  refine jc_seq (jc_region (jo_pure rfl (pr_lssN (m := i) (n := axes.length) rfl rfl) ?_))
  refine jo_nil (jq_then (jc_seq ?_))
  refine jc_cond rfl (fun h2b => ?_) (fun h2b => ?_)
  ·have h2 := of_decide_eq_true h2b
   have hA := ham _ (getD_mem (dd := ([], [])) h2)
   have hB := hav _ (getD_mem (dd := ([], [])) h2)
   have hrl := rankA_length (a := (axes.getD i ([], []))) (l := l) (strict := strict)
   have hrm : ∀ x ∈ (rankA (axes.getD i ([], [])) l strict), x.length ≤ 300 := fun x hx => hB.2.2 x (rankA_sub x hx)
   have hwl := writeF_length hrm
   have hwl2 := Nat.mul_le_mul hrl (Nat.le_refl (2 * 300 + 3))
   refine jc_skip (jq_then (jc_seq (jc_block (jc_seq (jc_region ?_)))))
   refine jo_pure rfl (pr_move rfl) ?_
   refine j_open_elem (t := (.pair .str (.list .str))) (i := i) ([], []) (.tail _ (.tail _ (.head _))) (by omega) (fun ⟨_, e1⟩ => ?_)
   show J _ _ (.imm (.list .str) (e1) (((axes.getD i ([], []))).2) :: .fact (fun w_ I_ => ElemAt w_ I_ (axesv) (i) 2 [str (((axes.getD i ([], []))).1), e1]) :: _) _
   refine jo_pure rfl (pr_idx_imm (i := i) rfl (.tail _ (.tail _ (.tail _ (.tail _ (.head _))))) rfl Tryz.underlying22 ty_30 (by omega)) ?_
   refine jo_pure rfl (pr_load_at (.agg #[str (((axes.getD i ([], []))).1), e1]) rfl (.tail _ (.head _)) ty_30 (by decide) rfl) ?_
   refine jo_alloc ty_30 [str ([]), .slice none 0 0] rfl rfl (fun b2 => ?_)
   refine jo_pure rfl (pr_assign rfl) (jo_storeV rfl rfl ty_30 [str (((axes.getD i ([], []))).1), e1] (fun _ _ _ _ => rfl) rfl (fun w I m hs => by simp only [List.all_cons, List.all_nil, Bool.and_true, Bool.and_eq_true]; exact ⟨rfl, (SliceV.one (imm_slice (.tail _ (.head _)) hs))⟩) [str (((axes.getD i ([], []))).1), e1] rfl rfl ?_)
   refine jo_nil (jq_then (jc_seq (jc_seq (jc_region (jo_pure rfl (pr_move rfl) ?_)))))
   refine jo_pure rfl (pr_gtrN (m := i) (n := 0) rfl rfl) ?_
   refine jo_nil (jq_then ?_)
   refine jc_cond rfl (fun h3b => ?_) (fun h3b => ?_)
   ·have h3 := of_decide_eq_true h3b
    refine jc_region (j_pull3 (j_pull4 ?_))
    refine jo_callm [.box b2 30 [str (((axes.getD i ([], []))).1), e1], .imm (.list .str) (e1) (((axes.getD i ([], []))).2), .fact (fun w_ I_ => ElemAt w_ I_ (axesv) (i) 2 [str (((axes.getD i ([], []))).1), e1]), .imm (.list (.pair .str (.list .str))) (axesv) (axes), .imm (.list (.pair .str .str)) (lv) (l)] rfl cal_44 (c_WriteString_any b1 pv bv acc [44, 32] (hinv.2.1) (by simp only [List.length_append, List.length_cons, List.length_nil]; omega)) ⟨rfl, rfl, trivial⟩ rfl (fun r1 => ?_)
    show J _ _ [.box b1 72 [.pointer (some ⟨b1, 0, none⟩), r1], .row (r1) 5 .u8 (acc ++ [44, 32]), .box b2 30 [str (((axes.getD i ([], []))).1), e1], .imm (.list .str) (e1) (((axes.getD i ([], []))).2), .fact (fun w_ I_ => ElemAt w_ I_ (axesv) (i) 2 [str (((axes.getD i ([], []))).1), e1]), .imm (.list (.pair .str (.list .str))) (axesv) (axes), .imm (.list (.pair .str .str)) (lv) (l)] _
    refine jo_nil (jq_then (j_pull1 (j_pull1 ?_)))
    refine jc_held (fun (iq : Value × Value) => [(1, lv), (2, .bool (strict)), (7, .pointer (some ⟨b1, 0, none⟩)), (13, axesv), (14, .int .i64 ((axes.length : Nat) : Int)), (15, .int .i64 ((i : Nat) : Int))]) (fun iq => [.box b1 72 [.pointer (some ⟨b1, 0, none⟩), iq.1], .row (iq.1) 5 .u8 ((acc ++ [44, 32]) ++ (((((axes.getD i ([], []))).1) ++ [61]) ++ (writeF (rankA ((axes.getD i ([], []))) l strict)))), .imm (.list .str) (iq.2) (rankA ((axes.getD i ([], []))) l strict), .box b2 30 [str (((axes.getD i ([], []))).1), e1], .imm (.list .str) (e1) (((axes.getD i ([], []))).2), .fact (fun w_ I_ => ElemAt w_ I_ (axesv) (i) 2 [str (((axes.getD i ([], []))).1), e1]), .imm (.list (.pair .str (.list .str))) (axesv) (axes), .imm (.list (.pair .str .str)) (lv) (l)]) [.box b2 30 [str (((axes.getD i ([], []))).1), e1], .imm (.list .str) (e1) (((axes.getD i ([], []))).2), .fact (fun w_ I_ => ElemAt w_ I_ (axesv) (i) 2 [str (((axes.getD i ([], []))).1), e1]), .imm (.list (.pair .str (.list .str))) (axesv) (axes), .imm (.list (.pair .str .str)) (lv) (l)] mixed (fun lst hlst => ?_) (fun ⟨r3, r2⟩ => ?_)
    ·subst hlst
     refine jh_take (listed' := #[true, false, false, false, false, false, false, false, false, false]) 0 rfl (by kernel_rfl) (by kernel_rfl) (by kernel_rfl) rfl (pr_fieldAddr 0 rfl Tryz.underlying30 rfl ty_9 rfl rfl) (fun _ h => Mem.drop1 (Mem.drop1 (h))) rfl ?_
     refine jh_take (listed' := #[true, true, false, false, false, false, false, false, false, false]) 1 rfl (by kernel_rfl) (by kernel_rfl) (by kernel_rfl) rfl (pr_load_box (str (((axes.getD i ([], []))).1)) rfl ty_9 (.head _) rfl (by decide) rfl) (fun _ h => Mem.drop1 (Mem.drop1 (h))) rfl ?_
     refine jh_take (listed' := #[true, true, true, false, false, false, false, false, false, false]) 2 rfl (by kernel_rfl) (by kernel_rfl) (by kernel_rfl) rfl (pr_sadd rfl rfl (by simp only [List.length_append, List.length_cons, List.length_nil]; omega)) (fun _ h => Mem.drop1 (Mem.drop1 (h))) rfl ?_
     refine jh_take (listed' := #[true, true, true, true, false, false, false, false, false, false]) 3 rfl (by kernel_rfl) (by kernel_rfl) (by kernel_rfl) rfl (pr_load_box (.agg #[str (((axes.getD i ([], []))).1), e1]) rfl ty_30 (.head _) rfl (by decide) rfl) (fun _ h => Mem.drop1 (Mem.drop1 (h))) rfl ?_
     refine jh_take (listed' := #[true, true, true, true, true, false, false, false, false, false]) 4 rfl (by kernel_rfl) (by kernel_rfl) (by kernel_rfl) rfl (pr_move rfl) (fun _ h => Mem.drop1 (Mem.drop1 (h))) rfl ?_
     refine jh_take (listed' := #[true, true, true, true, true, true, false, false, false, false]) 5 rfl (by kernel_rfl) (by kernel_rfl) (by kernel_rfl) rfl (pr_move rfl) (fun _ h => Mem.drop1 (Mem.drop1 (h))) rfl ?_
     refine jh_all [6] (by kernel_rfl) (by simp) (fun i hi => ?_)
     simp only [List.mem_cons, List.not_mem_nil, or_false] at hi
     subst hi
     ·refine jh_op rfl ?_
      have con1 := c_selection_Ranked ((axes.getD i ([], []))) e1 l lv strict (by first | omega | exact ham | exact hfl | exact hml | exact hA.1 | exact hA.2.1 | exact hA.2.2 | (exact fun x hx => Nat.le_trans (hrm x hx) (by omega)) | (rw [List.length_cons]; omega)) (by first | omega | exact ham | exact hfl | exact hml | exact hA.1 | exact hA.2.1 | exact hA.2.2 | (exact fun x hx => Nat.le_trans (hrm x hx) (by omega)) | (rw [List.length_cons]; omega)) (by first | omega | exact ham | exact hfl | exact hml | exact hA.1 | exact hA.2.1 | exact hA.2.2 | (exact fun x hx => Nat.le_trans (hrm x hx) (by omega)) | (rw [List.length_cons]; omega)) (by first | omega | exact ham | exact hfl | exact hml | exact hA.1 | exact hA.2.1 | exact hA.2.2 | (exact fun x hx => Nat.le_trans (hrm x hx) (by omega)) | (rw [List.length_cons]; omega)) (by first | omega | exact ham | exact hfl | exact hml | exact hA.1 | exact hA.2.1 | exact hA.2.2 | (exact fun x hx => Nat.le_trans (hrm x hx) (by omega)) | (rw [List.length_cons]; omega))
      refine jo_callp cal_46 con1 (by exact ⟨rfl, rfl, rfl, trivial⟩) rfl (by exact ⟨⟨rfl, .tail _ (.tail _ (.tail _ (.head _)))⟩, ⟨⟨rfl, .tail _ (.tail _ (.tail _ (.tail _ (.tail _ (.tail _ (.head _))))))⟩, trivial⟩⟩) (fun r2 => ?_)
      clear con1
      show J _ _ [.imm (.list .str) (r2) (rankA ((axes.getD i ([], []))) l strict), .box b1 72 [.pointer (some ⟨b1, 0, none⟩), r1], .row (r1) 5 .u8 (acc ++ [44, 32]), .box b2 30 [str (((axes.getD i ([], []))).1), e1], .imm (.list .str) (e1) (((axes.getD i ([], []))).2), .fact (fun w_ I_ => ElemAt w_ I_ (axesv) (i) 2 [str (((axes.getD i ([], []))).1), e1]), .imm (.list (.pair .str (.list .str))) (axesv) (axes), .imm (.list (.pair .str .str)) (lv) (l)] _
      refine jh_in (listed' := #[true, true, true, true, true, true, true, false, false, false]) (fun _ h => Mem.drop1 (Mem.drop1 (Mem.drop1 (h)))) rfl ?_
      refine jh_all [7] (by kernel_rfl) (by simp) (fun i hi => ?_)
      simp only [List.mem_cons, List.not_mem_nil, or_false] at hi
      subst hi
      ·refine jh_op rfl ?_
       refine jo_callp cal_45 (c_group_Write (rankA ((axes.getD i ([], []))) l strict) r2 (by first | omega | exact ham | exact hfl | exact hml | exact hA.1 | exact hA.2.1 | exact hA.2.2 | (exact fun x hx => Nat.le_trans (hrm x hx) (by omega)) | (rw [List.length_cons]; omega)) (by first | omega | exact ham | exact hfl | exact hml | exact hA.1 | exact hA.2.1 | exact hA.2.2 | (exact fun x hx => Nat.le_trans (hrm x hx) (by omega)) | (rw [List.length_cons]; omega))) ⟨rfl, trivial⟩ rfl (⟨⟨rfl, .head _⟩, trivial⟩) (fun _ => ?_)
       refine jh_in (listed' := #[true, true, true, true, true, true, true, true, false, false]) (fun _ h => Mem.drop1 (Mem.drop1 (Mem.drop1 (h)))) rfl ?_
       refine jh_take (listed' := #[true, true, true, true, true, true, true, true, true, false]) 8 rfl (by kernel_rfl) (by kernel_rfl) (by kernel_rfl) rfl (pr_sadd rfl rfl (by simp only [List.length_append, List.length_cons, List.length_nil]; omega)) (fun _ h => Mem.drop1 (Mem.drop1 (Mem.drop1 (h)))) rfl ?_
       refine jh_all [9] (by kernel_rfl) (by simp) (fun i hi => ?_)
       simp only [List.mem_cons, List.not_mem_nil, or_false] at hi
       subst hi
       ·refine jh_op rfl ?_
        refine j_pull2 (j_pull2 ?_)
        refine jo_callm [.imm (.list .str) (r2) (rankA ((axes.getD i ([], []))) l strict), .box b2 30 [str (((axes.getD i ([], []))).1), e1], .imm (.list .str) (e1) (((axes.getD i ([], []))).2), .fact (fun w_ I_ => ElemAt w_ I_ (axesv) (i) 2 [str (((axes.getD i ([], []))).1), e1]), .imm (.list (.pair .str (.list .str))) (axesv) (axes), .imm (.list (.pair .str .str)) (lv) (l)] rfl cal_44 (c_WriteString_used b1 r1 (acc ++ [44, 32]) (((((axes.getD i ([], []))).1) ++ [61]) ++ (writeF (rankA ((axes.getD i ([], []))) l strict))) (by simp only [List.length_append, List.length_cons, List.length_nil]; omega)) ⟨rfl, rfl, trivial⟩ rfl (fun r3 => ?_)
        show J _ _ [.box b1 72 [.pointer (some ⟨b1, 0, none⟩), r3], .row (r3) 5 .u8 ((acc ++ [44, 32]) ++ (((((axes.getD i ([], []))).1) ++ [61]) ++ (writeF (rankA ((axes.getD i ([], []))) l strict)))), .imm (.list .str) (r2) (rankA ((axes.getD i ([], []))) l strict), .box b2 30 [str (((axes.getD i ([], []))).1), e1], .imm (.list .str) (e1) (((axes.getD i ([], []))).2), .fact (fun w_ I_ => ElemAt w_ I_ (axesv) (i) 2 [str (((axes.getD i ([], []))).1), e1]), .imm (.list (.pair .str (.list .str))) (axesv) (axes), .imm (.list (.pair .str .str)) (lv) (l)] _
        refine jh_in (listed' := #[true, true, true, true, true, true, true, true, true, true]) (fun _ h => Mem.drop1 (Mem.drop1 (Mem.drop1 (h)))) rfl ?_
        show J _ _ _ _
        refine j_pull7 ?_
        refine j_pull7 ?_
        refine j_pull7 ?_
        refine j_pull7 ?_
        refine j_pull7 ?_
        refine j_pull7 ?_
        refine j_pull7 ?_
        refine j_pull7 ?_
        show JH _ _ _ _ _ _ _ _
        exact jh_done ⟨r3, r2⟩ (by kernel_rfl) ⟨rfl, rfl, rfl, rfl, rfl, rfl, trivial⟩ (fun _ h => h)
    ·skip
     show J _ [(1, lv), (2, .bool (strict)), (7, .pointer (some ⟨b1, 0, none⟩)), (13, axesv), (14, .int .i64 ((axes.length : Nat) : Int)), (15, .int .i64 ((i : Nat) : Int))] [.box b1 72 [.pointer (some ⟨b1, 0, none⟩), r3], .row (r3) 5 .u8 ((acc ++ [44, 32]) ++ (((((axes.getD i ([], []))).1) ++ [61]) ++ (writeF (rankA ((axes.getD i ([], []))) l strict)))), .imm (.list .str) (r2) (rankA ((axes.getD i ([], []))) l strict), .box b2 30 [str (((axes.getD i ([], []))).1), e1], .imm (.list .str) (e1) (((axes.getD i ([], []))).2), .fact (fun w_ I_ => ElemAt w_ I_ (axesv) (i) 2 [str (((axes.getD i ([], []))).1), e1]), .imm (.list (.pair .str (.list .str))) (axesv) (axes), .imm (.list (.pair .str .str)) (lv) (l)] _
     refine jq_in_normal (jq_then (jc_region (jo_pure rfl (pr_addN (m := i) (n := 1) rfl rfl (by omega)) ?_)))
     refine jo_pure rfl (pr_move rfl) (jo_nil (j_pull2 (j_drop (j_pull2 (j_drop ?_)))))
     refine j_pull2 (j_drop (j_pull2 (j_drop (j_pull3 (j_pull3 ?_)))))
     refine j_pull2 (j_pull3 ?_)
     refine jq_round' ((i + 1), (.pointer (some ⟨b1, 0, none⟩)), r3, ((acc ++ [44, 32]) ++ (((((axes.getD i ([], []))).1) ++ [61]) ++ (writeF (rankA ((axes.getD i ([], []))) l strict))))) (by (try dsimp only); exact (⟨by omega, .inr rfl, by simp only [List.length_append, List.length_cons, List.length_nil]; omega, by rw [axesT_next h2 h3, ← hinv.2.2.2]; simp [axisT]⟩)) (by (try dsimp only); exact (by omega)) ⟨rfl, rfl, rfl, rfl, rfl, rfl, trivial⟩ (fun _ h => h)
   ·have h3 := of_decide_eq_false h3b
    refine jc_skip (jq_then (j_pull4 ?_))
    refine j_pull4 ?_
    refine jc_held (fun (iq : Value × Value) => [(1, lv), (2, .bool (strict)), (7, .pointer (some ⟨b1, 0, none⟩)), (13, axesv), (14, .int .i64 ((axes.length : Nat) : Int)), (15, .int .i64 ((i : Nat) : Int))]) (fun iq => [.box b1 72 [.pointer (some ⟨b1, 0, none⟩), iq.1], .row (iq.1) 5 .u8 (acc ++ (((((axes.getD i ([], []))).1) ++ [61]) ++ (writeF (rankA ((axes.getD i ([], []))) l strict)))), .imm (.list .str) (iq.2) (rankA ((axes.getD i ([], []))) l strict), .box b2 30 [str (((axes.getD i ([], []))).1), e1], .imm (.list .str) (e1) (((axes.getD i ([], []))).2), .fact (fun w_ I_ => ElemAt w_ I_ (axesv) (i) 2 [str (((axes.getD i ([], []))).1), e1]), .imm (.list (.pair .str (.list .str))) (axesv) (axes), .imm (.list (.pair .str .str)) (lv) (l)]) [.box b2 30 [str (((axes.getD i ([], []))).1), e1], .imm (.list .str) (e1) (((axes.getD i ([], []))).2), .fact (fun w_ I_ => ElemAt w_ I_ (axesv) (i) 2 [str (((axes.getD i ([], []))).1), e1]), .imm (.list (.pair .str (.list .str))) (axesv) (axes), .imm (.list (.pair .str .str)) (lv) (l)] mixed (fun lst hlst => ?_) (fun ⟨r5, r4⟩ => ?_)
    ·subst hlst
     refine jh_take (listed' := #[true, false, false, false, false, false, false, false, false, false]) 0 rfl (by kernel_rfl) (by kernel_rfl) (by kernel_rfl) rfl (pr_fieldAddr 0 rfl Tryz.underlying30 rfl ty_9 rfl rfl) (fun _ h => Mem.drop1 (Mem.drop1 (h))) rfl ?_
     refine jh_take (listed' := #[true, true, false, false, false, false, false, false, false, false]) 1 rfl (by kernel_rfl) (by kernel_rfl) (by kernel_rfl) rfl (pr_load_box (str (((axes.getD i ([], []))).1)) rfl ty_9 (.head _) rfl (by decide) rfl) (fun _ h => Mem.drop1 (Mem.drop1 (h))) rfl ?_
     refine jh_take (listed' := #[true, true, true, false, false, false, false, false, false, false]) 2 rfl (by kernel_rfl) (by kernel_rfl) (by kernel_rfl) rfl (pr_sadd rfl rfl (by simp only [List.length_append, List.length_cons, List.length_nil]; omega)) (fun _ h => Mem.drop1 (Mem.drop1 (h))) rfl ?_
     refine jh_take (listed' := #[true, true, true, true, false, false, false, false, false, false]) 3 rfl (by kernel_rfl) (by kernel_rfl) (by kernel_rfl) rfl (pr_load_box (.agg #[str (((axes.getD i ([], []))).1), e1]) rfl ty_30 (.head _) rfl (by decide) rfl) (fun _ h => Mem.drop1 (Mem.drop1 (h))) rfl ?_
     refine jh_take (listed' := #[true, true, true, true, true, false, false, false, false, false]) 4 rfl (by kernel_rfl) (by kernel_rfl) (by kernel_rfl) rfl (pr_move rfl) (fun _ h => Mem.drop1 (Mem.drop1 (h))) rfl ?_
     refine jh_take (listed' := #[true, true, true, true, true, true, false, false, false, false]) 5 rfl (by kernel_rfl) (by kernel_rfl) (by kernel_rfl) rfl (pr_move rfl) (fun _ h => Mem.drop1 (Mem.drop1 (h))) rfl ?_
     refine jh_all [6] (by kernel_rfl) (by simp) (fun i hi => ?_)
     simp only [List.mem_cons, List.not_mem_nil, or_false] at hi
     subst hi
     ·refine jh_op rfl ?_
      have con2 := c_selection_Ranked ((axes.getD i ([], []))) e1 l lv strict (by first | omega | exact ham | exact hfl | exact hml | exact hA.1 | exact hA.2.1 | exact hA.2.2 | (exact fun x hx => Nat.le_trans (hrm x hx) (by omega)) | (rw [List.length_cons]; omega)) (by first | omega | exact ham | exact hfl | exact hml | exact hA.1 | exact hA.2.1 | exact hA.2.2 | (exact fun x hx => Nat.le_trans (hrm x hx) (by omega)) | (rw [List.length_cons]; omega)) (by first | omega | exact ham | exact hfl | exact hml | exact hA.1 | exact hA.2.1 | exact hA.2.2 | (exact fun x hx => Nat.le_trans (hrm x hx) (by omega)) | (rw [List.length_cons]; omega)) (by first | omega | exact ham | exact hfl | exact hml | exact hA.1 | exact hA.2.1 | exact hA.2.2 | (exact fun x hx => Nat.le_trans (hrm x hx) (by omega)) | (rw [List.length_cons]; omega)) (by first | omega | exact ham | exact hfl | exact hml | exact hA.1 | exact hA.2.1 | exact hA.2.2 | (exact fun x hx => Nat.le_trans (hrm x hx) (by omega)) | (rw [List.length_cons]; omega))
      refine jo_callp cal_46 con2 (by exact ⟨rfl, rfl, rfl, trivial⟩) rfl (by exact ⟨⟨rfl, .tail _ (.tail _ (.tail _ (.head _)))⟩, ⟨⟨rfl, .tail _ (.tail _ (.tail _ (.tail _ (.tail _ (.tail _ (.head _))))))⟩, trivial⟩⟩) (fun r4 => ?_)
      clear con2
      show J _ _ [.imm (.list .str) (r4) (rankA ((axes.getD i ([], []))) l strict), .row (bv) 5 .u8 (acc), .box b1 72 [pv, bv], .box b2 30 [str (((axes.getD i ([], []))).1), e1], .imm (.list .str) (e1) (((axes.getD i ([], []))).2), .fact (fun w_ I_ => ElemAt w_ I_ (axesv) (i) 2 [str (((axes.getD i ([], []))).1), e1]), .imm (.list (.pair .str (.list .str))) (axesv) (axes), .imm (.list (.pair .str .str)) (lv) (l)] _
      refine jh_in (listed' := #[true, true, true, true, true, true, true, false, false, false]) (fun _ h => Mem.drop1 (Mem.drop1 (Mem.drop1 (h)))) rfl ?_
      refine jh_all [7] (by kernel_rfl) (by simp) (fun i hi => ?_)
      simp only [List.mem_cons, List.not_mem_nil, or_false] at hi
      subst hi
      ·refine jh_op rfl ?_
       refine jo_callp cal_45 (c_group_Write (rankA ((axes.getD i ([], []))) l strict) r4 (by first | omega | exact ham | exact hfl | exact hml | exact hA.1 | exact hA.2.1 | exact hA.2.2 | (exact fun x hx => Nat.le_trans (hrm x hx) (by omega)) | (rw [List.length_cons]; omega)) (by first | omega | exact ham | exact hfl | exact hml | exact hA.1 | exact hA.2.1 | exact hA.2.2 | (exact fun x hx => Nat.le_trans (hrm x hx) (by omega)) | (rw [List.length_cons]; omega))) ⟨rfl, trivial⟩ rfl (⟨⟨rfl, .head _⟩, trivial⟩) (fun _ => ?_)
       refine jh_in (listed' := #[true, true, true, true, true, true, true, true, false, false]) (fun _ h => Mem.drop1 (Mem.drop1 (Mem.drop1 (h)))) rfl ?_
       refine jh_take (listed' := #[true, true, true, true, true, true, true, true, true, false]) 8 rfl (by kernel_rfl) (by kernel_rfl) (by kernel_rfl) rfl (pr_sadd rfl rfl (by simp only [List.length_append, List.length_cons, List.length_nil]; omega)) (fun _ h => Mem.drop1 (Mem.drop1 (Mem.drop1 (h)))) rfl ?_
       refine jh_all [9] (by kernel_rfl) (by simp) (fun i hi => ?_)
       simp only [List.mem_cons, List.not_mem_nil, or_false] at hi
       subst hi
       ·refine jh_op rfl ?_
        refine j_pull1 (j_pull2 ?_)
        refine jo_callm [.imm (.list .str) (r4) (rankA ((axes.getD i ([], []))) l strict), .box b2 30 [str (((axes.getD i ([], []))).1), e1], .imm (.list .str) (e1) (((axes.getD i ([], []))).2), .fact (fun w_ I_ => ElemAt w_ I_ (axesv) (i) 2 [str (((axes.getD i ([], []))).1), e1]), .imm (.list (.pair .str (.list .str))) (axesv) (axes), .imm (.list (.pair .str .str)) (lv) (l)] rfl cal_44 (c_WriteString_any b1 pv bv acc (((((axes.getD i ([], []))).1) ++ [61]) ++ (writeF (rankA ((axes.getD i ([], []))) l strict))) (hinv.2.1) (by simp only [List.length_append, List.length_cons, List.length_nil]; omega)) ⟨rfl, rfl, trivial⟩ rfl (fun r5 => ?_)
        show J _ _ [.box b1 72 [.pointer (some ⟨b1, 0, none⟩), r5], .row (r5) 5 .u8 (acc ++ (((((axes.getD i ([], []))).1) ++ [61]) ++ (writeF (rankA ((axes.getD i ([], []))) l strict)))), .imm (.list .str) (r4) (rankA ((axes.getD i ([], []))) l strict), .box b2 30 [str (((axes.getD i ([], []))).1), e1], .imm (.list .str) (e1) (((axes.getD i ([], []))).2), .fact (fun w_ I_ => ElemAt w_ I_ (axesv) (i) 2 [str (((axes.getD i ([], []))).1), e1]), .imm (.list (.pair .str (.list .str))) (axesv) (axes), .imm (.list (.pair .str .str)) (lv) (l)] _
        refine jh_in (listed' := #[true, true, true, true, true, true, true, true, true, true]) (fun _ h => Mem.drop1 (Mem.drop1 (Mem.drop1 (h)))) rfl ?_
        show J _ _ _ _
        refine j_pull7 ?_
        refine j_pull7 ?_
        refine j_pull7 ?_
        refine j_pull7 ?_
        refine j_pull7 ?_
        refine j_pull7 ?_
        refine j_pull7 ?_
        refine j_pull7 ?_
        show JH _ _ _ _ _ _ _ _
        exact jh_done ⟨r5, r4⟩ (by kernel_rfl) ⟨rfl, rfl, rfl, rfl, rfl, rfl, trivial⟩ (fun _ h => h)
    ·skip
     show J _ [(1, lv), (2, .bool (strict)), (7, .pointer (some ⟨b1, 0, none⟩)), (13, axesv), (14, .int .i64 ((axes.length : Nat) : Int)), (15, .int .i64 ((i : Nat) : Int))] [.box b1 72 [.pointer (some ⟨b1, 0, none⟩), r5], .row (r5) 5 .u8 (acc ++ (((((axes.getD i ([], []))).1) ++ [61]) ++ (writeF (rankA ((axes.getD i ([], []))) l strict)))), .imm (.list .str) (r4) (rankA ((axes.getD i ([], []))) l strict), .box b2 30 [str (((axes.getD i ([], []))).1), e1], .imm (.list .str) (e1) (((axes.getD i ([], []))).2), .fact (fun w_ I_ => ElemAt w_ I_ (axesv) (i) 2 [str (((axes.getD i ([], []))).1), e1]), .imm (.list (.pair .str (.list .str))) (axesv) (axes), .imm (.list (.pair .str .str)) (lv) (l)] _
     refine jq_in_normal (jq_then (jc_region (jo_pure rfl (pr_addN (m := i) (n := 1) rfl rfl (by omega)) ?_)))
     refine jo_pure rfl (pr_move rfl) (jo_nil (j_pull2 (j_drop (j_pull2 (j_drop ?_)))))
     refine j_pull2 (j_drop (j_pull2 (j_drop (j_pull3 (j_pull3 ?_)))))
     refine j_pull2 (j_pull3 ?_)
     refine jq_round' ((i + 1), (.pointer (some ⟨b1, 0, none⟩)), r5, (acc ++ (((((axes.getD i ([], []))).1) ++ [61]) ++ (writeF (rankA ((axes.getD i ([], []))) l strict))))) (by (try dsimp only); exact (⟨by omega, .inr rfl, by simp only [List.length_append, List.length_cons, List.length_nil]; omega, by rw [axesT_first h2 (by omega), ← hinv.2.2.2]; simp [axisT]⟩)) (by (try dsimp only); exact (by omega)) ⟨rfl, rfl, rfl, rfl, rfl, rfl, trivial⟩ (fun _ h => h)
  ·have h2 := of_decide_eq_false h2b
   refine jc_exit ?_
   refine jq_then_exit ?_
   refine jq_then_exit ?_
   refine jq_in_hit ?_
   refine jq_then (jc_seq (jc_region (j_pull1 ?_)))
   refine jo_callm [.imm (.list (.pair .str (.list .str))) (axesv) (axes), .imm (.list (.pair .str .str)) (lv) (l)] rfl cal_47 (c_Builder_String b1 pv bv acc) ⟨rfl, trivial⟩ rfl (fun _ => ?_)
   show J _ _ [.imm (.list (.pair .str (.list .str))) (axesv) (axes), .imm (.list (.pair .str .str)) (lv) (l)] _
   refine jo_pure rfl (pr_assign rfl) (jo_nil (jq_then (jc_ret (j_drop (j_drop ?_)))))
   exact jq_ret1 rfl () rfl (show (str (classF axes l strict) : Value) = (str (acc)) from congrArg str (by rw [class_yes h1, hinv.2.2.2, take_over (s := axes) (i := i) (by omega)])) (fun _ h => h)

theorem c_class_Same (axes : List ((List UInt8) × (List (List UInt8)))) (axesv : Value) (l : List ((List UInt8) × (List UInt8))) (lv : Value) (m : List ((List UInt8) × (List UInt8))) (mv : Value) (strict : Bool) (hal : axes.length ≤ 1000) (hav : ∀ a ∈ axes, a.1.length ≤ 300 ∧ a.2.length ≤ 1000 ∧ ∀ x ∈ a.2, x.length ≤ 300) (hfl : l.length ≤ 1000000) (hml : ∀ x ∈ l, x.1.length ≤ 20000 ∧ x.2.length ≤ 20000) (hfm : m.length ≤ 1000000) (hmm : ∀ x ∈ m, x.1.length ≤ 20000 ∧ x.2.length ≤ 20000) : Con Tryz.prog 9 #[axesv, lv, mv, .bool (strict)] [.imm (.list (.pair .str (.list .str))) (axesv) (axes), .imm (.list (.pair .str .str)) (lv) (l), .imm (.list (.pair .str .str)) (mv) (m)] (fun _ : Unit => .bool (sameC axes l m strict)) (fun _ => []) := by
 refine con_of_J (args := [axesv, lv, mv, .bool (strict)]) (n := 22) Tryz.func9 rfl (Nat.le_of_ble_eq_true rfl) rfl (fun w0 I0 m0 => ?_)
 show J _ [(0, axesv), (1, lv), (2, mv), (3, .bool (strict))] [.imm (.list (.pair .str (.list .str))) (axesv) (axes), .imm (.list (.pair .str .str)) (lv) (l), .imm (.list (.pair .str .str)) (mv) (m)] _
 have ham : ∀ a ∈ axes, a.1.length ≤ 1000000 ∧ (∀ x ∈ a.2, x.length ≤ 300000) ∧ a.2.length ≤ 9223372036854775807 := fun a ha => by have := hav a ha; exact ⟨by omega, fun x hx => Nat.le_trans (this.2.2 x hx) (by omega), by omega⟩
 refine jc_seq (jc_region (jo_pure rfl (pr_assign rfl) (jo_nil (jq_then (jc_seq ?_)))))
 refine jc_region (jo_pure rfl (pr_move rfl) ?_)
 refine jo_callp cal_22 (c_variants_Valid axes axesv (by first | omega | exact ham | exact hav | exact hfl | exact hml | exact hfm | exact hmm) (by first | omega | exact ham | exact hav | exact hfl | exact hml | exact hfm | exact hmm)) ⟨rfl, trivial⟩ rfl (⟨⟨rfl, .head _⟩, trivial⟩) (fun _ => ?_)
 refine jo_pure rfl (pr_move rfl) (jo_gpure (j := 2) (want := true) rfl rfl rfl rfl (fun hg => pr_move rfl) ?_)
 refine jo_gpure (j := 2) (want := true) rfl rfl rfl rfl (fun hg => pr_move rfl) ?_
 refine jo_gpure (j := 2) (want := true) rfl rfl rfl rfl (fun hg => pr_move rfl) ?_
 refine jo_gcall (j := 2) (want := true) rfl rfl rfl cal_23 (fun hg => c_class_Class axes axesv l lv strict (by first | omega | exact ham | exact hav | exact hfl | exact hml | exact hfm | exact hmm) (by first | omega | exact ham | exact hav | exact hfl | exact hml | exact hfm | exact hmm) (by first | omega | exact ham | exact hav | exact hfl | exact hml | exact hfm | exact hmm) (by first | omega | exact ham | exact hav | exact hfl | exact hml | exact hfm | exact hmm)) (fun hg => ⟨evg rfl hg, evg rfl hg, evg rfl hg, trivial⟩) rfl (fun _ => ⟨⟨rfl, .head _⟩, ⟨⟨rfl, .tail _ (.head _)⟩, trivial⟩⟩) ?_
 refine jo_gpure (j := 2) (want := true) rfl rfl rfl rfl (fun hg => pr_move rfl) ?_
 refine jo_gpure (j := 2) (want := true) rfl rfl rfl rfl (fun hg => pr_move rfl) ?_
 refine jo_gpure (j := 2) (want := true) rfl rfl rfl rfl (fun hg => pr_move rfl) ?_
 refine jo_gcall (j := 2) (want := true) rfl rfl rfl cal_23 (fun hg => c_class_Class axes axesv m mv strict (by first | omega | exact ham | exact hav | exact hfl | exact hml | exact hfm | exact hmm) (by first | omega | exact ham | exact hav | exact hfl | exact hml | exact hfm | exact hmm) (by first | omega | exact ham | exact hav | exact hfl | exact hml | exact hfm | exact hmm) (by first | omega | exact ham | exact hav | exact hfl | exact hml | exact hfm | exact hmm)) (fun hg => ⟨evg rfl hg, evg rfl hg, evg rfl hg, trivial⟩) rfl (fun _ => ⟨⟨rfl, .head _⟩, ⟨⟨rfl, .tail _ (.tail _ (.head _))⟩, trivial⟩⟩) ?_
 refine jo_gpure (j := 2) (want := true) rfl rfl rfl rfl (fun hg => pr_seql (evg rfl hg) (evg rfl hg)) ?_
 refine jo_pure rfl (pr_pick_and rfl rfl rfl) ?_
 refine jo_pure rfl (pr_assign rfl) (jo_nil (jq_then (jc_ret (j_drop (j_drop ?_)))))
 refine j_drop ?_
 exact jq_ret1 rfl () rfl (show (.bool (sameC axes l m strict) : Value) = (.bool ((validL axes && decide ((classF axes l strict : List UInt8) = classF axes m strict)))) from rfl) (fun _ h => h)

theorem c_law18_axes   : Con Tryz.prog 24 #[] [] (fun r1 : Value => r1) (fun r1 => [.imm (.list (.pair .str (.list .str))) r1 ([([97, 99, 99, 101, 112, 116, 45, 108, 97, 110, 103, 117, 97, 103, 101], [[101, 110], [102, 114]]), ([97, 99, 99, 101, 112, 116, 45, 101, 110, 99, 111, 100, 105, 110, 103], [[103, 122, 105, 112], [105, 100, 101, 110, 116, 105, 116, 121]])])]) := by
 refine con_of_J (args := []) (n := 6) Tryz.func24 rfl (Nat.le_of_ble_eq_true rfl) rfl (fun w0 I0 m0 => ?_)
 show J _ [] [] _
 refine jc_seq (jc_region (jo_pure rfl (pr_assign rfl) (jo_nil (jq_then (jc_seq ?_)))))
 refine jc_region ?_
 refine jo_buildSlice (t := .str) [[101, 110], [102, 114]] [str ([101, 110]), str ([102, 114])] (fun a hf => by simp only [List.zipIdx_cons, List.zipIdx_nil, List.map_toArray, List.map_cons, List.map_nil] <;> rfl) rfl Tryz.underlying28 ty_9 rfl rfl rfl rfl rfl (fun g1 => ?_)
 refine jo_pure rfl (pr_build [(0, str ([97, 99, 99, 101, 112, 116, 45, 108, 97, 110, 103, 117, 97, 103, 101])), (1, .slice (some ⟨g1, 0, none⟩) (([[101, 110], [102, 114]]).length) (([[101, 110], [102, 114]]).length))] [str ([97, 99, 99, 101, 112, 116, 45, 108, 97, 110, 103, 117, 97, 103, 101]), .slice (some ⟨g1, 0, none⟩) (([[101, 110], [102, 114]]).length) (([[101, 110], [102, 114]]).length)] (fun a hf => by simp only [List.map_toArray, List.map_cons, List.map_nil, hf.ev (show ev _ (.tmp 1) = some (.slice (some ⟨g1, 0, none⟩) (([[101, 110], [102, 114]]).length) (([[101, 110], [102, 114]]).length)) from rfl)] <;> rfl) (by kernel_rfl)) ?_
 refine jo_buildSlice (t := .str) [[103, 122, 105, 112], [105, 100, 101, 110, 116, 105, 116, 121]] [str ([103, 122, 105, 112]), str ([105, 100, 101, 110, 116, 105, 116, 121])] (fun a hf => by simp only [List.zipIdx_cons, List.zipIdx_nil, List.map_toArray, List.map_cons, List.map_nil] <;> rfl) rfl Tryz.underlying28 ty_9 rfl rfl rfl rfl rfl (fun g2 => ?_)
 refine jo_pure rfl (pr_build [(0, str ([97, 99, 99, 101, 112, 116, 45, 101, 110, 99, 111, 100, 105, 110, 103])), (1, .slice (some ⟨g2, 0, none⟩) (([[103, 122, 105, 112], [105, 100, 101, 110, 116, 105, 116, 121]]).length) (([[103, 122, 105, 112], [105, 100, 101, 110, 116, 105, 116, 121]]).length))] [str ([97, 99, 99, 101, 112, 116, 45, 101, 110, 99, 111, 100, 105, 110, 103]), .slice (some ⟨g2, 0, none⟩) (([[103, 122, 105, 112], [105, 100, 101, 110, 116, 105, 116, 121]]).length) (([[103, 122, 105, 112], [105, 100, 101, 110, 116, 105, 116, 121]]).length)] (fun a hf => by simp only [List.map_toArray, List.map_cons, List.map_nil, hf.ev (show ev _ (.tmp 3) = some (.slice (some ⟨g2, 0, none⟩) (([[103, 122, 105, 112], [105, 100, 101, 110, 116, 105, 116, 121]]).length) (([[103, 122, 105, 112], [105, 100, 101, 110, 116, 105, 116, 121]]).length)) from rfl)] <;> rfl) (by kernel_rfl)) ?_
 refine j_pull1 (j_pub_rowg (j_pull1 (j_pub_rowg ?_)))
 refine jo_buildSliceL (t := (.pair .str (.list .str))) [([97, 99, 99, 101, 112, 116, 45, 108, 97, 110, 103, 117, 97, 103, 101], [[101, 110], [102, 114]]), ([97, 99, 99, 101, 112, 116, 45, 101, 110, 99, 111, 100, 105, 110, 103], [[103, 122, 105, 112], [105, 100, 101, 110, 116, 105, 116, 121]])] [.agg #[str ([97, 99, 99, 101, 112, 116, 45, 108, 97, 110, 103, 117, 97, 103, 101]), .slice (some ⟨g1, 0, none⟩) ([[101, 110], [102, 114]]).length (([[101, 110], [102, 114]]).length)], .agg #[str ([97, 99, 99, 101, 112, 116, 45, 101, 110, 99, 111, 100, 105, 110, 103]), .slice (some ⟨g2, 0, none⟩) ([[103, 122, 105, 112], [105, 100, 101, 110, 116, 105, 116, 121]]).length (([[103, 122, 105, 112], [105, 100, 101, 110, 116, 105, 116, 121]]).length)]] [[str ([97, 99, 99, 101, 112, 116, 45, 108, 97, 110, 103, 117, 97, 103, 101]), .slice (some ⟨g1, 0, none⟩) ([[101, 110], [102, 114]]).length (([[101, 110], [102, 114]]).length)], [str ([97, 99, 99, 101, 112, 116, 45, 101, 110, 99, 111, 100, 105, 110, 103]), .slice (some ⟨g2, 0, none⟩) ([[103, 122, 105, 112], [105, 100, 101, 110, 116, 105, 116, 121]]).length (([[103, 122, 105, 112], [105, 100, 101, 110, 116, 105, 116, 121]]).length)]] (fun a hf => by simp only [List.zipIdx_cons, List.zipIdx_nil, List.map_toArray, List.map_cons, List.map_nil, hf.ev (show ev _ (.tmp 2) = some (.agg #[str ([97, 99, 99, 101, 112, 116, 45, 108, 97, 110, 103, 117, 97, 103, 101]), .slice (some ⟨g1, 0, none⟩) ([[101, 110], [102, 114]]).length (([[101, 110], [102, 114]]).length)]) from rfl), hf.ev (show ev _ (.tmp 4) = some (.agg #[str ([97, 99, 99, 101, 112, 116, 45, 101, 110, 99, 111, 100, 105, 110, 103]), .slice (some ⟨g2, 0, none⟩) ([[103, 122, 105, 112], [105, 100, 101, 110, 116, 105, 116, 121]]).length (([[103, 122, 105, 112], [105, 100, 101, 110, 116, 105, 116, 121]]).length)]) from rfl)] <;> rfl) rfl ⟨⟨[str ([97, 99, 99, 101, 112, 116, 45, 108, 97, 110, 103, 117, 97, 103, 101])], [.slice (some ⟨g1, 0, none⟩) ([[101, 110], [102, 114]]).length (([[101, 110], [102, 114]]).length)], rfl, rfl, ⟨(.slice (some ⟨g1, 0, none⟩) ([[101, 110], [102, 114]]).length (([[101, 110], [102, 114]]).length)), rfl, .tail _ (.head _)⟩⟩, ⟨⟨[str ([97, 99, 99, 101, 112, 116, 45, 101, 110, 99, 111, 100, 105, 110, 103])], [.slice (some ⟨g2, 0, none⟩) ([[103, 122, 105, 112], [105, 100, 101, 110, 116, 105, 116, 121]]).length (([[103, 122, 105, 112], [105, 100, 101, 110, 116, 105, 116, 121]]).length)], rfl, rfl, ⟨(.slice (some ⟨g2, 0, none⟩) ([[103, 122, 105, 112], [105, 100, 101, 110, 116, 105, 116, 121]]).length (([[103, 122, 105, 112], [105, 100, 101, 110, 116, 105, 116, 121]]).length)), rfl, .head _⟩⟩, trivial⟩⟩ Tryz.underlying22 ty_30 rfl rfl rfl rfl (fun g3 => ?_)
 refine jo_pure rfl (pr_assign rfl) (jo_nil (jq_then (jc_ret (j_row_of_rowg ?_))))
 refine j_pub_row (j_pull1 (j_drop (j_pull1 (j_drop ?_))))
 exact jq_ret1 rfl (.slice (some ⟨g3, 0, none⟩) ([([97, 99, 99, 101, 112, 116, 45, 108, 97, 110, 103, 117, 97, 103, 101], [[101, 110], [102, 114]]), ([97, 99, 99, 101, 112, 116, 45, 101, 110, 99, 111, 100, 105, 110, 103], [[103, 122, 105, 112], [105, 100, 101, 110, 116, 105, 116, 121]])]).length (([([97, 99, 99, 101, 112, 116, 45, 108, 97, 110, 103, 117, 97, 103, 101], [[101, 110], [102, 114]]), ([97, 99, 99, 101, 112, 116, 45, 101, 110, 99, 111, 100, 105, 110, 103], [[103, 122, 105, 112], [105, 100, 101, 110, 116, 105, 116, 121]])]).length)) rfl (show (.slice (some ⟨g3, 0, none⟩) ([([97, 99, 99, 101, 112, 116, 45, 108, 97, 110, 103, 117, 97, 103, 101], [[101, 110], [102, 114]]), ([97, 99, 99, 101, 112, 116, 45, 101, 110, 99, 111, 100, 105, 110, 103], [[103, 122, 105, 112], [105, 100, 101, 110, 116, 105, 116, 121]])]).length (([([97, 99, 99, 101, 112, 116, 45, 108, 97, 110, 103, 117, 97, 103, 101], [[101, 110], [102, 114]]), ([97, 99, 99, 101, 112, 116, 45, 101, 110, 99, 111, 100, 105, 110, 103], [[103, 122, 105, 112], [105, 100, 101, 110, 116, 105, 116, 121]])]).length) : Value) = (.slice (some ⟨g3, 0, none⟩) ([([97, 99, 99, 101, 112, 116, 45, 108, 97, 110, 103, 117, 97, 103, 101], [[101, 110], [102, 114]]), ([97, 99, 99, 101, 112, 116, 45, 101, 110, 99, 111, 100, 105, 110, 103], [[103, 122, 105, 112], [105, 100, 101, 110, 116, 105, 116, 121]])]).length (([([97, 99, 99, 101, 112, 116, 45, 108, 97, 110, 103, 117, 97, 103, 101], [[101, 110], [102, 114]]), ([97, 99, 99, 101, 112, 116, 45, 101, 110, 99, 111, 100, 105, 110, 103], [[103, 122, 105, 112], [105, 100, 101, 110, 116, 105, 116, 121]])]).length)) from rfl) (fun _ h => h)

theorem c_law18_awake   : Con Tryz.prog 10 #[] [] (fun _ : Unit => .bool (true)) (fun _ => []) := by
 refine con_of_J (args := []) (n := 4) Tryz.func10 rfl (Nat.le_of_ble_eq_true rfl) rfl (fun w0 I0 m0 => ?_)
 show J _ [] [] _
 refine jc_seq (jc_region (jo_pure rfl (pr_assign rfl) (jo_nil (jq_then (jc_seq ?_)))))
 refine jc_region ?_
 refine jo_callp cal_24 (c_law18_axes) trivial rfl (trivial) (fun r1 => ?_)
 show J _ _ [.imm (.list (.pair .str (.list .str))) (r1) ([([97, 99, 99, 101, 112, 116, 45, 108, 97, 110, 103, 117, 97, 103, 101], [[101, 110], [102, 114]]), ([97, 99, 99, 101, 112, 116, 45, 101, 110, 99, 111, 100, 105, 110, 103], [[103, 122, 105, 112], [105, 100, 101, 110, 116, 105, 116, 121]])])] _
 refine j_nil_imm (.pair .str .str) ?_
 refine jo_callp cal_23 (c_class_Class [([97, 99, 99, 101, 112, 116, 45, 108, 97, 110, 103, 117, 97, 103, 101], [[101, 110], [102, 114]]), ([97, 99, 99, 101, 112, 116, 45, 101, 110, 99, 111, 100, 105, 110, 103], [[103, 122, 105, 112], [105, 100, 101, 110, 116, 105, 116, 121]])] r1 [] (.slice none 0 0) false (by decide +kernel) (by decide +kernel) (by decide +kernel) (by decide +kernel)) ⟨rfl, rfl, rfl, trivial⟩ rfl (⟨⟨rfl, .tail _ (.head _)⟩, ⟨⟨rfl, .head _⟩, trivial⟩⟩) (fun _ => ?_)
 refine jo_pure rfl (pr_seql rfl rfl) ?_
 refine jo_pure rfl (pr_assign rfl) (jo_nil (jq_then (jc_ret (j_drop (j_drop ?_)))))
 exact jq_ret1 rfl () rfl (show (.bool (true) : Value) = (.bool (decide ((classF [([97, 99, 99, 101, 112, 116, 45, 108, 97, 110, 103, 117, 97, 103, 101], [[101, 110], [102, 114]]), ([97, 99, 99, 101, 112, 116, 45, 101, 110, 99, 111, 100, 105, 110, 103], [[103, 122, 105, 112], [105, 100, 101, 110, 116, 105, 116, 121]])] [] false : List UInt8) = [97, 99, 99, 101, 112, 116, 45, 108, 97, 110, 103, 117, 97, 103, 101, 61, 40, 101, 110, 32, 102, 114, 41, 44, 32, 97, 99, 99, 101, 112, 116, 45, 101, 110, 99, 111, 100, 105, 110, 103, 61, 40, 103, 122, 105, 112, 32, 105, 100, 101, 110, 116, 105, 116, 121, 41]))) from congrArg Value.bool (by decide +kernel)) (fun _ h => h)
end Go.Proofs.YtjbcomdljmfgjabGreatDoor
