/-
 Contracts of functions of the program: each returns what a plain function says, for every input within the bounds named. Conditions: the bounds.
-/
import Derived.Test.YtlniaacdjllonaaGreatRows
import Derived.Test.YtlniaacdjllonaaGreatWK7
namespace Go.Proofs.YtlniaacdjllonaaGreat
open Go Go.Sep
set_option linter.unusedSimpArgs false
set_option linter.unusedVariables false

open Go.Plain

theorem cal_44 : Cal Tryz.prog 44 := cal_of Tryz.func44 (by kernel_rfl) rfl
theorem cal_60 : Cal Tryz.prog 60 := cal_of Tryz.func60 (by kernel_rfl) rfl
theorem cal_66 : Cal Tryz.prog 66 := cal_of Tryz.func66 (by kernel_rfl) rfl
theorem cal_71 : Cal Tryz.prog 71 := cal_of Tryz.func71 (by kernel_rfl) rfl
theorem cal_72 : Cal Tryz.prog 72 := cal_of Tryz.func72 (by kernel_rfl) rfl
theorem cal_76 : Cal Tryz.prog 76 := cal_of Tryz.func76 (by kernel_rfl) rfl
theorem cal_77 : Cal Tryz.prog 77 := cal_of Tryz.func77 (by kernel_rfl) rfl
theorem cal_82 : Cal Tryz.prog 82 := cal_of Tryz.func82 (by kernel_rfl) rfl
theorem cal_94 : Cal Tryz.prog 94 := cal_of Tryz.func94 (by kernel_rfl) rfl
theorem ty_50 : TyF Tryz.prog 50 true 2 48 (some (.agg #[.slice none 0 0, .slice none 0 0])) := ⟨by kernel_rfl, by kernel_rfl⟩

theorem c_clone_Table (t : (List (Axs)) × (List Ent)) (tv : Value) (tv2 : Value) (hax : OkA t.1) (hlt : t.2.length ≤ 1000000000) (hm : ∀ e ∈ t.2, OkE e) : Con Tryz.prog 44 #[.agg #[tv, tv2]] [.imm (.list (.pair .str (.list .str))) (tv) (t.1), .imm (.list tyE) (tv2) (t.2)] (fun r : Value × Value => .agg #[r.1, r.2]) (fun r => [.imm (.list (.pair .str (.list .str))) r.1 (t.1), .row r.2 40 tyE (t.2)]) := by
 refine con_of_J (args := [.agg #[tv, tv2]]) (n := 26) Tryz.func44 rfl (Nat.le_of_ble_eq_true rfl) rfl (fun w0 I0 m0 => ?_)
 refine jc_seq (jc_region ?_)
 refine jo_box rfl [tv, tv2] rfl rfl (fun b1 => ?_)
 refine jo_alloc ty_50 [.slice none 0 0, .slice none 0 0] rfl rfl (fun b2 => ?_)
 refine jo_nil (jq_then (jc_seq (jc_region (jo_pure rfl (pr_fieldAddr 0 rfl Tryz.underlying50 rfl ty_41 rfl rfl) ?_))))
 refine jo_pure rfl (pr_load_box (tv) rfl ty_41 (.tail _ (.head _)) rfl (by decide) rfl) ?_
 refine jo_callp cal_66 (c_clone_Axes t.1 tv (by first | omega | exact hax.vals | (have := hax.len; omega) | exact hm _ (getD_mem h1)) (by first | omega | exact hax.vals | (have := hax.len; omega) | exact hm _ (getD_mem h1))) ⟨rfl, trivial⟩ rfl (⟨⟨rfl, .tail _ (.tail _ (.head _))⟩, trivial⟩) (fun r1 => ?_)
 refine jo_pure rfl (pr_buildV [(0, r1)] [r1, .slice none 0 0] (fun a hf => by simp only [List.map_toArray, List.map_cons, List.map_nil, hf.ev (show ev _ (.tmp 8) = some (r1) from rfl)]) (fun w I m hs => by obtain ⟨_, _, _, e0⟩ := imm_slice (.head _) hs; rw [e0]; kernel_rfl)) ?_
 refine jo_alloc ty_50 [.slice none 0 0, .slice none 0 0] rfl rfl (fun b3 => ?_)
 refine jo_storeV rfl rfl ty_50 [r1, .slice none 0 0] (fun _ _ _ _ => rfl) rfl (fun w I m hs => by simp only [List.all_cons, List.all_nil, Bool.and_true, Bool.and_eq_true]; exact ⟨(SliceV.one (imm_slice (.tail _ (.head _)) hs)), rfl⟩) [r1, .slice none 0 0] rfl rfl ?_
 refine jo_nil (jq_then (jc_seq (jc_seq (jc_region (jo_pure rfl (pr_fieldAddr 1 rfl Tryz.underlying50 rfl ty_48 rfl rfl) ?_)))))
 refine jo_pure rfl (pr_load_box (tv2) rfl ty_48 (.tail _ (.tail _ (.tail _ (.head _)))) rfl (by decide) rfl) ?_
 refine jo_pure rfl (pr_len_imm rfl (.tail _ (.tail _ (.tail _ (.tail _ (.tail _ (.head _)))))) Tryz.underlying48) ?_
 refine jo_pure rfl (pr_move rfl) (jo_nil (jq_then (jc_block (j_nil_row 40 tyE ?_))))
 refine jc_loop3 (fun (i : Nat) (kw : Value) (acc : List Ent) => [(2, .pointer (some ⟨b2, 0, none⟩)), (3, .pointer (some ⟨b3, 0, none⟩)), (11, tv2), (12, .int .i64 ((t.2.length : Nat) : Int)), (13, .int .i64 ((i : Nat) : Int))]) (fun (i : Nat) (kw : Value) (acc : List Ent) => [.row (kw) 40 tyE (acc), .box b3 50 [r1, kw], .imm (.list (.pair .str (.list .str))) (r1) (t.1), .box b2 50 [.slice none 0 0, .slice none 0 0], .box b1 50 [tv, tv2], .imm (.list (.pair .str (.list .str))) (tv) (t.1), .imm (.list tyE) (tv2) (t.2)]) (fun (i : Nat) (kw : Value) (acc : List Ent) => i ≤ t.2.length ∧ acc = t.2.take i) (fun (i : Nat) (kw : Value) (acc : List Ent) => t.2.length - i) 0 (.slice none 0 0) [] (⟨Nat.zero_le _, rfl⟩) (⟨rfl, rfl, rfl, rfl, rfl, trivial⟩) (fun _ h => h) (fun i kw acc hinv => ?_)
 have hal : acc.length ≤ 1000000000 := by rw [hinv.2, List.length_take]; omega
 refine jc_seq (jc_region (jo_pure rfl (pr_lssN (m := i) (n := t.2.length) rfl rfl) ?_))
 refine jo_nil (jq_then (jc_seq ?_))
 refine jc_cond rfl (fun h1b => ?_) (fun h1b => ?_)
 ·have h1 := of_decide_eq_true h1b
  refine jc_skip (jq_then (jc_seq (jc_block (jc_seq (jc_region ?_)))))
  refine j_open_elem (t := tyE) (i := i) ([],[],[],[],[],[],0,0) (.tail _ (.tail _ (.tail _ (.tail _ (.tail _ (.tail _ (.head _))))))) (by omega) (fun ⟨e1, ⟨e2, ⟨e3, ⟨_, ⟨e4, ⟨_, ⟨_, _⟩⟩⟩⟩⟩⟩⟩ => ?_)
  refine jo_pure rfl (pr_idx_imm (i := i) rfl (.tail _ (.tail _ (.tail _ (.tail _ (.tail _ (.tail _ (.tail _ (.tail _ (.tail _ (.tail _ (.tail _ (.head _)))))))))))) rfl Tryz.underlying48 ty_40 (by omega)) ?_
  refine jo_pure rfl (pr_load_at (.agg #[e1, e2, e3, str ((((((t.2.getD i ([],[],[],[],[],[],0,0))).2).2).2).1), e4, str ((((((((t.2.getD i ([],[],[],[],[],[],0,0))).2).2).2).2).2).1), .int .i64 (((((((((t.2.getD i ([],[],[],[],[],[],0,0))).2).2).2).2).2).2).1), .int .i64 (((((((((t.2.getD i ([],[],[],[],[],[],0,0))).2).2).2).2).2).2).2)]) rfl (.tail _ (.tail _ (.tail _ (.tail _ (.head _))))) ty_40 (by decide) rfl) ?_
  refine jo_alloc ty_40 [.slice none 0 0, .slice none 0 0, .slice none 0 0, str ([]), .slice none 0 0, str ([]), .int .i64 ((0 : Nat) : Int), .int .i64 ((0 : Nat) : Int)] rfl rfl (fun b4 => ?_)
  refine jo_storeV rfl rfl ty_40 [e1, e2, e3, str ((((((t.2.getD i ([],[],[],[],[],[],0,0))).2).2).2).1), e4, str ((((((((t.2.getD i ([],[],[],[],[],[],0,0))).2).2).2).2).2).1), .int .i64 (((((((((t.2.getD i ([],[],[],[],[],[],0,0))).2).2).2).2).2).2).1), .int .i64 (((((((((t.2.getD i ([],[],[],[],[],[],0,0))).2).2).2).2).2).2).2)] (fun _ _ _ _ => rfl) rfl (fun w I m hs => by simp only [List.all_cons, List.all_nil, Bool.and_true, Bool.and_eq_true]; exact ⟨(SliceV.one (imm_slice (.tail _ (.head _)) hs)), (SliceV.one (imm_slice (.tail _ (.tail _ (.head _))) hs)), (SliceV.one (imm_slice (.tail _ (.tail _ (.tail _ (.head _)))) hs)), rfl, (SliceV.one (imm_slice (.tail _ (.tail _ (.tail _ (.tail _ (.head _))))) hs)), rfl, rfl, rfl⟩) [e1, e2, e3, str ((((((t.2.getD i ([],[],[],[],[],[],0,0))).2).2).2).1), e4, str ((((((((t.2.getD i ([],[],[],[],[],[],0,0))).2).2).2).2).2).1), .int .i64 (((((((((t.2.getD i ([],[],[],[],[],[],0,0))).2).2).2).2).2).2).1), .int .i64 (((((((((t.2.getD i ([],[],[],[],[],[],0,0))).2).2).2).2).2).2).2)] rfl rfl ?_
  refine jo_nil (jq_then (j_pull6 ?_))
  refine jc_heldI (fun (iq : Value × Value × Value × Value × Value) => [(2, .pointer (some ⟨b2, 0, none⟩)), (3, .pointer (some ⟨b3, 0, none⟩)), (11, tv2), (12, .int .i64 ((t.2.length : Nat) : Int)), (13, .int .i64 ((i : Nat) : Int))]) (fun iq => [.box b3 50 [r1, iq.1], .row (iq.1) 40 tyE (acc ++ [((t.2.getD i ([],[],[],[],[],[],0,0)))]), .imm (.list (.list .str)) (iq.2.1) (((t.2.getD i ([],[],[],[],[],[],0,0))).1), .imm (.list .str) (iq.2.2.1) (((t.2.getD i ([],[],[],[],[],[],0,0))).2.1), .imm (.list .str) (iq.2.2.2.1) (((t.2.getD i ([],[],[],[],[],[],0,0))).2.2.1), .imm (.list (.pair .str .str)) (iq.2.2.2.2) (((t.2.getD i ([],[],[],[],[],[],0,0))).2.2.2.2.1), .box b4 40 [e1, e2, e3, str ((((((t.2.getD i ([],[],[],[],[],[],0,0))).2).2).2).1), e4, str ((((((((t.2.getD i ([],[],[],[],[],[],0,0))).2).2).2).2).2).1), .int .i64 (((((((((t.2.getD i ([],[],[],[],[],[],0,0))).2).2).2).2).2).2).1), .int .i64 (((((((((t.2.getD i ([],[],[],[],[],[],0,0))).2).2).2).2).2).2).2)], .imm (.list (.list .str)) (e1) (((t.2.getD i ([],[],[],[],[],[],0,0))).1), .imm (.list .str) (e2) ((((t.2.getD i ([],[],[],[],[],[],0,0))).2).1), .imm (.list .str) (e3) (((((t.2.getD i ([],[],[],[],[],[],0,0))).2).2).1), .imm (.list (.pair .str .str)) (e4) (((((((t.2.getD i ([],[],[],[],[],[],0,0))).2).2).2).2).1), .fact (fun w_ I_ => ElemAt w_ I_ (tv2) (i) 8 [e1, e2, e3, str ((((((t.2.getD i ([],[],[],[],[],[],0,0))).2).2).2).1), e4, str ((((((((t.2.getD i ([],[],[],[],[],[],0,0))).2).2).2).2).2).1), .int .i64 (((((((((t.2.getD i ([],[],[],[],[],[],0,0))).2).2).2).2).2).2).1), .int .i64 (((((((((t.2.getD i ([],[],[],[],[],[],0,0))).2).2).2).2).2).2).2)]), .imm (.list (.pair .str (.list .str))) (r1) (t.1), .box b2 50 [.slice none 0 0, .slice none 0 0], .box b1 50 [tv, tv2], .imm (.list (.pair .str (.list .str))) (tv) (t.1), .imm (.list tyE) (tv2) (t.2)]) [.box b4 40 [e1, e2, e3, str ((((((t.2.getD i ([],[],[],[],[],[],0,0))).2).2).2).1), e4, str ((((((((t.2.getD i ([],[],[],[],[],[],0,0))).2).2).2).2).2).1), .int .i64 (((((((((t.2.getD i ([],[],[],[],[],[],0,0))).2).2).2).2).2).2).1), .int .i64 (((((((((t.2.getD i ([],[],[],[],[],[],0,0))).2).2).2).2).2).2).2)], .imm (.list (.list .str)) (e1) (((t.2.getD i ([],[],[],[],[],[],0,0))).1), .imm (.list .str) (e2) ((((t.2.getD i ([],[],[],[],[],[],0,0))).2).1), .imm (.list .str) (e3) (((((t.2.getD i ([],[],[],[],[],[],0,0))).2).2).1), .imm (.list (.pair .str .str)) (e4) (((((((t.2.getD i ([],[],[],[],[],[],0,0))).2).2).2).2).1), .fact (fun w_ I_ => ElemAt w_ I_ (tv2) (i) 8 [e1, e2, e3, str ((((((t.2.getD i ([],[],[],[],[],[],0,0))).2).2).2).1), e4, str ((((((((t.2.getD i ([],[],[],[],[],[],0,0))).2).2).2).2).2).1), .int .i64 (((((((((t.2.getD i ([],[],[],[],[],[],0,0))).2).2).2).2).2).2).1), .int .i64 (((((((((t.2.getD i ([],[],[],[],[],[],0,0))).2).2).2).2).2).2).2)]), .box b3 50 [r1, kw], .imm (.list (.pair .str (.list .str))) (r1) (t.1), .box b2 50 [.slice none 0 0, .slice none 0 0], .box b1 50 [tv, tv2], .imm (.list (.pair .str (.list .str))) (tv) (t.1), .imm (.list tyE) (tv2) (t.2)] [7] mixed (fun lst hlst => ?_) (fun ⟨v1, r2, r3, r4, r5⟩ => ?_)
  ·subst hlst
   refine ji_take (listed' := #[true, false, false, false, false, false, false, false]) 0 rfl (by kernel_rfl) (by kernel_rfl) (by kernel_rfl) (by kernel_rfl) rfl (pr_fieldAddr 1 rfl Tryz.underlying50 rfl ty_48 rfl rfl) (fun _ h => Mem.drop1 (h)) rfl ?_
   refine ji_take (listed' := #[true, true, false, false, false, false, false, false]) 1 rfl (by kernel_rfl) (by kernel_rfl) (by kernel_rfl) (by kernel_rfl) rfl (pr_load_box (kw) rfl ty_48 (.tail _ (.tail _ (.tail _ (.tail _ (.tail _ (.tail _ (.head _))))))) rfl (by decide) rfl) (fun _ h => Mem.drop1 (h)) rfl ?_
   refine ji_take (listed' := #[true, true, true, false, false, false, false, false]) 2 rfl (by kernel_rfl) (by kernel_rfl) (by kernel_rfl) (by kernel_rfl) rfl (pr_load_box (.agg #[e1, e2, e3, str ((((((t.2.getD i ([],[],[],[],[],[],0,0))).2).2).2).1), e4, str ((((((((t.2.getD i ([],[],[],[],[],[],0,0))).2).2).2).2).2).1), .int .i64 (((((((((t.2.getD i ([],[],[],[],[],[],0,0))).2).2).2).2).2).2).1), .int .i64 (((((((((t.2.getD i ([],[],[],[],[],[],0,0))).2).2).2).2).2).2).2)]) rfl ty_40 (.head _) rfl (by decide) rfl) (fun _ h => Mem.drop1 (h)) rfl ?_
   refine ji_all [3] (by kernel_rfl) (by simp) (fun i hi => ?_)
   simp only [List.mem_cons, List.not_mem_nil, or_false] at hi
   subst hi
   ·refine jh_op rfl ?_
    have con1 := c_clone_Entry ((t.2.getD i ([],[],[],[],[],[],0,0))) e1 e2 e3 e4 (by first | omega | exact hax.vals | (have := hax.len; omega) | exact hm _ (getD_mem h1))
    refine jo_callp cal_60 con1 (by exact ⟨rfl, trivial⟩) rfl (by exact ⟨⟨rfl, .tail _ (.tail _ (.head _))⟩, ⟨⟨rfl, .tail _ (.tail _ (.tail _ (.head _)))⟩, ⟨⟨rfl, .tail _ (.tail _ (.tail _ (.tail _ (.head _))))⟩, ⟨⟨rfl, .tail _ (.tail _ (.tail _ (.tail _ (.tail _ (.head _)))))⟩, trivial⟩⟩⟩⟩) (fun ⟨r2, r3, r4, r5⟩ => ?_)
    clear con1
    refine ji_in (listed' := #[true, true, true, true, false, false, false, false]) (fun _ h => Mem.drop1 (Mem.drop1 (Mem.drop1 (Mem.drop1 (Mem.drop1 (h)))))) rfl ?_
    refine ji_all [4] (by kernel_rfl) (by simp) (fun i hi => ?_)
    simp only [List.mem_cons, List.not_mem_nil, or_false] at hi
    subst hi
    ·refine jh_op rfl ?_
     refine jo_buildSliceL (t := tyE) [((t.2.getD i ([],[],[],[],[],[],0,0)))] [.agg #[r2, r3, r4, str (((t.2.getD i ([],[],[],[],[],[],0,0))).2.2.2.1), r5, str (((t.2.getD i ([],[],[],[],[],[],0,0))).2.2.2.2.2.1), .int .i64 (((t.2.getD i ([],[],[],[],[],[],0,0))).2.2.2.2.2.2.1), .int .i64 (((t.2.getD i ([],[],[],[],[],[],0,0))).2.2.2.2.2.2.2)]] [[r2, r3, r4, str (((t.2.getD i ([],[],[],[],[],[],0,0))).2.2.2.1), r5, str (((t.2.getD i ([],[],[],[],[],[],0,0))).2.2.2.2.2.1), .int .i64 (((t.2.getD i ([],[],[],[],[],[],0,0))).2.2.2.2.2.2.1), .int .i64 (((t.2.getD i ([],[],[],[],[],[],0,0))).2.2.2.2.2.2.2)]] (fun a hf => by simp only [List.zipIdx_cons, List.zipIdx_nil, List.map_toArray, List.map_cons, List.map_nil, hf.ev (show ev _ (.tmp 20) = some (.agg #[r2, r3, r4, str (((t.2.getD i ([],[],[],[],[],[],0,0))).2.2.2.1), r5, str (((t.2.getD i ([],[],[],[],[],[],0,0))).2.2.2.2.2.1), .int .i64 (((t.2.getD i ([],[],[],[],[],[],0,0))).2.2.2.2.2.2.1), .int .i64 (((t.2.getD i ([],[],[],[],[],[],0,0))).2.2.2.2.2.2.2)]) from rfl)] <;> rfl) rfl ⟨⟨[r2], [r3, r4, str (((t.2.getD i ([],[],[],[],[],[],0,0))).2.2.2.1), r5, str (((t.2.getD i ([],[],[],[],[],[],0,0))).2.2.2.2.2.1), .int .i64 (((t.2.getD i ([],[],[],[],[],[],0,0))).2.2.2.2.2.2.1), .int .i64 (((t.2.getD i ([],[],[],[],[],[],0,0))).2.2.2.2.2.2.2)], rfl, ⟨r2, rfl, .head _⟩, ⟨[r3], [r4, str (((t.2.getD i ([],[],[],[],[],[],0,0))).2.2.2.1), r5, str (((t.2.getD i ([],[],[],[],[],[],0,0))).2.2.2.2.2.1), .int .i64 (((t.2.getD i ([],[],[],[],[],[],0,0))).2.2.2.2.2.2.1), .int .i64 (((t.2.getD i ([],[],[],[],[],[],0,0))).2.2.2.2.2.2.2)], rfl, ⟨r3, rfl, .tail _ (.head _)⟩, ⟨[r4], [str (((t.2.getD i ([],[],[],[],[],[],0,0))).2.2.2.1), r5, str (((t.2.getD i ([],[],[],[],[],[],0,0))).2.2.2.2.2.1), .int .i64 (((t.2.getD i ([],[],[],[],[],[],0,0))).2.2.2.2.2.2.1), .int .i64 (((t.2.getD i ([],[],[],[],[],[],0,0))).2.2.2.2.2.2.2)], rfl, ⟨r4, rfl, .tail _ (.tail _ (.head _))⟩, ⟨[str (((t.2.getD i ([],[],[],[],[],[],0,0))).2.2.2.1)], [r5, str (((t.2.getD i ([],[],[],[],[],[],0,0))).2.2.2.2.2.1), .int .i64 (((t.2.getD i ([],[],[],[],[],[],0,0))).2.2.2.2.2.2.1), .int .i64 (((t.2.getD i ([],[],[],[],[],[],0,0))).2.2.2.2.2.2.2)], rfl, rfl, ⟨[r5], [str (((t.2.getD i ([],[],[],[],[],[],0,0))).2.2.2.2.2.1), .int .i64 (((t.2.getD i ([],[],[],[],[],[],0,0))).2.2.2.2.2.2.1), .int .i64 (((t.2.getD i ([],[],[],[],[],[],0,0))).2.2.2.2.2.2.2)], rfl, ⟨r5, rfl, .tail _ (.tail _ (.tail _ (.head _)))⟩, ⟨[str (((t.2.getD i ([],[],[],[],[],[],0,0))).2.2.2.2.2.1)], [.int .i64 (((t.2.getD i ([],[],[],[],[],[],0,0))).2.2.2.2.2.2.1), .int .i64 (((t.2.getD i ([],[],[],[],[],[],0,0))).2.2.2.2.2.2.2)], rfl, rfl, ⟨[.int .i64 (((t.2.getD i ([],[],[],[],[],[],0,0))).2.2.2.2.2.2.1)], [.int .i64 (((t.2.getD i ([],[],[],[],[],[],0,0))).2.2.2.2.2.2.2)], rfl, rfl, rfl⟩⟩⟩⟩⟩⟩⟩, trivial⟩ Tryz.underlying48 ty_40 rfl rfl rfl rfl (fun g1 => ?_)
     refine ji_in (listed' := #[true, true, true, true, true, false, false, false]) (fun _ h => Mem.drop1 (Mem.drop1 (Mem.drop1 (Mem.drop1 (Mem.drop1 (Mem.drop1 (h))))))) rfl ?_
     refine ji_all [5] (by kernel_rfl) (by simp) (fun i hi => ?_)
     simp only [List.mem_cons, List.not_mem_nil, or_false] at hi
     subst hi
     ·refine jh_op rfl ?_
      refine j_pull5 ?_
      refine jo_append rfl rfl Tryz.underlying48 ty_40 rfl (by simp only [List.length_append, List.length_cons, List.length_nil, maxLen]; omega) (by simp only [List.length_append, List.length_cons, List.length_nil]; omega) rfl (fun v1 => ?_)
      refine ji_in (listed' := #[true, true, true, true, true, true, false, false]) (fun _ h => Mem.drop1 (Mem.drop1 (Mem.drop1 (Mem.drop1 (Mem.drop1 (h)))))) rfl ?_
      refine ji_take (listed' := #[true, true, true, true, true, true, true, false]) 6 rfl (by kernel_rfl) (by kernel_rfl) (by kernel_rfl) (by kernel_rfl) rfl (pr_fieldAddr 1 rfl Tryz.underlying50 rfl ty_48 rfl rfl) (fun _ h => Mem.drop1 (Mem.drop1 (Mem.drop1 (Mem.drop1 (Mem.drop1 (h)))))) rfl ?_
      refine ji_all [7] (by kernel_rfl) (by simp) (fun i hi => ?_)
      simp only [List.mem_cons, List.not_mem_nil, or_false] at hi
      subst hi
      ·refine jh_op rfl ?_
       refine j_pull11 ?_
       refine jo_storeV rfl rfl ty_48 [v1] (fun w I m hs => (SliceV.cells (row_slice (.tail _ (.head _)) hs))) rfl (fun w I m hs => by simp only [List.all_cons, List.all_nil, Bool.and_true, Bool.and_eq_true]; exact (SliceV.one (row_slice (.tail _ (.head _)) hs))) [r1, v1] rfl rfl ?_
       refine ji_in2 (listed' := #[true, true, true, true, true, true, true, true]) (by kernel_rfl) rfl ?_
       refine j_pull16 ?_
       refine j_pull16 ?_
       refine j_pull16 ?_
       refine j_pull16 ?_
       refine j_pull16 ?_
       refine j_pull16 ?_
       refine j_pull16 ?_
       refine j_pull16 ?_
       refine j_pull16 ?_
       refine j_pull16 ?_
       refine j_pull16 ?_
       refine j_pull16 ?_
       refine j_pull16 ?_
       refine j_pull16 ?_
       refine j_pull16 ?_
       refine j_pull16 ?_
       refine j_pull16 ?_
       show JI _ _ _ _ _ _ _ _ _
       exact ji_done ⟨v1, r2, r3, r4, r5⟩ (by kernel_rfl) ⟨rfl, rfl, rfl, rfl, rfl, trivial⟩ (fun _ h => h)
  ·skip
   refine jq_in_normal (jq_then (jc_region (jo_pure rfl (pr_addN (m := i) (n := 1) rfl rfl (by omega)) ?_)))
   refine jo_pure rfl (pr_move rfl) (jo_nil (j_pull2 (j_drop (j_pull2 (j_drop (j_pull2 (j_drop (j_pull2 (j_drop (j_pull2 (j_drop (j_pull2 (j_drop (j_pull2 (j_drop (j_pull2 (j_drop (j_pull2 (j_drop (j_pull2 (j_drop (j_pull6 ?_))))))))))))))))))))))
   refine j_pull6 ?_
   refine j_pull6 ?_
   refine j_pull6 ?_
   refine j_pull6 ?_
   refine j_pull5 ?_
   refine j_pull6 ?_
   refine jq_round' ((i + 1), v1, (acc ++ [((t.2.getD i ([],[],[],[],[],[],0,0)))])) (by (try dsimp only); exact (⟨by omega, by rw [take_next (dd := ([],[],[],[],[],[],0,0)) h1, hinv.2]⟩)) (by (try dsimp only); exact (by omega)) ⟨rfl, rfl, rfl, rfl, rfl, trivial⟩ (fun _ h => h)
 ·have h1 := of_decide_eq_false h1b
  refine jc_exit ?_
  refine jq_then_exit ?_
  refine jq_then_exit ?_
  refine jq_in_hit ?_
  refine jq_then (jc_seq (jc_region (jo_pure rfl (pr_load_box (.agg #[r1, kw]) rfl ty_50 (.tail _ (.head _)) rfl (by decide) rfl) ?_)))
  refine j_pull3 (jo_storeV rfl rfl ty_50 [r1, kw] (fun _ _ _ _ => rfl) rfl (fun w I m hs => by simp only [List.all_cons, List.all_nil, Bool.and_true, Bool.and_eq_true]; exact ⟨(SliceV.one (imm_slice (.tail _ (.tail _ (.tail _ (.head _)))) hs)), (SliceV.one (row_slice (.tail _ (.head _)) hs))⟩) [r1, kw] rfl rfl ?_)
  refine jo_nil (jq_then (jc_ret (j_pull2 (j_drop (j_pull3 (j_drop (j_pull3 (j_drop (j_pull3 (j_drop (j_pull1 (j_pull2 ?_))))))))))))
  exact jq_retc rfl (r1, kw) (resV_box (.agg #[r1, kw]) rfl ty_50 (.tail _ (.tail _ (.head _))) rfl (by decide) rfl) (show (.agg #[r1, kw] : Value) = (.agg #[r1, kw]) from rfl) (fun w h => (fun h => by rw [hinv.2, List.take_of_length_le (by omega)] at h; exact h) (Mem.front (As := [.imm (.list (.pair .str (.list .str))) (r1) (t.1), .row (kw) 40 tyE (acc)]) h))

theorem c_delete_entry (l : List Ent) (sv : Value) (i j : Nat) (hij : i < j) (hj : j ≤ l.length) (hl : l.length ≤ 1000000000) : Con Tryz.prog 82 #[sv, .int .i64 ((i : Nat) : Int), .int .i64 ((j : Nat) : Int)] [.row (sv) 40 tyE (l)] (fun r1 : Value => r1) (fun r1 => [.row (r1) 40 tyE (l.take i ++ l.drop j)]) := by
 refine con_of_J (args := [sv, .int .i64 ((i : Nat) : Int), .int .i64 ((j : Nat) : Int)]) (n := 33) Tryz.func82 rfl (Nat.le_of_ble_eq_true rfl) rfl (fun w0 I0 m0 => ?_)
 refine jc_seq (jc_region (jo_pure rfl (pr_assign rfl) (jo_nil (jq_then (jc_seq ?_)))))
 refine j_open_row (by omega) (fun g1 cap1 hv_ => ?_)
 subst hv_
 refine j_cap (.head _) (fun hcap => ?_)
 refine jc_region (jo_pure rfl (pr_move rfl) (jo_pure rfl (pr_move rfl) (jo_pure rfl (pr_move rfl) (jo_pure rfl (pr_move rfl) (jo_pure rfl (pr_len rfl Tryz.underlying48) ?_)))))
 refine jo_pure rfl (pr_slice_lhm (l := i) (h := j) (m := l.length) rfl rfl rfl rfl Tryz.underlying48 ty_40 (by omega) (by omega) (by omega)) ?_
 refine jo_nil (jq_then (jc_seq (jc_seq (jc_region (jo_pure rfl (pr_move rfl) (jo_pure rfl (pr_move rfl) (jo_pure rfl (pr_eqlN (m := i) (n := j) rfl rfl) ?_)))))))
 refine jo_nil (jq_then (jc_false rfl (decide_eq_false (by omega)) ?_))
 refine jc_skip (jq_then (jc_seq (jc_region (jo_pure rfl (pr_move rfl) (jo_pure rfl (pr_len rfl Tryz.underlying48) ?_)))))
 refine jo_pure rfl (pr_assign rfl) (jo_nil (jq_then (jc_seq ?_)))
 refine jc_heldI (fun (_ : Unit) => [(0, .slice (some ⟨g1, 0, none⟩) (i + (l.length - j)) (cap1)), (7, .int .i64 ((l.length : Nat) : Int))]) (fun _ => [.rowg g1 (cap1) 40 tyE (l.take i ++ l.drop j)]) [] [] mixed (fun lst hlst => ?_) (fun _ => ?_)
 ·subst hlst
  refine ji_take (listed' := #[true, false, false, false, false, false, false, false]) 0 rfl (by kernel_rfl) (by kernel_rfl) (by kernel_rfl) (by kernel_rfl) rfl (pr_move rfl) (fun _ h => Mem.drop1 (h)) rfl ?_
  refine ji_take (listed' := #[true, true, false, false, false, false, false, false]) 1 rfl (by kernel_rfl) (by kernel_rfl) (by kernel_rfl) (by kernel_rfl) rfl (pr_move rfl) (fun _ h => Mem.drop1 (h)) rfl ?_
  refine ji_take (listed' := #[true, true, false, true, false, false, false, false]) 3 rfl (by kernel_rfl) (by kernel_rfl) (by kernel_rfl) (by kernel_rfl) rfl (pr_move rfl) (fun _ h => Mem.drop1 (h)) rfl ?_
  refine ji_take (listed' := #[true, true, false, true, true, false, false, false]) 4 rfl (by kernel_rfl) (by kernel_rfl) (by kernel_rfl) (by kernel_rfl) rfl (pr_move rfl) (fun _ h => Mem.drop1 (h)) rfl ?_
  refine ji_all [2, 5] (by kernel_rfl) (by simp) (fun i hi => ?_)
  simp only [List.mem_cons, List.not_mem_nil, or_false] at hi
  rcases hi with rfl | rfl
  ·refine jh_op rfl ?_
   refine jo_pure rfl (pr_slice_own (h := i) rfl rfl Tryz.underlying48 ty_40 (by omega)) ?_
   refine ji_in (listed' := #[true, true, true, true, true, false, false, false]) (fun _ h => Mem.drop1 (h)) rfl ?_
   refine ji_all [5] (by kernel_rfl) (by simp) (fun i hi => ?_)
   simp only [List.mem_cons, List.not_mem_nil, or_false] at hi
   subst hi
   ·refine jh_op rfl ?_
    refine jo_pure rfl (pr_slice_lo (l := j) rfl rfl Tryz.underlying48 ty_40 (by omega)) ?_
    refine ji_in (listed' := #[true, true, true, true, true, true, false, false]) (fun _ h => Mem.drop1 (h)) rfl ?_
    refine ji_all [6] (by kernel_rfl) (by simp) (fun i hi => ?_)
    simp only [List.mem_cons, List.not_mem_nil, or_false] at hi
    subst hi
    ·refine jh_op rfl ?_
     refine jo_append_in (i := i) (j := j) (len := l.length) rfl rfl Tryz.underlying48 ty_40 (rfl) (by omega) (by omega) rfl ?_
     refine ji_in (listed' := #[true, true, true, true, true, true, true, false]) (fun _ h => Mem.drop1 (h)) rfl ?_
     refine ji_take (listed' := #[true, true, true, true, true, true, true, true]) 7 rfl (by kernel_rfl) (by kernel_rfl) (by kernel_rfl) (by kernel_rfl) rfl (pr_assign rfl) (fun _ h => Mem.drop1 (h)) rfl ?_
     show JI _ _ _ _ _ _ _ _ _
     exact ji_done () (by kernel_rfl) ⟨rfl, rfl, trivial⟩ (fun _ h => h)
  ·refine jh_op rfl ?_
   refine jo_pure rfl (pr_slice_lo (l := j) rfl rfl Tryz.underlying48 ty_40 (by omega)) ?_
   refine ji_in (listed' := #[true, true, false, true, true, true, false, false]) (fun _ h => Mem.drop1 (h)) rfl ?_
   refine ji_all [2] (by kernel_rfl) (by simp) (fun i hi => ?_)
   simp only [List.mem_cons, List.not_mem_nil, or_false] at hi
   subst hi
   ·refine jh_op rfl ?_
    refine jo_pure rfl (pr_slice_own (h := i) rfl rfl Tryz.underlying48 ty_40 (by omega)) ?_
    refine ji_in (listed' := #[true, true, true, true, true, true, false, false]) (fun _ h => Mem.drop1 (h)) rfl ?_
    refine ji_all [6] (by kernel_rfl) (by simp) (fun i hi => ?_)
    simp only [List.mem_cons, List.not_mem_nil, or_false] at hi
    subst hi
    ·refine jh_op rfl ?_
     refine jo_append_in (i := i) (j := j) (len := l.length) rfl rfl Tryz.underlying48 ty_40 (rfl) (by omega) (by omega) rfl ?_
     refine ji_in (listed' := #[true, true, true, true, true, true, true, false]) (fun _ h => Mem.drop1 (h)) rfl ?_
     refine ji_take (listed' := #[true, true, true, true, true, true, true, true]) 7 rfl (by kernel_rfl) (by kernel_rfl) (by kernel_rfl) (by kernel_rfl) rfl (pr_assign rfl) (fun _ h => Mem.drop1 (h)) rfl ?_
     show JI _ _ _ _ _ _ _ _ _
     exact ji_done () (by kernel_rfl) ⟨rfl, rfl, trivial⟩ (fun _ h => h)
 ·skip
  refine jq_then (jc_seq (jc_region (jo_pure rfl (pr_move rfl) (jo_pure rfl (pr_move rfl) (jo_pure rfl (pr_len rfl Tryz.underlying48) ?_)))))
  refine jo_pure rfl (pr_move rfl) (jo_pure rfl (pr_slice_lh (l := i + (l.length - j)) (h := l.length) rfl rfl rfl Tryz.underlying48 ty_40 (by omega) (by omega)) ?_)
  refine jo_clearO rfl Tryz.underlying48 ty_40 rfl rfl (by first | omega | (rw [List.length_append, List.length_take, List.length_drop]; omega)) (by omega) ?_
  refine jo_nil (jq_then (jc_seq (jc_region (jo_pure rfl (pr_move rfl) (jo_pure rfl (pr_assign rfl) (jo_nil (jq_then (jc_ret (j_hide (n := i + (l.length - j)) (by first | omega | (rw [List.length_append, List.length_take, List.length_drop]; omega)) ?_)))))))))
  exact jq_ret1 rfl (.slice (some ⟨g1, 0, none⟩) (i + (l.length - j)) (cap1)) rfl (show (_ : Value) = (.slice (some ⟨g1, 0, none⟩) (i + (l.length - j)) (cap1)) from rfl) (fun _ h => h)

theorem c_table_Put (t : (List (Axs)) × (List Ent)) (tv : Value) (tv2 : Value) (en : Ent) (env : Value) (env2 : Value) (env3 : Value) (env4 : Value) (axes : List (Axs)) (axesv : Value) (limit : Nat) (hax : OkA t.1) (hlt : t.2.length ≤ 1000000000) (hm : ∀ e ∈ t.2, OkE e) (he : OkE en) (hxx : OkA axes) (hlim : limit ≤ 1000000) : Con Tryz.prog 48 #[.agg #[tv, tv2], .agg #[env, env2, env3, str (en.2.2.2.1), env4, str (en.2.2.2.2.2.1), .int .i64 (en.2.2.2.2.2.2.1), .int .i64 (en.2.2.2.2.2.2.2)], axesv, .int .i64 ((limit : Nat) : Int)] [.imm (.list (.pair .str (.list .str))) (tv) (t.1), .imm (.list tyE) (tv2) (t.2), .imm (.list (.list .str)) (env) (en.1), .imm (.list .str) (env2) (en.2.1), .imm (.list .str) (env3) (en.2.2.1), .imm (.list (.pair .str .str)) (env4) (en.2.2.2.2.1), .imm (.list (.pair .str (.list .str))) (axesv) (axes)] (fun r : Value × Value => .agg #[r.1, r.2]) (fun r => [.imm (.list (.pair .str (.list .str))) r.1 (axes), .imm (.list tyE) r.2 ((putT t en axes limit).2)]) := by
 refine con_of_J (args := [.agg #[tv, tv2], .agg #[env, env2, env3, str (en.2.2.2.1), env4, str (en.2.2.2.2.2.1), .int .i64 (en.2.2.2.2.2.2.1), .int .i64 (en.2.2.2.2.2.2.2)], axesv, .int .i64 ((limit : Nat) : Int)]) (n := 44) Tryz.func48 rfl (Nat.le_of_ble_eq_true rfl) rfl (fun w0 I0 m0 => ?_)
 have hfl : (t.2.filter (fun o => !(fun o => replB axes en o) o)).length ≤ t.2.length := List.length_filter_le _ _
 have hfl2 : (t.2.filter (fun o => !replB axes en o)).length ≤ t.2.length := List.length_filter_le _ _
 refine jc_seq (jc_region ?_)
 refine jo_box rfl [tv, tv2] rfl rfl (fun b1 => ?_)
 refine jo_box rfl [env, env2, env3, str (en.2.2.2.1), env4, str (en.2.2.2.2.2.1), .int .i64 (en.2.2.2.2.2.2.1), .int .i64 (en.2.2.2.2.2.2.2)] rfl rfl (fun b2 => ?_)
 refine jo_boxV rfl [axesv] (fun w I m hs => SliceV.cells (imm_slice (.tail _ (.tail _ (.tail _ (.tail _ (.tail _ (.tail _ (.tail _ (.tail _ (.head _))))))))) hs)) rfl (fun b3 => ?_)
 refine jo_alloc ty_50 [.slice none 0 0, .slice none 0 0] rfl rfl (fun b4 => ?_)
 refine jo_nil (jq_then (jc_seq (jc_region (jo_pure rfl (pr_load_box (.agg #[tv, tv2]) rfl ty_50 (.tail _ (.tail _ (.tail _ (.head _)))) rfl (by decide) rfl) ?_))))
 have con1 := c_clone_Table t tv tv2 (by first | omega | exact hax | exact hxx | exact hxx.vals | exact hm | exact he | (have := hxx.len; omega) | (have := hax.len; omega) | (exact fun x hx => by have := hax.vals x hx; omega) | exact hlt | (exact fun o ho => absurd ho List.not_mem_nil) | (simp only [List.length_nil]; omega)) (by first | omega | exact hax | exact hxx | exact hxx.vals | exact hm | exact he | (have := hxx.len; omega) | (have := hax.len; omega) | (exact fun x hx => by have := hax.vals x hx; omega) | exact hlt | (exact fun o ho => absurd ho List.not_mem_nil) | (simp only [List.length_nil]; omega)) (by first | omega | exact hax | exact hxx | exact hxx.vals | exact hm | exact he | (have := hxx.len; omega) | (have := hax.len; omega) | (exact fun x hx => by have := hax.vals x hx; omega) | exact hlt | (exact fun o ho => absurd ho List.not_mem_nil) | (simp only [List.length_nil]; omega))
 refine jo_callp cal_44 con1 (by exact ⟨rfl, trivial⟩) rfl (by exact ⟨⟨rfl, .tail _ (.tail _ (.tail _ (.tail _ (.head _))))⟩, ⟨⟨rfl, .tail _ (.tail _ (.tail _ (.tail _ (.tail _ (.head _)))))⟩, trivial⟩⟩) (fun ⟨r1, r2⟩ => ?_)
 clear con1
 refine jo_alloc ty_50 [.slice none 0 0, .slice none 0 0] rfl rfl (fun b5 => ?_)
 refine jo_storeV rfl rfl ty_50 [r1, r2] (fun _ _ _ _ => rfl) rfl (fun w I m hs => by simp only [List.all_cons, List.all_nil, Bool.and_true, Bool.and_eq_true]; exact ⟨(SliceV.one (imm_slice (.tail _ (.head _)) hs)), (SliceV.one (row_slice (.tail _ (.tail _ (.head _))) hs))⟩) [r1, r2] rfl rfl ?_
 refine jo_nil (jq_then (jc_seq (jc_seq (jc_region (jo_pure rfl (pr_fieldAddr 0 rfl Tryz.underlying50 rfl ty_41 rfl rfl) ?_)))))
 refine jo_pure rfl (pr_load_box (tv) rfl ty_41 (.tail _ (.tail _ (.tail _ (.tail _ (.tail _ (.tail _ (.head _))))))) rfl (by decide) rfl) ?_
 refine jo_pure rfl (pr_load_box (axesv) rfl ty_41 (.tail _ (.tail _ (.tail _ (.tail _ (.head _))))) rfl (by decide) rfl) ?_
 refine jo_callp cal_71 (c_variants_Equal t.1 tv axes axesv (by first | omega | exact hax | exact hxx | exact hxx.vals | exact hm | exact he | (have := hxx.len; omega) | (have := hax.len; omega) | (exact fun x hx => by have := hax.vals x hx; omega) | exact hlt | (exact fun o ho => absurd ho List.not_mem_nil) | (simp only [List.length_nil]; omega)) (by first | omega | exact hax | exact hxx | exact hxx.vals | exact hm | exact he | (have := hxx.len; omega) | (have := hax.len; omega) | (exact fun x hx => by have := hax.vals x hx; omega) | exact hlt | (exact fun o ho => absurd ho List.not_mem_nil) | (simp only [List.length_nil]; omega))) ⟨rfl, rfl, trivial⟩ rfl (⟨⟨rfl, .tail _ (.tail _ (.tail _ (.tail _ (.tail _ (.tail _ (.tail _ (.head _)))))))⟩, ⟨⟨rfl, .tail _ (.tail _ (.tail _ (.tail _ (.tail _ (.tail _ (.tail _ (.tail _ (.tail _ (.tail _ (.tail _ (.tail _ (.tail _ (.head _)))))))))))))⟩, trivial⟩⟩) (fun _ => ?_)
 refine jo_pure rfl (pr_not rfl) ?_
 refine jo_nil (jq_then ?_)
 refine jc_cond rfl (fun h1b => ?_) (fun h1b => ?_)
 ·have h1 := (fun q => id (bt_not q)) h1b
  refine jc_region (jo_pure rfl (pr_load_box (axesv) rfl ty_41 (.tail _ (.tail _ (.tail _ (.tail _ (.head _))))) rfl (by decide) rfl) ?_)
  refine jo_callp cal_66 (c_clone_Axes axes axesv (by first | omega | exact hax | exact hxx | exact hxx.vals | exact hm | exact he | (have := hxx.len; omega) | (have := hax.len; omega) | (exact fun x hx => by have := hax.vals x hx; omega) | exact hlt | (exact fun o ho => absurd ho List.not_mem_nil) | (simp only [List.length_nil]; omega)) (by first | omega | exact hax | exact hxx | exact hxx.vals | exact hm | exact he | (have := hxx.len; omega) | (have := hax.len; omega) | (exact fun x hx => by have := hax.vals x hx; omega) | exact hlt | (exact fun o ho => absurd ho List.not_mem_nil) | (simp only [List.length_nil]; omega))) ⟨rfl, trivial⟩ rfl (⟨⟨rfl, .tail _ (.tail _ (.tail _ (.tail _ (.tail _ (.tail _ (.tail _ (.tail _ (.tail _ (.tail _ (.tail _ (.tail _ (.tail _ (.head _)))))))))))))⟩, trivial⟩) (fun r3 => ?_)
  refine jo_pure rfl (pr_buildV [(0, r3)] [r3, .slice none 0 0] (fun a hf => by simp only [List.map_toArray, List.map_cons, List.map_nil, hf.ev (show ev _ (.tmp 18) = some (r3) from rfl)]) (fun w I m hs => by obtain ⟨_, _, _, e0⟩ := imm_slice (.head _) hs; rw [e0]; kernel_rfl)) ?_
  refine j_pull1 (jo_storeV rfl rfl ty_50 [r3, .slice none 0 0] (fun _ _ _ _ => rfl) rfl (fun w I m hs => by simp only [List.all_cons, List.all_nil, Bool.and_true, Bool.and_eq_true]; exact ⟨(SliceV.one (imm_slice (.tail _ (.head _)) hs)), rfl⟩) [r3, .slice none 0 0] rfl rfl ?_)
  refine jo_nil (jq_then (jc_seq (jc_region (jo_pure rfl (pr_fieldAddr 1 rfl Tryz.underlying50 rfl ty_48 rfl rfl) ?_))))
  refine jo_pure rfl (pr_load_box (.slice none 0 0) rfl ty_48 (.head _) rfl (by decide) rfl) ?_
  refine jo_pure rfl (pr_makeFunc (fs := #[]) (cs := #[.pointer (some ⟨b3, 0, none⟩), .pointer (some ⟨b2, 0, none⟩)]) (fun a hf => by simp) (fun a hf => by simp only [List.map_toArray, List.map_cons, List.map_nil, hf.ev (show ev _ (.tmp 6) = some (.pointer (some ⟨b3, 0, none⟩)) from rfl), hf.ev (show ev _ (.tmp 5) = some (.pointer (some ⟨b2, 0, none⟩)) from rfl)])) ?_
  refine j_nil_row 40 tyE ?_
  refine j_pull6 ?_
  refine j_pub_box ?_
  refine j_pull7 ?_
  refine j_pub_box ?_
  refine j_pull15 ?_
  refine j_dup rfl ?_
  refine j_pull3 (j_dup rfl ?_)
  refine j_pull14 ?_
  refine j_dup rfl ?_
  refine j_pull16 ?_
  refine j_dup rfl ?_
  refine j_pull18 ?_
  refine j_dup rfl ?_
  refine j_pull20 ?_
  refine j_dup rfl ?_
  refine j_pull12 ?_
  refine j_dup rfl ?_
  refine j_pull2 (j_pull4 ?_)
  refine j_pull6 ?_
  refine j_pull8 ?_
  refine j_pull10 ?_
  refine j_pull12 ?_
  refine j_pull14 ?_
  refine jo_callm [.ibox b2 40 [env, env2, env3, str (en.2.2.2.1), env4, str (en.2.2.2.2.2.1), .int .i64 (en.2.2.2.2.2.2.1), .int .i64 (en.2.2.2.2.2.2.2)], .imm (.list (.pair .str .str)) (env4) (en.2.2.2.2.1), .imm (.list .str) (env3) (en.2.2.1), .imm (.list .str) (env2) (en.2.1), .imm (.list (.list .str)) (env) (en.1), .ibox b3 41 [axesv], .imm (.list (.pair .str (.list .str))) (axesv) (axes), .box b5 50 [r3, .slice none 0 0], .imm (.list (.pair .str (.list .str))) (r3) (axes), .imm (.list (.pair .str (.list .str))) (r1) (t.1), .row (r2) 40 tyE (t.2), .box b4 50 [.slice none 0 0, .slice none 0 0], .box b1 50 [tv, tv2], .imm (.list (.pair .str (.list .str))) (tv) (t.1), .imm (.list tyE) (tv2) (t.2)] rfl cal_72 (c_deleteFunc_entry [] (.slice none 0 0) axes axesv b3 en env env2 env3 env4 b2 (by first | omega | exact hax | exact hxx | exact hxx.vals | exact hm | exact he | (have := hxx.len; omega) | (have := hax.len; omega) | (exact fun x hx => by have := hax.vals x hx; omega) | exact hlt | (exact fun o ho => absurd ho List.not_mem_nil) | (simp only [List.length_nil]; omega)) (by first | omega | exact hax | exact hxx | exact hxx.vals | exact hm | exact he | (have := hxx.len; omega) | (have := hax.len; omega) | (exact fun x hx => by have := hax.vals x hx; omega) | exact hlt | (exact fun o ho => absurd ho List.not_mem_nil) | (simp only [List.length_nil]; omega)) (by first | omega | exact hax | exact hxx | exact hxx.vals | exact hm | exact he | (have := hxx.len; omega) | (have := hax.len; omega) | (exact fun x hx => by have := hax.vals x hx; omega) | exact hlt | (exact fun o ho => absurd ho List.not_mem_nil) | (simp only [List.length_nil]; omega)) (by first | omega | exact hax | exact hxx | exact hxx.vals | exact hm | exact he | (have := hxx.len; omega) | (have := hax.len; omega) | (exact fun x hx => by have := hax.vals x hx; omega) | exact hlt | (exact fun o ho => absurd ho List.not_mem_nil) | (simp only [List.length_nil]; omega))) ⟨rfl, rfl, trivial⟩ rfl (fun r4 => ?_)
  refine jo_pure rfl (pr_fieldAddr 1 rfl Tryz.underlying50 rfl ty_48 rfl rfl) ?_
  refine j_pull8 ?_
  refine jo_storeV rfl rfl ty_48 [r4] (fun w I m hs => (SliceV.cells (row_slice (.tail _ (.head _)) hs))) rfl (fun w I m hs => by simp only [List.all_cons, List.all_nil, Bool.and_true, Bool.and_eq_true]; exact (SliceV.one (row_slice (.tail _ (.head _)) hs))) [r3, r4] rfl rfl ?_
  refine jo_nil (jq_then (jc_seq (j_pull1 ?_)))
  refine jc_heldI (fun (iq : Value × Value × Value × Value × Value) => [(3, .int .i64 ((limit : Nat) : Int)), (8, .pointer (some ⟨b4, 0, none⟩)), (9, .pointer (some ⟨b5, 0, none⟩))]) (fun iq => [.box b5 50 [r3, iq.1], .row (iq.1) 40 tyE (([].filter (fun o => !(fun o => replB axes en o) o)) ++ [en]), .imm (.list (.list .str)) (iq.2.1) (en.1), .imm (.list .str) (iq.2.2.1) (en.2.1), .imm (.list .str) (iq.2.2.2.1) (en.2.2.1), .imm (.list (.pair .str .str)) (iq.2.2.2.2) (en.2.2.2.2.1), .ibox b2 40 [env, env2, env3, str (en.2.2.2.1), env4, str (en.2.2.2.2.2.1), .int .i64 (en.2.2.2.2.2.2.1), .int .i64 (en.2.2.2.2.2.2.2)], .imm (.list (.pair .str .str)) (env4) (en.2.2.2.2.1), .imm (.list .str) (env3) (en.2.2.1), .imm (.list .str) (env2) (en.2.1), .imm (.list (.list .str)) (env) (en.1), .ibox b3 41 [axesv], .imm (.list (.pair .str (.list .str))) (axesv) (axes), .imm (.list (.pair .str (.list .str))) (r3) (axes), .imm (.list (.pair .str (.list .str))) (r1) (t.1), .row (r2) 40 tyE (t.2), .box b4 50 [.slice none 0 0, .slice none 0 0], .box b1 50 [tv, tv2], .imm (.list (.pair .str (.list .str))) (tv) (t.1), .imm (.list tyE) (tv2) (t.2)]) [.box b5 50 [r3, r4], .ibox b2 40 [env, env2, env3, str (en.2.2.2.1), env4, str (en.2.2.2.2.2.1), .int .i64 (en.2.2.2.2.2.2.1), .int .i64 (en.2.2.2.2.2.2.2)], .imm (.list (.pair .str .str)) (env4) (en.2.2.2.2.1), .imm (.list .str) (env3) (en.2.2.1), .imm (.list .str) (env2) (en.2.1), .imm (.list (.list .str)) (env) (en.1), .ibox b3 41 [axesv], .imm (.list (.pair .str (.list .str))) (axesv) (axes), .imm (.list (.pair .str (.list .str))) (r3) (axes), .imm (.list (.pair .str (.list .str))) (r1) (t.1), .row (r2) 40 tyE (t.2), .box b4 50 [.slice none 0 0, .slice none 0 0], .box b1 50 [tv, tv2], .imm (.list (.pair .str (.list .str))) (tv) (t.1), .imm (.list tyE) (tv2) (t.2)] [7] mixed (fun lst hlst => ?_) (fun ⟨v1, r5, r6, r7, r8⟩ => ?_)
  ·subst hlst
   refine ji_take (listed' := #[true, false, false, false, false, false, false, false]) 0 rfl (by kernel_rfl) (by kernel_rfl) (by kernel_rfl) (by kernel_rfl) rfl (pr_fieldAddr 1 rfl Tryz.underlying50 rfl ty_48 rfl rfl) (fun _ h => Mem.drop1 (h)) rfl ?_
   refine ji_take (listed' := #[true, true, false, false, false, false, false, false]) 1 rfl (by kernel_rfl) (by kernel_rfl) (by kernel_rfl) (by kernel_rfl) rfl (pr_load_box (r4) rfl ty_48 (.head _) rfl (by decide) rfl) (fun _ h => Mem.drop1 (h)) rfl ?_
   refine ji_take (listed' := #[true, true, true, false, false, false, false, false]) 2 rfl (by kernel_rfl) (by kernel_rfl) (by kernel_rfl) (by kernel_rfl) rfl (pr_load_ibox (.agg #[env, env2, env3, str (en.2.2.2.1), env4, str (en.2.2.2.2.2.1), .int .i64 (en.2.2.2.2.2.2.1), .int .i64 (en.2.2.2.2.2.2.2)]) rfl ty_40 (.tail _ (.head _)) rfl (by decide) rfl) (fun _ h => Mem.drop1 (h)) rfl ?_
   refine ji_all [3] (by kernel_rfl) (by simp) (fun i hi => ?_)
   simp only [List.mem_cons, List.not_mem_nil, or_false] at hi
   subst hi
   ·refine jh_op rfl ?_
    have con2 := c_clone_Entry en env env2 env3 env4 (by first | omega | exact hax | exact hxx | exact hxx.vals | exact hm | exact he | (have := hxx.len; omega) | (have := hax.len; omega) | (exact fun x hx => by have := hax.vals x hx; omega) | exact hlt | (exact fun o ho => absurd ho List.not_mem_nil) | (simp only [List.length_nil]; omega))
    refine jo_callp cal_60 con2 (by exact ⟨rfl, trivial⟩) rfl (by exact ⟨⟨rfl, .tail _ (.tail _ (.tail _ (.tail _ (.tail _ (.tail _ (.head _))))))⟩, ⟨⟨rfl, .tail _ (.tail _ (.tail _ (.tail _ (.tail _ (.head _)))))⟩, ⟨⟨rfl, .tail _ (.tail _ (.tail _ (.tail _ (.head _))))⟩, ⟨⟨rfl, .tail _ (.tail _ (.tail _ (.head _)))⟩, trivial⟩⟩⟩⟩) (fun ⟨r5, r6, r7, r8⟩ => ?_)
    clear con2
    refine ji_in (listed' := #[true, true, true, true, false, false, false, false]) (fun _ h => Mem.drop1 (Mem.drop1 (Mem.drop1 (Mem.drop1 (Mem.drop1 (h)))))) rfl ?_
    refine ji_all [4] (by kernel_rfl) (by simp) (fun i hi => ?_)
    simp only [List.mem_cons, List.not_mem_nil, or_false] at hi
    subst hi
    ·refine jh_op rfl ?_
     refine jo_buildSliceL (t := tyE) [en] [.agg #[r5, r6, r7, str (en.2.2.2.1), r8, str (en.2.2.2.2.2.1), .int .i64 (en.2.2.2.2.2.2.1), .int .i64 (en.2.2.2.2.2.2.2)]] [[r5, r6, r7, str (en.2.2.2.1), r8, str (en.2.2.2.2.2.1), .int .i64 (en.2.2.2.2.2.2.1), .int .i64 (en.2.2.2.2.2.2.2)]] (fun a hf => by simp only [List.zipIdx_cons, List.zipIdx_nil, List.map_toArray, List.map_cons, List.map_nil, hf.ev (show ev _ (.tmp 28) = some (.agg #[r5, r6, r7, str (en.2.2.2.1), r8, str (en.2.2.2.2.2.1), .int .i64 (en.2.2.2.2.2.2.1), .int .i64 (en.2.2.2.2.2.2.2)]) from rfl)] <;> rfl) rfl ⟨⟨[r5], [r6, r7, str (en.2.2.2.1), r8, str (en.2.2.2.2.2.1), .int .i64 (en.2.2.2.2.2.2.1), .int .i64 (en.2.2.2.2.2.2.2)], rfl, ⟨r5, rfl, .head _⟩, ⟨[r6], [r7, str (en.2.2.2.1), r8, str (en.2.2.2.2.2.1), .int .i64 (en.2.2.2.2.2.2.1), .int .i64 (en.2.2.2.2.2.2.2)], rfl, ⟨r6, rfl, .tail _ (.head _)⟩, ⟨[r7], [str (en.2.2.2.1), r8, str (en.2.2.2.2.2.1), .int .i64 (en.2.2.2.2.2.2.1), .int .i64 (en.2.2.2.2.2.2.2)], rfl, ⟨r7, rfl, .tail _ (.tail _ (.head _))⟩, ⟨[str (en.2.2.2.1)], [r8, str (en.2.2.2.2.2.1), .int .i64 (en.2.2.2.2.2.2.1), .int .i64 (en.2.2.2.2.2.2.2)], rfl, rfl, ⟨[r8], [str (en.2.2.2.2.2.1), .int .i64 (en.2.2.2.2.2.2.1), .int .i64 (en.2.2.2.2.2.2.2)], rfl, ⟨r8, rfl, .tail _ (.tail _ (.tail _ (.head _)))⟩, ⟨[str (en.2.2.2.2.2.1)], [.int .i64 (en.2.2.2.2.2.2.1), .int .i64 (en.2.2.2.2.2.2.2)], rfl, rfl, ⟨[.int .i64 (en.2.2.2.2.2.2.1)], [.int .i64 (en.2.2.2.2.2.2.2)], rfl, rfl, rfl⟩⟩⟩⟩⟩⟩⟩, trivial⟩ Tryz.underlying48 ty_40 rfl rfl rfl rfl (fun g1 => ?_)
     refine ji_in (listed' := #[true, true, true, true, true, false, false, false]) (fun _ h => Mem.drop1 (Mem.drop1 (Mem.drop1 (Mem.drop1 (Mem.drop1 (Mem.drop1 (h))))))) rfl ?_
     refine ji_all [5] (by kernel_rfl) (by simp) (fun i hi => ?_)
     simp only [List.mem_cons, List.not_mem_nil, or_false] at hi
     subst hi
     ·refine jh_op rfl ?_
      refine j_pull5 ?_
      refine jo_append rfl rfl Tryz.underlying48 ty_40 rfl (by simp only [List.length_append, List.length_cons, List.length_nil, List.filter_nil, maxLen]; first | omega | exact Nat.le_trans (Nat.add_le_add_right (List.length_filter_le _ _) _) (by omega)) (by simp only [List.length_append, List.length_cons, List.length_nil, List.filter_nil]; first | omega | exact Nat.le_trans (Nat.mul_le_mul_right _ (Nat.add_le_add_right (List.length_filter_le _ _) _)) (by omega)) rfl (fun v1 => ?_)
      refine ji_in (listed' := #[true, true, true, true, true, true, false, false]) (fun _ h => Mem.drop1 (Mem.drop1 (Mem.drop1 (Mem.drop1 (Mem.drop1 (h)))))) rfl ?_
      refine ji_take (listed' := #[true, true, true, true, true, true, true, false]) 6 rfl (by kernel_rfl) (by kernel_rfl) (by kernel_rfl) (by kernel_rfl) rfl (pr_fieldAddr 1 rfl Tryz.underlying50 rfl ty_48 rfl rfl) (fun _ h => Mem.drop1 (Mem.drop1 (Mem.drop1 (Mem.drop1 (Mem.drop1 (h)))))) rfl ?_
      refine ji_all [7] (by kernel_rfl) (by simp) (fun i hi => ?_)
      simp only [List.mem_cons, List.not_mem_nil, or_false] at hi
      subst hi
      ·refine jh_op rfl ?_
       refine j_pull5 ?_
       refine jo_storeV rfl rfl ty_48 [v1] (fun w I m hs => (SliceV.cells (row_slice (.tail _ (.head _)) hs))) rfl (fun w I m hs => by simp only [List.all_cons, List.all_nil, Bool.and_true, Bool.and_eq_true]; exact (SliceV.one (row_slice (.tail _ (.head _)) hs))) [r3, v1] rfl rfl ?_
       refine ji_in2 (listed' := #[true, true, true, true, true, true, true, true]) (by kernel_rfl) rfl ?_
       refine j_pull19 ?_
       refine j_pull19 ?_
       refine j_pull19 ?_
       refine j_pull19 ?_
       refine j_pull19 ?_
       refine j_pull19 ?_
       refine j_pull19 ?_
       refine j_pull19 ?_
       refine j_pull19 ?_
       refine j_pull19 ?_
       refine j_pull19 ?_
       refine j_pull19 ?_
       refine j_pull19 ?_
       refine j_pull19 ?_
       refine j_pull19 ?_
       refine j_pull19 ?_
       refine j_pull19 ?_
       refine j_pull19 ?_
       refine j_pull19 ?_
       refine j_pull19 ?_
       show JI _ _ _ _ _ _ _ _ _
       exact ji_done ⟨v1, r5, r6, r7, r8⟩ (by kernel_rfl) ⟨rfl, rfl, rfl, trivial⟩ (fun _ h => h)
  ·skip
   refine jq_then (jc_seq (jc_region (jo_pure rfl (pr_fieldAddr 1 rfl Tryz.underlying50 rfl ty_48 rfl rfl) ?_)))
   refine jo_pure rfl (pr_load_box (v1) rfl ty_48 (.head _) rfl (by decide) rfl) ?_
   refine jo_pure rfl (pr_fieldAddr 1 rfl Tryz.underlying50 rfl ty_48 rfl rfl) ?_
   refine jo_pure rfl (pr_load_box (v1) rfl ty_48 (.head _) rfl (by decide) rfl) ?_
   refine jo_pure rfl (pr_len_row rfl (.tail _ (.head _)) Tryz.underlying48) ?_
   refine jo_pure rfl (pr_move rfl) (jo_pure rfl (pr_maxN (m := limit) (n := 0) rfl rfl) ?_)
   refine jo_pure rfl (pr_sub (m := (((([].filter (fun o => !(fun o => replB axes en o) o)) ++ [en]).length : Nat) : Int)) (n := ((max limit 0 : Nat) : Int)) rfl rfl (by simp only [List.length_append, List.length_cons, List.length_nil, List.filter_nil]; omega)) ?_
   refine jo_pure rfl (pr_max_sub (m := (([].filter (fun o => !(fun o => replB axes en o) o)) ++ [en]).length) (n := max limit 0) rfl rfl) ?_
   refine j_pull1 (j_pub_row (j_resl (l := ((([].filter (fun o => !(fun o => replB axes en o) o)) ++ [en]).length) - (max limit 0)) (h := (([].filter (fun o => !(fun o => replB axes en o) o)) ++ [en]).length) (.head _) (by simp only [List.length_append, List.length_cons, List.length_nil]; omega) (by omega) ?_))
   refine jo_pure rfl (pr_slice_imm (l := ((([].filter (fun o => !(fun o => replB axes en o) o)) ++ [en]).length) - (max limit 0)) (h := (([].filter (fun o => !(fun o => replB axes en o) o)) ++ [en]).length) rfl (.tail _ (.head _)) Tryz.underlying48 ty_40 ⟨_, rfl⟩ rfl (by simp only [List.length_append, List.length_cons, List.length_nil]; omega) (by omega)) ?_
   refine jo_pure rfl (pr_fieldAddr 1 rfl Tryz.underlying50 rfl ty_48 rfl rfl) ?_
   refine j_pull2 (jo_storeV rfl rfl ty_48 [resl (v1) (((([].filter (fun o => !(fun o => replB axes en o) o)) ++ [en]).length) - (max limit 0)) ((([].filter (fun o => !(fun o => replB axes en o) o)) ++ [en]).length) 8] (fun w I m hs => (SliceV.cells (imm_slice (.tail _ (.head _)) hs))) rfl (fun w I m hs => by simp only [List.all_cons, List.all_nil, Bool.and_true, Bool.and_eq_true]; exact (SliceV.one (imm_slice (.tail _ (.head _)) hs))) [r3, resl (v1) (((([].filter (fun o => !(fun o => replB axes en o) o)) ++ [en]).length) - (max limit 0)) ((([].filter (fun o => !(fun o => replB axes en o) o)) ++ [en]).length) 8] rfl rfl ?_)
   refine jo_nil (jq_then (jc_seq (jc_region (jo_pure rfl (pr_load_box (.agg #[r3, resl (v1) (((([].filter (fun o => !(fun o => replB axes en o) o)) ++ [en]).length) - (max limit 0)) ((([].filter (fun o => !(fun o => replB axes en o) o)) ++ [en]).length) 8]) rfl ty_50 (.head _) rfl (by decide) rfl) ?_))))
   refine j_pull17 ?_
   refine jo_storeV rfl rfl ty_50 [r3, resl (v1) (((([].filter (fun o => !(fun o => replB axes en o) o)) ++ [en]).length) - (max limit 0)) ((([].filter (fun o => !(fun o => replB axes en o) o)) ++ [en]).length) 8] (fun _ _ _ _ => rfl) rfl (fun w I m hs => by simp only [List.all_cons, List.all_nil, Bool.and_true, Bool.and_eq_true]; exact ⟨(SliceV.one (imm_slice (.tail _ (.tail _ (.tail _ (.tail _ (.tail _ (.tail _ (.tail _ (.tail _ (.tail _ (.tail _ (.tail _ (.tail _ (.tail _ (.tail _ (.tail _ (.head _)))))))))))))))) hs)), (SliceV.one (imm_slice (.tail _ (.tail _ (.head _))) hs))⟩) [r3, resl (v1) (((([].filter (fun o => !(fun o => replB axes en o) o)) ++ [en]).length) - (max limit 0)) ((([].filter (fun o => !(fun o => replB axes en o) o)) ++ [en]).length) 8] rfl rfl ?_
   refine jo_nil (jq_then (jc_ret (j_pull1 (j_drop (j_pull2 (j_drop (j_pull2 (j_drop (j_pull2 (j_drop (j_pull2 (j_drop (j_pull2 (j_drop (j_pull2 (j_drop (j_pull2 (j_drop (j_pull2 (j_drop (j_pull2 (j_drop (j_pull2 ?_)))))))))))))))))))))))
   refine j_drop (j_pull2 (j_drop (j_pull2 (j_drop (j_pull3 (j_drop (j_pull3 (j_drop (j_pull3 (j_drop (j_pull3 (j_drop (j_pull3 (j_drop (j_pull1 (j_pull2 ?_))))))))))))))))
   exact jq_retc rfl (r3, resl (v1) (((([].filter (fun o => !(fun o => replB axes en o) o)) ++ [en]).length) - (max limit 0)) ((([].filter (fun o => !(fun o => replB axes en o) o)) ++ [en]).length) 8) (resV_box (.agg #[r3, resl (v1) (((([].filter (fun o => !(fun o => replB axes en o) o)) ++ [en]).length) - (max limit 0)) ((([].filter (fun o => !(fun o => replB axes en o) o)) ++ [en]).length) 8]) rfl ty_50 (.tail _ (.tail _ (.head _))) rfl (by decide) rfl) (show (.agg #[r3, (resl (v1) (((([].filter (fun o => !(fun o => replB axes en o) o)) ++ [en]).length) - (max limit 0)) ((([].filter (fun o => !(fun o => replB axes en o) o)) ++ [en]).length) 8)] : Value) = (.agg #[r3, resl (v1) (((([].filter (fun o => !(fun o => replB axes en o) o)) ++ [en]).length) - (max limit 0)) ((([].filter (fun o => !(fun o => replB axes en o) o)) ++ [en]).length) 8]) from rfl) (fun w h => (fun h => by rw [put_ne (of_decide_eq_false h1) rfl]; exact h) (Mem.front (As := [.imm (.list (.pair .str (.list .str))) (r3) (axes), .imm (.list tyE) (resl (v1) (((([].filter (fun o => !(fun o => replB axes en o) o)) ++ [en]).length) - (max limit 0)) ((([].filter (fun o => !(fun o => replB axes en o) o)) ++ [en]).length) 8) (((([].filter (fun o => !(fun o => replB axes en o) o)) ++ [en]).take ((([].filter (fun o => !(fun o => replB axes en o) o)) ++ [en]).length)).drop (((([].filter (fun o => !(fun o => replB axes en o) o)) ++ [en]).length) - (max limit 0)))]) h))
 ·have h1 := (fun q => id (bf_not q)) h1b
  refine jc_skip (jq_then (jc_seq (jc_region (jo_pure rfl (pr_fieldAddr 1 rfl Tryz.underlying50 rfl ty_48 rfl rfl) ?_))))
  refine jo_pure rfl (pr_load_box (r2) rfl ty_48 (.head _) rfl (by decide) rfl) ?_
  refine jo_pure rfl (pr_makeFunc (fs := #[]) (cs := #[.pointer (some ⟨b3, 0, none⟩), .pointer (some ⟨b2, 0, none⟩)]) (fun a hf => by simp) (fun a hf => by simp only [List.map_toArray, List.map_cons, List.map_nil, hf.ev (show ev _ (.tmp 6) = some (.pointer (some ⟨b3, 0, none⟩)) from rfl), hf.ev (show ev _ (.tmp 5) = some (.pointer (some ⟨b2, 0, none⟩)) from rfl)])) ?_
  refine j_pull4 ?_
  refine j_pub_box ?_
  refine j_pull5 ?_
  refine j_pub_box ?_
  refine j_pull13 ?_
  refine j_dup rfl ?_
  refine j_pull3 (j_dup rfl ?_)
  refine j_pull12 ?_
  refine j_dup rfl ?_
  refine j_pull14 ?_
  refine j_dup rfl ?_
  refine j_pull16 ?_
  refine j_dup rfl ?_
  refine j_pull18 ?_
  refine j_dup rfl ?_
  refine j_pull12 ?_
  refine j_dup rfl ?_
  refine j_pull2 (j_pull4 ?_)
  refine j_pull6 ?_
  refine j_pull8 ?_
  refine j_pull10 ?_
  refine j_pull12 ?_
  refine j_pull16 ?_
  refine jo_callm [.ibox b2 40 [env, env2, env3, str (en.2.2.2.1), env4, str (en.2.2.2.2.2.1), .int .i64 (en.2.2.2.2.2.2.1), .int .i64 (en.2.2.2.2.2.2.2)], .imm (.list (.pair .str .str)) (env4) (en.2.2.2.2.1), .imm (.list .str) (env3) (en.2.2.1), .imm (.list .str) (env2) (en.2.1), .imm (.list (.list .str)) (env) (en.1), .ibox b3 41 [axesv], .imm (.list (.pair .str (.list .str))) (axesv) (axes), .box b5 50 [r1, r2], .imm (.list (.pair .str (.list .str))) (r1) (t.1), .box b4 50 [.slice none 0 0, .slice none 0 0], .box b1 50 [tv, tv2], .imm (.list (.pair .str (.list .str))) (tv) (t.1), .imm (.list tyE) (tv2) (t.2)] rfl cal_72 (c_deleteFunc_entry t.2 r2 axes axesv b3 en env env2 env3 env4 b2 (by first | omega | exact hax | exact hxx | exact hxx.vals | exact hm | exact he | (have := hxx.len; omega) | (have := hax.len; omega) | (exact fun x hx => by have := hax.vals x hx; omega) | exact hlt | (exact fun o ho => absurd ho List.not_mem_nil) | (simp only [List.length_nil]; omega)) (by first | omega | exact hax | exact hxx | exact hxx.vals | exact hm | exact he | (have := hxx.len; omega) | (have := hax.len; omega) | (exact fun x hx => by have := hax.vals x hx; omega) | exact hlt | (exact fun o ho => absurd ho List.not_mem_nil) | (simp only [List.length_nil]; omega)) (by first | omega | exact hax | exact hxx | exact hxx.vals | exact hm | exact he | (have := hxx.len; omega) | (have := hax.len; omega) | (exact fun x hx => by have := hax.vals x hx; omega) | exact hlt | (exact fun o ho => absurd ho List.not_mem_nil) | (simp only [List.length_nil]; omega)) (by first | omega | exact hax | exact hxx | exact hxx.vals | exact hm | exact he | (have := hxx.len; omega) | (have := hax.len; omega) | (exact fun x hx => by have := hax.vals x hx; omega) | exact hlt | (exact fun o ho => absurd ho List.not_mem_nil) | (simp only [List.length_nil]; omega))) ⟨rfl, rfl, trivial⟩ rfl (fun r9 => ?_)
  refine jo_pure rfl (pr_fieldAddr 1 rfl Tryz.underlying50 rfl ty_48 rfl rfl) ?_
  refine j_pull8 ?_
  refine jo_storeV rfl rfl ty_48 [r9] (fun w I m hs => (SliceV.cells (row_slice (.tail _ (.head _)) hs))) rfl (fun w I m hs => by simp only [List.all_cons, List.all_nil, Bool.and_true, Bool.and_eq_true]; exact (SliceV.one (row_slice (.tail _ (.head _)) hs))) [r1, r9] rfl rfl ?_
  refine jo_nil (jq_then (jc_seq (j_pull1 ?_)))
  refine jc_heldI (fun (iq : Value × Value × Value × Value × Value) => [(3, .int .i64 ((limit : Nat) : Int)), (8, .pointer (some ⟨b4, 0, none⟩)), (9, .pointer (some ⟨b5, 0, none⟩))]) (fun iq => [.box b5 50 [r1, iq.1], .row (iq.1) 40 tyE ((t.2.filter (fun o => !(fun o => replB axes en o) o)) ++ [en]), .imm (.list (.list .str)) (iq.2.1) (en.1), .imm (.list .str) (iq.2.2.1) (en.2.1), .imm (.list .str) (iq.2.2.2.1) (en.2.2.1), .imm (.list (.pair .str .str)) (iq.2.2.2.2) (en.2.2.2.2.1), .ibox b2 40 [env, env2, env3, str (en.2.2.2.1), env4, str (en.2.2.2.2.2.1), .int .i64 (en.2.2.2.2.2.2.1), .int .i64 (en.2.2.2.2.2.2.2)], .imm (.list (.pair .str .str)) (env4) (en.2.2.2.2.1), .imm (.list .str) (env3) (en.2.2.1), .imm (.list .str) (env2) (en.2.1), .imm (.list (.list .str)) (env) (en.1), .ibox b3 41 [axesv], .imm (.list (.pair .str (.list .str))) (axesv) (axes), .imm (.list (.pair .str (.list .str))) (r1) (t.1), .box b4 50 [.slice none 0 0, .slice none 0 0], .box b1 50 [tv, tv2], .imm (.list (.pair .str (.list .str))) (tv) (t.1), .imm (.list tyE) (tv2) (t.2)]) [.box b5 50 [r1, r9], .ibox b2 40 [env, env2, env3, str (en.2.2.2.1), env4, str (en.2.2.2.2.2.1), .int .i64 (en.2.2.2.2.2.2.1), .int .i64 (en.2.2.2.2.2.2.2)], .imm (.list (.pair .str .str)) (env4) (en.2.2.2.2.1), .imm (.list .str) (env3) (en.2.2.1), .imm (.list .str) (env2) (en.2.1), .imm (.list (.list .str)) (env) (en.1), .ibox b3 41 [axesv], .imm (.list (.pair .str (.list .str))) (axesv) (axes), .imm (.list (.pair .str (.list .str))) (r1) (t.1), .box b4 50 [.slice none 0 0, .slice none 0 0], .box b1 50 [tv, tv2], .imm (.list (.pair .str (.list .str))) (tv) (t.1), .imm (.list tyE) (tv2) (t.2)] [7] mixed (fun lst hlst => ?_) (fun ⟨v2, r10, r11, r12, r13⟩ => ?_)
  ·subst hlst
   refine ji_take (listed' := #[true, false, false, false, false, false, false, false]) 0 rfl (by kernel_rfl) (by kernel_rfl) (by kernel_rfl) (by kernel_rfl) rfl (pr_fieldAddr 1 rfl Tryz.underlying50 rfl ty_48 rfl rfl) (fun _ h => Mem.drop1 (h)) rfl ?_
   refine ji_take (listed' := #[true, true, false, false, false, false, false, false]) 1 rfl (by kernel_rfl) (by kernel_rfl) (by kernel_rfl) (by kernel_rfl) rfl (pr_load_box (r9) rfl ty_48 (.head _) rfl (by decide) rfl) (fun _ h => Mem.drop1 (h)) rfl ?_
   refine ji_take (listed' := #[true, true, true, false, false, false, false, false]) 2 rfl (by kernel_rfl) (by kernel_rfl) (by kernel_rfl) (by kernel_rfl) rfl (pr_load_ibox (.agg #[env, env2, env3, str (en.2.2.2.1), env4, str (en.2.2.2.2.2.1), .int .i64 (en.2.2.2.2.2.2.1), .int .i64 (en.2.2.2.2.2.2.2)]) rfl ty_40 (.tail _ (.head _)) rfl (by decide) rfl) (fun _ h => Mem.drop1 (h)) rfl ?_
   refine ji_all [3] (by kernel_rfl) (by simp) (fun i hi => ?_)
   simp only [List.mem_cons, List.not_mem_nil, or_false] at hi
   subst hi
   ·refine jh_op rfl ?_
    have con3 := c_clone_Entry en env env2 env3 env4 (by first | omega | exact hax | exact hxx | exact hxx.vals | exact hm | exact he | (have := hxx.len; omega) | (have := hax.len; omega) | (exact fun x hx => by have := hax.vals x hx; omega) | exact hlt | (exact fun o ho => absurd ho List.not_mem_nil) | (simp only [List.length_nil]; omega))
    refine jo_callp cal_60 con3 (by exact ⟨rfl, trivial⟩) rfl (by exact ⟨⟨rfl, .tail _ (.tail _ (.tail _ (.tail _ (.tail _ (.tail _ (.head _))))))⟩, ⟨⟨rfl, .tail _ (.tail _ (.tail _ (.tail _ (.tail _ (.head _)))))⟩, ⟨⟨rfl, .tail _ (.tail _ (.tail _ (.tail _ (.head _))))⟩, ⟨⟨rfl, .tail _ (.tail _ (.tail _ (.head _)))⟩, trivial⟩⟩⟩⟩) (fun ⟨r10, r11, r12, r13⟩ => ?_)
    clear con3
    refine ji_in (listed' := #[true, true, true, true, false, false, false, false]) (fun _ h => Mem.drop1 (Mem.drop1 (Mem.drop1 (Mem.drop1 (Mem.drop1 (h)))))) rfl ?_
    refine ji_all [4] (by kernel_rfl) (by simp) (fun i hi => ?_)
    simp only [List.mem_cons, List.not_mem_nil, or_false] at hi
    subst hi
    ·refine jh_op rfl ?_
     refine jo_buildSliceL (t := tyE) [en] [.agg #[r10, r11, r12, str (en.2.2.2.1), r13, str (en.2.2.2.2.2.1), .int .i64 (en.2.2.2.2.2.2.1), .int .i64 (en.2.2.2.2.2.2.2)]] [[r10, r11, r12, str (en.2.2.2.1), r13, str (en.2.2.2.2.2.1), .int .i64 (en.2.2.2.2.2.2.1), .int .i64 (en.2.2.2.2.2.2.2)]] (fun a hf => by simp only [List.zipIdx_cons, List.zipIdx_nil, List.map_toArray, List.map_cons, List.map_nil, hf.ev (show ev _ (.tmp 28) = some (.agg #[r10, r11, r12, str (en.2.2.2.1), r13, str (en.2.2.2.2.2.1), .int .i64 (en.2.2.2.2.2.2.1), .int .i64 (en.2.2.2.2.2.2.2)]) from rfl)] <;> rfl) rfl ⟨⟨[r10], [r11, r12, str (en.2.2.2.1), r13, str (en.2.2.2.2.2.1), .int .i64 (en.2.2.2.2.2.2.1), .int .i64 (en.2.2.2.2.2.2.2)], rfl, ⟨r10, rfl, .head _⟩, ⟨[r11], [r12, str (en.2.2.2.1), r13, str (en.2.2.2.2.2.1), .int .i64 (en.2.2.2.2.2.2.1), .int .i64 (en.2.2.2.2.2.2.2)], rfl, ⟨r11, rfl, .tail _ (.head _)⟩, ⟨[r12], [str (en.2.2.2.1), r13, str (en.2.2.2.2.2.1), .int .i64 (en.2.2.2.2.2.2.1), .int .i64 (en.2.2.2.2.2.2.2)], rfl, ⟨r12, rfl, .tail _ (.tail _ (.head _))⟩, ⟨[str (en.2.2.2.1)], [r13, str (en.2.2.2.2.2.1), .int .i64 (en.2.2.2.2.2.2.1), .int .i64 (en.2.2.2.2.2.2.2)], rfl, rfl, ⟨[r13], [str (en.2.2.2.2.2.1), .int .i64 (en.2.2.2.2.2.2.1), .int .i64 (en.2.2.2.2.2.2.2)], rfl, ⟨r13, rfl, .tail _ (.tail _ (.tail _ (.head _)))⟩, ⟨[str (en.2.2.2.2.2.1)], [.int .i64 (en.2.2.2.2.2.2.1), .int .i64 (en.2.2.2.2.2.2.2)], rfl, rfl, ⟨[.int .i64 (en.2.2.2.2.2.2.1)], [.int .i64 (en.2.2.2.2.2.2.2)], rfl, rfl, rfl⟩⟩⟩⟩⟩⟩⟩, trivial⟩ Tryz.underlying48 ty_40 rfl rfl rfl rfl (fun g2 => ?_)
     refine ji_in (listed' := #[true, true, true, true, true, false, false, false]) (fun _ h => Mem.drop1 (Mem.drop1 (Mem.drop1 (Mem.drop1 (Mem.drop1 (Mem.drop1 (h))))))) rfl ?_
     refine ji_all [5] (by kernel_rfl) (by simp) (fun i hi => ?_)
     simp only [List.mem_cons, List.not_mem_nil, or_false] at hi
     subst hi
     ·refine jh_op rfl ?_
      refine j_pull5 ?_
      refine jo_append rfl rfl Tryz.underlying48 ty_40 rfl (by simp only [List.length_append, List.length_cons, List.length_nil, List.filter_nil, maxLen]; first | omega | exact Nat.le_trans (Nat.add_le_add_right (List.length_filter_le _ _) _) (by omega)) (by simp only [List.length_append, List.length_cons, List.length_nil, List.filter_nil]; first | omega | exact Nat.le_trans (Nat.mul_le_mul_right _ (Nat.add_le_add_right (List.length_filter_le _ _) _)) (by omega)) rfl (fun v2 => ?_)
      refine ji_in (listed' := #[true, true, true, true, true, true, false, false]) (fun _ h => Mem.drop1 (Mem.drop1 (Mem.drop1 (Mem.drop1 (Mem.drop1 (h)))))) rfl ?_
      refine ji_take (listed' := #[true, true, true, true, true, true, true, false]) 6 rfl (by kernel_rfl) (by kernel_rfl) (by kernel_rfl) (by kernel_rfl) rfl (pr_fieldAddr 1 rfl Tryz.underlying50 rfl ty_48 rfl rfl) (fun _ h => Mem.drop1 (Mem.drop1 (Mem.drop1 (Mem.drop1 (Mem.drop1 (h)))))) rfl ?_
      refine ji_all [7] (by kernel_rfl) (by simp) (fun i hi => ?_)
      simp only [List.mem_cons, List.not_mem_nil, or_false] at hi
      subst hi
      ·refine jh_op rfl ?_
       refine j_pull5 ?_
       refine jo_storeV rfl rfl ty_48 [v2] (fun w I m hs => (SliceV.cells (row_slice (.tail _ (.head _)) hs))) rfl (fun w I m hs => by simp only [List.all_cons, List.all_nil, Bool.and_true, Bool.and_eq_true]; exact (SliceV.one (row_slice (.tail _ (.head _)) hs))) [r1, v2] rfl rfl ?_
       refine ji_in2 (listed' := #[true, true, true, true, true, true, true, true]) (by kernel_rfl) rfl ?_
       refine j_pull17 ?_
       refine j_pull17 ?_
       refine j_pull17 ?_
       refine j_pull17 ?_
       refine j_pull17 ?_
       refine j_pull17 ?_
       refine j_pull17 ?_
       refine j_pull17 ?_
       refine j_pull17 ?_
       refine j_pull17 ?_
       refine j_pull17 ?_
       refine j_pull17 ?_
       refine j_pull17 ?_
       refine j_pull17 ?_
       refine j_pull17 ?_
       refine j_pull17 ?_
       refine j_pull17 ?_
       refine j_pull17 ?_
       show JI _ _ _ _ _ _ _ _ _
       exact ji_done ⟨v2, r10, r11, r12, r13⟩ (by kernel_rfl) ⟨rfl, rfl, rfl, trivial⟩ (fun _ h => h)
  ·skip
   refine jq_then (jc_seq (jc_region (jo_pure rfl (pr_fieldAddr 1 rfl Tryz.underlying50 rfl ty_48 rfl rfl) ?_)))
   refine jo_pure rfl (pr_load_box (v2) rfl ty_48 (.head _) rfl (by decide) rfl) ?_
   refine jo_pure rfl (pr_fieldAddr 1 rfl Tryz.underlying50 rfl ty_48 rfl rfl) ?_
   refine jo_pure rfl (pr_load_box (v2) rfl ty_48 (.head _) rfl (by decide) rfl) ?_
   refine jo_pure rfl (pr_len_row rfl (.tail _ (.head _)) Tryz.underlying48) ?_
   refine jo_pure rfl (pr_move rfl) (jo_pure rfl (pr_maxN (m := limit) (n := 0) rfl rfl) ?_)
   refine jo_pure rfl (pr_sub (m := ((((t.2.filter (fun o => !(fun o => replB axes en o) o)) ++ [en]).length : Nat) : Int)) (n := ((max limit 0 : Nat) : Int)) rfl rfl (by simp only [List.length_append, List.length_cons, List.length_nil, List.filter_nil]; omega)) ?_
   refine jo_pure rfl (pr_max_sub (m := ((t.2.filter (fun o => !(fun o => replB axes en o) o)) ++ [en]).length) (n := max limit 0) rfl rfl) ?_
   refine j_pull1 (j_pub_row (j_resl (l := (((t.2.filter (fun o => !(fun o => replB axes en o) o)) ++ [en]).length) - (max limit 0)) (h := ((t.2.filter (fun o => !(fun o => replB axes en o) o)) ++ [en]).length) (.head _) (by simp only [List.length_append, List.length_cons, List.length_nil]; omega) (by omega) ?_))
   refine jo_pure rfl (pr_slice_imm (l := (((t.2.filter (fun o => !(fun o => replB axes en o) o)) ++ [en]).length) - (max limit 0)) (h := ((t.2.filter (fun o => !(fun o => replB axes en o) o)) ++ [en]).length) rfl (.tail _ (.head _)) Tryz.underlying48 ty_40 ⟨_, rfl⟩ rfl (by simp only [List.length_append, List.length_cons, List.length_nil]; omega) (by omega)) ?_
   refine jo_pure rfl (pr_fieldAddr 1 rfl Tryz.underlying50 rfl ty_48 rfl rfl) ?_
   refine j_pull2 (jo_storeV rfl rfl ty_48 [resl (v2) ((((t.2.filter (fun o => !(fun o => replB axes en o) o)) ++ [en]).length) - (max limit 0)) (((t.2.filter (fun o => !(fun o => replB axes en o) o)) ++ [en]).length) 8] (fun w I m hs => (SliceV.cells (imm_slice (.tail _ (.head _)) hs))) rfl (fun w I m hs => by simp only [List.all_cons, List.all_nil, Bool.and_true, Bool.and_eq_true]; exact (SliceV.one (imm_slice (.tail _ (.head _)) hs))) [r1, resl (v2) ((((t.2.filter (fun o => !(fun o => replB axes en o) o)) ++ [en]).length) - (max limit 0)) (((t.2.filter (fun o => !(fun o => replB axes en o) o)) ++ [en]).length) 8] rfl rfl ?_)
   refine jo_nil (jq_then (jc_seq (jc_region (jo_pure rfl (pr_load_box (.agg #[r1, resl (v2) ((((t.2.filter (fun o => !(fun o => replB axes en o) o)) ++ [en]).length) - (max limit 0)) (((t.2.filter (fun o => !(fun o => replB axes en o) o)) ++ [en]).length) 8]) rfl ty_50 (.head _) rfl (by decide) rfl) ?_))))
   refine j_pull15 ?_
   refine jo_storeV rfl rfl ty_50 [r1, resl (v2) ((((t.2.filter (fun o => !(fun o => replB axes en o) o)) ++ [en]).length) - (max limit 0)) (((t.2.filter (fun o => !(fun o => replB axes en o) o)) ++ [en]).length) 8] (fun _ _ _ _ => rfl) rfl (fun w I m hs => by simp only [List.all_cons, List.all_nil, Bool.and_true, Bool.and_eq_true]; exact ⟨(SliceV.one (imm_slice (.tail _ (.tail _ (.tail _ (.tail _ (.tail _ (.tail _ (.tail _ (.tail _ (.tail _ (.tail _ (.tail _ (.tail _ (.tail _ (.tail _ (.tail _ (.head _)))))))))))))))) hs)), (SliceV.one (imm_slice (.tail _ (.tail _ (.head _))) hs))⟩) [r1, resl (v2) ((((t.2.filter (fun o => !(fun o => replB axes en o) o)) ++ [en]).length) - (max limit 0)) (((t.2.filter (fun o => !(fun o => replB axes en o) o)) ++ [en]).length) 8] rfl rfl ?_
   refine jo_nil (jq_then (jc_ret (j_pull1 (j_drop (j_pull2 (j_drop (j_pull2 (j_drop (j_pull2 (j_drop (j_pull2 (j_drop (j_pull2 (j_drop (j_pull2 (j_drop (j_pull2 (j_drop (j_pull2 (j_drop (j_pull2 (j_drop (j_pull2 ?_)))))))))))))))))))))))
   refine j_drop (j_pull2 (j_drop (j_pull2 (j_drop (j_pull3 (j_drop (j_pull3 (j_drop (j_pull3 (j_drop (j_pull1 (j_pull2 ?_))))))))))))
   exact jq_retc rfl (r1, resl (v2) ((((t.2.filter (fun o => !(fun o => replB axes en o) o)) ++ [en]).length) - (max limit 0)) (((t.2.filter (fun o => !(fun o => replB axes en o) o)) ++ [en]).length) 8) (resV_box (.agg #[r1, resl (v2) ((((t.2.filter (fun o => !(fun o => replB axes en o) o)) ++ [en]).length) - (max limit 0)) (((t.2.filter (fun o => !(fun o => replB axes en o) o)) ++ [en]).length) 8]) rfl ty_50 (.tail _ (.tail _ (.head _))) rfl (by decide) rfl) (show (.agg #[r1, (resl (v2) ((((t.2.filter (fun o => !(fun o => replB axes en o) o)) ++ [en]).length) - (max limit 0)) (((t.2.filter (fun o => !(fun o => replB axes en o) o)) ++ [en]).length) 8)] : Value) = (.agg #[r1, resl (v2) ((((t.2.filter (fun o => !(fun o => replB axes en o) o)) ++ [en]).length) - (max limit 0)) (((t.2.filter (fun o => !(fun o => replB axes en o) o)) ++ [en]).length) 8]) from rfl) (fun w h => (fun h => by rw [of_decide_eq_true h1] at h; rw [put_eq (of_decide_eq_true h1) rfl]; exact h) (Mem.front (As := [.imm (.list (.pair .str (.list .str))) (r1) (t.1), .imm (.list tyE) (resl (v2) ((((t.2.filter (fun o => !(fun o => replB axes en o) o)) ++ [en]).length) - (max limit 0)) (((t.2.filter (fun o => !(fun o => replB axes en o) o)) ++ [en]).length) 8) ((((t.2.filter (fun o => !(fun o => replB axes en o) o)) ++ [en]).take (((t.2.filter (fun o => !(fun o => replB axes en o) o)) ++ [en]).length)).drop ((((t.2.filter (fun o => !(fun o => replB axes en o) o)) ++ [en]).length) - (max limit 0)))]) h))

theorem c_table_Remove (t : (List (Axs)) × (List Ent)) (tv : Value) (tv2 : Value) (ixz : Int) (hax : OkA t.1) (hlt : t.2.length ≤ 1000000000) (hm : ∀ e ∈ t.2, OkE e) : Con Tryz.prog 59 #[.agg #[tv, tv2], .int .i64 (ixz)] [.imm (.list (.pair .str (.list .str))) (tv) (t.1), .imm (.list tyE) (tv2) (t.2)] (fun r : Value × Value => .agg #[r.1, r.2]) (fun r => [.imm (.list (.pair .str (.list .str))) r.1 (t.1), .imm (.list tyE) r.2 (remL t.2 ixz)]) := by
 refine con_of_J (args := [.agg #[tv, tv2], .int .i64 (ixz)]) (n := 25) Tryz.func59 rfl (Nat.le_of_ble_eq_true rfl) rfl (fun w0 I0 m0 => ?_)
 refine jc_seq (jc_region ?_)
 refine jo_box rfl [tv, tv2] rfl rfl (fun b1 => ?_)
 refine jo_alloc ty_50 [.slice none 0 0, .slice none 0 0] rfl rfl (fun b2 => ?_)
 refine jo_nil (jq_then (jc_seq (jc_region (jo_pure rfl (pr_load_box (.agg #[tv, tv2]) rfl ty_50 (.tail _ (.head _)) rfl (by decide) rfl) ?_))))
 have con1 := c_clone_Table t tv tv2 (by first | omega | exact hax | exact hlt | exact hm) (by first | omega | exact hax | exact hlt | exact hm) (by first | omega | exact hax | exact hlt | exact hm)
 refine jo_callp cal_44 con1 (by exact ⟨rfl, trivial⟩) rfl (by exact ⟨⟨rfl, .tail _ (.tail _ (.head _))⟩, ⟨⟨rfl, .tail _ (.tail _ (.tail _ (.head _)))⟩, trivial⟩⟩) (fun ⟨r1, r2⟩ => ?_)
 clear con1
 refine jo_alloc ty_50 [.slice none 0 0, .slice none 0 0] rfl rfl (fun b3 => ?_)
 refine jo_storeV rfl rfl ty_50 [r1, r2] (fun _ _ _ _ => rfl) rfl (fun w I m hs => by simp only [List.all_cons, List.all_nil, Bool.and_true, Bool.and_eq_true]; exact ⟨(SliceV.one (imm_slice (.tail _ (.head _)) hs)), (SliceV.one (row_slice (.tail _ (.tail _ (.head _))) hs))⟩) [r1, r2] rfl rfl ?_
 refine jo_nil (jq_then (jc_seq (jc_seq (jc_region (jo_pure rfl (pr_move rfl) (jo_pure rfl (pr_geq (n := 0) rfl rfl) ?_))))))
 refine jo_pure rfl (pr_move rfl) (jo_gpure (j := 2) (want := true) rfl rfl rfl rfl (fun hg=>pr_move rfl) (jo_gpure (j := 2) (want := true) rfl rfl rfl rfl (fun hg=>pr_fieldAddr 1 rfl Tryz.underlying50 rfl ty_48 rfl rfl) ?_))
 refine jo_gpure (j := 2) (want := true) rfl rfl rfl rfl (fun hg=>pr_load_box (r2) (evg rfl hg) ty_48 (.head _) rfl (by decide) rfl) ?_
 refine jo_gpure (j := 2) (want := true) rfl rfl rfl rfl (fun hg=>pr_len_row (evg rfl hg) (.tail _ (.tail _ (.head _))) Tryz.underlying48) ?_
 refine jo_gpure (j := 2) (want := true) rfl rfl rfl rfl (fun hg=>pr_lss (n := ((t.2.length : Nat) : Int)) (evg rfl hg) (evg rfl hg)) ?_
 refine jo_pure rfl (pr_pick_and rfl rfl rfl) ?_
 refine jo_nil (jq_then ?_)
 refine jc_cond rfl (fun h1b => ?_) (fun h1b => ?_)
 ·have h1 := (fun q => And.imp of_decide_eq_true of_decide_eq_true (bt_and q)) h1b
  have hix : 0 ≤ ixz ∧ ixz < t.2.length := h1
  have hix2 : ixz.toNat < t.2.length := by omega
  rw [show (ixz : Int) = ((ixz.toNat : Nat) : Int) from (Int.toNat_of_nonneg hix.1).symm]
  refine jc_region (jo_pure rfl (pr_fieldAddr 1 rfl Tryz.underlying50 rfl ty_48 rfl rfl) ?_)
  refine jo_pure rfl (pr_load_box (r2) rfl ty_48 (.head _) rfl (by decide) rfl) ?_
  refine jo_pure rfl (pr_move rfl) (jo_pure rfl (pr_move rfl) (jo_pure rfl (pr_addN (m := ixz.toNat) (n := 1) rfl rfl (by omega)) ?_))
  refine j_pull2 ?_
  refine jo_callm [.box b3 50 [r1, r2], .imm (.list (.pair .str (.list .str))) (r1) (t.1), .box b2 50 [.slice none 0 0, .slice none 0 0], .box b1 50 [tv, tv2], .imm (.list (.pair .str (.list .str))) (tv) (t.1), .imm (.list tyE) (tv2) (t.2)] rfl cal_82 (c_delete_entry t.2 r2 ixz.toNat (ixz.toNat + 1) (by omega) (by omega) (by omega)) ⟨rfl, rfl, rfl, trivial⟩ rfl (fun r3 => ?_)
  refine jo_pure rfl (pr_fieldAddr 1 rfl Tryz.underlying50 rfl ty_48 rfl rfl) ?_
  refine j_pull1 (jo_storeV rfl rfl ty_48 [r3] (fun w I m hs => (SliceV.cells (row_slice (.tail _ (.head _)) hs))) rfl (fun w I m hs => by simp only [List.all_cons, List.all_nil, Bool.and_true, Bool.and_eq_true]; exact (SliceV.one (row_slice (.tail _ (.head _)) hs))) [r1, r3] rfl rfl ?_)
  refine jo_nil (jq_then (jc_seq (jc_region (jo_pure rfl (pr_load_box (.agg #[r1, r3]) rfl ty_50 (.head _) rfl (by decide) rfl) ?_))))
  refine j_pull3 (jo_storeV rfl rfl ty_50 [r1, r3] (fun _ _ _ _ => rfl) rfl (fun w I m hs => by simp only [List.all_cons, List.all_nil, Bool.and_true, Bool.and_eq_true]; exact ⟨(SliceV.one (imm_slice (.tail _ (.tail _ (.tail _ (.head _)))) hs)), (SliceV.one (row_slice (.tail _ (.tail _ (.head _))) hs))⟩) [r1, r3] rfl rfl ?_)
  refine jo_nil (jq_then (jc_ret (j_pull2 (j_pub_row (j_pull2 (j_drop (j_pull3 (j_drop (j_pull3 (j_drop (j_pull3 (j_drop (j_pull1 (j_pull1 (j_pull2 ?_)))))))))))))))
  exact jq_retc rfl (r1, r3) (resV_box (.agg #[r1, r3]) rfl ty_50 (.tail _ (.tail _ (.head _))) rfl (by decide) rfl) (show (.agg #[r1, r3] : Value) = (.agg #[r1, r3]) from rfl) (fun w h => (fun h => by rw [remL_nat hix2]; exact h) (Mem.front (As := [.imm (.list (.pair .str (.list .str))) (r1) (t.1), .imm (.list tyE) (r3) (t.2.take ixz.toNat ++ t.2.drop (ixz.toNat + 1))]) h))
 ·have h1 := (fun q => Or.imp of_decide_eq_false of_decide_eq_false (bf_and q)) h1b
  refine jc_skip (jq_then (jc_seq (jc_region (jo_pure rfl (pr_load_box (.agg #[r1, r2]) rfl ty_50 (.head _) rfl (by decide) rfl) ?_))))
  refine j_pull3 (jo_storeV rfl rfl ty_50 [r1, r2] (fun _ _ _ _ => rfl) rfl (fun w I m hs => by simp only [List.all_cons, List.all_nil, Bool.and_true, Bool.and_eq_true]; exact ⟨(SliceV.one (imm_slice (.tail _ (.tail _ (.head _))) hs)), (SliceV.one (row_slice (.tail _ (.tail _ (.tail _ (.head _)))) hs))⟩) [r1, r2] rfl rfl ?_)
  refine jo_nil (jq_then (jc_ret (j_pull3 (j_pub_row (j_pull2 (j_drop (j_pull3 (j_drop (j_pull3 (j_drop (j_pull3 (j_drop (j_pull1 (j_pull1 (j_pull2 ?_)))))))))))))))
  exact jq_retc rfl (r1, r2) (resV_box (.agg #[r1, r2]) rfl ty_50 (.tail _ (.tail _ (.head _))) rfl (by decide) rfl) (show (.agg #[r1, r2] : Value) = (.agg #[r1, r2]) from rfl) (fun w h => (fun h => by rw [remL_out (fun q => by omega)]; exact h) (Mem.front (As := [.imm (.list (.pair .str (.list .str))) (r1) (t.1), .imm (.list tyE) (r2) (t.2)]) h))

theorem c_first_1 (s : Str) (key : Str) (keyb : Nat)  : Con Tryz.prog 77 #[str (s), .pointer (some ⟨keyb, 0, none⟩)] [.ibox keyb 9 [str (key)]] (fun _ : Unit => .bool (decide ((s : Str) = key))) (fun _ => []) := by
 refine con_of_J (args := [str (s), .pointer (some ⟨keyb, 0, none⟩)]) (n := 7) Tryz.func77 rfl (Nat.le_of_ble_eq_true rfl) rfl (fun w0 I0 m0 => ?_)
 refine jc_seq (jc_region (jo_pure rfl (pr_assign rfl) (jo_nil (jq_then (jc_seq (jc_region (jo_pure rfl (pr_move rfl) (jo_pure rfl (pr_load_ibox (str (key)) rfl ty_9 (.head _) rfl (by decide) rfl) ?_))))))))
 refine jo_pure rfl (pr_seql rfl rfl) ?_
 refine jo_pure rfl (pr_assign rfl) (jo_nil (jq_then (jc_ret (j_drop ?_))))
 exact jq_ret1 rfl () rfl (show (.bool (decide ((s : Str) = key)) : Value) = (.bool (decide ((s : Str) = key))) from rfl) (fun _ h => h)

theorem c_indexFunc_first (l : List Str) (lv : Value) (key : Str) (keyb : Nat) (hl : l.length ≤ 1000000000) : Con Tryz.prog 94 #[lv, .func (.func 77) #[] #[.pointer (some ⟨keyb, 0, none⟩)]] [.imm (.list .str) (lv) (l), .ibox keyb 9 [str (key)]] (fun _ : Unit => .int .i64 (idxP (fun s => decide (s = key)) l)) (fun _ => []) := by
 refine con_of_J (args := [lv, .func (.func 77) #[] #[.pointer (some ⟨keyb, 0, none⟩)]]) (n := 19) Tryz.func94 rfl (Nat.le_of_ble_eq_true rfl) rfl (fun w0 I0 m0 => ?_)
 refine jc_seq (jc_region (jo_pure rfl (pr_assign rfl) (jo_nil (jq_then (jc_seq (jc_seq (jc_region (jo_pure rfl (pr_move rfl) (jo_pure rfl (pr_len_imm rfl (.head _) Tryz.underlying28) ?_)))))))))
 refine jo_pure rfl (pr_move rfl) (jo_nil (jq_then (jc_block ?_)))
 refine jc_loop (fun (j : Nat) => [(0, lv), (1, .func (.func 77) #[] #[.pointer (some ⟨keyb, 0, none⟩)]), (7, .int .i64 ((l.length : Nat) : Int)), (8, .int .i64 ((j : Nat) : Int))]) (fun (j : Nat) => [.imm (.list .str) (lv) (l), .ibox keyb 9 [str (key)]]) (fun (j : Nat) => j ≤ l.length ∧ (l.take j).any (fun s => decide (s = key)) = false) (fun (j : Nat) => l.length - j) 0 (⟨Nat.zero_le _, rfl⟩) (⟨rfl, rfl, rfl, rfl, trivial⟩) (fun _ h => h) (fun j hinv => ?_)
 refine jc_seq (jc_region (jo_pure rfl (pr_lssN (m := j) (n := l.length) rfl rfl) ?_))
 refine jo_nil (jq_then (jc_seq ?_))
 refine jc_cond rfl (fun h1b => ?_) (fun h1b => ?_)
 ·have h1 := of_decide_eq_true h1b
  refine jc_skip (jq_then (jc_seq (jc_block (jc_seq (jc_region (jo_pure rfl (pr_move rfl) (jo_pure rfl (pr_assign rfl) (jo_nil (jq_then (jc_seq (jc_region (jo_pure rfl (pr_move rfl) (jo_pure rfl (pr_move rfl) (jo_pure rfl (pr_move rfl) (jo_pure rfl (pr_idx_imm (i := j) rfl (.head _) rfl Tryz.underlying28 ty_9 (by omega)) ?_)))))))))))))))
  refine jo_pure rfl (pr_load_elem_imm (i := j) (str (l.getD j [])) rfl (.head _) ty_9 rfl rfl (by omega) rfl) ?_
  refine jo_callvp (fi := []) (vs := [str (l.getD j [])]) (ca := [.pointer (some ⟨keyb, 0, none⟩)]) rfl cal_77 (c_first_1 (l.getD j []) key keyb) ⟨rfl, trivial⟩ rfl (⟨⟨rfl, .tail _ (.head _)⟩, trivial⟩) (fun _ => ?_)
  refine jo_nil (jq_then ?_)
  refine jc_cond rfl (fun h2b => ?_) (fun h2b => ?_)
  ·have h2 := id h2b
   refine jc_seq (jc_region (jo_pure rfl (pr_move rfl) (jo_pure rfl (pr_assign rfl) (jo_nil (jq_then (jc_ret (jq_in_ret ?_)))))))
   refine jq_then_ret (jq_then_ret (jq_in_ret ?_))
   refine jq_then_ret (j_drop (j_drop ?_))
   exact jq_ret1 rfl () rfl (show (.int .i64 (idxP (fun s => decide (s = key)) l) : Value) = (.int .i64 ((j : Nat) : Int)) from congrArg (Value.int .i64) (by rw [idxP_hit (dd := []) h1 hinv.2 h2b])) (fun _ h => h)
  ·have h2 := id h2b
   refine jc_skip (jq_in_normal (jq_then (jc_region (jo_pure rfl (pr_addN (m := j) (n := 1) rfl rfl (by omega)) ?_))))
   refine jo_pure rfl (pr_move rfl) (jo_nil (j_pull1 (j_pull1 ?_)))
   refine jq_round' (j + 1) (by (try dsimp only); exact (⟨by omega, any_step (dd := []) h1 hinv.2 h2b⟩)) (by (try dsimp only); exact (by omega)) ⟨rfl, rfl, rfl, rfl, trivial⟩ (fun _ h => h)
 ·have h1 := of_decide_eq_false h1b
  refine jc_exit ?_
  refine jq_then_exit ?_
  refine jq_then_exit ?_
  refine jq_in_hit ?_
  refine jq_then (jc_seq (jc_region (jo_pure rfl (pr_assign rfl) (jo_nil (jq_then (jc_ret (j_drop (j_drop ?_))))))))
  exact jq_ret1 rfl () rfl (show (.int .i64 (idxP (fun s => decide (s = key)) l) : Value) = (.int .i64 (-1)) from congrArg (Value.int .i64) (by rw [idxP_none (any_end (by omega) hinv.2)])) (fun _ h => h)

theorem c_deleteFunc_first (l : List Str) (sv : Value) (key : Str) (keyb : Nat) (hl : l.length ≤ 1000000000) : Con Tryz.prog 75 #[sv, .func (.func 77) #[] #[.pointer (some ⟨keyb, 0, none⟩)]] [.row (sv) 9 .str (l), .ibox keyb 9 [str (key)]] (fun r1 : Value => r1) (fun r1 => [.row (r1) 9 .str (l.filter (fun o => !(fun s => decide (s = key)) o))]) := by
 refine con_of_J (args := [sv, .func (.func 77) #[] #[.pointer (some ⟨keyb, 0, none⟩)]]) (n := 42) Tryz.func75 rfl (Nat.le_of_ble_eq_true rfl) rfl (fun w0 I0 m0 => ?_)
 refine jc_seq (jc_region (jo_pure rfl (pr_assign rfl) (jo_nil (jq_then (jc_seq (jc_region (jo_pure rfl (pr_move rfl) (jo_pure rfl (pr_move rfl) ?_))))))))
 refine jo_callq cal_94 (c_indexFunc_first l sv key keyb (by first | exact hl | omega)) ⟨rfl, rfl, trivial⟩ rfl (⟨peek_row (.head _), ⟨peek_pers rfl (.tail _ (.head _)), trivial⟩⟩) (fun _ => ?_)
 refine jo_pure rfl (pr_assign rfl) (jo_nil (jq_then (jc_seq (jc_seq (jc_region (jo_pure rfl (pr_move rfl) (jo_pure rfl (pr_eql (n := -1) rfl rfl) ?_)))))))
 refine jo_nil (jq_then ?_)
 refine jc_cond rfl (fun h1b => ?_) (fun h1b => ?_)
 ·have h1 := of_decide_eq_true h1b
  refine jc_seq (jc_region (jo_pure rfl (pr_move rfl) (jo_pure rfl (pr_assign rfl) (jo_nil (jq_then (jc_ret (jq_then_ret (j_pull1 (j_drop ?_)))))))))
  exact jq_ret1 rfl sv rfl (show (_ : Value) = (sv) from rfl) (fun _ h => by rw [idxP_no h1]; exact h)
 ·have h1 := of_decide_eq_false h1b
  have hat := idxP_at h1 []
  obtain ⟨k0, hk0⟩ : ∃ k0, k0 = (idxP (fun s => decide (s = key)) l).toNat := ⟨_, rfl⟩
  rw [← hk0] at hat
  have hst := DelTo.start [] hat.2.1 hat.2.2.1 hat.2.2.2
  rw [show (idxP (fun s => decide (s = key)) l : Int) = ((k0 : Nat) : Int) from by rw [hk0]; exact (Int.toNat_of_nonneg hat.1).symm]
  refine jc_skip (jq_then (jc_seq (jc_seq ?_)))
  refine j_open_row (Nat.lt_of_le_of_lt (Nat.zero_le _) hat.2.1) (fun g1 cap1 hv_ => ?_)
  subst hv_
  refine jc_region (jo_pure rfl (pr_move rfl) (jo_pure rfl (pr_addN (m := k0) (n := 1) rfl rfl (by omega)) ?_))
  refine jo_pure rfl (pr_assign rfl) (jo_nil (jq_then (jc_block ?_)))
  refine jc_loop3 (fun (j : Nat) (k : Nat) (xs : List Str) => [(0, .slice (some ⟨g1, 0, none⟩) (l.length) (cap1)), (1, .func (.func 77) #[] #[.pointer (some ⟨keyb, 0, none⟩)]), (5, .int .i64 ((k : Nat) : Int)), (6, .int .i64 ((j : Nat) : Int))]) (fun (j : Nat) (k : Nat) (xs : List Str) => [.rowg g1 (cap1) 9 .str (xs), .ibox keyb 9 [str (key)]]) (fun (j : Nat) (k : Nat) (xs : List Str) => DelTo (fun s => decide (s = key)) l xs k j) (fun (j : Nat) (k : Nat) (xs : List Str) => l.length - j) (k0 + 1) k0 l (hst) (⟨rfl, rfl, rfl, rfl, trivial⟩) (fun _ h => h) (fun j k xs hinv => ?_)
  refine j_cap (.head _) (fun hcap => ?_)
  refine jc_seq (jc_seq (jc_region (jo_pure rfl (pr_move rfl) (jo_pure rfl (pr_move rfl) (jo_pure rfl (pr_len rfl Tryz.underlying28) ?_)))))
  refine jo_pure rfl (pr_lssN (m := j) (n := l.length) rfl rfl) ?_
  refine jo_nil (jq_then ?_)
  refine jc_cond rfl (fun h2b => ?_) (fun h2b => ?_)
  ·have h2 := of_decide_eq_true h2b
   have hgd := hinv.get h2 []
   have hkj : k ≤ j ∧ j ≤ l.length ∧ xs.length = l.length := ⟨hinv.1, hinv.2.1, hinv.2.2.1⟩
   refine jc_skip (jq_then (jc_seq (jc_block (jc_seq (jc_region (jo_pure rfl (pr_move rfl) (jo_pure rfl (pr_move rfl) (jo_pure rfl (pr_idx (i := j) (j) rfl rfl Tryz.underlying28 ty_9 (by omega) (by first | rfl | (simp only [Nat.zero_add, Nat.mul_one]))) ?_))))))))
   refine jo_pure rfl (pr_load_rowD (str (xs.getD j [])) false rfl ty_9 rfl rfl (.head _) (by omega) (by first | rfl | exact Nat.mul_one _) rfl) ?_
   refine jo_pure rfl (pr_assign rfl) (jo_nil (jq_then (jc_seq (jc_region (jo_pure rfl (pr_move rfl) (jo_pure rfl (pr_move rfl) ?_))))))
   refine jo_callvp (fi := []) (vs := [str (xs.getD j [])]) (ca := [.pointer (some ⟨keyb, 0, none⟩)]) rfl cal_77 (c_first_1 (xs.getD j []) key keyb) ⟨rfl, trivial⟩ rfl (⟨⟨rfl, .tail _ (.head _)⟩, trivial⟩) (fun _ => ?_)
   refine jo_pure rfl (pr_not rfl) ?_
   refine jo_nil (jq_then ?_)
   refine jc_cond rfl (fun h3b => ?_) (fun h3b => ?_)
   ·have h3 := (fun q => id (bt_not q)) h3b
    refine jc_seq (jc_region (jo_pure rfl (pr_move rfl) (jo_pure rfl (pr_move rfl) (jo_pure rfl (pr_move rfl) (jo_pure rfl (pr_idx (i := k) (k) rfl rfl Tryz.underlying28 ty_9 (by omega) (by first | rfl | (simp only [Nat.zero_add, Nat.mul_one]))) ?_)))))
    refine jo_store_g (i := k) (xs.getD j []) rfl rfl ty_9 rfl (by omega) (by first | rfl | exact Nat.mul_one _) rfl ?_
    refine jo_nil (jq_then (jc_region (jo_pure rfl (pr_move rfl) (jo_pure rfl (pr_addN (m := k) (n := 1) rfl rfl (by omega)) ?_))))
    refine jo_pure rfl (pr_assign rfl) (jo_nil (jq_in_normal (jq_then (jc_region (jo_pure rfl (pr_move rfl) (jo_pure rfl (pr_addN (m := j) (n := 1) rfl rfl (by omega)) ?_))))))
    refine jo_pure rfl (pr_assign rfl) (jo_nil (j_pull1 (j_pull1 ?_)))
    refine jq_round' ((j + 1), (k + 1), (xs.set k (xs.getD j []))) (by (try dsimp only); exact (by rw [hgd]; exact hinv.keep (dd := []) h2 (by rw [← hgd]; first | (simpa using h3b) | (simpa using h3)))) (by (try dsimp only); exact (by omega)) ⟨rfl, rfl, rfl, rfl, trivial⟩ (fun _ h => h)
   ·have h3 := (fun q => id (bf_not q)) h3b
    refine jc_skip (jq_in_normal (jq_then (jc_region (jo_pure rfl (pr_move rfl) (jo_pure rfl (pr_addN (m := j) (n := 1) rfl rfl (by omega)) ?_)))))
    refine jo_pure rfl (pr_assign rfl) (jo_nil (j_pull1 (j_pull1 ?_)))
    refine jq_round' ((j + 1), k, xs) (by (try dsimp only); exact (hinv.skip (dd := []) h2 (by rw [← hgd]; first | (simpa using h3b) | (simpa using h3)))) (by (try dsimp only); exact (by omega)) ⟨rfl, rfl, rfl, rfl, trivial⟩ (fun _ h => h)
  ·have h2 := of_decide_eq_false h2b
   have hkj : k ≤ j ∧ j ≤ l.length ∧ xs.length = l.length := ⟨hinv.1, hinv.2.1, hinv.2.2.1⟩
   refine jc_exit ?_
   refine jq_then_exit ?_
   refine jq_then_exit ?_
   refine jq_in_hit ?_
   refine jq_then (jc_seq (jc_region (jo_pure rfl (pr_move rfl) (jo_pure rfl (pr_move rfl) (jo_pure rfl (pr_slice_lo (l := k) rfl rfl Tryz.underlying28 ty_9 (by omega)) ?_)))))
   refine j_own_take k ?_
   refine jo_clearO rfl Tryz.underlying28 ty_9 rfl rfl (by first | omega | (rw [List.length_take]; omega)) (by omega) ?_
   refine jo_nil (jq_then (jc_seq (jc_region (jo_pure rfl (pr_move rfl) (jo_pure rfl (pr_move rfl) (jo_pure rfl (pr_slice_own (h := k) rfl rfl Tryz.underlying28 ty_9 (by omega)) ?_))))))
   refine jo_pure rfl (pr_assign rfl) (jo_nil (jq_then (jc_ret (j_hide (n := k) (by rw [List.length_take]; omega) ?_))))
   refine j_pull1 (j_drop ?_)
   exact jq_ret1 rfl (.slice (some ⟨g1, 0, none⟩) (k) (cap1)) rfl (show (_ : Value) = (.slice (some ⟨g1, 0, none⟩) (k) (cap1)) from rfl) (fun _ h => by rw [← hinv.done (by omega)]; exact h)

theorem c_set_1 (s : Str) (key : Str) (keyb : Nat)  : Con Tryz.prog 76 #[str (s), .pointer (some ⟨keyb, 0, none⟩)] [.ibox keyb 9 [str (key)]] (fun _ : Unit => .bool (decide ((s : Str) = key))) (fun _ => []) := by
 refine con_of_J (args := [str (s), .pointer (some ⟨keyb, 0, none⟩)]) (n := 7) Tryz.func76 rfl (Nat.le_of_ble_eq_true rfl) rfl (fun w0 I0 m0 => ?_)
 refine jc_seq (jc_region (jo_pure rfl (pr_assign rfl) (jo_nil (jq_then (jc_seq (jc_region (jo_pure rfl (pr_move rfl) (jo_pure rfl (pr_load_ibox (str (key)) rfl ty_9 (.head _) rfl (by decide) rfl) ?_))))))))
 refine jo_pure rfl (pr_seql rfl rfl) ?_
 refine jo_pure rfl (pr_assign rfl) (jo_nil (jq_then (jc_ret (j_drop ?_))))
 exact jq_ret1 rfl () rfl (show (.bool (decide ((s : Str) = key)) : Value) = (.bool (decide ((s : Str) = key))) from rfl) (fun _ h => h)

theorem c_indexFunc_set (l : List Str) (lv : Value) (key : Str) (keyb : Nat) (hl : l.length ≤ 1000000000) : Con Tryz.prog 94 #[lv, .func (.func 76) #[] #[.pointer (some ⟨keyb, 0, none⟩)]] [.imm (.list .str) (lv) (l), .ibox keyb 9 [str (key)]] (fun _ : Unit => .int .i64 (idxP (fun s => decide (s = key)) l)) (fun _ => []) := by
 refine con_of_J (args := [lv, .func (.func 76) #[] #[.pointer (some ⟨keyb, 0, none⟩)]]) (n := 19) Tryz.func94 rfl (Nat.le_of_ble_eq_true rfl) rfl (fun w0 I0 m0 => ?_)
 refine jc_seq (jc_region (jo_pure rfl (pr_assign rfl) (jo_nil (jq_then (jc_seq (jc_seq (jc_region (jo_pure rfl (pr_move rfl) (jo_pure rfl (pr_len_imm rfl (.head _) Tryz.underlying28) ?_)))))))))
 refine jo_pure rfl (pr_move rfl) (jo_nil (jq_then (jc_block ?_)))
 refine jc_loop (fun (j : Nat) => [(0, lv), (1, .func (.func 76) #[] #[.pointer (some ⟨keyb, 0, none⟩)]), (7, .int .i64 ((l.length : Nat) : Int)), (8, .int .i64 ((j : Nat) : Int))]) (fun (j : Nat) => [.imm (.list .str) (lv) (l), .ibox keyb 9 [str (key)]]) (fun (j : Nat) => j ≤ l.length ∧ (l.take j).any (fun s => decide (s = key)) = false) (fun (j : Nat) => l.length - j) 0 (⟨Nat.zero_le _, rfl⟩) (⟨rfl, rfl, rfl, rfl, trivial⟩) (fun _ h => h) (fun j hinv => ?_)
 refine jc_seq (jc_region (jo_pure rfl (pr_lssN (m := j) (n := l.length) rfl rfl) ?_))
 refine jo_nil (jq_then (jc_seq ?_))
 refine jc_cond rfl (fun h1b => ?_) (fun h1b => ?_)
 ·have h1 := of_decide_eq_true h1b
  refine jc_skip (jq_then (jc_seq (jc_block (jc_seq (jc_region (jo_pure rfl (pr_move rfl) (jo_pure rfl (pr_assign rfl) (jo_nil (jq_then (jc_seq (jc_region (jo_pure rfl (pr_move rfl) (jo_pure rfl (pr_move rfl) (jo_pure rfl (pr_move rfl) (jo_pure rfl (pr_idx_imm (i := j) rfl (.head _) rfl Tryz.underlying28 ty_9 (by omega)) ?_)))))))))))))))
  refine jo_pure rfl (pr_load_elem_imm (i := j) (str (l.getD j [])) rfl (.head _) ty_9 rfl rfl (by omega) rfl) ?_
  refine jo_callvp (fi := []) (vs := [str (l.getD j [])]) (ca := [.pointer (some ⟨keyb, 0, none⟩)]) rfl cal_76 (c_set_1 (l.getD j []) key keyb) ⟨rfl, trivial⟩ rfl (⟨⟨rfl, .tail _ (.head _)⟩, trivial⟩) (fun _ => ?_)
  refine jo_nil (jq_then ?_)
  refine jc_cond rfl (fun h2b => ?_) (fun h2b => ?_)
  ·have h2 := id h2b
   refine jc_seq (jc_region (jo_pure rfl (pr_move rfl) (jo_pure rfl (pr_assign rfl) (jo_nil (jq_then (jc_ret (jq_in_ret ?_)))))))
   refine jq_then_ret (jq_then_ret (jq_in_ret ?_))
   refine jq_then_ret (j_drop (j_drop ?_))
   exact jq_ret1 rfl () rfl (show (.int .i64 (idxP (fun s => decide (s = key)) l) : Value) = (.int .i64 ((j : Nat) : Int)) from congrArg (Value.int .i64) (by rw [idxP_hit (dd := []) h1 hinv.2 h2b])) (fun _ h => h)
  ·have h2 := id h2b
   refine jc_skip (jq_in_normal (jq_then (jc_region (jo_pure rfl (pr_addN (m := j) (n := 1) rfl rfl (by omega)) ?_))))
   refine jo_pure rfl (pr_move rfl) (jo_nil (j_pull1 (j_pull1 ?_)))
   refine jq_round' (j + 1) (by (try dsimp only); exact (⟨by omega, any_step (dd := []) h1 hinv.2 h2b⟩)) (by (try dsimp only); exact (by omega)) ⟨rfl, rfl, rfl, rfl, trivial⟩ (fun _ h => h)
 ·have h1 := of_decide_eq_false h1b
  refine jc_exit ?_
  refine jq_then_exit ?_
  refine jq_then_exit ?_
  refine jq_in_hit ?_
  refine jq_then (jc_seq (jc_region (jo_pure rfl (pr_assign rfl) (jo_nil (jq_then (jc_ret (j_drop (j_drop ?_))))))))
  exact jq_ret1 rfl () rfl (show (.int .i64 (idxP (fun s => decide (s = key)) l) : Value) = (.int .i64 (-1)) from congrArg (Value.int .i64) (by rw [idxP_none (any_end (by omega) hinv.2)])) (fun _ h => h)

theorem c_deleteFunc_set (l : List Str) (sv : Value) (key : Str) (keyb : Nat) (hl : l.length ≤ 1000000000) : Con Tryz.prog 75 #[sv, .func (.func 76) #[] #[.pointer (some ⟨keyb, 0, none⟩)]] [.row (sv) 9 .str (l), .ibox keyb 9 [str (key)]] (fun r1 : Value => r1) (fun r1 => [.row (r1) 9 .str (l.filter (fun o => !(fun s => decide (s = key)) o))]) := by
 refine con_of_J (args := [sv, .func (.func 76) #[] #[.pointer (some ⟨keyb, 0, none⟩)]]) (n := 42) Tryz.func75 rfl (Nat.le_of_ble_eq_true rfl) rfl (fun w0 I0 m0 => ?_)
 refine jc_seq (jc_region (jo_pure rfl (pr_assign rfl) (jo_nil (jq_then (jc_seq (jc_region (jo_pure rfl (pr_move rfl) (jo_pure rfl (pr_move rfl) ?_))))))))
 refine jo_callq cal_94 (c_indexFunc_set l sv key keyb (by first | exact hl | omega)) ⟨rfl, rfl, trivial⟩ rfl (⟨peek_row (.head _), ⟨peek_pers rfl (.tail _ (.head _)), trivial⟩⟩) (fun _ => ?_)
 refine jo_pure rfl (pr_assign rfl) (jo_nil (jq_then (jc_seq (jc_seq (jc_region (jo_pure rfl (pr_move rfl) (jo_pure rfl (pr_eql (n := -1) rfl rfl) ?_)))))))
 refine jo_nil (jq_then ?_)
 refine jc_cond rfl (fun h1b => ?_) (fun h1b => ?_)
 ·have h1 := of_decide_eq_true h1b
  refine jc_seq (jc_region (jo_pure rfl (pr_move rfl) (jo_pure rfl (pr_assign rfl) (jo_nil (jq_then (jc_ret (jq_then_ret (j_pull1 (j_drop ?_)))))))))
  exact jq_ret1 rfl sv rfl (show (_ : Value) = (sv) from rfl) (fun _ h => by rw [idxP_no h1]; exact h)
 ·have h1 := of_decide_eq_false h1b
  have hat := idxP_at h1 []
  obtain ⟨k0, hk0⟩ : ∃ k0, k0 = (idxP (fun s => decide (s = key)) l).toNat := ⟨_, rfl⟩
  rw [← hk0] at hat
  have hst := DelTo.start [] hat.2.1 hat.2.2.1 hat.2.2.2
  rw [show (idxP (fun s => decide (s = key)) l : Int) = ((k0 : Nat) : Int) from by rw [hk0]; exact (Int.toNat_of_nonneg hat.1).symm]
  refine jc_skip (jq_then (jc_seq (jc_seq ?_)))
  refine j_open_row (Nat.lt_of_le_of_lt (Nat.zero_le _) hat.2.1) (fun g1 cap1 hv_ => ?_)
  subst hv_
  refine jc_region (jo_pure rfl (pr_move rfl) (jo_pure rfl (pr_addN (m := k0) (n := 1) rfl rfl (by omega)) ?_))
  refine jo_pure rfl (pr_assign rfl) (jo_nil (jq_then (jc_block ?_)))
  refine jc_loop3 (fun (j : Nat) (k : Nat) (xs : List Str) => [(0, .slice (some ⟨g1, 0, none⟩) (l.length) (cap1)), (1, .func (.func 76) #[] #[.pointer (some ⟨keyb, 0, none⟩)]), (5, .int .i64 ((k : Nat) : Int)), (6, .int .i64 ((j : Nat) : Int))]) (fun (j : Nat) (k : Nat) (xs : List Str) => [.rowg g1 (cap1) 9 .str (xs), .ibox keyb 9 [str (key)]]) (fun (j : Nat) (k : Nat) (xs : List Str) => DelTo (fun s => decide (s = key)) l xs k j) (fun (j : Nat) (k : Nat) (xs : List Str) => l.length - j) (k0 + 1) k0 l (hst) (⟨rfl, rfl, rfl, rfl, trivial⟩) (fun _ h => h) (fun j k xs hinv => ?_)
  refine j_cap (.head _) (fun hcap => ?_)
  refine jc_seq (jc_seq (jc_region (jo_pure rfl (pr_move rfl) (jo_pure rfl (pr_move rfl) (jo_pure rfl (pr_len rfl Tryz.underlying28) ?_)))))
  refine jo_pure rfl (pr_lssN (m := j) (n := l.length) rfl rfl) ?_
  refine jo_nil (jq_then ?_)
  refine jc_cond rfl (fun h2b => ?_) (fun h2b => ?_)
  ·have h2 := of_decide_eq_true h2b
   have hgd := hinv.get h2 []
   have hkj : k ≤ j ∧ j ≤ l.length ∧ xs.length = l.length := ⟨hinv.1, hinv.2.1, hinv.2.2.1⟩
   refine jc_skip (jq_then (jc_seq (jc_block (jc_seq (jc_region (jo_pure rfl (pr_move rfl) (jo_pure rfl (pr_move rfl) (jo_pure rfl (pr_idx (i := j) (j) rfl rfl Tryz.underlying28 ty_9 (by omega) (by first | rfl | (simp only [Nat.zero_add, Nat.mul_one]))) ?_))))))))
   refine jo_pure rfl (pr_load_rowD (str (xs.getD j [])) false rfl ty_9 rfl rfl (.head _) (by omega) (by first | rfl | exact Nat.mul_one _) rfl) ?_
   refine jo_pure rfl (pr_assign rfl) (jo_nil (jq_then (jc_seq (jc_region (jo_pure rfl (pr_move rfl) (jo_pure rfl (pr_move rfl) ?_))))))
   refine jo_callvp (fi := []) (vs := [str (xs.getD j [])]) (ca := [.pointer (some ⟨keyb, 0, none⟩)]) rfl cal_76 (c_set_1 (xs.getD j []) key keyb) ⟨rfl, trivial⟩ rfl (⟨⟨rfl, .tail _ (.head _)⟩, trivial⟩) (fun _ => ?_)
   refine jo_pure rfl (pr_not rfl) ?_
   refine jo_nil (jq_then ?_)
   refine jc_cond rfl (fun h3b => ?_) (fun h3b => ?_)
   ·have h3 := (fun q => id (bt_not q)) h3b
    refine jc_seq (jc_region (jo_pure rfl (pr_move rfl) (jo_pure rfl (pr_move rfl) (jo_pure rfl (pr_move rfl) (jo_pure rfl (pr_idx (i := k) (k) rfl rfl Tryz.underlying28 ty_9 (by omega) (by first | rfl | (simp only [Nat.zero_add, Nat.mul_one]))) ?_)))))
    refine jo_store_g (i := k) (xs.getD j []) rfl rfl ty_9 rfl (by omega) (by first | rfl | exact Nat.mul_one _) rfl ?_
    refine jo_nil (jq_then (jc_region (jo_pure rfl (pr_move rfl) (jo_pure rfl (pr_addN (m := k) (n := 1) rfl rfl (by omega)) ?_))))
    refine jo_pure rfl (pr_assign rfl) (jo_nil (jq_in_normal (jq_then (jc_region (jo_pure rfl (pr_move rfl) (jo_pure rfl (pr_addN (m := j) (n := 1) rfl rfl (by omega)) ?_))))))
    refine jo_pure rfl (pr_assign rfl) (jo_nil (j_pull1 (j_pull1 ?_)))
    refine jq_round' ((j + 1), (k + 1), (xs.set k (xs.getD j []))) (by (try dsimp only); exact (by rw [hgd]; exact hinv.keep (dd := []) h2 (by rw [← hgd]; first | (simpa using h3b) | (simpa using h3)))) (by (try dsimp only); exact (by omega)) ⟨rfl, rfl, rfl, rfl, trivial⟩ (fun _ h => h)
   ·have h3 := (fun q => id (bf_not q)) h3b
    refine jc_skip (jq_in_normal (jq_then (jc_region (jo_pure rfl (pr_move rfl) (jo_pure rfl (pr_addN (m := j) (n := 1) rfl rfl (by omega)) ?_)))))
    refine jo_pure rfl (pr_assign rfl) (jo_nil (j_pull1 (j_pull1 ?_)))
    refine jq_round' ((j + 1), k, xs) (by (try dsimp only); exact (hinv.skip (dd := []) h2 (by rw [← hgd]; first | (simpa using h3b) | (simpa using h3)))) (by (try dsimp only); exact (by omega)) ⟨rfl, rfl, rfl, rfl, trivial⟩ (fun _ h => h)
  ·have h2 := of_decide_eq_false h2b
   have hkj : k ≤ j ∧ j ≤ l.length ∧ xs.length = l.length := ⟨hinv.1, hinv.2.1, hinv.2.2.1⟩
   refine jc_exit ?_
   refine jq_then_exit ?_
   refine jq_then_exit ?_
   refine jq_in_hit ?_
   refine jq_then (jc_seq (jc_region (jo_pure rfl (pr_move rfl) (jo_pure rfl (pr_move rfl) (jo_pure rfl (pr_slice_lo (l := k) rfl rfl Tryz.underlying28 ty_9 (by omega)) ?_)))))
   refine j_own_take k ?_
   refine jo_clearO rfl Tryz.underlying28 ty_9 rfl rfl (by first | omega | (rw [List.length_take]; omega)) (by omega) ?_
   refine jo_nil (jq_then (jc_seq (jc_region (jo_pure rfl (pr_move rfl) (jo_pure rfl (pr_move rfl) (jo_pure rfl (pr_slice_own (h := k) rfl rfl Tryz.underlying28 ty_9 (by omega)) ?_))))))
   refine jo_pure rfl (pr_assign rfl) (jo_nil (jq_then (jc_ret (j_hide (n := k) (by rw [List.length_take]; omega) ?_))))
   refine j_pull1 (j_drop ?_)
   exact jq_ret1 rfl (.slice (some ⟨g1, 0, none⟩) (k) (cap1)) rfl (show (_ : Value) = (.slice (some ⟨g1, 0, none⟩) (k) (cap1)) from rfl) (fun _ h => by rw [← hinv.done (by omega)]; exact h)
end Go.Proofs.YtlniaacdjllonaaGreat
