/-
 Contracts of functions of the program: each returns what a plain function says, for every input within the bounds named. Conditions: the bounds.
-/
import Derived.Test.YtjbcomdljmfgjaaGreatDoorRows
import Derived.Test.YtjbcomdljmfgjaaGreatDoorWK8
import Derived.Test.YtjbcomdljmfgjaaGreatDoorWSep4
import Derived.Test.YtjbcomdljmfgjaaGreatDoorWLawE
namespace Go.Proofs.YtjbcomdljmfgjaaGreatDoor
open Go Go.Sep
set_option linter.unusedSimpArgs false
set_option linter.unusedVariables false

open Go.Plain

theorem cal_35 : Cal Tryz.prog 35 := cal_of Tryz.func35 (by kernel_rfl) rfl
theorem cal_73 : Cal Tryz.prog 73 := cal_of Tryz.func73 (by kernel_rfl) rfl
theorem cal_85 : Cal Tryz.prog 85 := cal_of Tryz.func85 (by kernel_rfl) rfl

theorem c_ref10_Rank (kind : Int) (l : List ((List UInt8) × Int)) (lv : Value) (present : Bool) (vs : List (List UInt8)) (vsv : Value) (hl : l.length ≤ 1000000) (hm : ∀ x ∈ l, x.1.length ≤ 1000000) (hvl : vs.length ≤ 100000) (hvm : ∀ x ∈ vs, x.length ≤ 1000000) : Con Tryz.prog 73 #[.int .i64 (kind), lv, .bool (present), vsv] [.imm (.list (.pair .str (.int .i64))) (lv) (l), .imm (.list .str) (vsv) (vs)] (fun r1 : Value => r1) (fun r1 => [.row r1 9 .str ((rankG kind l present vs).1)]) := by
 refine con_of_J (args := [.int .i64 (kind), lv, .bool (present), vsv]) (n := 84) Tryz.func73 rfl (Nat.le_of_ble_eq_true rfl) rfl (fun w0 I0 m0 => ?_)
 show J _ [(0, .int .i64 (kind)), (1, lv), (2, .bool (present)), (3, vsv)] [.imm (.list (.pair .str (.int .i64))) (lv) (l), .imm (.list .str) (vsv) (vs)] _
 refine jc_seq (jc_region (jo_pure rfl (pr_assign rfl) (jo_nil (jq_then (jc_seq ?_)))))
 refine jc_region (jo_pure rfl (pr_assign rfl) (jo_nil (jq_then (jc_seq (jc_block ?_)))))
 refine j_nil_row 9 .str ?_
 refine jc_loop2 (fun (ow : Value) (out : List (List UInt8)) => [(0, .int .i64 (kind)), (1, lv), (2, .bool (present)), (3, vsv), (9, ow)]) (fun (ow : Value) (out : List (List UInt8)) => [.row (ow) 9 .str (out), .imm (.list (.pair .str (.int .i64))) (lv) (l), .imm (.list .str) (vsv) (vs)]) (fun (ow : Value) (out : List (List UInt8)) => RankTo kind l present vs out ∧ out.length ≤ vs.length) (fun (ow : Value) (out : List (List UInt8)) => vs.length - out.length) (.slice none 0 0) [] (⟨.inl rfl, Nat.zero_le _⟩) (⟨rfl, rfl, rfl, rfl, rfl, trivial⟩) (fun _ h => h) (fun ow out hinv => ?_)
 have hom : ∀ x ∈ out, x.length ≤ 1000000 := fun x hx => by rcases hinv.1 with e | ⟨_, _, e⟩; rw [e] at hx; cases hx; rw [e] at hx; exact hvm x (rank_pos_mem (List.mem_filter.1 hx).1).1
 refine jc_seq (jc_seq (jc_region (jo_pure rfl (pr_move rfl) (jo_pure rfl (pr_len_row rfl (.head _) Tryz.underlying29) ?_))))
 refine jo_pure rfl (pr_move rfl) (jo_pure rfl (pr_len_imm rfl (.tail _ (.tail _ (.head _))) Tryz.underlying29) ?_)
 refine jo_pure rfl (pr_lssN (m := out.length) (n := vs.length) rfl rfl) ?_
 refine jo_nil (jq_then ?_)
 refine jc_cond rfl (fun h1b => ?_) (fun h1b => ?_)
 ·have h1 := of_decide_eq_true h1b
  refine jc_skip (jq_then (jc_block (jc_seq (jc_region (jo_pure rfl (pr_assign rfl) ?_)))))
  refine jo_nil (jq_then ?_)
  refine jc_join1 (fun (lastzz : Int) => [(0, .int .i64 (kind)), (1, lv), (2, .bool (present)), (3, vsv), (9, ow), (10, .int .i64 (lastzz))]) (fun (lastzz : Int) => [.row (ow) 9 .str (out), .imm (.list (.pair .str (.int .i64))) (lv) (l), .imm (.list .str) (vsv) (vs)]) (fun (lastzz : Int) => lastzz = (lastQ kind l present out)) ?_ (fun lastzz hj => ?_)
  ·skip
   refine jc_seq (jc_region (jo_pure rfl (pr_move rfl) (jo_pure rfl (pr_len_row rfl (.head _) Tryz.underlying29) ?_)))
   refine jo_pure rfl (pr_gtrN (m := out.length) (n := 0) rfl rfl) ?_
   refine jo_nil (jq_then ?_)
   refine jc_cond rfl (fun h2b => ?_) (fun h2b => ?_)
   ·have h2 := of_decide_eq_true h2b
    refine jc_region (jo_pure rfl (pr_move rfl) (jo_pure rfl (pr_move rfl) (jo_pure rfl (pr_move rfl) (jo_pure rfl (pr_move rfl) (jo_pure rfl (pr_move rfl) ?_)))))
    refine jo_pure rfl (pr_len_row rfl (.head _) Tryz.underlying29) ?_
    refine jo_pure rfl (pr_subN (m := out.length) (n := 1) rfl rfl (by omega) (by omega)) ?_
    refine jo_pure rfl (pr_idx_row (i := out.length - 1) rfl (.head _) rfl Tryz.underlying29 ty_9 (by omega)) ?_
    refine jo_pure rfl (pr_load_elem_row (i := out.length - 1) (str (out.getD (out.length - 1) [])) rfl (.head _) ty_9 rfl rfl (by omega) rfl) ?_
    refine jo_callp cal_85 (c_ref10_Quality kind l lv present (out.getD (out.length - 1) []) (by first | omega | exact hm | exact hvm _ (getD_mem h3) | exact hvm _ (getD_mem h4) | exact hvm _ (getD_mem h5) | exact hvm _ (getD_mem h6) | exact hvm _ (getD_mem h7) | exact hom _ (getD_mem (by omega))) (by first | omega | exact hm | exact hvm _ (getD_mem h3) | exact hvm _ (getD_mem h4) | exact hvm _ (getD_mem h5) | exact hvm _ (getD_mem h6) | exact hvm _ (getD_mem h7) | exact hom _ (getD_mem (by omega))) (by first | omega | exact hm | exact hvm _ (getD_mem h3) | exact hvm _ (getD_mem h4) | exact hvm _ (getD_mem h5) | exact hvm _ (getD_mem h6) | exact hvm _ (getD_mem h7) | exact hom _ (getD_mem (by omega)))) ⟨rfl, rfl, rfl, rfl, trivial⟩ rfl (⟨⟨rfl, .tail _ (.head _)⟩, trivial⟩) (fun _ => ?_)
    refine jo_pure rfl (pr_assign rfl) (jo_nil (j_pull2 (j_pull2 (j_pull2 ?_))))
    refine jq_join (qualF kind l present (out.getD (out.length - 1) [])) (by (try dsimp only); exact (by unfold lastQ; rw [if_pos h2])) ⟨rfl, rfl, rfl, rfl, rfl, rfl, trivial⟩ (fun _ h => h)
   ·have h2 := of_decide_eq_false h2b
    refine jc_skip (j_pull2 (j_pull2 (j_pull2 ?_)))
    refine jq_join ((0 : Nat) : Int) (by (try dsimp only); exact (by unfold lastQ; rw [if_neg h2] <;> rfl)) ⟨rfl, rfl, rfl, rfl, rfl, rfl, trivial⟩ (fun _ h => h)
  ·skip
   refine jc_seq (jc_region (jo_pure rfl (pr_assign rfl) (jo_nil (jq_then (jc_seq ?_)))))
   refine jc_seq (jc_region (jo_pure rfl (pr_assign rfl) (jo_nil (jq_then (jc_block ?_)))))
   refine jc_loop2 (fun (i : Nat) (nx : Int) => [(0, .int .i64 (kind)), (1, lv), (2, .bool (present)), (3, vsv), (9, ow), (10, .int .i64 (lastzz)), (11, .int .i64 (nx)), (12, .int .i64 ((i : Nat) : Int))]) (fun (i : Nat) (nx : Int) => [.row (ow) 9 .str (out), .imm (.list (.pair .str (.int .i64))) (lv) (l), .imm (.list .str) (vsv) (vs)]) (fun (i : Nat) (nx : Int) => i ≤ vs.length ∧ NextTo kind l present out (vs.take i) nx) (fun (i : Nat) (nx : Int) => vs.length - i) 0 ((0 : Nat) : Int) (⟨Nat.zero_le _, next_zero⟩) (⟨rfl, rfl, rfl, rfl, rfl, rfl, rfl, rfl, trivial⟩) (fun _ h => h) (fun i nx hinI => ?_)
   refine jc_seq (jc_seq (jc_region (jo_pure rfl (pr_move rfl) (jo_pure rfl (pr_move rfl) (jo_pure rfl (pr_len_imm rfl (.tail _ (.tail _ (.head _))) Tryz.underlying29) ?_)))))
   refine jo_pure rfl (pr_lssN (m := i) (n := vs.length) rfl rfl) ?_
   refine jo_nil (jq_then ?_)
   refine jc_cond rfl (fun h3b => ?_) (fun h3b => ?_)
   ·have h3 := of_decide_eq_true h3b
    refine jc_skip (jq_then (jc_seq (jc_block (jc_seq (jc_region ?_)))))
    refine jo_pure rfl (pr_move rfl) (jo_pure rfl (pr_move rfl) (jo_pure rfl (pr_move rfl) (jo_pure rfl (pr_move rfl) (jo_pure rfl (pr_move rfl) (jo_pure rfl (pr_idx_imm (i := i) rfl (.tail _ (.tail _ (.head _))) rfl Tryz.underlying29 ty_9 (by omega)) ?_)))))
    refine jo_pure rfl (pr_load_elem_imm (i := i) (str (vs.getD i [])) rfl (.tail _ (.tail _ (.head _))) ty_9 rfl rfl (by omega) rfl) ?_
    refine jo_callp cal_85 (c_ref10_Quality kind l lv present (vs.getD i []) (by first | omega | exact hm | exact hvm _ (getD_mem h3) | exact hvm _ (getD_mem h4) | exact hvm _ (getD_mem h5) | exact hvm _ (getD_mem h6) | exact hvm _ (getD_mem h7) | exact hom _ (getD_mem (by omega))) (by first | omega | exact hm | exact hvm _ (getD_mem h3) | exact hvm _ (getD_mem h4) | exact hvm _ (getD_mem h5) | exact hvm _ (getD_mem h6) | exact hvm _ (getD_mem h7) | exact hom _ (getD_mem (by omega))) (by first | omega | exact hm | exact hvm _ (getD_mem h3) | exact hvm _ (getD_mem h4) | exact hvm _ (getD_mem h5) | exact hvm _ (getD_mem h6) | exact hvm _ (getD_mem h7) | exact hom _ (getD_mem (by omega)))) ⟨rfl, rfl, rfl, rfl, trivial⟩ rfl (⟨⟨rfl, .tail _ (.head _)⟩, trivial⟩) (fun _ => ?_)
    refine jo_pure rfl (pr_assign rfl) (jo_nil (jq_then (jc_seq (jc_region (jo_pure rfl (pr_move rfl) ?_)))))
    refine jo_pure rfl (pr_len_row rfl (.head _) Tryz.underlying29) ?_
    refine jo_pure rfl (pr_eqlN (m := out.length) (n := 0) rfl rfl) ?_
    refine jo_pure rfl (pr_move rfl) (jo_gpure (j := 3) (want := false) rfl rfl rfl rfl (fun hg => pr_move rfl) ?_)
    refine jo_gpure (j := 3) (want := false) rfl rfl rfl rfl (fun hg => pr_move rfl) ?_
    refine jo_gpure (j := 3) (want := false) rfl rfl rfl rfl (fun hg => pr_lss (evg rfl hg) (evg rfl hg)) ?_
    refine jo_pure rfl (pr_pick_or rfl rfl rfl) ?_
    refine jo_nil (jq_then ?_)
    refine jc_cond rfl (fun h4b => ?_) (fun h4b => ?_)
    ·have h4 := (fun q => Or.imp of_decide_eq_true of_decide_eq_true (bt_or q)) h4b
     refine jc_region (jo_pure rfl (pr_move rfl) (jo_pure rfl (pr_move rfl) (jo_pure rfl (pr_maxI (m := nx) (n := (qualF kind l present (vs.getD i []))) rfl rfl) ?_)))
     refine jo_pure rfl (pr_assign rfl) (jo_nil (jq_in_normal (jq_then (jc_region (jo_pure rfl (pr_move rfl) ?_)))))
     refine jo_pure rfl (pr_addN (m := i) (n := 1) rfl rfl (by omega)) ?_
     refine jo_pure rfl (pr_assign rfl) (jo_nil (j_pull2 (j_pull2 (j_pull2 ?_))))
     refine jq_round' ((i + 1), (max nx (qualF kind l present (vs.getD i [])))) (by (try dsimp only); exact (⟨by omega, next_hit h3 hinI.2 (by rw [hj] at h4; exact h4)⟩)) (by (try dsimp only); exact (by omega)) ⟨rfl, rfl, rfl, rfl, rfl, rfl, rfl, rfl, trivial⟩ (fun _ h => h)
    ·have h4 := (fun q => And.imp of_decide_eq_false of_decide_eq_false (bf_or q)) h4b
     refine jc_skip (jq_in_normal (jq_then (jc_region (jo_pure rfl (pr_move rfl) (jo_pure rfl (pr_addN (m := i) (n := 1) rfl rfl (by omega)) ?_)))))
     refine jo_pure rfl (pr_assign rfl) (jo_nil (j_pull2 (j_pull2 (j_pull2 ?_))))
     refine jq_round' ((i + 1), nx) (by (try dsimp only); exact (⟨by omega, next_miss h3 hinI.2 (by rw [hj] at h4; exact fun e => e.elim h4.1 h4.2)⟩)) (by (try dsimp only); exact (by omega)) ⟨rfl, rfl, rfl, rfl, rfl, rfl, rfl, rfl, trivial⟩ (fun _ h => h)
   ·have h3 := of_decide_eq_false h3b
    have hinI0 : NextTo kind l present out vs nx := by have h9 := hinI.2; rw [take_over (by omega)] at h9; exact h9
    refine jc_exit ?_
    refine jq_then_exit ?_
    refine jq_then_exit ?_
    refine jq_in_hit ?_
    refine jq_then (jc_seq (jc_seq (jc_region (jo_pure rfl (pr_move rfl) (jo_pure rfl (pr_leq (n := 0) rfl rfl) ?_)))))
    refine jo_nil (jq_then ?_)
    refine jc_cond rfl (fun h5b => ?_) (fun h5b => ?_)
    ·have h5 := of_decide_eq_true h5b
     refine jc_exit ?_
     refine jq_then_exit ?_
     refine jq_in_miss rfl ?_
     refine jq_then_exit ?_
     refine jq_in_hit ?_
     refine jq_then (jc_seq (jc_region (jo_pure rfl (pr_move rfl) (jo_pure rfl (pr_assign rfl) (jo_nil ?_)))))
     refine jq_then (jc_ret (j_pull1 (j_drop (j_pull1 (j_drop ?_)))))
     exact jq_ret1 rfl ow rfl (show (ow : Value) = (ow) from rfl) (fun _ h => by rw [← rank_stop hinv.1 hinI0 h5]; exact h)
    ·have h5 := of_decide_eq_false h5b
     refine jc_skip (jq_then (jc_seq (jc_region (jo_pure rfl (pr_assign rfl) (jo_nil ?_)))))
     refine jq_then (jc_block ?_)
     refine jc_loop3 (fun (k : Nat) (ow2 : Value) (out2 : List (List UInt8)) => [(0, .int .i64 (kind)), (1, lv), (2, .bool (present)), (3, vsv), (9, ow2), (11, .int .i64 (nx)), (14, .int .i64 ((k : Nat) : Int))]) (fun (k : Nat) (ow2 : Value) (out2 : List (List UInt8)) => [.row (ow2) 9 .str (out2), .imm (.list (.pair .str (.int .i64))) (lv) (l), .imm (.list .str) (vsv) (vs)]) (fun (k : Nat) (ow2 : Value) (out2 : List (List UInt8)) => k ≤ vs.length ∧ out2 = out ++ sameQ kind l present (vs.take k) nx ∧ out2.length ≤ out.length + k) (fun (k : Nat) (ow2 : Value) (out2 : List (List UInt8)) => vs.length - k) 0 ow out (⟨Nat.zero_le _, by simp [sameQ], Nat.le_refl _⟩) (⟨rfl, rfl, rfl, rfl, rfl, rfl, rfl, trivial⟩) (fun _ h => h) (fun k ow2 out2 hinK => ?_)
     refine jc_seq (jc_seq (jc_region (jo_pure rfl (pr_move rfl) (jo_pure rfl (pr_move rfl) (jo_pure rfl (pr_len_imm rfl (.tail _ (.tail _ (.head _))) Tryz.underlying29) ?_)))))
     refine jo_pure rfl (pr_lssN (m := k) (n := vs.length) rfl rfl) ?_
     refine jo_nil (jq_then ?_)
     refine jc_cond rfl (fun h6b => ?_) (fun h6b => ?_)
     ·have h6 := of_decide_eq_true h6b
      refine jc_skip (jq_then (jc_seq (jc_block (jc_seq (jc_region ?_)))))
      refine jo_pure rfl (pr_move rfl) (jo_pure rfl (pr_move rfl) (jo_pure rfl (pr_move rfl) (jo_pure rfl (pr_move rfl) (jo_pure rfl (pr_move rfl) (jo_pure rfl (pr_idx_imm (i := k) rfl (.tail _ (.tail _ (.head _))) rfl Tryz.underlying29 ty_9 (by omega)) ?_)))))
      refine jo_pure rfl (pr_load_elem_imm (i := k) (str (vs.getD k [])) rfl (.tail _ (.tail _ (.head _))) ty_9 rfl rfl (by omega) rfl) ?_
      refine jo_callp cal_85 (c_ref10_Quality kind l lv present (vs.getD k []) (by first | omega | exact hm | exact hvm _ (getD_mem h3) | exact hvm _ (getD_mem h4) | exact hvm _ (getD_mem h5) | exact hvm _ (getD_mem h6) | exact hvm _ (getD_mem h7) | exact hom _ (getD_mem (by omega))) (by first | omega | exact hm | exact hvm _ (getD_mem h3) | exact hvm _ (getD_mem h4) | exact hvm _ (getD_mem h5) | exact hvm _ (getD_mem h6) | exact hvm _ (getD_mem h7) | exact hom _ (getD_mem (by omega))) (by first | omega | exact hm | exact hvm _ (getD_mem h3) | exact hvm _ (getD_mem h4) | exact hvm _ (getD_mem h5) | exact hvm _ (getD_mem h6) | exact hvm _ (getD_mem h7) | exact hom _ (getD_mem (by omega)))) ⟨rfl, rfl, rfl, rfl, trivial⟩ rfl (⟨⟨rfl, .tail _ (.head _)⟩, trivial⟩) (fun _ => ?_)
      refine jo_pure rfl (pr_move rfl) (jo_pure rfl (pr_eql rfl rfl) ?_)
      refine jo_nil (jq_then ?_)
      refine jc_cond rfl (fun h7b => ?_) (fun h7b => ?_)
      ·have h7 := of_decide_eq_true h7b
       refine jc_region (jo_pure rfl (pr_move rfl) (jo_pure rfl (pr_move rfl) (jo_pure rfl (pr_move rfl) (jo_pure rfl (pr_idx_imm (i := k) rfl (.tail _ (.tail _ (.head _))) rfl Tryz.underlying29 ty_9 (by omega)) ?_))))
       refine jo_pure rfl (pr_load_elem_imm (i := k) (str (vs.getD k [])) rfl (.tail _ (.tail _ (.head _))) ty_9 rfl rfl (by omega) rfl) ?_
       refine jo_buildSlice (t := .str) [vs.getD k []] [str (vs.getD k [])] (fun a hf => by simp only [List.zipIdx_cons, List.zipIdx_nil, List.map_toArray, List.map_cons, List.map_nil, hf.ev (show ev _ (.tmp 80) = some (str (vs.getD k [])) from rfl)] <;> rfl) rfl Tryz.underlying29 ty_9 rfl rfl rfl rfl rfl (fun g1 => ?_)
       refine j_pull1 ?_
       refine jo_append rfl rfl Tryz.underlying29 ty_9 rfl (by simp only [List.length_append, List.length_cons, List.length_nil, maxLen]; omega) (by simp only [List.length_append, List.length_cons, List.length_nil]; omega) rfl (fun v1 => ?_)
       refine jo_pure rfl (pr_assign rfl) (jo_nil (jq_in_normal (jq_then (jc_region (jo_pure rfl (pr_move rfl) ?_)))))
       refine jo_pure rfl (pr_addN (m := k) (n := 1) rfl rfl (by omega)) ?_
       refine jo_pure rfl (pr_assign rfl) (jo_nil (j_pull2 (j_pull2 (j_pull2 ?_))))
       refine jq_round' ((k + 1), v1, (out2 ++ [vs.getD k []])) (by (try dsimp only); exact (⟨by omega, by rw [sameQ_hit h6 h7, hinK.2.1]; simp, by simp; omega⟩)) (by (try dsimp only); exact (by omega)) ⟨rfl, rfl, rfl, rfl, rfl, rfl, rfl, trivial⟩ (fun _ h => h)
      ·have h7 := of_decide_eq_false h7b
       refine jc_skip (jq_in_normal (jq_then (jc_region (jo_pure rfl (pr_move rfl) (jo_pure rfl (pr_addN (m := k) (n := 1) rfl rfl (by omega)) ?_)))))
       refine jo_pure rfl (pr_assign rfl) (jo_nil (j_pull2 (j_pull2 (j_pull2 ?_))))
       refine jq_round' ((k + 1), ow2, out2) (by (try dsimp only); exact (⟨by omega, by rw [sameQ_miss h6 h7]; exact hinK.2.1, by omega⟩)) (by (try dsimp only); exact (by omega)) ⟨rfl, rfl, rfl, rfl, rfl, rfl, rfl, trivial⟩ (fun _ h => h)
     ·have h6 := of_decide_eq_false h6b
      refine jc_exit ?_
      refine jq_then_exit ?_
      refine jq_then_exit ?_
      refine jq_in_hit ?_
      refine jq_in_normal (j_pull2 (j_pull2 (j_pull2 ?_)))
      refine jq_round' (ow2, out2) (by (try dsimp only); exact (by have h91 := rank_more hinv.1 hinI0 (by omega); rw [hinK.2.1, take_over (by omega)]; exact ⟨h91.1, h91.2.2⟩)) (by (try dsimp only); exact (by have h91 := rank_more hinv.1 hinI0 (by omega); rw [hinK.2.1, take_over (by omega)]; have h92 := h91.2.1; have h93 := h91.2.2; rw [List.length_append] at h93 ⊢; omega)) ⟨rfl, rfl, rfl, rfl, rfl, trivial⟩ (fun _ h => h)
 ·have h1 := of_decide_eq_false h1b
  refine jc_exit ?_
  refine jq_then_exit ?_
  refine jq_then_exit ?_
  refine jq_in_hit ?_
  refine jq_then (jc_seq (jc_region (jo_pure rfl (pr_move rfl) (jo_pure rfl (pr_assign rfl) (jo_nil ?_)))))
  refine jq_then (jc_ret (j_pull1 (j_drop (j_pull1 (j_drop ?_)))))
  exact jq_ret1 rfl ow rfl (show (ow : Value) = (ow) from rfl) (fun _ h => by rw [← rank_full hinv.1 (by omega)]; exact h)

theorem c_ref10_Ranked (ax : (List UInt8) × (List (List UInt8))) (axv : Value) (l : List ((List UInt8) × (List UInt8))) (lv : Value) (strict : Bool) (ha : ax.1.length ≤ 1000000) (hm : ∀ x ∈ ax.2, x.length ≤ 300000) (hl : ax.2.length ≤ 9223372036854775807) (hfl : l.length ≤ 1000000) (hfm : ∀ x ∈ l, x.1.length ≤ 20000 ∧ x.2.length ≤ 20000) : Con Tryz.prog 35 #[.agg #[str (ax.1), axv], lv, .bool (strict)] [.imm (.list .str) (axv) (ax.2), .imm (.list (.pair .str .str)) (lv) (l)] (fun r1 : Value => r1) (fun r1 => [.imm (.list .str) r1 (rankA ax l strict)]) := by
 refine con_of_J (args := [.agg #[str (ax.1), axv], lv, .bool (strict)]) (n := 69) Tryz.func35 rfl (Nat.le_of_ble_eq_true rfl) rfl (fun w0 I0 m0 => ?_)
 show J _ [(0, .agg #[str (ax.1), axv]), (1, lv), (2, .bool (strict))] [.imm (.list .str) (axv) (ax.2), .imm (.list (.pair .str .str)) (lv) (l)] _
 have hf3 : ∀ x ∈ l, x.1.length ≤ 300000 ∧ x.2.length ≤ 300000 := fun x hx => by have := hfm x hx; omega
 have hf6 : ∀ x ∈ l, x.1.length ≤ 1000000 ∧ x.2.length ≤ 1000000 := fun x hx => by have := hfm x hx; omega
 have hone : ∀ x ∈ [ax], x.1.length ≤ 1000000 ∧ (∀ z ∈ x.2, z.length ≤ 300000) ∧ x.2.length ≤ 9223372036854775807 := fun x hx => by obtain rfl := List.mem_singleton.1 hx; exact ⟨ha, hm, hl⟩
 have hpl := prefsF_length (kindF ax.1) l
 have hps : ∀ x ∈ (prefsF (kindF ax.1) l).1, x.1.length ≤ 1000000 := fun x hx => by have := prefsF_short (kind := (kindF ax.1)) (n := 20000) hfm x hx; omega
 have hal64 : (allF l ax.1).length ≤ 64 := allV_length _
 have halm : ∀ x ∈ allF l ax.1, x.length ≤ 20000 := allV_mem (getF_mem (n := 20000) hfm)
 have hm6 : ∀ x ∈ ax.2, x.length ≤ 1000000 := fun x hx => by have := hm x hx; omega
 refine jc_seq (jc_region ?_)
 refine jo_box rfl [str (ax.1), axv] rfl rfl (fun b1 => ?_)
 refine jo_pure rfl (pr_assign rfl) (jo_nil (jq_then (jc_seq (jc_seq (jc_region ?_)))))
 refine jo_pure rfl (pr_load_box (.agg #[str (ax.1), axv]) rfl ty_32 (.head _) rfl (by decide) rfl) ?_
 have con1 := c_ref10_validAxis ax axv (by first | omega | exact hf3 | exact hf6 | exact hone | exact hps | exact halm | exact hm6 | exact hm | (simp only [List.length_cons, List.length_nil]; omega)) (by first | omega | exact hf3 | exact hf6 | exact hone | exact hps | exact halm | exact hm6 | exact hm | (simp only [List.length_cons, List.length_nil]; omega)) (by first | omega | exact hf3 | exact hf6 | exact hone | exact hps | exact halm | exact hm6 | exact hm | (simp only [List.length_cons, List.length_nil]; omega))
 refine jo_callp cal_54 con1 (by exact ⟨rfl, trivial⟩) rfl (by exact ⟨⟨rfl, .tail _ (.head _)⟩, trivial⟩) (fun _ => ?_)
 clear con1
 refine jo_pure rfl (pr_not rfl) ?_
 refine jo_nil (jq_then ?_)
 refine jc_cond rfl (fun h1b => ?_) (fun h1b => ?_)
 ·have h1 := (fun q => id (bt_not q)) h1b
  refine jc_seq (jc_region (jo_pure rfl (pr_assign rfl) (jo_nil (jq_then (jc_ret ?_)))))
  refine jq_then_ret (j_nil_imm .str ?_)
  refine j_pull1 (j_drop (j_pull1 (j_drop (j_pull1 (j_drop ?_)))))
  exact jq_ret1 rfl (.slice none 0 0) rfl (show (.slice none 0 0 : Value) = (.slice none 0 0) from rfl) (fun _ h => by rw [ranked_no h1]; exact h)
 ·have h1 := (fun q => id (bf_not q)) h1b
  have hva : validA ax = true := h1
  have hvl : 0 < ax.2.length ∧ ax.2.length ≤ 16 := by have h9 := hva; unfold validA validV at h9; simp only [Bool.and_eq_true, decide_eq_true_eq] at h9; exact h9.2.1
  refine jc_skip (jq_then (jc_seq (jc_region (jo_pure rfl (pr_assign rfl) (jo_nil ?_)))))
  refine jq_then (jc_seq (jc_seq (jc_region (jo_pure rfl (pr_fieldAddr 0 rfl Tryz.underlying32 rfl ty_9 rfl rfl) ?_))))
  refine jo_pure rfl (pr_load_box (str (ax.1)) rfl ty_9 (.head _) rfl (by decide) rfl) ?_
  refine jo_callp cal_26 (c_ref10_Kind ax.1 (by first | omega | exact hf3 | exact hf6 | exact hone | exact hps | exact halm | exact hm6 | exact hm | (simp only [List.length_cons, List.length_nil]; omega))) ⟨rfl, trivial⟩ rfl (trivial) (fun _ => ?_)
  refine jo_pure rfl (pr_assign rfl) (jo_nil (jq_then (jc_seq (jc_region (jo_pure rfl (pr_move rfl) ?_)))))
  refine jo_pure rfl (pr_neq (n := 0) rfl rfl) ?_
  refine jo_nil (jq_then ?_)
  refine jc_cond rfl (fun h2b => ?_) (fun h2b => ?_)
  ·have h2 := (fun q => of_decide_eq_false (bt_not q)) h2b
   refine jc_seq (jc_region (jo_pure rfl (pr_move rfl) (jo_pure rfl (pr_move rfl) ?_)))
   refine jo_callp cal_31 (c_ref10_Prefs (kindF ax.1) l lv (by first | omega | exact hf3 | exact hf6 | exact hone | exact hps | exact halm | exact hm6 | exact hm | (simp only [List.length_cons, List.length_nil]; omega)) (by first | omega | exact hf3 | exact hf6 | exact hone | exact hps | exact halm | exact hm6 | exact hm | (simp only [List.length_cons, List.length_nil]; omega))) ⟨rfl, rfl, trivial⟩ rfl (⟨⟨rfl, .tail _ (.tail _ (.head _))⟩, trivial⟩) (fun r1 => ?_)
   show J _ _ [.row (r1) 48 (.pair .str (.int .i64)) ((prefsF (kindF ax.1) l).1), .box b1 32 [str (ax.1), axv], .imm (.list .str) (axv) (ax.2), .imm (.list (.pair .str .str)) (lv) (l)] _
   refine jo_pure rfl (pr_move rfl) (jo_pure rfl (pr_extract rfl rfl) ?_)
   refine jo_pure rfl (pr_extract rfl rfl) ?_
   refine jo_pure rfl (pr_assign rfl) (jo_pure rfl (pr_assign rfl) (jo_nil (jq_then (jc_region (jo_pure rfl (pr_move rfl) ?_)))))
   refine jo_pure rfl (pr_move rfl) (jo_pure rfl (pr_move rfl) (jo_pure rfl (pr_fieldAddr 1 rfl Tryz.underlying32 rfl ty_29 rfl rfl) ?_))
   refine jo_pure rfl (pr_load_box (axv) rfl ty_29 (.tail _ (.head _)) rfl (by decide) rfl) ?_
   refine j_pub_row ?_
   refine jo_callp cal_73 (c_ref10_Rank (kindF ax.1) ((prefsF (kindF ax.1) l).1) r1 ((prefsF (kindF ax.1) l).2) ax.2 axv (by first | omega | exact hf3 | exact hf6 | exact hone | exact hps | exact halm | exact hm6 | exact hm | (simp only [List.length_cons, List.length_nil]; omega)) (by first | omega | exact hf3 | exact hf6 | exact hone | exact hps | exact halm | exact hm6 | exact hm | (simp only [List.length_cons, List.length_nil]; omega)) (by first | omega | exact hf3 | exact hf6 | exact hone | exact hps | exact halm | exact hm6 | exact hm | (simp only [List.length_cons, List.length_nil]; omega)) (by first | omega | exact hf3 | exact hf6 | exact hone | exact hps | exact halm | exact hm6 | exact hm | (simp only [List.length_cons, List.length_nil]; omega))) ⟨rfl, rfl, rfl, rfl, trivial⟩ rfl (⟨⟨rfl, .head _⟩, ⟨⟨rfl, .tail _ (.tail _ (.head _))⟩, trivial⟩⟩) (fun r2 => ?_)
   show J _ _ [.row (r2) 9 .str ((rankG (kindF ax.1) ((prefsF (kindF ax.1) l).1) ((prefsF (kindF ax.1) l).2) ax.2).1), .imm (.list (.pair .str (.int .i64))) (r1) ((prefsF (kindF ax.1) l).1), .box b1 32 [str (ax.1), axv], .imm (.list .str) (axv) (ax.2), .imm (.list (.pair .str .str)) (lv) (l)] _
   refine jo_pure rfl (pr_assign rfl) (jo_nil (jq_then (jc_seq (jc_seq (jc_region ?_)))))
   refine jo_pure rfl (pr_move rfl) (jo_pure rfl (pr_len_row rfl (.head _) Tryz.underlying29) ?_)
   refine jo_pure rfl (pr_eqlN (m := ((rankG (kindF ax.1) ((prefsF (kindF ax.1) l).1) ((prefsF (kindF ax.1) l).2) ax.2).1).length) (n := 0) rfl rfl) ?_
   refine jo_pure rfl (pr_move rfl) (jo_gpure (j := 3) (want := true) rfl rfl rfl rfl (fun hg => pr_move rfl) ?_)
   refine jo_gpure (j := 3) (want := true) rfl rfl rfl rfl (fun hg => pr_not (evg rfl hg)) ?_
   refine jo_pure rfl (pr_pick_and rfl rfl rfl) ?_
   refine jo_nil (jq_then ?_)
   refine jc_cond rfl (fun h3b => ?_) (fun h3b => ?_)
   ·have h3 := (fun q => And.imp of_decide_eq_true (fun q => id (bt_not q)) (bt_and q)) h3b
    refine jc_region (jo_pure rfl (pr_fieldAddr 1 rfl Tryz.underlying32 rfl ty_29 rfl rfl) ?_)
    refine jo_pure rfl (pr_load_box (axv) rfl ty_29 (.tail _ (.tail _ (.head _))) rfl (by decide) rfl) ?_
    refine jo_pure rfl (pr_idx_imm (i := 0) rfl (.tail _ (.tail _ (.tail _ (.head _)))) rfl Tryz.underlying29 ty_9 (by first | omega | exact hvl.1)) ?_
    refine jo_pure rfl (pr_load_elem_imm (i := 0) (str (ax.2.getD 0 [])) rfl (.tail _ (.tail _ (.tail _ (.head _)))) ty_9 rfl rfl (by first | omega | exact hvl.1) rfl) ?_
    refine jo_buildSlice (t := .str) [ax.2.getD 0 []] [str (ax.2.getD 0 [])] (fun a hf => by simp only [List.zipIdx_cons, List.zipIdx_nil, List.map_toArray, List.map_cons, List.map_nil, hf.ev (show ev _ (.tmp 66) = some (str (ax.2.getD 0 [])) from rfl)] <;> rfl) rfl Tryz.underlying29 ty_9 rfl rfl rfl rfl rfl (fun g1 => ?_)
    refine jo_pure rfl (pr_assign rfl) (jo_nil (jq_then (jc_seq (jc_region (jo_pure rfl (pr_move rfl) ?_)))))
    refine jo_pure rfl (pr_assign rfl) (jo_nil (jq_then (jc_ret (j_row_of_rowg ?_))))
    refine j_pub_row (j_pull1 (j_drop (j_pull1 (j_drop (j_pull1 ?_)))))
    refine j_drop (j_pull1 (j_drop (j_pull1 (j_drop ?_))))
    exact jq_ret1 rfl (.slice (some ⟨g1, 0, none⟩) ([ax.2.getD 0 []]).length (([ax.2.getD 0 []]).length)) rfl (show (.slice (some ⟨g1, 0, none⟩) ([ax.2.getD 0 []]).length (([ax.2.getD 0 []]).length) : Value) = (.slice (some ⟨g1, 0, none⟩) ([ax.2.getD 0 []]).length (([ax.2.getD 0 []]).length)) from rfl) (fun _ h => by rw [ranked_first hva (by rw [rankO_kind h2]; exact h3.1) (by simpa using h3.2)]; exact h)
   ·have h3 := (fun q => Or.imp of_decide_eq_false (fun q => id (bf_not q)) (bf_and q)) h3b
    refine jc_skip (jq_then (jc_seq (jc_region (jo_pure rfl (pr_move rfl) (jo_pure rfl (pr_assign rfl) ?_)))))
    refine jo_nil (jq_then (jc_ret (j_pub_row (j_pull1 (j_drop ?_)))))
    refine j_pull1 (j_drop (j_pull1 (j_drop (j_pull1 (j_drop ?_)))))
    exact jq_ret1 rfl r2 rfl (show (r2 : Value) = (r2) from rfl) (fun _ h => by rw [ranked_out hva (by rw [rankO_kind h2]; simpa using h3), rankO_kind h2]; exact h)
  ·have h2 := (fun q => of_decide_eq_true (bf_not q)) h2b
   refine jc_seq (jc_region (jo_pure rfl (pr_move rfl) (jo_pure rfl (pr_fieldAddr 0 rfl Tryz.underlying32 rfl ty_9 rfl rfl) ?_)))
   refine jo_pure rfl (pr_load_box (str (ax.1)) rfl ty_9 (.head _) rfl (by decide) rfl) ?_
   refine jo_callp cal_29 (c_ref01_All l lv ax.1 (by first | omega | exact hf3 | exact hf6 | exact hone | exact hps | exact halm | exact hm6 | exact hm | (simp only [List.length_cons, List.length_nil]; omega)) (by first | omega | exact hf3 | exact hf6 | exact hone | exact hps | exact halm | exact hm6 | exact hm | (simp only [List.length_cons, List.length_nil]; omega)) (by first | omega | exact hf3 | exact hf6 | exact hone | exact hps | exact halm | exact hm6 | exact hm | (simp only [List.length_cons, List.length_nil]; omega))) ⟨rfl, rfl, trivial⟩ rfl (⟨⟨rfl, .tail _ (.tail _ (.head _))⟩, trivial⟩) (fun r3 => ?_)
   show J _ _ [.row (r3) 9 .str (allF l ax.1), .box b1 32 [str (ax.1), axv], .imm (.list .str) (axv) (ax.2), .imm (.list (.pair .str .str)) (lv) (l)] _
   refine j_pub_row ?_
   refine jo_callp cal_74 (c_ref01_Join (allF l ax.1) r3 (by first | omega | exact hf3 | exact hf6 | exact hone | exact hps | exact halm | exact hm6 | exact hm | (simp only [List.length_cons, List.length_nil]; omega)) (by first | omega | exact hf3 | exact hf6 | exact hone | exact hps | exact halm | exact hm6 | exact hm | (simp only [List.length_cons, List.length_nil]; omega))) ⟨rfl, trivial⟩ rfl (⟨⟨rfl, .head _⟩, trivial⟩) (fun _ => ?_)
   refine jo_pure rfl (pr_assign rfl) (jo_nil (jq_then (jc_seq (jc_region (jo_pure rfl (pr_assign rfl) ?_)))))
   refine jo_nil (jq_then (jc_block (j_nil_row 9 .str ?_)))
   refine jc_loop3 (fun (i : Nat) (w : Value) (acc : List (List UInt8)) => [(2, .bool (strict)), (3, .pointer (some ⟨b1, 0, none⟩)), (7, w), (11, str (joinS [44, 32] (allF l ax.1))), (12, .int .i64 ((i : Nat) : Int))]) (fun (i : Nat) (w : Value) (acc : List (List UInt8)) => [.row (w) 9 .str (acc), .imm (.list .str) (r3) (allF l ax.1), .box b1 32 [str (ax.1), axv], .imm (.list .str) (axv) (ax.2), .imm (.list (.pair .str .str)) (lv) (l)]) (fun (i : Nat) (w : Value) (acc : List (List UInt8)) => i ≤ ax.2.length ∧ acc = haveU ax l i) (fun (i : Nat) (w : Value) (acc : List (List UInt8)) => ax.2.length - i) 0 (.slice none 0 0) [] (⟨Nat.zero_le _, rfl⟩) (⟨rfl, rfl, rfl, rfl, rfl, trivial⟩) (fun _ h => h) (fun i w acc hinv => ?_)
   have hacl : acc.length ≤ 1 := by rw [hinv.2]; exact haveU_len
   refine jc_seq (jc_seq (jc_region (jo_pure rfl (pr_move rfl) (jo_pure rfl (pr_fieldAddr 1 rfl Tryz.underlying32 rfl ty_29 rfl rfl) ?_))))
   refine jo_pure rfl (pr_load_box (axv) rfl ty_29 (.tail _ (.tail _ (.head _))) rfl (by decide) rfl) ?_
   refine jo_pure rfl (pr_len_imm rfl (.tail _ (.tail _ (.tail _ (.head _)))) Tryz.underlying29) ?_
   refine jo_pure rfl (pr_lssN (m := i) (n := ax.2.length) rfl rfl) ?_
   refine jo_nil (jq_then ?_)
   refine jc_cond rfl (fun h4b => ?_) (fun h4b => ?_)
   ·have h4 := of_decide_eq_true h4b
    refine jc_skip (jq_then (jc_seq (jc_block (jc_seq (jc_region ?_)))))
    refine jo_pure rfl (pr_fieldAddr 1 rfl Tryz.underlying32 rfl ty_29 rfl rfl) ?_
    refine jo_pure rfl (pr_load_box (axv) rfl ty_29 (.tail _ (.tail _ (.head _))) rfl (by decide) rfl) ?_
    refine jo_pure rfl (pr_move rfl) (jo_pure rfl (pr_idx_imm (i := i) rfl (.tail _ (.tail _ (.tail _ (.head _)))) rfl Tryz.underlying29 ty_9 (by first | omega | exact hvl.1)) ?_)
    refine jo_pure rfl (pr_load_elem_imm (i := i) (str (ax.2.getD i [])) rfl (.tail _ (.tail _ (.tail _ (.head _)))) ty_9 rfl rfl (by first | omega | exact hvl.1) rfl) ?_
    refine jo_pure rfl (pr_move rfl) (jo_pure rfl (pr_seql rfl rfl) ?_)
    refine jo_nil (jq_then ?_)
    refine jc_cond rfl (fun h5b => ?_) (fun h5b => ?_)
    ·have h5 := of_decide_eq_true h5b
     refine jc_region (jo_pure rfl (pr_move rfl) (jo_pure rfl (pr_move rfl) ?_))
     refine jo_buildSlice (t := .str) [joinS [44, 32] (allF l ax.1)] [str (joinS [44, 32] (allF l ax.1))] (fun a hf => by simp only [List.zipIdx_cons, List.zipIdx_nil, List.map_toArray, List.map_cons, List.map_nil, hf.ev (show ev _ (.tmp 53) = some (str (joinS [44, 32] (allF l ax.1))) from rfl)] <;> rfl) rfl Tryz.underlying29 ty_9 rfl rfl rfl rfl rfl (fun g2 => ?_)
     refine j_pull1 ?_
     refine jo_append rfl rfl Tryz.underlying29 ty_9 rfl (by simp only [List.length_append, List.length_cons, List.length_nil, maxLen]; omega) (by simp only [List.length_append, List.length_cons, List.length_nil]; omega) rfl (fun v1 => ?_)
     refine jo_pure rfl (pr_assign rfl) (jo_nil (jq_in_normal (jq_then (jc_region (jo_pure rfl (pr_move rfl) ?_)))))
     refine jo_pure rfl (pr_addN (m := i) (n := 1) rfl rfl (by omega)) ?_
     refine jo_pure rfl (pr_assign rfl) (jo_nil (j_pull4 ?_))
     refine j_pull4 ?_
     refine j_pull4 ?_
     refine j_pull4 ?_
     refine j_pull4 ?_
     refine jq_round' ((i + 1), v1, (acc ++ [joinS [44, 32] (allF l ax.1)])) (by (try dsimp only); exact (⟨by omega, by rw [hinv.2]; exact haveU_hit hva h4 h5⟩)) (by (try dsimp only); exact (by omega)) ⟨rfl, rfl, rfl, rfl, rfl, trivial⟩ (fun _ h => h)
    ·have h5 := of_decide_eq_false h5b
     refine jc_skip (jq_in_normal (jq_then (jc_region (jo_pure rfl (pr_move rfl) (jo_pure rfl (pr_addN (m := i) (n := 1) rfl rfl (by omega)) ?_)))))
     refine jo_pure rfl (pr_assign rfl) (jo_nil (j_pull4 ?_))
     refine j_pull4 ?_
     refine j_pull4 ?_
     refine j_pull4 ?_
     refine j_pull4 ?_
     refine jq_round' ((i + 1), w, acc) (by (try dsimp only); exact (⟨by omega, by rw [hinv.2]; exact haveU_miss h4 h5⟩)) (by (try dsimp only); exact (by omega)) ⟨rfl, rfl, rfl, rfl, rfl, trivial⟩ (fun _ h => h)
   ·have h4 := of_decide_eq_false h4b
    refine jc_exit ?_
    refine jq_then_exit ?_
    refine jq_then_exit ?_
    refine jq_in_hit ?_
    refine jq_then (jc_seq (jc_seq (jc_region (jo_pure rfl (pr_move rfl) (jo_pure rfl (pr_len_row rfl (.head _) Tryz.underlying29) ?_)))))
    refine jo_pure rfl (pr_eqlN (m := acc.length) (n := 0) rfl rfl) ?_
    refine jo_pure rfl (pr_move rfl) (jo_gpure (j := 3) (want := true) rfl rfl rfl rfl (fun hg => pr_move rfl) ?_)
    refine jo_gpure (j := 3) (want := true) rfl rfl rfl rfl (fun hg => pr_not (evg rfl hg)) ?_
    refine jo_pure rfl (pr_pick_and rfl rfl rfl) ?_
    refine jo_nil (jq_then ?_)
    refine jc_cond rfl (fun h6b => ?_) (fun h6b => ?_)
    ·have h6 := (fun q => And.imp of_decide_eq_true (fun q => id (bt_not q)) (bt_and q)) h6b
     refine jc_region (jo_pure rfl (pr_fieldAddr 1 rfl Tryz.underlying32 rfl ty_29 rfl rfl) ?_)
     refine jo_pure rfl (pr_load_box (axv) rfl ty_29 (.tail _ (.tail _ (.head _))) rfl (by decide) rfl) ?_
     refine jo_pure rfl (pr_idx_imm (i := 0) rfl (.tail _ (.tail _ (.tail _ (.head _)))) rfl Tryz.underlying29 ty_9 (by first | omega | exact hvl.1)) ?_
     refine jo_pure rfl (pr_load_elem_imm (i := 0) (str (ax.2.getD 0 [])) rfl (.tail _ (.tail _ (.tail _ (.head _)))) ty_9 rfl rfl (by first | omega | exact hvl.1) rfl) ?_
     refine jo_buildSlice (t := .str) [ax.2.getD 0 []] [str (ax.2.getD 0 [])] (fun a hf => by simp only [List.zipIdx_cons, List.zipIdx_nil, List.map_toArray, List.map_cons, List.map_nil, hf.ev (show ev _ (.tmp 66) = some (str (ax.2.getD 0 [])) from rfl)] <;> rfl) rfl Tryz.underlying29 ty_9 rfl rfl rfl rfl rfl (fun g3 => ?_)
     refine jo_pure rfl (pr_assign rfl) (jo_nil (jq_then (jc_seq (jc_region (jo_pure rfl (pr_move rfl) ?_)))))
     refine jo_pure rfl (pr_assign rfl) (jo_nil (jq_then (jc_ret (j_row_of_rowg ?_))))
     refine j_pub_row (j_pull1 (j_drop (j_pull1 (j_drop (j_pull1 ?_)))))
     refine j_drop (j_pull1 (j_drop (j_pull1 (j_drop ?_))))
     exact jq_ret1 rfl (.slice (some ⟨g3, 0, none⟩) ([ax.2.getD 0 []]).length (([ax.2.getD 0 []]).length)) rfl (show (.slice (some ⟨g3, 0, none⟩) ([ax.2.getD 0 []]).length (([ax.2.getD 0 []]).length) : Value) = (.slice (some ⟨g3, 0, none⟩) ([ax.2.getD 0 []]).length (([ax.2.getD 0 []]).length)) from rfl) (fun _ h => by rw [ranked_first hva (by rw [← haveU_end (by simpa using h2) (i := i) (by omega), ← hinv.2]; exact h6.1) (by simpa using h6.2)]; exact h)
    ·have h6 := (fun q => Or.imp of_decide_eq_false (fun q => id (bf_not q)) (bf_and q)) h6b
     refine jc_skip (jq_then (jc_seq (jc_region (jo_pure rfl (pr_move rfl) (jo_pure rfl (pr_assign rfl) ?_)))))
     refine jo_nil (jq_then (jc_ret (j_pub_row (j_pull1 (j_drop ?_)))))
     refine j_pull1 (j_drop (j_pull1 (j_drop (j_pull1 (j_drop ?_)))))
     exact jq_ret1 rfl w rfl (show (w : Value) = (w) from rfl) (fun _ h => by rw [ranked_out hva (by rw [← haveU_end (by simpa using h2) (i := i) (by omega), ← hinv.2]; simpa using h6), ← haveU_end (by simpa using h2) (i := i) (by omega), ← hinv.2]; exact h)

end Go.Proofs.YtjbcomdljmfgjaaGreatDoor
