/-
 Contracts of functions of the program: each returns what a plain function says, for every input within the bounds named. Conditions: the bounds.
-/
import Derived.Test.YtjbcomdljmfgjabGreatDoorRows
import Derived.Test.YtjbcomdljmfgjabGreatDoorZK1
namespace Go.Proofs.YtjbcomdljmfgjabGreatDoor
open Go Go.Sep
set_option linter.unusedSimpArgs false
set_option linter.unusedVariables false

open Go.Plain

theorem cal_36 : Cal Tryz.prog 36 := cal_of Tryz.func36 (by kernel_rfl) rfl
theorem cal_39 : Cal Tryz.prog 39 := cal_of Tryz.func39 (by kernel_rfl) rfl
theorem cal_44 : Cal Tryz.prog 44 := cal_of Tryz.func44 (by kernel_rfl) rfl
theorem cal_47 : Cal Tryz.prog 47 := cal_of Tryz.func47 (by kernel_rfl) rfl
theorem cal_54 : Cal Tryz.prog 54 := cal_of Tryz.func54 (by kernel_rfl) rfl
theorem cal_55 : Cal Tryz.prog 55 := cal_of Tryz.func55 (by kernel_rfl) rfl
theorem cal_56 : Cal Tryz.prog 56 := cal_of Tryz.func56 (by kernel_rfl) rfl
theorem cal_62 : Cal Tryz.prog 62 := cal_of Tryz.func62 (by kernel_rfl) rfl
theorem cal_63 : Cal Tryz.prog 63 := cal_of Tryz.func63 (by kernel_rfl) rfl
theorem cal_64 : Cal Tryz.prog 64 := cal_of Tryz.func64 (by kernel_rfl) rfl
theorem cal_72 : Cal Tryz.prog 72 := cal_of Tryz.func72 (by kernel_rfl) rfl
theorem cal_74 : Cal Tryz.prog 74 := cal_of Tryz.func74 (by kernel_rfl) rfl
theorem cal_79 : Cal Tryz.prog 79 := cal_of Tryz.func79 (by kernel_rfl) rfl
theorem cal_84 : Cal Tryz.prog 84 := cal_of Tryz.func84 (by kernel_rfl) rfl
theorem cal_91 : Cal Tryz.prog 91 := cal_of Tryz.func91 (by kernel_rfl) rfl
theorem cal_94 : Cal Tryz.prog 94 := cal_of Tryz.func94 (by kernel_rfl) rfl
theorem cal_95 : Cal Tryz.prog 95 := cal_of Tryz.func95 (by kernel_rfl) rfl
theorem cal_97 : Cal Tryz.prog 97 := cal_of Tryz.func97 (by kernel_rfl) rfl
theorem cal_108 : Cal Tryz.prog 108 := cal_of Tryz.func108 (by kernel_rfl) rfl
theorem cal_112 : Cal Tryz.prog 112 := cal_of Tryz.func112 (by kernel_rfl) rfl
theorem cal_115 : Cal Tryz.prog 115 := cal_of Tryz.func115 (by kernel_rfl) rfl
theorem ty_3 : TyF Tryz.prog 3 false 1 8 (some (.int .i64 ((0 : Nat) : Int))) := ⟨by kernel_rfl, by kernel_rfl⟩
theorem ty_62 : TyF Tryz.prog 62 false 1 24 (some (.slice none 0 0)) := ⟨by kernel_rfl, by kernel_rfl⟩
theorem ty_64 : TyF Tryz.prog 64 true 3 56 (some (.agg #[str ([]), str ([]), .slice none 0 0])) := ⟨by kernel_rfl, by kernel_rfl⟩
theorem ty_69 : TyF Tryz.prog 69 false 1 8 (some (.pointer none)) := ⟨by kernel_rfl, by kernel_rfl⟩
theorem ty_70 : TyF Tryz.prog 70 false 1 24 (some (.slice none 0 0)) := ⟨by kernel_rfl, by kernel_rfl⟩
theorem ty_72 : TyF Tryz.prog 72 true 2 32 (some (.agg #[.pointer none, .slice none 0 0])) := ⟨by kernel_rfl, by kernel_rfl⟩
theorem ty_109 : TyF Tryz.prog 109 true 5 40 (some (.agg #[.int .i64 ((0 : Nat) : Int), .int .i64 ((0 : Nat) : Int), .int .i64 ((0 : Nat) : Int), .int .i64 ((0 : Nat) : Int), .int .i64 ((0 : Nat) : Int)])) := ⟨by kernel_rfl, by kernel_rfl⟩

theorem c_copyCheck_new (b : Nat) (v : Value)  : Con Tryz.prog 72 #[.pointer (some ⟨b, 0, none⟩)] [.box b 72 [.pointer none, v]] (fun _ : Unit => .tuple #[]) (fun _ => [.box b 72 [.pointer (some ⟨b, 0, none⟩), v]]) := by
 refine con_of_J (args := [.pointer (some ⟨b, 0, none⟩)]) (n := 20) Tryz.func72 rfl (Nat.le_of_ble_eq_true rfl) rfl (fun w0 I0 m0 => ?_)
 show J _ [(0, .pointer (some ⟨b, 0, none⟩))] [.box b 72 [.pointer none, v]] _
 refine jc_seq (jc_region (jo_pure rfl (pr_move rfl) (jo_pure rfl (pr_nilCheck rfl) ?_)))
 refine jo_pure rfl (pr_fieldAddr 0 rfl Tryz.underlying72 rfl ty_69 rfl rfl) ?_
 refine jo_pure rfl (pr_load_box (.pointer none) rfl ty_69 (.head _) rfl (by decide) rfl) ?_
 refine jo_pure rfl (pr_eql_nilptr rfl rfl Tryz.underlying69) ?_
 refine jo_nil (jq_then (jc_true rfl (rfl) ?_))
 refine jc_region (jo_pure rfl (pr_move rfl) (jo_pure rfl (pr_move rfl) (jo_pure rfl (pr_to_unsafe rfl (.head _) Tryz.underlying69 Tryz.underlying130 ty_72 rfl rfl) ?_)))
 refine jo_pure rfl (pr_ext (vs := [.pointer (some ⟨b, 0, none⟩)]) Tryz.func103 (by kernel_rfl) rfl (by kernel_rfl) (by kernel_rfl) ⟨rfl, trivial⟩ (fun w => Lib.run_noEscape w _)) ?_
 refine jo_pure rfl (pr_from_unsafe rfl (.head _) Tryz.underlying130 Tryz.underlying69 ty_72 (by kernel_rfl)) ?_
 refine jo_pure rfl (pr_nilCheck rfl) ?_
 refine jo_pure rfl (pr_fieldAddr 0 rfl Tryz.underlying72 rfl ty_69 rfl rfl) ?_
 refine jo_store rfl rfl ty_69 [.pointer (some ⟨b, 0, none⟩)] rfl rfl rfl [.pointer (some ⟨b, 0, none⟩), v] rfl rfl ?_
 refine jo_nil (jq_fall ?_)
 exact jq_ret0 rfl () (show (.tuple #[] : Value) = (.tuple #[]) from rfl) (fun _ h => h)

theorem c_copyCheck_used (b : Nat) (v : Value)  : Con Tryz.prog 72 #[.pointer (some ⟨b, 0, none⟩)] [.box b 72 [.pointer (some ⟨b, 0, none⟩), v]] (fun _ : Unit => .tuple #[]) (fun _ => [.box b 72 [.pointer (some ⟨b, 0, none⟩), v]]) := by
 refine con_of_J (args := [.pointer (some ⟨b, 0, none⟩)]) (n := 20) Tryz.func72 rfl (Nat.le_of_ble_eq_true rfl) rfl (fun w0 I0 m0 => ?_)
 show J _ [(0, .pointer (some ⟨b, 0, none⟩))] [.box b 72 [.pointer (some ⟨b, 0, none⟩), v]] _
 refine jc_seq (jc_region (jo_pure rfl (pr_move rfl) (jo_pure rfl (pr_nilCheck rfl) ?_)))
 refine jo_pure rfl (pr_fieldAddr 0 rfl Tryz.underlying72 rfl ty_69 rfl rfl) ?_
 refine jo_pure rfl (pr_load_box (.pointer (some ⟨b, 0, none⟩)) rfl ty_69 (.head _) rfl (by decide) rfl) ?_
 refine jo_pure rfl (pr_eql_ptrnil rfl rfl Tryz.underlying69) ?_
 refine jo_nil (jq_then (jc_false rfl (rfl) ?_))
 refine jc_seq (jc_region (jo_pure rfl (pr_move rfl) (jo_pure rfl (pr_nilCheck rfl) ?_)))
 refine jo_pure rfl (pr_fieldAddr 0 rfl Tryz.underlying72 rfl ty_69 rfl rfl) ?_
 refine jo_pure rfl (pr_load_box (.pointer (some ⟨b, 0, none⟩)) rfl ty_69 (.head _) rfl (by decide) rfl) ?_
 refine jo_pure rfl (pr_move rfl) (jo_pure rfl (pr_neq_ptrsame rfl rfl Tryz.underlying69 ty_72) ?_)
 refine jo_nil (jq_then (jc_false rfl (rfl) ?_))
 refine jc_skip (jq_fall ?_)
 exact jq_ret0 rfl () (show (.tuple #[] : Value) = (.tuple #[]) from rfl) (fun _ h => h)

theorem c_WriteString_new (b : Nat) (v : Value) (xs s : List UInt8) (hl : xs.length + s.length ≤ 140737488355328) : Con Tryz.prog 44 #[.pointer (some ⟨b, 0, none⟩), str (s)] [.box b 72 [.pointer none, v], .row (v) 5 .u8 (xs)] (fun r1 : Value => .tuple #[.int .i64 ((s.length : Nat) : Int), .nilIface]) (fun r1 => [.box b 72 [.pointer (some ⟨b, 0, none⟩), r1], .row (r1) 5 .u8 (xs ++ s)]) := by
 refine con_of_J (args := [.pointer (some ⟨b, 0, none⟩), str (s)]) (n := 19) Tryz.func44 rfl (Nat.le_of_ble_eq_true rfl) rfl (fun w0 I0 m0 => ?_)
 show J _ [(0, .pointer (some ⟨b, 0, none⟩)), (1, str (s))] [.box b 72 [.pointer none, v], .row (v) 5 .u8 (xs)] _
 refine jc_seq (jc_region (jo_pure rfl (pr_assign rfl) (jo_pure rfl (pr_assign rfl) (jo_nil (jq_then ?_)))))
 refine jc_seq (jc_region (jo_pure rfl (pr_move rfl) ?_))
 refine jo_callm [.row (v) 5 .u8 (xs)] rfl cal_72 (c_copyCheck_new b v) ⟨rfl, trivial⟩ rfl (fun _ => ?_)
 show J _ _ [.box b 72 [.pointer (some ⟨b, 0, none⟩), v], .row (v) 5 .u8 (xs)] _
 refine jo_nil (jq_then (jc_seq (jc_region (jo_pure rfl (pr_move rfl) (jo_pure rfl (pr_move rfl) ?_)))))
 refine jo_pure rfl (pr_nilCheck rfl) ?_
 refine jo_pure rfl (pr_fieldAddr 1 rfl Tryz.underlying72 rfl ty_70 rfl rfl) ?_
 refine jo_pure rfl (pr_load_box (v) rfl ty_70 (.head _) rfl (by decide) rfl) ?_
 refine jo_pure rfl (pr_move rfl) (j_pull1 ?_)
 refine jo_append_str rfl rfl Tryz.underlying70 Tryz.underlying9 ty_5 rfl (hl) rfl (fun v1 => ?_)
 refine jo_pure rfl (pr_nilCheck rfl) ?_
 refine jo_pure rfl (pr_fieldAddr 1 rfl Tryz.underlying72 rfl ty_70 rfl rfl) ?_
 refine j_pull1 (jo_storeV rfl rfl ty_70 [v1] (fun w I m hs => (SliceV.cells (row_slice (.tail _ (.head _)) hs))) rfl (fun w I m hs => by simp only [List.all_cons, List.all_nil, Bool.and_true, Bool.and_eq_true]; exact (SliceV.one (row_slice (.tail _ (.head _)) hs))) [.pointer (some ⟨b, 0, none⟩), v1] rfl rfl ?_)
 refine jo_nil (jq_then (jc_seq (jc_region (jo_pure rfl (pr_move rfl) (jo_pure rfl (pr_slen rfl Tryz.underlying9) ?_)))))
 refine jo_pure rfl (pr_assign rfl) (jo_pure rfl (pr_assign rfl) (jo_nil (jq_then (jc_ret (j_pull1 ?_)))))
 refine j_pull1 ?_
 exact jq_rets (rs := [.tmp 4, .tmp 5]) (vs := [.int .i64 ((s.length : Nat) : Int), .nilIface]) rfl v1 ⟨resV_tmp rfl, resV_tmp rfl, trivial⟩ rfl (show (.tuple #[.int .i64 ((s.length : Nat) : Int), .nilIface] : Value) = (.tuple #[.int .i64 ((s.length : Nat) : Int), .nilIface]) from rfl) (fun _ h => h)

theorem c_WriteString_used (b : Nat) (v : Value) (xs s : List UInt8) (hl : xs.length + s.length ≤ 140737488355328) : Con Tryz.prog 44 #[.pointer (some ⟨b, 0, none⟩), str (s)] [.box b 72 [.pointer (some ⟨b, 0, none⟩), v], .row (v) 5 .u8 (xs)] (fun r1 : Value => .tuple #[.int .i64 ((s.length : Nat) : Int), .nilIface]) (fun r1 => [.box b 72 [.pointer (some ⟨b, 0, none⟩), r1], .row (r1) 5 .u8 (xs ++ s)]) := by
 refine con_of_J (args := [.pointer (some ⟨b, 0, none⟩), str (s)]) (n := 19) Tryz.func44 rfl (Nat.le_of_ble_eq_true rfl) rfl (fun w0 I0 m0 => ?_)
 show J _ [(0, .pointer (some ⟨b, 0, none⟩)), (1, str (s))] [.box b 72 [.pointer (some ⟨b, 0, none⟩), v], .row (v) 5 .u8 (xs)] _
 refine jc_seq (jc_region (jo_pure rfl (pr_assign rfl) (jo_pure rfl (pr_assign rfl) (jo_nil (jq_then ?_)))))
 refine jc_seq (jc_region (jo_pure rfl (pr_move rfl) ?_))
 refine jo_callm [.row (v) 5 .u8 (xs)] rfl cal_72 (c_copyCheck_used b v) ⟨rfl, trivial⟩ rfl (fun _ => ?_)
 show J _ _ [.box b 72 [.pointer (some ⟨b, 0, none⟩), v], .row (v) 5 .u8 (xs)] _
 refine jo_nil (jq_then (jc_seq (jc_region (jo_pure rfl (pr_move rfl) (jo_pure rfl (pr_move rfl) ?_)))))
 refine jo_pure rfl (pr_nilCheck rfl) ?_
 refine jo_pure rfl (pr_fieldAddr 1 rfl Tryz.underlying72 rfl ty_70 rfl rfl) ?_
 refine jo_pure rfl (pr_load_box (v) rfl ty_70 (.head _) rfl (by decide) rfl) ?_
 refine jo_pure rfl (pr_move rfl) (j_pull1 ?_)
 refine jo_append_str rfl rfl Tryz.underlying70 Tryz.underlying9 ty_5 rfl (hl) rfl (fun v1 => ?_)
 refine jo_pure rfl (pr_nilCheck rfl) ?_
 refine jo_pure rfl (pr_fieldAddr 1 rfl Tryz.underlying72 rfl ty_70 rfl rfl) ?_
 refine j_pull1 (jo_storeV rfl rfl ty_70 [v1] (fun w I m hs => (SliceV.cells (row_slice (.tail _ (.head _)) hs))) rfl (fun w I m hs => by simp only [List.all_cons, List.all_nil, Bool.and_true, Bool.and_eq_true]; exact (SliceV.one (row_slice (.tail _ (.head _)) hs))) [.pointer (some ⟨b, 0, none⟩), v1] rfl rfl ?_)
 refine jo_nil (jq_then (jc_seq (jc_region (jo_pure rfl (pr_move rfl) (jo_pure rfl (pr_slen rfl Tryz.underlying9) ?_)))))
 refine jo_pure rfl (pr_assign rfl) (jo_pure rfl (pr_assign rfl) (jo_nil (jq_then (jc_ret (j_pull1 ?_)))))
 refine j_pull1 ?_
 exact jq_rets (rs := [.tmp 4, .tmp 5]) (vs := [.int .i64 ((s.length : Nat) : Int), .nilIface]) rfl v1 ⟨resV_tmp rfl, resV_tmp rfl, trivial⟩ rfl (show (.tuple #[.int .i64 ((s.length : Nat) : Int), .nilIface] : Value) = (.tuple #[.int .i64 ((s.length : Nat) : Int), .nilIface]) from rfl) (fun _ h => h)

theorem c_WriteString_any (b : Nat) (p v : Value) (xs s : List UInt8) (hp : p = .pointer none ∨ p = .pointer (some ⟨b, 0, none⟩)) (hl : xs.length + s.length ≤ 140737488355328) : Con Tryz.prog 44 #[.pointer (some ⟨b, 0, none⟩), str (s)] [.box b 72 [p, v], .row (v) 5 .u8 (xs)] (fun r1 : Value => .tuple #[.int .i64 ((s.length : Nat) : Int), .nilIface]) (fun r1 => [.box b 72 [.pointer (some ⟨b, 0, none⟩), r1], .row (r1) 5 .u8 (xs ++ s)]) := by
 rcases hp with rfl | rfl
 ·exact c_WriteString_new b v xs s hl
 ·exact c_WriteString_used b v xs s hl

theorem c_Builder_String (b : Nat) (p v : Value) (xs : List UInt8)  : Con Tryz.prog 47 #[.pointer (some ⟨b, 0, none⟩)] [.box b 72 [p, v], .row (v) 5 .u8 (xs)] (fun _ : Unit => str (xs)) (fun _ => []) := by
 refine con_of_J (args := [.pointer (some ⟨b, 0, none⟩)]) (n := 14) Tryz.func47 rfl (Nat.le_of_ble_eq_true rfl) rfl (fun w0 I0 m0 => ?_)
 show J _ [(0, .pointer (some ⟨b, 0, none⟩))] [.box b 72 [p, v], .row (v) 5 .u8 (xs)] _
 refine j_pull1 (j_len_row ?_)
 refine jc_seq (jc_region (jo_pure rfl (pr_assign rfl) (jo_nil (jq_then (jc_seq ?_)))))
 refine jc_held (fun (_ : Unit) => [(2, str (xs))]) (fun _ => [.fact (LenF (v) ((xs).length)), .box b 72 [p, v]]) [.fact (LenF (v) ((xs).length)), .box b 72 [p, v]] mixed (fun lst hlst => ?_) (fun _ => ?_)
 ·subst hlst
  refine jh_take (listed' := #[true, false, false, false, false, false, false, false, false, false, false, false]) 0 rfl (by kernel_rfl) (by kernel_rfl) (by kernel_rfl) rfl (pr_move rfl) (fun _ h => Mem.drop1 (h)) rfl ?_
  refine jh_take (listed' := #[true, true, false, false, false, false, false, false, false, false, false, false]) 1 rfl (by kernel_rfl) (by kernel_rfl) (by kernel_rfl) rfl (pr_nilCheck rfl) (fun _ h => Mem.drop1 (h)) rfl ?_
  refine jh_take (listed' := #[true, true, true, false, false, false, false, false, false, false, false, false]) 2 rfl (by kernel_rfl) (by kernel_rfl) (by kernel_rfl) rfl (pr_fieldAddr 1 rfl Tryz.underlying72 rfl ty_70 rfl rfl) (fun _ h => Mem.drop1 (h)) rfl ?_
  refine jh_take (listed' := #[true, true, true, true, false, false, false, false, false, false, false, false]) 3 rfl (by kernel_rfl) (by kernel_rfl) (by kernel_rfl) rfl (pr_load_box (v) rfl ty_70 (.tail _ (.head _)) rfl (by decide) rfl) (fun _ h => Mem.drop1 (h)) rfl ?_
  refine jh_take (listed' := #[true, true, true, true, false, true, false, false, false, false, false, false]) 5 rfl (by kernel_rfl) (by kernel_rfl) (by kernel_rfl) rfl (pr_move rfl) (fun _ h => Mem.drop1 (h)) rfl ?_
  refine jh_take (listed' := #[true, true, true, true, false, true, true, false, false, false, false, false]) 6 rfl (by kernel_rfl) (by kernel_rfl) (by kernel_rfl) rfl (pr_nilCheck rfl) (fun _ h => Mem.drop1 (h)) rfl ?_
  refine jh_take (listed' := #[true, true, true, true, false, true, true, true, false, false, false, false]) 7 rfl (by kernel_rfl) (by kernel_rfl) (by kernel_rfl) rfl (pr_fieldAddr 1 rfl Tryz.underlying72 rfl ty_70 rfl rfl) (fun _ h => Mem.drop1 (h)) rfl ?_
  refine jh_take (listed' := #[true, true, true, true, false, true, true, true, true, false, false, false]) 8 rfl (by kernel_rfl) (by kernel_rfl) (by kernel_rfl) rfl (pr_load_box (v) rfl ty_70 (.tail _ (.head _)) rfl (by decide) rfl) (fun _ h => Mem.drop1 (h)) rfl ?_
  refine jh_take (listed' := #[true, true, true, true, false, true, true, true, true, true, false, false]) 9 rfl (by kernel_rfl) (by kernel_rfl) (by kernel_rfl) rfl (pr_len_fact rfl (.head _) Tryz.underlying70) (fun _ h => Mem.drop1 (h)) rfl ?_
  refine jh_all [4] (by kernel_rfl) (by simp) (fun i hi => ?_)
  simp only [List.mem_cons, List.not_mem_nil, or_false] at hi
  subst hi
  ·refine jh_op rfl ?_
   refine jo_ssd rfl Tryz.underlying105 rfl (fun p1 => ?_)
   refine jh_in (listed' := #[true, true, true, true, true, true, true, true, true, true, false, false]) (fun _ h => Mem.drop1 (Mem.drop1 (h))) rfl ?_
   refine jh_all [10] (by kernel_rfl) (by simp) (fun i hi => ?_)
   simp only [List.mem_cons, List.not_mem_nil, or_false] at hi
   subst hi
   ·refine jh_op rfl ?_
    refine jo_ustr rfl rfl (.head _) Tryz.underlying105 (by kernel_rfl) rfl ?_
    refine jh_in (listed' := #[true, true, true, true, true, true, true, true, true, true, true, false]) (fun _ h => Mem.drop1 (h)) rfl ?_
    refine jh_take (listed' := #[true, true, true, true, true, true, true, true, true, true, true, true]) 11 rfl (by kernel_rfl) (by kernel_rfl) (by kernel_rfl) rfl (pr_assign rfl) (fun _ h => Mem.drop1 (h)) rfl ?_
    show J _ _ _ _
    refine j_drop (j_pull1 (j_pull1 ?_))
    show JH _ _ _ _ _ _ _ _
    exact jh_done () (by kernel_rfl) ⟨rfl, trivial⟩ (fun _ h => h)
 ·skip
  refine jq_then (jc_ret (j_drop (j_drop ?_)))
  exact jq_ret1 rfl () rfl (show (str (xs) : Value) = (str (xs)) from rfl) (fun _ h => h)

theorem c_param_Format (value : List UInt8) (l : List ((List UInt8) × (List UInt8))) (lv : Value) (hl : l.length ≤ 1000000) (hm : ∀ x ∈ l, x.1.length ≤ 1000000 ∧ x.2.length ≤ 1000000) (hv : value.length ≤ 1000000) : Con Tryz.prog 112 #[str (value), lv] [.imm (.list (.pair .str .str)) (lv) (l)] (fun _ : Unit => str (formatP value l)) (fun _ => []) := by
 refine con_of_J (args := [str (value), lv]) (n := 33) Tryz.func112 rfl (Nat.le_of_ble_eq_true rfl) rfl (fun w0 I0 m0 => ?_)
 show J _ [(0, str (value)), (1, lv)] [.imm (.list (.pair .str .str)) (lv) (l)] _
 refine jc_seq (jc_region (jo_pure rfl (pr_assign rfl) (jo_nil (jq_then (jc_seq ?_)))))
 refine jc_region ?_
 refine jo_alloc ty_72 [.pointer none, .slice none 0 0] rfl rfl (fun b1 => ?_)
 refine jo_nil (jq_then (jc_seq (jc_region (jo_pure rfl (pr_move rfl) (j_nil_row 5 .u8 ?_)))))
 refine j_pull1 ?_
 refine jo_callm [.imm (.list (.pair .str .str)) (lv) (l)] rfl cal_44 (c_WriteString_new b1 (.slice none 0 0) [] value (by simp only [List.length_append, List.length_cons, List.length_nil] at *; omega)) ⟨rfl, rfl, trivial⟩ rfl (fun r1 => ?_)
 show J _ _ [.box b1 72 [.pointer (some ⟨b1, 0, none⟩), r1], .row (r1) 5 .u8 ([] ++ value), .imm (.list (.pair .str .str)) (lv) (l)] _
 refine jo_nil (jq_then (jc_seq (jc_seq (jc_region (jo_pure rfl (pr_move rfl) ?_)))))
 refine jo_pure rfl (pr_len_imm rfl (.tail _ (.tail _ (.head _))) Tryz.underlying62) ?_
 refine jo_pure rfl (pr_move rfl) (jo_nil (jq_then (jc_block ?_)))
 refine jc_loop3 (fun (i : Nat) (bv : Value) (acc : List UInt8) => [(5, .pointer (some ⟨b1, 0, none⟩)), (10, lv), (11, .int .i64 ((l.length : Nat) : Int)), (12, .int .i64 ((i : Nat) : Int))]) (fun (i : Nat) (bv : Value) (acc : List UInt8) => [.box b1 72 [.pointer (some ⟨b1, 0, none⟩), bv], .row (bv) 5 .u8 (acc), .imm (.list (.pair .str .str)) (lv) (l)]) (fun (i : Nat) (bv : Value) (acc : List UInt8) => i ≤ l.length ∧ acc.length ≤ value.length + i * 4000010 ∧ acc = value ++ (l.take i).flatMap (fun p => 59 :: pieceP p)) (fun (i : Nat) (bv : Value) (acc : List UInt8) => l.length - i) 0 r1 ([] ++ value) (⟨Nat.zero_le _, by simp only [List.nil_append]; omega, by simp⟩) (⟨rfl, rfl, rfl, rfl, trivial⟩) (fun _ h => h) (fun i bv acc hinv => ?_)
 refine jc_seq (jc_region (jo_pure rfl (pr_lssN (m := i) (n := l.length) rfl rfl) ?_))
 refine jo_nil (jq_then (jc_seq ?_))
 refine jc_cond rfl (fun h1b => ?_) (fun h1b => ?_)
 ·have h1 := of_decide_eq_true h1b
  have hxi := hm _ (getD_mem (dd := ([], [])) h1)
  have hq := quote_length (l.getD i ([], [])).2
  refine jc_skip (jq_then (jc_seq (jc_block (jc_seq (jc_region ?_)))))
  refine jo_pure rfl (pr_idx_imm (i := i) rfl (.tail _ (.tail _ (.head _))) rfl Tryz.underlying62 ty_81 (by omega)) ?_
  refine jo_pure rfl (pr_load_elem_imm (i := i) (.agg #[str ((l.getD i ([], [])).1), str ((l.getD i ([], [])).2)]) rfl (.tail _ (.tail _ (.head _))) ty_81 rfl rfl (by omega) rfl) ?_
  refine jo_alloc ty_81 [str ([]), str ([])] rfl rfl (fun b2 => ?_)
  refine jo_store rfl rfl ty_81 [str ((l.getD i ([], [])).1), str ((l.getD i ([], [])).2)] rfl rfl rfl [str ((l.getD i ([], [])).1), str ((l.getD i ([], [])).2)] rfl rfl ?_
  refine jo_nil (jq_then (jc_seq (jc_region (jo_pure rfl (pr_fieldAddr 0 rfl Tryz.underlying81 rfl ty_9 rfl rfl) ?_))))
  refine jo_pure rfl (pr_load_box (str ((l.getD i ([], [])).1)) rfl ty_9 (.head _) rfl (by decide) rfl) ?_
  refine jo_pure rfl (pr_sadd rfl rfl (by simp only [List.length_append, List.length_cons, List.length_nil] at *; omega)) ?_
  refine jo_pure rfl (pr_sadd rfl rfl (by simp only [List.length_append, List.length_cons, List.length_nil] at *; omega)) ?_
  refine j_pull2 (j_pull2 ?_)
  refine jo_callm [.box b2 81 [str ((l.getD i ([], [])).1), str ((l.getD i ([], [])).2)], .imm (.list (.pair .str .str)) (lv) (l)] rfl cal_44 (c_WriteString_used b1 bv acc (([59] ++ ((l.getD i ([], [])).1)) ++ [61]) (by simp only [List.length_append, List.length_cons, List.length_nil] at *; omega)) ⟨rfl, rfl, trivial⟩ rfl (fun r2 => ?_)
  show J _ _ [.box b1 72 [.pointer (some ⟨b1, 0, none⟩), r2], .row (r2) 5 .u8 (acc ++ (([59] ++ ((l.getD i ([], [])).1)) ++ [61])), .box b2 81 [str ((l.getD i ([], [])).1), str ((l.getD i ([], [])).2)], .imm (.list (.pair .str .str)) (lv) (l)] _
  refine jo_nil (jq_then (jc_seq (jc_region (jo_pure rfl (pr_fieldAddr 1 rfl Tryz.underlying81 rfl ty_9 rfl rfl) ?_))))
  refine jo_pure rfl (pr_load_box (str ((l.getD i ([], [])).2)) rfl ty_9 (.tail _ (.tail _ (.head _))) rfl (by decide) rfl) ?_
  refine jo_callp cal_37 (c_ascii_Token ((l.getD i ([], [])).2) (by first | omega | exact hxi.1 | exact hxi.2)) ⟨rfl, trivial⟩ rfl (trivial) (fun _ => ?_)
  refine jo_nil (jq_then ?_)
  refine jc_cond rfl (fun h2b => ?_) (fun h2b => ?_)
  ·have h2 := id h2b
   refine jc_region (jo_pure rfl (pr_fieldAddr 1 rfl Tryz.underlying81 rfl ty_9 rfl rfl) ?_)
   refine jo_pure rfl (pr_load_box (str ((l.getD i ([], [])).2)) rfl ty_9 (.tail _ (.tail _ (.head _))) rfl (by decide) rfl) ?_
   refine j_pull1 (j_pull1 ?_)
   refine jo_callm [.box b2 81 [str ((l.getD i ([], [])).1), str ((l.getD i ([], [])).2)], .imm (.list (.pair .str .str)) (lv) (l)] rfl cal_44 (c_WriteString_used b1 r2 (acc ++ (([59] ++ ((l.getD i ([], [])).1)) ++ [61])) ((l.getD i ([], [])).2) (by simp only [List.length_append, List.length_cons, List.length_nil] at *; omega)) ⟨rfl, rfl, trivial⟩ rfl (fun r3 => ?_)
   show J _ _ [.box b1 72 [.pointer (some ⟨b1, 0, none⟩), r3], .row (r3) 5 .u8 ((acc ++ (([59] ++ ((l.getD i ([], [])).1)) ++ [61])) ++ ((l.getD i ([], [])).2)), .box b2 81 [str ((l.getD i ([], [])).1), str ((l.getD i ([], [])).2)], .imm (.list (.pair .str .str)) (lv) (l)] _
   refine jo_nil (jq_in_normal (jq_then (jc_region (jo_pure rfl (pr_addN (m := i) (n := 1) rfl rfl (by omega)) ?_))))
   refine jo_pure rfl (pr_move rfl) (jo_nil (j_pull2 (j_drop (j_pull2 (j_pull2 ?_)))))
   refine j_pull2 ?_
   refine jq_round' ((i + 1), r3, ((acc ++ (([59] ++ ((l.getD i ([], [])).1)) ++ [61])) ++ ((l.getD i ([], [])).2))) (by (try dsimp only); exact (⟨by omega, by simp only [List.length_append, List.length_cons, List.length_nil] at *; omega, format_tok h1 hinv.2.2 h2⟩)) (by (try dsimp only); exact (by omega)) ⟨rfl, rfl, rfl, rfl, trivial⟩ (fun _ h => h)
  ·have h2 := id h2b
   refine jc_region (jo_pure rfl (pr_fieldAddr 1 rfl Tryz.underlying81 rfl ty_9 rfl rfl) ?_)
   refine jo_pure rfl (pr_load_box (str ((l.getD i ([], [])).2)) rfl ty_9 (.tail _ (.tail _ (.head _))) rfl (by decide) rfl) ?_
   refine jo_callp cal_74 (c_ascii_Quote ((l.getD i ([], [])).2) (by first | omega | exact hxi.1 | exact hxi.2)) ⟨rfl, trivial⟩ rfl (trivial) (fun _ => ?_)
   refine j_pull1 (j_pull1 ?_)
   refine jo_callm [.box b2 81 [str ((l.getD i ([], [])).1), str ((l.getD i ([], [])).2)], .imm (.list (.pair .str .str)) (lv) (l)] rfl cal_44 (c_WriteString_used b1 r2 (acc ++ (([59] ++ ((l.getD i ([], [])).1)) ++ [61])) (quote ((l.getD i ([], [])).2)) (by simp only [List.length_append, List.length_cons, List.length_nil] at *; omega)) ⟨rfl, rfl, trivial⟩ rfl (fun r4 => ?_)
   show J _ _ [.box b1 72 [.pointer (some ⟨b1, 0, none⟩), r4], .row (r4) 5 .u8 ((acc ++ (([59] ++ ((l.getD i ([], [])).1)) ++ [61])) ++ (quote ((l.getD i ([], [])).2))), .box b2 81 [str ((l.getD i ([], [])).1), str ((l.getD i ([], [])).2)], .imm (.list (.pair .str .str)) (lv) (l)] _
   refine jo_nil (jq_in_normal (jq_then (jc_region (jo_pure rfl (pr_addN (m := i) (n := 1) rfl rfl (by omega)) ?_))))
   refine jo_pure rfl (pr_move rfl) (jo_nil (j_pull2 (j_drop (j_pull2 (j_pull2 ?_)))))
   refine j_pull2 ?_
   refine jq_round' ((i + 1), r4, ((acc ++ (([59] ++ ((l.getD i ([], [])).1)) ++ [61])) ++ (quote ((l.getD i ([], [])).2)))) (by (try dsimp only); exact (⟨by omega, by simp only [List.length_append, List.length_cons, List.length_nil] at *; omega, format_quo h1 hinv.2.2 h2⟩)) (by (try dsimp only); exact (by omega)) ⟨rfl, rfl, rfl, rfl, trivial⟩ (fun _ h => h)
 ·have h1 := of_decide_eq_false h1b
  refine jc_exit ?_
  refine jq_then_exit ?_
  refine jq_then_exit ?_
  refine jq_in_hit ?_
  refine jq_then (jc_seq (jc_region (j_pull1 (j_pull1 ?_))))
  refine jo_callm [.imm (.list (.pair .str .str)) (lv) (l)] rfl cal_47 (c_Builder_String b1 (.pointer (some ⟨b1, 0, none⟩)) bv acc) ⟨rfl, trivial⟩ rfl (fun _ => ?_)
  show J _ _ [.imm (.list (.pair .str .str)) (lv) (l)] _
  refine jo_pure rfl (pr_assign rfl) (jo_nil (jq_then (jc_ret (j_drop ?_))))
  exact jq_ret1 rfl () rfl (show (str (formatP value l) : Value) = (str (acc)) from congrArg str (by rw [hinv.2.2, take_over (by omega)]; rfl)) (fun _ h => h)

theorem c_ascii_Fold (a : List UInt8) (b : List UInt8) (ha : a.length ≤ 1000000) (hb : b.length ≤ 1000000) : Con Tryz.prog 39 #[str (a), str (b)] [] (fun _ : Unit => .bool (fold a b)) (fun _ => []) := by
 refine con_of_J (args := [str (a), str (b)]) (n := 17) Tryz.func39 rfl (Nat.le_of_ble_eq_true rfl) rfl (fun w0 I0 m0 => ?_)
 show J _ [(0, str (a)), (1, str (b))] [] _
 refine jc_seq (jc_region (jo_pure rfl (pr_assign rfl) (jo_nil (jq_then (jc_seq ?_)))))
 refine jc_region (jo_pure rfl (pr_move rfl) (jo_pure rfl (pr_slen rfl Tryz.underlying9) ?_))
 refine jo_pure rfl (pr_move rfl) (jo_pure rfl (pr_slen rfl Tryz.underlying9) ?_)
 refine jo_pure rfl (pr_eqlN (m := a.length) (n := b.length) rfl rfl) ?_
 refine jo_pure rfl (pr_move rfl) (jo_gpure (j := 5) (want := true) rfl rfl rfl rfl (fun hg => pr_move rfl) ?_)
 refine jo_gcall (j := 5) (want := true) rfl rfl rfl cal_42 (fun hg => c_ascii_Lower a (by omega)) (fun hg => ⟨evg rfl hg, trivial⟩) rfl (fun _ => trivial) ?_
 refine jo_gpure (j := 5) (want := true) rfl rfl rfl rfl (fun hg => pr_move rfl) ?_
 refine jo_gcall (j := 5) (want := true) rfl rfl rfl cal_42 (fun hg => c_ascii_Lower b (by omega)) (fun hg => ⟨evg rfl hg, trivial⟩) rfl (fun _ => trivial) ?_
 refine jo_gpure (j := 5) (want := true) rfl rfl rfl rfl (fun hg => pr_seql (evg rfl hg) (evg rfl hg)) ?_
 refine jo_pure rfl (pr_pick_and rfl rfl rfl) ?_
 refine jo_pure rfl (pr_assign rfl) (jo_nil (jq_then (jc_ret ?_)))
 exact jq_ret1 rfl () rfl (show (.bool (fold a b) : Value) = (.bool ((decide ((a.length : Nat) = b.length) && decide ((lower a : List UInt8) = lower b)))) from rfl) (fun _ h => h)

theorem c_mediatype_ParseRange (s : List UInt8) (hs : s.length ≤ 1000000) : Con Tryz.prog 62 #[str (s)] [] (fun r1 : Value => .tuple #[.agg #[str ((parseR s).1.1), str ((parseR s).1.2.1), r1], .bool ((parseR s).2)]) (fun r1 => [.row r1 81 (.pair .str .str) ((parseR s).1.2.2)]) := by
 refine con_of_J (args := [str (s)]) (n := 48) Tryz.func62 rfl (Nat.le_of_ble_eq_true rfl) rfl (fun w0 I0 m0 => ?_)
 show J _ [(0, str (s))] [] _
 refine jc_seq (jc_region ?_)
 refine jo_alloc ty_64 [str ([]), str ([]), .slice none 0 0] rfl rfl (fun b1 => ?_)
 refine jo_pure rfl (pr_assign rfl) (jo_nil (jq_then (jc_seq (jc_region (jo_pure rfl (pr_move rfl) ?_)))))
 refine jo_callp cal_56 (c_param_Parse s (by first | omega | rfl | (have := parseP_len1 s; omega) | (have := parseP_len1 s; simp only [List.length_take, List.length_drop]; omega))) ⟨rfl, trivial⟩ rfl (trivial) (fun r1 => ?_)
 show J _ _ [.row (r1) 81 (.pair .str .str) ((parseP s).2.1), .box b1 64 [str ([]), str ([]), .slice none 0 0]] _
 refine jo_pure rfl (pr_move rfl) (jo_pure rfl (pr_extract rfl rfl) ?_)
 refine jo_pure rfl (pr_extract rfl rfl) ?_
 refine jo_pure rfl (pr_extract rfl rfl) ?_
 refine jo_pure rfl (pr_assign rfl) (jo_pure rfl (pr_assign rfl) (jo_pure rfl (pr_assign rfl) (jo_nil (jq_then (jc_seq ?_)))))
 refine jc_seq (jc_region (jo_pure rfl (pr_move rfl) (jo_pure rfl (pr_not rfl) ?_)))
 refine jo_nil (jq_then ?_)
 refine jc_cond rfl (fun h1b => ?_) (fun h1b => ?_)
 ·have h1 := (fun q => id (bt_not q)) h1b
  refine jc_seq (jc_region (jo_pure rfl (pr_build [] [str ([]), str ([]), .slice none 0 0] (fun a hf => by simp) (by kernel_rfl)) ?_))
  refine j_pull1 (jo_store rfl rfl ty_64 [str ([]), str ([]), .slice none 0 0] rfl rfl rfl [str ([]), str ([]), .slice none 0 0] rfl rfl ?_)
  refine jo_pure rfl (pr_assign rfl) (jo_nil (jq_then (jc_ret (jq_then_ret (j_nil_row 81 (.pair .str .str) ?_)))))
  refine j_pull2 (j_drop (j_pull1 (j_pull1 ?_)))
  exact jq_rets (rs := [.cell 2 64, .tmp 3]) (vs := [.agg #[str ([]), str ([]), .slice none 0 0], .bool (false)]) rfl (.slice none 0 0) ⟨resV_box (.agg #[str ([]), str ([]), .slice none 0 0]) rfl ty_64 (.tail _ (.head _)) rfl (by decide) rfl, resV_tmp rfl, trivial⟩ rfl (show (.tuple #[.agg #[str ((parseR s).1.1), str ((parseR s).1.2.1), (.slice none 0 0)], .bool ((parseR s).2)] : Value) = (.tuple #[.agg #[str ([]), str ([]), .slice none 0 0], .bool (false)]) from by rw [parseR_no (.inl h1)]) (fun w h => (fun h => by rw [parseR_no (.inl h1)]; exact h) (Mem.front (As := [.row (.slice none 0 0) 81 (.pair .str .str) ([])]) h))
 ·have h1 := (fun q => id (bf_not q)) h1b
  refine jc_skip (jq_then (jc_seq (jc_region (jo_pure rfl (pr_move rfl) ?_))))
  refine jo_callp cal_93 (c_strings_Cut ((parseP s).1) [47] 47 (rfl) (by first | omega | rfl | (have := parseP_len1 s; omega) | (have := parseP_len1 s; simp only [List.length_take, List.length_drop]; omega))) ⟨rfl, rfl, trivial⟩ rfl (trivial) (fun _ => ?_)
  refine jo_pure rfl (pr_move rfl) (jo_pure rfl (pr_extract rfl rfl) ?_)
  refine jo_pure rfl (pr_extract rfl rfl) ?_
  refine jo_pure rfl (pr_extract rfl rfl) ?_
  refine jo_pure rfl (pr_assign rfl) (jo_pure rfl (pr_assign rfl) (jo_pure rfl (pr_assign rfl) (jo_nil (jq_then (jc_seq ?_)))))
  refine jc_seq (jc_region (jo_pure rfl (pr_move rfl) ?_))
  refine jo_callp cal_37 (c_ascii_Token (((parseP s).1).take (pos ((parseP s).1) 47)) (by first | omega | rfl | (have := parseP_len1 s; omega) | (have := parseP_len1 s; simp only [List.length_take, List.length_drop]; omega))) ⟨rfl, trivial⟩ rfl (trivial) (fun _ => ?_)
  refine jo_pure rfl (pr_not rfl) ?_
  refine jo_pure rfl (pr_move rfl) (jo_gpure (j := 3) (want := false) rfl rfl rfl rfl (fun hg => pr_move rfl) ?_)
  refine jo_gcall (j := 3) (want := false) rfl rfl rfl cal_37 (fun hg => c_ascii_Token (((parseP s).1).drop (pos ((parseP s).1) 47 + 1)) (by first | omega | rfl | (have := parseP_len1 s; omega) | (have := parseP_len1 s; simp only [List.length_take, List.length_drop]; omega))) (fun hg => ⟨evg rfl hg, trivial⟩) rfl (fun _ => trivial) ?_
  refine jo_gpure (j := 3) (want := false) rfl rfl rfl rfl (fun hg => pr_not (evg rfl hg)) ?_
  refine jo_pure rfl (pr_pick_or rfl rfl rfl) ?_
  refine jo_pure rfl (pr_move rfl) (jo_gpure (j := 8) (want := false) rfl rfl rfl rfl (fun hg => pr_move rfl) ?_)
  refine jo_gpure (j := 8) (want := false) rfl rfl rfl rfl (fun hg => pr_seql (evg rfl hg) rfl) ?_
  refine jo_gpure (j := 8) (want := false) rfl rfl rfl rfl (fun hg => pr_move (evg rfl hg)) ?_
  refine jo_gpure2 (j := 11) (want := true) rfl rfl rfl rfl (fun hg => pr_move rfl) ?_
  refine jo_gpure2 (j := 11) (want := true) rfl rfl rfl rfl (fun hg => pr_sneq (evg rfl hg) rfl) ?_
  refine jo_gpure (j := 8) (want := false) rfl rfl rfl rfl (fun hg => pr_pick_and (evg rfl hg) (evg2 rfl hg) rfl) ?_
  refine jo_pure rfl (pr_pick_or rfl rfl rfl) ?_
  refine jo_nil (jq_then ?_)
  refine jc_cond rfl (fun h2b => ?_) (fun h2b => ?_)
  ·have h2 := (fun q => Or.imp (fun q => Or.imp (fun q => id (bt_not q)) (fun q => id (bt_not q)) (bt_or q)) (fun q => And.imp of_decide_eq_true (fun q => of_decide_eq_false (bt_not q)) (bt_and q)) (bt_or q)) h2b
   refine jc_seq (jc_region (jo_pure rfl (pr_build [] [str ([]), str ([]), .slice none 0 0] (fun a hf => by simp) (by kernel_rfl)) ?_))
   refine j_pull1 (jo_store rfl rfl ty_64 [str ([]), str ([]), .slice none 0 0] rfl rfl rfl [str ([]), str ([]), .slice none 0 0] rfl rfl ?_)
   refine jo_pure rfl (pr_assign rfl) (jo_nil (jq_then (jc_ret (jq_then_ret (j_nil_row 81 (.pair .str .str) ?_)))))
   refine j_pull2 (j_drop (j_pull1 (j_pull1 ?_)))
   exact jq_rets (rs := [.cell 2 64, .tmp 3]) (vs := [.agg #[str ([]), str ([]), .slice none 0 0], .bool (false)]) rfl (.slice none 0 0) ⟨resV_box (.agg #[str ([]), str ([]), .slice none 0 0]) rfl ty_64 (.tail _ (.head _)) rfl (by decide) rfl, resV_tmp rfl, trivial⟩ rfl (show (.tuple #[.agg #[str ((parseR s).1.1), str ((parseR s).1.2.1), (.slice none 0 0)], .bool ((parseR s).2)] : Value) = (.tuple #[.agg #[str ([]), str ([]), .slice none 0 0], .bool (false)]) from by rw [parseR_no (.inr (by rw [okRange_eq, h2b]; rfl))]) (fun w h => (fun h => by rw [parseR_no (.inr (by rw [okRange_eq, h2b]; rfl))]; exact h) (Mem.front (As := [.row (.slice none 0 0) 81 (.pair .str .str) ([])]) h))
  ·have h2 := (fun q => And.imp (fun q => And.imp (fun q => id (bf_not q)) (fun q => id (bf_not q)) (bf_or q)) (fun q => Or.imp of_decide_eq_false (fun q => of_decide_eq_true (bf_not q)) (bf_and q)) (bf_or q)) h2b
   refine jc_skip (jq_then (jc_seq (jc_region (jo_pure rfl (pr_move rfl) ?_))))
   refine jo_callp cal_42 (c_ascii_Lower (((parseP s).1).take (pos ((parseP s).1) 47)) (by first | omega | rfl | (have := parseP_len1 s; omega) | (have := parseP_len1 s; simp only [List.length_take, List.length_drop]; omega))) ⟨rfl, trivial⟩ rfl (trivial) (fun _ => ?_)
   refine jo_pure rfl (pr_move rfl) ?_
   refine jo_callp cal_42 (c_ascii_Lower (((parseP s).1).drop (pos ((parseP s).1) 47 + 1)) (by first | omega | rfl | (have := parseP_len1 s; omega) | (have := parseP_len1 s; simp only [List.length_take, List.length_drop]; omega))) ⟨rfl, trivial⟩ rfl (trivial) (fun _ => ?_)
   refine jo_pure rfl (pr_move rfl) (jo_pure rfl (pr_buildV [(0, str (lower (((parseP s).1).take (pos ((parseP s).1) 47)))), (1, str (lower (((parseP s).1).drop (pos ((parseP s).1) 47 + 1)))), (2, r1)] [str (lower (((parseP s).1).take (pos ((parseP s).1) 47))), str (lower (((parseP s).1).drop (pos ((parseP s).1) 47 + 1))), r1] (fun a hf => by simp only [List.map_toArray, List.map_cons, List.map_nil, hf.ev (show ev _ (.tmp 43) = some (str (lower (((parseP s).1).take (pos ((parseP s).1) 47)))) from rfl), hf.ev (show ev _ (.tmp 45) = some (str (lower (((parseP s).1).drop (pos ((parseP s).1) 47 + 1)))) from rfl), hf.ev (show ev _ (.tmp 46) = some (r1) from rfl)]) (fun w I m hs => by obtain ⟨_, _, _, e0⟩ := row_slice (.head _) hs; rw [e0]; kernel_rfl)) ?_)
   refine j_pull1 (jo_storeV rfl rfl ty_64 [str (lower (((parseP s).1).take (pos ((parseP s).1) 47))), str (lower (((parseP s).1).drop (pos ((parseP s).1) 47 + 1))), r1] (fun _ _ _ _ => rfl) rfl (fun w I m hs => by simp only [List.all_cons, List.all_nil, Bool.and_true, Bool.and_eq_true]; exact ⟨rfl, rfl, (SliceV.one (row_slice (.tail _ (.head _)) hs))⟩) [str (lower (((parseP s).1).take (pos ((parseP s).1) 47))), str (lower (((parseP s).1).drop (pos ((parseP s).1) 47 + 1))), r1] rfl rfl ?_)
   refine jo_pure rfl (pr_assign rfl) (jo_nil (jq_then (jc_ret (j_pull1 ?_))))
   exact jq_rets (rs := [.cell 2 64, .tmp 3]) (vs := [.agg #[str (lower (((parseP s).1).take (pos ((parseP s).1) 47))), str (lower (((parseP s).1).drop (pos ((parseP s).1) 47 + 1))), r1], .bool (true)]) rfl r1 ⟨resV_box (.agg #[str (lower (((parseP s).1).take (pos ((parseP s).1) 47))), str (lower (((parseP s).1).drop (pos ((parseP s).1) 47 + 1))), r1]) rfl ty_64 (.tail _ (.head _)) rfl (by decide) rfl, resV_tmp rfl, trivial⟩ rfl (show (.tuple #[.agg #[str ((parseR s).1.1), str ((parseR s).1.2.1), r1], .bool ((parseR s).2)] : Value) = (.tuple #[.agg #[str (lower (((parseP s).1).take (pos ((parseP s).1) 47))), str (lower (((parseP s).1).drop (pos ((parseP s).1) 47 + 1))), r1], .bool (true)]) from by rw [parseR_yes h1 (by rw [okRange_eq, h2b]; rfl)]) (fun w h => (fun h => by rw [parseR_yes h1 (by rw [okRange_eq, h2b]; rfl)]; exact h) (Mem.front (As := [.row (r1) 81 (.pair .str .str) ((parseP s).2.1)]) h))

theorem c_ref10_ParseRange (s : List UInt8) (hs : s.length ≤ 1000000) : Con Tryz.prog 79 #[str (s)] [] (fun r1 : Value => .tuple #[.agg #[str ((parseR s).1.1), str ((parseR s).1.2.1), r1], .bool ((parseR s).2)]) (fun r1 => [.row r1 81 (.pair .str .str) ((parseR s).1.2.2)]) := by
 refine con_of_J (args := [str (s)]) (n := 61) Tryz.func79 rfl (Nat.le_of_ble_eq_true rfl) rfl (fun w0 I0 m0 => ?_)
 show J _ [(0, str (s))] [] _
 refine jc_seq (jc_region ?_)
 refine jo_alloc ty_64 [str ([]), str ([]), .slice none 0 0] rfl rfl (fun b1 => ?_)
 refine jo_pure rfl (pr_assign rfl) (jo_nil (jq_then (jc_seq (jc_region (jo_pure rfl (pr_move rfl) ?_)))))
 refine jo_callp cal_108 (c_ref01_ParseParams s (by first | omega | rfl | (have := parseP_len1 s; simp only [List.length_take, List.length_drop]; omega) | (have := parseP_len1 s; omega))) ⟨rfl, trivial⟩ rfl (trivial) (fun r1 => ?_)
 show J _ _ [.row (r1) 81 (.pair .str .str) ((parseP s).2.1), .box b1 64 [str ([]), str ([]), .slice none 0 0]] _
 refine jo_pure rfl (pr_move rfl) (jo_pure rfl (pr_extract rfl rfl) ?_)
 refine jo_pure rfl (pr_extract rfl rfl) ?_
 refine jo_pure rfl (pr_extract rfl rfl) ?_
 refine jo_pure rfl (pr_assign rfl) (jo_pure rfl (pr_assign rfl) (jo_pure rfl (pr_assign rfl) (jo_nil (jq_then (jc_seq ?_)))))
 refine jc_seq (jc_region (jo_pure rfl (pr_move rfl) (jo_pure rfl (pr_not rfl) ?_)))
 refine jo_nil (jq_then ?_)
 refine jc_cond rfl (fun h1b => ?_) (fun h1b => ?_)
 ·have h1 := (fun q => id (bt_not q)) h1b
  refine jc_seq (jc_region (jo_pure rfl (pr_build [] [str ([]), str ([]), .slice none 0 0] (fun a hf => by simp) (by kernel_rfl)) ?_))
  refine j_pull1 (jo_store rfl rfl ty_64 [str ([]), str ([]), .slice none 0 0] rfl rfl rfl [str ([]), str ([]), .slice none 0 0] rfl rfl ?_)
  refine jo_pure rfl (pr_assign rfl) (jo_nil (jq_then (jc_ret (jq_then_ret (j_nil_row 81 (.pair .str .str) ?_)))))
  refine j_pull2 (j_drop (j_pull1 (j_pull1 ?_)))
  exact jq_rets (rs := [.cell 2 64, .tmp 3]) (vs := [.agg #[str ([]), str ([]), .slice none 0 0], .bool (false)]) rfl (.slice none 0 0) ⟨resV_box (.agg #[str ([]), str ([]), .slice none 0 0]) rfl ty_64 (.tail _ (.head _)) rfl (by decide) rfl, resV_tmp rfl, trivial⟩ rfl (show (.tuple #[.agg #[str ((parseR s).1.1), str ((parseR s).1.2.1), (.slice none 0 0)], .bool ((parseR s).2)] : Value) = (.tuple #[.agg #[str ([]), str ([]), .slice none 0 0], .bool (false)]) from by rw [parseR_no (.inl h1)]) (fun w h => (fun h => by rw [parseR_no (.inl h1)]; exact h) (Mem.front (As := [.row (.slice none 0 0) 81 (.pair .str .str) ([])]) h))
 ·have h1 := (fun q => id (bf_not q)) h1b
  have hpl := parseP_len1 s
  refine jc_skip (jq_then (jc_seq (jc_region (jo_pure rfl (pr_move rfl) ?_))))
  refine jo_callp cal_109 (c_ref01_Index ((parseP s).1) 47 0 (by first | omega | rfl | (have := parseP_len1 s; simp only [List.length_take, List.length_drop]; omega) | (have := parseP_len1 s; omega))) ⟨rfl, rfl, rfl, trivial⟩ rfl (trivial) (fun _ => ?_)
  refine jo_pure rfl (pr_assign rfl) (jo_nil (jq_then (jc_seq (jc_seq ?_))))
  by_cases hc : pos ((parseP s).1) 47 < ((parseP s).1).length
  ·skip
   rw [show (idxF ((parseP s).1) 47 0 : Int) = ((pos ((parseP s).1) 47 : Nat) : Int) from by rw [idxF_zero, idx_found hc]]
   refine jc_region (jo_pure rfl (pr_move rfl) (jo_pure rfl (pr_lssN (m := pos ((parseP s).1) 47) (n := 0) rfl rfl) ?_))
   refine jo_pure rfl (pr_move rfl) (jo_run (j := 2) (want := false) rfl rfl (by simp) ?_)
   refine jo_pure rfl (pr_move rfl) (jo_run (j := 2) (want := false) rfl rfl (by simp) ?_)
   refine jo_pure rfl (pr_move rfl) (jo_run (j := 2) (want := false) rfl rfl (by simp) ?_)
   refine jo_pure rfl (pr_sslice_hi (j := pos ((parseP s).1) 47) rfl rfl Tryz.underlying9 (by omega)) ?_
   refine jo_run (j := 2) (want := false) rfl rfl (by simp) ?_
   refine jo_callp cal_25 (c_ref01_Token (((parseP s).1).take (pos ((parseP s).1) 47)) (by first | omega | rfl | (have := parseP_len1 s; simp only [List.length_take, List.length_drop]; omega) | (have := parseP_len1 s; omega))) ⟨rfl, trivial⟩ rfl (trivial) (fun _ => ?_)
   refine jo_run (j := 2) (want := false) rfl rfl (by simp) ?_
   refine jo_pure rfl (pr_not rfl) ?_
   refine jo_pure rfl (pr_pick_f rfl (by simp) rfl) ?_
   refine jo_pure rfl (pr_move rfl) (jo_gpure (j := 9) (want := false) rfl rfl rfl rfl (fun hg => pr_move rfl) ?_)
   refine jo_gpure (j := 9) (want := false) rfl rfl rfl rfl (fun hg => pr_move rfl) ?_
   refine jo_gpure (j := 9) (want := false) rfl rfl rfl rfl (fun hg => pr_addN (m := pos ((parseP s).1) 47) (n := 1) (evg rfl hg) rfl (by omega)) ?_
   refine jo_gpure (j := 9) (want := false) rfl rfl rfl rfl (fun hg => pr_sslice_lo (i := (pos ((parseP s).1) 47) + 1) (evg rfl hg) (evg rfl hg) Tryz.underlying9 (by omega)) ?_
   refine jo_gcall (j := 9) (want := false) rfl rfl rfl cal_25 (fun hg => c_ref01_Token (((parseP s).1).drop ((pos ((parseP s).1) 47) + 1)) (by first | omega | rfl | (have := parseP_len1 s; simp only [List.length_take, List.length_drop]; omega) | (have := parseP_len1 s; omega))) (fun hg => ⟨evg rfl hg, trivial⟩) rfl (fun _ => trivial) ?_
   refine jo_gpure (j := 9) (want := false) rfl rfl rfl rfl (fun hg => pr_not (evg rfl hg)) ?_
   refine jo_pure rfl (pr_pick_or rfl rfl rfl) ?_
   refine jo_pure rfl (pr_move rfl) (jo_gpure (j := 17) (want := false) rfl rfl rfl rfl (fun hg => pr_move rfl) ?_)
   refine jo_gpure (j := 17) (want := false) rfl rfl rfl rfl (fun hg => pr_move rfl) ?_
   refine jo_gpure (j := 17) (want := false) rfl rfl rfl rfl (fun hg => pr_sslice_hi (j := pos ((parseP s).1) 47) (evg rfl hg) (evg rfl hg) Tryz.underlying9 (by omega)) ?_
   refine jo_gpure (j := 17) (want := false) rfl rfl rfl rfl (fun hg => pr_seql (evg rfl hg) rfl) ?_
   refine jo_gpure (j := 17) (want := false) rfl rfl rfl rfl (fun hg => pr_move (evg rfl hg)) ?_
   refine jo_gpure2 (j := 22) (want := true) rfl rfl rfl rfl (fun hg => pr_move rfl) ?_
   refine jo_gpure2 (j := 22) (want := true) rfl rfl rfl rfl (fun hg => pr_move rfl) ?_
   refine jo_gpure2 (j := 22) (want := true) rfl rfl rfl rfl (fun hg => pr_addN (m := pos ((parseP s).1) 47) (n := 1) (evg rfl hg) rfl (by omega)) ?_
   refine jo_gpure2 (j := 22) (want := true) rfl rfl rfl rfl (fun hg => pr_sslice_lo (i := (pos ((parseP s).1) 47) + 1) (evg rfl hg) (evg rfl hg) Tryz.underlying9 (by omega)) ?_
   refine jo_gpure2 (j := 22) (want := true) rfl rfl rfl rfl (fun hg => pr_sneq (evg rfl hg) rfl) ?_
   refine jo_gpure (j := 17) (want := false) rfl rfl rfl rfl (fun hg => pr_pick_and (evg rfl hg) (evg2 rfl hg) rfl) ?_
   refine jo_pure rfl (pr_pick_or rfl rfl rfl) ?_
   refine jo_nil (jq_then ?_)
   refine jc_cond rfl (fun h2b => ?_) (fun h2b => ?_)
   ·have h2 := (fun q => Or.imp (fun q => Or.imp (fun q => id (bt_not q)) (fun q => id (bt_not q)) (bt_or q)) (fun q => And.imp of_decide_eq_true (fun q => of_decide_eq_false (bt_not q)) (bt_and q)) (bt_or q)) h2b
    refine jc_seq (jc_region (jo_pure rfl (pr_build [] [str ([]), str ([]), .slice none 0 0] (fun a hf => by simp) (by kernel_rfl)) ?_))
    refine j_pull1 (jo_store rfl rfl ty_64 [str ([]), str ([]), .slice none 0 0] rfl rfl rfl [str ([]), str ([]), .slice none 0 0] rfl rfl ?_)
    refine jo_pure rfl (pr_assign rfl) (jo_nil (jq_then (jc_ret (jq_then_ret (j_nil_row 81 (.pair .str .str) ?_)))))
    refine j_pull2 (j_drop (j_pull1 (j_pull1 ?_)))
    exact jq_rets (rs := [.cell 2 64, .tmp 3]) (vs := [.agg #[str ([]), str ([]), .slice none 0 0], .bool (false)]) rfl (.slice none 0 0) ⟨resV_box (.agg #[str ([]), str ([]), .slice none 0 0]) rfl ty_64 (.tail _ (.head _)) rfl (by decide) rfl, resV_tmp rfl, trivial⟩ rfl (show (.tuple #[.agg #[str ((parseR s).1.1), str ((parseR s).1.2.1), (.slice none 0 0)], .bool ((parseR s).2)] : Value) = (.tuple #[.agg #[str ([]), str ([]), .slice none 0 0], .bool (false)]) from by rw [parseR_no (.inr (by rw [okRange_eq, h2b]; rfl))]) (fun w h => (fun h => by rw [parseR_no (.inr (by rw [okRange_eq, h2b]; rfl))]; exact h) (Mem.front (As := [.row (.slice none 0 0) 81 (.pair .str .str) ([])]) h))
   ·have h2 := (fun q => And.imp (fun q => And.imp (fun q => id (bf_not q)) (fun q => id (bf_not q)) (bf_or q)) (fun q => Or.imp of_decide_eq_false (fun q => of_decide_eq_true (bf_not q)) (bf_and q)) (bf_or q)) h2b
    refine jc_skip (jq_then (jc_seq (j_pull1 ?_)))
    refine jc_held (fun (_ : Unit) => [(2, .pointer (some ⟨b1, 0, none⟩)), (3, .bool (true))]) (fun _ => [.box b1 64 [str (lower (((parseP s).1).take (pos ((parseP s).1) 47))), str (lower (((parseP s).1).drop ((pos ((parseP s).1) 47) + 1))), r1], .row (r1) 81 (.pair .str .str) ((parseP s).2.1)]) [.row (r1) 81 (.pair .str .str) ((parseP s).2.1)] mixed (fun lst hlst => ?_) (fun _ => ?_)
    ·subst hlst
     refine jh_take (listed' := #[true, false, false, false, false, false, false, false, false, false, false, false, false]) 0 rfl (by kernel_rfl) (by kernel_rfl) (by kernel_rfl) rfl (pr_move rfl) (fun _ h => Mem.drop1 (h)) rfl ?_
     refine jh_take (listed' := #[true, true, false, false, false, false, false, false, false, false, false, false, false]) 1 rfl (by kernel_rfl) (by kernel_rfl) (by kernel_rfl) rfl (pr_move rfl) (fun _ h => Mem.drop1 (h)) rfl ?_
     refine jh_take (listed' := #[true, true, true, false, false, false, false, false, false, false, false, false, false]) 2 rfl (by kernel_rfl) (by kernel_rfl) (by kernel_rfl) rfl (pr_sslice_hi (j := pos ((parseP s).1) 47) rfl rfl Tryz.underlying9 (by omega)) (fun _ h => Mem.drop1 (h)) rfl ?_
     refine jh_take (listed' := #[true, true, true, false, true, false, false, false, false, false, false, false, false]) 4 rfl (by kernel_rfl) (by kernel_rfl) (by kernel_rfl) rfl (pr_move rfl) (fun _ h => Mem.drop1 (h)) rfl ?_
     refine jh_take (listed' := #[true, true, true, false, true, true, false, false, false, false, false, false, false]) 5 rfl (by kernel_rfl) (by kernel_rfl) (by kernel_rfl) rfl (pr_move rfl) (fun _ h => Mem.drop1 (h)) rfl ?_
     refine jh_take (listed' := #[true, true, true, false, true, true, true, false, false, false, false, false, false]) 6 rfl (by kernel_rfl) (by kernel_rfl) (by kernel_rfl) rfl (pr_addN (m := pos ((parseP s).1) 47) (n := 1) rfl rfl (by omega)) (fun _ h => Mem.drop1 (h)) rfl ?_
     refine jh_take (listed' := #[true, true, true, false, true, true, true, true, false, false, false, false, false]) 7 rfl (by kernel_rfl) (by kernel_rfl) (by kernel_rfl) rfl (pr_sslice_lo (i := (pos ((parseP s).1) 47) + 1) rfl rfl Tryz.underlying9 (by omega)) (fun _ h => Mem.drop1 (h)) rfl ?_
     refine jh_take (listed' := #[true, true, true, false, true, true, true, true, false, true, false, false, false]) 9 rfl (by kernel_rfl) (by kernel_rfl) (by kernel_rfl) rfl (pr_move rfl) (fun _ h => Mem.drop1 (h)) rfl ?_
     refine jh_all [3] (by kernel_rfl) (by simp) (fun i hi => ?_)
     simp only [List.mem_cons, List.not_mem_nil, or_false] at hi
     subst hi
     ·refine jh_op rfl ?_
      refine jo_callp cal_26 (c_ref01_Lower (((parseP s).1).take (pos ((parseP s).1) 47)) (by first | omega | rfl | (have := parseP_len1 s; simp only [List.length_take, List.length_drop]; omega) | (have := parseP_len1 s; omega))) ⟨rfl, trivial⟩ rfl (trivial) (fun _ => ?_)
      refine jh_in (listed' := #[true, true, true, true, true, true, true, true, false, true, false, false, false]) (fun _ h => Mem.drop1 (h)) rfl ?_
      refine jh_all [8] (by kernel_rfl) (by simp) (fun i hi => ?_)
      simp only [List.mem_cons, List.not_mem_nil, or_false] at hi
      subst hi
      ·refine jh_op rfl ?_
       refine jo_callp cal_26 (c_ref01_Lower (((parseP s).1).drop ((pos ((parseP s).1) 47) + 1)) (by first | omega | rfl | (have := parseP_len1 s; simp only [List.length_take, List.length_drop]; omega) | (have := parseP_len1 s; omega))) ⟨rfl, trivial⟩ rfl (trivial) (fun _ => ?_)
       refine jh_in (listed' := #[true, true, true, true, true, true, true, true, true, true, false, false, false]) (fun _ h => Mem.drop1 (h)) rfl ?_
       refine jh_take (listed' := #[true, true, true, true, true, true, true, true, true, true, true, false, false]) 10 rfl (by kernel_rfl) (by kernel_rfl) (by kernel_rfl) rfl (pr_buildV [(0, str (lower (((parseP s).1).take (pos ((parseP s).1) 47)))), (1, str (lower (((parseP s).1).drop ((pos ((parseP s).1) 47) + 1)))), (2, r1)] [str (lower (((parseP s).1).take (pos ((parseP s).1) 47))), str (lower (((parseP s).1).drop ((pos ((parseP s).1) 47) + 1))), r1] (fun a hf => by simp only [List.map_toArray, List.map_cons, List.map_nil, hf.ev (show ev _ (.tmp 53) = some (str (lower (((parseP s).1).take (pos ((parseP s).1) 47)))) from rfl), hf.ev (show ev _ (.tmp 58) = some (str (lower (((parseP s).1).drop ((pos ((parseP s).1) 47) + 1)))) from rfl), hf.ev (show ev _ (.tmp 59) = some (r1) from rfl)]) (fun w I m hs => by obtain ⟨_, _, _, e0⟩ := row_slice (.head _) hs; rw [e0]; kernel_rfl)) (fun _ h => Mem.drop1 (h)) rfl ?_
       refine jh_all [11] (by kernel_rfl) (by simp) (fun i hi => ?_)
       simp only [List.mem_cons, List.not_mem_nil, or_false] at hi
       subst hi
       ·refine jh_op rfl ?_
        refine jo_storeV rfl rfl ty_64 [str (lower (((parseP s).1).take (pos ((parseP s).1) 47))), str (lower (((parseP s).1).drop ((pos ((parseP s).1) 47) + 1))), r1] (fun _ _ _ _ => rfl) rfl (fun w I m hs => by simp only [List.all_cons, List.all_nil, Bool.and_true, Bool.and_eq_true]; exact ⟨rfl, rfl, (SliceV.one (row_slice (.tail _ (.head _)) hs))⟩) [str (lower (((parseP s).1).take (pos ((parseP s).1) 47))), str (lower (((parseP s).1).drop ((pos ((parseP s).1) 47) + 1))), r1] rfl rfl ?_
        refine jh_in (listed' := #[true, true, true, true, true, true, true, true, true, true, true, true, false]) (fun _ h => Mem.drop1 (h)) rfl ?_
        refine jh_take (listed' := #[true, true, true, true, true, true, true, true, true, true, true, true, true]) 12 rfl (by kernel_rfl) (by kernel_rfl) (by kernel_rfl) rfl (pr_assign rfl) (fun _ h => Mem.drop1 (h)) rfl ?_
        show J _ _ _ _
        refine j_pull1 (j_pull1 ?_)
        show JH _ _ _ _ _ _ _ _
        exact jh_done () (by kernel_rfl) ⟨rfl, rfl, trivial⟩ (fun _ h => h)
    ·skip
     refine jq_then (jc_ret (j_pull1 ?_))
     exact jq_rets (rs := [.cell 2 64, .tmp 3]) (vs := [.agg #[str (lower (((parseP s).1).take (pos ((parseP s).1) 47))), str (lower (((parseP s).1).drop ((pos ((parseP s).1) 47) + 1))), r1], .bool (true)]) rfl r1 ⟨resV_box (.agg #[str (lower (((parseP s).1).take (pos ((parseP s).1) 47))), str (lower (((parseP s).1).drop ((pos ((parseP s).1) 47) + 1))), r1]) rfl ty_64 (.tail _ (.head _)) rfl (by decide) rfl, resV_tmp rfl, trivial⟩ rfl (show (.tuple #[.agg #[str ((parseR s).1.1), str ((parseR s).1.2.1), r1], .bool ((parseR s).2)] : Value) = (.tuple #[.agg #[str (lower (((parseP s).1).take (pos ((parseP s).1) 47))), str (lower (((parseP s).1).drop ((pos ((parseP s).1) 47) + 1))), r1], .bool (true)]) from by rw [parseR_yes h1 (by rw [okRange_eq, h2b]; rfl)]) (fun w h => (fun h => by rw [parseR_yes h1 (by rw [okRange_eq, h2b]; rfl)]; exact h) (Mem.front (As := [.row (r1) 81 (.pair .str .str) ((parseP s).2.1)]) h))
  ·skip
   rw [show (idxF ((parseP s).1) 47 0 : Int) = -1 from by rw [idxF_zero, idx_none hc]]
   refine jc_region (jo_pure rfl (pr_move rfl) (jo_pure rfl (pr_lss (n := 0) rfl rfl) ?_))
   refine jo_pure rfl (pr_move rfl) (jo_skipu (j := 2) (want := false) rfl rfl (by decide) rfl ?_)
   refine jo_skipu (j := 2) (want := false) rfl rfl (by decide) rfl ?_
   refine jo_skipu (j := 2) (want := false) rfl rfl (by decide) rfl ?_
   refine jo_skipu (j := 2) (want := false) rfl rfl (by decide) rfl ?_
   refine jo_skipu (j := 2) (want := false) rfl rfl (by decide) rfl ?_
   refine jo_pure rfl (pr_pick_t rfl (by decide) rfl) ?_
   refine jo_pure rfl (pr_move rfl) (jo_skipu (j := 9) (want := false) rfl rfl (rfl) rfl ?_)
   refine jo_skipu (j := 9) (want := false) rfl rfl (rfl) rfl ?_
   refine jo_skipu (j := 9) (want := false) rfl rfl (rfl) rfl ?_
   refine jo_skipu (j := 9) (want := false) rfl rfl (rfl) rfl ?_
   refine jo_skipu (j := 9) (want := false) rfl rfl (rfl) rfl ?_
   refine jo_skipu (j := 9) (want := false) rfl rfl (rfl) rfl ?_
   refine jo_pure rfl (pr_pick_t rfl (rfl) rfl) ?_
   refine jo_pure rfl (pr_move rfl) (jo_skipu (j := 17) (want := false) rfl rfl (rfl) rfl ?_)
   refine jo_skipu (j := 17) (want := false) rfl rfl (rfl) rfl ?_
   refine jo_skipu (j := 17) (want := false) rfl rfl (rfl) rfl ?_
   refine jo_skipu (j := 17) (want := false) rfl rfl (rfl) rfl ?_
   refine jo_skipu (j := 17) (want := false) rfl rfl (rfl) rfl ?_
   refine jo_skipn (j := 22) rfl rfl rfl ?_
   refine jo_skipn (j := 22) rfl rfl rfl ?_
   refine jo_skipn (j := 22) rfl rfl rfl ?_
   refine jo_skipn (j := 22) rfl rfl rfl ?_
   refine jo_skipn (j := 22) rfl rfl rfl ?_
   refine jo_skipu (j := 17) (want := false) rfl rfl (rfl) rfl ?_
   refine jo_pure rfl (pr_pick_t rfl (rfl) rfl) ?_
   refine jo_nil (jq_then (jc_true rfl (rfl) ?_))
   refine jc_seq (jc_region (jo_pure rfl (pr_build [] [str ([]), str ([]), .slice none 0 0] (fun a hf => by simp) (by kernel_rfl)) ?_))
   refine j_pull1 (jo_store rfl rfl ty_64 [str ([]), str ([]), .slice none 0 0] rfl rfl rfl [str ([]), str ([]), .slice none 0 0] rfl rfl ?_)
   refine jo_pure rfl (pr_assign rfl) (jo_nil (jq_then (jc_ret (jq_then_ret (j_nil_row 81 (.pair .str .str) ?_)))))
   refine j_pull2 (j_drop (j_pull1 (j_pull1 ?_)))
   exact jq_rets (rs := [.cell 2 64, .tmp 3]) (vs := [.agg #[str ([]), str ([]), .slice none 0 0], .bool (false)]) rfl (.slice none 0 0) ⟨resV_box (.agg #[str ([]), str ([]), .slice none 0 0]) rfl ty_64 (.tail _ (.head _)) rfl (by decide) rfl, resV_tmp rfl, trivial⟩ rfl (show (.tuple #[.agg #[str ((parseR s).1.1), str ((parseR s).1.2.1), (.slice none 0 0)], .bool ((parseR s).2)] : Value) = (.tuple #[.agg #[str ([]), str ([]), .slice none 0 0], .bool (false)]) from by rw [parseR_no (.inr (okRange_none hc))]) (fun w h => (fun h => by rw [parseR_no (.inr (okRange_none hc))]; exact h) (Mem.front (As := [.row (.slice none 0 0) 81 (.pair .str .str) ([])]) h))

theorem c_mediatype_Parse (s : List UInt8) (hs : s.length ≤ 1000000) : Con Tryz.prog 35 #[str (s)] [] (fun r1 : Value => .tuple #[.agg #[str ((parseT s).1.1), str ((parseT s).1.2.1), r1], .bool ((parseT s).2)]) (fun r1 => [.row r1 81 (.pair .str .str) ((parseT s).1.2.2)]) := by
 refine con_of_J (args := [str (s)]) (n := 25) Tryz.func35 rfl (Nat.le_of_ble_eq_true rfl) rfl (fun w0 I0 m0 => ?_)
 show J _ [(0, str (s))] [] _
 refine jc_seq (jc_region ?_)
 refine jo_alloc ty_64 [str ([]), str ([]), .slice none 0 0] rfl rfl (fun b1 => ?_)
 refine jo_pure rfl (pr_assign rfl) (jo_nil (jq_then (jc_seq (jc_region (jo_pure rfl (pr_move rfl) ?_)))))
 refine jo_callp cal_62 (c_mediatype_ParseRange s (by first | omega | rfl | (have := parseP_len1 s; omega) | (have := parseP_len1 s; simp only [List.length_take, List.length_drop]; omega))) ⟨rfl, trivial⟩ rfl (trivial) (fun r1 => ?_)
 show J _ _ [.row (r1) 81 (.pair .str .str) ((parseR s).1.2.2), .box b1 64 [str ([]), str ([]), .slice none 0 0]] _
 refine jo_pure rfl (pr_move rfl) (jo_pure rfl (pr_extract rfl rfl) ?_)
 refine jo_pure rfl (pr_extract rfl rfl) ?_
 refine jo_alloc ty_64 [str ([]), str ([]), .slice none 0 0] rfl rfl (fun b2 => ?_)
 refine jo_storeV rfl rfl ty_64 [str ((parseR s).1.1), str ((parseR s).1.2.1), r1] (fun _ _ _ _ => rfl) rfl (fun w I m hs => by simp only [List.all_cons, List.all_nil, Bool.and_true, Bool.and_eq_true]; exact ⟨rfl, rfl, (SliceV.one (row_slice (.tail _ (.head _)) hs))⟩) [str ((parseR s).1.1), str ((parseR s).1.2.1), r1] rfl rfl ?_
 refine jo_pure rfl (pr_assign rfl) (jo_nil (jq_then (jc_seq (jc_seq (jc_region ?_)))))
 refine jo_pure rfl (pr_move rfl) (jo_pure rfl (pr_not rfl) ?_)
 refine jo_pure rfl (pr_move rfl) (jo_gpure (j := 2) (want := false) rfl rfl rfl rfl (fun hg => pr_fieldAddr 0 rfl Tryz.underlying64 rfl ty_9 rfl rfl) ?_)
 refine jo_gpure (j := 2) (want := false) rfl rfl rfl rfl (fun hg => pr_load_box (str ((parseR s).1.1)) (evg rfl hg) ty_9 (.head _) rfl (by decide) rfl) ?_
 refine jo_gpure (j := 2) (want := false) rfl rfl rfl rfl (fun hg => pr_seql (evg rfl hg) rfl) ?_
 refine jo_pure rfl (pr_pick_or rfl rfl rfl) ?_
 refine jo_pure rfl (pr_move rfl) (jo_gpure (j := 7) (want := false) rfl rfl rfl rfl (fun hg => pr_fieldAddr 1 rfl Tryz.underlying64 rfl ty_9 rfl rfl) ?_)
 refine jo_gpure (j := 7) (want := false) rfl rfl rfl rfl (fun hg => pr_load_box (str ((parseR s).1.2.1)) (evg rfl hg) ty_9 (.head _) rfl (by decide) rfl) ?_
 refine jo_gpure (j := 7) (want := false) rfl rfl rfl rfl (fun hg => pr_seql (evg rfl hg) rfl) ?_
 refine jo_pure rfl (pr_pick_or rfl rfl rfl) ?_
 refine jo_nil (jq_then ?_)
 refine jc_cond rfl (fun h1b => ?_) (fun h1b => ?_)
 ·have h1 := (fun q => Or.imp (fun q => Or.imp (fun q => id (bt_not q)) of_decide_eq_true (bt_or q)) of_decide_eq_true (bt_or q)) h1b
  refine jc_seq (jc_region (jo_pure rfl (pr_build [] [str ([]), str ([]), .slice none 0 0] (fun a hf => by simp) (by kernel_rfl)) ?_))
  refine j_pull2 (jo_store rfl rfl ty_64 [str ([]), str ([]), .slice none 0 0] rfl rfl rfl [str ([]), str ([]), .slice none 0 0] rfl rfl ?_)
  refine jo_pure rfl (pr_assign rfl) (jo_nil (jq_then (jc_ret (jq_then_ret (j_nil_row 81 (.pair .str .str) ?_)))))
  refine j_pull2 (j_drop (j_pull2 (j_drop (j_pull1 (j_pull1 ?_)))))
  exact jq_rets (rs := [.cell 2 64, .tmp 3]) (vs := [.agg #[str ([]), str ([]), .slice none 0 0], .bool (false)]) rfl (.slice none 0 0) ⟨resV_box (.agg #[str ([]), str ([]), .slice none 0 0]) rfl ty_64 (.tail _ (.head _)) rfl (by decide) rfl, resV_tmp rfl, trivial⟩ rfl (show (.tuple #[.agg #[str ((parseT s).1.1), str ((parseT s).1.2.1), (.slice none 0 0)], .bool ((parseT s).2)] : Value) = (.tuple #[.agg #[str ([]), str ([]), .slice none 0 0], .bool (false)]) from by rw [parseT_no (s := s) h1b]) (fun w h => (fun h => by rw [parseT_no (s := s) h1b]; exact h) (Mem.front (As := [.row (.slice none 0 0) 81 (.pair .str .str) ([])]) h))
 ·have h1 := (fun q => And.imp (fun q => And.imp (fun q => id (bf_not q)) of_decide_eq_false (bf_or q)) of_decide_eq_false (bf_or q)) h1b
  refine jc_skip (jq_then (jc_seq (jc_region (jo_pure rfl (pr_load_box (.agg #[str ((parseR s).1.1), str ((parseR s).1.2.1), r1]) rfl ty_64 (.head _) rfl (by decide) rfl) ?_))))
  refine j_pull2 (jo_storeV rfl rfl ty_64 [str ((parseR s).1.1), str ((parseR s).1.2.1), r1] (fun _ _ _ _ => rfl) rfl (fun w I m hs => by simp only [List.all_cons, List.all_nil, Bool.and_true, Bool.and_eq_true]; exact ⟨rfl, rfl, (SliceV.one (row_slice (.tail _ (.tail _ (.head _))) hs))⟩) [str ((parseR s).1.1), str ((parseR s).1.2.1), r1] rfl rfl ?_)
  refine jo_pure rfl (pr_assign rfl) (jo_nil (jq_then (jc_ret (j_pull1 (j_drop ?_)))))
  refine j_pull1 ?_
  exact jq_rets (rs := [.cell 2 64, .tmp 3]) (vs := [.agg #[str ((parseR s).1.1), str ((parseR s).1.2.1), r1], .bool (true)]) rfl r1 ⟨resV_box (.agg #[str ((parseR s).1.1), str ((parseR s).1.2.1), r1]) rfl ty_64 (.tail _ (.head _)) rfl (by decide) rfl, resV_tmp rfl, trivial⟩ rfl (show (.tuple #[.agg #[str ((parseT s).1.1), str ((parseT s).1.2.1), r1], .bool ((parseT s).2)] : Value) = (.tuple #[.agg #[str ((parseR s).1.1), str ((parseR s).1.2.1), r1], .bool (true)]) from by rw [(parseT_yes (s := s) h1b).1, (parseT_yes (s := s) h1b).2]) (fun w h => (fun h => by rw [(parseT_yes (s := s) h1b).1]; exact h) (Mem.front (As := [.row (r1) 81 (.pair .str .str) ((parseR s).1.2.2)]) h))

theorem c_ref10_ParseType (s : List UInt8) (hs : s.length ≤ 1000000) : Con Tryz.prog 49 #[str (s)] [] (fun r1 : Value => .tuple #[.agg #[str ((parseT s).1.1), str ((parseT s).1.2.1), r1], .bool ((parseT s).2)]) (fun r1 => [.row r1 81 (.pair .str .str) ((parseT s).1.2.2)]) := by
 refine con_of_J (args := [str (s)]) (n := 25) Tryz.func49 rfl (Nat.le_of_ble_eq_true rfl) rfl (fun w0 I0 m0 => ?_)
 show J _ [(0, str (s))] [] _
 refine jc_seq (jc_region ?_)
 refine jo_alloc ty_64 [str ([]), str ([]), .slice none 0 0] rfl rfl (fun b1 => ?_)
 refine jo_pure rfl (pr_assign rfl) (jo_nil (jq_then (jc_seq (jc_region (jo_pure rfl (pr_move rfl) ?_)))))
 refine jo_callp cal_79 (c_ref10_ParseRange s (by first | omega | rfl | (have := parseP_len1 s; omega) | (have := parseP_len1 s; simp only [List.length_take, List.length_drop]; omega))) ⟨rfl, trivial⟩ rfl (trivial) (fun r1 => ?_)
 show J _ _ [.row (r1) 81 (.pair .str .str) ((parseR s).1.2.2), .box b1 64 [str ([]), str ([]), .slice none 0 0]] _
 refine jo_pure rfl (pr_move rfl) (jo_pure rfl (pr_extract rfl rfl) ?_)
 refine jo_pure rfl (pr_extract rfl rfl) ?_
 refine jo_alloc ty_64 [str ([]), str ([]), .slice none 0 0] rfl rfl (fun b2 => ?_)
 refine jo_storeV rfl rfl ty_64 [str ((parseR s).1.1), str ((parseR s).1.2.1), r1] (fun _ _ _ _ => rfl) rfl (fun w I m hs => by simp only [List.all_cons, List.all_nil, Bool.and_true, Bool.and_eq_true]; exact ⟨rfl, rfl, (SliceV.one (row_slice (.tail _ (.head _)) hs))⟩) [str ((parseR s).1.1), str ((parseR s).1.2.1), r1] rfl rfl ?_
 refine jo_pure rfl (pr_assign rfl) (jo_nil (jq_then (jc_seq (jc_seq (jc_region ?_)))))
 refine jo_pure rfl (pr_move rfl) (jo_pure rfl (pr_not rfl) ?_)
 refine jo_pure rfl (pr_move rfl) (jo_gpure (j := 2) (want := false) rfl rfl rfl rfl (fun hg => pr_fieldAddr 0 rfl Tryz.underlying64 rfl ty_9 rfl rfl) ?_)
 refine jo_gpure (j := 2) (want := false) rfl rfl rfl rfl (fun hg => pr_load_box (str ((parseR s).1.1)) (evg rfl hg) ty_9 (.head _) rfl (by decide) rfl) ?_
 refine jo_gpure (j := 2) (want := false) rfl rfl rfl rfl (fun hg => pr_seql (evg rfl hg) rfl) ?_
 refine jo_pure rfl (pr_pick_or rfl rfl rfl) ?_
 refine jo_pure rfl (pr_move rfl) (jo_gpure (j := 7) (want := false) rfl rfl rfl rfl (fun hg => pr_fieldAddr 1 rfl Tryz.underlying64 rfl ty_9 rfl rfl) ?_)
 refine jo_gpure (j := 7) (want := false) rfl rfl rfl rfl (fun hg => pr_load_box (str ((parseR s).1.2.1)) (evg rfl hg) ty_9 (.head _) rfl (by decide) rfl) ?_
 refine jo_gpure (j := 7) (want := false) rfl rfl rfl rfl (fun hg => pr_seql (evg rfl hg) rfl) ?_
 refine jo_pure rfl (pr_pick_or rfl rfl rfl) ?_
 refine jo_nil (jq_then ?_)
 refine jc_cond rfl (fun h1b => ?_) (fun h1b => ?_)
 ·have h1 := (fun q => Or.imp (fun q => Or.imp (fun q => id (bt_not q)) of_decide_eq_true (bt_or q)) of_decide_eq_true (bt_or q)) h1b
  refine jc_seq (jc_region (jo_pure rfl (pr_build [] [str ([]), str ([]), .slice none 0 0] (fun a hf => by simp) (by kernel_rfl)) ?_))
  refine j_pull2 (jo_store rfl rfl ty_64 [str ([]), str ([]), .slice none 0 0] rfl rfl rfl [str ([]), str ([]), .slice none 0 0] rfl rfl ?_)
  refine jo_pure rfl (pr_assign rfl) (jo_nil (jq_then (jc_ret (jq_then_ret (j_nil_row 81 (.pair .str .str) ?_)))))
  refine j_pull2 (j_drop (j_pull2 (j_drop (j_pull1 (j_pull1 ?_)))))
  exact jq_rets (rs := [.cell 2 64, .tmp 3]) (vs := [.agg #[str ([]), str ([]), .slice none 0 0], .bool (false)]) rfl (.slice none 0 0) ⟨resV_box (.agg #[str ([]), str ([]), .slice none 0 0]) rfl ty_64 (.tail _ (.head _)) rfl (by decide) rfl, resV_tmp rfl, trivial⟩ rfl (show (.tuple #[.agg #[str ((parseT s).1.1), str ((parseT s).1.2.1), (.slice none 0 0)], .bool ((parseT s).2)] : Value) = (.tuple #[.agg #[str ([]), str ([]), .slice none 0 0], .bool (false)]) from by rw [parseT_no (s := s) h1b]) (fun w h => (fun h => by rw [parseT_no (s := s) h1b]; exact h) (Mem.front (As := [.row (.slice none 0 0) 81 (.pair .str .str) ([])]) h))
 ·have h1 := (fun q => And.imp (fun q => And.imp (fun q => id (bf_not q)) of_decide_eq_false (bf_or q)) of_decide_eq_false (bf_or q)) h1b
  refine jc_skip (jq_then (jc_seq (jc_region (jo_pure rfl (pr_load_box (.agg #[str ((parseR s).1.1), str ((parseR s).1.2.1), r1]) rfl ty_64 (.head _) rfl (by decide) rfl) ?_))))
  refine j_pull2 (jo_storeV rfl rfl ty_64 [str ((parseR s).1.1), str ((parseR s).1.2.1), r1] (fun _ _ _ _ => rfl) rfl (fun w I m hs => by simp only [List.all_cons, List.all_nil, Bool.and_true, Bool.and_eq_true]; exact ⟨rfl, rfl, (SliceV.one (row_slice (.tail _ (.tail _ (.head _))) hs))⟩) [str ((parseR s).1.1), str ((parseR s).1.2.1), r1] rfl rfl ?_)
  refine jo_pure rfl (pr_assign rfl) (jo_nil (jq_then (jc_ret (j_pull1 (j_drop ?_)))))
  refine j_pull1 ?_
  exact jq_rets (rs := [.cell 2 64, .tmp 3]) (vs := [.agg #[str ((parseR s).1.1), str ((parseR s).1.2.1), r1], .bool (true)]) rfl r1 ⟨resV_box (.agg #[str ((parseR s).1.1), str ((parseR s).1.2.1), r1]) rfl ty_64 (.tail _ (.head _)) rfl (by decide) rfl, resV_tmp rfl, trivial⟩ rfl (show (.tuple #[.agg #[str ((parseT s).1.1), str ((parseT s).1.2.1), r1], .bool ((parseT s).2)] : Value) = (.tuple #[.agg #[str ((parseR s).1.1), str ((parseR s).1.2.1), r1], .bool (true)]) from by rw [(parseT_yes (s := s) h1b).1, (parseT_yes (s := s) h1b).2]) (fun w h => (fun h => by rw [(parseT_yes (s := s) h1b).1]; exact h) (Mem.front (As := [.row (r1) 81 (.pair .str .str) ((parseR s).1.2.2)]) h))

theorem c_mediatype_Format (t : (List UInt8) × (List UInt8) × (List ((List UInt8) × (List UInt8)))) (tv : Value) (hl : t.2.2.length ≤ 1000000) (hm : ∀ x ∈ t.2.2, x.1.length ≤ 1000000 ∧ x.2.length ≤ 1000000) (h1 : t.1.length ≤ 400000) (h2 : t.2.1.length ≤ 400000) : Con Tryz.prog 89 #[.agg #[str (t.1), str (t.2.1), tv]] [.imm (.list (.pair .str .str)) (tv) (t.2.2)] (fun _ : Unit => str (formatT t)) (fun _ => []) := by
 refine con_of_J (args := [.agg #[str (t.1), str (t.2.1), tv]]) (n := 12) Tryz.func89 rfl (Nat.le_of_ble_eq_true rfl) rfl (fun w0 I0 m0 => ?_)
 show J _ [(0, .agg #[str (t.1), str (t.2.1), tv])] [.imm (.list (.pair .str .str)) (tv) (t.2.2)] _
 refine jc_seq (jc_region ?_)
 refine jo_box rfl [str (t.1), str (t.2.1), tv] rfl rfl (fun b1 => ?_)
 refine jo_pure rfl (pr_assign rfl) (jo_nil (jq_then (jc_seq (jc_region (jo_pure rfl (pr_fieldAddr 0 rfl Tryz.underlying64 rfl ty_9 rfl rfl) ?_)))))
 refine jo_pure rfl (pr_load_box (str (t.1)) rfl ty_9 (.head _) rfl (by decide) rfl) ?_
 refine jo_pure rfl (pr_sadd rfl rfl (by simp only [List.length_append, List.length_cons, List.length_nil]; omega)) ?_
 refine jo_pure rfl (pr_fieldAddr 1 rfl Tryz.underlying64 rfl ty_9 rfl rfl) ?_
 refine jo_pure rfl (pr_load_box (str (t.2.1)) rfl ty_9 (.head _) rfl (by decide) rfl) ?_
 refine jo_pure rfl (pr_sadd rfl rfl (by simp only [List.length_append, List.length_cons, List.length_nil]; omega)) ?_
 refine jo_pure rfl (pr_fieldAddr 2 rfl Tryz.underlying64 rfl ty_62 rfl rfl) ?_
 refine jo_pure rfl (pr_load_box (tv) rfl ty_62 (.head _) rfl (by decide) rfl) ?_
 refine jo_callp cal_112 (c_param_Format ((t.1 ++ [47]) ++ t.2.1) t.2.2 tv (by first | omega | exact hm | (simp only [List.length_append, List.length_cons, List.length_nil]; omega)) (by first | omega | exact hm | (simp only [List.length_append, List.length_cons, List.length_nil]; omega)) (by first | omega | exact hm | (simp only [List.length_append, List.length_cons, List.length_nil]; omega))) ⟨rfl, rfl, trivial⟩ rfl (⟨⟨rfl, .tail _ (.head _)⟩, trivial⟩) (fun _ => ?_)
 refine jo_pure rfl (pr_assign rfl) (jo_nil (jq_then (jc_ret (j_drop (j_drop ?_)))))
 exact jq_ret1 rfl () rfl (show (str (formatT t) : Value) = (str (formatP ((t.1 ++ [47]) ++ t.2.1) t.2.2)) from rfl) (fun _ h => h)

theorem c_mediatype_contains (l : List ((List UInt8) × (List UInt8))) (lv : Value) (p : (List UInt8) × (List UInt8)) (hl : l.length ≤ 1000000) (hm : ∀ x ∈ l, x.1.length ≤ 1000000 ∧ x.2.length ≤ 1000000) (hp : p.2.length ≤ 1000000) : Con Tryz.prog 95 #[lv, .agg #[str (p.1), str (p.2)]] [.imm (.list (.pair .str .str)) (lv) (l)] (fun _ : Unit => .bool (l.any (matchB p))) (fun _ => []) := by
 refine con_of_J (args := [lv, .agg #[str (p.1), str (p.2)]]) (n := 26) Tryz.func95 rfl (Nat.le_of_ble_eq_true rfl) rfl (fun w0 I0 m0 => ?_)
 show J _ [(0, lv), (1, .agg #[str (p.1), str (p.2)])] [.imm (.list (.pair .str .str)) (lv) (l)] _
 refine jc_seq (jc_region ?_)
 refine jo_box rfl [str (p.1), str (p.2)] rfl rfl (fun b1 => ?_)
 refine jo_pure rfl (pr_assign rfl) (jo_nil (jq_then (jc_seq (jc_seq (jc_region ?_)))))
 refine jo_pure rfl (pr_move rfl) (jo_pure rfl (pr_len_imm rfl (.tail _ (.head _)) Tryz.underlying62) ?_)
 refine jo_pure rfl (pr_move rfl) (jo_nil (jq_then (jc_block ?_)))
 refine jc_loop (fun (i : Nat) => [(3, .pointer (some ⟨b1, 0, none⟩)), (7, lv), (8, .int .i64 ((l.length : Nat) : Int)), (9, .int .i64 ((i : Nat) : Int))]) (fun (i : Nat) => [.box b1 81 [str (p.1), str (p.2)], .imm (.list (.pair .str .str)) (lv) (l)]) (fun (i : Nat) => i ≤ l.length ∧ (l.take i).any (matchB p) = false) (fun (i : Nat) => l.length - i) 0 (⟨Nat.zero_le _, rfl⟩) (⟨rfl, rfl, rfl, rfl, trivial⟩) (fun _ h => h) (fun i hinv => ?_)
 refine jc_seq (jc_region (jo_pure rfl (pr_lssN (m := i) (n := l.length) rfl rfl) ?_))
 refine jo_nil (jq_then (jc_seq ?_))
 refine jc_cond rfl (fun h1b => ?_) (fun h1b => ?_)
 ·have h1 := of_decide_eq_true h1b
  refine jc_skip (jq_then (jc_seq (jc_block (jc_seq (jc_region ?_)))))
  refine jo_pure rfl (pr_idx_imm (i := i) rfl (.tail _ (.head _)) rfl Tryz.underlying62 ty_81 (by omega)) ?_
  refine jo_pure rfl (pr_load_elem_imm (i := i) (.agg #[str ((l.getD i ([], [])).1), str ((l.getD i ([], [])).2)]) rfl (.tail _ (.head _)) ty_81 rfl rfl (by omega) rfl) ?_
  refine jo_alloc ty_81 [str ([]), str ([])] rfl rfl (fun b2 => ?_)
  refine jo_store rfl rfl ty_81 [str ((l.getD i ([], [])).1), str ((l.getD i ([], [])).2)] rfl rfl rfl [str ((l.getD i ([], [])).1), str ((l.getD i ([], [])).2)] rfl rfl ?_
  refine jo_nil (jq_then (jc_seq (jc_region (jo_pure rfl (pr_fieldAddr 0 rfl Tryz.underlying81 rfl ty_9 rfl rfl) ?_))))
  refine jo_pure rfl (pr_load_box (str ((l.getD i ([], [])).1)) rfl ty_9 (.head _) rfl (by decide) rfl) ?_
  refine jo_pure rfl (pr_fieldAddr 0 rfl Tryz.underlying81 rfl ty_9 rfl rfl) ?_
  refine jo_pure rfl (pr_load_box (str (p.1)) rfl ty_9 (.tail _ (.head _)) rfl (by decide) rfl) ?_
  refine jo_pure rfl (pr_seql rfl rfl) ?_
  refine jo_pure rfl (pr_move rfl) (jo_gpure (j := 5) (want := true) rfl rfl rfl rfl (fun hg => pr_fieldAddr 1 rfl Tryz.underlying81 rfl ty_9 rfl rfl) ?_)
  refine jo_gpure (j := 5) (want := true) rfl rfl rfl rfl (fun hg => pr_load_box (str ((l.getD i ([], [])).2)) (evg rfl hg) ty_9 (.head _) rfl (by decide) rfl) ?_
  refine jo_gpure (j := 5) (want := true) rfl rfl rfl rfl (fun hg => pr_fieldAddr 1 rfl Tryz.underlying81 rfl ty_9 rfl rfl) ?_
  refine jo_gpure (j := 5) (want := true) rfl rfl rfl rfl (fun hg => pr_load_box (str (p.2)) (evg rfl hg) ty_9 (.tail _ (.head _)) rfl (by decide) rfl) ?_
  refine jo_gcall (j := 5) (want := true) rfl rfl rfl cal_39 (fun hg => c_ascii_Fold ((l.getD i ([], [])).2) p.2 (by first | omega | exact (hm _ (getD_mem h1)).2) (by first | omega | exact (hm _ (getD_mem h1)).2)) (fun hg => ⟨evg rfl hg, evg rfl hg, trivial⟩) rfl (fun _ => trivial) ?_
  refine jo_pure rfl (pr_pick_and rfl rfl rfl) ?_
  refine jo_nil (jq_then ?_)
  refine jc_cond rfl (fun h2b => ?_) (fun h2b => ?_)
  ·have h2 := (fun q => And.imp of_decide_eq_true id (bt_and q)) h2b
   refine jc_seq (jc_region (jo_pure rfl (pr_assign rfl) (jo_nil (jq_then (jc_ret ?_)))))
   refine jq_in_ret ?_
   refine jq_then_ret (jq_then_ret (jq_in_ret ?_))
   refine jq_then_ret (j_drop (j_drop (j_drop ?_)))
   exact jq_ret1 rfl () rfl (show (.bool (l.any (matchB p)) : Value) = (.bool (true)) from congrArg Value.bool (by rw [any_hit (dd := ([], [])) h1 h2b])) (fun _ h => h)
  ·have h2 := (fun q => Or.imp of_decide_eq_false id (bf_and q)) h2b
   refine jc_skip (jq_in_normal (jq_then (jc_region (jo_pure rfl (pr_addN (m := i) (n := 1) rfl rfl (by omega)) ?_))))
   refine jo_pure rfl (pr_move rfl) (jo_nil (j_drop (j_pull1 (j_pull1 ?_))))
   refine jq_round' (i + 1) (by (try dsimp only); exact (⟨by omega, any_step (dd := ([], [])) h1 hinv.2 h2b⟩)) (by (try dsimp only); exact (by omega)) ⟨rfl, rfl, rfl, rfl, trivial⟩ (fun _ h => h)
 ·have h1 := of_decide_eq_false h1b
  refine jc_exit ?_
  refine jq_then_exit ?_
  refine jq_then_exit ?_
  refine jq_in_hit ?_
  refine jq_then (jc_seq (jc_region (jo_pure rfl (pr_assign rfl) (jo_nil (jq_then ?_)))))
  refine jc_ret (j_drop (j_drop ?_))
  exact jq_ret1 rfl () rfl (show (.bool (l.any (matchB p)) : Value) = (.bool (false)) from congrArg Value.bool (by rw [any_end (by omega) hinv.2])) (fun _ h => h)

theorem c_mediatype_Match (r : (List UInt8) × (List UInt8) × (List ((List UInt8) × (List UInt8)))) (rv : Value) (t : (List UInt8) × (List UInt8) × (List ((List UInt8) × (List UInt8)))) (tv : Value) (hl : r.2.2.length ≤ 1000000) (hm : ∀ x ∈ r.2.2, x.1.length ≤ 1000000 ∧ x.2.length ≤ 1000000) (hl2 : t.2.2.length ≤ 1000000) (hm2 : ∀ x ∈ t.2.2, x.1.length ≤ 1000000 ∧ x.2.length ≤ 1000000) : Con Tryz.prog 66 #[.agg #[str (r.1), str (r.2.1), rv], .agg #[str (t.1), str (t.2.1), tv]] [.imm (.list (.pair .str .str)) (rv) (r.2.2), .imm (.list (.pair .str .str)) (tv) (t.2.2)] (fun _ : Unit => .int .i64 (matchT r t)) (fun _ => []) := by
 refine con_of_J (args := [.agg #[str (r.1), str (r.2.1), rv], .agg #[str (t.1), str (t.2.1), tv]]) (n := 57) Tryz.func66 rfl (Nat.le_of_ble_eq_true rfl) rfl (fun w0 I0 m0 => ?_)
 show J _ [(0, .agg #[str (r.1), str (r.2.1), rv]), (1, .agg #[str (t.1), str (t.2.1), tv])] [.imm (.list (.pair .str .str)) (rv) (r.2.2), .imm (.list (.pair .str .str)) (tv) (t.2.2)] _
 refine jc_seq (jc_region ?_)
 refine jo_box rfl [str (r.1), str (r.2.1), rv] rfl rfl (fun b1 => ?_)
 refine jo_box rfl [str (t.1), str (t.2.1), tv] rfl rfl (fun b2 => ?_)
 refine jo_pure rfl (pr_assign rfl) (jo_nil (jq_then (jc_seq (jc_block (jc_seq ?_)))))
 refine jc_region (jo_pure rfl (pr_fieldAddr 0 rfl Tryz.underlying64 rfl ty_9 rfl rfl) ?_)
 refine jo_pure rfl (pr_load_box (str (r.1)) rfl ty_9 (.tail _ (.head _)) rfl (by decide) rfl) ?_
 refine jo_pure rfl (pr_seql rfl rfl) ?_
 refine jo_pure rfl (pr_move rfl) (jo_gpure (j := 3) (want := true) rfl rfl rfl rfl (fun hg => pr_fieldAddr 1 rfl Tryz.underlying64 rfl ty_9 rfl rfl) ?_)
 refine jo_gpure (j := 3) (want := true) rfl rfl rfl rfl (fun hg => pr_load_box (str (r.2.1)) (evg rfl hg) ty_9 (.tail _ (.head _)) rfl (by decide) rfl) ?_
 refine jo_gpure (j := 3) (want := true) rfl rfl rfl rfl (fun hg => pr_seql (evg rfl hg) rfl) ?_
 refine jo_pure rfl (pr_pick_and rfl rfl rfl) ?_
 refine jo_pure rfl (pr_assign rfl) (jo_nil (jq_then ?_))
 refine jc_cond rfl (fun h1b => ?_) (fun h1b => ?_)
 ·have h1 := (fun q => And.imp of_decide_eq_true of_decide_eq_true (bt_and q)) h1b
  refine jc_seq (jc_region (jo_pure rfl (pr_assign rfl) (jo_nil (jq_then (jc_ret ?_)))))
  refine jq_in_ret ?_
  refine jq_then_ret (j_drop (j_drop (j_drop (j_drop ?_))))
  exact jq_ret1 rfl () rfl (show (.int .i64 (matchT r t) : Value) = (.int .i64 ((0 : Nat) : Int)) from congrArg (Value.int .i64) (by rw [matchT, if_pos h1]; first | done | rfl)) (fun _ h => h)
 ·have h1 := (fun q => Or.imp of_decide_eq_false of_decide_eq_false (bf_and q)) h1b
  refine jc_seq (jc_region (jo_pure rfl (pr_fieldAddr 1 rfl Tryz.underlying64 rfl ty_9 rfl rfl) ?_))
  refine jo_pure rfl (pr_load_box (str (r.2.1)) rfl ty_9 (.tail _ (.head _)) rfl (by decide) rfl) ?_
  refine jo_pure rfl (pr_seql rfl rfl) ?_
  refine jo_pure rfl (pr_move rfl) (jo_gpure (j := 3) (want := true) rfl rfl rfl rfl (fun hg => pr_fieldAddr 0 rfl Tryz.underlying64 rfl ty_9 rfl rfl) ?_)
  refine jo_gpure (j := 3) (want := true) rfl rfl rfl rfl (fun hg => pr_load_box (str (r.1)) (evg rfl hg) ty_9 (.tail _ (.head _)) rfl (by decide) rfl) ?_
  refine jo_gpure (j := 3) (want := true) rfl rfl rfl rfl (fun hg => pr_fieldAddr 0 rfl Tryz.underlying64 rfl ty_9 rfl rfl) ?_
  refine jo_gpure (j := 3) (want := true) rfl rfl rfl rfl (fun hg => pr_load_box (str (t.1)) (evg rfl hg) ty_9 (.head _) rfl (by decide) rfl) ?_
  refine jo_gpure (j := 3) (want := true) rfl rfl rfl rfl (fun hg => pr_seql (evg rfl hg) (evg rfl hg)) ?_
  refine jo_pure rfl (pr_pick_and rfl rfl rfl) ?_
  refine jo_pure rfl (pr_assign rfl) (jo_nil (jq_then ?_))
  refine jc_cond rfl (fun h2b => ?_) (fun h2b => ?_)
  ·have h2 := (fun q => And.imp of_decide_eq_true of_decide_eq_true (bt_and q)) h2b
   refine jc_seq (jc_region (jo_pure rfl (pr_assign rfl) (jo_nil (jq_then (jc_ret ?_)))))
   refine jq_in_ret ?_
   refine jq_then_ret (j_drop (j_drop (j_drop (j_drop ?_))))
   exact jq_ret1 rfl () rfl (show (.int .i64 (matchT r t) : Value) = (.int .i64 ((1 : Nat) : Int)) from congrArg (Value.int .i64) (by rw [matchT, if_neg (fun e => by rcases h1 with h | h; exact h e.1; exact h e.2), if_neg (not_not.2 h2.2), if_pos h2.1]; first | done | rfl)) (fun _ h => h)
  ·have h2 := (fun q => Or.imp of_decide_eq_false of_decide_eq_false (bf_and q)) h2b
   refine jc_seq (jc_region (jo_pure rfl (pr_fieldAddr 0 rfl Tryz.underlying64 rfl ty_9 rfl rfl) ?_))
   refine jo_pure rfl (pr_load_box (str (r.1)) rfl ty_9 (.tail _ (.head _)) rfl (by decide) rfl) ?_
   refine jo_pure rfl (pr_fieldAddr 0 rfl Tryz.underlying64 rfl ty_9 rfl rfl) ?_
   refine jo_pure rfl (pr_load_box (str (t.1)) rfl ty_9 (.head _) rfl (by decide) rfl) ?_
   refine jo_pure rfl (pr_sneq rfl rfl) ?_
   refine jo_pure rfl (pr_move rfl) (jo_gpure (j := 5) (want := false) rfl rfl rfl rfl (fun hg => pr_fieldAddr 1 rfl Tryz.underlying64 rfl ty_9 rfl rfl) ?_)
   refine jo_gpure (j := 5) (want := false) rfl rfl rfl rfl (fun hg => pr_load_box (str (r.2.1)) (evg rfl hg) ty_9 (.tail _ (.head _)) rfl (by decide) rfl) ?_
   refine jo_gpure (j := 5) (want := false) rfl rfl rfl rfl (fun hg => pr_fieldAddr 1 rfl Tryz.underlying64 rfl ty_9 rfl rfl) ?_
   refine jo_gpure (j := 5) (want := false) rfl rfl rfl rfl (fun hg => pr_load_box (str (t.2.1)) (evg rfl hg) ty_9 (.head _) rfl (by decide) rfl) ?_
   refine jo_gpure (j := 5) (want := false) rfl rfl rfl rfl (fun hg => pr_sneq (evg rfl hg) (evg rfl hg)) ?_
   refine jo_pure rfl (pr_pick_or rfl rfl rfl) ?_
   refine jo_pure rfl (pr_assign rfl) (jo_nil (jq_then ?_))
   refine jc_cond rfl (fun h3b => ?_) (fun h3b => ?_)
   ·have h3 := (fun q => Or.imp (fun q => of_decide_eq_false (bt_not q)) (fun q => of_decide_eq_false (bt_not q)) (bt_or q)) h3b
    refine jc_seq (jc_region (jo_pure rfl (pr_assign rfl) (jo_nil (jq_then (jc_ret ?_)))))
    refine jq_in_ret ?_
    refine jq_then_ret (j_drop (j_drop (j_drop (j_drop ?_))))
    exact jq_ret1 rfl () rfl (show (.int .i64 (matchT r t) : Value) = (.int .i64 (-1)) from congrArg (Value.int .i64) (by rw [matchT_no2 h1 h2 h3]; first | done | rfl)) (fun _ h => h)
   ·have h3 := (fun q => And.imp (fun q => of_decide_eq_true (bf_not q)) (fun q => of_decide_eq_true (bf_not q)) (bf_or q)) h3b
    have ha : ¬ (r.1 = [42] ∧ r.2.1 = [42]) := fun e => by rcases h1 with h | h; exact h e.1; exact h e.2
    have hb : ¬ r.2.1 = [42] := fun e => by rcases h2 with h | h; exact h e; exact h h3.1
    refine jc_skip (jq_in_normal (jq_then (jc_seq (jc_seq (jc_region ?_)))))
    refine jo_pure rfl (pr_fieldAddr 2 rfl Tryz.underlying64 rfl ty_62 rfl rfl) ?_
    refine jo_pure rfl (pr_load_box (rv) rfl ty_62 (.tail _ (.head _)) rfl (by decide) rfl) ?_
    refine jo_pure rfl (pr_len_imm rfl (.tail _ (.tail _ (.head _))) Tryz.underlying62) ?_
    refine jo_pure rfl (pr_move rfl) (jo_nil (jq_then (jc_block ?_)))
    refine jc_loop (fun (i : Nat) => [(2, .pointer (some ⟨b1, 0, none⟩)), (3, .pointer (some ⟨b2, 0, none⟩)), (41, rv), (42, .int .i64 ((r.2.2.length : Nat) : Int)), (43, .int .i64 ((i : Nat) : Int))]) (fun (i : Nat) => [.box b2 64 [str (t.1), str (t.2.1), tv], .box b1 64 [str (r.1), str (r.2.1), rv], .imm (.list (.pair .str .str)) (rv) (r.2.2), .imm (.list (.pair .str .str)) (tv) (t.2.2)]) (fun (i : Nat) => i ≤ r.2.2.length ∧ (r.2.2.take i).all (fun p => t.2.2.any (matchB p)) = true) (fun (i : Nat) => r.2.2.length - i) 0 (⟨Nat.zero_le _, rfl⟩) (⟨rfl, rfl, rfl, rfl, rfl, trivial⟩) (fun _ h => h) (fun i hinv => ?_)
    refine jc_seq (jc_region (jo_pure rfl (pr_lssN (m := i) (n := r.2.2.length) rfl rfl) ?_))
    refine jo_nil (jq_then (jc_seq ?_))
    refine jc_cond rfl (fun h4b => ?_) (fun h4b => ?_)
    ·have h4 := of_decide_eq_true h4b
     refine jc_skip (jq_then (jc_seq (jc_block (jc_seq (jc_region ?_)))))
     refine jo_pure rfl (pr_idx_imm (i := i) rfl (.tail _ (.tail _ (.head _))) rfl Tryz.underlying62 ty_81 (by omega)) ?_
     refine jo_pure rfl (pr_load_elem_imm (i := i) (.agg #[str ((r.2.2.getD i ([], [])).1), str ((r.2.2.getD i ([], [])).2)]) rfl (.tail _ (.tail _ (.head _))) ty_81 rfl rfl (by omega) rfl) ?_
     refine jo_alloc ty_81 [str ([]), str ([])] rfl rfl (fun b3 => ?_)
     refine jo_store rfl rfl ty_81 [str ((r.2.2.getD i ([], [])).1), str ((r.2.2.getD i ([], [])).2)] rfl rfl rfl [str ((r.2.2.getD i ([], [])).1), str ((r.2.2.getD i ([], [])).2)] rfl rfl ?_
     refine jo_nil (jq_then (jc_seq (jc_region (jo_pure rfl (pr_fieldAddr 2 rfl Tryz.underlying64 rfl ty_62 rfl rfl) ?_))))
     refine jo_pure rfl (pr_load_box (tv) rfl ty_62 (.tail _ (.head _)) rfl (by decide) rfl) ?_
     refine jo_pure rfl (pr_load_box (.agg #[str ((r.2.2.getD i ([], [])).1), str ((r.2.2.getD i ([], [])).2)]) rfl ty_81 (.head _) rfl (by decide) rfl) ?_
     refine jo_callp cal_95 (c_mediatype_contains t.2.2 tv (r.2.2.getD i ([], [])) (by first | omega | exact hm2 | exact (hm _ (getD_mem h4)).2) (by first | omega | exact hm2 | exact (hm _ (getD_mem h4)).2) (by first | omega | exact hm2 | exact (hm _ (getD_mem h4)).2)) ⟨rfl, rfl, trivial⟩ rfl (⟨⟨rfl, .tail _ (.tail _ (.tail _ (.tail _ (.head _))))⟩, trivial⟩) (fun _ => ?_)
     refine jo_pure rfl (pr_not rfl) ?_
     refine jo_nil (jq_then ?_)
     refine jc_cond rfl (fun h5b => ?_) (fun h5b => ?_)
     ·have h5 := (fun q => id (bt_not q)) h5b
      refine jc_seq (jc_region (jo_pure rfl (pr_assign rfl) (jo_nil (jq_then (jc_ret ?_)))))
      refine jq_in_ret ?_
      refine jq_then_ret (jq_then_ret (jq_in_ret ?_))
      refine jq_then_ret (j_drop (j_drop (j_drop (j_drop (j_drop ?_)))))
      exact jq_ret1 rfl () rfl (show (.int .i64 (matchT r t) : Value) = (.int .i64 (-1)) from congrArg (Value.int .i64) (by rw [matchT, if_neg ha, if_neg (not_not.2 h3.1), if_neg hb, if_neg (not_not.2 h3.2), if_neg]; rw [all_miss (dd := ([], [])) h4 (by simpa using h5)]; simp; first | done | rfl)) (fun _ h => h)
     ·have h5 := (fun q => id (bf_not q)) h5b
      refine jc_skip (jq_in_normal (jq_then (jc_region (jo_pure rfl (pr_addN (m := i) (n := 1) rfl rfl (by omega)) ?_))))
      refine jo_pure rfl (pr_move rfl) (jo_nil (j_drop (j_pull3 (j_pull3 (j_pull3 ?_)))))
      refine j_pull3 ?_
      refine jq_round' (i + 1) (by (try dsimp only); exact (⟨by omega, all_step (dd := ([], [])) h4 hinv.2 (by simpa using h5)⟩)) (by (try dsimp only); exact (by omega)) ⟨rfl, rfl, rfl, rfl, rfl, trivial⟩ (fun _ h => h)
    ·have h4 := of_decide_eq_false h4b
     refine jc_exit ?_
     refine jq_then_exit ?_
     refine jq_then_exit ?_
     refine jq_in_hit ?_
     refine jq_then (jc_seq (jc_region (jo_pure rfl (pr_fieldAddr 2 rfl Tryz.underlying64 rfl ty_62 rfl rfl) ?_)))
     refine jo_pure rfl (pr_load_box (rv) rfl ty_62 (.tail _ (.head _)) rfl (by decide) rfl) ?_
     refine jo_pure rfl (pr_len_imm rfl (.tail _ (.tail _ (.head _))) Tryz.underlying62) ?_
     refine jo_pure rfl (pr_addN (m := 2) (n := r.2.2.length) rfl rfl (by omega)) ?_
     refine jo_pure rfl (pr_assign rfl) (jo_nil (jq_then (jc_ret (j_drop (j_drop ?_)))))
     refine j_drop (j_drop ?_)
     exact jq_ret1 rfl () rfl (show (.int .i64 (matchT r t) : Value) = (.int .i64 ((2 + r.2.2.length : Nat) : Int)) from congrArg (Value.int .i64) (by rw [matchT, if_neg ha, if_neg (not_not.2 h3.1), if_neg hb, if_neg (not_not.2 h3.2), if_pos (all_end (by omega) hinv.2)]; first | done | rfl)) (fun _ h => h)

theorem c_coding_Canonical (kind : Int) (s : List UInt8) (hs : s.length ≤ 1000000) : Con Tryz.prog 91 #[.int .i64 (kind), str (s)] [] (fun _ : Unit => str (canonical kind s)) (fun _ => []) := by
 refine con_of_J (args := [.int .i64 (kind), str (s)]) (n := 18) Tryz.func91 rfl (Nat.le_of_ble_eq_true rfl) rfl (fun w0 I0 m0 => ?_)
 show J _ [(0, .int .i64 (kind)), (1, str (s))] [] _
 refine jc_seq (jc_region (jo_pure rfl (pr_assign rfl) (jo_nil (jq_then (jc_seq ?_)))))
 refine jc_region (jo_pure rfl (pr_move rfl) ?_)
 refine jo_callp cal_42 (c_ascii_Lower s (by omega)) ⟨rfl, trivial⟩ rfl (trivial) (fun _ => ?_)
 refine jo_pure rfl (pr_assign rfl) (jo_nil (jq_then (jc_seq (jc_seq (jc_region ?_)))))
 refine jo_pure rfl (pr_move rfl) (jo_pure rfl (pr_neq (n := 4) rfl rfl) ?_)
 refine jo_nil (jq_then ?_)
 refine jc_cond rfl (fun h1b => ?_) (fun h1b => ?_)
 ·have h1 := (fun q => of_decide_eq_false (bt_not q)) h1b
  refine jc_seq (jc_region (jo_pure rfl (pr_move rfl) (jo_pure rfl (pr_assign rfl) (jo_nil (jq_then ?_)))))
  refine jc_ret (jq_then_ret ?_)
  exact jq_ret1 rfl () rfl (show (str (canonical kind s) : Value) = (str (lower s)) from by simp [canonical, sGzip, sXgzip, sCompress, sXcompress, *]) (fun _ h => h)
 ·have h1 := (fun q => of_decide_eq_true (bf_not q)) h1b
  refine jc_skip (jq_then (jc_seq (jc_seq (jc_region (jo_pure rfl (pr_move rfl) ?_)))))
  refine jo_nil (jq_then (jc_block (jc_seq (jc_seq (jc_region ?_)))))
  refine jo_pure rfl (pr_seql rfl rfl) ?_
  refine jo_pure rfl (pr_assign rfl) (jo_nil (jq_then ?_))
  refine jc_cond rfl (fun h2b => ?_) (fun h2b => ?_)
  ·have h2 := of_decide_eq_true h2b
   refine jc_skip (jq_then (jc_true rfl (h2b) ?_))
   refine jc_seq (jc_region (jo_pure rfl (pr_assign rfl) (jo_nil (jq_then (jc_ret ?_)))))
   refine jq_in_ret ?_
   refine jq_then_ret ?_
   exact jq_ret1 rfl () rfl (show (str (canonical kind s) : Value) = (str ([103, 122, 105, 112])) from by simp [canonical, sGzip, sXgzip, sCompress, sXcompress, *]) (fun _ h => h)
  ·have h2 := of_decide_eq_false h2b
   refine jc_region (jo_pure rfl (pr_seql rfl rfl) ?_)
   refine jo_pure rfl (pr_assign rfl) (jo_nil (jq_then ?_))
   refine jc_cond rfl (fun h3b => ?_) (fun h3b => ?_)
   ·have h3 := of_decide_eq_true h3b
    refine jc_seq (jc_region (jo_pure rfl (pr_assign rfl) (jo_nil (jq_then (jc_ret ?_)))))
    refine jq_in_ret ?_
    refine jq_then_ret ?_
    exact jq_ret1 rfl () rfl (show (str (canonical kind s) : Value) = (str ([103, 122, 105, 112])) from by simp [canonical, sGzip, sXgzip, sCompress, sXcompress, *]) (fun _ h => h)
   ·have h3 := of_decide_eq_false h3b
    refine jc_seq (jc_seq (jc_region (jo_pure rfl (pr_seql rfl rfl) ?_)))
    refine jo_pure rfl (pr_assign rfl) (jo_nil (jq_then ?_))
    refine jc_cond rfl (fun h4b => ?_) (fun h4b => ?_)
    ·have h4 := of_decide_eq_true h4b
     refine jc_skip (jq_then (jc_true rfl (h4b) ?_))
     refine jc_seq (jc_region (jo_pure rfl (pr_assign rfl) (jo_nil (jq_then (jc_ret ?_)))))
     refine jq_in_ret ?_
     refine jq_then_ret ?_
     exact jq_ret1 rfl () rfl (show (str (canonical kind s) : Value) = (str ([99, 111, 109, 112, 114, 101, 115, 115])) from by simp [canonical, sGzip, sXgzip, sCompress, sXcompress, *]) (fun _ h => h)
    ·have h4 := of_decide_eq_false h4b
     refine jc_region (jo_pure rfl (pr_seql rfl rfl) ?_)
     refine jo_pure rfl (pr_assign rfl) (jo_nil (jq_then ?_))
     refine jc_cond rfl (fun h5b => ?_) (fun h5b => ?_)
     ·have h5 := of_decide_eq_true h5b
      refine jc_seq (jc_region (jo_pure rfl (pr_assign rfl) (jo_nil (jq_then (jc_ret ?_)))))
      refine jq_in_ret ?_
      refine jq_then_ret ?_
      exact jq_ret1 rfl () rfl (show (str (canonical kind s) : Value) = (str ([99, 111, 109, 112, 114, 101, 115, 115])) from by simp [canonical, sGzip, sXgzip, sCompress, sXcompress, *]) (fun _ h => h)
     ·have h5 := of_decide_eq_false h5b
      refine jc_skip (jq_in_normal (jq_then (jc_seq (jc_region (jo_pure rfl (pr_move rfl) ?_)))))
      refine jo_pure rfl (pr_assign rfl) (jo_nil (jq_then (jc_ret ?_)))
      exact jq_ret1 rfl () rfl (show (str (canonical kind s) : Value) = (str (lower s)) from by simp [canonical, sGzip, sXgzip, sCompress, sXcompress, *]) (fun _ h => h)

theorem c_ref10_Canonical (kind : Int) (s : List UInt8) (hs : s.length ≤ 1000000) : Con Tryz.prog 53 #[.int .i64 (kind), str (s)] [] (fun _ : Unit => str (canonical kind s)) (fun _ => []) := by
 refine con_of_J (args := [.int .i64 (kind), str (s)]) (n := 20) Tryz.func53 rfl (Nat.le_of_ble_eq_true rfl) rfl (fun w0 I0 m0 => ?_)
 show J _ [(0, .int .i64 (kind)), (1, str (s))] [] _
 refine jc_seq (jc_region (jo_pure rfl (pr_assign rfl) (jo_nil (jq_then (jc_seq ?_)))))
 refine jc_region (jo_pure rfl (pr_move rfl) ?_)
 refine jo_callp cal_26 (c_ref01_Lower s (by omega)) ⟨rfl, trivial⟩ rfl (trivial) (fun _ => ?_)
 refine jo_pure rfl (pr_assign rfl) (jo_nil (jq_then (jc_seq (jc_seq (jc_region ?_)))))
 refine jo_pure rfl (pr_move rfl) (jo_pure rfl (pr_eql (n := 4) rfl rfl) ?_)
 refine jo_pure rfl (pr_move rfl) (jo_gpure (j := 2) (want := true) rfl rfl rfl rfl (fun hg => pr_move rfl) ?_)
 refine jo_gpure (j := 2) (want := true) rfl rfl rfl rfl (fun hg => pr_seql (evg rfl hg) rfl) ?_
 refine jo_pure rfl (pr_pick_and rfl rfl rfl) ?_
 refine jo_nil (jq_then ?_)
 refine jc_cond rfl (fun h1b => ?_) (fun h1b => ?_)
 ·have h1 := (fun q => And.imp of_decide_eq_true of_decide_eq_true (bt_and q)) h1b
  refine jc_seq (jc_region (jo_pure rfl (pr_assign rfl) (jo_nil (jq_then (jc_ret ?_)))))
  refine jq_then_ret ?_
  exact jq_ret1 rfl () rfl (show (str (canonical kind s) : Value) = (str ([103, 122, 105, 112])) from by by_cases hk : kind = 4 <;> simp_all [canonical, sGzip, sXgzip, sCompress, sXcompress]) (fun _ h => h)
 ·have h1 := (fun q => Or.imp of_decide_eq_false of_decide_eq_false (bf_and q)) h1b
  refine jc_skip (jq_then (jc_seq (jc_seq (jc_region (jo_pure rfl (pr_move rfl) ?_)))))
  refine jo_pure rfl (pr_eql (n := 4) rfl rfl) ?_
  refine jo_pure rfl (pr_move rfl) (jo_gpure (j := 2) (want := true) rfl rfl rfl rfl (fun hg => pr_move rfl) ?_)
  refine jo_gpure (j := 2) (want := true) rfl rfl rfl rfl (fun hg => pr_seql (evg rfl hg) rfl) ?_
  refine jo_pure rfl (pr_pick_and rfl rfl rfl) ?_
  refine jo_nil (jq_then ?_)
  refine jc_cond rfl (fun h2b => ?_) (fun h2b => ?_)
  ·have h2 := (fun q => And.imp of_decide_eq_true of_decide_eq_true (bt_and q)) h2b
   refine jc_seq (jc_region (jo_pure rfl (pr_assign rfl) (jo_nil (jq_then (jc_ret ?_)))))
   refine jq_then_ret ?_
   exact jq_ret1 rfl () rfl (show (str (canonical kind s) : Value) = (str ([99, 111, 109, 112, 114, 101, 115, 115])) from by by_cases hk : kind = 4 <;> simp_all [canonical, sGzip, sXgzip, sCompress, sXcompress]) (fun _ h => h)
  ·have h2 := (fun q => Or.imp of_decide_eq_false of_decide_eq_false (bf_and q)) h2b
   refine jc_skip (jq_then (jc_seq (jc_region (jo_pure rfl (pr_move rfl) (jo_pure rfl (pr_assign rfl) ?_)))))
   refine jo_nil (jq_then (jc_ret ?_))
   exact jq_ret1 rfl () rfl (show (str (canonical kind s) : Value) = (str (lower s)) from by by_cases hk : kind = 4 <;> simp_all [canonical, sGzip, sXgzip, sCompress, sXcompress]) (fun _ h => h)

theorem c_coding_Match (kind : Int) (r : List UInt8) (v : List UInt8) (hr : r.length ≤ 1000000) (hv : v.length ≤ 1000000) : Con Tryz.prog 68 #[.int .i64 (kind), str (r), str (v)] [] (fun _ : Unit => .int .i64 (matchCoding kind r v)) (fun _ => []) := by
 refine con_of_J (args := [.int .i64 (kind), str (r), str (v)]) (n := 18) Tryz.func68 rfl (Nat.le_of_ble_eq_true rfl) rfl (fun w0 I0 m0 => ?_)
 show J _ [(0, .int .i64 (kind)), (1, str (r)), (2, str (v))] [] _
 refine jc_seq (jc_region (jo_pure rfl (pr_assign rfl) (jo_nil (jq_then (jc_seq ?_)))))
 refine jc_block (jc_seq (jc_region (jo_pure rfl (pr_move rfl) (jo_pure rfl (pr_seql rfl rfl) ?_))))
 refine jo_pure rfl (pr_assign rfl) (jo_nil (jq_then ?_))
 refine jc_cond rfl (fun h1b => ?_) (fun h1b => ?_)
 ·have h1 := of_decide_eq_true h1b
  refine jc_seq (jc_region (jo_pure rfl (pr_assign rfl) (jo_nil (jq_then (jc_ret ?_)))))
  refine jq_in_ret ?_
  refine jq_then_ret ?_
  exact jq_ret1 rfl () rfl (show (.int .i64 (matchCoding kind r v) : Value) = (.int .i64 ((0 : Nat) : Int)) from by simp [matchCoding, *]) (fun _ h => h)
 ·have h1 := of_decide_eq_false h1b
  refine jc_seq (jc_region (jo_pure rfl (pr_move rfl) (jo_pure rfl (pr_move rfl) ?_)))
  refine jo_callp cal_91 (c_coding_Canonical kind r (by omega)) ⟨rfl, rfl, trivial⟩ rfl (trivial) (fun _ => ?_)
  refine jo_pure rfl (pr_move rfl) (jo_pure rfl (pr_move rfl) ?_)
  refine jo_callp cal_91 (c_coding_Canonical kind v (by omega)) ⟨rfl, rfl, trivial⟩ rfl (trivial) (fun _ => ?_)
  refine jo_pure rfl (pr_seql rfl rfl) ?_
  refine jo_pure rfl (pr_assign rfl) (jo_nil (jq_then ?_))
  refine jc_cond rfl (fun h2b => ?_) (fun h2b => ?_)
  ·have h2 := of_decide_eq_true h2b
   refine jc_seq (jc_region (jo_pure rfl (pr_assign rfl) (jo_nil (jq_then (jc_ret ?_)))))
   refine jq_in_ret ?_
   refine jq_then_ret ?_
   exact jq_ret1 rfl () rfl (show (.int .i64 (matchCoding kind r v) : Value) = (.int .i64 ((1 : Nat) : Int)) from by simp [matchCoding, *]) (fun _ h => h)
  ·have h2 := of_decide_eq_false h2b
   refine jc_skip (jq_in_normal (jq_then (jc_seq (jc_region (jo_pure rfl (pr_assign rfl) ?_)))))
   refine jo_nil (jq_then (jc_ret ?_))
   exact jq_ret1 rfl () rfl (show (.int .i64 (matchCoding kind r v) : Value) = (.int .i64 (-1)) from by simp [matchCoding, *]) (fun _ h => h)

theorem c_list_step (st : Nat) (c : UInt8) (hst : st ≤ 2) : Con Tryz.prog 84 #[.int .i64 ((st : Nat) : Int), byte (c)] [] (fun _ : Unit => .int .i64 ((stepF st c : Nat) : Int)) (fun _ => []) := by
 refine con_of_J (args := [.int .i64 ((st : Nat) : Int), byte (c)]) (n := 21) Tryz.func84 rfl (Nat.le_of_ble_eq_true rfl) rfl (fun w0 I0 m0 => ?_)
 show J _ [(0, .int .i64 ((st : Nat) : Int)), (1, byte (c))] [] _
 refine jc_seq (jc_region (jo_pure rfl (pr_assign rfl) (jo_nil (jq_then (jc_seq ?_)))))
 refine jc_block (jc_seq (jc_region (jo_pure rfl (pr_move rfl) (jo_pure rfl (pr_eqlN (m := st) (n := 2) rfl rfl) ?_))))
 refine jo_pure rfl (pr_assign rfl) (jo_nil (jq_then ?_))
 refine jc_cond rfl (fun h1b => ?_) (fun h1b => ?_)
 ·have h1 := of_decide_eq_true h1b
  refine jc_seq (jc_region (jo_pure rfl (pr_assign rfl) (jo_nil (jq_then (jc_ret ?_)))))
  refine jq_in_ret ?_
  refine jq_then_ret ?_
  exact jq_ret1 rfl () rfl (show (.int .i64 ((stepF st c : Nat) : Int) : Value) = (.int .i64 ((1 : Nat) : Int)) from congrArg (fun n : Nat => Value.int .i64 (n : Int)) (by rw [stepF, if_pos h1])) (fun _ h => h)
 ·have h1 := of_decide_eq_false h1b
  refine jc_seq (jc_region (jo_pure rfl (pr_move rfl) (jo_pure rfl (pr_eqlN (m := st) (n := 1) rfl rfl) ?_)))
  refine jo_pure rfl (pr_move rfl) (jo_gpure (j := 2) (want := true) rfl rfl rfl rfl (fun hg => pr_move rfl) ?_)
  refine jo_gpure (j := 2) (want := true) rfl rfl rfl rfl (fun hg => pr_beql (n := 92) (evg rfl hg) rfl) ?_
  refine jo_pure rfl (pr_pick_and rfl rfl rfl) ?_
  refine jo_pure rfl (pr_assign rfl) (jo_nil (jq_then ?_))
  refine jc_cond rfl (fun h2b => ?_) (fun h2b => ?_)
  ·have h2 := (fun q => And.imp of_decide_eq_true of_decide_eq_true (bt_and q)) h2b
   refine jc_seq (jc_region (jo_pure rfl (pr_assign rfl) (jo_nil (jq_then (jc_ret ?_)))))
   refine jq_in_ret ?_
   refine jq_then_ret ?_
   exact jq_ret1 rfl () rfl (show (.int .i64 ((stepF st c : Nat) : Int) : Value) = (.int .i64 ((2 : Nat) : Int)) from congrArg (fun n : Nat => Value.int .i64 (n : Int)) (by rw [stepF, if_neg h1, if_pos h2])) (fun _ h => h)
  ·have h2 := (fun q => Or.imp of_decide_eq_false of_decide_eq_false (bf_and q)) h2b
   refine jc_seq (jc_region (jo_pure rfl (pr_move rfl) (jo_pure rfl (pr_beql (n := 34) rfl rfl) ?_)))
   refine jo_pure rfl (pr_assign rfl) (jo_nil (jq_then ?_))
   refine jc_cond rfl (fun h3b => ?_) (fun h3b => ?_)
   ·have h3 := of_decide_eq_true h3b
    refine jc_seq (jc_region (jo_pure rfl (pr_move rfl) (jo_pure rfl (pr_subN (m := 1) (n := st) rfl rfl (by omega) (by omega)) ?_)))
    refine jo_pure rfl (pr_assign rfl) (jo_nil (jq_then (jc_ret (jq_in_ret ?_))))
    refine jq_then_ret ?_
    exact jq_ret1 rfl () rfl (show (.int .i64 ((stepF st c : Nat) : Int) : Value) = (.int .i64 ((1 - st : Nat) : Int)) from congrArg (fun n : Nat => Value.int .i64 (n : Int)) (by rw [stepF, if_neg h1, if_neg (fun e => h2.elim (fun q => q e.1) (fun q => q e.2)), if_pos h3])) (fun _ h => h)
   ·have h3 := of_decide_eq_false h3b
    refine jc_skip (jq_in_normal (jq_then (jc_seq (jc_region (jo_pure rfl (pr_move rfl) ?_)))))
    refine jo_pure rfl (pr_assign rfl) (jo_nil (jq_then (jc_ret ?_)))
    exact jq_ret1 rfl () rfl (show (.int .i64 ((stepF st c : Nat) : Int) : Value) = (.int .i64 ((st : Nat) : Int)) from congrArg (fun n : Nat => Value.int .i64 (n : Int)) (by rw [stepF, if_neg h1, if_neg (fun e => h2.elim (fun q => q e.1) (fun q => q e.2)), if_neg h3])) (fun _ h => h)

theorem c_list_Split (v : List UInt8) (hs : v.length ≤ 1000000) : Con Tryz.prog 55 #[str (v)] [] (fun r1 : Value => r1) (fun r1 => [.row r1 9 .str (splitF v)]) := by
 refine con_of_J (args := [str (v)]) (n := 52) Tryz.func55 rfl (Nat.le_of_ble_eq_true rfl) rfl (fun w0 I0 m0 => ?_)
 show J _ [(0, str (v))] [] _
 refine jc_seq (jc_region (jo_pure rfl (pr_assign rfl) (jo_nil (jq_then (jc_seq ?_)))))
 refine jc_region (jo_pure rfl (pr_assign rfl) (jo_nil (jq_then (jc_seq (jc_region ?_)))))
 refine jo_pure rfl (pr_assign rfl) (jo_pure rfl (pr_assign rfl) (jo_nil (jq_then (jc_seq (jc_seq ?_)))))
 refine jc_region (jo_pure rfl (pr_assign rfl) (jo_nil (jq_then (jc_block (j_nil_row 9 .str ?_)))))
 refine jc_loop5 (fun (i : Nat) (st : Nat) (fr : Nat) (w : Value) (acc : List (List UInt8)) => [(0, str (v)), (3, w), (4, .int .i64 ((st : Nat) : Int)), (5, .int .i64 ((fr : Nat) : Int)), (6, .int .i64 ((i : Nat) : Int))]) (fun (i : Nat) (st : Nat) (fr : Nat) (w : Value) (acc : List (List UInt8)) => [.row (w) 9 .str (acc)]) (fun (i : Nat) (st : Nat) (fr : Nat) (w : Value) (acc : List (List UInt8)) => i ≤ v.length + 1 ∧ fr ≤ i ∧ st ≤ 2 ∧ acc.length ≤ 64 ∧ acc ++ rest7 v i fr st = memG (cutF v 44)) (fun (i : Nat) (st : Nat) (fr : Nat) (w : Value) (acc : List (List UInt8)) => v.length + 1 - i) 0 0 0 (.slice none 0 0) [] (⟨by omega, Nat.le_refl _, by omega, by simp, rest7_zero⟩) (⟨rfl, rfl, rfl, rfl, rfl, trivial⟩) (fun _ h => h) (fun i st fr w acc hinv => ?_)
 refine jc_seq (jc_seq (jc_region (jo_pure rfl (pr_move rfl) (jo_pure rfl (pr_move rfl) (jo_pure rfl (pr_slen rfl Tryz.underlying9) ?_)))))
 refine jo_pure rfl (pr_leqN (m := i) (n := v.length) rfl rfl) ?_
 refine jo_pure rfl (pr_move rfl) (jo_gpure (j := 4) (want := true) rfl rfl rfl rfl (fun hg => pr_move rfl) ?_)
 refine jo_gpure (j := 4) (want := true) rfl rfl rfl rfl (fun hg => pr_len_row (evg rfl hg) (.head _) Tryz.underlying28) ?_
 refine jo_gpure (j := 4) (want := true) rfl rfl rfl rfl (fun hg => pr_lssN (m := acc.length) (n := 64) (evg rfl hg) rfl) ?_
 refine jo_pure rfl (pr_pick_and rfl rfl rfl) ?_
 refine jo_nil (jq_then ?_)
 refine jc_cond rfl (fun h1b => ?_) (fun h1b => ?_)
 ·have h1 := (fun q => And.imp of_decide_eq_true of_decide_eq_true (bt_and q)) h1b
  refine jc_skip (jq_then (jc_seq (jc_block (jc_seq (jc_seq ?_)))))
  refine jc_region (jo_pure rfl (pr_move rfl) (jo_pure rfl (pr_move rfl) (jo_pure rfl (pr_slen rfl Tryz.underlying9) ?_)))
  refine jo_pure rfl (pr_lssN (m := i) (n := v.length) rfl rfl) ?_
  refine jo_pure rfl (pr_move rfl) (jo_gpure (j := 4) (want := true) rfl rfl rfl rfl (fun hg => pr_move rfl) ?_)
  refine jo_gpure (j := 4) (want := true) rfl rfl rfl rfl (fun hg => pr_neqN (m := st) (n := 0) (evg rfl hg) rfl) ?_
  refine jo_gpure (j := 4) (want := true) rfl rfl rfl rfl (fun hg => pr_move (evg rfl hg)) ?_
  refine jo_gpure2 (j := 7) (want := false) rfl rfl rfl rfl (fun hg => pr_move rfl) ?_
  refine jo_gpure2 (j := 7) (want := false) rfl rfl rfl rfl (fun hg => pr_move rfl) ?_
  refine jo_gpure2 (j := 7) (want := false) rfl rfl rfl rfl (fun hg => pr_sindex (i := i) (evg rfl hg) (evg rfl hg) Tryz.underlying9 (by first | omega | (simp at hg; omega))) ?_
  refine jo_gpure2 (j := 7) (want := false) rfl rfl rfl rfl (fun hg => pr_bneq (n := 44) (evg rfl hg) rfl) ?_
  refine jo_gpure (j := 4) (want := true) rfl rfl rfl rfl (fun hg => pr_pick_or (evg rfl hg) rfl (evg2 rfl hg)) ?_
  refine jo_pure rfl (pr_pick_and rfl rfl rfl) ?_
  refine jo_nil (jq_then ?_)
  refine jc_cond rfl (fun h2b => ?_) (fun h2b => ?_)
  ·have h2 := (fun q => And.imp of_decide_eq_true (fun q => Or.imp (fun q => of_decide_eq_false (bt_not q)) (fun q => of_decide_eq_false (bt_not q)) (bt_or q)) (bt_and q)) h2b
   refine jc_seq (jc_region (jo_pure rfl (pr_move rfl) (jo_pure rfl (pr_move rfl) (jo_pure rfl (pr_move rfl) (jo_pure rfl (pr_sindex (i := i) rfl rfl Tryz.underlying9 (by first | omega | (simp at hg; omega))) ?_)))))
   refine jo_callp cal_84 (c_list_step st (v.getD i 0) (by first | omega | (simp only [List.length_drop, List.length_take]; omega) | (rw [List.length_drop, List.length_take]; omega))) ⟨rfl, rfl, trivial⟩ rfl (trivial) (fun _ => ?_)
   refine jo_pure rfl (pr_assign rfl) (jo_nil (jq_then (jc_exit ?_)))
   refine jq_then_exit ?_
   refine jq_in_hit ?_
   refine jq_then (jc_region (jo_pure rfl (pr_move rfl) (jo_pure rfl (pr_addN (m := i) (n := 1) rfl rfl (by omega)) ?_)))
   refine jo_pure rfl (pr_assign rfl) (jo_nil ?_)
   refine jq_round' ((i + 1), (stepF st (v.getD i 0)), fr, w, acc) (by (try dsimp only); exact (⟨by omega, by omega, stepF_le hinv.2.2.1, hinv.2.2.2.1, split_next h2.1 hinv.2.1 hinv.2.2.1 (fun e => h2.2.elim (fun q => q e.1) (fun q => q e.2)) hinv.2.2.2.2⟩)) (by (try dsimp only); exact (by omega)) ⟨rfl, rfl, rfl, rfl, rfl, trivial⟩ (fun _ h => h)
  ·have h2 := (fun q => Or.imp of_decide_eq_false (fun q => And.imp (fun q => of_decide_eq_true (bf_not q)) (fun q => of_decide_eq_true (bf_not q)) (bf_or q)) (bf_and q)) h2b
   refine jc_skip (jq_then (jc_seq (jc_seq (jc_region (jo_pure rfl (pr_move rfl) ?_)))))
   refine jo_pure rfl (pr_move rfl) (jo_pure rfl (pr_move rfl) (jo_pure rfl (pr_sslice (i := fr) (j := i) rfl rfl rfl Tryz.underlying9 (by omega) (by omega)) ?_))
   refine jo_callp cal_85 (c_ascii_Trim ((v.take i).drop fr) (by first | omega | (simp only [List.length_drop, List.length_take]; omega) | (rw [List.length_drop, List.length_take]; omega))) ⟨rfl, trivial⟩ rfl (trivial) (fun _ => ?_)
   refine jo_pure rfl (pr_assign rfl) (jo_nil (jq_then (jc_seq (jc_region (jo_pure rfl (pr_move rfl) ?_)))))
   refine jo_pure rfl (pr_sneq rfl rfl) ?_
   refine jo_nil (jq_then ?_)
   refine jc_cond rfl (fun h3b => ?_) (fun h3b => ?_)
   ·have h3 := (fun q => of_decide_eq_false (bt_not q)) h3b
    refine jc_region (jo_pure rfl (pr_move rfl) (jo_pure rfl (pr_move rfl) ?_))
    refine jo_buildSlice (t := .str) [trim ((v.take i).drop fr)] [str (trim ((v.take i).drop fr))] (fun a hf => by simp only [List.zipIdx_cons, List.zipIdx_nil, List.map_toArray, List.map_cons, List.map_nil, hf.ev (show ev _ (.tmp 46) = some (str (trim ((v.take i).drop fr))) from rfl)] <;> rfl) rfl Tryz.underlying28 ty_9 rfl rfl rfl rfl rfl (fun g1 => ?_)
    refine j_pull1 ?_
    refine jo_append rfl rfl Tryz.underlying28 ty_9 rfl (by simp only [List.length_append, List.length_cons, List.length_nil, maxLen]; omega) (by simp only [List.length_append, List.length_cons, List.length_nil]; omega) rfl (fun v1 => ?_)
    refine jo_pure rfl (pr_assign rfl) (jo_nil (jq_then (jc_region (jo_pure rfl (pr_move rfl) (jo_pure rfl (pr_addN (m := i) (n := 1) rfl rfl (by omega)) ?_)))))
    refine jo_pure rfl (pr_assign rfl) (jo_nil (jq_in_normal (jq_then (jc_region (jo_pure rfl (pr_move rfl) ?_)))))
    refine jo_pure rfl (pr_addN (m := i) (n := 1) rfl rfl (by omega)) ?_
    refine jo_pure rfl (pr_assign rfl) (jo_nil ?_)
    refine jq_round' ((i + 1), st, (i + 1), v1, (acc ++ [trim ((v.take i).drop fr)])) (by (try dsimp only); exact (⟨by omega, Nat.le_refl _, hinv.2.2.1, by simp; omega, split_put h1.1 (h2.imp (fun q => by omega) id) h3 hinv.2.2.2.2⟩)) (by (try dsimp only); exact (by omega)) ⟨rfl, rfl, rfl, rfl, rfl, trivial⟩ (fun _ h => h)
   ·have h3 := (fun q => of_decide_eq_true (bf_not q)) h3b
    refine jc_skip (jq_then (jc_region (jo_pure rfl (pr_move rfl) (jo_pure rfl (pr_addN (m := i) (n := 1) rfl rfl (by omega)) ?_))))
    refine jo_pure rfl (pr_assign rfl) (jo_nil (jq_in_normal (jq_then (jc_region (jo_pure rfl (pr_move rfl) ?_)))))
    refine jo_pure rfl (pr_addN (m := i) (n := 1) rfl rfl (by omega)) ?_
    refine jo_pure rfl (pr_assign rfl) (jo_nil ?_)
    refine jq_round' ((i + 1), st, (i + 1), w, acc) (by (try dsimp only); exact (⟨by omega, Nat.le_refl _, hinv.2.2.1, hinv.2.2.2.1, split_skip h1.1 (h2.imp (fun q => by omega) id) h3 hinv.2.2.2.2⟩)) (by (try dsimp only); exact (by omega)) ⟨rfl, rfl, rfl, rfl, rfl, trivial⟩ (fun _ h => h)
 ·have h1 := (fun q => Or.imp of_decide_eq_false of_decide_eq_false (bf_and q)) h1b
  refine jc_exit ?_
  refine jq_then_exit ?_
  refine jq_then_exit ?_
  refine jq_in_hit ?_
  refine jq_then (jc_seq (jc_region (jo_pure rfl (pr_move rfl) (jo_pure rfl (pr_assign rfl) (jo_nil ?_)))))
  refine jq_then (jc_ret ?_)
  exact jq_ret1 rfl w rfl (show (w : Value) = (w) from rfl) (fun _ h => by rw [split_done (h1.imp (fun q => by omega) (fun q => by omega)) hinv.2.2.2.1 hinv.2.2.2.2] at h; exact h)

theorem c_list_All (l : List ((List UInt8) × (List UInt8))) (lv : Value) (name : List UInt8) (hl : l.length ≤ 1000000) (hm : ∀ x ∈ l, x.1.length ≤ 1000000 ∧ x.2.length ≤ 1000000) (hn : name.length ≤ 1000000) : Con Tryz.prog 30 #[lv, str (name)] [.imm (.list (.pair .str .str)) (lv) (l)] (fun r1 : Value => r1) (fun r1 => [.imm (.list .str) r1 (allF l name)]) := by
 refine con_of_J (args := [lv, str (name)]) (n := 26) Tryz.func30 rfl (Nat.le_of_ble_eq_true rfl) rfl (fun w0 I0 m0 => ?_)
 show J _ [(0, lv), (1, str (name))] [.imm (.list (.pair .str .str)) (lv) (l)] _
 refine jc_seq (jc_region (jo_pure rfl (pr_assign rfl) (jo_nil (jq_then (jc_seq ?_)))))
 refine jc_region (jo_pure rfl (pr_assign rfl) (jo_nil (jq_then (jc_seq (jc_seq ?_)))))
 refine jc_region (jo_pure rfl (pr_move rfl) (jo_pure rfl (pr_move rfl) ?_))
 refine jo_callp cal_54 (c_fieldline_Get l lv name (by first | omega | exact hm | (have := getD_len (i := i) (getF_mem (n := 1000000) hm (name := name)); omega)) (by first | omega | exact hm | (have := getD_len (i := i) (getF_mem (n := 1000000) hm (name := name)); omega)) (by first | omega | exact hm | (have := getD_len (i := i) (getF_mem (n := 1000000) hm (name := name)); omega))) ⟨rfl, rfl, trivial⟩ rfl (⟨⟨rfl, .head _⟩, trivial⟩) (fun r1 => ?_)
 show J _ _ [.row (r1) 9 .str (getF l name), .imm (.list (.pair .str .str)) (lv) (l)] _
 refine jo_pure rfl (pr_len_row rfl (.head _) Tryz.underlying28) ?_
 refine jo_pure rfl (pr_move rfl) (jo_nil (jq_then (jc_block (j_nil_row 9 .str ?_))))
 refine jc_loop3 (fun (i : Nat) (w : Value) (acc : List (List UInt8)) => [(5, w), (10, r1), (11, .int .i64 (((getF l name).length : Nat) : Int)), (12, .int .i64 ((i : Nat) : Int))]) (fun (i : Nat) (w : Value) (acc : List (List UInt8)) => [.row (w) 9 .str (acc), .row (r1) 9 .str (getF l name), .imm (.list (.pair .str .str)) (lv) (l)]) (fun (i : Nat) (w : Value) (acc : List (List UInt8)) => i ≤ (getF l name).length ∧ acc.length ≤ i * 64 ∧ (getF l name).length ≤ 1000000 ∧ acc = ((getF l name).take i).flatMap splitF) (fun (i : Nat) (w : Value) (acc : List (List UInt8)) => (getF l name).length - i) 0 (.slice none 0 0) [] (⟨Nat.zero_le _, by simp, Nat.le_trans (getF_length l name) hl, rfl⟩) (⟨rfl, rfl, rfl, rfl, trivial⟩) (fun _ h => h) (fun i w acc hinv => ?_)
 refine jc_seq (jc_region (jo_pure rfl (pr_lssN (m := i) (n := (getF l name).length) rfl rfl) ?_))
 refine jo_nil (jq_then (jc_seq ?_))
 refine jc_cond rfl (fun h1b => ?_) (fun h1b => ?_)
 ·have h1 := of_decide_eq_true h1b
  refine jc_skip (jq_then (jc_seq (jc_block (jc_seq (jc_region ?_)))))
  refine jo_pure rfl (pr_idx_row (i := i) rfl (.tail _ (.head _)) rfl Tryz.underlying28 ty_9 (by omega)) ?_
  refine jo_pure rfl (pr_load_elem_row (i := i) (str ((getF l name).getD i [])) rfl (.tail _ (.head _)) ty_9 rfl rfl (by omega) rfl) ?_
  refine jo_pure rfl (pr_assign rfl) (jo_nil (jq_then (jc_region (jo_pure rfl (pr_move rfl) (jo_pure rfl (pr_move rfl) ?_)))))
  refine jo_callp cal_55 (c_list_Split ((getF l name).getD i []) (by first | omega | exact hm | (have := getD_len (i := i) (getF_mem (n := 1000000) hm (name := name)); omega))) ⟨rfl, trivial⟩ rfl (trivial) (fun r2 => ?_)
  show J _ _ [.row (r2) 9 .str (splitF ((getF l name).getD i [])), .row (w) 9 .str (acc), .row (r1) 9 .str (getF l name), .imm (.list (.pair .str .str)) (lv) (l)] _
  refine j_pub_row (j_pull1 ?_)
  refine jo_append_imm rfl rfl (.head _) Tryz.underlying28 ty_9 rfl (by have := splitF_length ((getF l name).getD i []); simp only [maxLen]; first | omega | (simp only [List.length_append]; omega)) (by have := splitF_length ((getF l name).getD i []); first | omega | (simp only [List.length_append]; omega)) rfl (fun v1 => ?_)
  refine jo_pure rfl (pr_assign rfl) (jo_nil (jq_in_normal (jq_then (jc_region (jo_pure rfl (pr_addN (m := i) (n := 1) rfl rfl (by omega)) ?_)))))
  refine jo_pure rfl (pr_move rfl) (jo_nil (j_pull1 (j_drop (j_pull2 (j_pull2 ?_)))))
  refine j_pull2 ?_
  refine jq_round' ((i + 1), v1, (acc ++ (splitF ((getF l name).getD i [])))) (by (try dsimp only); exact (⟨by omega, by have := splitF_length ((getF l name).getD i []); simp only [List.length_append]; omega, hinv.2.2.1, by rw [hinv.2.2.2]; exact (flat_take_step h1).symm⟩)) (by (try dsimp only); exact (by omega)) ⟨rfl, rfl, rfl, rfl, trivial⟩ (fun _ h => h)
 ·have h1 := of_decide_eq_false h1b
  refine jc_exit ?_
  refine jq_then_exit ?_
  refine jq_then_exit ?_
  refine jq_in_hit ?_
  refine jq_then (jc_seq (jc_region (jo_pure rfl (pr_move rfl) (jo_pure rfl (pr_move rfl) (jo_pure rfl (pr_len_row rfl (.head _) Tryz.underlying28) ?_)))))
  refine jo_pure rfl (pr_minN (m := acc.length) (n := 64) rfl rfl) ?_
  refine j_pub_row (j_resl (l := 0) (h := min acc.length 64) (.head _) (by omega) (by omega) ?_)
  show J _ _ (.imm (.list .str) (resl (w) (0) (min acc.length 64) 1) ((acc.take (min acc.length 64)).drop 0) :: _) _
  refine jo_pure rfl (pr_slice_imm (l := 0) (h := min acc.length 64) rfl (.tail _ (.head _)) Tryz.underlying28 ty_9 rfl ⟨_, rfl⟩ (by omega) (by omega)) ?_
  refine jo_pure rfl (pr_assign rfl) (jo_nil (jq_then (jc_ret (j_pull1 (j_drop ?_)))))
  refine j_pull1 (j_drop (j_pull1 (j_drop ?_)))
  exact jq_ret1 rfl (resl (w) (0) (min acc.length 64) 1) rfl (show (resl (w) (0) (min acc.length 64) 1 : Value) = (resl (w) (0) (min acc.length 64) 1) from rfl) (fun _ h => by rw [show allF l name = (acc.take (min acc.length 64)).drop 0 from by rw [take_min, hinv.2.2.2, take_over (s := getF l name) (i := i) (by omega)]; rfl]; exact h)

theorem c_strings_Index (s : List UInt8) (sep : List UInt8) (c : UInt8) (hsep : sep = [c]) (hs : s.length ≤ 1000000) : Con Tryz.prog 115 #[str (s), str (sep)] [] (fun _ : Unit => .int .i64 (idx s c)) (fun _ => []) := by
 refine con_of_J (args := [str (s), str (sep)]) (n := 8) Tryz.func115 rfl (Nat.le_of_ble_eq_true rfl) rfl (fun w0 I0 m0 => ?_)
 show J _ [(0, str (s)), (1, str (sep))] [] _
 refine jc_seq (jc_region (jo_pure rfl (pr_assign rfl) (jo_nil (jq_then (jc_seq ?_)))))
 refine jc_region (jo_pure rfl (pr_move rfl) (jo_pure rfl (pr_move rfl) ?_))
 refine jo_callp cal_134 (c_internal_stringslite_Index s sep c (by first | omega | exact hsep | rfl) (by first | omega | exact hsep | rfl)) ⟨rfl, rfl, trivial⟩ rfl (trivial) (fun _ => ?_)
 refine jo_pure rfl (pr_assign rfl) (jo_nil (jq_then (jc_ret ?_)))
 exact jq_ret1 rfl () rfl (show (.int .i64 (idx s c) : Value) = (.int .i64 (idx s c)) from rfl) (fun _ h => h)

theorem c_strings_Count (s : List UInt8) (sep : List UInt8) (c : UInt8) (hsep : sep = [c]) (hs : s.length ≤ 1000000) : Con Tryz.prog 97 #[str (s), str (sep)] [] (fun _ : Unit => .int .i64 ((List.count c s : Nat) : Int)) (fun _ => []) := by
 refine con_of_J (args := [str (s), str (sep)]) (n := 34) Tryz.func97 rfl (Nat.le_of_ble_eq_true rfl) rfl (fun w0 I0 m0 => ?_)
 show J _ [(0, str (s)), (1, str (sep))] [] _
 refine jc_seq (jc_region (jo_pure rfl (pr_assign rfl) (jo_nil (jq_then (jc_seq ?_)))))
 refine jc_seq (jc_region (jo_pure rfl (pr_move rfl) (jo_pure rfl (pr_slen rfl Tryz.underlying9) ?_)))
 refine jo_pure rfl (pr_eqlN (m := sep.length) (n := 0) rfl rfl) ?_
 refine jo_nil (jq_then ?_)
 refine jc_cond rfl (fun h1b => ?_) (fun h1b => ?_)
 ·have h1 := of_decide_eq_true h1b
  exact absurd h1 (by rw [hsep]; simp)
 ·have h1 := of_decide_eq_false h1b
  have hl : sep.length = 1 := by rw [hsep]; rfl
  refine jc_skip (jq_then (jc_seq (jc_seq (jc_region (jo_pure rfl (pr_move rfl) ?_)))))
  refine jo_pure rfl (pr_slen rfl Tryz.underlying9) ?_
  refine jo_pure rfl (pr_eqlN (m := sep.length) (n := 1) rfl rfl) ?_
  refine jo_nil (jq_then ?_)
  refine jc_cond rfl (fun h2b => ?_) (fun h2b => ?_)
  ·have h2 := of_decide_eq_true h2b
   refine jc_seq (jc_region (jo_pure rfl (pr_move rfl) (jo_pure rfl (pr_move rfl) (jo_pure rfl (pr_sindex (i := 0) rfl rfl Tryz.underlying9 (by rw [hsep]; exact Nat.one_pos)) ?_))))
   refine jo_pure rfl (pr_ext (vs := [str (s), byte (sep.getD 0 0)]) Tryz.func118 (by kernel_rfl) rfl (by kernel_rfl) (by kernel_rfl) ⟨rfl, rfl, trivial⟩ (fun w => run_count s (sep.getD 0 0) w)) ?_
   refine jo_pure rfl (pr_assign rfl) (jo_nil (jq_then (jc_ret (jq_then_ret ?_))))
   exact jq_ret1 rfl () rfl (show (.int .i64 ((List.count c s : Nat) : Int) : Value) = (.int .i64 ((List.count (sep.getD 0 0) s : Nat) : Int)) from by rw [hsep]; rfl) (fun _ h => h)
  ·have h2 := of_decide_eq_false h2b
   exact absurd hl h2

theorem c_strings_genSplit (s : List UInt8) (sep : List UInt8) (ss : Nat) (n : Int) (c : UInt8) (hsep : sep = [c]) (hs : s.length ≤ 1000000) (hss : ss = 0) (hn : n = -1) : Con Tryz.prog 94 #[str (s), str (sep), .int .i64 ((ss : Nat) : Int), .int .i64 (n)] [] (fun r1 : Value => r1) (fun r1 => [.row r1 9 .str (cutAt c [] s)]) := by
 refine con_of_J (args := [str (s), str (sep), .int .i64 ((ss : Nat) : Int), .int .i64 (n)]) (n := 66) Tryz.func94 rfl (Nat.le_of_ble_eq_true rfl) rfl (fun w0 I0 m0 => ?_)
 show J _ [(0, str (s)), (1, str (sep)), (2, .int .i64 ((ss : Nat) : Int)), (3, .int .i64 (n))] [] _
 refine jc_seq (jc_region (jo_pure rfl (pr_assign rfl) (jo_nil (jq_then (jc_seq ?_)))))
 refine jc_seq (jc_region (jo_pure rfl (pr_move rfl) (jo_pure rfl (pr_eql (n := 0) rfl rfl) ?_)))
 refine jo_nil (jq_then ?_)
 refine jc_cond rfl (fun h1b => ?_) (fun h1b => ?_)
 ·have h1 := of_decide_eq_true h1b
  exact absurd h1 (by omega)
 ·have h1 := of_decide_eq_false h1b
  refine jc_skip (jq_then (jc_seq (jc_seq (jc_region (jo_pure rfl (pr_move rfl) ?_)))))
  refine jo_pure rfl (pr_seql rfl rfl) ?_
  refine jo_nil (jq_then ?_)
  refine jc_cond rfl (fun h2b => ?_) (fun h2b => ?_)
  ·have h2 := of_decide_eq_true h2b
   exact absurd h2 (by rw [hsep]; simp)
  ·have h2 := of_decide_eq_false h2b
   refine jc_skip (jq_then (jc_seq (jc_seq (jc_region (jo_pure rfl (pr_move rfl) ?_)))))
   refine jo_pure rfl (pr_lss (n := 0) rfl rfl) ?_
   refine jo_nil (jq_then ?_)
   refine jc_cond rfl (fun h3b => ?_) (fun h3b => ?_)
   ·have h3 := of_decide_eq_true h3b
    have hN : min (List.count c s + 1) (s.length + 1) = List.count c s + 1 := by have := count_len c s; omega
    have hcl := count_len c s
    have hl : sep.length = 1 := by rw [hsep]; rfl
    refine jc_region (jo_pure rfl (pr_move rfl) (jo_pure rfl (pr_move rfl) ?_))
    refine jo_callp cal_97 (c_strings_Count s sep c (by first | omega | exact hsep | rfl) (by first | omega | exact hsep | rfl)) ⟨rfl, rfl, trivial⟩ rfl (trivial) (fun _ => ?_)
    refine jo_pure rfl (pr_addN (m := List.count c s) (n := 1) rfl rfl (by omega)) ?_
    refine jo_pure rfl (pr_assign rfl) (jo_nil (jq_then (jc_seq (jc_region (jo_pure rfl (pr_move rfl) ?_)))))
    refine jo_pure rfl (pr_move rfl) (jo_pure rfl (pr_slen rfl Tryz.underlying9) ?_)
    refine jo_pure rfl (pr_addN (m := s.length) (n := 1) rfl rfl (by omega)) ?_
    refine jo_pure rfl (pr_minN (m := (List.count c s) + 1) (n := s.length + 1) rfl rfl) ?_
    refine jo_pure rfl (pr_assign rfl) (jo_nil (jq_then (jc_seq (jc_region (jo_pure rfl (pr_move rfl) ?_)))))
    refine jo_makeSlice (n := min ((List.count c s) + 1) (s.length + 1)) (t := .str) [] rfl Tryz.underlying28 ty_9 rfl rfl (by simp only [maxLen]; omega) (by omega) rfl (fun g1 => ?_)
    refine jo_pure rfl (pr_assign rfl) (jo_nil (jq_then (jc_seq (jc_region (jo_pure rfl (pr_move rfl) ?_)))))
    refine jo_pure rfl (pr_subN (m := min ((List.count c s) + 1) (s.length + 1)) (n := 1) rfl rfl (by omega) (by omega)) ?_
    refine jo_pure rfl (pr_assign rfl) (jo_nil (jq_then (jc_seq (jc_region (jo_pure rfl (pr_assign rfl) ?_)))))
    refine jo_nil (jq_then (jc_seq (jc_block ?_)))
    refine jc_loop3 (fun (i : Nat) (t : List UInt8) (xs : List (List UInt8)) => [(0, str (t)), (1, str (sep)), (2, .int .i64 ((ss : Nat) : Int)), (3, .int .i64 (((min ((List.count c s) + 1) (s.length + 1)) - 1 : Nat) : Int)), (9, .slice (some ⟨g1, 0, none⟩) (min ((List.count c s) + 1) (s.length + 1)) (min ((List.count c s) + 1) (s.length + 1))), (10, .int .i64 ((i : Nat) : Int))]) (fun (i : Nat) (t : List UInt8) (xs : List (List UInt8)) => [.rowg g1 (min ((List.count c s) + 1) (s.length + 1)) 9 .str (xs)]) (fun (i : Nat) (t : List UInt8) (xs : List (List UInt8)) => i + List.count c t = List.count c s ∧ xs.length = List.count c s + 1 ∧ t.length ≤ s.length ∧ xs.take i ++ cutAt c [] t = cutAt c [] s) (fun (i : Nat) (t : List UInt8) (xs : List (List UInt8)) => List.count c s - i) 0 s (List.replicate (min ((List.count c s) + 1) (s.length + 1)) []) (⟨by omega, by rw [List.length_replicate]; omega, Nat.le_refl _, rfl⟩) (⟨rfl, rfl, rfl, rfl, rfl, rfl, trivial⟩) (fun _ h => h) (fun i t xs hinv => ?_)
    refine jc_seq (jc_seq (jc_region (jo_pure rfl (pr_move rfl) (jo_pure rfl (pr_move rfl) (jo_pure rfl (pr_lssN (m := i) (n := (min ((List.count c s) + 1) (s.length + 1)) - 1) rfl rfl) ?_)))))
    refine jo_nil (jq_then ?_)
    refine jc_cond rfl (fun h4b => ?_) (fun h4b => ?_)
    ·have h4 := of_decide_eq_true h4b
     refine jc_skip (jq_then (jc_block (jc_seq (jc_region (jo_pure rfl (pr_move rfl) ?_)))))
     refine jo_pure rfl (pr_move rfl) ?_
     refine jo_callp cal_115 (c_strings_Index t sep c (by first | omega | exact hsep | rfl) (by first | omega | exact hsep | rfl)) ⟨rfl, rfl, trivial⟩ rfl (trivial) (fun _ => ?_)
     refine jo_pure rfl (pr_assign rfl) (jo_nil (jq_then (jc_seq (jc_seq (jc_region ?_)))))
     refine jo_pure rfl (pr_move rfl) (jo_pure rfl (pr_lss (n := 0) rfl rfl) ?_)
     refine jo_nil (jq_then ?_)
     refine jc_cond rfl (fun h5b => ?_) (fun h5b => ?_)
     ·have h5 := of_decide_eq_true h5b
      have hp := idx_neg h5
      refine jc_exit ?_
      refine jq_then_exit ?_
      refine jq_in_miss rfl ?_
      refine jq_then_exit ?_
      refine jq_in_hit ?_
      refine jq_then (jc_seq (jc_region (jo_pure rfl (pr_move rfl) (jo_pure rfl (pr_move rfl) (jo_pure rfl (pr_move rfl) ?_)))))
      refine jo_pure rfl (pr_idx (i := i) (i) rfl rfl Tryz.underlying28 ty_9 (by omega) (by first | rfl | (simp only [Nat.zero_add, Nat.mul_one]))) ?_
      refine jo_store_g (i := i) (t) rfl rfl ty_9 rfl (by omega) (by first | rfl | exact Nat.mul_one _) rfl ?_
      refine jo_nil (jq_then (jc_seq (jc_region (jo_pure rfl (pr_move rfl) (jo_pure rfl (pr_move rfl) ?_)))))
      refine jo_pure rfl (pr_addN (m := i) (n := 1) rfl rfl (by omega)) ?_
      refine jo_slice_own (h := i + 1) rfl rfl Tryz.underlying28 ty_9 (by omega) (by simp only [List.length_set]; omega) rfl ?_
      refine jo_pure rfl (pr_assign rfl) (jo_nil (jq_then (jc_ret (j_row_of_rowg ?_))))
      exact jq_ret1 rfl (.slice (some ⟨g1, 0, none⟩) ((xs.set i t).take (i + 1)).length (min ((List.count c s) + 1) (s.length + 1))) rfl (show (.slice (some ⟨g1, 0, none⟩) ((xs.set i t).take (i + 1)).length (min ((List.count c s) + 1) (s.length + 1)) : Value) = (.slice (some ⟨g1, 0, none⟩) ((xs.set i t).take (i + 1)).length (min ((List.count c s) + 1) (s.length + 1))) from rfl) (fun _ h => by rw [← gs_end (by omega) hp hinv.2.2.2]; exact h)
     ·have h5 := of_decide_eq_false h5b
      have hp := (idx_nonneg (s := t) (c := c) (by omega)).2
      rw [show (idx t c : Int) = ((pos t c : Nat) : Int) from (idx_nonneg (s := t) (c := c) (by omega)).1]
      refine jc_skip (jq_then (jc_seq (jc_region (jo_pure rfl (pr_move rfl) (jo_pure rfl (pr_move rfl) ?_)))))
      refine jo_pure rfl (pr_move rfl) (jo_pure rfl (pr_move rfl) (jo_pure rfl (pr_move rfl) (jo_pure rfl (pr_addN (m := pos t c) (n := ss) rfl rfl (by omega)) ?_)))
      refine jo_pure rfl (pr_sslice_hi (j := (pos t c) + ss) rfl rfl Tryz.underlying9 (by omega)) ?_
      refine jo_pure rfl (pr_idx (i := i) (i) rfl rfl Tryz.underlying28 ty_9 (by omega) (by first | rfl | (simp only [Nat.zero_add, Nat.mul_one]))) ?_
      refine jo_store_g (i := i) (t.take ((pos t c) + ss)) rfl rfl ty_9 rfl (by omega) (by first | rfl | exact Nat.mul_one _) rfl ?_
      refine jo_nil (jq_then (jc_seq (jc_region (jo_pure rfl (pr_move rfl) (jo_pure rfl (pr_move rfl) ?_)))))
      refine jo_pure rfl (pr_move rfl) (jo_pure rfl (pr_slen rfl Tryz.underlying9) ?_)
      refine jo_pure rfl (pr_addN (m := pos t c) (n := sep.length) rfl rfl (by omega)) ?_
      refine jo_pure rfl (pr_sslice_lo (i := (pos t c) + sep.length) rfl rfl Tryz.underlying9 (by omega)) ?_
      refine jo_pure rfl (pr_assign rfl) (jo_nil (jq_then (jc_region (jo_pure rfl (pr_move rfl) (jo_pure rfl (pr_addN (m := i) (n := 1) rfl rfl (by omega)) ?_)))))
      refine jo_pure rfl (pr_assign rfl) (jo_nil (jq_in_normal ?_))
      refine jq_round' ((i + 1), (t.drop ((pos t c) + sep.length)), (xs.set i (t.take ((pos t c) + ss)))) (by (try dsimp only); exact (⟨by rw [hl]; have := count_some hp; omega, by simp only [List.length_set]; omega, by simp only [List.length_drop]; omega, by rw [hl, hss, Nat.add_zero]; exact gs_go (by omega) hp hinv.2.2.2⟩)) (by (try dsimp only); exact (by have := count_some hp; omega)) ⟨rfl, rfl, rfl, rfl, rfl, rfl, trivial⟩ (fun _ h => h)
    ·have h4 := of_decide_eq_false h4b
     have hp : ¬ pos t c < t.length := fun q => by have := count_some q; omega
     refine jc_exit ?_
     refine jq_then_exit ?_
     refine jq_then_exit ?_
     refine jq_in_hit ?_
     refine jq_then (jc_seq (jc_region (jo_pure rfl (pr_move rfl) (jo_pure rfl (pr_move rfl) (jo_pure rfl (pr_move rfl) ?_)))))
     refine jo_pure rfl (pr_idx (i := i) (i) rfl rfl Tryz.underlying28 ty_9 (by omega) (by first | rfl | (simp only [Nat.zero_add, Nat.mul_one]))) ?_
     refine jo_store_g (i := i) (t) rfl rfl ty_9 rfl (by omega) (by first | rfl | exact Nat.mul_one _) rfl ?_
     refine jo_nil (jq_then (jc_seq (jc_region (jo_pure rfl (pr_move rfl) (jo_pure rfl (pr_move rfl) ?_)))))
     refine jo_pure rfl (pr_addN (m := i) (n := 1) rfl rfl (by omega)) ?_
     refine jo_slice_own (h := i + 1) rfl rfl Tryz.underlying28 ty_9 (by omega) (by simp only [List.length_set]; omega) rfl ?_
     refine jo_pure rfl (pr_assign rfl) (jo_nil (jq_then (jc_ret (j_row_of_rowg ?_))))
     exact jq_ret1 rfl (.slice (some ⟨g1, 0, none⟩) ((xs.set i t).take (i + 1)).length (min ((List.count c s) + 1) (s.length + 1))) rfl (show (.slice (some ⟨g1, 0, none⟩) ((xs.set i t).take (i + 1)).length (min ((List.count c s) + 1) (s.length + 1)) : Value) = (.slice (some ⟨g1, 0, none⟩) ((xs.set i t).take (i + 1)).length (min ((List.count c s) + 1) (s.length + 1))) from rfl) (fun _ h => by rw [← gs_end (by omega) hp hinv.2.2.2]; exact h)
   ·have h3 := of_decide_eq_false h3b
    exact absurd h3 (by omega)

theorem c_strings_Split (s : List UInt8) (sep : List UInt8) (c : UInt8) (hsep : sep = [c]) (hs : s.length ≤ 1000000) : Con Tryz.prog 63 #[str (s), str (sep)] [] (fun r1 : Value => r1) (fun r1 => [.row r1 9 .str (cutAt c [] s)]) := by
 refine con_of_J (args := [str (s), str (sep)]) (n := 8) Tryz.func63 rfl (Nat.le_of_ble_eq_true rfl) rfl (fun w0 I0 m0 => ?_)
 show J _ [(0, str (s)), (1, str (sep))] [] _
 refine jc_seq (jc_region (jo_pure rfl (pr_assign rfl) (jo_nil (jq_then (jc_seq ?_)))))
 refine jc_region (jo_pure rfl (pr_move rfl) (jo_pure rfl (pr_move rfl) ?_))
 refine jo_callp cal_94 (c_strings_genSplit s sep 0 (-1) c (by first | omega | exact hsep | rfl) (by first | omega | exact hsep | rfl) (by first | omega | exact hsep | rfl) (by first | omega | exact hsep | rfl)) ⟨rfl, rfl, rfl, rfl, trivial⟩ rfl (trivial) (fun r1 => ?_)
 show J _ _ [.row (r1) 9 .str (cutAt c [] s)] _
 refine jo_pure rfl (pr_assign rfl) (jo_nil (jq_then (jc_ret ?_)))
 exact jq_ret1 rfl r1 rfl (show (r1 : Value) = (r1) from rfl) (fun _ h => h)

theorem c_language_subtag (s : List UInt8) (d : Bool) (hs : s.length ≤ 1000000) : Con Tryz.prog 64 #[str (s), .bool (d)] [] (fun _ : Unit => .bool (subOk d s)) (fun _ => []) := by
 refine con_of_J (args := [str (s), .bool (d)]) (n := 41) Tryz.func64 rfl (Nat.le_of_ble_eq_true rfl) rfl (fun w0 I0 m0 => ?_)
 show J _ [(0, str (s)), (1, .bool (d))] [] _
 refine jc_seq (jc_region (jo_pure rfl (pr_assign rfl) (jo_nil (jq_then (jc_seq ?_)))))
 refine jc_seq (jc_region (jo_pure rfl (pr_move rfl) ?_))
 refine jo_callp cal_42 (c_ascii_Lower s (by omega)) ⟨rfl, trivial⟩ rfl (trivial) (fun _ => ?_)
 refine jo_s2b rfl Tryz.underlying9 Tryz.underlying70 Tryz.underlying5 rfl (by rw [lower_length]; omega) (fun g1 cap1 => ?_)
 refine jo_pure rfl (pr_len rfl Tryz.underlying70) ?_
 refine jo_pure rfl (pr_move rfl) (jo_nil (jq_then (jc_block ?_)))
 refine jc_loop (fun (i : Nat) => [(0, str (s)), (1, .bool (d)), (9, .slice (some ⟨g1, 0, none⟩) ((lower s).length) (cap1)), (10, .int .i64 (((lower s).length : Nat) : Int)), (11, .int .i64 ((i : Nat) : Int))]) (fun (i : Nat) => [.rowm g1 (cap1) 5 .u8 (lower s)]) (fun (i : Nat) => i ≤ (lower s).length ∧ ((lower s).take i).all (lowOk d) = true) (fun (i : Nat) => (lower s).length - i) 0 (⟨Nat.zero_le _, rfl⟩) (⟨rfl, rfl, rfl, rfl, rfl, trivial⟩) (fun _ h => h) (fun i hinv => ?_)
 refine jc_seq (jc_region (jo_pure rfl (pr_lssN (m := i) (n := (lower s).length) rfl rfl) ?_))
 refine jo_nil (jq_then (jc_seq ?_))
 refine jc_cond rfl (fun h1b => ?_) (fun h1b => ?_)
 ·have h1 := of_decide_eq_true h1b
  refine jc_skip (jq_then (jc_seq (jc_block (jc_seq (jc_region ?_)))))
  refine jo_pure rfl (pr_idx (i := i) (i) rfl rfl Tryz.underlying70 ty_5 (by omega) (by first | rfl | (simp only [Nat.zero_add, Nat.mul_one]))) ?_
  refine jo_pure rfl (pr_load_rowD (byte ((lower s).getD i 0)) true rfl ty_5 rfl rfl (.head _) (by omega) (by first | rfl | exact Nat.mul_one _) rfl) ?_
  refine jo_pure rfl (pr_assign rfl) (jo_nil (jq_then (jc_seq (jc_region (jo_pure rfl (pr_move rfl) ?_)))))
  refine jo_pure rfl (pr_blss (n := 97) rfl rfl) ?_
  refine jo_pure rfl (pr_move rfl) (jo_gpure (j := 2) (want := false) rfl rfl rfl rfl (fun hg => pr_move rfl) ?_)
  refine jo_gpure (j := 2) (want := false) rfl rfl rfl rfl (fun hg => pr_bgtr (n := 122) (evg rfl hg) rfl) ?_
  refine jo_pure rfl (pr_pick_or rfl rfl rfl) ?_
  refine jo_pure rfl (pr_move rfl) (jo_gpure (j := 6) (want := true) rfl rfl rfl rfl (fun hg => pr_move rfl) ?_)
  refine jo_gpure (j := 6) (want := true) rfl rfl rfl rfl (fun hg => pr_not (evg rfl hg)) ?_
  refine jo_gpure (j := 6) (want := true) rfl rfl rfl rfl (fun hg => pr_move (evg rfl hg)) ?_
  refine jo_gpure2 (j := 9) (want := false) rfl rfl rfl rfl (fun hg => pr_move rfl) ?_
  refine jo_gpure2 (j := 9) (want := false) rfl rfl rfl rfl (fun hg => pr_blss (n := 48) (evg rfl hg) rfl) ?_
  refine jo_gpure (j := 6) (want := true) rfl rfl rfl rfl (fun hg => pr_pick_or (evg rfl hg) rfl (evg2 rfl hg)) ?_
  refine jo_gpure (j := 6) (want := true) rfl rfl rfl rfl (fun hg => pr_move (evg rfl hg)) ?_
  refine jo_gpure2 (j := 13) (want := false) rfl rfl rfl rfl (fun hg => pr_move rfl) ?_
  refine jo_gpure2 (j := 13) (want := false) rfl rfl rfl rfl (fun hg => pr_bgtr (n := 57) (evg rfl hg) rfl) ?_
  refine jo_gpure (j := 6) (want := true) rfl rfl rfl rfl (fun hg => pr_pick_or (evg rfl hg) rfl (evg2 rfl hg)) ?_
  refine jo_pure rfl (pr_pick_and rfl rfl rfl) ?_
  refine jo_nil (jq_then ?_)
  refine jc_cond rfl (fun h2b => ?_) (fun h2b => ?_)
  ·have h2 := (fun q => And.imp (fun q => Or.imp of_decide_eq_true of_decide_eq_true (bt_or q)) (fun q => Or.imp (fun q => Or.imp (fun q => id (bt_not q)) of_decide_eq_true (bt_or q)) of_decide_eq_true (bt_or q)) (bt_and q)) h2b
   refine jc_seq (jc_region (jo_pure rfl (pr_assign rfl) (jo_nil (jq_then (jc_ret ?_)))))
   refine jq_in_ret ?_
   refine jq_then_ret (jq_then_ret (jq_in_ret ?_))
   refine jq_then_ret (j_drop ?_)
   exact jq_ret1 rfl () rfl (show (.bool (subOk d s) : Value) = (.bool (false)) from congrArg Value.bool (by rw [sub_bad h1 (by have h9 := h2b; revert h9; unfold lowOk digB; cases d <;> simp <;> grind)])) (fun _ h => h)
  ·have h2 := (fun q => Or.imp (fun q => And.imp of_decide_eq_false of_decide_eq_false (bf_or q)) (fun q => And.imp (fun q => And.imp (fun q => id (bf_not q)) of_decide_eq_false (bf_or q)) of_decide_eq_false (bf_or q)) (bf_and q)) h2b
   refine jc_skip (jq_in_normal (jq_then (jc_region (jo_pure rfl (pr_addN (m := i) (n := 1) rfl rfl (by have := lower_length s; omega)) ?_))))
   refine jo_pure rfl (pr_move rfl) (jo_nil ?_)
   refine jq_round' (i + 1) (by (try dsimp only); exact (⟨by omega, all_step (dd := 0) h1 hinv.2 (by have h9 := h2b; simp only [lowOk, digB, Bool.and_eq_false_iff, Bool.or_eq_false_iff, decide_eq_false_iff_not] at h9; unfold lowOk digB; simp only [Bool.or_eq_true, Bool.and_eq_true, decide_eq_true_eq]; revert h9; cases d <;> simp <;> grind)⟩)) (by (try dsimp only); exact (by omega)) ⟨rfl, rfl, rfl, rfl, rfl, trivial⟩ (fun _ h => h)
 ·have h1 := of_decide_eq_false h1b
  refine jc_exit ?_
  refine jq_then_exit ?_
  refine jq_then_exit ?_
  refine jq_in_hit ?_
  refine jq_then (jc_seq (jc_region (jo_pure rfl (pr_move rfl) (jo_pure rfl (pr_sneq rfl rfl) ?_))))
  refine jo_pure rfl (pr_move rfl) (jo_gpure (j := 2) (want := true) rfl rfl rfl rfl (fun hg => pr_move rfl) ?_)
  refine jo_gpure (j := 2) (want := true) rfl rfl rfl rfl (fun hg => pr_slen (evg rfl hg) Tryz.underlying9) ?_
  refine jo_gpure (j := 2) (want := true) rfl rfl rfl rfl (fun hg => pr_leqN (m := s.length) (n := 8) (evg rfl hg) rfl) ?_
  refine jo_pure rfl (pr_pick_and rfl rfl rfl) ?_
  refine jo_pure rfl (pr_assign rfl) (jo_nil (jq_then (jc_ret (j_drop ?_))))
  exact jq_ret1 rfl () rfl (show (.bool (subOk d s) : Value) = (.bool (((!decide ((s : List UInt8) = [])) && decide ((s.length : Nat) ≤ 8)))) from congrArg Value.bool (by rw [sub_end (by have := hinv.2; rwa [take_over (by omega)] at this)])) (fun _ h => h)

theorem c_language_Tag (s : List UInt8) (hs : s.length ≤ 1000000) : Con Tryz.prog 36 #[str (s)] [] (fun _ : Unit => .bool (tagF s)) (fun _ => []) := by
 refine con_of_J (args := [str (s)]) (n := 19) Tryz.func36 rfl (Nat.le_of_ble_eq_true rfl) rfl (fun w0 I0 m0 => ?_)
 show J _ [(0, str (s))] [] _
 refine jc_seq (jc_region (jo_pure rfl (pr_assign rfl) (jo_nil (jq_then (jc_seq ?_)))))
 refine jc_seq (jc_region (jo_pure rfl (pr_move rfl) ?_))
 refine jo_callp cal_63 (c_strings_Split s [45] 45 (by first | omega | rfl | (have := getD_len (i := i) (subt_mem s); exact Nat.le_trans this hs)) (by first | omega | rfl | (have := getD_len (i := i) (subt_mem s); exact Nat.le_trans this hs))) ⟨rfl, rfl, trivial⟩ rfl (trivial) (fun r1 => ?_)
 show J _ _ [.row (r1) 9 .str (cutAt 45 [] s)] _
 refine jo_pure rfl (pr_len_row rfl (.head _) Tryz.underlying28) ?_
 refine jo_pure rfl (pr_move rfl) (jo_nil (jq_then (jc_block ?_)))
 refine jc_loop (fun (i : Nat) => [(6, r1), (7, .int .i64 (((cutAt 45 [] s).length : Nat) : Int)), (8, .int .i64 ((i : Nat) : Int))]) (fun (i : Nat) => [.row (r1) 9 .str (cutAt 45 [] s)]) (fun (i : Nat) => i ≤ (cutAt 45 [] s).length ∧ (cutAt 45 [] s).length ≤ s.length + 1 ∧ ∀ k : Nat, k < i → subOk (decide (0 < k)) ((cutAt 45 [] s).getD k []) = true) (fun (i : Nat) => (cutAt 45 [] s).length - i) 0 (⟨Nat.zero_le _, subt_length s, fun k hk => absurd hk (Nat.not_lt_zero _)⟩) (⟨rfl, rfl, rfl, trivial⟩) (fun _ h => h) (fun i hinv => ?_)
 refine jc_seq (jc_region (jo_pure rfl (pr_lssN (m := i) (n := (cutAt 45 [] s).length) rfl rfl) ?_))
 refine jo_nil (jq_then (jc_seq ?_))
 refine jc_cond rfl (fun h1b => ?_) (fun h1b => ?_)
 ·have h1 := of_decide_eq_true h1b
  refine jc_skip (jq_then (jc_seq (jc_block (jc_seq (jc_region ?_)))))
  refine jo_pure rfl (pr_move rfl) (jo_pure rfl (pr_idx_row (i := i) rfl (.head _) rfl Tryz.underlying28 ty_9 (by omega)) ?_)
  refine jo_pure rfl (pr_load_elem_row (i := i) (str ((cutAt 45 [] s).getD i [])) rfl (.head _) ty_9 rfl rfl (by omega) rfl) ?_
  refine jo_pure rfl (pr_assign rfl) (jo_pure rfl (pr_assign rfl) (jo_nil (jq_then (jc_seq (jc_region ?_)))))
  refine jo_pure rfl (pr_move rfl) (jo_pure rfl (pr_move rfl) (jo_pure rfl (pr_gtrN (m := i) (n := 0) rfl rfl) ?_))
  refine jo_callp cal_64 (c_language_subtag ((cutAt 45 [] s).getD i []) (decide ((0 : Nat) < i)) (by first | omega | rfl | (have := getD_len (i := i) (subt_mem s); exact Nat.le_trans this hs))) ⟨rfl, rfl, trivial⟩ rfl (trivial) (fun _ => ?_)
  refine jo_pure rfl (pr_not rfl) ?_
  refine jo_nil (jq_then ?_)
  refine jc_cond rfl (fun h2b => ?_) (fun h2b => ?_)
  ·have h2 := (fun q => id (bt_not q)) h2b
   refine jc_seq (jc_region (jo_pure rfl (pr_assign rfl) (jo_nil (jq_then (jc_ret ?_)))))
   refine jq_in_ret ?_
   refine jq_then_ret (jq_then_ret (jq_in_ret ?_))
   refine jq_then_ret (j_drop ?_)
   exact jq_ret1 rfl () rfl (show (.bool (tagF s) : Value) = (.bool (false)) from congrArg Value.bool (by rw [tag_bad (s := s) h1 h2])) (fun _ h => h)
  ·have h2 := (fun q => id (bf_not q)) h2b
   refine jc_skip (jq_in_normal (jq_then (jc_region (jo_pure rfl (pr_addN (m := i) (n := 1) rfl rfl (by omega)) ?_))))
   refine jo_pure rfl (pr_move rfl) (jo_nil ?_)
   refine jq_round' (i + 1) (by (try dsimp only); exact (⟨by omega, hinv.2.1, fun k hk => by rcases Nat.lt_or_ge k i with q | q; exact hinv.2.2 k q; have e : k = i := (by omega); rw [e]; exact h2⟩)) (by (try dsimp only); exact (by omega)) ⟨rfl, rfl, rfl, trivial⟩ (fun _ h => h)
 ·have h1 := of_decide_eq_false h1b
  refine jc_exit ?_
  refine jq_then_exit ?_
  refine jq_then_exit ?_
  refine jq_in_hit ?_
  refine jq_then (jc_seq (jc_region (jo_pure rfl (pr_assign rfl) (jo_nil (jq_then ?_)))))
  refine jc_ret (j_drop ?_)
  exact jq_ret1 rfl () rfl (show (.bool (tagF s) : Value) = (.bool (true)) from congrArg Value.bool (by rw [tag_end (s := s) (fun k hk => hinv.2.2 k (by have hk2 : k < (cutAt 45 [] s).length := hk; omega))])) (fun _ h => h)

theorem c_language_Range (s : List UInt8) (hs : s.length ≤ 1000000) : Con Tryz.prog 92 #[str (s)] [] (fun _ : Unit => .bool (rangeL s)) (fun _ => []) := by
 refine con_of_J (args := [str (s)]) (n := 9) Tryz.func92 rfl (Nat.le_of_ble_eq_true rfl) rfl (fun w0 I0 m0 => ?_)
 show J _ [(0, str (s))] [] _
 refine jc_seq (jc_region (jo_pure rfl (pr_assign rfl) (jo_nil (jq_then (jc_seq ?_)))))
 refine jc_region (jo_pure rfl (pr_move rfl) (jo_pure rfl (pr_seql rfl rfl) ?_))
 refine jo_pure rfl (pr_move rfl) (jo_gpure (j := 2) (want := false) rfl rfl rfl rfl (fun hg => pr_move rfl) ?_)
 refine jo_gcall (j := 2) (want := false) rfl rfl rfl cal_36 (fun hg => c_language_Tag s (by omega)) (fun hg => ⟨evg rfl hg, trivial⟩) rfl (fun _ => trivial) ?_
 refine jo_pure rfl (pr_pick_or rfl rfl rfl) ?_
 refine jo_pure rfl (pr_assign rfl) (jo_nil (jq_then (jc_ret ?_)))
 exact jq_ret1 rfl () rfl (show (.bool (rangeL s) : Value) = (.bool ((decide ((s : List UInt8) = [42]) || tagF s))) from rfl) (fun _ h => h)

theorem c_qvalue_Parse (s : List UInt8) (hs : s.length ≤ 1000000) : Con Tryz.prog 59 #[str (s)] [] (fun _ : Unit => .tuple #[.int .i64 (((parseQ s).1 : Nat) : Int), .bool ((parseQ s).2)]) (fun _ => []) := by
 refine con_of_J (args := [str (s)]) (n := 70) Tryz.func59 rfl (Nat.le_of_ble_eq_true rfl) rfl (fun w0 I0 m0 => ?_)
 show J _ [(0, str (s))] [] _
 refine jc_seq (jc_region (jo_pure rfl (pr_assign rfl) (jo_pure rfl (pr_assign rfl) (jo_nil (jq_then ?_)))))
 refine jc_seq (jc_seq (jc_region (jo_pure rfl (pr_move rfl) (jo_pure rfl (pr_seql rfl rfl) ?_))))
 refine jo_pure rfl (pr_move rfl) (jo_gpure (j := 2) (want := false) rfl rfl rfl rfl (fun hg => pr_move rfl) ?_)
 refine jo_gpure (j := 2) (want := false) rfl rfl rfl rfl (fun hg => pr_slen (evg rfl hg) Tryz.underlying9) ?_
 refine jo_gpure (j := 2) (want := false) rfl rfl rfl rfl (fun hg => pr_gtrN (m := s.length) (n := 5) (evg rfl hg) rfl) ?_
 refine jo_pure rfl (pr_pick_or rfl rfl rfl) ?_
 refine jo_pure rfl (pr_move rfl) (jo_gpure (j := 7) (want := false) rfl rfl rfl rfl (fun hg => pr_move rfl) ?_)
 refine jo_gpure (j := 7) (want := false) rfl rfl rfl rfl (fun hg => pr_sindex (i := 0) (evg rfl hg) rfl Tryz.underlying9 (by first | omega | (simp at hg; have := List.length_pos_iff.2 hg.1; omega) | (simp at hg; have := List.length_pos_iff.2 hg.1.1; omega) | (simp at hg; have := List.length_pos_iff.2 hg.1.1.1; omega) | (simp at hg; omega))) ?_
 refine jo_gpure (j := 7) (want := false) rfl rfl rfl rfl (fun hg => pr_bneq (n := 48) (evg rfl hg) rfl) ?_
 refine jo_gpure (j := 7) (want := false) rfl rfl rfl rfl (fun hg => pr_move (evg rfl hg)) ?_
 refine jo_gpure2 (j := 11) (want := true) rfl rfl rfl rfl (fun hg => pr_move rfl) ?_
 refine jo_gpure2 (j := 11) (want := true) rfl rfl rfl rfl (fun hg => pr_sindex (i := 0) (evg rfl hg) rfl Tryz.underlying9 (by first | omega | (simp at hg; have := List.length_pos_iff.2 hg.1; omega) | (simp at hg; have := List.length_pos_iff.2 hg.1.1; omega) | (simp at hg; have := List.length_pos_iff.2 hg.1.1.1; omega) | (simp at hg; omega))) ?_
 refine jo_gpure2 (j := 11) (want := true) rfl rfl rfl rfl (fun hg => pr_bneq (n := 49) (evg rfl hg) rfl) ?_
 refine jo_gpure (j := 7) (want := false) rfl rfl rfl rfl (fun hg => pr_pick_and (evg rfl hg) (evg2 rfl hg) rfl) ?_
 refine jo_pure rfl (pr_pick_or rfl rfl rfl) ?_
 refine jo_pure rfl (pr_move rfl) (jo_gpure (j := 17) (want := false) rfl rfl rfl rfl (fun hg => pr_move rfl) ?_)
 refine jo_gpure (j := 17) (want := false) rfl rfl rfl rfl (fun hg => pr_slen (evg rfl hg) Tryz.underlying9) ?_
 refine jo_gpure (j := 17) (want := false) rfl rfl rfl rfl (fun hg => pr_gtrN (m := s.length) (n := 1) (evg rfl hg) rfl) ?_
 refine jo_gpure (j := 17) (want := false) rfl rfl rfl rfl (fun hg => pr_move (evg rfl hg)) ?_
 refine jo_gpure2 (j := 21) (want := true) rfl rfl rfl rfl (fun hg => pr_move rfl) ?_
 refine jo_gpure2 (j := 21) (want := true) rfl rfl rfl rfl (fun hg => pr_sindex (i := 1) (evg rfl hg) rfl Tryz.underlying9 (by first | omega | (simp at hg; have := List.length_pos_iff.2 hg.1; omega) | (simp at hg; have := List.length_pos_iff.2 hg.1.1; omega) | (simp at hg; have := List.length_pos_iff.2 hg.1.1.1; omega) | (simp at hg; omega))) ?_
 refine jo_gpure2 (j := 21) (want := true) rfl rfl rfl rfl (fun hg => pr_bneq (n := 46) (evg rfl hg) rfl) ?_
 refine jo_gpure (j := 17) (want := false) rfl rfl rfl rfl (fun hg => pr_pick_and (evg rfl hg) (evg2 rfl hg) rfl) ?_
 refine jo_pure rfl (pr_pick_or rfl rfl rfl) ?_
 refine jo_nil (jq_then ?_)
 refine jc_cond rfl (fun h1b => ?_) (fun h1b => ?_)
 ·have h1 := (fun q => Or.imp (fun q => Or.imp (fun q => Or.imp of_decide_eq_true of_decide_eq_true (bt_or q)) (fun q => And.imp (fun q => of_decide_eq_false (bt_not q)) (fun q => of_decide_eq_false (bt_not q)) (bt_and q)) (bt_or q)) (fun q => And.imp of_decide_eq_true (fun q => of_decide_eq_false (bt_not q)) (bt_and q)) (bt_or q)) h1b
  refine jc_seq (jc_region (jo_pure rfl (pr_assign rfl) (jo_pure rfl (pr_assign rfl) (jo_nil (jq_then ?_)))))
  refine jc_ret (jq_then_ret ?_)
  exact jq_rets (rs := [.tmp 2, .tmp 3]) (vs := [.int .i64 ((0 : Nat) : Int), .bool (false)]) rfl () ⟨resV_tmp rfl, resV_tmp rfl, trivial⟩ rfl (show (.tuple #[.int .i64 (((parseQ s).1 : Nat) : Int), .bool ((parseQ s).2)] : Value) = (.tuple #[.int .i64 ((0 : Nat) : Int), .bool (false)]) from by rw [parseQ_bad (show badQ s = true from h1b)]) (fun _ h => h)
 ·have h1 := (fun q => And.imp (fun q => And.imp (fun q => And.imp of_decide_eq_false of_decide_eq_false (bf_or q)) (fun q => Or.imp (fun q => of_decide_eq_true (bf_not q)) (fun q => of_decide_eq_true (bf_not q)) (bf_and q)) (bf_or q)) (fun q => Or.imp of_decide_eq_false (fun q => of_decide_eq_true (bf_not q)) (bf_and q)) (bf_or q)) h1b
  have hbl := badQ_len (show badQ s = false from h1b)
  refine jc_skip (jq_then (jc_seq (jc_region (jo_pure rfl (pr_build [(0, .int .i64 ((1000 : Nat) : Int)), (1, .int .i64 ((0 : Nat) : Int)), (2, .int .i64 ((100 : Nat) : Int)), (3, .int .i64 ((10 : Nat) : Int)), (4, .int .i64 ((1 : Nat) : Int))] [.int .i64 ((1000 : Nat) : Int), .int .i64 ((0 : Nat) : Int), .int .i64 ((100 : Nat) : Int), .int .i64 ((10 : Nat) : Int), .int .i64 ((1 : Nat) : Int)] (fun a hf => by simp only [List.map_toArray, List.map_cons, List.map_nil] <;> rfl) (by kernel_rfl)) ?_))))
  refine jo_alloc_arr (t := (.int .i64)) ty_109 (List.replicate 5 0) (by kernel_rfl) rfl (by rw [List.length_replicate]; simp [maxLen]) rfl (fun b1 => ?_)
  refine jo_store_arr (ys := [((1000 : Nat) : Int), ((0 : Nat) : Int), ((100 : Nat) : Int), ((10 : Nat) : Int), ((1 : Nat) : Int)]) rfl rfl ty_109 rfl (by simp) (by simp) (by simp [Ty.n]) ?_
  refine jo_nil (jq_then (jc_seq (jc_region (jo_pure rfl (pr_assign rfl) (jo_nil ?_)))))
  refine jq_then (jc_seq (jc_seq (jc_region (jo_pure rfl (pr_move rfl) (jo_pure rfl (pr_slen rfl Tryz.underlying9) ?_)))))
  refine jo_pure rfl (pr_slice_arr (n := 5) (h := s.length) rfl rfl Tryz.underlying109 ty_3 (by omega)) ?_
  refine jo_pure rfl (pr_len rfl Tryz.underlying110) ?_
  refine jo_pure rfl (pr_move rfl) (jo_nil (jq_then (jc_block ?_)))
  refine jc_loop2 (fun (i : Nat) (q : Nat) => [(0, str (s)), (5, .int .i64 ((q : Nat) : Int)), (38, .slice (some ⟨b1, 0, none⟩) (s.length) (5)), (39, .int .i64 ((s.length : Nat) : Int)), (40, .int .i64 ((i : Nat) : Int))]) (fun (i : Nat) (q : Nat) => [.rowg b1 ((List.replicate 5 0).length) 109 (.int .i64) ([((1000 : Nat) : Int), ((0 : Nat) : Int), ((100 : Nat) : Int), ((10 : Nat) : Int), ((1 : Nat) : Int)])]) (fun (i : Nat) (q : Nat) => i ≤ s.length ∧ q = sumQ s i ∧ q ≤ 255000 * i ∧ ((s.take i).drop 2).all digB = true) (fun (i : Nat) (q : Nat) => s.length - i) 0 0 (⟨Nat.zero_le _, rfl, Nat.le_refl _, rfl⟩) (⟨rfl, rfl, rfl, rfl, rfl, trivial⟩) (fun _ h => h) (fun i q hinv => ?_)
  refine jc_seq (jc_region (jo_pure rfl (pr_lssN (m := i) (n := s.length) rfl rfl) ?_))
  refine jo_nil (jq_then (jc_seq ?_))
  refine jc_cond rfl (fun h2b => ?_) (fun h2b => ?_)
  ·have h2 := of_decide_eq_true h2b
   refine jc_skip (jq_then (jc_seq (jc_block (jc_seq (jc_region ?_)))))
   refine jo_pure rfl (pr_move rfl) (jo_pure rfl (pr_idx (i := i) (i) rfl rfl Tryz.underlying110 ty_3 (by omega) (by first | rfl | (simp only [Nat.zero_add, Nat.mul_one]))) ?_)
   refine jo_pure rfl (pr_load_rowD (.int .i64 ([((1000 : Nat) : Int), ((0 : Nat) : Int), ((100 : Nat) : Int), ((10 : Nat) : Int), ((1 : Nat) : Int)].getD i 0)) false rfl ty_3 rfl rfl (.head _) (by simp; omega) (by first | rfl | exact Nat.mul_one _) rfl) ?_
   refine jo_pure rfl (pr_assign rfl) (jo_pure rfl (pr_assign rfl) (jo_nil (jq_then (jc_seq (jc_seq ?_)))))
   refine jc_region (jo_pure rfl (pr_move rfl) (jo_pure rfl (pr_eqlN (m := i) (n := 1) rfl rfl) ?_))
   refine jo_nil (jq_then ?_)
   refine jc_cond rfl (fun h3b => ?_) (fun h3b => ?_)
   ·have h3 := of_decide_eq_true h3b
    refine jc_exit ?_
    refine jq_then_exit ?_
    refine jq_in_hit ?_
    refine jq_then (jc_region (jo_pure rfl (pr_addN (m := i) (n := 1) rfl rfl (by have := wd_le i (s.getD i 0); unfold digV at this; omega)) ?_))
    refine jo_pure rfl (pr_move rfl) (jo_nil ?_)
    refine jq_round' ((i + 1), q) (by (try dsimp only); exact (⟨by omega, by rw [h3]; exact (by rw [sumQ_one]; exact h3 ▸ hinv.2.1), by omega, by rw [h3]; exact dig_one⟩)) (by (try dsimp only); exact (by omega)) ⟨rfl, rfl, rfl, rfl, rfl, trivial⟩ (fun _ h => h)
   ·have h3 := of_decide_eq_false h3b
    rw [show ([((1000 : Nat) : Int), ((0 : Nat) : Int), ((100 : Nat) : Int), ((10 : Nat) : Int), ((1 : Nat) : Int)].getD i 0 : Int) = ((wq i : Nat) : Int) from wq_get (by omega)]
    refine jc_skip (jq_then (jc_seq (jc_seq (jc_region (jo_pure rfl (pr_move rfl) ?_)))))
    refine jo_pure rfl (pr_move rfl) (jo_pure rfl (pr_sindex (i := i) rfl rfl Tryz.underlying9 (by first | omega | (simp at hg; have := List.length_pos_iff.2 hg.1; omega) | (simp at hg; have := List.length_pos_iff.2 hg.1.1; omega) | (simp at hg; have := List.length_pos_iff.2 hg.1.1.1; omega) | (simp at hg; omega))) ?_)
    refine jo_pure rfl (pr_blss (n := 48) rfl rfl) ?_
    refine jo_pure rfl (pr_move rfl) (jo_gpure (j := 4) (want := false) rfl rfl rfl rfl (fun hg => pr_move rfl) ?_)
    refine jo_gpure (j := 4) (want := false) rfl rfl rfl rfl (fun hg => pr_move rfl) ?_
    refine jo_gpure (j := 4) (want := false) rfl rfl rfl rfl (fun hg => pr_sindex (i := i) (evg rfl hg) (evg rfl hg) Tryz.underlying9 (by first | omega | (simp at hg; have := List.length_pos_iff.2 hg.1; omega) | (simp at hg; have := List.length_pos_iff.2 hg.1.1; omega) | (simp at hg; have := List.length_pos_iff.2 hg.1.1.1; omega) | (simp at hg; omega))) ?_
    refine jo_gpure (j := 4) (want := false) rfl rfl rfl rfl (fun hg => pr_bgtr (n := 57) (evg rfl hg) rfl) ?_
    refine jo_pure rfl (pr_pick_or rfl rfl rfl) ?_
    refine jo_nil (jq_then ?_)
    refine jc_cond rfl (fun h4b => ?_) (fun h4b => ?_)
    ·have h4 := (fun q => Or.imp of_decide_eq_true of_decide_eq_true (bt_or q)) h4b
     refine jc_seq (jc_region (jo_pure rfl (pr_assign rfl) (jo_pure rfl (pr_assign rfl) (jo_nil (jq_then ?_)))))
     refine jc_ret (jq_then_ret (jq_in_ret ?_))
     refine jq_then_ret (jq_then_ret (jq_in_ret ?_))
     refine jq_then_ret (j_drop ?_)
     exact jq_rets (rs := [.tmp 2, .tmp 3]) (vs := [.int .i64 ((0 : Nat) : Int), .bool (false)]) rfl () ⟨resV_tmp rfl, resV_tmp rfl, trivial⟩ rfl (show (.tuple #[.int .i64 (((parseQ s).1 : Nat) : Int), .bool ((parseQ s).2)] : Value) = (.tuple #[.int .i64 ((0 : Nat) : Int), .bool (false)]) from by rw [parseQ_dig (show badQ s = false from h1b) h2 h3 (by have h9 := h4b; revert h9; unfold digB; simp; try grind)]) (fun _ h => h)
    ·have h4 := (fun q => And.imp of_decide_eq_false of_decide_eq_false (bf_or q)) h4b
     refine jc_skip (jq_then (jc_region (jo_pure rfl (pr_move rfl) (jo_pure rfl (pr_move rfl) (jo_pure rfl (pr_move rfl) ?_)))))
     refine jo_pure rfl (pr_move rfl) (jo_pure rfl (pr_sindex (i := i) rfl rfl Tryz.underlying9 (by first | omega | (simp at hg; have := List.length_pos_iff.2 hg.1; omega) | (simp at hg; have := List.length_pos_iff.2 hg.1.1; omega) | (simp at hg; have := List.length_pos_iff.2 hg.1.1.1; omega) | (simp at hg; omega))) ?_)
     refine jo_pure rfl (pr_bsub (n := 48) rfl rfl) ?_
     refine jo_pure rfl (pr_u8_int rfl Tryz.underlying5 Tryz.underlying3) ?_
     refine jo_pure rfl (pr_mulN (m := wq i) (n := ((s.getD i 0) - 48).toNat) rfl rfl (by have := wd_le i (s.getD i 0); unfold digV at this; omega)) ?_
     refine jo_pure rfl (pr_addN (m := q) (n := (wq i) * (((s.getD i 0) - 48).toNat)) rfl rfl (by have := wd_le i (s.getD i 0); unfold digV at this; omega)) ?_
     refine jo_pure rfl (pr_assign rfl) (jo_nil (jq_in_normal (jq_then (jc_region (jo_pure rfl (pr_addN (m := i) (n := 1) rfl rfl (by have := wd_le i (s.getD i 0); unfold digV at this; omega)) ?_)))))
     refine jo_pure rfl (pr_move rfl) (jo_nil ?_)
     refine jq_round' ((i + 1), (q + ((wq i) * (((s.getD i 0) - 48).toNat)))) (by (try dsimp only); exact (⟨by omega, by rw [sumQ_step h3, hinv.2.1]; rfl, by have := wd_le i (s.getD i 0); unfold digV at this; omega, dig_step h2 (by have h9 := h4b; revert h9; unfold digB; simp) hinv.2.2.2⟩)) (by (try dsimp only); exact (by omega)) ⟨rfl, rfl, rfl, rfl, rfl, trivial⟩ (fun _ h => h)
  ·have h2 := of_decide_eq_false h2b
   refine jc_exit ?_
   refine jq_then_exit ?_
   refine jq_then_exit ?_
   refine jq_in_hit ?_
   refine jq_then (jc_seq (jc_seq (jc_region (jo_pure rfl (pr_move rfl) (jo_pure rfl (pr_gtrN (m := q) (n := 1000) rfl rfl) ?_)))))
   refine jo_nil (jq_then ?_)
   refine jc_cond rfl (fun h5b => ?_) (fun h5b => ?_)
   ·have h5 := of_decide_eq_true h5b
    refine jc_seq (jc_region (jo_pure rfl (pr_assign rfl) (jo_pure rfl (pr_assign rfl) (jo_nil (jq_then ?_)))))
    refine jc_ret (jq_then_ret (j_drop ?_))
    exact jq_rets (rs := [.tmp 2, .tmp 3]) (vs := [.int .i64 ((0 : Nat) : Int), .bool (false)]) rfl () ⟨resV_tmp rfl, resV_tmp rfl, trivial⟩ rfl (show (.tuple #[.int .i64 (((parseQ s).1 : Nat) : Int), .bool ((parseQ s).2)] : Value) = (.tuple #[.int .i64 ((0 : Nat) : Int), .bool (false)]) from by rw [parseQ_big (show badQ s = false from h1b) (digs_end (by omega) hinv.2.2.2) (by have := hinv.2.1; rw [show i = s.length by omega] at this; omega)]) (fun _ h => h)
   ·have h5 := of_decide_eq_false h5b
    refine jc_skip (jq_then (jc_seq (jc_region (jo_pure rfl (pr_move rfl) (jo_pure rfl (pr_assign rfl) ?_)))))
    refine jo_pure rfl (pr_assign rfl) (jo_nil (jq_then (jc_ret (j_drop ?_))))
    exact jq_rets (rs := [.tmp 2, .tmp 3]) (vs := [.int .i64 ((q : Nat) : Int), .bool (true)]) rfl () ⟨resV_tmp rfl, resV_tmp rfl, trivial⟩ rfl (show (.tuple #[.int .i64 (((parseQ s).1 : Nat) : Int), .bool ((parseQ s).2)] : Value) = (.tuple #[.int .i64 ((q : Nat) : Int), .bool (true)]) from by rw [parseQ_ok (show badQ s = false from h1b) (digs_end (by omega) hinv.2.2.2) (by have := hinv.2.1; rw [show i = s.length by omega] at this; omega), hinv.2.1, show i = s.length by omega]) (fun _ h => h)
end Go.Proofs.YtjbcomdljmfgjabGreatDoor
