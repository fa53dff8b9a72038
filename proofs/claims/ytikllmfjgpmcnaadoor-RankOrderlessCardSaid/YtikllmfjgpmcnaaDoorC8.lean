/-
  Contracts of functions of the program: each returns what a plain function says, for every input within the bounds named. Conditions: the bounds.
-/
import Derived.Test.YtikllmfjgpmcnaaDoorRows
import Derived.Test.YtikllmfjgpmcnaaDoorC7
import Derived.Test.YtikllmfjgpmcnaaDoorLaw09B
namespace Go.Proofs.YtikllmfjgpmcnaaDoor
open Go Go.Sep
set_option linter.unusedSimpArgs false
set_option linter.unusedVariables false

open Go.Plain

theorem cal_80 : Cal Tryd.prog 80 := cal_of Tryd.func80 (by kernel_rfl) rfl
theorem cal_81 : Cal Tryd.prog 81 := cal_of Tryd.func81 (by kernel_rfl) rfl
theorem cal_106 : Cal Tryd.prog 106 := cal_of Tryd.func106 (by kernel_rfl) rfl
theorem cal_130 : Cal Tryd.prog 130 := cal_of Tryd.func130 (by kernel_rfl) rfl
theorem ty_56 : TyF Tryd.prog 56 false 1 24 (some (.slice none 0 0)) := ⟨by kernel_rfl, by kernel_rfl⟩
theorem ty_90 : TyF Tryd.prog 90 false 1 8 (some (.pointer none)) := ⟨by kernel_rfl, by kernel_rfl⟩
theorem ty_92 : TyF Tryd.prog 92 true 2 32 (some (.agg #[.pointer none, .slice none 0 0])) := ⟨by kernel_rfl, by kernel_rfl⟩

theorem c_copyCheck_new (b : Nat) (v : Value)  : Con Tryd.prog 106 #[.pointer (some ⟨b, 0, none⟩)] [.box b 92 [.pointer none, v]] (fun _ : Unit => .tuple #[]) (fun _ => [.box b 92 [.pointer (some ⟨b, 0, none⟩), v]]) := by
  refine con_of_J (args := [.pointer (some ⟨b, 0, none⟩)]) (n := 20) Tryd.func106 rfl (Nat.le_of_ble_eq_true rfl) rfl (fun w0 I0 m0 => ?_)
  show J _ [(0, .pointer (some ⟨b, 0, none⟩))] [.box b 92 [.pointer none, v]] _
  refine jc_seq ?_
  refine jc_region ?_
  refine jo_pure rfl (pr_move rfl) ?_
  refine jo_pure rfl (pr_nilCheck rfl) ?_
  refine jo_pure rfl (pr_fieldAddr 0 rfl Tryd.underlying92 rfl ty_90 rfl rfl) ?_
  refine jo_pure rfl (pr_load_box (.pointer none) rfl ty_90 (.head _) rfl (by decide) rfl) ?_
  refine jo_pure rfl (pr_eql_nilptr rfl rfl Tryd.underlying90) ?_
  refine jo_nil ?_
  refine jq_then ?_
  refine jc_true rfl (rfl) ?_
  refine jc_region ?_
  refine jo_pure rfl (pr_move rfl) ?_
  refine jo_pure rfl (pr_move rfl) ?_
  refine jo_pure rfl (pr_to_unsafe rfl (.head _) Tryd.underlying90 Tryd.underlying127 ty_92 rfl rfl) ?_
  refine jo_pure rfl (pr_ext (vs := [.pointer (some ⟨b, 0, none⟩)]) Tryd.func124 (by kernel_rfl) rfl (by kernel_rfl) (by kernel_rfl) ⟨rfl, trivial⟩ (fun w => Lib.run_noEscape w _)) ?_
  refine jo_pure rfl (pr_from_unsafe rfl (.head _) Tryd.underlying127 Tryd.underlying90 ty_92 (by kernel_rfl)) ?_
  refine jo_pure rfl (pr_nilCheck rfl) ?_
  refine jo_pure rfl (pr_fieldAddr 0 rfl Tryd.underlying92 rfl ty_90 rfl rfl) ?_
  refine jo_store rfl rfl ty_90 [.pointer (some ⟨b, 0, none⟩)] rfl rfl rfl [.pointer (some ⟨b, 0, none⟩), v] rfl rfl ?_
  refine jo_nil ?_
  refine jq_fall ?_
  exact jq_ret0 rfl () (show (.tuple #[] : Value) = (.tuple #[]) from rfl) (fun _ h => h)

theorem c_copyCheck_used (b : Nat) (v : Value)  : Con Tryd.prog 106 #[.pointer (some ⟨b, 0, none⟩)] [.box b 92 [.pointer (some ⟨b, 0, none⟩), v]] (fun _ : Unit => .tuple #[]) (fun _ => [.box b 92 [.pointer (some ⟨b, 0, none⟩), v]]) := by
  refine con_of_J (args := [.pointer (some ⟨b, 0, none⟩)]) (n := 20) Tryd.func106 rfl (Nat.le_of_ble_eq_true rfl) rfl (fun w0 I0 m0 => ?_)
  show J _ [(0, .pointer (some ⟨b, 0, none⟩))] [.box b 92 [.pointer (some ⟨b, 0, none⟩), v]] _
  refine jc_seq ?_
  refine jc_region ?_
  refine jo_pure rfl (pr_move rfl) ?_
  refine jo_pure rfl (pr_nilCheck rfl) ?_
  refine jo_pure rfl (pr_fieldAddr 0 rfl Tryd.underlying92 rfl ty_90 rfl rfl) ?_
  refine jo_pure rfl (pr_load_box (.pointer (some ⟨b, 0, none⟩)) rfl ty_90 (.head _) rfl (by decide) rfl) ?_
  refine jo_pure rfl (pr_eql_ptrnil rfl rfl Tryd.underlying90) ?_
  refine jo_nil ?_
  refine jq_then ?_
  refine jc_false rfl (rfl) ?_
  refine jc_seq ?_
  refine jc_region ?_
  refine jo_pure rfl (pr_move rfl) ?_
  refine jo_pure rfl (pr_nilCheck rfl) ?_
  refine jo_pure rfl (pr_fieldAddr 0 rfl Tryd.underlying92 rfl ty_90 rfl rfl) ?_
  refine jo_pure rfl (pr_load_box (.pointer (some ⟨b, 0, none⟩)) rfl ty_90 (.head _) rfl (by decide) rfl) ?_
  refine jo_pure rfl (pr_move rfl) ?_
  refine jo_pure rfl (pr_neq_ptrsame rfl rfl Tryd.underlying90 ty_92) ?_
  refine jo_nil ?_
  refine jq_then ?_
  refine jc_false rfl (rfl) ?_
  refine jc_skip ?_
  refine jq_fall ?_
  exact jq_ret0 rfl () (show (.tuple #[] : Value) = (.tuple #[]) from rfl) (fun _ h => h)

theorem c_WriteString_new (b : Nat) (v : Value) (xs s : List UInt8) (hl : xs.length + s.length ≤ 140737488355328) : Con Tryd.prog 80 #[.pointer (some ⟨b, 0, none⟩), str (s)] [.box b 92 [.pointer none, v], .row (v) 5 .u8 (xs)] (fun r1 : Value => .tuple #[.int .i64 ((s.length : Nat) : Int), .nilIface]) (fun r1 => [.box b 92 [.pointer (some ⟨b, 0, none⟩), r1], .row (r1) 5 .u8 (xs ++ s)]) := by
  refine con_of_J (args := [.pointer (some ⟨b, 0, none⟩), str (s)]) (n := 19) Tryd.func80 rfl (Nat.le_of_ble_eq_true rfl) rfl (fun w0 I0 m0 => ?_)
  show J _ [(0, .pointer (some ⟨b, 0, none⟩)), (1, str (s))] [.box b 92 [.pointer none, v], .row (v) 5 .u8 (xs)] _
  refine jc_seq ?_
  refine jc_region ?_
  refine jo_pure rfl (pr_assign rfl) ?_
  refine jo_pure rfl (pr_assign rfl) ?_
  refine jo_nil ?_
  refine jq_then ?_
  refine jc_seq ?_
  refine jc_region ?_
  refine jo_pure rfl (pr_move rfl) ?_
  refine jo_callm [.row (v) 5 .u8 (xs)] rfl cal_106 (c_copyCheck_new b v) ⟨rfl, trivial⟩ rfl (fun _ => ?_)
  show J _ _ [.box b 92 [.pointer (some ⟨b, 0, none⟩), v], .row (v) 5 .u8 (xs)] _
  refine jo_nil ?_
  refine jq_then ?_
  refine jc_seq ?_
  refine jc_region ?_
  refine jo_pure rfl (pr_move rfl) ?_
  refine jo_pure rfl (pr_move rfl) ?_
  refine jo_pure rfl (pr_nilCheck rfl) ?_
  refine jo_pure rfl (pr_fieldAddr 1 rfl Tryd.underlying92 rfl ty_56 rfl rfl) ?_
  refine jo_pure rfl (pr_load_box (v) rfl ty_56 (.head _) rfl (by decide) rfl) ?_
  refine jo_pure rfl (pr_move rfl) ?_
  refine j_pull1 ?_
  refine jo_append_str rfl rfl Tryd.underlying56 Tryd.underlying9 ty_5 rfl (hl) rfl (fun v1 => ?_)
  refine jo_pure rfl (pr_nilCheck rfl) ?_
  refine jo_pure rfl (pr_fieldAddr 1 rfl Tryd.underlying92 rfl ty_56 rfl rfl) ?_
  refine j_pull1 ?_
  refine jo_storeV rfl rfl ty_56 [v1] (fun w I m hs => (SliceV.cells (row_slice (.tail _ (.head _)) hs))) rfl (fun w I m hs => by simp only [List.all_cons, List.all_nil, Bool.and_true, Bool.and_eq_true]; exact (SliceV.one (row_slice (.tail _ (.head _)) hs))) [.pointer (some ⟨b, 0, none⟩), v1] rfl rfl ?_
  refine jo_nil ?_
  refine jq_then ?_
  refine jc_seq ?_
  refine jc_region ?_
  refine jo_pure rfl (pr_move rfl) ?_
  refine jo_pure rfl (pr_slen rfl Tryd.underlying9) ?_
  refine jo_pure rfl (pr_assign rfl) ?_
  refine jo_pure rfl (pr_assign rfl) ?_
  refine jo_nil ?_
  refine jq_then ?_
  refine jc_ret ?_
  refine j_pull1 ?_
  refine j_pull1 ?_
  exact jq_rets (rs := [.tmp 4, .tmp 5]) (vs := [.int .i64 ((s.length : Nat) : Int), .nilIface]) rfl v1 ⟨resV_tmp rfl, resV_tmp rfl, trivial⟩ rfl (show (.tuple #[.int .i64 ((s.length : Nat) : Int), .nilIface] : Value) = (.tuple #[.int .i64 ((s.length : Nat) : Int), .nilIface]) from rfl) (fun _ h => h)

theorem c_WriteString_used (b : Nat) (v : Value) (xs s : List UInt8) (hl : xs.length + s.length ≤ 140737488355328) : Con Tryd.prog 80 #[.pointer (some ⟨b, 0, none⟩), str (s)] [.box b 92 [.pointer (some ⟨b, 0, none⟩), v], .row (v) 5 .u8 (xs)] (fun r1 : Value => .tuple #[.int .i64 ((s.length : Nat) : Int), .nilIface]) (fun r1 => [.box b 92 [.pointer (some ⟨b, 0, none⟩), r1], .row (r1) 5 .u8 (xs ++ s)]) := by
  refine con_of_J (args := [.pointer (some ⟨b, 0, none⟩), str (s)]) (n := 19) Tryd.func80 rfl (Nat.le_of_ble_eq_true rfl) rfl (fun w0 I0 m0 => ?_)
  show J _ [(0, .pointer (some ⟨b, 0, none⟩)), (1, str (s))] [.box b 92 [.pointer (some ⟨b, 0, none⟩), v], .row (v) 5 .u8 (xs)] _
  refine jc_seq ?_
  refine jc_region ?_
  refine jo_pure rfl (pr_assign rfl) ?_
  refine jo_pure rfl (pr_assign rfl) ?_
  refine jo_nil ?_
  refine jq_then ?_
  refine jc_seq ?_
  refine jc_region ?_
  refine jo_pure rfl (pr_move rfl) ?_
  refine jo_callm [.row (v) 5 .u8 (xs)] rfl cal_106 (c_copyCheck_used b v) ⟨rfl, trivial⟩ rfl (fun _ => ?_)
  show J _ _ [.box b 92 [.pointer (some ⟨b, 0, none⟩), v], .row (v) 5 .u8 (xs)] _
  refine jo_nil ?_
  refine jq_then ?_
  refine jc_seq ?_
  refine jc_region ?_
  refine jo_pure rfl (pr_move rfl) ?_
  refine jo_pure rfl (pr_move rfl) ?_
  refine jo_pure rfl (pr_nilCheck rfl) ?_
  refine jo_pure rfl (pr_fieldAddr 1 rfl Tryd.underlying92 rfl ty_56 rfl rfl) ?_
  refine jo_pure rfl (pr_load_box (v) rfl ty_56 (.head _) rfl (by decide) rfl) ?_
  refine jo_pure rfl (pr_move rfl) ?_
  refine j_pull1 ?_
  refine jo_append_str rfl rfl Tryd.underlying56 Tryd.underlying9 ty_5 rfl (hl) rfl (fun v1 => ?_)
  refine jo_pure rfl (pr_nilCheck rfl) ?_
  refine jo_pure rfl (pr_fieldAddr 1 rfl Tryd.underlying92 rfl ty_56 rfl rfl) ?_
  refine j_pull1 ?_
  refine jo_storeV rfl rfl ty_56 [v1] (fun w I m hs => (SliceV.cells (row_slice (.tail _ (.head _)) hs))) rfl (fun w I m hs => by simp only [List.all_cons, List.all_nil, Bool.and_true, Bool.and_eq_true]; exact (SliceV.one (row_slice (.tail _ (.head _)) hs))) [.pointer (some ⟨b, 0, none⟩), v1] rfl rfl ?_
  refine jo_nil ?_
  refine jq_then ?_
  refine jc_seq ?_
  refine jc_region ?_
  refine jo_pure rfl (pr_move rfl) ?_
  refine jo_pure rfl (pr_slen rfl Tryd.underlying9) ?_
  refine jo_pure rfl (pr_assign rfl) ?_
  refine jo_pure rfl (pr_assign rfl) ?_
  refine jo_nil ?_
  refine jq_then ?_
  refine jc_ret ?_
  refine j_pull1 ?_
  refine j_pull1 ?_
  exact jq_rets (rs := [.tmp 4, .tmp 5]) (vs := [.int .i64 ((s.length : Nat) : Int), .nilIface]) rfl v1 ⟨resV_tmp rfl, resV_tmp rfl, trivial⟩ rfl (show (.tuple #[.int .i64 ((s.length : Nat) : Int), .nilIface] : Value) = (.tuple #[.int .i64 ((s.length : Nat) : Int), .nilIface]) from rfl) (fun _ h => h)

theorem c_WriteString_any (b : Nat) (p v : Value) (xs s : List UInt8) (hp : p = .pointer none ∨ p = .pointer (some ⟨b, 0, none⟩)) (hl : xs.length + s.length ≤ 140737488355328) : Con Tryd.prog 80 #[.pointer (some ⟨b, 0, none⟩), str (s)] [.box b 92 [p, v], .row (v) 5 .u8 (xs)] (fun r1 : Value => .tuple #[.int .i64 ((s.length : Nat) : Int), .nilIface]) (fun r1 => [.box b 92 [.pointer (some ⟨b, 0, none⟩), r1], .row (r1) 5 .u8 (xs ++ s)]) := by
  rcases hp with rfl | rfl
  · exact c_WriteString_new b v xs s hl
  · exact c_WriteString_used b v xs s hl

theorem c_Builder_String (b : Nat) (p v : Value) (xs : List UInt8)  : Con Tryd.prog 81 #[.pointer (some ⟨b, 0, none⟩)] [.box b 92 [p, v], .row (v) 5 .u8 (xs)] (fun _ : Unit => str (xs)) (fun _ => []) := by
  refine con_of_J (args := [.pointer (some ⟨b, 0, none⟩)]) (n := 14) Tryd.func81 rfl (Nat.le_of_ble_eq_true rfl) rfl (fun w0 I0 m0 => ?_)
  show J _ [(0, .pointer (some ⟨b, 0, none⟩))] [.box b 92 [p, v], .row (v) 5 .u8 (xs)] _
  refine j_pull1 ?_
  refine j_len_row ?_
  refine jc_seq ?_
  refine jc_region ?_
  refine jo_pure rfl (pr_assign rfl) ?_
  refine jo_nil ?_
  refine jq_then ?_
  refine jc_seq ?_
  refine jc_held (fun (_ : Unit) => [(2, str (xs))]) (fun _ => [.fact (LenF (v) ((xs).length)), .box b 92 [p, v]]) [.fact (LenF (v) ((xs).length)), .box b 92 [p, v]] mixed (fun lst hlst => ?_) (fun _ => ?_)
  · subst hlst
    refine jh_take (listed' := #[true, false, false, false, false, false, false, false, false, false, false, false]) 0 rfl (by kernel_rfl) (by kernel_rfl) (by kernel_rfl) rfl (pr_move rfl) (fun _ h => Mem.drop1 (h)) rfl ?_
    refine jh_take (listed' := #[true, true, false, false, false, false, false, false, false, false, false, false]) 1 rfl (by kernel_rfl) (by kernel_rfl) (by kernel_rfl) rfl (pr_nilCheck rfl) (fun _ h => Mem.drop1 (h)) rfl ?_
    refine jh_take (listed' := #[true, true, true, false, false, false, false, false, false, false, false, false]) 2 rfl (by kernel_rfl) (by kernel_rfl) (by kernel_rfl) rfl (pr_fieldAddr 1 rfl Tryd.underlying92 rfl ty_56 rfl rfl) (fun _ h => Mem.drop1 (h)) rfl ?_
    refine jh_take (listed' := #[true, true, true, true, false, false, false, false, false, false, false, false]) 3 rfl (by kernel_rfl) (by kernel_rfl) (by kernel_rfl) rfl (pr_load_box (v) rfl ty_56 (.tail _ (.head _)) rfl (by decide) rfl) (fun _ h => Mem.drop1 (h)) rfl ?_
    refine jh_take (listed' := #[true, true, true, true, false, true, false, false, false, false, false, false]) 5 rfl (by kernel_rfl) (by kernel_rfl) (by kernel_rfl) rfl (pr_move rfl) (fun _ h => Mem.drop1 (h)) rfl ?_
    refine jh_take (listed' := #[true, true, true, true, false, true, true, false, false, false, false, false]) 6 rfl (by kernel_rfl) (by kernel_rfl) (by kernel_rfl) rfl (pr_nilCheck rfl) (fun _ h => Mem.drop1 (h)) rfl ?_
    refine jh_take (listed' := #[true, true, true, true, false, true, true, true, false, false, false, false]) 7 rfl (by kernel_rfl) (by kernel_rfl) (by kernel_rfl) rfl (pr_fieldAddr 1 rfl Tryd.underlying92 rfl ty_56 rfl rfl) (fun _ h => Mem.drop1 (h)) rfl ?_
    refine jh_take (listed' := #[true, true, true, true, false, true, true, true, true, false, false, false]) 8 rfl (by kernel_rfl) (by kernel_rfl) (by kernel_rfl) rfl (pr_load_box (v) rfl ty_56 (.tail _ (.head _)) rfl (by decide) rfl) (fun _ h => Mem.drop1 (h)) rfl ?_
    refine jh_take (listed' := #[true, true, true, true, false, true, true, true, true, true, false, false]) 9 rfl (by kernel_rfl) (by kernel_rfl) (by kernel_rfl) rfl (pr_len_fact rfl (.head _) Tryd.underlying56) (fun _ h => Mem.drop1 (h)) rfl ?_
    refine jh_all [4] (by kernel_rfl) (by simp) (fun i hi => ?_)
    simp only [List.mem_cons, List.not_mem_nil, or_false] at hi
    subst hi
    · refine jh_op rfl ?_
      refine jo_ssd rfl Tryd.underlying117 rfl (fun p1 => ?_)
      refine jh_in (listed' := #[true, true, true, true, true, true, true, true, true, true, false, false]) (fun _ h => Mem.drop1 (Mem.drop1 (h))) rfl ?_
      refine jh_all [10] (by kernel_rfl) (by simp) (fun i hi => ?_)
      simp only [List.mem_cons, List.not_mem_nil, or_false] at hi
      subst hi
      · refine jh_op rfl ?_
        refine jo_ustr rfl rfl (.head _) Tryd.underlying117 (by kernel_rfl) rfl ?_
        refine jh_in (listed' := #[true, true, true, true, true, true, true, true, true, true, true, false]) (fun _ h => Mem.drop1 (h)) rfl ?_
        refine jh_take (listed' := #[true, true, true, true, true, true, true, true, true, true, true, true]) 11 rfl (by kernel_rfl) (by kernel_rfl) (by kernel_rfl) rfl (pr_assign rfl) (fun _ h => Mem.drop1 (h)) rfl ?_
        show J _ _ _ _
        refine j_drop ?_
        refine j_pull1 ?_
        refine j_pull1 ?_
        show JH _ _ _ _ _ _ _ _
        exact jh_done () (by kernel_rfl) ⟨rfl, trivial⟩ (fun _ h => h)
  · skip
    refine jq_then ?_
    refine jc_ret ?_
    refine j_drop ?_
    refine j_drop ?_
    exact jq_ret1 rfl () rfl (show (str (xs) : Value) = (str (xs)) from rfl) (fun _ h => h)

theorem c_param_Format (value : List UInt8) (l : List ((List UInt8) × (List UInt8))) (lv : Value) (hl : l.length ≤ 1000000) (hm : ∀ x ∈ l, x.1.length ≤ 1000000 ∧ x.2.length ≤ 1000000) (hv : value.length ≤ 1000000) : Con Tryd.prog 110 #[str (value), lv] [.imm (.list (.pair .str .str)) (lv) (l)] (fun _ : Unit => str (formatP value l)) (fun _ => []) := by
  refine con_of_J (args := [str (value), lv]) (n := 33) Tryd.func110 rfl (Nat.le_of_ble_eq_true rfl) rfl (fun w0 I0 m0 => ?_)
  show J _ [(0, str (value)), (1, lv)] [.imm (.list (.pair .str .str)) (lv) (l)] _
  refine jc_seq ?_
  refine jc_region ?_
  refine jo_pure rfl (pr_assign rfl) ?_
  refine jo_nil ?_
  refine jq_then ?_
  refine jc_seq ?_
  refine jc_region ?_
  refine jo_alloc ty_92 [.pointer none, .slice none 0 0] rfl rfl (fun b1 => ?_)
  refine jo_nil ?_
  refine jq_then ?_
  refine jc_seq ?_
  refine jc_region ?_
  refine jo_pure rfl (pr_move rfl) ?_
  refine j_nil_row 5 .u8 ?_
  refine j_pull1 ?_
  refine jo_callm [.imm (.list (.pair .str .str)) (lv) (l)] rfl cal_80 (c_WriteString_new b1 (.slice none 0 0) [] value (by simp only [List.length_append, List.length_cons, List.length_nil] at *; omega)) ⟨rfl, rfl, trivial⟩ rfl (fun r1 => ?_)
  show J _ _ [.box b1 92 [.pointer (some ⟨b1, 0, none⟩), r1], .row (r1) 5 .u8 ([] ++ value), .imm (.list (.pair .str .str)) (lv) (l)] _
  refine jo_nil ?_
  refine jq_then ?_
  refine jc_seq ?_
  refine jc_seq ?_
  refine jc_region ?_
  refine jo_pure rfl (pr_move rfl) ?_
  refine jo_pure rfl (pr_len_imm rfl (.tail _ (.tail _ (.head _))) Tryd.underlying62) ?_
  refine jo_pure rfl (pr_move rfl) ?_
  refine jo_nil ?_
  refine jq_then ?_
  refine jc_block ?_
  refine jc_loop3 (fun (i : Nat) (bv : Value) (acc : List UInt8) => [(5, .pointer (some ⟨b1, 0, none⟩)), (10, lv), (11, .int .i64 ((l.length : Nat) : Int)), (12, .int .i64 ((i : Nat) : Int))]) (fun (i : Nat) (bv : Value) (acc : List UInt8) => [.box b1 92 [.pointer (some ⟨b1, 0, none⟩), bv], .row (bv) 5 .u8 (acc), .imm (.list (.pair .str .str)) (lv) (l)]) (fun (i : Nat) (bv : Value) (acc : List UInt8) => i ≤ l.length ∧ acc.length ≤ value.length + i * 4000010 ∧ acc = value ++ (l.take i).flatMap (fun p => 59 :: pieceP p)) (fun (i : Nat) (bv : Value) (acc : List UInt8) => l.length - i) 0 r1 ([] ++ value) (⟨Nat.zero_le _, by simp only [List.nil_append]; omega, by simp⟩) (⟨rfl, rfl, rfl, rfl, trivial⟩) (fun _ h => h) (fun i bv acc hinv => ?_)
  refine jc_seq ?_
  refine jc_region ?_
  refine jo_pure rfl (pr_lssN (m := i) (n := l.length) rfl rfl) ?_
  refine jo_nil ?_
  refine jq_then ?_
  refine jc_seq ?_
  refine jc_cond rfl (fun h1b => ?_) (fun h1b => ?_)
  · have h1 := of_decide_eq_true h1b
    have hxi := hm _ (getD_mem (dd := ([], [])) h1)
    have hq := quote_length (l.getD i ([], [])).2
    refine jc_skip ?_
    refine jq_then ?_
    refine jc_seq ?_
    refine jc_block ?_
    refine jc_seq ?_
    refine jc_region ?_
    refine jo_pure rfl (pr_idx_imm (i := i) rfl (.tail _ (.tail _ (.head _))) rfl Tryd.underlying62 ty_78 (by omega)) ?_
    refine jo_pure rfl (pr_load_elem_imm (i := i) (.agg #[str ((l.getD i ([], [])).1), str ((l.getD i ([], [])).2)]) rfl (.tail _ (.tail _ (.head _))) ty_78 rfl rfl (by omega) rfl) ?_
    refine jo_alloc ty_78 [str ([]), str ([])] rfl rfl (fun b2 => ?_)
    refine jo_store rfl rfl ty_78 [str ((l.getD i ([], [])).1), str ((l.getD i ([], [])).2)] rfl rfl rfl [str ((l.getD i ([], [])).1), str ((l.getD i ([], [])).2)] rfl rfl ?_
    refine jo_nil ?_
    refine jq_then ?_
    refine jc_seq ?_
    refine jc_region ?_
    refine jo_pure rfl (pr_fieldAddr 0 rfl Tryd.underlying78 rfl ty_9 rfl rfl) ?_
    refine jo_pure rfl (pr_load_box (str ((l.getD i ([], [])).1)) rfl ty_9 (.head _) rfl (by decide) rfl) ?_
    refine jo_pure rfl (pr_sadd rfl rfl (by simp only [List.length_append, List.length_cons, List.length_nil] at *; omega)) ?_
    refine jo_pure rfl (pr_sadd rfl rfl (by simp only [List.length_append, List.length_cons, List.length_nil] at *; omega)) ?_
    refine j_pull2 ?_
    refine j_pull2 ?_
    refine jo_callm [.box b2 78 [str ((l.getD i ([], [])).1), str ((l.getD i ([], [])).2)], .imm (.list (.pair .str .str)) (lv) (l)] rfl cal_80 (c_WriteString_used b1 bv acc (([59] ++ ((l.getD i ([], [])).1)) ++ [61]) (by simp only [List.length_append, List.length_cons, List.length_nil] at *; omega)) ⟨rfl, rfl, trivial⟩ rfl (fun r2 => ?_)
    show J _ _ [.box b1 92 [.pointer (some ⟨b1, 0, none⟩), r2], .row (r2) 5 .u8 (acc ++ (([59] ++ ((l.getD i ([], [])).1)) ++ [61])), .box b2 78 [str ((l.getD i ([], [])).1), str ((l.getD i ([], [])).2)], .imm (.list (.pair .str .str)) (lv) (l)] _
    refine jo_nil ?_
    refine jq_then ?_
    refine jc_seq ?_
    refine jc_region ?_
    refine jo_pure rfl (pr_fieldAddr 1 rfl Tryd.underlying78 rfl ty_9 rfl rfl) ?_
    refine jo_pure rfl (pr_load_box (str ((l.getD i ([], [])).2)) rfl ty_9 (.tail _ (.tail _ (.head _))) rfl (by decide) rfl) ?_
    refine jo_callp cal_64 (c_ascii_Token ((l.getD i ([], [])).2) (by first | omega | exact hxi.1 | exact hxi.2)) ⟨rfl, trivial⟩ rfl (trivial) (fun _ => ?_)
    refine jo_nil ?_
    refine jq_then ?_
    refine jc_cond rfl (fun h2b => ?_) (fun h2b => ?_)
    · have h2 := id h2b
      refine jc_region ?_
      refine jo_pure rfl (pr_fieldAddr 1 rfl Tryd.underlying78 rfl ty_9 rfl rfl) ?_
      refine jo_pure rfl (pr_load_box (str ((l.getD i ([], [])).2)) rfl ty_9 (.tail _ (.tail _ (.head _))) rfl (by decide) rfl) ?_
      refine j_pull1 ?_
      refine j_pull1 ?_
      refine jo_callm [.box b2 78 [str ((l.getD i ([], [])).1), str ((l.getD i ([], [])).2)], .imm (.list (.pair .str .str)) (lv) (l)] rfl cal_80 (c_WriteString_used b1 r2 (acc ++ (([59] ++ ((l.getD i ([], [])).1)) ++ [61])) ((l.getD i ([], [])).2) (by simp only [List.length_append, List.length_cons, List.length_nil] at *; omega)) ⟨rfl, rfl, trivial⟩ rfl (fun r3 => ?_)
      show J _ _ [.box b1 92 [.pointer (some ⟨b1, 0, none⟩), r3], .row (r3) 5 .u8 ((acc ++ (([59] ++ ((l.getD i ([], [])).1)) ++ [61])) ++ ((l.getD i ([], [])).2)), .box b2 78 [str ((l.getD i ([], [])).1), str ((l.getD i ([], [])).2)], .imm (.list (.pair .str .str)) (lv) (l)] _
      refine jo_nil ?_
      refine jq_in_normal ?_
      refine jq_then ?_
      refine jc_region ?_
      refine jo_pure rfl (pr_addN (m := i) (n := 1) rfl rfl (by omega)) ?_
      refine jo_pure rfl (pr_move rfl) ?_
      refine jo_nil ?_
      refine j_pull2 ?_
      refine j_drop ?_
      refine j_pull2 ?_
      refine j_pull2 ?_
      refine j_pull2 ?_
      refine jq_round' ((i + 1), r3, ((acc ++ (([59] ++ ((l.getD i ([], [])).1)) ++ [61])) ++ ((l.getD i ([], [])).2))) (by (try dsimp only); exact (⟨by omega, by simp only [List.length_append, List.length_cons, List.length_nil] at *; omega, format_tok h1 hinv.2.2 h2⟩)) (by (try dsimp only); exact (by omega)) ⟨rfl, rfl, rfl, rfl, trivial⟩ (fun _ h => h)
    · have h2 := id h2b
      refine jc_region ?_
      refine jo_pure rfl (pr_fieldAddr 1 rfl Tryd.underlying78 rfl ty_9 rfl rfl) ?_
      refine jo_pure rfl (pr_load_box (str ((l.getD i ([], [])).2)) rfl ty_9 (.tail _ (.tail _ (.head _))) rfl (by decide) rfl) ?_
      refine jo_callp cal_130 (c_ascii_Quote ((l.getD i ([], [])).2) (by first | omega | exact hxi.1 | exact hxi.2)) ⟨rfl, trivial⟩ rfl (trivial) (fun _ => ?_)
      refine j_pull1 ?_
      refine j_pull1 ?_
      refine jo_callm [.box b2 78 [str ((l.getD i ([], [])).1), str ((l.getD i ([], [])).2)], .imm (.list (.pair .str .str)) (lv) (l)] rfl cal_80 (c_WriteString_used b1 r2 (acc ++ (([59] ++ ((l.getD i ([], [])).1)) ++ [61])) (quote ((l.getD i ([], [])).2)) (by simp only [List.length_append, List.length_cons, List.length_nil] at *; omega)) ⟨rfl, rfl, trivial⟩ rfl (fun r4 => ?_)
      show J _ _ [.box b1 92 [.pointer (some ⟨b1, 0, none⟩), r4], .row (r4) 5 .u8 ((acc ++ (([59] ++ ((l.getD i ([], [])).1)) ++ [61])) ++ (quote ((l.getD i ([], [])).2))), .box b2 78 [str ((l.getD i ([], [])).1), str ((l.getD i ([], [])).2)], .imm (.list (.pair .str .str)) (lv) (l)] _
      refine jo_nil ?_
      refine jq_in_normal ?_
      refine jq_then ?_
      refine jc_region ?_
      refine jo_pure rfl (pr_addN (m := i) (n := 1) rfl rfl (by omega)) ?_
      refine jo_pure rfl (pr_move rfl) ?_
      refine jo_nil ?_
      refine j_pull2 ?_
      refine j_drop ?_
      refine j_pull2 ?_
      refine j_pull2 ?_
      refine j_pull2 ?_
      refine jq_round' ((i + 1), r4, ((acc ++ (([59] ++ ((l.getD i ([], [])).1)) ++ [61])) ++ (quote ((l.getD i ([], [])).2)))) (by (try dsimp only); exact (⟨by omega, by simp only [List.length_append, List.length_cons, List.length_nil] at *; omega, format_quo h1 hinv.2.2 h2⟩)) (by (try dsimp only); exact (by omega)) ⟨rfl, rfl, rfl, rfl, trivial⟩ (fun _ h => h)
  · have h1 := of_decide_eq_false h1b
    refine jc_exit ?_
    refine jq_then_exit ?_
    refine jq_then_exit ?_
    refine jq_in_hit ?_
    refine jq_then ?_
    refine jc_seq ?_
    refine jc_region ?_
    refine j_pull1 ?_
    refine j_pull1 ?_
    refine jo_callm [.imm (.list (.pair .str .str)) (lv) (l)] rfl cal_81 (c_Builder_String b1 (.pointer (some ⟨b1, 0, none⟩)) bv acc) ⟨rfl, trivial⟩ rfl (fun _ => ?_)
    show J _ _ [.imm (.list (.pair .str .str)) (lv) (l)] _
    refine jo_pure rfl (pr_assign rfl) ?_
    refine jo_nil ?_
    refine jq_then ?_
    refine jc_ret ?_
    refine j_drop ?_
    exact jq_ret1 rfl () rfl (show (str (formatP value l) : Value) = (str (acc)) from congrArg str (by rw [hinv.2.2, take_over (by omega)]; rfl)) (fun _ h => h)
end Go.Proofs.YtikllmfjgpmcnaaDoor
