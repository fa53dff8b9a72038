/-
  Contracts of functions of the program: each returns what a plain function says, for every input within the bounds named. Conditions: the bounds.
-/
import Derived.Test.YtgahnjchpomcfaaGreatDoorRows
import Derived.Test.YtgahnjchpomcfaaGreatDoorYK1
namespace Go.Proofs.YtgahnjchpomcfaaGreatDoor
open Go Go.Sep
set_option linter.unusedSimpArgs false
set_option linter.unusedVariables false

open Go.Plain

theorem cal_72 : Cal Tryz.prog 72 := cal_of Tryz.func72 (by kernel_rfl) rfl
theorem cal_77 : Cal Tryz.prog 77 := cal_of Tryz.func77 (by kernel_rfl) rfl
theorem cal_78 : Cal Tryz.prog 78 := cal_of Tryz.func78 (by kernel_rfl) rfl
theorem cal_87 : Cal Tryz.prog 87 := cal_of Tryz.func87 (by kernel_rfl) rfl
theorem cal_97 : Cal Tryz.prog 97 := cal_of Tryz.func97 (by kernel_rfl) rfl
theorem cal_98 : Cal Tryz.prog 98 := cal_of Tryz.func98 (by kernel_rfl) rfl
theorem cal_99 : Cal Tryz.prog 99 := cal_of Tryz.func99 (by kernel_rfl) rfl
theorem cal_101 : Cal Tryz.prog 101 := cal_of Tryz.func101 (by kernel_rfl) rfl
theorem cal_102 : Cal Tryz.prog 102 := cal_of Tryz.func102 (by kernel_rfl) rfl
theorem cal_103 : Cal Tryz.prog 103 := cal_of Tryz.func103 (by kernel_rfl) rfl
theorem cal_108 : Cal Tryz.prog 108 := cal_of Tryz.func108 (by kernel_rfl) rfl
theorem cal_120 : Cal Tryz.prog 120 := cal_of Tryz.func120 (by kernel_rfl) rfl
theorem cal_121 : Cal Tryz.prog 121 := cal_of Tryz.func121 (by kernel_rfl) rfl
theorem cal_122 : Cal Tryz.prog 122 := cal_of Tryz.func122 (by kernel_rfl) rfl
theorem cal_123 : Cal Tryz.prog 123 := cal_of Tryz.func123 (by kernel_rfl) rfl
theorem cal_124 : Cal Tryz.prog 124 := cal_of Tryz.func124 (by kernel_rfl) rfl
theorem cal_166 : Cal Tryz.prog 166 := cal_of Tryz.func166 (by kernel_rfl) rfl
theorem cal_168 : Cal Tryz.prog 168 := cal_of Tryz.func168 (by kernel_rfl) rfl
theorem cal_173 : Cal Tryz.prog 173 := cal_of Tryz.func173 (by kernel_rfl) rfl
theorem cal_174 : Cal Tryz.prog 174 := cal_of Tryz.func174 (by kernel_rfl) rfl
theorem cal_175 : Cal Tryz.prog 175 := cal_of Tryz.func175 (by kernel_rfl) rfl
theorem cal_177 : Cal Tryz.prog 177 := cal_of Tryz.func177 (by kernel_rfl) rfl
theorem cal_178 : Cal Tryz.prog 178 := cal_of Tryz.func178 (by kernel_rfl) rfl
theorem ty_79 : TyF Tryz.prog 79 true 3 56 (some (.agg #[str ([]), str ([]), .slice none 0 0])) := ⟨by kernel_rfl, by kernel_rfl⟩
theorem ty_84 : TyF Tryz.prog 84 false 1 24 (some (.slice none 0 0)) := ⟨by kernel_rfl, by kernel_rfl⟩
theorem ty_96 : TyF Tryz.prog 96 false 1 8 (some (.pointer none)) := ⟨by kernel_rfl, by kernel_rfl⟩
theorem ty_98 : TyF Tryz.prog 98 true 2 32 (some (.agg #[.pointer none, .slice none 0 0])) := ⟨by kernel_rfl, by kernel_rfl⟩

theorem c_copyCheck_new (b : Nat) (v : Value)  : Con Tryz.prog 120 #[.pointer (some ⟨b, 0, none⟩)] [.box b 98 [.pointer none, v]] (fun _ : Unit => .tuple #[]) (fun _ => [.box b 98 [.pointer (some ⟨b, 0, none⟩), v]]) := by
  refine con_of_J (args := [.pointer (some ⟨b, 0, none⟩)]) (n := 20) Tryz.func120 rfl (Nat.le_of_ble_eq_true rfl) rfl (fun w0 I0 m0 => ?_)
  show J _ [(0, .pointer (some ⟨b, 0, none⟩))] [.box b 98 [.pointer none, v]] _
  refine jc_seq ?_
  refine jc_region ?_
  refine jo_pure rfl (pr_move rfl) ?_
  refine jo_pure rfl (pr_nilCheck rfl) ?_
  refine jo_pure rfl (pr_fieldAddr 0 rfl Tryz.underlying98 rfl ty_96 rfl rfl) ?_
  refine jo_pure rfl (pr_load_box (.pointer none) rfl ty_96 (.head _) rfl (by decide) rfl) ?_
  refine jo_pure rfl (pr_eql_nilptr rfl rfl Tryz.underlying96) ?_
  refine jo_nil ?_
  refine jq_then ?_
  refine jc_true rfl (rfl) ?_
  refine jc_region ?_
  refine jo_pure rfl (pr_move rfl) ?_
  refine jo_pure rfl (pr_move rfl) ?_
  refine jo_pure rfl (pr_to_unsafe rfl (.head _) Tryz.underlying96 Tryz.underlying131 ty_98 rfl rfl) ?_
  refine jo_pure rfl (pr_ext (vs := [.pointer (some ⟨b, 0, none⟩)]) Tryz.func135 (by kernel_rfl) rfl (by kernel_rfl) (by kernel_rfl) ⟨rfl, trivial⟩ (fun w => Lib.run_noEscape w _)) ?_
  refine jo_pure rfl (pr_from_unsafe rfl (.head _) Tryz.underlying131 Tryz.underlying96 ty_98 (by kernel_rfl)) ?_
  refine jo_pure rfl (pr_nilCheck rfl) ?_
  refine jo_pure rfl (pr_fieldAddr 0 rfl Tryz.underlying98 rfl ty_96 rfl rfl) ?_
  refine jo_store rfl rfl ty_96 [.pointer (some ⟨b, 0, none⟩)] rfl rfl rfl [.pointer (some ⟨b, 0, none⟩), v] rfl rfl ?_
  refine jo_nil ?_
  refine jq_fall ?_
  exact jq_ret0 rfl () (show (.tuple #[] : Value) = (.tuple #[]) from rfl) (fun _ h => h)

theorem c_copyCheck_used (b : Nat) (v : Value)  : Con Tryz.prog 120 #[.pointer (some ⟨b, 0, none⟩)] [.box b 98 [.pointer (some ⟨b, 0, none⟩), v]] (fun _ : Unit => .tuple #[]) (fun _ => [.box b 98 [.pointer (some ⟨b, 0, none⟩), v]]) := by
  refine con_of_J (args := [.pointer (some ⟨b, 0, none⟩)]) (n := 20) Tryz.func120 rfl (Nat.le_of_ble_eq_true rfl) rfl (fun w0 I0 m0 => ?_)
  show J _ [(0, .pointer (some ⟨b, 0, none⟩))] [.box b 98 [.pointer (some ⟨b, 0, none⟩), v]] _
  refine jc_seq ?_
  refine jc_region ?_
  refine jo_pure rfl (pr_move rfl) ?_
  refine jo_pure rfl (pr_nilCheck rfl) ?_
  refine jo_pure rfl (pr_fieldAddr 0 rfl Tryz.underlying98 rfl ty_96 rfl rfl) ?_
  refine jo_pure rfl (pr_load_box (.pointer (some ⟨b, 0, none⟩)) rfl ty_96 (.head _) rfl (by decide) rfl) ?_
  refine jo_pure rfl (pr_eql_ptrnil rfl rfl Tryz.underlying96) ?_
  refine jo_nil ?_
  refine jq_then ?_
  refine jc_false rfl (rfl) ?_
  refine jc_seq ?_
  refine jc_region ?_
  refine jo_pure rfl (pr_move rfl) ?_
  refine jo_pure rfl (pr_nilCheck rfl) ?_
  refine jo_pure rfl (pr_fieldAddr 0 rfl Tryz.underlying98 rfl ty_96 rfl rfl) ?_
  refine jo_pure rfl (pr_load_box (.pointer (some ⟨b, 0, none⟩)) rfl ty_96 (.head _) rfl (by decide) rfl) ?_
  refine jo_pure rfl (pr_move rfl) ?_
  refine jo_pure rfl (pr_neq_ptrsame rfl rfl Tryz.underlying96 ty_98) ?_
  refine jo_nil ?_
  refine jq_then ?_
  refine jc_false rfl (rfl) ?_
  refine jc_skip ?_
  refine jq_fall ?_
  exact jq_ret0 rfl () (show (.tuple #[] : Value) = (.tuple #[]) from rfl) (fun _ h => h)

theorem c_WriteString_used (b : Nat) (v : Value) (xs s : List UInt8) (hl : xs.length + s.length ≤ 140737488355328) : Con Tryz.prog 98 #[.pointer (some ⟨b, 0, none⟩), str (s)] [.box b 98 [.pointer (some ⟨b, 0, none⟩), v], .row (v) 5 .u8 (xs)] (fun r1 : Value => .tuple #[.int .i64 ((s.length : Nat) : Int), .nilIface]) (fun r1 => [.box b 98 [.pointer (some ⟨b, 0, none⟩), r1], .row (r1) 5 .u8 (xs ++ s)]) := by
  refine con_of_J (args := [.pointer (some ⟨b, 0, none⟩), str (s)]) (n := 19) Tryz.func98 rfl (Nat.le_of_ble_eq_true rfl) rfl (fun w0 I0 m0 => ?_)
  show J _ [(0, .pointer (some ⟨b, 0, none⟩)), (1, str (s))] [.box b 98 [.pointer (some ⟨b, 0, none⟩), v], .row (v) 5 .u8 (xs)] _
  refine jc_seq ?_
  refine jc_region ?_
  refine jo_pure rfl (pr_assign rfl) ?_
  refine jo_pure rfl (pr_assign rfl) ?_
  refine jo_nil ?_
  refine jq_then ?_
  refine jc_seq ?_
  refine jc_region ?_
  refine jo_pure rfl (pr_move rfl) ?_
  refine jo_callm [.row (v) 5 .u8 (xs)] rfl cal_120 (c_copyCheck_used b v) ⟨rfl, trivial⟩ rfl (fun _ => ?_)
  show J _ _ [.box b 98 [.pointer (some ⟨b, 0, none⟩), v], .row (v) 5 .u8 (xs)] _
  refine jo_nil ?_
  refine jq_then ?_
  refine jc_seq ?_
  refine jc_region ?_
  refine jo_pure rfl (pr_move rfl) ?_
  refine jo_pure rfl (pr_move rfl) ?_
  refine jo_pure rfl (pr_nilCheck rfl) ?_
  refine jo_pure rfl (pr_fieldAddr 1 rfl Tryz.underlying98 rfl ty_84 rfl rfl) ?_
  refine jo_pure rfl (pr_load_box (v) rfl ty_84 (.head _) rfl (by decide) rfl) ?_
  refine jo_pure rfl (pr_move rfl) ?_
  refine j_pull1 ?_
  refine jo_append_str rfl rfl Tryz.underlying84 Tryz.underlying9 ty_5 rfl (hl) rfl (fun v1 => ?_)
  refine jo_pure rfl (pr_nilCheck rfl) ?_
  refine jo_pure rfl (pr_fieldAddr 1 rfl Tryz.underlying98 rfl ty_84 rfl rfl) ?_
  refine j_pull1 ?_
  refine jo_storeV rfl rfl ty_84 [v1] (fun w I m hs => (SliceV.cells (row_slice (.tail _ (.head _)) hs))) rfl (fun w I m hs => by simp only [List.all_cons, List.all_nil, Bool.and_true, Bool.and_eq_true]; exact (SliceV.one (row_slice (.tail _ (.head _)) hs))) [.pointer (some ⟨b, 0, none⟩), v1] rfl rfl ?_
  refine jo_nil ?_
  refine jq_then ?_
  refine jc_seq ?_
  refine jc_region ?_
  refine jo_pure rfl (pr_move rfl) ?_
  refine jo_pure rfl (pr_slen rfl Tryz.underlying9) ?_
  refine jo_pure rfl (pr_assign rfl) ?_
  refine jo_pure rfl (pr_assign rfl) ?_
  refine jo_nil ?_
  refine jq_then ?_
  refine jc_ret ?_
  refine j_pull1 ?_
  refine j_pull1 ?_
  exact jq_rets (rs := [.tmp 4, .tmp 5]) (vs := [.int .i64 ((s.length : Nat) : Int), .nilIface]) rfl v1 ⟨resV_tmp rfl, resV_tmp rfl, trivial⟩ rfl (show (.tuple #[.int .i64 ((s.length : Nat) : Int), .nilIface] : Value) = (.tuple #[.int .i64 ((s.length : Nat) : Int), .nilIface]) from rfl) (fun _ h => h)

theorem c_Builder_String (b : Nat) (p v : Value) (xs : List UInt8)  : Con Tryz.prog 99 #[.pointer (some ⟨b, 0, none⟩)] [.box b 98 [p, v], .row (v) 5 .u8 (xs)] (fun _ : Unit => str (xs)) (fun _ => []) := by
  refine con_of_J (args := [.pointer (some ⟨b, 0, none⟩)]) (n := 14) Tryz.func99 rfl (Nat.le_of_ble_eq_true rfl) rfl (fun w0 I0 m0 => ?_)
  show J _ [(0, .pointer (some ⟨b, 0, none⟩))] [.box b 98 [p, v], .row (v) 5 .u8 (xs)] _
  refine j_pull1 ?_
  refine j_len_row ?_
  refine jc_seq ?_
  refine jc_region ?_
  refine jo_pure rfl (pr_assign rfl) ?_
  refine jo_nil ?_
  refine jq_then ?_
  refine jc_seq ?_
  refine jc_held (fun (_ : Unit) => [(2, str (xs))]) (fun _ => [.fact (LenF (v) ((xs).length)), .box b 98 [p, v]]) [.fact (LenF (v) ((xs).length)), .box b 98 [p, v]] mixed (fun lst hlst => ?_) (fun _ => ?_)
  · subst hlst
    refine jh_take (listed' := #[true, false, false, false, false, false, false, false, false, false, false, false]) 0 rfl (by kernel_rfl) (by kernel_rfl) (by kernel_rfl) rfl (pr_move rfl) (fun _ h => Mem.drop1 (h)) rfl ?_
    refine jh_take (listed' := #[true, true, false, false, false, false, false, false, false, false, false, false]) 1 rfl (by kernel_rfl) (by kernel_rfl) (by kernel_rfl) rfl (pr_nilCheck rfl) (fun _ h => Mem.drop1 (h)) rfl ?_
    refine jh_take (listed' := #[true, true, true, false, false, false, false, false, false, false, false, false]) 2 rfl (by kernel_rfl) (by kernel_rfl) (by kernel_rfl) rfl (pr_fieldAddr 1 rfl Tryz.underlying98 rfl ty_84 rfl rfl) (fun _ h => Mem.drop1 (h)) rfl ?_
    refine jh_take (listed' := #[true, true, true, true, false, false, false, false, false, false, false, false]) 3 rfl (by kernel_rfl) (by kernel_rfl) (by kernel_rfl) rfl (pr_load_box (v) rfl ty_84 (.tail _ (.head _)) rfl (by decide) rfl) (fun _ h => Mem.drop1 (h)) rfl ?_
    refine jh_take (listed' := #[true, true, true, true, false, true, false, false, false, false, false, false]) 5 rfl (by kernel_rfl) (by kernel_rfl) (by kernel_rfl) rfl (pr_move rfl) (fun _ h => Mem.drop1 (h)) rfl ?_
    refine jh_take (listed' := #[true, true, true, true, false, true, true, false, false, false, false, false]) 6 rfl (by kernel_rfl) (by kernel_rfl) (by kernel_rfl) rfl (pr_nilCheck rfl) (fun _ h => Mem.drop1 (h)) rfl ?_
    refine jh_take (listed' := #[true, true, true, true, false, true, true, true, false, false, false, false]) 7 rfl (by kernel_rfl) (by kernel_rfl) (by kernel_rfl) rfl (pr_fieldAddr 1 rfl Tryz.underlying98 rfl ty_84 rfl rfl) (fun _ h => Mem.drop1 (h)) rfl ?_
    refine jh_take (listed' := #[true, true, true, true, false, true, true, true, true, false, false, false]) 8 rfl (by kernel_rfl) (by kernel_rfl) (by kernel_rfl) rfl (pr_load_box (v) rfl ty_84 (.tail _ (.head _)) rfl (by decide) rfl) (fun _ h => Mem.drop1 (h)) rfl ?_
    refine jh_take (listed' := #[true, true, true, true, false, true, true, true, true, true, false, false]) 9 rfl (by kernel_rfl) (by kernel_rfl) (by kernel_rfl) rfl (pr_len_fact rfl (.head _) Tryz.underlying84) (fun _ h => Mem.drop1 (h)) rfl ?_
    refine jh_all [4] (by kernel_rfl) (by simp) (fun i hi => ?_)
    simp only [List.mem_cons, List.not_mem_nil, or_false] at hi
    subst hi
    · refine jh_op rfl ?_
      refine jo_ssd rfl Tryz.underlying121 rfl (fun p1 => ?_)
      refine jh_in (listed' := #[true, true, true, true, true, true, true, true, true, true, false, false]) (fun _ h => Mem.drop1 (Mem.drop1 (h))) rfl ?_
      refine jh_all [10] (by kernel_rfl) (by simp) (fun i hi => ?_)
      simp only [List.mem_cons, List.not_mem_nil, or_false] at hi
      subst hi
      · refine jh_op rfl ?_
        refine jo_ustr rfl rfl (.head _) Tryz.underlying121 (by kernel_rfl) rfl ?_
        refine jh_in (listed' := #[true, true, true, true, true, true, true, true, true, true, true, false]) (fun _ h => Mem.drop1 (h)) rfl ?_
        refine jh_take (listed' := #[true, true, true, true, true, true, true, true, true, true, true, true]) 11 rfl (by kernel_rfl) (by kernel_rfl) (by kernel_rfl) rfl (pr_assign rfl) (fun _ h => Mem.drop1 (h)) rfl ?_
        show J _ _ _ _
        refine j_drop ?_
        refine j_pull1 ?_
        refine j_pull1 ?_
        show JH _ _ _ _ _ _ _ _
        exact jh_done () (by kernel_rfl) ⟨rfl, trivial⟩ (fun _ h => h)
  · skip
    refine jq_then ?_
    refine jc_ret ?_
    refine j_drop ?_
    refine j_drop ?_
    exact jq_ret1 rfl () rfl (show (str (xs) : Value) = (str (xs)) from rfl) (fun _ h => h)

theorem c_ascii_Fold (a : List UInt8) (b : List UInt8) (ha : a.length ≤ 1000000) (hb : b.length ≤ 1000000) : Con Tryz.prog 122 #[str (a), str (b)] [] (fun _ : Unit => .bool (fold a b)) (fun _ => []) := by
  refine con_of_J (args := [str (a), str (b)]) (n := 17) Tryz.func122 rfl (Nat.le_of_ble_eq_true rfl) rfl (fun w0 I0 m0 => ?_)
  show J _ [(0, str (a)), (1, str (b))] [] _
  refine jc_seq ?_
  refine jc_region ?_
  refine jo_pure rfl (pr_assign rfl) ?_
  refine jo_nil ?_
  refine jq_then ?_
  refine jc_seq ?_
  refine jc_region ?_
  refine jo_pure rfl (pr_move rfl) ?_
  refine jo_pure rfl (pr_slen rfl Tryz.underlying9) ?_
  refine jo_pure rfl (pr_move rfl) ?_
  refine jo_pure rfl (pr_slen rfl Tryz.underlying9) ?_
  refine jo_pure rfl (pr_eqlN (m := a.length) (n := b.length) rfl rfl) ?_
  refine jo_pure rfl (pr_move rfl) ?_
  refine jo_gpure (j := 5) (want := true) rfl rfl rfl rfl (fun hg => pr_move rfl) ?_
  refine jo_gcall (j := 5) (want := true) rfl rfl rfl cal_51 (fun hg => c_ascii_Lower a (by omega)) (fun hg => ⟨evg rfl hg, trivial⟩) rfl (fun _ => trivial) ?_
  refine jo_gpure (j := 5) (want := true) rfl rfl rfl rfl (fun hg => pr_move rfl) ?_
  refine jo_gcall (j := 5) (want := true) rfl rfl rfl cal_51 (fun hg => c_ascii_Lower b (by omega)) (fun hg => ⟨evg rfl hg, trivial⟩) rfl (fun _ => trivial) ?_
  refine jo_gpure (j := 5) (want := true) rfl rfl rfl rfl (fun hg => pr_seql (evg rfl hg) (evg rfl hg)) ?_
  refine jo_pure rfl (pr_pick_and rfl rfl rfl) ?_
  refine jo_pure rfl (pr_assign rfl) ?_
  refine jo_nil ?_
  refine jq_then ?_
  refine jc_ret ?_
  exact jq_ret1 rfl () rfl (show (.bool (fold a b) : Value) = (.bool ((decide ((a.length : Nat) = b.length) && decide ((lower a : List UInt8) = lower b)))) from rfl) (fun _ h => h)

theorem c_mediatype_ParseRange (s : List UInt8) (hs : s.length ≤ 1000000) : Con Tryz.prog 166 #[str (s)] [] (fun r1 : Value => .tuple #[.agg #[str ((parseR s).1.1), str ((parseR s).1.2.1), r1], .bool ((parseR s).2)]) (fun r1 => [.row r1 82 (.pair .str .str) ((parseR s).1.2.2)]) := by
  refine con_of_J (args := [str (s)]) (n := 48) Tryz.func166 rfl (Nat.le_of_ble_eq_true rfl) rfl (fun w0 I0 m0 => ?_)
  show J _ [(0, str (s))] [] _
  refine jc_seq ?_
  refine jc_region ?_
  refine jo_alloc ty_79 [str ([]), str ([]), .slice none 0 0] rfl rfl (fun b1 => ?_)
  refine jo_pure rfl (pr_assign rfl) ?_
  refine jo_nil ?_
  refine jq_then ?_
  refine jc_seq ?_
  refine jc_region ?_
  refine jo_pure rfl (pr_move rfl) ?_
  refine jo_callp cal_168 (c_param_Parse s (by first | omega | rfl | (have := parseP_len1 s; omega) | (have := parseP_len1 s; simp only [List.length_take, List.length_drop]; omega))) ⟨rfl, trivial⟩ rfl (trivial) (fun r1 => ?_)
  show J _ _ [.row (r1) 82 (.pair .str .str) ((parseP s).2.1), .box b1 79 [str ([]), str ([]), .slice none 0 0]] _
  refine jo_pure rfl (pr_move rfl) ?_
  refine jo_pure rfl (pr_extract rfl rfl) ?_
  refine jo_pure rfl (pr_extract rfl rfl) ?_
  refine jo_pure rfl (pr_extract rfl rfl) ?_
  refine jo_pure rfl (pr_assign rfl) ?_
  refine jo_pure rfl (pr_assign rfl) ?_
  refine jo_pure rfl (pr_assign rfl) ?_
  refine jo_nil ?_
  refine jq_then ?_
  refine jc_seq ?_
  refine jc_seq ?_
  refine jc_region ?_
  refine jo_pure rfl (pr_move rfl) ?_
  refine jo_pure rfl (pr_not rfl) ?_
  refine jo_nil ?_
  refine jq_then ?_
  refine jc_cond rfl (fun h1b => ?_) (fun h1b => ?_)
  · have h1 := (fun q => id (bt_not q)) h1b
    refine jc_seq ?_
    refine jc_region ?_
    refine jo_pure rfl (pr_build [] [str ([]), str ([]), .slice none 0 0] (fun a hf => by simp) (by kernel_rfl)) ?_
    refine j_pull1 ?_
    refine jo_store rfl rfl ty_79 [str ([]), str ([]), .slice none 0 0] rfl rfl rfl [str ([]), str ([]), .slice none 0 0] rfl rfl ?_
    refine jo_pure rfl (pr_assign rfl) ?_
    refine jo_nil ?_
    refine jq_then ?_
    refine jc_ret ?_
    refine jq_then_ret ?_
    refine j_nil_row 82 (.pair .str .str) ?_
    refine j_pull2 ?_
    refine j_drop ?_
    refine j_pull1 ?_
    refine j_pull1 ?_
    exact jq_rets (rs := [.cell 2 79, .tmp 3]) (vs := [.agg #[str ([]), str ([]), .slice none 0 0], .bool (false)]) rfl (.slice none 0 0) ⟨resV_box (.agg #[str ([]), str ([]), .slice none 0 0]) rfl ty_79 (.tail _ (.head _)) rfl (by decide) rfl, resV_tmp rfl, trivial⟩ rfl (show (.tuple #[.agg #[str ((parseR s).1.1), str ((parseR s).1.2.1), (.slice none 0 0)], .bool ((parseR s).2)] : Value) = (.tuple #[.agg #[str ([]), str ([]), .slice none 0 0], .bool (false)]) from by rw [parseR_no (.inl h1)]) (fun w h => (fun h => by rw [parseR_no (.inl h1)]; exact h) (Mem.front (As := [.row (.slice none 0 0) 82 (.pair .str .str) ([])]) h))
  · have h1 := (fun q => id (bf_not q)) h1b
    refine jc_skip ?_
    refine jq_then ?_
    refine jc_seq ?_
    refine jc_region ?_
    refine jo_pure rfl (pr_move rfl) ?_
    refine jo_callp cal_58 (c_strings_Cut ((parseP s).1) [47] 47 (rfl) (by first | omega | rfl | (have := parseP_len1 s; omega) | (have := parseP_len1 s; simp only [List.length_take, List.length_drop]; omega))) ⟨rfl, rfl, trivial⟩ rfl (trivial) (fun _ => ?_)
    refine jo_pure rfl (pr_move rfl) ?_
    refine jo_pure rfl (pr_extract rfl rfl) ?_
    refine jo_pure rfl (pr_extract rfl rfl) ?_
    refine jo_pure rfl (pr_extract rfl rfl) ?_
    refine jo_pure rfl (pr_assign rfl) ?_
    refine jo_pure rfl (pr_assign rfl) ?_
    refine jo_pure rfl (pr_assign rfl) ?_
    refine jo_nil ?_
    refine jq_then ?_
    refine jc_seq ?_
    refine jc_seq ?_
    refine jc_region ?_
    refine jo_pure rfl (pr_move rfl) ?_
    refine jo_callp cal_50 (c_ascii_Token (((parseP s).1).take (pos ((parseP s).1) 47)) (by first | omega | rfl | (have := parseP_len1 s; omega) | (have := parseP_len1 s; simp only [List.length_take, List.length_drop]; omega))) ⟨rfl, trivial⟩ rfl (trivial) (fun _ => ?_)
    refine jo_pure rfl (pr_not rfl) ?_
    refine jo_pure rfl (pr_move rfl) ?_
    refine jo_gpure (j := 3) (want := false) rfl rfl rfl rfl (fun hg => pr_move rfl) ?_
    refine jo_gcall (j := 3) (want := false) rfl rfl rfl cal_50 (fun hg => c_ascii_Token (((parseP s).1).drop (pos ((parseP s).1) 47 + 1)) (by first | omega | rfl | (have := parseP_len1 s; omega) | (have := parseP_len1 s; simp only [List.length_take, List.length_drop]; omega))) (fun hg => ⟨evg rfl hg, trivial⟩) rfl (fun _ => trivial) ?_
    refine jo_gpure (j := 3) (want := false) rfl rfl rfl rfl (fun hg => pr_not (evg rfl hg)) ?_
    refine jo_pure rfl (pr_pick_or rfl rfl rfl) ?_
    refine jo_pure rfl (pr_move rfl) ?_
    refine jo_gpure (j := 8) (want := false) rfl rfl rfl rfl (fun hg => pr_move rfl) ?_
    refine jo_gpure (j := 8) (want := false) rfl rfl rfl rfl (fun hg => pr_seql (evg rfl hg) rfl) ?_
    refine jo_gpure (j := 8) (want := false) rfl rfl rfl rfl (fun hg => pr_move (evg rfl hg)) ?_
    refine jo_gpure2 (j := 11) (want := true) rfl rfl rfl rfl (fun hg => pr_move rfl) ?_
    refine jo_gpure2 (j := 11) (want := true) rfl rfl rfl rfl (fun hg => pr_sneq (evg rfl hg) rfl) ?_
    refine jo_gpure (j := 8) (want := false) rfl rfl rfl rfl (fun hg => pr_pick_and (evg rfl hg) (evg2 rfl hg) rfl) ?_
    refine jo_pure rfl (pr_pick_or rfl rfl rfl) ?_
    refine jo_nil ?_
    refine jq_then ?_
    refine jc_cond rfl (fun h2b => ?_) (fun h2b => ?_)
    · have h2 := (fun q => Or.imp (fun q => Or.imp (fun q => id (bt_not q)) (fun q => id (bt_not q)) (bt_or q)) (fun q => And.imp of_decide_eq_true (fun q => of_decide_eq_false (bt_not q)) (bt_and q)) (bt_or q)) h2b
      refine jc_seq ?_
      refine jc_region ?_
      refine jo_pure rfl (pr_build [] [str ([]), str ([]), .slice none 0 0] (fun a hf => by simp) (by kernel_rfl)) ?_
      refine j_pull1 ?_
      refine jo_store rfl rfl ty_79 [str ([]), str ([]), .slice none 0 0] rfl rfl rfl [str ([]), str ([]), .slice none 0 0] rfl rfl ?_
      refine jo_pure rfl (pr_assign rfl) ?_
      refine jo_nil ?_
      refine jq_then ?_
      refine jc_ret ?_
      refine jq_then_ret ?_
      refine j_nil_row 82 (.pair .str .str) ?_
      refine j_pull2 ?_
      refine j_drop ?_
      refine j_pull1 ?_
      refine j_pull1 ?_
      exact jq_rets (rs := [.cell 2 79, .tmp 3]) (vs := [.agg #[str ([]), str ([]), .slice none 0 0], .bool (false)]) rfl (.slice none 0 0) ⟨resV_box (.agg #[str ([]), str ([]), .slice none 0 0]) rfl ty_79 (.tail _ (.head _)) rfl (by decide) rfl, resV_tmp rfl, trivial⟩ rfl (show (.tuple #[.agg #[str ((parseR s).1.1), str ((parseR s).1.2.1), (.slice none 0 0)], .bool ((parseR s).2)] : Value) = (.tuple #[.agg #[str ([]), str ([]), .slice none 0 0], .bool (false)]) from by rw [parseR_no (.inr (by rw [okRange_eq, h2b]; rfl))]) (fun w h => (fun h => by rw [parseR_no (.inr (by rw [okRange_eq, h2b]; rfl))]; exact h) (Mem.front (As := [.row (.slice none 0 0) 82 (.pair .str .str) ([])]) h))
    · have h2 := (fun q => And.imp (fun q => And.imp (fun q => id (bf_not q)) (fun q => id (bf_not q)) (bf_or q)) (fun q => Or.imp of_decide_eq_false (fun q => of_decide_eq_true (bf_not q)) (bf_and q)) (bf_or q)) h2b
      refine jc_skip ?_
      refine jq_then ?_
      refine jc_seq ?_
      refine jc_region ?_
      refine jo_pure rfl (pr_move rfl) ?_
      refine jo_callp cal_51 (c_ascii_Lower (((parseP s).1).take (pos ((parseP s).1) 47)) (by first | omega | rfl | (have := parseP_len1 s; omega) | (have := parseP_len1 s; simp only [List.length_take, List.length_drop]; omega))) ⟨rfl, trivial⟩ rfl (trivial) (fun _ => ?_)
      refine jo_pure rfl (pr_move rfl) ?_
      refine jo_callp cal_51 (c_ascii_Lower (((parseP s).1).drop (pos ((parseP s).1) 47 + 1)) (by first | omega | rfl | (have := parseP_len1 s; omega) | (have := parseP_len1 s; simp only [List.length_take, List.length_drop]; omega))) ⟨rfl, trivial⟩ rfl (trivial) (fun _ => ?_)
      refine jo_pure rfl (pr_move rfl) ?_
      refine jo_pure rfl (pr_buildV [(0, str (lower (((parseP s).1).take (pos ((parseP s).1) 47)))), (1, str (lower (((parseP s).1).drop (pos ((parseP s).1) 47 + 1)))), (2, r1)] [str (lower (((parseP s).1).take (pos ((parseP s).1) 47))), str (lower (((parseP s).1).drop (pos ((parseP s).1) 47 + 1))), r1] (fun a hf => by simp only [List.map_toArray, List.map_cons, List.map_nil, hf.ev (show ev _ (.tmp 43) = some (str (lower (((parseP s).1).take (pos ((parseP s).1) 47)))) from rfl), hf.ev (show ev _ (.tmp 45) = some (str (lower (((parseP s).1).drop (pos ((parseP s).1) 47 + 1)))) from rfl), hf.ev (show ev _ (.tmp 46) = some (r1) from rfl)]) (fun w I m hs => by obtain ⟨_, _, _, e0⟩ := row_slice (.head _) hs; rw [e0]; kernel_rfl)) ?_
      refine j_pull1 ?_
      refine jo_storeV rfl rfl ty_79 [str (lower (((parseP s).1).take (pos ((parseP s).1) 47))), str (lower (((parseP s).1).drop (pos ((parseP s).1) 47 + 1))), r1] (fun _ _ _ _ => rfl) rfl (fun w I m hs => by simp only [List.all_cons, List.all_nil, Bool.and_true, Bool.and_eq_true]; exact ⟨rfl, rfl, (SliceV.one (row_slice (.tail _ (.head _)) hs))⟩) [str (lower (((parseP s).1).take (pos ((parseP s).1) 47))), str (lower (((parseP s).1).drop (pos ((parseP s).1) 47 + 1))), r1] rfl rfl ?_
      refine jo_pure rfl (pr_assign rfl) ?_
      refine jo_nil ?_
      refine jq_then ?_
      refine jc_ret ?_
      refine j_pull1 ?_
      exact jq_rets (rs := [.cell 2 79, .tmp 3]) (vs := [.agg #[str (lower (((parseP s).1).take (pos ((parseP s).1) 47))), str (lower (((parseP s).1).drop (pos ((parseP s).1) 47 + 1))), r1], .bool (true)]) rfl r1 ⟨resV_box (.agg #[str (lower (((parseP s).1).take (pos ((parseP s).1) 47))), str (lower (((parseP s).1).drop (pos ((parseP s).1) 47 + 1))), r1]) rfl ty_79 (.tail _ (.head _)) rfl (by decide) rfl, resV_tmp rfl, trivial⟩ rfl (show (.tuple #[.agg #[str ((parseR s).1.1), str ((parseR s).1.2.1), r1], .bool ((parseR s).2)] : Value) = (.tuple #[.agg #[str (lower (((parseP s).1).take (pos ((parseP s).1) 47))), str (lower (((parseP s).1).drop (pos ((parseP s).1) 47 + 1))), r1], .bool (true)]) from by rw [parseR_yes h1 (by rw [okRange_eq, h2b]; rfl)]) (fun w h => (fun h => by rw [parseR_yes h1 (by rw [okRange_eq, h2b]; rfl)]; exact h) (Mem.front (As := [.row (r1) 82 (.pair .str .str) ((parseP s).2.1)]) h))

theorem c_ref10_ParseRange (s : List UInt8) (hs : s.length ≤ 1000000) : Con Tryz.prog 101 #[str (s)] [] (fun r1 : Value => .tuple #[.agg #[str ((parseR s).1.1), str ((parseR s).1.2.1), r1], .bool ((parseR s).2)]) (fun r1 => [.row r1 82 (.pair .str .str) ((parseR s).1.2.2)]) := by
  refine con_of_J (args := [str (s)]) (n := 61) Tryz.func101 rfl (Nat.le_of_ble_eq_true rfl) rfl (fun w0 I0 m0 => ?_)
  show J _ [(0, str (s))] [] _
  refine jc_seq ?_
  refine jc_region ?_
  refine jo_alloc ty_79 [str ([]), str ([]), .slice none 0 0] rfl rfl (fun b1 => ?_)
  refine jo_pure rfl (pr_assign rfl) ?_
  refine jo_nil ?_
  refine jq_then ?_
  refine jc_seq ?_
  refine jc_region ?_
  refine jo_pure rfl (pr_move rfl) ?_
  refine jo_callp cal_124 (c_ref01_ParseParams s (by first | omega | rfl | (have := parseP_len1 s; simp only [List.length_take, List.length_drop]; omega) | (have := parseP_len1 s; omega))) ⟨rfl, trivial⟩ rfl (trivial) (fun r1 => ?_)
  show J _ _ [.row (r1) 82 (.pair .str .str) ((parseP s).2.1), .box b1 79 [str ([]), str ([]), .slice none 0 0]] _
  refine jo_pure rfl (pr_move rfl) ?_
  refine jo_pure rfl (pr_extract rfl rfl) ?_
  refine jo_pure rfl (pr_extract rfl rfl) ?_
  refine jo_pure rfl (pr_extract rfl rfl) ?_
  refine jo_pure rfl (pr_assign rfl) ?_
  refine jo_pure rfl (pr_assign rfl) ?_
  refine jo_pure rfl (pr_assign rfl) ?_
  refine jo_nil ?_
  refine jq_then ?_
  refine jc_seq ?_
  refine jc_seq ?_
  refine jc_region ?_
  refine jo_pure rfl (pr_move rfl) ?_
  refine jo_pure rfl (pr_not rfl) ?_
  refine jo_nil ?_
  refine jq_then ?_
  refine jc_cond rfl (fun h1b => ?_) (fun h1b => ?_)
  · have h1 := (fun q => id (bt_not q)) h1b
    refine jc_seq ?_
    refine jc_region ?_
    refine jo_pure rfl (pr_build [] [str ([]), str ([]), .slice none 0 0] (fun a hf => by simp) (by kernel_rfl)) ?_
    refine j_pull1 ?_
    refine jo_store rfl rfl ty_79 [str ([]), str ([]), .slice none 0 0] rfl rfl rfl [str ([]), str ([]), .slice none 0 0] rfl rfl ?_
    refine jo_pure rfl (pr_assign rfl) ?_
    refine jo_nil ?_
    refine jq_then ?_
    refine jc_ret ?_
    refine jq_then_ret ?_
    refine j_nil_row 82 (.pair .str .str) ?_
    refine j_pull2 ?_
    refine j_drop ?_
    refine j_pull1 ?_
    refine j_pull1 ?_
    exact jq_rets (rs := [.cell 2 79, .tmp 3]) (vs := [.agg #[str ([]), str ([]), .slice none 0 0], .bool (false)]) rfl (.slice none 0 0) ⟨resV_box (.agg #[str ([]), str ([]), .slice none 0 0]) rfl ty_79 (.tail _ (.head _)) rfl (by decide) rfl, resV_tmp rfl, trivial⟩ rfl (show (.tuple #[.agg #[str ((parseR s).1.1), str ((parseR s).1.2.1), (.slice none 0 0)], .bool ((parseR s).2)] : Value) = (.tuple #[.agg #[str ([]), str ([]), .slice none 0 0], .bool (false)]) from by rw [parseR_no (.inl h1)]) (fun w h => (fun h => by rw [parseR_no (.inl h1)]; exact h) (Mem.front (As := [.row (.slice none 0 0) 82 (.pair .str .str) ([])]) h))
  · have h1 := (fun q => id (bf_not q)) h1b
    have hpl := parseP_len1 s
    refine jc_skip ?_
    refine jq_then ?_
    refine jc_seq ?_
    refine jc_region ?_
    refine jo_pure rfl (pr_move rfl) ?_
    refine jo_callp cal_60 (c_ref01_Index ((parseP s).1) 47 0 (by first | omega | rfl | (have := parseP_len1 s; simp only [List.length_take, List.length_drop]; omega) | (have := parseP_len1 s; omega))) ⟨rfl, rfl, rfl, trivial⟩ rfl (trivial) (fun _ => ?_)
    refine jo_pure rfl (pr_assign rfl) ?_
    refine jo_nil ?_
    refine jq_then ?_
    refine jc_seq ?_
    refine jc_seq ?_
    by_cases hc : pos ((parseP s).1) 47 < ((parseP s).1).length
    · skip
      rw [show (idxF ((parseP s).1) 47 0 : Int) = ((pos ((parseP s).1) 47 : Nat) : Int) from by rw [idxF_zero, idx_found hc]]
      refine jc_region ?_
      refine jo_pure rfl (pr_move rfl) ?_
      refine jo_pure rfl (pr_lssN (m := pos ((parseP s).1) 47) (n := 0) rfl rfl) ?_
      refine jo_pure rfl (pr_move rfl) ?_
      refine jo_run (j := 2) (want := false) rfl rfl (by simp) ?_
      refine jo_pure rfl (pr_move rfl) ?_
      refine jo_run (j := 2) (want := false) rfl rfl (by simp) ?_
      refine jo_pure rfl (pr_move rfl) ?_
      refine jo_run (j := 2) (want := false) rfl rfl (by simp) ?_
      refine jo_pure rfl (pr_sslice_hi (j := pos ((parseP s).1) 47) rfl rfl Tryz.underlying9 (by omega)) ?_
      refine jo_run (j := 2) (want := false) rfl rfl (by simp) ?_
      refine jo_callp cal_61 (c_ref01_Token (((parseP s).1).take (pos ((parseP s).1) 47)) (by first | omega | rfl | (have := parseP_len1 s; simp only [List.length_take, List.length_drop]; omega) | (have := parseP_len1 s; omega))) ⟨rfl, trivial⟩ rfl (trivial) (fun _ => ?_)
      refine jo_run (j := 2) (want := false) rfl rfl (by simp) ?_
      refine jo_pure rfl (pr_not rfl) ?_
      refine jo_pure rfl (pr_pick_f rfl (by simp) rfl) ?_
      refine jo_pure rfl (pr_move rfl) ?_
      refine jo_gpure (j := 9) (want := false) rfl rfl rfl rfl (fun hg => pr_move rfl) ?_
      refine jo_gpure (j := 9) (want := false) rfl rfl rfl rfl (fun hg => pr_move rfl) ?_
      refine jo_gpure (j := 9) (want := false) rfl rfl rfl rfl (fun hg => pr_addN (m := pos ((parseP s).1) 47) (n := 1) (evg rfl hg) rfl (by omega)) ?_
      refine jo_gpure (j := 9) (want := false) rfl rfl rfl rfl (fun hg => pr_sslice_lo (i := (pos ((parseP s).1) 47) + 1) (evg rfl hg) (evg rfl hg) Tryz.underlying9 (by omega)) ?_
      refine jo_gcall (j := 9) (want := false) rfl rfl rfl cal_61 (fun hg => c_ref01_Token (((parseP s).1).drop ((pos ((parseP s).1) 47) + 1)) (by first | omega | rfl | (have := parseP_len1 s; simp only [List.length_take, List.length_drop]; omega) | (have := parseP_len1 s; omega))) (fun hg => ⟨evg rfl hg, trivial⟩) rfl (fun _ => trivial) ?_
      refine jo_gpure (j := 9) (want := false) rfl rfl rfl rfl (fun hg => pr_not (evg rfl hg)) ?_
      refine jo_pure rfl (pr_pick_or rfl rfl rfl) ?_
      refine jo_pure rfl (pr_move rfl) ?_
      refine jo_gpure (j := 17) (want := false) rfl rfl rfl rfl (fun hg => pr_move rfl) ?_
      refine jo_gpure (j := 17) (want := false) rfl rfl rfl rfl (fun hg => pr_move rfl) ?_
      refine jo_gpure (j := 17) (want := false) rfl rfl rfl rfl (fun hg => pr_sslice_hi (j := pos ((parseP s).1) 47) (evg rfl hg) (evg rfl hg) Tryz.underlying9 (by omega)) ?_
      refine jo_gpure (j := 17) (want := false) rfl rfl rfl rfl (fun hg => pr_seql (evg rfl hg) rfl) ?_
      refine jo_gpure (j := 17) (want := false) rfl rfl rfl rfl (fun hg => pr_move (evg rfl hg)) ?_
      refine jo_gpure2 (j := 22) (want := true) rfl rfl rfl rfl (fun hg => pr_move rfl) ?_
      refine jo_gpure2 (j := 22) (want := true) rfl rfl rfl rfl (fun hg => pr_move rfl) ?_
      refine jo_gpure2 (j := 22) (want := true) rfl rfl rfl rfl (fun hg => pr_addN (m := pos ((parseP s).1) 47) (n := 1) (evg rfl hg) rfl (by omega)) ?_
      refine jo_gpure2 (j := 22) (want := true) rfl rfl rfl rfl (fun hg => pr_sslice_lo (i := (pos ((parseP s).1) 47) + 1) (evg rfl hg) (evg rfl hg) Tryz.underlying9 (by omega)) ?_
      refine jo_gpure2 (j := 22) (want := true) rfl rfl rfl rfl (fun hg => pr_sneq (evg rfl hg) rfl) ?_
      refine jo_gpure (j := 17) (want := false) rfl rfl rfl rfl (fun hg => pr_pick_and (evg rfl hg) (evg2 rfl hg) rfl) ?_
      refine jo_pure rfl (pr_pick_or rfl rfl rfl) ?_
      refine jo_nil ?_
      refine jq_then ?_
      refine jc_cond rfl (fun h2b => ?_) (fun h2b => ?_)
      · have h2 := (fun q => Or.imp (fun q => Or.imp (fun q => id (bt_not q)) (fun q => id (bt_not q)) (bt_or q)) (fun q => And.imp of_decide_eq_true (fun q => of_decide_eq_false (bt_not q)) (bt_and q)) (bt_or q)) h2b
        refine jc_seq ?_
        refine jc_region ?_
        refine jo_pure rfl (pr_build [] [str ([]), str ([]), .slice none 0 0] (fun a hf => by simp) (by kernel_rfl)) ?_
        refine j_pull1 ?_
        refine jo_store rfl rfl ty_79 [str ([]), str ([]), .slice none 0 0] rfl rfl rfl [str ([]), str ([]), .slice none 0 0] rfl rfl ?_
        refine jo_pure rfl (pr_assign rfl) ?_
        refine jo_nil ?_
        refine jq_then ?_
        refine jc_ret ?_
        refine jq_then_ret ?_
        refine j_nil_row 82 (.pair .str .str) ?_
        refine j_pull2 ?_
        refine j_drop ?_
        refine j_pull1 ?_
        refine j_pull1 ?_
        exact jq_rets (rs := [.cell 2 79, .tmp 3]) (vs := [.agg #[str ([]), str ([]), .slice none 0 0], .bool (false)]) rfl (.slice none 0 0) ⟨resV_box (.agg #[str ([]), str ([]), .slice none 0 0]) rfl ty_79 (.tail _ (.head _)) rfl (by decide) rfl, resV_tmp rfl, trivial⟩ rfl (show (.tuple #[.agg #[str ((parseR s).1.1), str ((parseR s).1.2.1), (.slice none 0 0)], .bool ((parseR s).2)] : Value) = (.tuple #[.agg #[str ([]), str ([]), .slice none 0 0], .bool (false)]) from by rw [parseR_no (.inr (by rw [okRange_eq, h2b]; rfl))]) (fun w h => (fun h => by rw [parseR_no (.inr (by rw [okRange_eq, h2b]; rfl))]; exact h) (Mem.front (As := [.row (.slice none 0 0) 82 (.pair .str .str) ([])]) h))
      · have h2 := (fun q => And.imp (fun q => And.imp (fun q => id (bf_not q)) (fun q => id (bf_not q)) (bf_or q)) (fun q => Or.imp of_decide_eq_false (fun q => of_decide_eq_true (bf_not q)) (bf_and q)) (bf_or q)) h2b
        refine jc_skip ?_
        refine jq_then ?_
        refine jc_seq ?_
        refine j_pull1 ?_
        refine jc_held (fun (_ : Unit) => [(2, .pointer (some ⟨b1, 0, none⟩)), (3, .bool (true))]) (fun _ => [.box b1 79 [str (lower (((parseP s).1).take (pos ((parseP s).1) 47))), str (lower (((parseP s).1).drop ((pos ((parseP s).1) 47) + 1))), r1], .row (r1) 82 (.pair .str .str) ((parseP s).2.1)]) [.row (r1) 82 (.pair .str .str) ((parseP s).2.1)] mixed (fun lst hlst => ?_) (fun _ => ?_)
        · subst hlst
          refine jh_take (listed' := #[true, false, false, false, false, false, false, false, false, false, false, false, false]) 0 rfl (by kernel_rfl) (by kernel_rfl) (by kernel_rfl) rfl (pr_move rfl) (fun _ h => Mem.drop1 (h)) rfl ?_
          refine jh_take (listed' := #[true, true, false, false, false, false, false, false, false, false, false, false, false]) 1 rfl (by kernel_rfl) (by kernel_rfl) (by kernel_rfl) rfl (pr_move rfl) (fun _ h => Mem.drop1 (h)) rfl ?_
          refine jh_take (listed' := #[true, true, true, false, false, false, false, false, false, false, false, false, false]) 2 rfl (by kernel_rfl) (by kernel_rfl) (by kernel_rfl) rfl (pr_sslice_hi (j := pos ((parseP s).1) 47) rfl rfl Tryz.underlying9 (by omega)) (fun _ h => Mem.drop1 (h)) rfl ?_
          refine jh_take (listed' := #[true, true, true, false, true, false, false, false, false, false, false, false, false]) 4 rfl (by kernel_rfl) (by kernel_rfl) (by kernel_rfl) rfl (pr_move rfl) (fun _ h => Mem.drop1 (h)) rfl ?_
          refine jh_take (listed' := #[true, true, true, false, true, true, false, false, false, false, false, false, false]) 5 rfl (by kernel_rfl) (by kernel_rfl) (by kernel_rfl) rfl (pr_move rfl) (fun _ h => Mem.drop1 (h)) rfl ?_
          refine jh_take (listed' := #[true, true, true, false, true, true, true, false, false, false, false, false, false]) 6 rfl (by kernel_rfl) (by kernel_rfl) (by kernel_rfl) rfl (pr_addN (m := pos ((parseP s).1) 47) (n := 1) rfl rfl (by omega)) (fun _ h => Mem.drop1 (h)) rfl ?_
          refine jh_take (listed' := #[true, true, true, false, true, true, true, true, false, false, false, false, false]) 7 rfl (by kernel_rfl) (by kernel_rfl) (by kernel_rfl) rfl (pr_sslice_lo (i := (pos ((parseP s).1) 47) + 1) rfl rfl Tryz.underlying9 (by omega)) (fun _ h => Mem.drop1 (h)) rfl ?_
          refine jh_take (listed' := #[true, true, true, false, true, true, true, true, false, true, false, false, false]) 9 rfl (by kernel_rfl) (by kernel_rfl) (by kernel_rfl) rfl (pr_move rfl) (fun _ h => Mem.drop1 (h)) rfl ?_
          refine jh_all [3] (by kernel_rfl) (by simp) (fun i hi => ?_)
          simp only [List.mem_cons, List.not_mem_nil, or_false] at hi
          subst hi
          · refine jh_op rfl ?_
            refine jo_callp cal_31 (c_ref01_Lower (((parseP s).1).take (pos ((parseP s).1) 47)) (by first | omega | rfl | (have := parseP_len1 s; simp only [List.length_take, List.length_drop]; omega) | (have := parseP_len1 s; omega))) ⟨rfl, trivial⟩ rfl (trivial) (fun _ => ?_)
            refine jh_in (listed' := #[true, true, true, true, true, true, true, true, false, true, false, false, false]) (fun _ h => Mem.drop1 (h)) rfl ?_
            refine jh_all [8] (by kernel_rfl) (by simp) (fun i hi => ?_)
            simp only [List.mem_cons, List.not_mem_nil, or_false] at hi
            subst hi
            · refine jh_op rfl ?_
              refine jo_callp cal_31 (c_ref01_Lower (((parseP s).1).drop ((pos ((parseP s).1) 47) + 1)) (by first | omega | rfl | (have := parseP_len1 s; simp only [List.length_take, List.length_drop]; omega) | (have := parseP_len1 s; omega))) ⟨rfl, trivial⟩ rfl (trivial) (fun _ => ?_)
              refine jh_in (listed' := #[true, true, true, true, true, true, true, true, true, true, false, false, false]) (fun _ h => Mem.drop1 (h)) rfl ?_
              refine jh_take (listed' := #[true, true, true, true, true, true, true, true, true, true, true, false, false]) 10 rfl (by kernel_rfl) (by kernel_rfl) (by kernel_rfl) rfl (pr_buildV [(0, str (lower (((parseP s).1).take (pos ((parseP s).1) 47)))), (1, str (lower (((parseP s).1).drop ((pos ((parseP s).1) 47) + 1)))), (2, r1)] [str (lower (((parseP s).1).take (pos ((parseP s).1) 47))), str (lower (((parseP s).1).drop ((pos ((parseP s).1) 47) + 1))), r1] (fun a hf => by simp only [List.map_toArray, List.map_cons, List.map_nil, hf.ev (show ev _ (.tmp 53) = some (str (lower (((parseP s).1).take (pos ((parseP s).1) 47)))) from rfl), hf.ev (show ev _ (.tmp 58) = some (str (lower (((parseP s).1).drop ((pos ((parseP s).1) 47) + 1)))) from rfl), hf.ev (show ev _ (.tmp 59) = some (r1) from rfl)]) (fun w I m hs => by obtain ⟨_, _, _, e0⟩ := row_slice (.head _) hs; rw [e0]; kernel_rfl)) (fun _ h => Mem.drop1 (h)) rfl ?_
              refine jh_all [11] (by kernel_rfl) (by simp) (fun i hi => ?_)
              simp only [List.mem_cons, List.not_mem_nil, or_false] at hi
              subst hi
              · refine jh_op rfl ?_
                refine jo_storeV rfl rfl ty_79 [str (lower (((parseP s).1).take (pos ((parseP s).1) 47))), str (lower (((parseP s).1).drop ((pos ((parseP s).1) 47) + 1))), r1] (fun _ _ _ _ => rfl) rfl (fun w I m hs => by simp only [List.all_cons, List.all_nil, Bool.and_true, Bool.and_eq_true]; exact ⟨rfl, rfl, (SliceV.one (row_slice (.tail _ (.head _)) hs))⟩) [str (lower (((parseP s).1).take (pos ((parseP s).1) 47))), str (lower (((parseP s).1).drop ((pos ((parseP s).1) 47) + 1))), r1] rfl rfl ?_
                refine jh_in (listed' := #[true, true, true, true, true, true, true, true, true, true, true, true, false]) (fun _ h => Mem.drop1 (h)) rfl ?_
                refine jh_take (listed' := #[true, true, true, true, true, true, true, true, true, true, true, true, true]) 12 rfl (by kernel_rfl) (by kernel_rfl) (by kernel_rfl) rfl (pr_assign rfl) (fun _ h => Mem.drop1 (h)) rfl ?_
                show J _ _ _ _
                refine j_pull1 ?_
                refine j_pull1 ?_
                show JH _ _ _ _ _ _ _ _
                exact jh_done () (by kernel_rfl) ⟨rfl, rfl, trivial⟩ (fun _ h => h)
        · skip
          refine jq_then ?_
          refine jc_ret ?_
          refine j_pull1 ?_
          exact jq_rets (rs := [.cell 2 79, .tmp 3]) (vs := [.agg #[str (lower (((parseP s).1).take (pos ((parseP s).1) 47))), str (lower (((parseP s).1).drop ((pos ((parseP s).1) 47) + 1))), r1], .bool (true)]) rfl r1 ⟨resV_box (.agg #[str (lower (((parseP s).1).take (pos ((parseP s).1) 47))), str (lower (((parseP s).1).drop ((pos ((parseP s).1) 47) + 1))), r1]) rfl ty_79 (.tail _ (.head _)) rfl (by decide) rfl, resV_tmp rfl, trivial⟩ rfl (show (.tuple #[.agg #[str ((parseR s).1.1), str ((parseR s).1.2.1), r1], .bool ((parseR s).2)] : Value) = (.tuple #[.agg #[str (lower (((parseP s).1).take (pos ((parseP s).1) 47))), str (lower (((parseP s).1).drop ((pos ((parseP s).1) 47) + 1))), r1], .bool (true)]) from by rw [parseR_yes h1 (by rw [okRange_eq, h2b]; rfl)]) (fun w h => (fun h => by rw [parseR_yes h1 (by rw [okRange_eq, h2b]; rfl)]; exact h) (Mem.front (As := [.row (r1) 82 (.pair .str .str) ((parseP s).2.1)]) h))
    · skip
      rw [show (idxF ((parseP s).1) 47 0 : Int) = -1 from by rw [idxF_zero, idx_none hc]]
      refine jc_region ?_
      refine jo_pure rfl (pr_move rfl) ?_
      refine jo_pure rfl (pr_lss (n := 0) rfl rfl) ?_
      refine jo_pure rfl (pr_move rfl) ?_
      refine jo_skipu (j := 2) (want := false) rfl rfl (by decide) rfl ?_
      refine jo_skipu (j := 2) (want := false) rfl rfl (by decide) rfl ?_
      refine jo_skipu (j := 2) (want := false) rfl rfl (by decide) rfl ?_
      refine jo_skipu (j := 2) (want := false) rfl rfl (by decide) rfl ?_
      refine jo_skipu (j := 2) (want := false) rfl rfl (by decide) rfl ?_
      refine jo_pure rfl (pr_pick_t rfl (by decide) rfl) ?_
      refine jo_pure rfl (pr_move rfl) ?_
      refine jo_skipu (j := 9) (want := false) rfl rfl (rfl) rfl ?_
      refine jo_skipu (j := 9) (want := false) rfl rfl (rfl) rfl ?_
      refine jo_skipu (j := 9) (want := false) rfl rfl (rfl) rfl ?_
      refine jo_skipu (j := 9) (want := false) rfl rfl (rfl) rfl ?_
      refine jo_skipu (j := 9) (want := false) rfl rfl (rfl) rfl ?_
      refine jo_skipu (j := 9) (want := false) rfl rfl (rfl) rfl ?_
      refine jo_pure rfl (pr_pick_t rfl (rfl) rfl) ?_
      refine jo_pure rfl (pr_move rfl) ?_
      refine jo_skipu (j := 17) (want := false) rfl rfl (rfl) rfl ?_
      refine jo_skipu (j := 17) (want := false) rfl rfl (rfl) rfl ?_
      refine jo_skipu (j := 17) (want := false) rfl rfl (rfl) rfl ?_
      refine jo_skipu (j := 17) (want := false) rfl rfl (rfl) rfl ?_
      refine jo_skipu (j := 17) (want := false) rfl rfl (rfl) rfl ?_
      refine jo_skipn (j := 22) rfl rfl rfl ?_
      refine jo_skipn (j := 22) rfl rfl rfl ?_
      refine jo_skipn (j := 22) rfl rfl rfl ?_
      refine jo_skipn (j := 22) rfl rfl rfl ?_
      refine jo_skipn (j := 22) rfl rfl rfl ?_
      refine jo_skipu (j := 17) (want := false) rfl rfl (rfl) rfl ?_
      refine jo_pure rfl (pr_pick_t rfl (rfl) rfl) ?_
      refine jo_nil ?_
      refine jq_then ?_
      refine jc_true rfl (rfl) ?_
      refine jc_seq ?_
      refine jc_region ?_
      refine jo_pure rfl (pr_build [] [str ([]), str ([]), .slice none 0 0] (fun a hf => by simp) (by kernel_rfl)) ?_
      refine j_pull1 ?_
      refine jo_store rfl rfl ty_79 [str ([]), str ([]), .slice none 0 0] rfl rfl rfl [str ([]), str ([]), .slice none 0 0] rfl rfl ?_
      refine jo_pure rfl (pr_assign rfl) ?_
      refine jo_nil ?_
      refine jq_then ?_
      refine jc_ret ?_
      refine jq_then_ret ?_
      refine j_nil_row 82 (.pair .str .str) ?_
      refine j_pull2 ?_
      refine j_drop ?_
      refine j_pull1 ?_
      refine j_pull1 ?_
      exact jq_rets (rs := [.cell 2 79, .tmp 3]) (vs := [.agg #[str ([]), str ([]), .slice none 0 0], .bool (false)]) rfl (.slice none 0 0) ⟨resV_box (.agg #[str ([]), str ([]), .slice none 0 0]) rfl ty_79 (.tail _ (.head _)) rfl (by decide) rfl, resV_tmp rfl, trivial⟩ rfl (show (.tuple #[.agg #[str ((parseR s).1.1), str ((parseR s).1.2.1), (.slice none 0 0)], .bool ((parseR s).2)] : Value) = (.tuple #[.agg #[str ([]), str ([]), .slice none 0 0], .bool (false)]) from by rw [parseR_no (.inr (okRange_none hc))]) (fun w h => (fun h => by rw [parseR_no (.inr (okRange_none hc))]; exact h) (Mem.front (As := [.row (.slice none 0 0) 82 (.pair .str .str) ([])]) h))

theorem c_mediatype_Parse (s : List UInt8) (hs : s.length ≤ 1000000) : Con Tryz.prog 163 #[str (s)] [] (fun r1 : Value => .tuple #[.agg #[str ((parseT s).1.1), str ((parseT s).1.2.1), r1], .bool ((parseT s).2)]) (fun r1 => [.row r1 82 (.pair .str .str) ((parseT s).1.2.2)]) := by
  refine con_of_J (args := [str (s)]) (n := 25) Tryz.func163 rfl (Nat.le_of_ble_eq_true rfl) rfl (fun w0 I0 m0 => ?_)
  show J _ [(0, str (s))] [] _
  refine jc_seq ?_
  refine jc_region ?_
  refine jo_alloc ty_79 [str ([]), str ([]), .slice none 0 0] rfl rfl (fun b1 => ?_)
  refine jo_pure rfl (pr_assign rfl) ?_
  refine jo_nil ?_
  refine jq_then ?_
  refine jc_seq ?_
  refine jc_region ?_
  refine jo_pure rfl (pr_move rfl) ?_
  refine jo_callp cal_166 (c_mediatype_ParseRange s (by first | omega | rfl | (have := parseP_len1 s; omega) | (have := parseP_len1 s; simp only [List.length_take, List.length_drop]; omega))) ⟨rfl, trivial⟩ rfl (trivial) (fun r1 => ?_)
  show J _ _ [.row (r1) 82 (.pair .str .str) ((parseR s).1.2.2), .box b1 79 [str ([]), str ([]), .slice none 0 0]] _
  refine jo_pure rfl (pr_move rfl) ?_
  refine jo_pure rfl (pr_extract rfl rfl) ?_
  refine jo_pure rfl (pr_extract rfl rfl) ?_
  refine jo_alloc ty_79 [str ([]), str ([]), .slice none 0 0] rfl rfl (fun b2 => ?_)
  refine jo_storeV rfl rfl ty_79 [str ((parseR s).1.1), str ((parseR s).1.2.1), r1] (fun _ _ _ _ => rfl) rfl (fun w I m hs => by simp only [List.all_cons, List.all_nil, Bool.and_true, Bool.and_eq_true]; exact ⟨rfl, rfl, (SliceV.one (row_slice (.tail _ (.head _)) hs))⟩) [str ((parseR s).1.1), str ((parseR s).1.2.1), r1] rfl rfl ?_
  refine jo_pure rfl (pr_assign rfl) ?_
  refine jo_nil ?_
  refine jq_then ?_
  refine jc_seq ?_
  refine jc_seq ?_
  refine jc_region ?_
  refine jo_pure rfl (pr_move rfl) ?_
  refine jo_pure rfl (pr_not rfl) ?_
  refine jo_pure rfl (pr_move rfl) ?_
  refine jo_gpure (j := 2) (want := false) rfl rfl rfl rfl (fun hg => pr_fieldAddr 0 rfl Tryz.underlying79 rfl ty_9 rfl rfl) ?_
  refine jo_gpure (j := 2) (want := false) rfl rfl rfl rfl (fun hg => pr_load_box (str ((parseR s).1.1)) (evg rfl hg) ty_9 (.head _) rfl (by decide) rfl) ?_
  refine jo_gpure (j := 2) (want := false) rfl rfl rfl rfl (fun hg => pr_seql (evg rfl hg) rfl) ?_
  refine jo_pure rfl (pr_pick_or rfl rfl rfl) ?_
  refine jo_pure rfl (pr_move rfl) ?_
  refine jo_gpure (j := 7) (want := false) rfl rfl rfl rfl (fun hg => pr_fieldAddr 1 rfl Tryz.underlying79 rfl ty_9 rfl rfl) ?_
  refine jo_gpure (j := 7) (want := false) rfl rfl rfl rfl (fun hg => pr_load_box (str ((parseR s).1.2.1)) (evg rfl hg) ty_9 (.head _) rfl (by decide) rfl) ?_
  refine jo_gpure (j := 7) (want := false) rfl rfl rfl rfl (fun hg => pr_seql (evg rfl hg) rfl) ?_
  refine jo_pure rfl (pr_pick_or rfl rfl rfl) ?_
  refine jo_nil ?_
  refine jq_then ?_
  refine jc_cond rfl (fun h1b => ?_) (fun h1b => ?_)
  · have h1 := (fun q => Or.imp (fun q => Or.imp (fun q => id (bt_not q)) of_decide_eq_true (bt_or q)) of_decide_eq_true (bt_or q)) h1b
    refine jc_seq ?_
    refine jc_region ?_
    refine jo_pure rfl (pr_build [] [str ([]), str ([]), .slice none 0 0] (fun a hf => by simp) (by kernel_rfl)) ?_
    refine j_pull2 ?_
    refine jo_store rfl rfl ty_79 [str ([]), str ([]), .slice none 0 0] rfl rfl rfl [str ([]), str ([]), .slice none 0 0] rfl rfl ?_
    refine jo_pure rfl (pr_assign rfl) ?_
    refine jo_nil ?_
    refine jq_then ?_
    refine jc_ret ?_
    refine jq_then_ret ?_
    refine j_nil_row 82 (.pair .str .str) ?_
    refine j_pull2 ?_
    refine j_drop ?_
    refine j_pull2 ?_
    refine j_drop ?_
    refine j_pull1 ?_
    refine j_pull1 ?_
    exact jq_rets (rs := [.cell 2 79, .tmp 3]) (vs := [.agg #[str ([]), str ([]), .slice none 0 0], .bool (false)]) rfl (.slice none 0 0) ⟨resV_box (.agg #[str ([]), str ([]), .slice none 0 0]) rfl ty_79 (.tail _ (.head _)) rfl (by decide) rfl, resV_tmp rfl, trivial⟩ rfl (show (.tuple #[.agg #[str ((parseT s).1.1), str ((parseT s).1.2.1), (.slice none 0 0)], .bool ((parseT s).2)] : Value) = (.tuple #[.agg #[str ([]), str ([]), .slice none 0 0], .bool (false)]) from by rw [parseT_no (s := s) h1b]) (fun w h => (fun h => by rw [parseT_no (s := s) h1b]; exact h) (Mem.front (As := [.row (.slice none 0 0) 82 (.pair .str .str) ([])]) h))
  · have h1 := (fun q => And.imp (fun q => And.imp (fun q => id (bf_not q)) of_decide_eq_false (bf_or q)) of_decide_eq_false (bf_or q)) h1b
    refine jc_skip ?_
    refine jq_then ?_
    refine jc_seq ?_
    refine jc_region ?_
    refine jo_pure rfl (pr_load_box (.agg #[str ((parseR s).1.1), str ((parseR s).1.2.1), r1]) rfl ty_79 (.head _) rfl (by decide) rfl) ?_
    refine j_pull2 ?_
    refine jo_storeV rfl rfl ty_79 [str ((parseR s).1.1), str ((parseR s).1.2.1), r1] (fun _ _ _ _ => rfl) rfl (fun w I m hs => by simp only [List.all_cons, List.all_nil, Bool.and_true, Bool.and_eq_true]; exact ⟨rfl, rfl, (SliceV.one (row_slice (.tail _ (.tail _ (.head _))) hs))⟩) [str ((parseR s).1.1), str ((parseR s).1.2.1), r1] rfl rfl ?_
    refine jo_pure rfl (pr_assign rfl) ?_
    refine jo_nil ?_
    refine jq_then ?_
    refine jc_ret ?_
    refine j_pull1 ?_
    refine j_drop ?_
    refine j_pull1 ?_
    exact jq_rets (rs := [.cell 2 79, .tmp 3]) (vs := [.agg #[str ((parseR s).1.1), str ((parseR s).1.2.1), r1], .bool (true)]) rfl r1 ⟨resV_box (.agg #[str ((parseR s).1.1), str ((parseR s).1.2.1), r1]) rfl ty_79 (.tail _ (.head _)) rfl (by decide) rfl, resV_tmp rfl, trivial⟩ rfl (show (.tuple #[.agg #[str ((parseT s).1.1), str ((parseT s).1.2.1), r1], .bool ((parseT s).2)] : Value) = (.tuple #[.agg #[str ((parseR s).1.1), str ((parseR s).1.2.1), r1], .bool (true)]) from by rw [(parseT_yes (s := s) h1b).1, (parseT_yes (s := s) h1b).2]) (fun w h => (fun h => by rw [(parseT_yes (s := s) h1b).1]; exact h) (Mem.front (As := [.row (r1) 82 (.pair .str .str) ((parseR s).1.2.2)]) h))

theorem c_ref10_ParseType (s : List UInt8) (hs : s.length ≤ 1000000) : Con Tryz.prog 66 #[str (s)] [] (fun r1 : Value => .tuple #[.agg #[str ((parseT s).1.1), str ((parseT s).1.2.1), r1], .bool ((parseT s).2)]) (fun r1 => [.row r1 82 (.pair .str .str) ((parseT s).1.2.2)]) := by
  refine con_of_J (args := [str (s)]) (n := 25) Tryz.func66 rfl (Nat.le_of_ble_eq_true rfl) rfl (fun w0 I0 m0 => ?_)
  show J _ [(0, str (s))] [] _
  refine jc_seq ?_
  refine jc_region ?_
  refine jo_alloc ty_79 [str ([]), str ([]), .slice none 0 0] rfl rfl (fun b1 => ?_)
  refine jo_pure rfl (pr_assign rfl) ?_
  refine jo_nil ?_
  refine jq_then ?_
  refine jc_seq ?_
  refine jc_region ?_
  refine jo_pure rfl (pr_move rfl) ?_
  refine jo_callp cal_101 (c_ref10_ParseRange s (by first | omega | rfl | (have := parseP_len1 s; omega) | (have := parseP_len1 s; simp only [List.length_take, List.length_drop]; omega))) ⟨rfl, trivial⟩ rfl (trivial) (fun r1 => ?_)
  show J _ _ [.row (r1) 82 (.pair .str .str) ((parseR s).1.2.2), .box b1 79 [str ([]), str ([]), .slice none 0 0]] _
  refine jo_pure rfl (pr_move rfl) ?_
  refine jo_pure rfl (pr_extract rfl rfl) ?_
  refine jo_pure rfl (pr_extract rfl rfl) ?_
  refine jo_alloc ty_79 [str ([]), str ([]), .slice none 0 0] rfl rfl (fun b2 => ?_)
  refine jo_storeV rfl rfl ty_79 [str ((parseR s).1.1), str ((parseR s).1.2.1), r1] (fun _ _ _ _ => rfl) rfl (fun w I m hs => by simp only [List.all_cons, List.all_nil, Bool.and_true, Bool.and_eq_true]; exact ⟨rfl, rfl, (SliceV.one (row_slice (.tail _ (.head _)) hs))⟩) [str ((parseR s).1.1), str ((parseR s).1.2.1), r1] rfl rfl ?_
  refine jo_pure rfl (pr_assign rfl) ?_
  refine jo_nil ?_
  refine jq_then ?_
  refine jc_seq ?_
  refine jc_seq ?_
  refine jc_region ?_
  refine jo_pure rfl (pr_move rfl) ?_
  refine jo_pure rfl (pr_not rfl) ?_
  refine jo_pure rfl (pr_move rfl) ?_
  refine jo_gpure (j := 2) (want := false) rfl rfl rfl rfl (fun hg => pr_fieldAddr 0 rfl Tryz.underlying79 rfl ty_9 rfl rfl) ?_
  refine jo_gpure (j := 2) (want := false) rfl rfl rfl rfl (fun hg => pr_load_box (str ((parseR s).1.1)) (evg rfl hg) ty_9 (.head _) rfl (by decide) rfl) ?_
  refine jo_gpure (j := 2) (want := false) rfl rfl rfl rfl (fun hg => pr_seql (evg rfl hg) rfl) ?_
  refine jo_pure rfl (pr_pick_or rfl rfl rfl) ?_
  refine jo_pure rfl (pr_move rfl) ?_
  refine jo_gpure (j := 7) (want := false) rfl rfl rfl rfl (fun hg => pr_fieldAddr 1 rfl Tryz.underlying79 rfl ty_9 rfl rfl) ?_
  refine jo_gpure (j := 7) (want := false) rfl rfl rfl rfl (fun hg => pr_load_box (str ((parseR s).1.2.1)) (evg rfl hg) ty_9 (.head _) rfl (by decide) rfl) ?_
  refine jo_gpure (j := 7) (want := false) rfl rfl rfl rfl (fun hg => pr_seql (evg rfl hg) rfl) ?_
  refine jo_pure rfl (pr_pick_or rfl rfl rfl) ?_
  refine jo_nil ?_
  refine jq_then ?_
  refine jc_cond rfl (fun h1b => ?_) (fun h1b => ?_)
  · have h1 := (fun q => Or.imp (fun q => Or.imp (fun q => id (bt_not q)) of_decide_eq_true (bt_or q)) of_decide_eq_true (bt_or q)) h1b
    refine jc_seq ?_
    refine jc_region ?_
    refine jo_pure rfl (pr_build [] [str ([]), str ([]), .slice none 0 0] (fun a hf => by simp) (by kernel_rfl)) ?_
    refine j_pull2 ?_
    refine jo_store rfl rfl ty_79 [str ([]), str ([]), .slice none 0 0] rfl rfl rfl [str ([]), str ([]), .slice none 0 0] rfl rfl ?_
    refine jo_pure rfl (pr_assign rfl) ?_
    refine jo_nil ?_
    refine jq_then ?_
    refine jc_ret ?_
    refine jq_then_ret ?_
    refine j_nil_row 82 (.pair .str .str) ?_
    refine j_pull2 ?_
    refine j_drop ?_
    refine j_pull2 ?_
    refine j_drop ?_
    refine j_pull1 ?_
    refine j_pull1 ?_
    exact jq_rets (rs := [.cell 2 79, .tmp 3]) (vs := [.agg #[str ([]), str ([]), .slice none 0 0], .bool (false)]) rfl (.slice none 0 0) ⟨resV_box (.agg #[str ([]), str ([]), .slice none 0 0]) rfl ty_79 (.tail _ (.head _)) rfl (by decide) rfl, resV_tmp rfl, trivial⟩ rfl (show (.tuple #[.agg #[str ((parseT s).1.1), str ((parseT s).1.2.1), (.slice none 0 0)], .bool ((parseT s).2)] : Value) = (.tuple #[.agg #[str ([]), str ([]), .slice none 0 0], .bool (false)]) from by rw [parseT_no (s := s) h1b]) (fun w h => (fun h => by rw [parseT_no (s := s) h1b]; exact h) (Mem.front (As := [.row (.slice none 0 0) 82 (.pair .str .str) ([])]) h))
  · have h1 := (fun q => And.imp (fun q => And.imp (fun q => id (bf_not q)) of_decide_eq_false (bf_or q)) of_decide_eq_false (bf_or q)) h1b
    refine jc_skip ?_
    refine jq_then ?_
    refine jc_seq ?_
    refine jc_region ?_
    refine jo_pure rfl (pr_load_box (.agg #[str ((parseR s).1.1), str ((parseR s).1.2.1), r1]) rfl ty_79 (.head _) rfl (by decide) rfl) ?_
    refine j_pull2 ?_
    refine jo_storeV rfl rfl ty_79 [str ((parseR s).1.1), str ((parseR s).1.2.1), r1] (fun _ _ _ _ => rfl) rfl (fun w I m hs => by simp only [List.all_cons, List.all_nil, Bool.and_true, Bool.and_eq_true]; exact ⟨rfl, rfl, (SliceV.one (row_slice (.tail _ (.tail _ (.head _))) hs))⟩) [str ((parseR s).1.1), str ((parseR s).1.2.1), r1] rfl rfl ?_
    refine jo_pure rfl (pr_assign rfl) ?_
    refine jo_nil ?_
    refine jq_then ?_
    refine jc_ret ?_
    refine j_pull1 ?_
    refine j_drop ?_
    refine j_pull1 ?_
    exact jq_rets (rs := [.cell 2 79, .tmp 3]) (vs := [.agg #[str ((parseR s).1.1), str ((parseR s).1.2.1), r1], .bool (true)]) rfl r1 ⟨resV_box (.agg #[str ((parseR s).1.1), str ((parseR s).1.2.1), r1]) rfl ty_79 (.tail _ (.head _)) rfl (by decide) rfl, resV_tmp rfl, trivial⟩ rfl (show (.tuple #[.agg #[str ((parseT s).1.1), str ((parseT s).1.2.1), r1], .bool ((parseT s).2)] : Value) = (.tuple #[.agg #[str ((parseR s).1.1), str ((parseR s).1.2.1), r1], .bool (true)]) from by rw [(parseT_yes (s := s) h1b).1, (parseT_yes (s := s) h1b).2]) (fun w h => (fun h => by rw [(parseT_yes (s := s) h1b).1]; exact h) (Mem.front (As := [.row (r1) 82 (.pair .str .str) ((parseR s).1.2.2)]) h))

theorem c_coding_Canonical (kind : Int) (s : List UInt8) (hs : s.length ≤ 1000000) : Con Tryz.prog 182 #[.int .i64 (kind), str (s)] [] (fun _ : Unit => str (canonical kind s)) (fun _ => []) := by
  refine con_of_J (args := [.int .i64 (kind), str (s)]) (n := 18) Tryz.func182 rfl (Nat.le_of_ble_eq_true rfl) rfl (fun w0 I0 m0 => ?_)
  show J _ [(0, .int .i64 (kind)), (1, str (s))] [] _
  refine jc_seq ?_
  refine jc_region ?_
  refine jo_pure rfl (pr_assign rfl) ?_
  refine jo_nil ?_
  refine jq_then ?_
  refine jc_seq ?_
  refine jc_region ?_
  refine jo_pure rfl (pr_move rfl) ?_
  refine jo_callp cal_51 (c_ascii_Lower s (by omega)) ⟨rfl, trivial⟩ rfl (trivial) (fun _ => ?_)
  refine jo_pure rfl (pr_assign rfl) ?_
  refine jo_nil ?_
  refine jq_then ?_
  refine jc_seq ?_
  refine jc_seq ?_
  refine jc_region ?_
  refine jo_pure rfl (pr_move rfl) ?_
  refine jo_pure rfl (pr_neq (n := 4) rfl rfl) ?_
  refine jo_nil ?_
  refine jq_then ?_
  refine jc_cond rfl (fun h1b => ?_) (fun h1b => ?_)
  · have h1 := (fun q => of_decide_eq_false (bt_not q)) h1b
    refine jc_seq ?_
    refine jc_region ?_
    refine jo_pure rfl (pr_move rfl) ?_
    refine jo_pure rfl (pr_assign rfl) ?_
    refine jo_nil ?_
    refine jq_then ?_
    refine jc_ret ?_
    refine jq_then_ret ?_
    exact jq_ret1 rfl () rfl (show (str (canonical kind s) : Value) = (str (lower s)) from by simp [canonical, sGzip, sXgzip, sCompress, sXcompress, *]) (fun _ h => h)
  · have h1 := (fun q => of_decide_eq_true (bf_not q)) h1b
    refine jc_skip ?_
    refine jq_then ?_
    refine jc_seq ?_
    refine jc_seq ?_
    refine jc_region ?_
    refine jo_pure rfl (pr_move rfl) ?_
    refine jo_nil ?_
    refine jq_then ?_
    refine jc_block ?_
    refine jc_seq ?_
    refine jc_seq ?_
    refine jc_region ?_
    refine jo_pure rfl (pr_seql rfl rfl) ?_
    refine jo_pure rfl (pr_assign rfl) ?_
    refine jo_nil ?_
    refine jq_then ?_
    refine jc_cond rfl (fun h2b => ?_) (fun h2b => ?_)
    · have h2 := of_decide_eq_true h2b
      refine jc_skip ?_
      refine jq_then ?_
      refine jc_true rfl (h2b) ?_
      refine jc_seq ?_
      refine jc_region ?_
      refine jo_pure rfl (pr_assign rfl) ?_
      refine jo_nil ?_
      refine jq_then ?_
      refine jc_ret ?_
      refine jq_in_ret ?_
      refine jq_then_ret ?_
      exact jq_ret1 rfl () rfl (show (str (canonical kind s) : Value) = (str ([103, 122, 105, 112])) from by simp [canonical, sGzip, sXgzip, sCompress, sXcompress, *]) (fun _ h => h)
    · have h2 := of_decide_eq_false h2b
      refine jc_region ?_
      refine jo_pure rfl (pr_seql rfl rfl) ?_
      refine jo_pure rfl (pr_assign rfl) ?_
      refine jo_nil ?_
      refine jq_then ?_
      refine jc_cond rfl (fun h3b => ?_) (fun h3b => ?_)
      · have h3 := of_decide_eq_true h3b
        refine jc_seq ?_
        refine jc_region ?_
        refine jo_pure rfl (pr_assign rfl) ?_
        refine jo_nil ?_
        refine jq_then ?_
        refine jc_ret ?_
        refine jq_in_ret ?_
        refine jq_then_ret ?_
        exact jq_ret1 rfl () rfl (show (str (canonical kind s) : Value) = (str ([103, 122, 105, 112])) from by simp [canonical, sGzip, sXgzip, sCompress, sXcompress, *]) (fun _ h => h)
      · have h3 := of_decide_eq_false h3b
        refine jc_seq ?_
        refine jc_seq ?_
        refine jc_region ?_
        refine jo_pure rfl (pr_seql rfl rfl) ?_
        refine jo_pure rfl (pr_assign rfl) ?_
        refine jo_nil ?_
        refine jq_then ?_
        refine jc_cond rfl (fun h4b => ?_) (fun h4b => ?_)
        · have h4 := of_decide_eq_true h4b
          refine jc_skip ?_
          refine jq_then ?_
          refine jc_true rfl (h4b) ?_
          refine jc_seq ?_
          refine jc_region ?_
          refine jo_pure rfl (pr_assign rfl) ?_
          refine jo_nil ?_
          refine jq_then ?_
          refine jc_ret ?_
          refine jq_in_ret ?_
          refine jq_then_ret ?_
          exact jq_ret1 rfl () rfl (show (str (canonical kind s) : Value) = (str ([99, 111, 109, 112, 114, 101, 115, 115])) from by simp [canonical, sGzip, sXgzip, sCompress, sXcompress, *]) (fun _ h => h)
        · have h4 := of_decide_eq_false h4b
          refine jc_region ?_
          refine jo_pure rfl (pr_seql rfl rfl) ?_
          refine jo_pure rfl (pr_assign rfl) ?_
          refine jo_nil ?_
          refine jq_then ?_
          refine jc_cond rfl (fun h5b => ?_) (fun h5b => ?_)
          · have h5 := of_decide_eq_true h5b
            refine jc_seq ?_
            refine jc_region ?_
            refine jo_pure rfl (pr_assign rfl) ?_
            refine jo_nil ?_
            refine jq_then ?_
            refine jc_ret ?_
            refine jq_in_ret ?_
            refine jq_then_ret ?_
            exact jq_ret1 rfl () rfl (show (str (canonical kind s) : Value) = (str ([99, 111, 109, 112, 114, 101, 115, 115])) from by simp [canonical, sGzip, sXgzip, sCompress, sXcompress, *]) (fun _ h => h)
          · have h5 := of_decide_eq_false h5b
            refine jc_skip ?_
            refine jq_in_normal ?_
            refine jq_then ?_
            refine jc_seq ?_
            refine jc_region ?_
            refine jo_pure rfl (pr_move rfl) ?_
            refine jo_pure rfl (pr_assign rfl) ?_
            refine jo_nil ?_
            refine jq_then ?_
            refine jc_ret ?_
            exact jq_ret1 rfl () rfl (show (str (canonical kind s) : Value) = (str (lower s)) from by simp [canonical, sGzip, sXgzip, sCompress, sXcompress, *]) (fun _ h => h)

theorem c_ref10_Canonical (kind : Int) (s : List UInt8) (hs : s.length ≤ 1000000) : Con Tryz.prog 71 #[.int .i64 (kind), str (s)] [] (fun _ : Unit => str (canonical kind s)) (fun _ => []) := by
  refine con_of_J (args := [.int .i64 (kind), str (s)]) (n := 20) Tryz.func71 rfl (Nat.le_of_ble_eq_true rfl) rfl (fun w0 I0 m0 => ?_)
  show J _ [(0, .int .i64 (kind)), (1, str (s))] [] _
  refine jc_seq ?_
  refine jc_region ?_
  refine jo_pure rfl (pr_assign rfl) ?_
  refine jo_nil ?_
  refine jq_then ?_
  refine jc_seq ?_
  refine jc_region ?_
  refine jo_pure rfl (pr_move rfl) ?_
  refine jo_callp cal_31 (c_ref01_Lower s (by omega)) ⟨rfl, trivial⟩ rfl (trivial) (fun _ => ?_)
  refine jo_pure rfl (pr_assign rfl) ?_
  refine jo_nil ?_
  refine jq_then ?_
  refine jc_seq ?_
  refine jc_seq ?_
  refine jc_region ?_
  refine jo_pure rfl (pr_move rfl) ?_
  refine jo_pure rfl (pr_eql (n := 4) rfl rfl) ?_
  refine jo_pure rfl (pr_move rfl) ?_
  refine jo_gpure (j := 2) (want := true) rfl rfl rfl rfl (fun hg => pr_move rfl) ?_
  refine jo_gpure (j := 2) (want := true) rfl rfl rfl rfl (fun hg => pr_seql (evg rfl hg) rfl) ?_
  refine jo_pure rfl (pr_pick_and rfl rfl rfl) ?_
  refine jo_nil ?_
  refine jq_then ?_
  refine jc_cond rfl (fun h1b => ?_) (fun h1b => ?_)
  · have h1 := (fun q => And.imp of_decide_eq_true of_decide_eq_true (bt_and q)) h1b
    refine jc_seq ?_
    refine jc_region ?_
    refine jo_pure rfl (pr_assign rfl) ?_
    refine jo_nil ?_
    refine jq_then ?_
    refine jc_ret ?_
    refine jq_then_ret ?_
    exact jq_ret1 rfl () rfl (show (str (canonical kind s) : Value) = (str ([103, 122, 105, 112])) from by by_cases hk : kind = 4 <;> simp_all [canonical, sGzip, sXgzip, sCompress, sXcompress]) (fun _ h => h)
  · have h1 := (fun q => Or.imp of_decide_eq_false of_decide_eq_false (bf_and q)) h1b
    refine jc_skip ?_
    refine jq_then ?_
    refine jc_seq ?_
    refine jc_seq ?_
    refine jc_region ?_
    refine jo_pure rfl (pr_move rfl) ?_
    refine jo_pure rfl (pr_eql (n := 4) rfl rfl) ?_
    refine jo_pure rfl (pr_move rfl) ?_
    refine jo_gpure (j := 2) (want := true) rfl rfl rfl rfl (fun hg => pr_move rfl) ?_
    refine jo_gpure (j := 2) (want := true) rfl rfl rfl rfl (fun hg => pr_seql (evg rfl hg) rfl) ?_
    refine jo_pure rfl (pr_pick_and rfl rfl rfl) ?_
    refine jo_nil ?_
    refine jq_then ?_
    refine jc_cond rfl (fun h2b => ?_) (fun h2b => ?_)
    · have h2 := (fun q => And.imp of_decide_eq_true of_decide_eq_true (bt_and q)) h2b
      refine jc_seq ?_
      refine jc_region ?_
      refine jo_pure rfl (pr_assign rfl) ?_
      refine jo_nil ?_
      refine jq_then ?_
      refine jc_ret ?_
      refine jq_then_ret ?_
      exact jq_ret1 rfl () rfl (show (str (canonical kind s) : Value) = (str ([99, 111, 109, 112, 114, 101, 115, 115])) from by by_cases hk : kind = 4 <;> simp_all [canonical, sGzip, sXgzip, sCompress, sXcompress]) (fun _ h => h)
    · have h2 := (fun q => Or.imp of_decide_eq_false of_decide_eq_false (bf_and q)) h2b
      refine jc_skip ?_
      refine jq_then ?_
      refine jc_seq ?_
      refine jc_region ?_
      refine jo_pure rfl (pr_move rfl) ?_
      refine jo_pure rfl (pr_assign rfl) ?_
      refine jo_nil ?_
      refine jq_then ?_
      refine jc_ret ?_
      exact jq_ret1 rfl () rfl (show (str (canonical kind s) : Value) = (str (lower s)) from by by_cases hk : kind = 4 <;> simp_all [canonical, sGzip, sXgzip, sCompress, sXcompress]) (fun _ h => h)

theorem c_list_step (st : Nat) (c : UInt8) (hst : st ≤ 2) : Con Tryz.prog 108 #[.int .i64 ((st : Nat) : Int), byte (c)] [] (fun _ : Unit => .int .i64 ((stepF st c : Nat) : Int)) (fun _ => []) := by
  refine con_of_J (args := [.int .i64 ((st : Nat) : Int), byte (c)]) (n := 21) Tryz.func108 rfl (Nat.le_of_ble_eq_true rfl) rfl (fun w0 I0 m0 => ?_)
  show J _ [(0, .int .i64 ((st : Nat) : Int)), (1, byte (c))] [] _
  refine jc_seq ?_
  refine jc_region ?_
  refine jo_pure rfl (pr_assign rfl) ?_
  refine jo_nil ?_
  refine jq_then ?_
  refine jc_seq ?_
  refine jc_block ?_
  refine jc_seq ?_
  refine jc_region ?_
  refine jo_pure rfl (pr_move rfl) ?_
  refine jo_pure rfl (pr_eqlN (m := st) (n := 2) rfl rfl) ?_
  refine jo_pure rfl (pr_assign rfl) ?_
  refine jo_nil ?_
  refine jq_then ?_
  refine jc_cond rfl (fun h1b => ?_) (fun h1b => ?_)
  · have h1 := of_decide_eq_true h1b
    refine jc_seq ?_
    refine jc_region ?_
    refine jo_pure rfl (pr_assign rfl) ?_
    refine jo_nil ?_
    refine jq_then ?_
    refine jc_ret ?_
    refine jq_in_ret ?_
    refine jq_then_ret ?_
    exact jq_ret1 rfl () rfl (show (.int .i64 ((stepF st c : Nat) : Int) : Value) = (.int .i64 ((1 : Nat) : Int)) from congrArg (fun n : Nat => Value.int .i64 (n : Int)) (by rw [stepF, if_pos h1])) (fun _ h => h)
  · have h1 := of_decide_eq_false h1b
    refine jc_seq ?_
    refine jc_region ?_
    refine jo_pure rfl (pr_move rfl) ?_
    refine jo_pure rfl (pr_eqlN (m := st) (n := 1) rfl rfl) ?_
    refine jo_pure rfl (pr_move rfl) ?_
    refine jo_gpure (j := 2) (want := true) rfl rfl rfl rfl (fun hg => pr_move rfl) ?_
    refine jo_gpure (j := 2) (want := true) rfl rfl rfl rfl (fun hg => pr_beql (n := 92) (evg rfl hg) rfl) ?_
    refine jo_pure rfl (pr_pick_and rfl rfl rfl) ?_
    refine jo_pure rfl (pr_assign rfl) ?_
    refine jo_nil ?_
    refine jq_then ?_
    refine jc_cond rfl (fun h2b => ?_) (fun h2b => ?_)
    · have h2 := (fun q => And.imp of_decide_eq_true of_decide_eq_true (bt_and q)) h2b
      refine jc_seq ?_
      refine jc_region ?_
      refine jo_pure rfl (pr_assign rfl) ?_
      refine jo_nil ?_
      refine jq_then ?_
      refine jc_ret ?_
      refine jq_in_ret ?_
      refine jq_then_ret ?_
      exact jq_ret1 rfl () rfl (show (.int .i64 ((stepF st c : Nat) : Int) : Value) = (.int .i64 ((2 : Nat) : Int)) from congrArg (fun n : Nat => Value.int .i64 (n : Int)) (by rw [stepF, if_neg h1, if_pos h2])) (fun _ h => h)
    · have h2 := (fun q => Or.imp of_decide_eq_false of_decide_eq_false (bf_and q)) h2b
      refine jc_seq ?_
      refine jc_region ?_
      refine jo_pure rfl (pr_move rfl) ?_
      refine jo_pure rfl (pr_beql (n := 34) rfl rfl) ?_
      refine jo_pure rfl (pr_assign rfl) ?_
      refine jo_nil ?_
      refine jq_then ?_
      refine jc_cond rfl (fun h3b => ?_) (fun h3b => ?_)
      · have h3 := of_decide_eq_true h3b
        refine jc_seq ?_
        refine jc_region ?_
        refine jo_pure rfl (pr_move rfl) ?_
        refine jo_pure rfl (pr_subN (m := 1) (n := st) rfl rfl (by omega) (by omega)) ?_
        refine jo_pure rfl (pr_assign rfl) ?_
        refine jo_nil ?_
        refine jq_then ?_
        refine jc_ret ?_
        refine jq_in_ret ?_
        refine jq_then_ret ?_
        exact jq_ret1 rfl () rfl (show (.int .i64 ((stepF st c : Nat) : Int) : Value) = (.int .i64 ((1 - st : Nat) : Int)) from congrArg (fun n : Nat => Value.int .i64 (n : Int)) (by rw [stepF, if_neg h1, if_neg (fun e => h2.elim (fun q => q e.1) (fun q => q e.2)), if_pos h3])) (fun _ h => h)
      · have h3 := of_decide_eq_false h3b
        refine jc_skip ?_
        refine jq_in_normal ?_
        refine jq_then ?_
        refine jc_seq ?_
        refine jc_region ?_
        refine jo_pure rfl (pr_move rfl) ?_
        refine jo_pure rfl (pr_assign rfl) ?_
        refine jo_nil ?_
        refine jq_then ?_
        refine jc_ret ?_
        exact jq_ret1 rfl () rfl (show (.int .i64 ((stepF st c : Nat) : Int) : Value) = (.int .i64 ((st : Nat) : Int)) from congrArg (fun n : Nat => Value.int .i64 (n : Int)) (by rw [stepF, if_neg h1, if_neg (fun e => h2.elim (fun q => q e.1) (fun q => q e.2)), if_neg h3])) (fun _ h => h)

theorem c_list_Split (v : List UInt8) (hs : v.length ≤ 1000000) : Con Tryz.prog 78 #[str (v)] [] (fun r1 : Value => r1) (fun r1 => [.row r1 9 .str (splitF v)]) := by
  refine con_of_J (args := [str (v)]) (n := 52) Tryz.func78 rfl (Nat.le_of_ble_eq_true rfl) rfl (fun w0 I0 m0 => ?_)
  show J _ [(0, str (v))] [] _
  refine jc_seq ?_
  refine jc_region ?_
  refine jo_pure rfl (pr_assign rfl) ?_
  refine jo_nil ?_
  refine jq_then ?_
  refine jc_seq ?_
  refine jc_region ?_
  refine jo_pure rfl (pr_assign rfl) ?_
  refine jo_nil ?_
  refine jq_then ?_
  refine jc_seq ?_
  refine jc_region ?_
  refine jo_pure rfl (pr_assign rfl) ?_
  refine jo_pure rfl (pr_assign rfl) ?_
  refine jo_nil ?_
  refine jq_then ?_
  refine jc_seq ?_
  refine jc_seq ?_
  refine jc_region ?_
  refine jo_pure rfl (pr_assign rfl) ?_
  refine jo_nil ?_
  refine jq_then ?_
  refine jc_block ?_
  refine j_nil_row 9 .str ?_
  refine jc_loop5 (fun (i : Nat) (st : Nat) (fr : Nat) (w : Value) (acc : List (List UInt8)) => [(0, str (v)), (3, w), (4, .int .i64 ((st : Nat) : Int)), (5, .int .i64 ((fr : Nat) : Int)), (6, .int .i64 ((i : Nat) : Int))]) (fun (i : Nat) (st : Nat) (fr : Nat) (w : Value) (acc : List (List UInt8)) => [.row (w) 9 .str (acc)]) (fun (i : Nat) (st : Nat) (fr : Nat) (w : Value) (acc : List (List UInt8)) => i ≤ v.length + 1 ∧ fr ≤ i ∧ st ≤ 2 ∧ acc.length ≤ 64 ∧ acc ++ rest7 v i fr st = memG (cutF v 44)) (fun (i : Nat) (st : Nat) (fr : Nat) (w : Value) (acc : List (List UInt8)) => v.length + 1 - i) 0 0 0 (.slice none 0 0) [] (⟨by omega, Nat.le_refl _, by omega, by simp, rest7_zero⟩) (⟨rfl, rfl, rfl, rfl, rfl, trivial⟩) (fun _ h => h) (fun i st fr w acc hinv => ?_)
  refine jc_seq ?_
  refine jc_seq ?_
  refine jc_region ?_
  refine jo_pure rfl (pr_move rfl) ?_
  refine jo_pure rfl (pr_move rfl) ?_
  refine jo_pure rfl (pr_slen rfl Tryz.underlying9) ?_
  refine jo_pure rfl (pr_leqN (m := i) (n := v.length) rfl rfl) ?_
  refine jo_pure rfl (pr_move rfl) ?_
  refine jo_gpure (j := 4) (want := true) rfl rfl rfl rfl (fun hg => pr_move rfl) ?_
  refine jo_gpure (j := 4) (want := true) rfl rfl rfl rfl (fun hg => pr_len_row (evg rfl hg) (.head _) Tryz.underlying45) ?_
  refine jo_gpure (j := 4) (want := true) rfl rfl rfl rfl (fun hg => pr_lssN (m := acc.length) (n := 64) (evg rfl hg) rfl) ?_
  refine jo_pure rfl (pr_pick_and rfl rfl rfl) ?_
  refine jo_nil ?_
  refine jq_then ?_
  refine jc_cond rfl (fun h1b => ?_) (fun h1b => ?_)
  · have h1 := (fun q => And.imp of_decide_eq_true of_decide_eq_true (bt_and q)) h1b
    refine jc_skip ?_
    refine jq_then ?_
    refine jc_seq ?_
    refine jc_block ?_
    refine jc_seq ?_
    refine jc_seq ?_
    refine jc_region ?_
    refine jo_pure rfl (pr_move rfl) ?_
    refine jo_pure rfl (pr_move rfl) ?_
    refine jo_pure rfl (pr_slen rfl Tryz.underlying9) ?_
    refine jo_pure rfl (pr_lssN (m := i) (n := v.length) rfl rfl) ?_
    refine jo_pure rfl (pr_move rfl) ?_
    refine jo_gpure (j := 4) (want := true) rfl rfl rfl rfl (fun hg => pr_move rfl) ?_
    refine jo_gpure (j := 4) (want := true) rfl rfl rfl rfl (fun hg => pr_neqN (m := st) (n := 0) (evg rfl hg) rfl) ?_
    refine jo_gpure (j := 4) (want := true) rfl rfl rfl rfl (fun hg => pr_move (evg rfl hg)) ?_
    refine jo_gpure2 (j := 7) (want := false) rfl rfl rfl rfl (fun hg => pr_move rfl) ?_
    refine jo_gpure2 (j := 7) (want := false) rfl rfl rfl rfl (fun hg => pr_move rfl) ?_
    refine jo_gpure2 (j := 7) (want := false) rfl rfl rfl rfl (fun hg => pr_sindex (i := i) (evg rfl hg) (evg rfl hg) Tryz.underlying9 (by first | omega | (simp at hg; omega))) ?_
    refine jo_gpure2 (j := 7) (want := false) rfl rfl rfl rfl (fun hg => pr_bneq (n := 44) (evg rfl hg) rfl) ?_
    refine jo_gpure (j := 4) (want := true) rfl rfl rfl rfl (fun hg => pr_pick_or (evg rfl hg) rfl (evg2 rfl hg)) ?_
    refine jo_pure rfl (pr_pick_and rfl rfl rfl) ?_
    refine jo_nil ?_
    refine jq_then ?_
    refine jc_cond rfl (fun h2b => ?_) (fun h2b => ?_)
    · have h2 := (fun q => And.imp of_decide_eq_true (fun q => Or.imp (fun q => of_decide_eq_false (bt_not q)) (fun q => of_decide_eq_false (bt_not q)) (bt_or q)) (bt_and q)) h2b
      refine jc_seq ?_
      refine jc_region ?_
      refine jo_pure rfl (pr_move rfl) ?_
      refine jo_pure rfl (pr_move rfl) ?_
      refine jo_pure rfl (pr_move rfl) ?_
      refine jo_pure rfl (pr_sindex (i := i) rfl rfl Tryz.underlying9 (by first | omega | (simp at hg; omega))) ?_
      refine jo_callp cal_108 (c_list_step st (v.getD i 0) (by first | omega | (simp only [List.length_drop, List.length_take]; omega) | (rw [List.length_drop, List.length_take]; omega))) ⟨rfl, rfl, trivial⟩ rfl (trivial) (fun _ => ?_)
      refine jo_pure rfl (pr_assign rfl) ?_
      refine jo_nil ?_
      refine jq_then ?_
      refine jc_exit ?_
      refine jq_then_exit ?_
      refine jq_in_hit ?_
      refine jq_then ?_
      refine jc_region ?_
      refine jo_pure rfl (pr_move rfl) ?_
      refine jo_pure rfl (pr_addN (m := i) (n := 1) rfl rfl (by omega)) ?_
      refine jo_pure rfl (pr_assign rfl) ?_
      refine jo_nil ?_
      refine jq_round' ((i + 1), (stepF st (v.getD i 0)), fr, w, acc) (by (try dsimp only); exact (⟨by omega, by omega, stepF_le hinv.2.2.1, hinv.2.2.2.1, split_next h2.1 hinv.2.1 hinv.2.2.1 (fun e => h2.2.elim (fun q => q e.1) (fun q => q e.2)) hinv.2.2.2.2⟩)) (by (try dsimp only); exact (by omega)) ⟨rfl, rfl, rfl, rfl, rfl, trivial⟩ (fun _ h => h)
    · have h2 := (fun q => Or.imp of_decide_eq_false (fun q => And.imp (fun q => of_decide_eq_true (bf_not q)) (fun q => of_decide_eq_true (bf_not q)) (bf_or q)) (bf_and q)) h2b
      refine jc_skip ?_
      refine jq_then ?_
      refine jc_seq ?_
      refine jc_seq ?_
      refine jc_region ?_
      refine jo_pure rfl (pr_move rfl) ?_
      refine jo_pure rfl (pr_move rfl) ?_
      refine jo_pure rfl (pr_move rfl) ?_
      refine jo_pure rfl (pr_sslice (i := fr) (j := i) rfl rfl rfl Tryz.underlying9 (by omega) (by omega)) ?_
      refine jo_callp cal_109 (c_ascii_Trim ((v.take i).drop fr) (by first | omega | (simp only [List.length_drop, List.length_take]; omega) | (rw [List.length_drop, List.length_take]; omega))) ⟨rfl, trivial⟩ rfl (trivial) (fun _ => ?_)
      refine jo_pure rfl (pr_assign rfl) ?_
      refine jo_nil ?_
      refine jq_then ?_
      refine jc_seq ?_
      refine jc_region ?_
      refine jo_pure rfl (pr_move rfl) ?_
      refine jo_pure rfl (pr_sneq rfl rfl) ?_
      refine jo_nil ?_
      refine jq_then ?_
      refine jc_cond rfl (fun h3b => ?_) (fun h3b => ?_)
      · have h3 := (fun q => of_decide_eq_false (bt_not q)) h3b
        refine jc_region ?_
        refine jo_pure rfl (pr_move rfl) ?_
        refine jo_pure rfl (pr_move rfl) ?_
        refine jo_buildSlice (t := .str) [trim ((v.take i).drop fr)] [str (trim ((v.take i).drop fr))] (fun a hf => by simp only [List.zipIdx_cons, List.zipIdx_nil, List.map_toArray, List.map_cons, List.map_nil, hf.ev (show ev _ (.tmp 46) = some (str (trim ((v.take i).drop fr))) from rfl)] <;> rfl) rfl Tryz.underlying45 ty_9 rfl rfl rfl rfl rfl (fun g1 => ?_)
        refine j_pull1 ?_
        refine jo_append rfl rfl Tryz.underlying45 ty_9 rfl (by simp only [List.length_append, List.length_cons, List.length_nil, maxLen]; omega) (by simp only [List.length_append, List.length_cons, List.length_nil]; omega) rfl (fun v1 => ?_)
        refine jo_pure rfl (pr_assign rfl) ?_
        refine jo_nil ?_
        refine jq_then ?_
        refine jc_region ?_
        refine jo_pure rfl (pr_move rfl) ?_
        refine jo_pure rfl (pr_addN (m := i) (n := 1) rfl rfl (by omega)) ?_
        refine jo_pure rfl (pr_assign rfl) ?_
        refine jo_nil ?_
        refine jq_in_normal ?_
        refine jq_then ?_
        refine jc_region ?_
        refine jo_pure rfl (pr_move rfl) ?_
        refine jo_pure rfl (pr_addN (m := i) (n := 1) rfl rfl (by omega)) ?_
        refine jo_pure rfl (pr_assign rfl) ?_
        refine jo_nil ?_
        refine jq_round' ((i + 1), st, (i + 1), v1, (acc ++ [trim ((v.take i).drop fr)])) (by (try dsimp only); exact (⟨by omega, Nat.le_refl _, hinv.2.2.1, by simp; omega, split_put h1.1 (h2.imp (fun q => by omega) id) h3 hinv.2.2.2.2⟩)) (by (try dsimp only); exact (by omega)) ⟨rfl, rfl, rfl, rfl, rfl, trivial⟩ (fun _ h => h)
      · have h3 := (fun q => of_decide_eq_true (bf_not q)) h3b
        refine jc_skip ?_
        refine jq_then ?_
        refine jc_region ?_
        refine jo_pure rfl (pr_move rfl) ?_
        refine jo_pure rfl (pr_addN (m := i) (n := 1) rfl rfl (by omega)) ?_
        refine jo_pure rfl (pr_assign rfl) ?_
        refine jo_nil ?_
        refine jq_in_normal ?_
        refine jq_then ?_
        refine jc_region ?_
        refine jo_pure rfl (pr_move rfl) ?_
        refine jo_pure rfl (pr_addN (m := i) (n := 1) rfl rfl (by omega)) ?_
        refine jo_pure rfl (pr_assign rfl) ?_
        refine jo_nil ?_
        refine jq_round' ((i + 1), st, (i + 1), w, acc) (by (try dsimp only); exact (⟨by omega, Nat.le_refl _, hinv.2.2.1, hinv.2.2.2.1, split_skip h1.1 (h2.imp (fun q => by omega) id) h3 hinv.2.2.2.2⟩)) (by (try dsimp only); exact (by omega)) ⟨rfl, rfl, rfl, rfl, rfl, trivial⟩ (fun _ h => h)
  · have h1 := (fun q => Or.imp of_decide_eq_false of_decide_eq_false (bf_and q)) h1b
    refine jc_exit ?_
    refine jq_then_exit ?_
    refine jq_then_exit ?_
    refine jq_in_hit ?_
    refine jq_then ?_
    refine jc_seq ?_
    refine jc_region ?_
    refine jo_pure rfl (pr_move rfl) ?_
    refine jo_pure rfl (pr_assign rfl) ?_
    refine jo_nil ?_
    refine jq_then ?_
    refine jc_ret ?_
    exact jq_ret1 rfl w rfl (show (w : Value) = (w) from rfl) (fun _ h => by rw [split_done (h1.imp (fun q => by omega) (fun q => by omega)) hinv.2.2.2.1 hinv.2.2.2.2] at h; exact h)

theorem c_list_All (l : List ((List UInt8) × (List UInt8))) (lv : Value) (name : List UInt8) (hl : l.length ≤ 1000000) (hm : ∀ x ∈ l, x.1.length ≤ 1000000 ∧ x.2.length ≤ 1000000) (hn : name.length ≤ 1000000) : Con Tryz.prog 40 #[lv, str (name)] [.imm (.list (.pair .str .str)) (lv) (l)] (fun r1 : Value => r1) (fun r1 => [.imm (.list .str) r1 (allF l name)]) := by
  refine con_of_J (args := [lv, str (name)]) (n := 26) Tryz.func40 rfl (Nat.le_of_ble_eq_true rfl) rfl (fun w0 I0 m0 => ?_)
  show J _ [(0, lv), (1, str (name))] [.imm (.list (.pair .str .str)) (lv) (l)] _
  refine jc_seq ?_
  refine jc_region ?_
  refine jo_pure rfl (pr_assign rfl) ?_
  refine jo_nil ?_
  refine jq_then ?_
  refine jc_seq ?_
  refine jc_region ?_
  refine jo_pure rfl (pr_assign rfl) ?_
  refine jo_nil ?_
  refine jq_then ?_
  refine jc_seq ?_
  refine jc_seq ?_
  refine jc_region ?_
  refine jo_pure rfl (pr_move rfl) ?_
  refine jo_pure rfl (pr_move rfl) ?_
  refine jo_callp cal_77 (c_fieldline_Get l lv name (by first | omega | exact hm | (have := getD_len (i := i) (getF_mem (n := 1000000) hm (name := name)); omega)) (by first | omega | exact hm | (have := getD_len (i := i) (getF_mem (n := 1000000) hm (name := name)); omega)) (by first | omega | exact hm | (have := getD_len (i := i) (getF_mem (n := 1000000) hm (name := name)); omega))) ⟨rfl, rfl, trivial⟩ rfl (⟨⟨rfl, .head _⟩, trivial⟩) (fun r1 => ?_)
  show J _ _ [.row (r1) 9 .str (getF l name), .imm (.list (.pair .str .str)) (lv) (l)] _
  refine jo_pure rfl (pr_len_row rfl (.head _) Tryz.underlying45) ?_
  refine jo_pure rfl (pr_move rfl) ?_
  refine jo_nil ?_
  refine jq_then ?_
  refine jc_block ?_
  refine j_nil_row 9 .str ?_
  refine jc_loop3 (fun (i : Nat) (w : Value) (acc : List (List UInt8)) => [(5, w), (10, r1), (11, .int .i64 (((getF l name).length : Nat) : Int)), (12, .int .i64 ((i : Nat) : Int))]) (fun (i : Nat) (w : Value) (acc : List (List UInt8)) => [.row (w) 9 .str (acc), .row (r1) 9 .str (getF l name), .imm (.list (.pair .str .str)) (lv) (l)]) (fun (i : Nat) (w : Value) (acc : List (List UInt8)) => i ≤ (getF l name).length ∧ acc.length ≤ i * 64 ∧ (getF l name).length ≤ 1000000 ∧ acc = ((getF l name).take i).flatMap splitF) (fun (i : Nat) (w : Value) (acc : List (List UInt8)) => (getF l name).length - i) 0 (.slice none 0 0) [] (⟨Nat.zero_le _, by simp, Nat.le_trans (getF_length l name) hl, rfl⟩) (⟨rfl, rfl, rfl, rfl, trivial⟩) (fun _ h => h) (fun i w acc hinv => ?_)
  refine jc_seq ?_
  refine jc_region ?_
  refine jo_pure rfl (pr_lssN (m := i) (n := (getF l name).length) rfl rfl) ?_
  refine jo_nil ?_
  refine jq_then ?_
  refine jc_seq ?_
  refine jc_cond rfl (fun h1b => ?_) (fun h1b => ?_)
  · have h1 := of_decide_eq_true h1b
    refine jc_skip ?_
    refine jq_then ?_
    refine jc_seq ?_
    refine jc_block ?_
    refine jc_seq ?_
    refine jc_region ?_
    refine jo_pure rfl (pr_idx_row (i := i) rfl (.tail _ (.head _)) rfl Tryz.underlying45 ty_9 (by omega)) ?_
    refine jo_pure rfl (pr_load_elem_row (i := i) (str ((getF l name).getD i [])) rfl (.tail _ (.head _)) ty_9 rfl rfl (by omega) rfl) ?_
    refine jo_pure rfl (pr_assign rfl) ?_
    refine jo_nil ?_
    refine jq_then ?_
    refine jc_region ?_
    refine jo_pure rfl (pr_move rfl) ?_
    refine jo_pure rfl (pr_move rfl) ?_
    refine jo_callp cal_78 (c_list_Split ((getF l name).getD i []) (by first | omega | exact hm | (have := getD_len (i := i) (getF_mem (n := 1000000) hm (name := name)); omega))) ⟨rfl, trivial⟩ rfl (trivial) (fun r2 => ?_)
    show J _ _ [.row (r2) 9 .str (splitF ((getF l name).getD i [])), .row (w) 9 .str (acc), .row (r1) 9 .str (getF l name), .imm (.list (.pair .str .str)) (lv) (l)] _
    refine j_pub_row ?_
    refine j_pull1 ?_
    refine jo_append_imm rfl rfl (.head _) Tryz.underlying45 ty_9 rfl (by have := splitF_length ((getF l name).getD i []); simp only [maxLen]; first | omega | (simp only [List.length_append]; omega)) (by have := splitF_length ((getF l name).getD i []); first | omega | (simp only [List.length_append]; omega)) rfl (fun v1 => ?_)
    refine jo_pure rfl (pr_assign rfl) ?_
    refine jo_nil ?_
    refine jq_in_normal ?_
    refine jq_then ?_
    refine jc_region ?_
    refine jo_pure rfl (pr_addN (m := i) (n := 1) rfl rfl (by omega)) ?_
    refine jo_pure rfl (pr_move rfl) ?_
    refine jo_nil ?_
    refine j_pull1 ?_
    refine j_drop ?_
    refine j_pull2 ?_
    refine j_pull2 ?_
    refine j_pull2 ?_
    refine jq_round' ((i + 1), v1, (acc ++ (splitF ((getF l name).getD i [])))) (by (try dsimp only); exact (⟨by omega, by have := splitF_length ((getF l name).getD i []); simp only [List.length_append]; omega, hinv.2.2.1, by rw [hinv.2.2.2]; exact (flat_take_step h1).symm⟩)) (by (try dsimp only); exact (by omega)) ⟨rfl, rfl, rfl, rfl, trivial⟩ (fun _ h => h)
  · have h1 := of_decide_eq_false h1b
    refine jc_exit ?_
    refine jq_then_exit ?_
    refine jq_then_exit ?_
    refine jq_in_hit ?_
    refine jq_then ?_
    refine jc_seq ?_
    refine jc_region ?_
    refine jo_pure rfl (pr_move rfl) ?_
    refine jo_pure rfl (pr_move rfl) ?_
    refine jo_pure rfl (pr_len_row rfl (.head _) Tryz.underlying45) ?_
    refine jo_pure rfl (pr_minN (m := acc.length) (n := 64) rfl rfl) ?_
    refine j_pub_row ?_
    refine j_resl (l := 0) (h := min acc.length 64) (.head _) (by omega) (by omega) ?_
    show J _ _ (.imm (.list .str) (resl (w) (0) (min acc.length 64) 1) ((acc.take (min acc.length 64)).drop 0) :: _) _
    refine jo_pure rfl (pr_slice_imm (l := 0) (h := min acc.length 64) rfl (.tail _ (.head _)) Tryz.underlying45 ty_9 rfl ⟨_, rfl⟩ (by omega) (by omega)) ?_
    refine jo_pure rfl (pr_assign rfl) ?_
    refine jo_nil ?_
    refine jq_then ?_
    refine jc_ret ?_
    refine j_pull1 ?_
    refine j_drop ?_
    refine j_pull1 ?_
    refine j_drop ?_
    refine j_pull1 ?_
    refine j_drop ?_
    exact jq_ret1 rfl (resl (w) (0) (min acc.length 64) 1) rfl (show (resl (w) (0) (min acc.length 64) 1 : Value) = (resl (w) (0) (min acc.length 64) 1) from rfl) (fun _ h => by rw [show allF l name = (acc.take (min acc.length 64)).drop 0 from by rw [take_min, hinv.2.2.2, take_over (s := getF l name) (i := i) (by omega)]; rfl]; exact h)

theorem c_strings_Index (s : List UInt8) (sep : List UInt8) (c : UInt8) (hsep : sep = [c]) (hs : s.length ≤ 1000000) : Con Tryz.prog 178 #[str (s), str (sep)] [] (fun _ : Unit => .int .i64 (idx s c)) (fun _ => []) := by
  refine con_of_J (args := [str (s), str (sep)]) (n := 8) Tryz.func178 rfl (Nat.le_of_ble_eq_true rfl) rfl (fun w0 I0 m0 => ?_)
  show J _ [(0, str (s)), (1, str (sep))] [] _
  refine jc_seq ?_
  refine jc_region ?_
  refine jo_pure rfl (pr_assign rfl) ?_
  refine jo_nil ?_
  refine jq_then ?_
  refine jc_seq ?_
  refine jc_region ?_
  refine jo_pure rfl (pr_move rfl) ?_
  refine jo_pure rfl (pr_move rfl) ?_
  refine jo_callp cal_118 (c_internal_stringslite_Index s sep c (by first | omega | exact hsep | rfl) (by first | omega | exact hsep | rfl)) ⟨rfl, rfl, trivial⟩ rfl (trivial) (fun _ => ?_)
  refine jo_pure rfl (pr_assign rfl) ?_
  refine jo_nil ?_
  refine jq_then ?_
  refine jc_ret ?_
  exact jq_ret1 rfl () rfl (show (.int .i64 (idx s c) : Value) = (.int .i64 (idx s c)) from rfl) (fun _ h => h)

theorem c_strings_Count (s : List UInt8) (sep : List UInt8) (c : UInt8) (hsep : sep = [c]) (hs : s.length ≤ 1000000) : Con Tryz.prog 177 #[str (s), str (sep)] [] (fun _ : Unit => .int .i64 ((List.count c s : Nat) : Int)) (fun _ => []) := by
  refine con_of_J (args := [str (s), str (sep)]) (n := 34) Tryz.func177 rfl (Nat.le_of_ble_eq_true rfl) rfl (fun w0 I0 m0 => ?_)
  show J _ [(0, str (s)), (1, str (sep))] [] _
  refine jc_seq ?_
  refine jc_region ?_
  refine jo_pure rfl (pr_assign rfl) ?_
  refine jo_nil ?_
  refine jq_then ?_
  refine jc_seq ?_
  refine jc_seq ?_
  refine jc_region ?_
  refine jo_pure rfl (pr_move rfl) ?_
  refine jo_pure rfl (pr_slen rfl Tryz.underlying9) ?_
  refine jo_pure rfl (pr_eqlN (m := sep.length) (n := 0) rfl rfl) ?_
  refine jo_nil ?_
  refine jq_then ?_
  refine jc_cond rfl (fun h1b => ?_) (fun h1b => ?_)
  · have h1 := of_decide_eq_true h1b
    exact absurd h1 (by rw [hsep]; simp)
  · have h1 := of_decide_eq_false h1b
    have hl : sep.length = 1 := by rw [hsep]; rfl
    refine jc_skip ?_
    refine jq_then ?_
    refine jc_seq ?_
    refine jc_seq ?_
    refine jc_region ?_
    refine jo_pure rfl (pr_move rfl) ?_
    refine jo_pure rfl (pr_slen rfl Tryz.underlying9) ?_
    refine jo_pure rfl (pr_eqlN (m := sep.length) (n := 1) rfl rfl) ?_
    refine jo_nil ?_
    refine jq_then ?_
    refine jc_cond rfl (fun h2b => ?_) (fun h2b => ?_)
    · have h2 := of_decide_eq_true h2b
      refine jc_seq ?_
      refine jc_region ?_
      refine jo_pure rfl (pr_move rfl) ?_
      refine jo_pure rfl (pr_move rfl) ?_
      refine jo_pure rfl (pr_sindex (i := 0) rfl rfl Tryz.underlying9 (by rw [hsep]; exact Nat.one_pos)) ?_
      refine jo_pure rfl (pr_ext (vs := [str (s), byte (sep.getD 0 0)]) Tryz.func180 (by kernel_rfl) rfl (by kernel_rfl) (by kernel_rfl) ⟨rfl, rfl, trivial⟩ (fun w => run_count s (sep.getD 0 0) w)) ?_
      refine jo_pure rfl (pr_assign rfl) ?_
      refine jo_nil ?_
      refine jq_then ?_
      refine jc_ret ?_
      refine jq_then_ret ?_
      exact jq_ret1 rfl () rfl (show (.int .i64 ((List.count c s : Nat) : Int) : Value) = (.int .i64 ((List.count (sep.getD 0 0) s : Nat) : Int)) from by rw [hsep]; rfl) (fun _ h => h)
    · have h2 := of_decide_eq_false h2b
      exact absurd hl h2

theorem c_strings_genSplit (s : List UInt8) (sep : List UInt8) (ss : Nat) (n : Int) (c : UInt8) (hsep : sep = [c]) (hs : s.length ≤ 1000000) (hss : ss = 0) (hn : n = -1) : Con Tryz.prog 175 #[str (s), str (sep), .int .i64 ((ss : Nat) : Int), .int .i64 (n)] [] (fun r1 : Value => r1) (fun r1 => [.row r1 9 .str (cutAt c [] s)]) := by
  refine con_of_J (args := [str (s), str (sep), .int .i64 ((ss : Nat) : Int), .int .i64 (n)]) (n := 66) Tryz.func175 rfl (Nat.le_of_ble_eq_true rfl) rfl (fun w0 I0 m0 => ?_)
  show J _ [(0, str (s)), (1, str (sep)), (2, .int .i64 ((ss : Nat) : Int)), (3, .int .i64 (n))] [] _
  refine jc_seq ?_
  refine jc_region ?_
  refine jo_pure rfl (pr_assign rfl) ?_
  refine jo_nil ?_
  refine jq_then ?_
  refine jc_seq ?_
  refine jc_seq ?_
  refine jc_region ?_
  refine jo_pure rfl (pr_move rfl) ?_
  refine jo_pure rfl (pr_eql (n := 0) rfl rfl) ?_
  refine jo_nil ?_
  refine jq_then ?_
  refine jc_cond rfl (fun h1b => ?_) (fun h1b => ?_)
  · have h1 := of_decide_eq_true h1b
    exact absurd h1 (by omega)
  · have h1 := of_decide_eq_false h1b
    refine jc_skip ?_
    refine jq_then ?_
    refine jc_seq ?_
    refine jc_seq ?_
    refine jc_region ?_
    refine jo_pure rfl (pr_move rfl) ?_
    refine jo_pure rfl (pr_seql rfl rfl) ?_
    refine jo_nil ?_
    refine jq_then ?_
    refine jc_cond rfl (fun h2b => ?_) (fun h2b => ?_)
    · have h2 := of_decide_eq_true h2b
      exact absurd h2 (by rw [hsep]; simp)
    · have h2 := of_decide_eq_false h2b
      refine jc_skip ?_
      refine jq_then ?_
      refine jc_seq ?_
      refine jc_seq ?_
      refine jc_region ?_
      refine jo_pure rfl (pr_move rfl) ?_
      refine jo_pure rfl (pr_lss (n := 0) rfl rfl) ?_
      refine jo_nil ?_
      refine jq_then ?_
      refine jc_cond rfl (fun h3b => ?_) (fun h3b => ?_)
      · have h3 := of_decide_eq_true h3b
        have hN : min (List.count c s + 1) (s.length + 1) = List.count c s + 1 := by have := count_len c s; omega
        have hcl := count_len c s
        have hl : sep.length = 1 := by rw [hsep]; rfl
        refine jc_region ?_
        refine jo_pure rfl (pr_move rfl) ?_
        refine jo_pure rfl (pr_move rfl) ?_
        refine jo_callp cal_177 (c_strings_Count s sep c (by first | omega | exact hsep | rfl) (by first | omega | exact hsep | rfl)) ⟨rfl, rfl, trivial⟩ rfl (trivial) (fun _ => ?_)
        refine jo_pure rfl (pr_addN (m := List.count c s) (n := 1) rfl rfl (by omega)) ?_
        refine jo_pure rfl (pr_assign rfl) ?_
        refine jo_nil ?_
        refine jq_then ?_
        refine jc_seq ?_
        refine jc_region ?_
        refine jo_pure rfl (pr_move rfl) ?_
        refine jo_pure rfl (pr_move rfl) ?_
        refine jo_pure rfl (pr_slen rfl Tryz.underlying9) ?_
        refine jo_pure rfl (pr_addN (m := s.length) (n := 1) rfl rfl (by omega)) ?_
        refine jo_pure rfl (pr_minN (m := (List.count c s) + 1) (n := s.length + 1) rfl rfl) ?_
        refine jo_pure rfl (pr_assign rfl) ?_
        refine jo_nil ?_
        refine jq_then ?_
        refine jc_seq ?_
        refine jc_region ?_
        refine jo_pure rfl (pr_move rfl) ?_
        refine jo_makeSlice (n := min ((List.count c s) + 1) (s.length + 1)) (t := .str) [] rfl Tryz.underlying45 ty_9 rfl rfl (by simp only [maxLen]; omega) (by omega) rfl (fun g1 => ?_)
        refine jo_pure rfl (pr_assign rfl) ?_
        refine jo_nil ?_
        refine jq_then ?_
        refine jc_seq ?_
        refine jc_region ?_
        refine jo_pure rfl (pr_move rfl) ?_
        refine jo_pure rfl (pr_subN (m := min ((List.count c s) + 1) (s.length + 1)) (n := 1) rfl rfl (by omega) (by omega)) ?_
        refine jo_pure rfl (pr_assign rfl) ?_
        refine jo_nil ?_
        refine jq_then ?_
        refine jc_seq ?_
        refine jc_region ?_
        refine jo_pure rfl (pr_assign rfl) ?_
        refine jo_nil ?_
        refine jq_then ?_
        refine jc_seq ?_
        refine jc_block ?_
        refine jc_loop3 (fun (i : Nat) (t : List UInt8) (xs : List (List UInt8)) => [(0, str (t)), (1, str (sep)), (2, .int .i64 ((ss : Nat) : Int)), (3, .int .i64 (((min ((List.count c s) + 1) (s.length + 1)) - 1 : Nat) : Int)), (9, .slice (some ⟨g1, 0, none⟩) (min ((List.count c s) + 1) (s.length + 1)) (min ((List.count c s) + 1) (s.length + 1))), (10, .int .i64 ((i : Nat) : Int))]) (fun (i : Nat) (t : List UInt8) (xs : List (List UInt8)) => [.rowg g1 (min ((List.count c s) + 1) (s.length + 1)) 9 .str (xs)]) (fun (i : Nat) (t : List UInt8) (xs : List (List UInt8)) => i + List.count c t = List.count c s ∧ xs.length = List.count c s + 1 ∧ t.length ≤ s.length ∧ xs.take i ++ cutAt c [] t = cutAt c [] s) (fun (i : Nat) (t : List UInt8) (xs : List (List UInt8)) => List.count c s - i) 0 s (List.replicate (min ((List.count c s) + 1) (s.length + 1)) []) (⟨by omega, by rw [List.length_replicate]; omega, Nat.le_refl _, rfl⟩) (⟨rfl, rfl, rfl, rfl, rfl, rfl, trivial⟩) (fun _ h => h) (fun i t xs hinv => ?_)
        refine jc_seq ?_
        refine jc_seq ?_
        refine jc_region ?_
        refine jo_pure rfl (pr_move rfl) ?_
        refine jo_pure rfl (pr_move rfl) ?_
        refine jo_pure rfl (pr_lssN (m := i) (n := (min ((List.count c s) + 1) (s.length + 1)) - 1) rfl rfl) ?_
        refine jo_nil ?_
        refine jq_then ?_
        refine jc_cond rfl (fun h4b => ?_) (fun h4b => ?_)
        · have h4 := of_decide_eq_true h4b
          refine jc_skip ?_
          refine jq_then ?_
          refine jc_block ?_
          refine jc_seq ?_
          refine jc_region ?_
          refine jo_pure rfl (pr_move rfl) ?_
          refine jo_pure rfl (pr_move rfl) ?_
          refine jo_callp cal_178 (c_strings_Index t sep c (by first | omega | exact hsep | rfl) (by first | omega | exact hsep | rfl)) ⟨rfl, rfl, trivial⟩ rfl (trivial) (fun _ => ?_)
          refine jo_pure rfl (pr_assign rfl) ?_
          refine jo_nil ?_
          refine jq_then ?_
          refine jc_seq ?_
          refine jc_seq ?_
          refine jc_region ?_
          refine jo_pure rfl (pr_move rfl) ?_
          refine jo_pure rfl (pr_lss (n := 0) rfl rfl) ?_
          refine jo_nil ?_
          refine jq_then ?_
          refine jc_cond rfl (fun h5b => ?_) (fun h5b => ?_)
          · have h5 := of_decide_eq_true h5b
            have hp := idx_neg h5
            refine jc_exit ?_
            refine jq_then_exit ?_
            refine jq_in_miss rfl ?_
            refine jq_then_exit ?_
            refine jq_in_hit ?_
            refine jq_then ?_
            refine jc_seq ?_
            refine jc_region ?_
            refine jo_pure rfl (pr_move rfl) ?_
            refine jo_pure rfl (pr_move rfl) ?_
            refine jo_pure rfl (pr_move rfl) ?_
            refine jo_pure rfl (pr_idx (i := i) (i) rfl rfl Tryz.underlying45 ty_9 (by omega) (by first | rfl | (simp only [Nat.zero_add, Nat.mul_one]))) ?_
            refine jo_store_g (i := i) (t) rfl rfl ty_9 rfl (by omega) (by first | rfl | exact Nat.mul_one _) rfl ?_
            refine jo_nil ?_
            refine jq_then ?_
            refine jc_seq ?_
            refine jc_region ?_
            refine jo_pure rfl (pr_move rfl) ?_
            refine jo_pure rfl (pr_move rfl) ?_
            refine jo_pure rfl (pr_addN (m := i) (n := 1) rfl rfl (by omega)) ?_
            refine jo_slice_own (h := i + 1) rfl rfl Tryz.underlying45 ty_9 (by omega) (by simp only [List.length_set]; omega) rfl ?_
            refine jo_pure rfl (pr_assign rfl) ?_
            refine jo_nil ?_
            refine jq_then ?_
            refine jc_ret ?_
            refine j_row_of_rowg ?_
            exact jq_ret1 rfl (.slice (some ⟨g1, 0, none⟩) ((xs.set i t).take (i + 1)).length (min ((List.count c s) + 1) (s.length + 1))) rfl (show (.slice (some ⟨g1, 0, none⟩) ((xs.set i t).take (i + 1)).length (min ((List.count c s) + 1) (s.length + 1)) : Value) = (.slice (some ⟨g1, 0, none⟩) ((xs.set i t).take (i + 1)).length (min ((List.count c s) + 1) (s.length + 1))) from rfl) (fun _ h => by rw [← gs_end (by omega) hp hinv.2.2.2]; exact h)
          · have h5 := of_decide_eq_false h5b
            have hp := (idx_nonneg (s := t) (c := c) (by omega)).2
            rw [show (idx t c : Int) = ((pos t c : Nat) : Int) from (idx_nonneg (s := t) (c := c) (by omega)).1]
            refine jc_skip ?_
            refine jq_then ?_
            refine jc_seq ?_
            refine jc_region ?_
            refine jo_pure rfl (pr_move rfl) ?_
            refine jo_pure rfl (pr_move rfl) ?_
            refine jo_pure rfl (pr_move rfl) ?_
            refine jo_pure rfl (pr_move rfl) ?_
            refine jo_pure rfl (pr_move rfl) ?_
            refine jo_pure rfl (pr_addN (m := pos t c) (n := ss) rfl rfl (by omega)) ?_
            refine jo_pure rfl (pr_sslice_hi (j := (pos t c) + ss) rfl rfl Tryz.underlying9 (by omega)) ?_
            refine jo_pure rfl (pr_idx (i := i) (i) rfl rfl Tryz.underlying45 ty_9 (by omega) (by first | rfl | (simp only [Nat.zero_add, Nat.mul_one]))) ?_
            refine jo_store_g (i := i) (t.take ((pos t c) + ss)) rfl rfl ty_9 rfl (by omega) (by first | rfl | exact Nat.mul_one _) rfl ?_
            refine jo_nil ?_
            refine jq_then ?_
            refine jc_seq ?_
            refine jc_region ?_
            refine jo_pure rfl (pr_move rfl) ?_
            refine jo_pure rfl (pr_move rfl) ?_
            refine jo_pure rfl (pr_move rfl) ?_
            refine jo_pure rfl (pr_slen rfl Tryz.underlying9) ?_
            refine jo_pure rfl (pr_addN (m := pos t c) (n := sep.length) rfl rfl (by omega)) ?_
            refine jo_pure rfl (pr_sslice_lo (i := (pos t c) + sep.length) rfl rfl Tryz.underlying9 (by omega)) ?_
            refine jo_pure rfl (pr_assign rfl) ?_
            refine jo_nil ?_
            refine jq_then ?_
            refine jc_region ?_
            refine jo_pure rfl (pr_move rfl) ?_
            refine jo_pure rfl (pr_addN (m := i) (n := 1) rfl rfl (by omega)) ?_
            refine jo_pure rfl (pr_assign rfl) ?_
            refine jo_nil ?_
            refine jq_in_normal ?_
            refine jq_round' ((i + 1), (t.drop ((pos t c) + sep.length)), (xs.set i (t.take ((pos t c) + ss)))) (by (try dsimp only); exact (⟨by rw [hl]; have := count_some hp; omega, by simp only [List.length_set]; omega, by simp only [List.length_drop]; omega, by rw [hl, hss, Nat.add_zero]; exact gs_go (by omega) hp hinv.2.2.2⟩)) (by (try dsimp only); exact (by have := count_some hp; omega)) ⟨rfl, rfl, rfl, rfl, rfl, rfl, trivial⟩ (fun _ h => h)
        · have h4 := of_decide_eq_false h4b
          have hp : ¬ pos t c < t.length := fun q => by have := count_some q; omega
          refine jc_exit ?_
          refine jq_then_exit ?_
          refine jq_then_exit ?_
          refine jq_in_hit ?_
          refine jq_then ?_
          refine jc_seq ?_
          refine jc_region ?_
          refine jo_pure rfl (pr_move rfl) ?_
          refine jo_pure rfl (pr_move rfl) ?_
          refine jo_pure rfl (pr_move rfl) ?_
          refine jo_pure rfl (pr_idx (i := i) (i) rfl rfl Tryz.underlying45 ty_9 (by omega) (by first | rfl | (simp only [Nat.zero_add, Nat.mul_one]))) ?_
          refine jo_store_g (i := i) (t) rfl rfl ty_9 rfl (by omega) (by first | rfl | exact Nat.mul_one _) rfl ?_
          refine jo_nil ?_
          refine jq_then ?_
          refine jc_seq ?_
          refine jc_region ?_
          refine jo_pure rfl (pr_move rfl) ?_
          refine jo_pure rfl (pr_move rfl) ?_
          refine jo_pure rfl (pr_addN (m := i) (n := 1) rfl rfl (by omega)) ?_
          refine jo_slice_own (h := i + 1) rfl rfl Tryz.underlying45 ty_9 (by omega) (by simp only [List.length_set]; omega) rfl ?_
          refine jo_pure rfl (pr_assign rfl) ?_
          refine jo_nil ?_
          refine jq_then ?_
          refine jc_ret ?_
          refine j_row_of_rowg ?_
          exact jq_ret1 rfl (.slice (some ⟨g1, 0, none⟩) ((xs.set i t).take (i + 1)).length (min ((List.count c s) + 1) (s.length + 1))) rfl (show (.slice (some ⟨g1, 0, none⟩) ((xs.set i t).take (i + 1)).length (min ((List.count c s) + 1) (s.length + 1)) : Value) = (.slice (some ⟨g1, 0, none⟩) ((xs.set i t).take (i + 1)).length (min ((List.count c s) + 1) (s.length + 1))) from rfl) (fun _ h => by rw [← gs_end (by omega) hp hinv.2.2.2]; exact h)
      · have h3 := of_decide_eq_false h3b
        exact absurd h3 (by omega)

theorem c_strings_Split (s : List UInt8) (sep : List UInt8) (c : UInt8) (hsep : sep = [c]) (hs : s.length ≤ 1000000) : Con Tryz.prog 173 #[str (s), str (sep)] [] (fun r1 : Value => r1) (fun r1 => [.row r1 9 .str (cutAt c [] s)]) := by
  refine con_of_J (args := [str (s), str (sep)]) (n := 8) Tryz.func173 rfl (Nat.le_of_ble_eq_true rfl) rfl (fun w0 I0 m0 => ?_)
  show J _ [(0, str (s)), (1, str (sep))] [] _
  refine jc_seq ?_
  refine jc_region ?_
  refine jo_pure rfl (pr_assign rfl) ?_
  refine jo_nil ?_
  refine jq_then ?_
  refine jc_seq ?_
  refine jc_region ?_
  refine jo_pure rfl (pr_move rfl) ?_
  refine jo_pure rfl (pr_move rfl) ?_
  refine jo_callp cal_175 (c_strings_genSplit s sep 0 (-1) c (by first | omega | exact hsep | rfl) (by first | omega | exact hsep | rfl) (by first | omega | exact hsep | rfl) (by first | omega | exact hsep | rfl)) ⟨rfl, rfl, rfl, rfl, trivial⟩ rfl (trivial) (fun r1 => ?_)
  show J _ _ [.row (r1) 9 .str (cutAt c [] s)] _
  refine jo_pure rfl (pr_assign rfl) ?_
  refine jo_nil ?_
  refine jq_then ?_
  refine jc_ret ?_
  exact jq_ret1 rfl r1 rfl (show (r1 : Value) = (r1) from rfl) (fun _ h => h)

theorem c_language_subtag (s : List UInt8) (d : Bool) (hs : s.length ≤ 1000000) : Con Tryz.prog 174 #[str (s), .bool (d)] [] (fun _ : Unit => .bool (subOk d s)) (fun _ => []) := by
  refine con_of_J (args := [str (s), .bool (d)]) (n := 41) Tryz.func174 rfl (Nat.le_of_ble_eq_true rfl) rfl (fun w0 I0 m0 => ?_)
  show J _ [(0, str (s)), (1, .bool (d))] [] _
  refine jc_seq ?_
  refine jc_region ?_
  refine jo_pure rfl (pr_assign rfl) ?_
  refine jo_nil ?_
  refine jq_then ?_
  refine jc_seq ?_
  refine jc_seq ?_
  refine jc_region ?_
  refine jo_pure rfl (pr_move rfl) ?_
  refine jo_callp cal_51 (c_ascii_Lower s (by omega)) ⟨rfl, trivial⟩ rfl (trivial) (fun _ => ?_)
  refine jo_s2b rfl Tryz.underlying9 Tryz.underlying84 Tryz.underlying5 rfl (by rw [lower_length]; omega) (fun g1 cap1 => ?_)
  refine jo_pure rfl (pr_len rfl Tryz.underlying84) ?_
  refine jo_pure rfl (pr_move rfl) ?_
  refine jo_nil ?_
  refine jq_then ?_
  refine jc_block ?_
  refine jc_loop (fun (i : Nat) => [(0, str (s)), (1, .bool (d)), (9, .slice (some ⟨g1, 0, none⟩) ((lower s).length) (cap1)), (10, .int .i64 (((lower s).length : Nat) : Int)), (11, .int .i64 ((i : Nat) : Int))]) (fun (i : Nat) => [.rowm g1 (cap1) 5 .u8 (lower s)]) (fun (i : Nat) => i ≤ (lower s).length ∧ ((lower s).take i).all (lowOk d) = true) (fun (i : Nat) => (lower s).length - i) 0 (⟨Nat.zero_le _, rfl⟩) (⟨rfl, rfl, rfl, rfl, rfl, trivial⟩) (fun _ h => h) (fun i hinv => ?_)
  refine jc_seq ?_
  refine jc_region ?_
  refine jo_pure rfl (pr_lssN (m := i) (n := (lower s).length) rfl rfl) ?_
  refine jo_nil ?_
  refine jq_then ?_
  refine jc_seq ?_
  refine jc_cond rfl (fun h1b => ?_) (fun h1b => ?_)
  · have h1 := of_decide_eq_true h1b
    refine jc_skip ?_
    refine jq_then ?_
    refine jc_seq ?_
    refine jc_block ?_
    refine jc_seq ?_
    refine jc_region ?_
    refine jo_pure rfl (pr_idx (i := i) (i) rfl rfl Tryz.underlying84 ty_5 (by omega) (by first | rfl | (simp only [Nat.zero_add, Nat.mul_one]))) ?_
    refine jo_pure rfl (pr_load_rowD (byte ((lower s).getD i 0)) true rfl ty_5 rfl rfl (.head _) (by omega) (by first | rfl | exact Nat.mul_one _) rfl) ?_
    refine jo_pure rfl (pr_assign rfl) ?_
    refine jo_nil ?_
    refine jq_then ?_
    refine jc_seq ?_
    refine jc_region ?_
    refine jo_pure rfl (pr_move rfl) ?_
    refine jo_pure rfl (pr_blss (n := 97) rfl rfl) ?_
    refine jo_pure rfl (pr_move rfl) ?_
    refine jo_gpure (j := 2) (want := false) rfl rfl rfl rfl (fun hg => pr_move rfl) ?_
    refine jo_gpure (j := 2) (want := false) rfl rfl rfl rfl (fun hg => pr_bgtr (n := 122) (evg rfl hg) rfl) ?_
    refine jo_pure rfl (pr_pick_or rfl rfl rfl) ?_
    refine jo_pure rfl (pr_move rfl) ?_
    refine jo_gpure (j := 6) (want := true) rfl rfl rfl rfl (fun hg => pr_move rfl) ?_
    refine jo_gpure (j := 6) (want := true) rfl rfl rfl rfl (fun hg => pr_not (evg rfl hg)) ?_
    refine jo_gpure (j := 6) (want := true) rfl rfl rfl rfl (fun hg => pr_move (evg rfl hg)) ?_
    refine jo_gpure2 (j := 9) (want := false) rfl rfl rfl rfl (fun hg => pr_move rfl) ?_
    refine jo_gpure2 (j := 9) (want := false) rfl rfl rfl rfl (fun hg => pr_blss (n := 48) (evg rfl hg) rfl) ?_
    refine jo_gpure (j := 6) (want := true) rfl rfl rfl rfl (fun hg => pr_pick_or (evg rfl hg) rfl (evg2 rfl hg)) ?_
    refine jo_gpure (j := 6) (want := true) rfl rfl rfl rfl (fun hg => pr_move (evg rfl hg)) ?_
    refine jo_gpure2 (j := 13) (want := false) rfl rfl rfl rfl (fun hg => pr_move rfl) ?_
    refine jo_gpure2 (j := 13) (want := false) rfl rfl rfl rfl (fun hg => pr_bgtr (n := 57) (evg rfl hg) rfl) ?_
    refine jo_gpure (j := 6) (want := true) rfl rfl rfl rfl (fun hg => pr_pick_or (evg rfl hg) rfl (evg2 rfl hg)) ?_
    refine jo_pure rfl (pr_pick_and rfl rfl rfl) ?_
    refine jo_nil ?_
    refine jq_then ?_
    refine jc_cond rfl (fun h2b => ?_) (fun h2b => ?_)
    · have h2 := (fun q => And.imp (fun q => Or.imp of_decide_eq_true of_decide_eq_true (bt_or q)) (fun q => Or.imp (fun q => Or.imp (fun q => id (bt_not q)) of_decide_eq_true (bt_or q)) of_decide_eq_true (bt_or q)) (bt_and q)) h2b
      refine jc_seq ?_
      refine jc_region ?_
      refine jo_pure rfl (pr_assign rfl) ?_
      refine jo_nil ?_
      refine jq_then ?_
      refine jc_ret ?_
      refine jq_in_ret ?_
      refine jq_then_ret ?_
      refine jq_then_ret ?_
      refine jq_in_ret ?_
      refine jq_then_ret ?_
      refine j_drop ?_
      exact jq_ret1 rfl () rfl (show (.bool (subOk d s) : Value) = (.bool (false)) from congrArg Value.bool (by rw [sub_bad h1 (by have h9 := h2b; revert h9; unfold lowOk digB; cases d <;> simp <;> grind)])) (fun _ h => h)
    · have h2 := (fun q => Or.imp (fun q => And.imp of_decide_eq_false of_decide_eq_false (bf_or q)) (fun q => And.imp (fun q => And.imp (fun q => id (bf_not q)) of_decide_eq_false (bf_or q)) of_decide_eq_false (bf_or q)) (bf_and q)) h2b
      refine jc_skip ?_
      refine jq_in_normal ?_
      refine jq_then ?_
      refine jc_region ?_
      refine jo_pure rfl (pr_addN (m := i) (n := 1) rfl rfl (by have := lower_length s; omega)) ?_
      refine jo_pure rfl (pr_move rfl) ?_
      refine jo_nil ?_
      refine jq_round' (i + 1) (by (try dsimp only); exact (⟨by omega, all_step (dd := 0) h1 hinv.2 (by have h9 := h2b; simp only [lowOk, digB, Bool.and_eq_false_iff, Bool.or_eq_false_iff, decide_eq_false_iff_not] at h9; unfold lowOk digB; simp only [Bool.or_eq_true, Bool.and_eq_true, decide_eq_true_eq]; revert h9; cases d <;> simp <;> grind)⟩)) (by (try dsimp only); exact (by omega)) ⟨rfl, rfl, rfl, rfl, rfl, trivial⟩ (fun _ h => h)
  · have h1 := of_decide_eq_false h1b
    refine jc_exit ?_
    refine jq_then_exit ?_
    refine jq_then_exit ?_
    refine jq_in_hit ?_
    refine jq_then ?_
    refine jc_seq ?_
    refine jc_region ?_
    refine jo_pure rfl (pr_move rfl) ?_
    refine jo_pure rfl (pr_sneq rfl rfl) ?_
    refine jo_pure rfl (pr_move rfl) ?_
    refine jo_gpure (j := 2) (want := true) rfl rfl rfl rfl (fun hg => pr_move rfl) ?_
    refine jo_gpure (j := 2) (want := true) rfl rfl rfl rfl (fun hg => pr_slen (evg rfl hg) Tryz.underlying9) ?_
    refine jo_gpure (j := 2) (want := true) rfl rfl rfl rfl (fun hg => pr_leqN (m := s.length) (n := 8) (evg rfl hg) rfl) ?_
    refine jo_pure rfl (pr_pick_and rfl rfl rfl) ?_
    refine jo_pure rfl (pr_assign rfl) ?_
    refine jo_nil ?_
    refine jq_then ?_
    refine jc_ret ?_
    refine j_drop ?_
    exact jq_ret1 rfl () rfl (show (.bool (subOk d s) : Value) = (.bool (((!decide ((s : List UInt8) = [])) && decide ((s.length : Nat) ≤ 8)))) from congrArg Value.bool (by rw [sub_end (by have := hinv.2; rwa [take_over (by omega)] at this)])) (fun _ h => h)

theorem c_language_Tag (s : List UInt8) (hs : s.length ≤ 1000000) : Con Tryz.prog 172 #[str (s)] [] (fun _ : Unit => .bool (tagF s)) (fun _ => []) := by
  refine con_of_J (args := [str (s)]) (n := 19) Tryz.func172 rfl (Nat.le_of_ble_eq_true rfl) rfl (fun w0 I0 m0 => ?_)
  show J _ [(0, str (s))] [] _
  refine jc_seq ?_
  refine jc_region ?_
  refine jo_pure rfl (pr_assign rfl) ?_
  refine jo_nil ?_
  refine jq_then ?_
  refine jc_seq ?_
  refine jc_seq ?_
  refine jc_region ?_
  refine jo_pure rfl (pr_move rfl) ?_
  refine jo_callp cal_173 (c_strings_Split s [45] 45 (by first | omega | rfl | (have := getD_len (i := i) (subt_mem s); exact Nat.le_trans this hs)) (by first | omega | rfl | (have := getD_len (i := i) (subt_mem s); exact Nat.le_trans this hs))) ⟨rfl, rfl, trivial⟩ rfl (trivial) (fun r1 => ?_)
  show J _ _ [.row (r1) 9 .str (cutAt 45 [] s)] _
  refine jo_pure rfl (pr_len_row rfl (.head _) Tryz.underlying45) ?_
  refine jo_pure rfl (pr_move rfl) ?_
  refine jo_nil ?_
  refine jq_then ?_
  refine jc_block ?_
  refine jc_loop (fun (i : Nat) => [(6, r1), (7, .int .i64 (((cutAt 45 [] s).length : Nat) : Int)), (8, .int .i64 ((i : Nat) : Int))]) (fun (i : Nat) => [.row (r1) 9 .str (cutAt 45 [] s)]) (fun (i : Nat) => i ≤ (cutAt 45 [] s).length ∧ (cutAt 45 [] s).length ≤ s.length + 1 ∧ ∀ k : Nat, k < i → subOk (decide (0 < k)) ((cutAt 45 [] s).getD k []) = true) (fun (i : Nat) => (cutAt 45 [] s).length - i) 0 (⟨Nat.zero_le _, subt_length s, fun k hk => absurd hk (Nat.not_lt_zero _)⟩) (⟨rfl, rfl, rfl, trivial⟩) (fun _ h => h) (fun i hinv => ?_)
  refine jc_seq ?_
  refine jc_region ?_
  refine jo_pure rfl (pr_lssN (m := i) (n := (cutAt 45 [] s).length) rfl rfl) ?_
  refine jo_nil ?_
  refine jq_then ?_
  refine jc_seq ?_
  refine jc_cond rfl (fun h1b => ?_) (fun h1b => ?_)
  · have h1 := of_decide_eq_true h1b
    refine jc_skip ?_
    refine jq_then ?_
    refine jc_seq ?_
    refine jc_block ?_
    refine jc_seq ?_
    refine jc_region ?_
    refine jo_pure rfl (pr_move rfl) ?_
    refine jo_pure rfl (pr_idx_row (i := i) rfl (.head _) rfl Tryz.underlying45 ty_9 (by omega)) ?_
    refine jo_pure rfl (pr_load_elem_row (i := i) (str ((cutAt 45 [] s).getD i [])) rfl (.head _) ty_9 rfl rfl (by omega) rfl) ?_
    refine jo_pure rfl (pr_assign rfl) ?_
    refine jo_pure rfl (pr_assign rfl) ?_
    refine jo_nil ?_
    refine jq_then ?_
    refine jc_seq ?_
    refine jc_region ?_
    refine jo_pure rfl (pr_move rfl) ?_
    refine jo_pure rfl (pr_move rfl) ?_
    refine jo_pure rfl (pr_gtrN (m := i) (n := 0) rfl rfl) ?_
    refine jo_callp cal_174 (c_language_subtag ((cutAt 45 [] s).getD i []) (decide ((0 : Nat) < i)) (by first | omega | rfl | (have := getD_len (i := i) (subt_mem s); exact Nat.le_trans this hs))) ⟨rfl, rfl, trivial⟩ rfl (trivial) (fun _ => ?_)
    refine jo_pure rfl (pr_not rfl) ?_
    refine jo_nil ?_
    refine jq_then ?_
    refine jc_cond rfl (fun h2b => ?_) (fun h2b => ?_)
    · have h2 := (fun q => id (bt_not q)) h2b
      refine jc_seq ?_
      refine jc_region ?_
      refine jo_pure rfl (pr_assign rfl) ?_
      refine jo_nil ?_
      refine jq_then ?_
      refine jc_ret ?_
      refine jq_in_ret ?_
      refine jq_then_ret ?_
      refine jq_then_ret ?_
      refine jq_in_ret ?_
      refine jq_then_ret ?_
      refine j_drop ?_
      exact jq_ret1 rfl () rfl (show (.bool (tagF s) : Value) = (.bool (false)) from congrArg Value.bool (by rw [tag_bad (s := s) h1 h2])) (fun _ h => h)
    · have h2 := (fun q => id (bf_not q)) h2b
      refine jc_skip ?_
      refine jq_in_normal ?_
      refine jq_then ?_
      refine jc_region ?_
      refine jo_pure rfl (pr_addN (m := i) (n := 1) rfl rfl (by omega)) ?_
      refine jo_pure rfl (pr_move rfl) ?_
      refine jo_nil ?_
      refine jq_round' (i + 1) (by (try dsimp only); exact (⟨by omega, hinv.2.1, fun k hk => by rcases Nat.lt_or_ge k i with q | q; exact hinv.2.2 k q; have e : k = i := (by omega); rw [e]; exact h2⟩)) (by (try dsimp only); exact (by omega)) ⟨rfl, rfl, rfl, trivial⟩ (fun _ h => h)
  · have h1 := of_decide_eq_false h1b
    refine jc_exit ?_
    refine jq_then_exit ?_
    refine jq_then_exit ?_
    refine jq_in_hit ?_
    refine jq_then ?_
    refine jc_seq ?_
    refine jc_region ?_
    refine jo_pure rfl (pr_assign rfl) ?_
    refine jo_nil ?_
    refine jq_then ?_
    refine jc_ret ?_
    refine j_drop ?_
    exact jq_ret1 rfl () rfl (show (.bool (tagF s) : Value) = (.bool (true)) from congrArg Value.bool (by rw [tag_end (s := s) (fun k hk => hinv.2.2 k (by have hk2 : k < (cutAt 45 [] s).length := hk; omega))])) (fun _ h => h)

theorem c_accept_Name (kind : Int)  : Con Tryz.prog 123 #[.int .i64 (kind)] [] (fun _ : Unit => str (nameK kind)) (fun _ => []) := by
  refine con_of_J (args := [.int .i64 (kind)]) (n := 12) Tryz.func123 rfl (Nat.le_of_ble_eq_true rfl) rfl (fun w0 I0 m0 => ?_)
  show J _ [(0, .int .i64 (kind))] [] _
  refine jc_seq ?_
  refine jc_region ?_
  refine jo_pure rfl (pr_assign rfl) ?_
  refine jo_nil ?_
  refine jq_then ?_
  refine jc_seq ?_
  refine jc_seq ?_
  refine jc_region ?_
  refine jo_pure rfl (pr_move rfl) ?_
  refine jo_nil ?_
  refine jq_then ?_
  refine jc_block ?_
  refine jc_seq ?_
  refine jc_region ?_
  refine jo_pure rfl (pr_eql (n := 1) rfl rfl) ?_
  refine jo_pure rfl (pr_assign rfl) ?_
  refine jo_nil ?_
  refine jq_then ?_
  refine jc_cond rfl (fun h1b => ?_) (fun h1b => ?_)
  · have h1 := of_decide_eq_true h1b
    refine jc_seq ?_
    refine jc_region ?_
    refine jo_pure rfl (pr_assign rfl) ?_
    refine jo_nil ?_
    refine jq_then ?_
    refine jc_ret ?_
    refine jq_in_ret ?_
    refine jq_then_ret ?_
    exact jq_ret1 rfl () rfl (show (str (nameK kind) : Value) = (str ([65, 99, 99, 101, 112, 116])) from congrArg str (by simp [nameK, *])) (fun _ h => h)
  · have h1 := of_decide_eq_false h1b
    refine jc_seq ?_
    refine jc_region ?_
    refine jo_pure rfl (pr_eql (n := 2) rfl rfl) ?_
    refine jo_pure rfl (pr_assign rfl) ?_
    refine jo_nil ?_
    refine jq_then ?_
    refine jc_cond rfl (fun h2b => ?_) (fun h2b => ?_)
    · have h2 := of_decide_eq_true h2b
      refine jc_seq ?_
      refine jc_region ?_
      refine jo_pure rfl (pr_assign rfl) ?_
      refine jo_nil ?_
      refine jq_then ?_
      refine jc_ret ?_
      refine jq_in_ret ?_
      refine jq_then_ret ?_
      exact jq_ret1 rfl () rfl (show (str (nameK kind) : Value) = (str ([65, 99, 99, 101, 112, 116, 45, 76, 97, 110, 103, 117, 97, 103, 101])) from congrArg str (by simp [nameK, *])) (fun _ h => h)
    · have h2 := of_decide_eq_false h2b
      refine jc_seq ?_
      refine jc_region ?_
      refine jo_pure rfl (pr_eql (n := 3) rfl rfl) ?_
      refine jo_pure rfl (pr_assign rfl) ?_
      refine jo_nil ?_
      refine jq_then ?_
      refine jc_cond rfl (fun h3b => ?_) (fun h3b => ?_)
      · have h3 := of_decide_eq_true h3b
        refine jc_seq ?_
        refine jc_region ?_
        refine jo_pure rfl (pr_assign rfl) ?_
        refine jo_nil ?_
        refine jq_then ?_
        refine jc_ret ?_
        refine jq_in_ret ?_
        refine jq_then_ret ?_
        exact jq_ret1 rfl () rfl (show (str (nameK kind) : Value) = (str ([65, 99, 99, 101, 112, 116, 45, 67, 104, 97, 114, 115, 101, 116])) from congrArg str (by simp [nameK, *])) (fun _ h => h)
      · have h3 := of_decide_eq_false h3b
        refine jc_seq ?_
        refine jc_region ?_
        refine jo_pure rfl (pr_eql (n := 4) rfl rfl) ?_
        refine jo_pure rfl (pr_assign rfl) ?_
        refine jo_nil ?_
        refine jq_then ?_
        refine jc_cond rfl (fun h4b => ?_) (fun h4b => ?_)
        · have h4 := of_decide_eq_true h4b
          refine jc_seq ?_
          refine jc_region ?_
          refine jo_pure rfl (pr_assign rfl) ?_
          refine jo_nil ?_
          refine jq_then ?_
          refine jc_ret ?_
          refine jq_in_ret ?_
          refine jq_then_ret ?_
          exact jq_ret1 rfl () rfl (show (str (nameK kind) : Value) = (str ([65, 99, 99, 101, 112, 116, 45, 69, 110, 99, 111, 100, 105, 110, 103])) from congrArg str (by simp [nameK, *])) (fun _ h => h)
        · have h4 := of_decide_eq_false h4b
          refine jc_skip ?_
          refine jq_in_normal ?_
          refine jq_then ?_
          refine jc_seq ?_
          refine jc_region ?_
          refine jo_pure rfl (pr_assign rfl) ?_
          refine jo_nil ?_
          refine jq_then ?_
          refine jc_ret ?_
          exact jq_ret1 rfl () rfl (show (str (nameK kind) : Value) = (str ([])) from congrArg str (by simp [nameK, *])) (fun _ h => h)

theorem c_ref10_Name (kind : Int)  : Con Tryz.prog 72 #[.int .i64 (kind)] [] (fun _ : Unit => str (nameK kind)) (fun _ => []) := by
  refine con_of_J (args := [.int .i64 (kind)]) (n := 12) Tryz.func72 rfl (Nat.le_of_ble_eq_true rfl) rfl (fun w0 I0 m0 => ?_)
  show J _ [(0, .int .i64 (kind))] [] _
  refine jc_seq ?_
  refine jc_region ?_
  refine jo_pure rfl (pr_assign rfl) ?_
  refine jo_nil ?_
  refine jq_then ?_
  refine jc_seq ?_
  refine jc_seq ?_
  refine jc_region ?_
  refine jo_pure rfl (pr_move rfl) ?_
  refine jo_nil ?_
  refine jq_then ?_
  refine jc_block ?_
  refine jc_seq ?_
  refine jc_region ?_
  refine jo_pure rfl (pr_eql (n := 1) rfl rfl) ?_
  refine jo_pure rfl (pr_assign rfl) ?_
  refine jo_nil ?_
  refine jq_then ?_
  refine jc_cond rfl (fun h1b => ?_) (fun h1b => ?_)
  · have h1 := of_decide_eq_true h1b
    refine jc_seq ?_
    refine jc_region ?_
    refine jo_pure rfl (pr_assign rfl) ?_
    refine jo_nil ?_
    refine jq_then ?_
    refine jc_ret ?_
    refine jq_in_ret ?_
    refine jq_then_ret ?_
    exact jq_ret1 rfl () rfl (show (str (nameK kind) : Value) = (str ([65, 99, 99, 101, 112, 116])) from congrArg str (by simp [nameK, *])) (fun _ h => h)
  · have h1 := of_decide_eq_false h1b
    refine jc_seq ?_
    refine jc_region ?_
    refine jo_pure rfl (pr_eql (n := 2) rfl rfl) ?_
    refine jo_pure rfl (pr_assign rfl) ?_
    refine jo_nil ?_
    refine jq_then ?_
    refine jc_cond rfl (fun h2b => ?_) (fun h2b => ?_)
    · have h2 := of_decide_eq_true h2b
      refine jc_seq ?_
      refine jc_region ?_
      refine jo_pure rfl (pr_assign rfl) ?_
      refine jo_nil ?_
      refine jq_then ?_
      refine jc_ret ?_
      refine jq_in_ret ?_
      refine jq_then_ret ?_
      exact jq_ret1 rfl () rfl (show (str (nameK kind) : Value) = (str ([65, 99, 99, 101, 112, 116, 45, 76, 97, 110, 103, 117, 97, 103, 101])) from congrArg str (by simp [nameK, *])) (fun _ h => h)
    · have h2 := of_decide_eq_false h2b
      refine jc_seq ?_
      refine jc_region ?_
      refine jo_pure rfl (pr_eql (n := 3) rfl rfl) ?_
      refine jo_pure rfl (pr_assign rfl) ?_
      refine jo_nil ?_
      refine jq_then ?_
      refine jc_cond rfl (fun h3b => ?_) (fun h3b => ?_)
      · have h3 := of_decide_eq_true h3b
        refine jc_seq ?_
        refine jc_region ?_
        refine jo_pure rfl (pr_assign rfl) ?_
        refine jo_nil ?_
        refine jq_then ?_
        refine jc_ret ?_
        refine jq_in_ret ?_
        refine jq_then_ret ?_
        exact jq_ret1 rfl () rfl (show (str (nameK kind) : Value) = (str ([65, 99, 99, 101, 112, 116, 45, 67, 104, 97, 114, 115, 101, 116])) from congrArg str (by simp [nameK, *])) (fun _ h => h)
      · have h3 := of_decide_eq_false h3b
        refine jc_seq ?_
        refine jc_region ?_
        refine jo_pure rfl (pr_eql (n := 4) rfl rfl) ?_
        refine jo_pure rfl (pr_assign rfl) ?_
        refine jo_nil ?_
        refine jq_then ?_
        refine jc_cond rfl (fun h4b => ?_) (fun h4b => ?_)
        · have h4 := of_decide_eq_true h4b
          refine jc_seq ?_
          refine jc_region ?_
          refine jo_pure rfl (pr_assign rfl) ?_
          refine jo_nil ?_
          refine jq_then ?_
          refine jc_ret ?_
          refine jq_in_ret ?_
          refine jq_then_ret ?_
          exact jq_ret1 rfl () rfl (show (str (nameK kind) : Value) = (str ([65, 99, 99, 101, 112, 116, 45, 69, 110, 99, 111, 100, 105, 110, 103])) from congrArg str (by simp [nameK, *])) (fun _ h => h)
        · have h4 := of_decide_eq_false h4b
          refine jc_skip ?_
          refine jq_in_normal ?_
          refine jq_then ?_
          refine jc_seq ?_
          refine jc_region ?_
          refine jo_pure rfl (pr_assign rfl) ?_
          refine jo_nil ?_
          refine jq_then ?_
          refine jc_ret ?_
          exact jq_ret1 rfl () rfl (show (str (nameK kind) : Value) = (str ([])) from congrArg str (by simp [nameK, *])) (fun _ h => h)

theorem c_accept_Kind (name : List UInt8) (hn : name.length ≤ 1000000) : Con Tryz.prog 100 #[str (name)] [] (fun _ : Unit => .int .i64 (kindF name)) (fun _ => []) := by
  refine con_of_J (args := [str (name)]) (n := 13) Tryz.func100 rfl (Nat.le_of_ble_eq_true rfl) rfl (fun w0 I0 m0 => ?_)
  show J _ [(0, str (name))] [] _
  refine jc_seq ?_
  refine jc_region ?_
  refine jo_pure rfl (pr_assign rfl) ?_
  refine jo_nil ?_
  refine jq_then ?_
  refine jc_seq ?_
  refine jc_seq ?_
  refine jc_region ?_
  refine jo_pure rfl (pr_assign rfl) ?_
  refine jo_nil ?_
  refine jq_then ?_
  refine jc_block ?_
  refine jc_loop (fun (k : Nat) => [(0, str (name)), (3, .int .i64 ((k : Nat) : Int))]) (fun (k : Nat) => []) (fun (k : Nat) => 1 ≤ k ∧ k ≤ 5 ∧ ∀ j : Nat, 1 ≤ j → j < k → fold name (nameK (j : Int)) = false) (fun (k : Nat) => 5 - k) 1 (⟨Nat.le_refl _, by omega, fun j a b => absurd a (by omega)⟩) (⟨rfl, rfl, trivial⟩) (fun _ h => h) (fun k hinv => ?_)
  refine jc_seq ?_
  refine jc_seq ?_
  refine jc_region ?_
  refine jo_pure rfl (pr_move rfl) ?_
  refine jo_pure rfl (pr_leqN (m := k) (n := 4) rfl rfl) ?_
  refine jo_nil ?_
  refine jq_then ?_
  refine jc_cond rfl (fun h1b => ?_) (fun h1b => ?_)
  · have h1 := of_decide_eq_true h1b
    refine jc_skip ?_
    refine jq_then ?_
    refine jc_seq ?_
    refine jc_block ?_
    refine jc_seq ?_
    refine jc_region ?_
    refine jo_pure rfl (pr_move rfl) ?_
    refine jo_pure rfl (pr_move rfl) ?_
    refine jo_callp cal_123 (c_accept_Name ((k : Nat) : Int)) ⟨rfl, trivial⟩ rfl (trivial) (fun _ => ?_)
    refine jo_callp cal_122 (c_ascii_Fold name (nameK ((k : Nat) : Int)) (by first | omega | (have := nameK_length ((k : Nat) : Int); omega)) (by first | omega | (have := nameK_length ((k : Nat) : Int); omega))) ⟨rfl, rfl, trivial⟩ rfl (trivial) (fun _ => ?_)
    refine jo_nil ?_
    refine jq_then ?_
    refine jc_cond rfl (fun h2b => ?_) (fun h2b => ?_)
    · have h2 := id h2b
      refine jc_seq ?_
      refine jc_region ?_
      refine jo_pure rfl (pr_move rfl) ?_
      refine jo_pure rfl (pr_assign rfl) ?_
      refine jo_nil ?_
      refine jq_then ?_
      refine jc_ret ?_
      refine jq_in_ret ?_
      refine jq_then_ret ?_
      refine jq_then_ret ?_
      refine jq_in_ret ?_
      refine jq_then_ret ?_
      exact jq_ret1 rfl () rfl (show (.int .i64 (kindF name) : Value) = (.int .i64 ((k : Nat) : Int)) from congrArg (Value.int .i64) (by rw [kindF_hit hinv.1 (by omega) hinv.2.2 (by simpa using h2b)])) (fun _ h => h)
    · have h2 := id h2b
      refine jc_skip ?_
      refine jq_in_normal ?_
      refine jq_then ?_
      refine jc_region ?_
      refine jo_pure rfl (pr_move rfl) ?_
      refine jo_pure rfl (pr_addN (m := k) (n := 1) rfl rfl (by omega)) ?_
      refine jo_pure rfl (pr_assign rfl) ?_
      refine jo_nil ?_
      refine jq_round' (k + 1) (by (try dsimp only); exact (⟨by omega, by omega, fun j a b => by rcases Nat.lt_or_ge j k with q | q; exact hinv.2.2 j a q; have e : j = k := (by omega); rw [e]; simpa using h2b⟩)) (by (try dsimp only); exact (by omega)) ⟨rfl, rfl, trivial⟩ (fun _ h => h)
  · have h1 := of_decide_eq_false h1b
    refine jc_exit ?_
    refine jq_then_exit ?_
    refine jq_then_exit ?_
    refine jq_in_hit ?_
    refine jq_then ?_
    refine jc_seq ?_
    refine jc_region ?_
    refine jo_pure rfl (pr_assign rfl) ?_
    refine jo_nil ?_
    refine jq_then ?_
    refine jc_ret ?_
    exact jq_ret1 rfl () rfl (show (.int .i64 (kindF name) : Value) = (.int .i64 ((0 : Nat) : Int)) from congrArg (Value.int .i64) (by rw [kindF_none (by omega) hinv.2.2]; rfl)) (fun _ h => h)

theorem c_ref10_Kind (name : List UInt8) (hn : name.length ≤ 1000000) : Con Tryz.prog 32 #[str (name)] [] (fun _ : Unit => .int .i64 (kindF name)) (fun _ => []) := by
  refine con_of_J (args := [str (name)]) (n := 13) Tryz.func32 rfl (Nat.le_of_ble_eq_true rfl) rfl (fun w0 I0 m0 => ?_)
  show J _ [(0, str (name))] [] _
  refine jc_seq ?_
  refine jc_region ?_
  refine jo_pure rfl (pr_assign rfl) ?_
  refine jo_nil ?_
  refine jq_then ?_
  refine jc_seq ?_
  refine jc_seq ?_
  refine jc_region ?_
  refine jo_pure rfl (pr_assign rfl) ?_
  refine jo_nil ?_
  refine jq_then ?_
  refine jc_block ?_
  refine jc_loop (fun (k : Nat) => [(0, str (name)), (3, .int .i64 ((k : Nat) : Int))]) (fun (k : Nat) => []) (fun (k : Nat) => 1 ≤ k ∧ k ≤ 5 ∧ ∀ j : Nat, 1 ≤ j → j < k → fold name (nameK (j : Int)) = false) (fun (k : Nat) => 5 - k) 1 (⟨Nat.le_refl _, by omega, fun j a b => absurd a (by omega)⟩) (⟨rfl, rfl, trivial⟩) (fun _ h => h) (fun k hinv => ?_)
  refine jc_seq ?_
  refine jc_seq ?_
  refine jc_region ?_
  refine jo_pure rfl (pr_move rfl) ?_
  refine jo_pure rfl (pr_leqN (m := k) (n := 4) rfl rfl) ?_
  refine jo_nil ?_
  refine jq_then ?_
  refine jc_cond rfl (fun h1b => ?_) (fun h1b => ?_)
  · have h1 := of_decide_eq_true h1b
    refine jc_skip ?_
    refine jq_then ?_
    refine jc_seq ?_
    refine jc_block ?_
    refine jc_seq ?_
    refine jc_region ?_
    refine jo_pure rfl (pr_move rfl) ?_
    refine jo_pure rfl (pr_move rfl) ?_
    refine jo_callp cal_72 (c_ref10_Name ((k : Nat) : Int)) ⟨rfl, trivial⟩ rfl (trivial) (fun _ => ?_)
    refine jo_callp cal_70 (c_ref01_Fold name (nameK ((k : Nat) : Int)) (by first | omega | (have := nameK_length ((k : Nat) : Int); omega)) (by first | omega | (have := nameK_length ((k : Nat) : Int); omega))) ⟨rfl, rfl, trivial⟩ rfl (trivial) (fun _ => ?_)
    refine jo_nil ?_
    refine jq_then ?_
    refine jc_cond rfl (fun h2b => ?_) (fun h2b => ?_)
    · have h2 := id h2b
      refine jc_seq ?_
      refine jc_region ?_
      refine jo_pure rfl (pr_move rfl) ?_
      refine jo_pure rfl (pr_assign rfl) ?_
      refine jo_nil ?_
      refine jq_then ?_
      refine jc_ret ?_
      refine jq_in_ret ?_
      refine jq_then_ret ?_
      refine jq_then_ret ?_
      refine jq_in_ret ?_
      refine jq_then_ret ?_
      exact jq_ret1 rfl () rfl (show (.int .i64 (kindF name) : Value) = (.int .i64 ((k : Nat) : Int)) from congrArg (Value.int .i64) (by rw [kindF_hit hinv.1 (by omega) hinv.2.2 (by simpa using h2b)])) (fun _ h => h)
    · have h2 := id h2b
      refine jc_skip ?_
      refine jq_in_normal ?_
      refine jq_then ?_
      refine jc_region ?_
      refine jo_pure rfl (pr_move rfl) ?_
      refine jo_pure rfl (pr_addN (m := k) (n := 1) rfl rfl (by omega)) ?_
      refine jo_pure rfl (pr_assign rfl) ?_
      refine jo_nil ?_
      refine jq_round' (k + 1) (by (try dsimp only); exact (⟨by omega, by omega, fun j a b => by rcases Nat.lt_or_ge j k with q | q; exact hinv.2.2 j a q; have e : j = k := (by omega); rw [e]; simpa using h2b⟩)) (by (try dsimp only); exact (by omega)) ⟨rfl, rfl, trivial⟩ (fun _ h => h)
  · have h1 := of_decide_eq_false h1b
    refine jc_exit ?_
    refine jq_then_exit ?_
    refine jq_then_exit ?_
    refine jq_in_hit ?_
    refine jq_then ?_
    refine jc_seq ?_
    refine jc_region ?_
    refine jo_pure rfl (pr_assign rfl) ?_
    refine jo_nil ?_
    refine jq_then ?_
    refine jc_ret ?_
    exact jq_ret1 rfl () rfl (show (.int .i64 (kindF name) : Value) = (.int .i64 ((0 : Nat) : Int)) from congrArg (Value.int .i64) (by rw [kindF_none (by omega) hinv.2.2]; rfl)) (fun _ h => h)

theorem c_ref01_Split (v : List UInt8) (hs : v.length ≤ 1000000) : Con Tryz.prog 87 #[str (v)] [] (fun r1 : Value => r1) (fun r1 => [.row r1 9 .str (splitF v)]) := by
  refine con_of_J (args := [str (v)]) (n := 32) Tryz.func87 rfl (Nat.le_of_ble_eq_true rfl) rfl (fun w0 I0 m0 => ?_)
  show J _ [(0, str (v))] [] _
  refine jc_seq ?_
  refine jc_region ?_
  refine jo_pure rfl (pr_assign rfl) ?_
  refine jo_nil ?_
  refine jq_then ?_
  refine jc_seq ?_
  refine jc_region ?_
  refine jo_pure rfl (pr_assign rfl) ?_
  refine jo_nil ?_
  refine jq_then ?_
  refine jc_seq ?_
  refine jc_region ?_
  refine jo_pure rfl (pr_move rfl) ?_
  refine jo_callp cal_116 (c_ref01_Cut v 44 (by first | omega | (have := getD_len (i := i) (cutF_mem v 44); omega))) ⟨rfl, rfl, trivial⟩ rfl (trivial) (fun r1 => ?_)
  show J _ _ [.row (r1) 9 .str (cutF v 44)] _
  refine jo_pure rfl (pr_assign rfl) ?_
  refine jo_nil ?_
  refine jq_then ?_
  refine jc_seq ?_
  refine jc_seq ?_
  refine jc_region ?_
  refine jo_pure rfl (pr_assign rfl) ?_
  refine jo_nil ?_
  refine jq_then ?_
  refine jc_block ?_
  refine j_nil_row 9 .str ?_
  refine jc_loop3 (fun (i : Nat) (w : Value) (acc : List (List UInt8)) => [(3, w), (4, r1), (5, .int .i64 ((i : Nat) : Int))]) (fun (i : Nat) (w : Value) (acc : List (List UInt8)) => [.row (w) 9 .str (acc), .row (r1) 9 .str (cutF v 44)]) (fun (i : Nat) (w : Value) (acc : List (List UInt8)) => i ≤ (cutF v 44).length ∧ (cutF v 44).length ≤ v.length + 1 ∧ acc.length ≤ 64 ∧ acc ++ memG ((cutF v 44).drop i) = memG (cutF v 44)) (fun (i : Nat) (w : Value) (acc : List (List UInt8)) => (cutF v 44).length - i) 0 (.slice none 0 0) [] (⟨Nat.zero_le _, cutF_length v 44, by simp, rfl⟩) (⟨rfl, rfl, rfl, trivial⟩) (fun _ h => h) (fun i w acc hinv => ?_)
  refine jc_seq ?_
  refine jc_seq ?_
  refine jc_region ?_
  refine jo_pure rfl (pr_move rfl) ?_
  refine jo_pure rfl (pr_move rfl) ?_
  refine jo_pure rfl (pr_len_row rfl (.tail _ (.head _)) Tryz.underlying45) ?_
  refine jo_pure rfl (pr_lssN (m := i) (n := (cutF v 44).length) rfl rfl) ?_
  refine jo_pure rfl (pr_move rfl) ?_
  refine jo_gpure (j := 4) (want := true) rfl rfl rfl rfl (fun hg => pr_move rfl) ?_
  refine jo_gpure (j := 4) (want := true) rfl rfl rfl rfl (fun hg => pr_len_row (evg rfl hg) (.head _) Tryz.underlying45) ?_
  refine jo_gpure (j := 4) (want := true) rfl rfl rfl rfl (fun hg => pr_lssN (m := acc.length) (n := 64) (evg rfl hg) rfl) ?_
  refine jo_pure rfl (pr_pick_and rfl rfl rfl) ?_
  refine jo_nil ?_
  refine jq_then ?_
  refine jc_cond rfl (fun h1b => ?_) (fun h1b => ?_)
  · have h1 := (fun q => And.imp of_decide_eq_true of_decide_eq_true (bt_and q)) h1b
    refine jc_skip ?_
    refine jq_then ?_
    refine jc_seq ?_
    refine jc_block ?_
    refine jc_seq ?_
    refine jc_region ?_
    refine jo_pure rfl (pr_move rfl) ?_
    refine jo_pure rfl (pr_move rfl) ?_
    refine jo_pure rfl (pr_idx_row (i := i) rfl (.tail _ (.head _)) rfl Tryz.underlying45 ty_9 (by omega)) ?_
    refine jo_pure rfl (pr_load_elem_row (i := i) (str ((cutF v 44).getD i [])) rfl (.tail _ (.head _)) ty_9 rfl rfl (by omega) rfl) ?_
    refine jo_callp cal_69 (c_ref01_Trim ((cutF v 44).getD i []) (by first | omega | (have := getD_len (i := i) (cutF_mem v 44); omega))) ⟨rfl, trivial⟩ rfl (trivial) (fun _ => ?_)
    refine jo_pure rfl (pr_assign rfl) ?_
    refine jo_nil ?_
    refine jq_then ?_
    refine jc_seq ?_
    refine jc_region ?_
    refine jo_pure rfl (pr_move rfl) ?_
    refine jo_pure rfl (pr_sneq rfl rfl) ?_
    refine jo_nil ?_
    refine jq_then ?_
    refine jc_cond rfl (fun h2b => ?_) (fun h2b => ?_)
    · have h2 := (fun q => of_decide_eq_false (bt_not q)) h2b
      refine jc_region ?_
      refine jo_pure rfl (pr_move rfl) ?_
      refine jo_pure rfl (pr_move rfl) ?_
      refine jo_buildSlice (t := .str) [trim ((cutF v 44).getD i [])] [str (trim ((cutF v 44).getD i []))] (fun a hf => by simp only [List.zipIdx_cons, List.zipIdx_nil, List.map_toArray, List.map_cons, List.map_nil, hf.ev (show ev _ (.tmp 28) = some (str (trim ((cutF v 44).getD i []))) from rfl)] <;> rfl) rfl Tryz.underlying45 ty_9 rfl rfl rfl rfl rfl (fun g1 => ?_)
      refine j_pull1 ?_
      refine jo_append rfl rfl Tryz.underlying45 ty_9 rfl (by simp only [List.length_append, List.length_cons, List.length_nil, maxLen]; omega) (by simp only [List.length_append, List.length_cons, List.length_nil]; omega) rfl (fun v1 => ?_)
      refine jo_pure rfl (pr_assign rfl) ?_
      refine jo_nil ?_
      refine jq_in_normal ?_
      refine jq_then ?_
      refine jc_region ?_
      refine jo_pure rfl (pr_move rfl) ?_
      refine jo_pure rfl (pr_addN (m := i) (n := 1) rfl rfl (by omega)) ?_
      refine jo_pure rfl (pr_assign rfl) ?_
      refine jo_nil ?_
      refine j_pull1 ?_
      refine j_pull1 ?_
      refine jq_round' ((i + 1), v1, (acc ++ [trim ((cutF v 44).getD i [])])) (by (try dsimp only); exact (⟨by omega, hinv.2.1, by simp; omega, split_more h1.1 h2 hinv.2.2.2⟩)) (by (try dsimp only); exact (by omega)) ⟨rfl, rfl, rfl, trivial⟩ (fun _ h => h)
    · have h2 := (fun q => of_decide_eq_true (bf_not q)) h2b
      refine jc_skip ?_
      refine jq_in_normal ?_
      refine jq_then ?_
      refine jc_region ?_
      refine jo_pure rfl (pr_move rfl) ?_
      refine jo_pure rfl (pr_addN (m := i) (n := 1) rfl rfl (by omega)) ?_
      refine jo_pure rfl (pr_assign rfl) ?_
      refine jo_nil ?_
      refine j_pull1 ?_
      refine j_pull1 ?_
      refine jq_round' ((i + 1), w, acc) (by (try dsimp only); exact (⟨by omega, hinv.2.1, hinv.2.2.1, split_less h1.1 h2 hinv.2.2.2⟩)) (by (try dsimp only); exact (by omega)) ⟨rfl, rfl, rfl, trivial⟩ (fun _ h => h)
  · have h1 := (fun q => Or.imp of_decide_eq_false of_decide_eq_false (bf_and q)) h1b
    refine jc_exit ?_
    refine jq_then_exit ?_
    refine jq_then_exit ?_
    refine jq_in_hit ?_
    refine jq_then ?_
    refine jc_seq ?_
    refine jc_region ?_
    refine jo_pure rfl (pr_move rfl) ?_
    refine jo_pure rfl (pr_assign rfl) ?_
    refine jo_nil ?_
    refine jq_then ?_
    refine jc_ret ?_
    refine j_pull1 ?_
    refine j_drop ?_
    exact jq_ret1 rfl w rfl (show (w : Value) = (w) from rfl) (fun _ h => by rw [memG_done (h1.imp id (fun q => by omega)) hinv.2.2.1 hinv.2.2.2] at h; exact h)

theorem c_ref01_All (l : List ((List UInt8) × (List UInt8))) (lv : Value) (name : List UInt8) (hl : l.length ≤ 1000000) (hm : ∀ x ∈ l, x.1.length ≤ 1000000 ∧ x.2.length ≤ 1000000) (hn : name.length ≤ 1000000) : Con Tryz.prog 46 #[lv, str (name)] [.imm (.list (.pair .str .str)) (lv) (l)] (fun r1 : Value => r1) (fun r1 => [.row r1 9 .str (allF l name)]) := by
  refine con_of_J (args := [lv, str (name)]) (n := 43) Tryz.func46 rfl (Nat.le_of_ble_eq_true rfl) rfl (fun w0 I0 m0 => ?_)
  show J _ [(0, lv), (1, str (name))] [.imm (.list (.pair .str .str)) (lv) (l)] _
  refine jc_seq ?_
  refine jc_region ?_
  refine jo_pure rfl (pr_assign rfl) ?_
  refine jo_nil ?_
  refine jq_then ?_
  refine jc_seq ?_
  refine jc_region ?_
  refine jo_pure rfl (pr_assign rfl) ?_
  refine jo_nil ?_
  refine jq_then ?_
  refine jc_seq ?_
  refine jc_region ?_
  refine jo_pure rfl (pr_move rfl) ?_
  refine jo_pure rfl (pr_move rfl) ?_
  refine jo_callp cal_86 (c_ref01_Get l lv name (by first | omega | exact hm | (have := getD_len (i := i) (getF_mem (n := 1000000) hm (name := name)); omega)) (by first | omega | exact hm | (have := getD_len (i := i) (getF_mem (n := 1000000) hm (name := name)); omega)) (by first | omega | exact hm | (have := getD_len (i := i) (getF_mem (n := 1000000) hm (name := name)); omega))) ⟨rfl, rfl, trivial⟩ rfl (⟨⟨rfl, .head _⟩, trivial⟩) (fun r1 => ?_)
  show J _ _ [.row (r1) 9 .str (getF l name), .imm (.list (.pair .str .str)) (lv) (l)] _
  refine jo_pure rfl (pr_assign rfl) ?_
  refine jo_nil ?_
  refine jq_then ?_
  refine jc_seq ?_
  refine jc_seq ?_
  refine jc_region ?_
  refine jo_pure rfl (pr_assign rfl) ?_
  refine jo_nil ?_
  refine jq_then ?_
  refine jc_block ?_
  refine j_nil_row 9 .str ?_
  refine jc_loop3 (fun (i : Nat) (w : Value) (acc : List (List UInt8)) => [(5, w), (6, r1), (7, .int .i64 ((i : Nat) : Int))]) (fun (i : Nat) (w : Value) (acc : List (List UInt8)) => [.row (w) 9 .str (acc), .row (r1) 9 .str (getF l name), .imm (.list (.pair .str .str)) (lv) (l)]) (fun (i : Nat) (w : Value) (acc : List (List UInt8)) => i ≤ (getF l name).length ∧ (getF l name).length ≤ 1000000 ∧ acc = (((getF l name).take i).flatMap splitF).take 64) (fun (i : Nat) (w : Value) (acc : List (List UInt8)) => (getF l name).length - i) 0 (.slice none 0 0) [] (⟨Nat.zero_le _, Nat.le_trans (getF_length l name) hl, rfl⟩) (⟨rfl, rfl, rfl, trivial⟩) (fun _ h => h) (fun i w acc hinv => ?_)
  refine jc_seq ?_
  refine jc_seq ?_
  refine jc_region ?_
  refine jo_pure rfl (pr_move rfl) ?_
  refine jo_pure rfl (pr_move rfl) ?_
  refine jo_pure rfl (pr_len_row rfl (.tail _ (.head _)) Tryz.underlying45) ?_
  refine jo_pure rfl (pr_lssN (m := i) (n := (getF l name).length) rfl rfl) ?_
  refine jo_nil ?_
  refine jq_then ?_
  refine jc_cond rfl (fun h1b => ?_) (fun h1b => ?_)
  · have h1 := of_decide_eq_true h1b
    refine jc_skip ?_
    refine jq_then ?_
    refine jc_seq ?_
    refine jc_block ?_
    refine jc_seq ?_
    refine jc_region ?_
    refine jo_pure rfl (pr_move rfl) ?_
    refine jo_pure rfl (pr_move rfl) ?_
    refine jo_pure rfl (pr_idx_row (i := i) rfl (.tail _ (.head _)) rfl Tryz.underlying45 ty_9 (by omega)) ?_
    refine jo_pure rfl (pr_load_elem_row (i := i) (str ((getF l name).getD i [])) rfl (.tail _ (.head _)) ty_9 rfl rfl (by omega) rfl) ?_
    refine jo_callp cal_87 (c_ref01_Split ((getF l name).getD i []) (by first | omega | exact hm | (have := getD_len (i := i) (getF_mem (n := 1000000) hm (name := name)); omega))) ⟨rfl, trivial⟩ rfl (trivial) (fun r2 => ?_)
    show J _ _ [.row (r2) 9 .str (splitF ((getF l name).getD i [])), .row (w) 9 .str (acc), .row (r1) 9 .str (getF l name), .imm (.list (.pair .str .str)) (lv) (l)] _
    refine jo_pure rfl (pr_assign rfl) ?_
    refine jo_nil ?_
    refine jq_then ?_
    refine jc_seq ?_
    refine jc_region ?_
    refine jo_pure rfl (pr_assign rfl) ?_
    refine jo_nil ?_
    refine jq_then ?_
    refine jc_block ?_
    refine jc_loop3 (fun (k : Nat) (w2 : Value) (acc2 : List (List UInt8)) => [(5, w2), (6, r1), (7, .int .i64 ((i : Nat) : Int)), (8, r2), (9, .int .i64 ((k : Nat) : Int))]) (fun (k : Nat) (w2 : Value) (acc2 : List (List UInt8)) => [.row (r2) 9 .str (splitF ((getF l name).getD i [])), .row (w2) 9 .str (acc2), .row (r1) 9 .str (getF l name), .imm (.list (.pair .str .str)) (lv) (l)]) (fun (k : Nat) (w2 : Value) (acc2 : List (List UInt8)) => k ≤ (splitF ((getF l name).getD i [])).length ∧ (splitF ((getF l name).getD i [])).length ≤ 64 ∧ acc2 = (((getF l name).take i).flatMap splitF ++ (splitF ((getF l name).getD i [])).take k).take 64) (fun (k : Nat) (w2 : Value) (acc2 : List (List UInt8)) => (splitF ((getF l name).getD i [])).length - k) 0 w acc (⟨Nat.zero_le _, splitF_length _, by rw [hinv.2.2]; simp⟩) (⟨rfl, rfl, rfl, rfl, rfl, trivial⟩) (fun _ h => h) (fun k w2 acc2 hink => ?_)
    refine jc_seq ?_
    refine jc_seq ?_
    refine jc_region ?_
    refine jo_pure rfl (pr_move rfl) ?_
    refine jo_pure rfl (pr_move rfl) ?_
    refine jo_pure rfl (pr_len_row rfl (.head _) Tryz.underlying45) ?_
    refine jo_pure rfl (pr_lssN (m := k) (n := (splitF ((getF l name).getD i [])).length) rfl rfl) ?_
    refine jo_pure rfl (pr_move rfl) ?_
    refine jo_gpure (j := 4) (want := true) rfl rfl rfl rfl (fun hg => pr_move rfl) ?_
    refine jo_gpure (j := 4) (want := true) rfl rfl rfl rfl (fun hg => pr_len_row (evg rfl hg) (.tail _ (.head _)) Tryz.underlying45) ?_
    refine jo_gpure (j := 4) (want := true) rfl rfl rfl rfl (fun hg => pr_lssN (m := acc2.length) (n := 64) (evg rfl hg) rfl) ?_
    refine jo_pure rfl (pr_pick_and rfl rfl rfl) ?_
    refine jo_nil ?_
    refine jq_then ?_
    refine jc_cond rfl (fun h2b => ?_) (fun h2b => ?_)
    · have h2 := (fun q => And.imp of_decide_eq_true of_decide_eq_true (bt_and q)) h2b
      refine jc_skip ?_
      refine jq_then ?_
      refine jc_seq ?_
      refine jc_block ?_
      refine jc_region ?_
      refine jo_pure rfl (pr_move rfl) ?_
      refine jo_pure rfl (pr_move rfl) ?_
      refine jo_pure rfl (pr_move rfl) ?_
      refine jo_pure rfl (pr_idx_row (i := k) rfl (.head _) rfl Tryz.underlying45 ty_9 (by omega)) ?_
      refine jo_pure rfl (pr_load_elem_row (i := k) (str ((splitF ((getF l name).getD i [])).getD k [])) rfl (.head _) ty_9 rfl rfl (by omega) rfl) ?_
      refine jo_buildSlice (t := .str) [(splitF ((getF l name).getD i [])).getD k []] [str ((splitF ((getF l name).getD i [])).getD k [])] (fun a hf => by simp only [List.zipIdx_cons, List.zipIdx_nil, List.map_toArray, List.map_cons, List.map_nil, hf.ev (show ev _ (.tmp 39) = some (str ((splitF ((getF l name).getD i [])).getD k [])) from rfl)] <;> rfl) rfl Tryz.underlying45 ty_9 rfl rfl rfl rfl rfl (fun g1 => ?_)
      refine j_pull2 ?_
      refine jo_append rfl rfl Tryz.underlying45 ty_9 rfl (by simp only [List.length_append, List.length_cons, List.length_nil, maxLen]; omega) (by simp only [List.length_append, List.length_cons, List.length_nil]; omega) rfl (fun v1 => ?_)
      refine jo_pure rfl (pr_assign rfl) ?_
      refine jo_nil ?_
      refine jq_in_normal ?_
      refine jq_then ?_
      refine jc_region ?_
      refine jo_pure rfl (pr_move rfl) ?_
      refine jo_pure rfl (pr_addN (m := k) (n := 1) rfl rfl (by omega)) ?_
      refine jo_pure rfl (pr_assign rfl) ?_
      refine jo_nil ?_
      refine j_pull3 ?_
      refine j_pull3 ?_
      refine j_pull2 ?_
      refine j_pull3 ?_
      refine jq_round' ((k + 1), v1, (acc2 ++ [(splitF ((getF l name).getD i [])).getD k []])) (by (try dsimp only); exact (⟨by omega, hink.2.1, by have h9 := h2.2; rw [hink.2.2] at h9 ⊢; exact take64_step h2.1 h9⟩)) (by (try dsimp only); exact (by omega)) ⟨rfl, rfl, rfl, rfl, rfl, trivial⟩ (fun _ h => h)
    · have h2 := (fun q => Or.imp of_decide_eq_false of_decide_eq_false (bf_and q)) h2b
      refine jc_exit ?_
      refine jq_then_exit ?_
      refine jq_then_exit ?_
      refine jq_in_hit ?_
      refine jq_in_normal ?_
      refine jq_then ?_
      refine jc_region ?_
      refine jo_pure rfl (pr_move rfl) ?_
      refine jo_pure rfl (pr_addN (m := i) (n := 1) rfl rfl (by omega)) ?_
      refine jo_pure rfl (pr_assign rfl) ?_
      refine jo_nil ?_
      refine j_drop ?_
      refine j_pull2 ?_
      refine j_pull2 ?_
      refine j_pull2 ?_
      refine jq_round' ((i + 1), w2, acc2) (by (try dsimp only); exact (⟨by omega, hinv.2.1, by rw [hink.2.2, take64_end hink.1 (h2.imp id (fun q => by rw [← hink.2.2]; omega)), flat_take_step h1]⟩)) (by (try dsimp only); exact (by omega)) ⟨rfl, rfl, rfl, trivial⟩ (fun _ h => h)
  · have h1 := of_decide_eq_false h1b
    refine jc_exit ?_
    refine jq_then_exit ?_
    refine jq_then_exit ?_
    refine jq_in_hit ?_
    refine jq_then ?_
    refine jc_seq ?_
    refine jc_region ?_
    refine jo_pure rfl (pr_move rfl) ?_
    refine jo_pure rfl (pr_assign rfl) ?_
    refine jo_nil ?_
    refine jq_then ?_
    refine jc_ret ?_
    refine j_pull1 ?_
    refine j_drop ?_
    refine j_pull1 ?_
    refine j_drop ?_
    exact jq_ret1 rfl w rfl (show (w : Value) = (w) from rfl) (fun _ h => by rw [hinv.2.2, take_over (s := (getF l name)) (i := i) (by omega)] at h; exact h)

theorem c_ref01_Digit (c : UInt8)  : Con Tryz.prog 103 #[byte (c)] [] (fun _ : Unit => .bool (digB c)) (fun _ => []) := by
  refine con_of_J (args := [byte (c)]) (n := 9) Tryz.func103 rfl (Nat.le_of_ble_eq_true rfl) rfl (fun w0 I0 m0 => ?_)
  show J _ [(0, byte (c))] [] _
  refine jc_seq ?_
  refine jc_region ?_
  refine jo_pure rfl (pr_assign rfl) ?_
  refine jo_nil ?_
  refine jq_then ?_
  refine jc_seq ?_
  refine jc_region ?_
  refine jo_pure rfl (pr_move rfl) ?_
  refine jo_pure rfl (pr_bgeq (n := 48) rfl rfl) ?_
  refine jo_pure rfl (pr_move rfl) ?_
  refine jo_gpure (j := 2) (want := true) rfl rfl rfl rfl (fun hg => pr_move rfl) ?_
  refine jo_gpure (j := 2) (want := true) rfl rfl rfl rfl (fun hg => pr_bleq (n := 57) (evg rfl hg) rfl) ?_
  refine jo_pure rfl (pr_pick_and rfl rfl rfl) ?_
  refine jo_pure rfl (pr_assign rfl) ?_
  refine jo_nil ?_
  refine jq_then ?_
  refine jc_ret ?_
  exact jq_ret1 rfl () rfl (show (.bool (digB c) : Value) = (.bool ((decide ((48 : UInt8) ≤ c) && decide ((c : UInt8) ≤ 57)))) from rfl) (fun _ h => h)

theorem c_ref10_subtags (s : List UInt8) (hs : s.length ≤ 1000000) : Con Tryz.prog 102 #[str (s)] [] (fun r1 : Value => r1) (fun r1 => [.imm (.list .str) r1 (cutAt 45 [] s)]) := by
  refine con_of_J (args := [str (s)]) (n := 23) Tryz.func102 rfl (Nat.le_of_ble_eq_true rfl) rfl (fun w0 I0 m0 => ?_)
  show J _ [(0, str (s))] [] _
  refine jc_seq ?_
  refine jc_region ?_
  refine jo_pure rfl (pr_assign rfl) ?_
  refine jo_nil ?_
  refine jq_then ?_
  refine jc_seq ?_
  refine jc_region ?_
  refine jo_pure rfl (pr_assign rfl) ?_
  refine jo_nil ?_
  refine jq_then ?_
  refine jc_block ?_
  refine j_nil_row 9 .str ?_
  refine jc_loop3 (fun (t : List UInt8) (w : Value) (acc : List (List UInt8)) => [(0, str (t)), (3, w)]) (fun (t : List UInt8) (w : Value) (acc : List (List UInt8)) => [.row (w) 9 .str (acc)]) (fun (t : List UInt8) (w : Value) (acc : List (List UInt8)) => acc ++ cutAt 45 [] t = cutAt 45 [] s ∧ acc.length + t.length ≤ s.length) (fun (t : List UInt8) (w : Value) (acc : List (List UInt8)) => t.length) s (.slice none 0 0) [] (⟨rfl, by simp⟩) (⟨rfl, rfl, trivial⟩) (fun _ h => h) (fun t w acc hinv => ?_)
  refine jc_block ?_
  refine jc_seq ?_
  refine jc_region ?_
  refine jo_pure rfl (pr_move rfl) ?_
  refine jo_callp cal_60 (c_ref01_Index t 45 0 (by omega)) ⟨rfl, rfl, rfl, trivial⟩ rfl (trivial) (fun _ => ?_)
  refine jo_pure rfl (pr_assign rfl) ?_
  refine jo_nil ?_
  refine jq_then ?_
  refine jc_seq ?_
  refine jc_seq ?_
  by_cases hc : pos t 45 < t.length
  · skip
    rw [show (idxF t 45 0 : Int) = ((pos t 45 : Nat) : Int) from by rw [idxF_zero, idx_found hc]]
    refine jc_region ?_
    refine jo_pure rfl (pr_move rfl) ?_
    refine jo_pure rfl (pr_lssN (m := pos t 45) (n := 0) rfl rfl) ?_
    refine jo_nil ?_
    refine jq_then ?_
    refine jc_false rfl (by simp) ?_
    refine jc_skip ?_
    refine jq_then ?_
    refine jc_held (fun (v1 : Value) => [(0, str (t.drop ((pos t 45) + 1))), (3, v1)]) (fun v1 => [.row (v1) 9 .str (acc ++ [t.take (pos t 45)])]) [] mixed (fun lst hlst => ?_) (fun v1 => ?_)
    · subst hlst
      refine jh_take (listed' := #[true, false, false, false, false, false, false, false, false, false, false, false]) 0 rfl (by kernel_rfl) (by kernel_rfl) (by kernel_rfl) rfl (pr_move rfl) (fun _ h => Mem.drop1 (h)) rfl ?_
      refine jh_take (listed' := #[true, true, false, false, false, false, false, false, false, false, false, false]) 1 rfl (by kernel_rfl) (by kernel_rfl) (by kernel_rfl) rfl (pr_move rfl) (fun _ h => Mem.drop1 (h)) rfl ?_
      refine jh_take (listed' := #[true, true, true, false, false, false, false, false, false, false, false, false]) 2 rfl (by kernel_rfl) (by kernel_rfl) (by kernel_rfl) rfl (pr_move rfl) (fun _ h => Mem.drop1 (h)) rfl ?_
      refine jh_take (listed' := #[true, true, true, true, false, false, false, false, false, false, false, false]) 3 rfl (by kernel_rfl) (by kernel_rfl) (by kernel_rfl) rfl (pr_sslice_hi (j := pos t 45) rfl rfl Tryz.underlying9 (by omega)) (fun _ h => Mem.drop1 (h)) rfl ?_
      refine jh_take (listed' := #[true, true, true, true, false, false, true, false, false, false, false, false]) 6 rfl (by kernel_rfl) (by kernel_rfl) (by kernel_rfl) rfl (pr_move rfl) (fun _ h => Mem.drop1 (h)) rfl ?_
      refine jh_take (listed' := #[true, true, true, true, false, false, true, true, false, false, false, false]) 7 rfl (by kernel_rfl) (by kernel_rfl) (by kernel_rfl) rfl (pr_move rfl) (fun _ h => Mem.drop1 (h)) rfl ?_
      refine jh_take (listed' := #[true, true, true, true, false, false, true, true, true, false, false, false]) 8 rfl (by kernel_rfl) (by kernel_rfl) (by kernel_rfl) rfl (pr_addN (m := pos t 45) (n := 1) rfl rfl (by omega)) (fun _ h => Mem.drop1 (h)) rfl ?_
      refine jh_take (listed' := #[true, true, true, true, false, false, true, true, true, true, false, false]) 9 rfl (by kernel_rfl) (by kernel_rfl) (by kernel_rfl) rfl (pr_sslice_lo (i := (pos t 45) + 1) rfl rfl Tryz.underlying9 (by omega)) (fun _ h => Mem.drop1 (h)) rfl ?_
      refine jh_all [4] (by kernel_rfl) (by simp) (fun i hi => ?_)
      simp only [List.mem_cons, List.not_mem_nil, or_false] at hi
      subst hi
      · refine jh_op rfl ?_
        refine jo_buildSlice (t := .str) [t.take (pos t 45)] [str (t.take (pos t 45))] (fun a hf => by simp only [List.zipIdx_cons, List.zipIdx_nil, List.map_toArray, List.map_cons, List.map_nil, hf.ev (show ev _ (.tmp 16) = some (str (t.take (pos t 45))) from rfl)] <;> rfl) rfl Tryz.underlying45 ty_9 rfl rfl rfl rfl rfl (fun g1 => ?_)
        refine jh_in (listed' := #[true, true, true, true, true, false, true, true, true, true, false, false]) (fun _ h => Mem.drop1 (Mem.drop1 (h))) rfl ?_
        refine jh_all [5] (by kernel_rfl) (by simp) (fun i hi => ?_)
        simp only [List.mem_cons, List.not_mem_nil, or_false] at hi
        subst hi
        · refine jh_op rfl ?_
          refine j_pull1 ?_
          refine jo_append rfl rfl Tryz.underlying45 ty_9 rfl (by simp only [List.length_append, List.length_cons, List.length_nil, maxLen]; omega) (by simp only [List.length_append, List.length_cons, List.length_nil]; omega) rfl (fun v1 => ?_)
          refine jh_in (listed' := #[true, true, true, true, true, true, true, true, true, true, false, false]) (fun _ h => Mem.drop1 (h)) rfl ?_
          refine jh_take (listed' := #[true, true, true, true, true, true, true, true, true, true, true, false]) 10 rfl (by kernel_rfl) (by kernel_rfl) (by kernel_rfl) rfl (pr_assign rfl) (fun _ h => Mem.drop1 (h)) rfl ?_
          refine jh_take (listed' := #[true, true, true, true, true, true, true, true, true, true, true, true]) 11 rfl (by kernel_rfl) (by kernel_rfl) (by kernel_rfl) rfl (pr_assign rfl) (fun _ h => Mem.drop1 (h)) rfl ?_
          show J _ _ _ _
          show JH _ _ _ _ _ _ _ _
          exact jh_done v1 (by kernel_rfl) ⟨rfl, rfl, trivial⟩ (fun _ h => h)
    · skip
      refine jq_in_normal ?_
      refine jq_round' ((t.drop ((pos t 45) + 1)), v1, (acc ++ [t.take (pos t 45)])) (by (try dsimp only); exact (⟨by rw [← hinv.1, cutAt_some [] hc]; simp, by simp; omega⟩)) (by (try dsimp only); exact (by simp; omega)) ⟨rfl, rfl, trivial⟩ (fun _ h => h)
  · skip
    rw [show (idxF t 45 0 : Int) = -1 from by rw [idxF_zero, idx_none hc]]
    refine jc_region ?_
    refine jo_pure rfl (pr_move rfl) ?_
    refine jo_pure rfl (pr_lss (n := 0) rfl rfl) ?_
    refine jo_nil ?_
    refine jq_then ?_
    refine jc_true rfl (by decide) ?_
    refine jc_seq ?_
    refine jc_region ?_
    refine jo_pure rfl (pr_move rfl) ?_
    refine jo_pure rfl (pr_move rfl) ?_
    refine jo_buildSlice (t := .str) [t] [str (t)] (fun a hf => by simp only [List.zipIdx_cons, List.zipIdx_nil, List.map_toArray, List.map_cons, List.map_nil, hf.ev (show ev _ (.tmp 10) = some (str (t)) from rfl)] <;> rfl) rfl Tryz.underlying45 ty_9 rfl rfl rfl rfl rfl (fun g2 => ?_)
    refine j_pull1 ?_
    refine jo_append rfl rfl Tryz.underlying45 ty_9 rfl (by simp only [List.length_append, List.length_cons, List.length_nil, maxLen]; omega) (by simp only [List.length_append, List.length_cons, List.length_nil]; omega) rfl (fun v2 => ?_)
    refine jo_pure rfl (pr_assign rfl) ?_
    refine jo_nil ?_
    refine jq_then ?_
    refine jc_ret ?_
    refine jq_then_ret ?_
    refine jq_in_ret ?_
    refine jq_then_ret ?_
    refine jq_in_ret ?_
    refine j_pub_row ?_
    exact jq_ret1 rfl v2 rfl (show (v2 : Value) = (v2) from rfl) (fun _ h => by rw [← hinv.1, cutAt_none [] hc]; exact h)

theorem c_ref10_Tag (s : List UInt8) (hs : s.length ≤ 1000000) : Con Tryz.prog 67 #[str (s)] [] (fun _ : Unit => .bool (tagF s)) (fun _ => []) := by
  refine con_of_J (args := [str (s)]) (n := 67) Tryz.func67 rfl (Nat.le_of_ble_eq_true rfl) rfl (fun w0 I0 m0 => ?_)
  show J _ [(0, str (s))] [] _
  refine jc_seq ?_
  refine jc_region ?_
  refine jo_pure rfl (pr_assign rfl) ?_
  refine jo_nil ?_
  refine jq_then ?_
  refine jc_seq ?_
  refine jc_region ?_
  refine jo_pure rfl (pr_move rfl) ?_
  refine jo_callp cal_102 (c_ref10_subtags s (by omega)) ⟨rfl, trivial⟩ rfl (trivial) (fun r1 => ?_)
  show J _ _ [.imm (.list .str) (r1) (cutAt 45 [] s)] _
  refine jo_pure rfl (pr_assign rfl) ?_
  refine jo_nil ?_
  refine jq_then ?_
  refine jc_seq ?_
  refine jc_seq ?_
  refine jc_region ?_
  refine jo_pure rfl (pr_assign rfl) ?_
  refine jo_nil ?_
  refine jq_then ?_
  refine jc_block ?_
  refine jc_loop (fun (i : Nat) => [(3, r1), (4, .int .i64 ((i : Nat) : Int))]) (fun (i : Nat) => [.imm (.list .str) (r1) (cutAt 45 [] s)]) (fun (i : Nat) => i ≤ (cutAt 45 [] s).length ∧ (cutAt 45 [] s).length ≤ s.length + 1 ∧ ∀ k : Nat, k < i → subOk (decide (0 < k)) ((cutAt 45 [] s).getD k []) = true) (fun (i : Nat) => (cutAt 45 [] s).length - i) 0 (⟨Nat.zero_le _, subt_length s, fun k hk => absurd hk (Nat.not_lt_zero _)⟩) (⟨rfl, rfl, trivial⟩) (fun _ h => h) (fun i hinv => ?_)
  refine jc_seq ?_
  refine jc_seq ?_
  refine jc_region ?_
  refine jo_pure rfl (pr_move rfl) ?_
  refine jo_pure rfl (pr_move rfl) ?_
  refine jo_pure rfl (pr_len_imm rfl (.head _) Tryz.underlying45) ?_
  refine jo_pure rfl (pr_lssN (m := i) (n := (cutAt 45 [] s).length) rfl rfl) ?_
  refine jo_nil ?_
  refine jq_then ?_
  refine jc_cond rfl (fun h1b => ?_) (fun h1b => ?_)
  · have h1 := of_decide_eq_true h1b
    have hml : ((cutAt 45 [] s).getD i []).length ≤ s.length := getD_len (i := i) (subt_mem s)
    refine jc_skip ?_
    refine jq_then ?_
    refine jc_seq ?_
    refine jc_block ?_
    refine jc_seq ?_
    refine jc_seq ?_
    refine jc_region ?_
    refine jo_pure rfl (pr_move rfl) ?_
    refine jo_pure rfl (pr_move rfl) ?_
    refine jo_pure rfl (pr_idx_imm (i := i) rfl (.head _) rfl Tryz.underlying45 ty_9 (by first | omega | (simp at hg; omega))) ?_
    refine jo_pure rfl (pr_load_elem_imm (i := i) (str ((cutAt 45 [] s).getD i [])) rfl (.head _) ty_9 rfl rfl (by first | omega | (simp at hg; omega)) rfl) ?_
    refine jo_pure rfl (pr_slen rfl Tryz.underlying9) ?_
    refine jo_pure rfl (pr_lssN (m := ((cutAt 45 [] s).getD i []).length) (n := 1) rfl rfl) ?_
    refine jo_pure rfl (pr_move rfl) ?_
    refine jo_gpure (j := 6) (want := false) rfl rfl rfl rfl (fun hg => pr_move rfl) ?_
    refine jo_gpure (j := 6) (want := false) rfl rfl rfl rfl (fun hg => pr_move rfl) ?_
    refine jo_gpure (j := 6) (want := false) rfl rfl rfl rfl (fun hg => pr_idx_imm (i := i) (evg rfl hg) (.head _) (evg rfl hg) Tryz.underlying45 ty_9 (by first | omega | (simp at hg; omega))) ?_
    refine jo_gpure (j := 6) (want := false) rfl rfl rfl rfl (fun hg => pr_load_elem_imm (i := i) (str ((cutAt 45 [] s).getD i [])) (evg rfl hg) (.head _) ty_9 rfl rfl (by first | omega | (simp at hg; omega)) rfl) ?_
    refine jo_gpure (j := 6) (want := false) rfl rfl rfl rfl (fun hg => pr_slen (evg rfl hg) Tryz.underlying9) ?_
    refine jo_gpure (j := 6) (want := false) rfl rfl rfl rfl (fun hg => pr_gtrN (m := ((cutAt 45 [] s).getD i []).length) (n := 8) (evg rfl hg) rfl) ?_
    refine jo_pure rfl (pr_pick_or rfl rfl rfl) ?_
    refine jo_nil ?_
    refine jq_then ?_
    refine jc_cond rfl (fun h2b => ?_) (fun h2b => ?_)
    · have h2 := (fun q => Or.imp of_decide_eq_true of_decide_eq_true (bt_or q)) h2b
      refine jc_seq ?_
      refine jc_region ?_
      refine jo_pure rfl (pr_assign rfl) ?_
      refine jo_nil ?_
      refine jq_then ?_
      refine jc_ret ?_
      refine jq_then_ret ?_
      refine jq_in_ret ?_
      refine jq_then_ret ?_
      refine jq_then_ret ?_
      refine jq_in_ret ?_
      refine jq_then_ret ?_
      refine j_drop ?_
      exact jq_ret1 rfl () rfl (show (.bool (tagF s) : Value) = (.bool (false)) from congrArg Value.bool (by rw [tag_bad (s := s) h1 (sub_len h2)])) (fun _ h => h)
    · have h2 := (fun q => And.imp of_decide_eq_false of_decide_eq_false (bf_or q)) h2b
      refine jc_skip ?_
      refine jq_then ?_
      refine jc_seq ?_
      refine jc_region ?_
      refine jo_pure rfl (pr_assign rfl) ?_
      refine jo_nil ?_
      refine jq_then ?_
      refine jc_block ?_
      refine jc_loop (fun (k : Nat) => [(3, r1), (4, .int .i64 ((i : Nat) : Int)), (5, .int .i64 ((k : Nat) : Int))]) (fun (k : Nat) => [.imm (.list .str) (r1) (cutAt 45 [] s)]) (fun (k : Nat) => k ≤ ((cutAt 45 [] s).getD i []).length ∧ (((cutAt 45 [] s).getD i []).take k).all (fun c => alphaB c || (decide (0 < i) && digB c)) = true) (fun (k : Nat) => ((cutAt 45 [] s).getD i []).length - k) 0 (⟨Nat.zero_le _, rfl⟩) (⟨rfl, rfl, rfl, trivial⟩) (fun _ h => h) (fun k hink => ?_)
      refine jc_seq ?_
      refine jc_seq ?_
      refine jc_region ?_
      refine jo_pure rfl (pr_move rfl) ?_
      refine jo_pure rfl (pr_move rfl) ?_
      refine jo_pure rfl (pr_move rfl) ?_
      refine jo_pure rfl (pr_idx_imm (i := i) rfl (.head _) rfl Tryz.underlying45 ty_9 (by first | omega | (simp at hg; omega))) ?_
      refine jo_pure rfl (pr_load_elem_imm (i := i) (str ((cutAt 45 [] s).getD i [])) rfl (.head _) ty_9 rfl rfl (by first | omega | (simp at hg; omega)) rfl) ?_
      refine jo_pure rfl (pr_slen rfl Tryz.underlying9) ?_
      refine jo_pure rfl (pr_lssN (m := k) (n := ((cutAt 45 [] s).getD i []).length) rfl rfl) ?_
      refine jo_nil ?_
      refine jq_then ?_
      refine jc_cond rfl (fun h3b => ?_) (fun h3b => ?_)
      · have h3 := of_decide_eq_true h3b
        refine jc_skip ?_
        refine jq_then ?_
        refine jc_seq ?_
        refine jc_block ?_
        refine jc_seq ?_
        refine jc_region ?_
        refine jo_pure rfl (pr_move rfl) ?_
        refine jo_pure rfl (pr_move rfl) ?_
        refine jo_pure rfl (pr_idx_imm (i := i) rfl (.head _) rfl Tryz.underlying45 ty_9 (by first | omega | (simp at hg; omega))) ?_
        refine jo_pure rfl (pr_load_elem_imm (i := i) (str ((cutAt 45 [] s).getD i [])) rfl (.head _) ty_9 rfl rfl (by first | omega | (simp at hg; omega)) rfl) ?_
        refine jo_pure rfl (pr_move rfl) ?_
        refine jo_pure rfl (pr_sindex (i := k) rfl rfl Tryz.underlying9 (by first | omega | (simp at hg; omega))) ?_
        refine jo_pure rfl (pr_assign rfl) ?_
        refine jo_nil ?_
        refine jq_then ?_
        refine jc_seq ?_
        refine jc_region ?_
        refine jo_pure rfl (pr_move rfl) ?_
        refine jo_pure rfl (pr_bgeq (n := 97) rfl rfl) ?_
        refine jo_pure rfl (pr_move rfl) ?_
        refine jo_gpure (j := 2) (want := true) rfl rfl rfl rfl (fun hg => pr_move rfl) ?_
        refine jo_gpure (j := 2) (want := true) rfl rfl rfl rfl (fun hg => pr_bleq (n := 122) (evg rfl hg) rfl) ?_
        refine jo_pure rfl (pr_pick_and rfl rfl rfl) ?_
        refine jo_pure rfl (pr_move rfl) ?_
        refine jo_gpure (j := 6) (want := false) rfl rfl rfl rfl (fun hg => pr_move rfl) ?_
        refine jo_gpure (j := 6) (want := false) rfl rfl rfl rfl (fun hg => pr_bgeq (n := 65) (evg rfl hg) rfl) ?_
        refine jo_gpure (j := 6) (want := false) rfl rfl rfl rfl (fun hg => pr_move (evg rfl hg)) ?_
        refine jo_gpure2 (j := 9) (want := true) rfl rfl rfl rfl (fun hg => pr_move rfl) ?_
        refine jo_gpure2 (j := 9) (want := true) rfl rfl rfl rfl (fun hg => pr_bleq (n := 90) (evg rfl hg) rfl) ?_
        refine jo_gpure (j := 6) (want := false) rfl rfl rfl rfl (fun hg => pr_pick_and (evg rfl hg) (evg2 rfl hg) rfl) ?_
        refine jo_pure rfl (pr_pick_or rfl rfl rfl) ?_
        refine jo_pure rfl (pr_move rfl) ?_
        refine jo_gpure (j := 14) (want := false) rfl rfl rfl rfl (fun hg => pr_move rfl) ?_
        refine jo_gpure (j := 14) (want := false) rfl rfl rfl rfl (fun hg => pr_gtrN (m := i) (n := 0) (evg rfl hg) rfl) ?_
        refine jo_gpure (j := 14) (want := false) rfl rfl rfl rfl (fun hg => pr_move (evg rfl hg)) ?_
        refine jo_gpure2 (j := 17) (want := true) rfl rfl rfl rfl (fun hg => pr_move rfl) ?_
        refine jo_gcall2 (j := 17) (want := true) rfl rfl rfl cal_103 (fun hg => c_ref01_Digit (((cutAt 45 [] s).getD i []).getD k 0)) (fun hg => ⟨evg rfl hg, trivial⟩) rfl (fun _ => trivial) ?_
        refine jo_gpure (j := 14) (want := false) rfl rfl rfl rfl (fun hg => pr_pick_and (evg rfl hg) (evg2 rfl hg) rfl) ?_
        refine jo_pure rfl (pr_pick_or rfl rfl rfl) ?_
        refine jo_pure rfl (pr_not rfl) ?_
        refine jo_nil ?_
        refine jq_then ?_
        refine jc_cond rfl (fun h4b => ?_) (fun h4b => ?_)
        · have h4 := (fun q => (fun q => And.imp (fun q => And.imp (fun q => Or.imp of_decide_eq_false of_decide_eq_false (bf_and q)) (fun q => Or.imp of_decide_eq_false of_decide_eq_false (bf_and q)) (bf_or q)) (fun q => Or.imp of_decide_eq_false id (bf_and q)) (bf_or q)) (bt_not q)) h4b
          refine jc_seq ?_
          refine jc_region ?_
          refine jo_pure rfl (pr_assign rfl) ?_
          refine jo_nil ?_
          refine jq_then ?_
          refine jc_ret ?_
          refine jq_in_ret ?_
          refine jq_then_ret ?_
          refine jq_then_ret ?_
          refine jq_in_ret ?_
          refine jq_in_ret ?_
          refine jq_then_ret ?_
          refine jq_then_ret ?_
          refine jq_in_ret ?_
          refine jq_then_ret ?_
          refine j_drop ?_
          exact jq_ret1 rfl () rfl (show (.bool (tagF s) : Value) = (.bool (false)) from congrArg Value.bool (by rw [tag_bad (s := s) h1 (sub_ch (d := decide (0 < i)) h3 (bt_not h4b))])) (fun _ h => h)
        · have h4 := (fun q => (fun q => Or.imp (fun q => Or.imp (fun q => And.imp of_decide_eq_true of_decide_eq_true (bt_and q)) (fun q => And.imp of_decide_eq_true of_decide_eq_true (bt_and q)) (bt_or q)) (fun q => And.imp of_decide_eq_true id (bt_and q)) (bt_or q)) (bf_not q)) h4b
          refine jc_skip ?_
          refine jq_in_normal ?_
          refine jq_then ?_
          refine jc_region ?_
          refine jo_pure rfl (pr_move rfl) ?_
          refine jo_pure rfl (pr_addN (m := k) (n := 1) rfl rfl (by omega)) ?_
          refine jo_pure rfl (pr_assign rfl) ?_
          refine jo_nil ?_
          refine jq_round' (k + 1) (by (try dsimp only); exact (⟨by omega, all_step (dd := 0) h3 hink.2 (bf_not h4b)⟩)) (by (try dsimp only); exact (by omega)) ⟨rfl, rfl, rfl, trivial⟩ (fun _ h => h)
      · have h3 := of_decide_eq_false h3b
        refine jc_exit ?_
        refine jq_then_exit ?_
        refine jq_then_exit ?_
        refine jq_in_hit ?_
        refine jq_in_normal ?_
        refine jq_then ?_
        refine jc_region ?_
        refine jo_pure rfl (pr_move rfl) ?_
        refine jo_pure rfl (pr_addN (m := i) (n := 1) rfl rfl (by omega)) ?_
        refine jo_pure rfl (pr_assign rfl) ?_
        refine jo_nil ?_
        refine jq_round' (i + 1) (by (try dsimp only); exact (⟨by omega, hinv.2.1, fun k9 hk => by rcases Nat.lt_or_ge k9 i with q | q; exact hinv.2.2 k9 q; have e : k9 = i := (by omega); rw [e]; exact sub_good ⟨by omega, by omega⟩ (by have h9 := hink.2; rw [take_over (s := ((cutAt 45 [] s).getD i [])) (i := k) (by omega)] at h9; exact h9)⟩)) (by (try dsimp only); exact (by omega)) ⟨rfl, rfl, trivial⟩ (fun _ h => h)
  · have h1 := of_decide_eq_false h1b
    refine jc_exit ?_
    refine jq_then_exit ?_
    refine jq_then_exit ?_
    refine jq_in_hit ?_
    refine jq_then ?_
    refine jc_seq ?_
    refine jc_region ?_
    refine jo_pure rfl (pr_assign rfl) ?_
    refine jo_nil ?_
    refine jq_then ?_
    refine jc_ret ?_
    refine j_drop ?_
    exact jq_ret1 rfl () rfl (show (.bool (tagF s) : Value) = (.bool (true)) from congrArg Value.bool (by rw [tag_end (s := s) (fun k hk => hinv.2.2 k (by have hk2 : k < (cutAt 45 [] s).length := hk; omega))])) (fun _ h => h)

theorem c_ref01_Join (l : List (List UInt8)) (lv : Value) (hl : l.length ≤ 1000) (hm : ∀ x ∈ l, x.length ≤ 20000) : Con Tryz.prog 74 #[lv] [.imm (.list .str) (lv) (l)] (fun _ : Unit => str (joinS [44, 32] l)) (fun _ => []) := by
  refine con_of_J (args := [lv]) (n := 22) Tryz.func74 rfl (Nat.le_of_ble_eq_true rfl) rfl (fun w0 I0 m0 => ?_)
  show J _ [(0, lv)] [.imm (.list .str) (lv) (l)] _
  refine jc_seq ?_
  refine jc_region ?_
  refine jo_pure rfl (pr_assign rfl) ?_
  refine jo_nil ?_
  refine jq_then ?_
  refine jc_seq ?_
  refine jc_region ?_
  refine jo_pure rfl (pr_assign rfl) ?_
  refine jo_nil ?_
  refine jq_then ?_
  refine jc_seq ?_
  refine jc_seq ?_
  refine jc_region ?_
  refine jo_pure rfl (pr_assign rfl) ?_
  refine jo_nil ?_
  refine jq_then ?_
  refine jc_block ?_
  refine jc_loop2 (fun (i : Nat) (acc : List UInt8) => [(0, lv), (3, str (acc)), (4, .int .i64 ((i : Nat) : Int))]) (fun (i : Nat) (acc : List UInt8) => [.imm (.list .str) (lv) (l)]) (fun (i : Nat) (acc : List UInt8) => i ≤ l.length ∧ acc.length ≤ i * 20002 ∧ acc = joinS [44, 32] (l.take i)) (fun (i : Nat) (acc : List UInt8) => l.length - i) 0 [] (⟨Nat.zero_le _, by simp, rfl⟩) (⟨rfl, rfl, rfl, trivial⟩) (fun _ h => h) (fun i acc hinv => ?_)
  refine jc_seq ?_
  refine jc_seq ?_
  refine jc_region ?_
  refine jo_pure rfl (pr_move rfl) ?_
  refine jo_pure rfl (pr_move rfl) ?_
  refine jo_pure rfl (pr_len_imm rfl (.head _) Tryz.underlying45) ?_
  refine jo_pure rfl (pr_lssN (m := i) (n := l.length) rfl rfl) ?_
  refine jo_nil ?_
  refine jq_then ?_
  refine jc_cond rfl (fun h1b => ?_) (fun h1b => ?_)
  · have h1 := of_decide_eq_true h1b
    refine jc_skip ?_
    refine jq_then ?_
    refine jc_seq ?_
    refine jc_block ?_
    refine jc_seq ?_
    refine jc_seq ?_
    refine jc_region ?_
    refine jo_pure rfl (pr_move rfl) ?_
    refine jo_pure rfl (pr_gtrN (m := i) (n := 0) rfl rfl) ?_
    refine jo_nil ?_
    refine jq_then ?_
    refine jc_cond rfl (fun h2b => ?_) (fun h2b => ?_)
    · have h2 := of_decide_eq_true h2b
      refine jc_region ?_
      refine jo_pure rfl (pr_move rfl) ?_
      refine jo_pure rfl (pr_sadd rfl rfl (by have := getD_len (i := i) hm; first | omega | (simp only [List.length_append, List.length_cons, List.length_nil]; omega))) ?_
      refine jo_pure rfl (pr_assign rfl) ?_
      refine jo_nil ?_
      refine jq_then ?_
      refine jc_region ?_
      refine jo_pure rfl (pr_move rfl) ?_
      refine jo_pure rfl (pr_move rfl) ?_
      refine jo_pure rfl (pr_move rfl) ?_
      refine jo_pure rfl (pr_idx_imm (i := i) rfl (.head _) rfl Tryz.underlying45 ty_9 (by omega)) ?_
      refine jo_pure rfl (pr_load_elem_imm (i := i) (str (l.getD i [])) rfl (.head _) ty_9 rfl rfl (by omega) rfl) ?_
      refine jo_pure rfl (pr_sadd rfl rfl (by have := getD_len (i := i) hm; first | omega | (simp only [List.length_append, List.length_cons, List.length_nil]; omega))) ?_
      refine jo_pure rfl (pr_assign rfl) ?_
      refine jo_nil ?_
      refine jq_in_normal ?_
      refine jq_then ?_
      refine jc_region ?_
      refine jo_pure rfl (pr_move rfl) ?_
      refine jo_pure rfl (pr_addN (m := i) (n := 1) rfl rfl (by omega)) ?_
      refine jo_pure rfl (pr_assign rfl) ?_
      refine jo_nil ?_
      refine jq_round' ((i + 1), ((acc ++ [44, 32]) ++ (l.getD i []))) (by (try dsimp only); exact (⟨by omega, by have := getD_len (i := i) hm; simp only [List.length_append, List.length_cons, List.length_nil]; omega, by rw [joinS_next h2 h1, hinv.2.2]⟩)) (by (try dsimp only); exact (by omega)) ⟨rfl, rfl, rfl, trivial⟩ (fun _ h => h)
    · have h2 := of_decide_eq_false h2b
      refine jc_skip ?_
      refine jq_then ?_
      refine jc_region ?_
      refine jo_pure rfl (pr_move rfl) ?_
      refine jo_pure rfl (pr_move rfl) ?_
      refine jo_pure rfl (pr_move rfl) ?_
      refine jo_pure rfl (pr_idx_imm (i := i) rfl (.head _) rfl Tryz.underlying45 ty_9 (by omega)) ?_
      refine jo_pure rfl (pr_load_elem_imm (i := i) (str (l.getD i [])) rfl (.head _) ty_9 rfl rfl (by omega) rfl) ?_
      refine jo_pure rfl (pr_sadd rfl rfl (by have := getD_len (i := i) hm; first | omega | (simp only [List.length_append, List.length_cons, List.length_nil]; omega))) ?_
      refine jo_pure rfl (pr_assign rfl) ?_
      refine jo_nil ?_
      refine jq_in_normal ?_
      refine jq_then ?_
      refine jc_region ?_
      refine jo_pure rfl (pr_move rfl) ?_
      refine jo_pure rfl (pr_addN (m := i) (n := 1) rfl rfl (by omega)) ?_
      refine jo_pure rfl (pr_assign rfl) ?_
      refine jo_nil ?_
      refine jq_round' ((i + 1), (acc ++ (l.getD i []))) (by (try dsimp only); exact (⟨by omega, by have := getD_len (i := i) hm; first | omega | (simp only [List.length_append]; omega), by have e : i = 0 := (by omega); rw [hinv.2.2, e, joinS_zero, joinS_first (by omega), List.nil_append]⟩)) (by (try dsimp only); exact (by omega)) ⟨rfl, rfl, rfl, trivial⟩ (fun _ h => h)
  · have h1 := of_decide_eq_false h1b
    refine jc_exit ?_
    refine jq_then_exit ?_
    refine jq_then_exit ?_
    refine jq_in_hit ?_
    refine jq_then ?_
    refine jc_seq ?_
    refine jc_region ?_
    refine jo_pure rfl (pr_move rfl) ?_
    refine jo_pure rfl (pr_assign rfl) ?_
    refine jo_nil ?_
    refine jq_then ?_
    refine jc_ret ?_
    refine j_drop ?_
    exact jq_ret1 rfl () rfl (show (str (joinS [44, 32] l) : Value) = (str (acc)) from congrArg str (by rw [hinv.2.2, joinS_all (by omega)])) (fun _ h => h)

theorem c_grow_new (b n : Nat) (hn : n ≤ 1000000000) (hn0 : 0 < n) : Con Tryz.prog 121 #[.pointer (some ⟨b, 0, none⟩), .int .i64 ((n : Nat) : Int)] [.box b 98 [.pointer (some ⟨b, 0, none⟩), .slice none 0 0]] (fun r1 : Value => .tuple #[]) (fun r1 => [.box b 98 [.pointer (some ⟨b, 0, none⟩), r1], .row (r1) 5 .u8 ([])]) := by
  refine con_of_J (args := [.pointer (some ⟨b, 0, none⟩), .int .i64 ((n : Nat) : Int)]) (n := 30) Tryz.func121 rfl (Nat.le_of_ble_eq_true rfl) rfl (fun w0 I0 m0 => ?_)
  show J _ [(0, .pointer (some ⟨b, 0, none⟩)), (1, .int .i64 ((n : Nat) : Int))] [.box b 98 [.pointer (some ⟨b, 0, none⟩), .slice none 0 0]] _
  refine jc_seq ?_
  refine jc_held (fun (iq : Nat × Nat) => [(0, .pointer (some ⟨b, 0, none⟩)), (4, .slice (some ⟨iq.1, 0, none⟩) (0) (iq.2))]) (fun iq => [.rowg iq.1 (iq.2) 5 .u8 (([] : List UInt8)), .box b 98 [.pointer (some ⟨b, 0, none⟩), .slice none 0 0]]) [.box b 98 [.pointer (some ⟨b, 0, none⟩), .slice none 0 0]] mixed (fun lst hlst => ?_) (fun ⟨g1, cap1⟩ => ?_)
  · subst hlst
    refine jh_take (listed' := #[true, false, false, false, false, false, false, false, false, false, false, false, false, false, false, false]) 0 rfl (by kernel_rfl) (by kernel_rfl) (by kernel_rfl) rfl (pr_move rfl) (fun _ h => h) rfl ?_
    refine jh_take (listed' := #[true, true, false, false, false, false, false, false, false, false, false, false, false, false, false, false]) 1 rfl (by kernel_rfl) (by kernel_rfl) (by kernel_rfl) rfl (pr_nilCheck rfl) (fun _ h => h) rfl ?_
    refine jh_take (listed' := #[true, true, true, false, false, false, false, false, false, false, false, false, false, false, false, false]) 2 rfl (by kernel_rfl) (by kernel_rfl) (by kernel_rfl) rfl (pr_fieldAddr 1 rfl Tryz.underlying98 rfl ty_84 rfl rfl) (fun _ h => h) rfl ?_
    refine jh_take (listed' := #[true, true, true, true, false, false, false, false, false, false, false, false, false, false, false, false]) 3 rfl (by kernel_rfl) (by kernel_rfl) (by kernel_rfl) rfl (pr_load_box (.slice none 0 0) rfl ty_84 (.head _) rfl (by decide) rfl) (fun _ h => h) rfl ?_
    refine jh_take (listed' := #[true, true, true, true, true, false, false, false, false, false, false, false, false, false, false, false]) 4 rfl (by kernel_rfl) (by kernel_rfl) (by kernel_rfl) rfl (pr_cap_nil rfl Tryz.underlying84) (fun _ h => h) rfl ?_
    refine jh_take (listed' := #[true, true, true, true, true, true, false, false, false, false, false, false, false, false, false, false]) 5 rfl (by kernel_rfl) (by kernel_rfl) (by kernel_rfl) rfl (pr_mulN (m := 2) (n := 0) rfl rfl (by omega)) (fun _ h => h) rfl ?_
    refine jh_take (listed' := #[true, true, true, true, true, true, true, false, false, false, false, false, false, false, false, false]) 6 rfl (by kernel_rfl) (by kernel_rfl) (by kernel_rfl) rfl (pr_move rfl) (fun _ h => h) rfl ?_
    refine jh_take (listed' := #[true, true, true, true, true, true, true, true, false, false, false, false, false, false, false, false]) 7 rfl (by kernel_rfl) (by kernel_rfl) (by kernel_rfl) rfl (pr_addN (m := 2 * 0) (n := n) rfl rfl (by omega)) (fun _ h => h) rfl ?_
    refine jh_take (listed' := #[true, true, true, true, true, true, true, true, false, true, false, false, false, false, false, false]) 9 rfl (by kernel_rfl) (by kernel_rfl) (by kernel_rfl) rfl (pr_move rfl) (fun _ h => h) rfl ?_
    refine jh_take (listed' := #[true, true, true, true, true, true, true, true, false, true, true, false, false, false, false, false]) 10 rfl (by kernel_rfl) (by kernel_rfl) (by kernel_rfl) rfl (pr_nilCheck rfl) (fun _ h => h) rfl ?_
    refine jh_take (listed' := #[true, true, true, true, true, true, true, true, false, true, true, true, false, false, false, false]) 11 rfl (by kernel_rfl) (by kernel_rfl) (by kernel_rfl) rfl (pr_fieldAddr 1 rfl Tryz.underlying98 rfl ty_84 rfl rfl) (fun _ h => h) rfl ?_
    refine jh_take (listed' := #[true, true, true, true, true, true, true, true, false, true, true, true, true, false, false, false]) 12 rfl (by kernel_rfl) (by kernel_rfl) (by kernel_rfl) rfl (pr_load_box (.slice none 0 0) rfl ty_84 (.head _) rfl (by decide) rfl) (fun _ h => h) rfl ?_
    refine jh_take (listed' := #[true, true, true, true, true, true, true, true, false, true, true, true, true, true, false, false]) 13 rfl (by kernel_rfl) (by kernel_rfl) (by kernel_rfl) rfl (pr_len rfl Tryz.underlying84) (fun _ h => h) rfl ?_
    refine jh_all [8] (by kernel_rfl) (by simp) (fun i hi => ?_)
    simp only [List.mem_cons, List.not_mem_nil, or_false] at hi
    subst hi
    · refine jh_op rfl ?_
      refine jo_makeNoZero (n := (2 * 0) + n) (ps := #[3]) (t := 84) Tryz.func136 (by kernel_rfl) rfl (by kernel_rfl) (by kernel_rfl) rfl Tryz.underlying84 (by omega) rfl (fun g1 cap1 hcap1 => ?_)
      refine jh_in (listed' := #[true, true, true, true, true, true, true, true, true, true, true, true, true, true, false, false]) (fun _ h => Mem.drop1 (h)) rfl ?_
      refine jh_take (listed' := #[true, true, true, true, true, true, true, true, true, true, true, true, true, true, true, false]) 14 rfl (by kernel_rfl) (by kernel_rfl) (by kernel_rfl) rfl (pr_slice_own (h := 0) rfl rfl Tryz.underlying84 ty_5 (by omega)) (fun _ h => Mem.drop1 (h)) rfl ?_
      refine jh_take (listed' := #[true, true, true, true, true, true, true, true, true, true, true, true, true, true, true, true]) 15 rfl (by kernel_rfl) (by kernel_rfl) (by kernel_rfl) rfl (pr_assign rfl) (fun _ h => Mem.drop1 (h)) rfl ?_
      show J _ _ _ _
      refine j_pull1 ?_
      refine j_pull1 ?_
      show JH _ _ _ _ _ _ _ _
      exact jh_done ⟨g1, cap1⟩ (by kernel_rfl) ⟨rfl, rfl, trivial⟩ (fun _ h => h)
  · skip
    show J _ [(0, .pointer (some ⟨b, 0, none⟩)), (4, .slice (some ⟨g1, 0, none⟩) (0) (cap1))] [.rowg g1 (cap1) 5 .u8 (([] : List UInt8)), .box b 98 [.pointer (some ⟨b, 0, none⟩), .slice none 0 0]] _
    refine jq_then ?_
    refine jc_seq ?_
    refine jc_region ?_
    refine jo_pure rfl (pr_move rfl) ?_
    refine jo_pure rfl (pr_move rfl) ?_
    refine jo_pure rfl (pr_nilCheck rfl) ?_
    refine jo_pure rfl (pr_fieldAddr 1 rfl Tryz.underlying98 rfl ty_84 rfl rfl) ?_
    refine jo_pure rfl (pr_load_box (.slice none 0 0) rfl ty_84 (.tail _ (.head _)) rfl (by decide) rfl) ?_
    refine jo_pure rfl (pr_copy_nil rfl rfl Tryz.underlying84 ty_5) ?_
    refine jo_nil ?_
    refine jq_then ?_
    refine jc_region ?_
    refine jo_pure rfl (pr_move rfl) ?_
    refine jo_pure rfl (pr_move rfl) ?_
    refine jo_pure rfl (pr_nilCheck rfl) ?_
    refine jo_pure rfl (pr_fieldAddr 1 rfl Tryz.underlying98 rfl ty_84 rfl rfl) ?_
    refine j_pull1 ?_
    refine jo_store rfl rfl ty_84 [.slice (some ⟨g1, 0, none⟩) (0) (cap1)] rfl rfl rfl [.pointer (some ⟨b, 0, none⟩), .slice (some ⟨g1, 0, none⟩) (0) (cap1)] rfl rfl ?_
    refine jo_nil ?_
    refine jq_fall ?_
    refine j_pull1 ?_
    refine j_row_of_rowg ?_
    refine j_pull1 ?_
    exact jq_ret0 rfl (.slice (some ⟨g1, 0, none⟩) (([] : List UInt8)).length (cap1)) (show (.tuple #[] : Value) = (.tuple #[]) from rfl) (fun _ h => h)

theorem c_Grow_new (b n : Nat) (hn : n ≤ 1000000000) (hn0 : 0 < n) : Con Tryz.prog 97 #[.pointer (some ⟨b, 0, none⟩), .int .i64 ((n : Nat) : Int)] [.box b 98 [.pointer none, .slice none 0 0]] (fun r1 : Value => .tuple #[]) (fun r1 => [.box b 98 [.pointer (some ⟨b, 0, none⟩), r1], .row (r1) 5 .u8 ([])]) := by
  refine con_of_J (args := [.pointer (some ⟨b, 0, none⟩), .int .i64 ((n : Nat) : Int)]) (n := 25) Tryz.func97 rfl (Nat.le_of_ble_eq_true rfl) rfl (fun w0 I0 m0 => ?_)
  show J _ [(0, .pointer (some ⟨b, 0, none⟩)), (1, .int .i64 ((n : Nat) : Int))] [.box b 98 [.pointer none, .slice none 0 0]] _
  refine jc_seq ?_
  refine jc_region ?_
  refine jo_pure rfl (pr_move rfl) ?_
  refine jo_callm [] rfl cal_120 (c_copyCheck_new b (.slice none 0 0)) ⟨rfl, trivial⟩ rfl (fun _ => ?_)
  show J _ _ [.box b 98 [.pointer (some ⟨b, 0, none⟩), .slice none 0 0]] _
  refine jo_nil ?_
  refine jq_then ?_
  refine jc_seq ?_
  refine jc_seq ?_
  refine jc_region ?_
  refine jo_pure rfl (pr_move rfl) ?_
  refine jo_pure rfl (pr_lssN (m := n) (n := 0) rfl rfl) ?_
  refine jo_nil ?_
  refine jq_then ?_
  refine jc_cond rfl (fun h1b => ?_) (fun h1b => ?_)
  · have h1 := of_decide_eq_true h1b
    exact absurd h1 (Nat.not_lt_zero _)
  · have h1 := of_decide_eq_false h1b
    refine jc_skip ?_
    refine jq_then ?_
    refine jc_seq ?_
    refine jc_draws mixed (by kernel_rfl) ?_
    refine jd_pure rfl (pr_move rfl) ?_
    refine jd_pure rfl (pr_nilCheck rfl) ?_
    refine jd_pure rfl (pr_fieldAddr 1 rfl Tryz.underlying98 rfl ty_84 rfl rfl) ?_
    refine jd_pure rfl (pr_load_box (.slice none 0 0) rfl ty_84 (.head _) rfl (by decide) rfl) ?_
    refine jd_pure rfl (pr_cap_nil rfl Tryz.underlying84) ?_
    refine jd_pure rfl (pr_move rfl) ?_
    refine jd_pure rfl (pr_nilCheck rfl) ?_
    refine jd_pure rfl (pr_fieldAddr 1 rfl Tryz.underlying98 rfl ty_84 rfl rfl) ?_
    refine jd_pure rfl (pr_load_box (.slice none 0 0) rfl ty_84 (.head _) rfl (by decide) rfl) ?_
    refine jd_pure rfl (pr_len rfl Tryz.underlying84) ?_
    refine jd_pure rfl (pr_subN (m := 0) (n := 0) rfl rfl (by omega) (by omega)) ?_
    refine jd_pure rfl (pr_move rfl) ?_
    refine jd_pure rfl (pr_lssN (m := 0 - 0) (n := n) rfl rfl) ?_
    refine jd_nil ?_
    refine jq_then ?_
    refine jc_cond rfl (fun h2b => ?_) (fun h2b => ?_)
    · have h2 := of_decide_eq_true h2b
      refine jc_region ?_
      refine jo_pure rfl (pr_move rfl) ?_
      refine jo_pure rfl (pr_move rfl) ?_
      refine jo_callm [] rfl cal_121 (c_grow_new b n (by omega) (by omega)) ⟨rfl, rfl, trivial⟩ rfl (fun r1 => ?_)
      show J _ _ [.box b 98 [.pointer (some ⟨b, 0, none⟩), r1], .row (r1) 5 .u8 ([])] _
      refine jo_nil ?_
      refine jq_fall ?_
      refine j_pull1 ?_
      refine j_pull1 ?_
      exact jq_ret0 rfl r1 (show (.tuple #[] : Value) = (.tuple #[]) from rfl) (fun _ h => h)
    · have h2 := of_decide_eq_false h2b
      exact absurd h2 (by omega)

theorem c_strings_Join (l : List (List UInt8)) (lv : Value) (sep : List UInt8) (hl : l.length ≤ 1000) (hm : ∀ x ∈ l, x.length ≤ 20000) (hs : 0 < sep.length) (hs2 : sep.length ≤ 10) : Con Tryz.prog 63 #[lv, str (sep)] [.imm (.list .str) (lv) (l)] (fun _ : Unit => str (joinS sep l)) (fun _ => []) := by
  refine con_of_J (args := [lv, str (sep)]) (n := 75) Tryz.func63 rfl (Nat.le_of_ble_eq_true rfl) rfl (fun w0 I0 m0 => ?_)
  show J _ [(0, lv), (1, str (sep))] [.imm (.list .str) (lv) (l)] _
  refine jc_seq ?_
  refine jc_region ?_
  refine jo_pure rfl (pr_assign rfl) ?_
  refine jo_nil ?_
  refine jq_then ?_
  refine jc_seq ?_
  refine jc_seq ?_
  refine jc_region ?_
  refine jo_pure rfl (pr_move rfl) ?_
  refine jo_pure rfl (pr_len_imm rfl (.head _) Tryz.underlying45) ?_
  refine jo_nil ?_
  refine jq_then ?_
  refine jc_block ?_
  refine jc_seq ?_
  refine jc_region ?_
  refine jo_pure rfl (pr_eqlN (m := l.length) (n := 0) rfl rfl) ?_
  refine jo_pure rfl (pr_assign rfl) ?_
  refine jo_nil ?_
  refine jq_then ?_
  refine jc_cond rfl (fun h1b => ?_) (fun h1b => ?_)
  · have h1 := of_decide_eq_true h1b
    refine jc_seq ?_
    refine jc_region ?_
    refine jo_pure rfl (pr_assign rfl) ?_
    refine jo_nil ?_
    refine jq_then ?_
    refine jc_ret ?_
    refine jq_in_ret ?_
    refine jq_then_ret ?_
    refine j_drop ?_
    exact jq_ret1 rfl () rfl (show (str (joinS sep l) : Value) = (str ([])) from congrArg str (by rw [List.length_eq_zero_iff.1 h1]; rfl)) (fun _ h => h)
  · have h1 := of_decide_eq_false h1b
    refine jc_seq ?_
    refine jc_region ?_
    refine jo_pure rfl (pr_eqlN (m := l.length) (n := 1) rfl rfl) ?_
    refine jo_pure rfl (pr_assign rfl) ?_
    refine jo_nil ?_
    refine jq_then ?_
    refine jc_cond rfl (fun h2b => ?_) (fun h2b => ?_)
    · have h2 := of_decide_eq_true h2b
      refine jc_seq ?_
      refine jc_region ?_
      refine jo_pure rfl (pr_move rfl) ?_
      refine jo_pure rfl (pr_idx_imm (i := 0) rfl (.head _) rfl Tryz.underlying45 ty_9 (by omega)) ?_
      refine jo_pure rfl (pr_load_elem_imm (i := 0) (str (l.getD 0 [])) rfl (.head _) ty_9 rfl rfl (by omega) rfl) ?_
      refine jo_pure rfl (pr_assign rfl) ?_
      refine jo_nil ?_
      refine jq_then ?_
      refine jc_ret ?_
      refine jq_in_ret ?_
      refine jq_then_ret ?_
      refine j_drop ?_
      exact jq_ret1 rfl () rfl (show (str (joinS sep l) : Value) = (str (l.getD 0 [])) from congrArg str (by rw [← joinS_first (sep := sep) (by omega), joinS_all (by omega)])) (fun _ h => h)
    · have h2 := of_decide_eq_false h2b
      refine jc_skip ?_
      refine jq_in_normal ?_
      refine jq_then ?_
      refine jc_seq ?_
      refine jc_region ?_
      refine jo_pure rfl (pr_assign rfl) ?_
      refine jo_nil ?_
      refine jq_then ?_
      refine jc_seq ?_
      refine jc_seq ?_
      refine jc_region ?_
      refine jo_pure rfl (pr_move rfl) ?_
      refine jo_pure rfl (pr_slen rfl Tryz.underlying9) ?_
      refine jo_pure rfl (pr_gtrN (m := sep.length) (n := 0) rfl rfl) ?_
      refine jo_nil ?_
      refine jq_then ?_
      refine jc_cond rfl (fun h3b => ?_) (fun h3b => ?_)
      · have h3 := of_decide_eq_true h3b
        refine jc_seq ?_
        refine jc_seq ?_
        refine jc_region ?_
        refine jo_pure rfl (pr_move rfl) ?_
        refine jo_pure rfl (pr_slen rfl Tryz.underlying9) ?_
        refine jo_pure rfl (pr_move rfl) ?_
        refine jo_pure rfl (pr_len_imm rfl (.head _) Tryz.underlying45) ?_
        refine jo_pure rfl (pr_subN (m := l.length) (n := 1) rfl rfl (by omega) (by omega)) ?_
        refine jo_pure rfl (pr_quoN (m := 9223372036854775807) (n := l.length - 1) rfl rfl (by omega) (by omega)) ?_
        refine jo_pure rfl (pr_geqN (m := sep.length) (n := 9223372036854775807 / (l.length - 1)) rfl rfl) ?_
        refine jo_nil ?_
        refine jq_then ?_
        refine jc_cond rfl (fun h4b => ?_) (fun h4b => ?_)
        · have h4 := of_decide_eq_true h4b
          exact absurd h4 (by have := Nat.div_le_div_left (a := 9223372036854775807) (show l.length - 1 ≤ 1000 by omega) (by omega); omega)
        · have h4 := of_decide_eq_false h4b
          have hmul := Nat.mul_le_mul hs2 (show l.length - 1 ≤ 1000 by omega)
          have hmul2 : 0 < sep.length * (l.length - 1) := Nat.mul_pos hs (by omega)
          have htl : ((l.take l.length).drop 1).length = l.length - 1 := by rw [List.take_length, List.length_drop]
          refine jc_skip ?_
          refine jq_then ?_
          refine jc_region ?_
          refine jo_pure rfl (pr_move rfl) ?_
          refine jo_pure rfl (pr_move rfl) ?_
          refine jo_pure rfl (pr_slen rfl Tryz.underlying9) ?_
          refine jo_pure rfl (pr_move rfl) ?_
          refine jo_pure rfl (pr_len_imm rfl (.head _) Tryz.underlying45) ?_
          refine jo_pure rfl (pr_subN (m := l.length) (n := 1) rfl rfl (by omega) (by omega)) ?_
          refine jo_pure rfl (pr_mulN (m := sep.length) (n := l.length - 1) rfl rfl (by have := Nat.mul_le_mul hs2 (Nat.sub_le l.length 1); omega)) ?_
          refine jo_pure rfl (pr_addN (m := 0) (n := sep.length * (l.length - 1)) rfl rfl (by first | omega | (have := getD_len (i := i) hm; omega))) ?_
          refine jo_pure rfl (pr_assign rfl) ?_
          refine jo_nil ?_
          refine jq_then ?_
          refine jc_seq ?_
          refine jc_seq ?_
          refine jc_region ?_
          refine jo_pure rfl (pr_move rfl) ?_
          refine jo_pure rfl (pr_len_imm rfl (.head _) Tryz.underlying45) ?_
          refine jo_pure rfl (pr_move rfl) ?_
          refine jo_nil ?_
          refine jq_then ?_
          refine jc_block ?_
          refine jc_loop2 (fun (i : Nat) (n : Nat) => [(0, lv), (1, str (sep)), (5, .int .i64 ((n : Nat) : Int)), (39, lv), (40, .int .i64 ((l.length : Nat) : Int)), (41, .int .i64 ((i : Nat) : Int))]) (fun (i : Nat) (n : Nat) => [.imm (.list .str) (lv) (l)]) (fun (i : Nat) (n : Nat) => i ≤ l.length ∧ 0 < n ∧ n ≤ 10000 + i * 20000) (fun (i : Nat) (n : Nat) => l.length - i) 0 (0 + (sep.length * (l.length - 1))) (⟨Nat.zero_le _, by omega, by omega⟩) (⟨rfl, rfl, rfl, rfl, rfl, rfl, trivial⟩) (fun _ h => h) (fun i n hinv => ?_)
          refine jc_seq ?_
          refine jc_region ?_
          refine jo_pure rfl (pr_lssN (m := i) (n := l.length) rfl rfl) ?_
          refine jo_nil ?_
          refine jq_then ?_
          refine jc_seq ?_
          refine jc_cond rfl (fun h5b => ?_) (fun h5b => ?_)
          · have h5 := of_decide_eq_true h5b
            refine jc_skip ?_
            refine jq_then ?_
            refine jc_seq ?_
            refine jc_block ?_
            refine jc_seq ?_
            refine jc_region ?_
            refine jo_pure rfl (pr_idx_imm (i := i) rfl (.head _) rfl Tryz.underlying45 ty_9 (by omega)) ?_
            refine jo_pure rfl (pr_load_elem_imm (i := i) (str (l.getD i [])) rfl (.head _) ty_9 rfl rfl (by omega) rfl) ?_
            refine jo_pure rfl (pr_assign rfl) ?_
            refine jo_nil ?_
            refine jq_then ?_
            refine jc_seq ?_
            refine jc_seq ?_
            refine jc_region ?_
            refine jo_pure rfl (pr_move rfl) ?_
            refine jo_pure rfl (pr_slen rfl Tryz.underlying9) ?_
            refine jo_pure rfl (pr_move rfl) ?_
            refine jo_pure rfl (pr_subN (m := 9223372036854775807) (n := n) rfl rfl (by omega) (by omega)) ?_
            refine jo_pure rfl (pr_gtrN (m := (l.getD i []).length) (n := 9223372036854775807 - n) rfl rfl) ?_
            refine jo_nil ?_
            refine jq_then ?_
            refine jc_cond rfl (fun h6b => ?_) (fun h6b => ?_)
            · have h6 := of_decide_eq_true h6b
              exact absurd h6 (by have := getD_len (i := i) hm; omega)
            · have h6 := of_decide_eq_false h6b
              refine jc_skip ?_
              refine jq_then ?_
              refine jc_region ?_
              refine jo_pure rfl (pr_move rfl) ?_
              refine jo_pure rfl (pr_move rfl) ?_
              refine jo_pure rfl (pr_slen rfl Tryz.underlying9) ?_
              refine jo_pure rfl (pr_addN (m := n) (n := (l.getD i []).length) rfl rfl (by first | omega | (have := getD_len (i := i) hm; omega))) ?_
              refine jo_pure rfl (pr_assign rfl) ?_
              refine jo_nil ?_
              refine jq_in_normal ?_
              refine jq_then ?_
              refine jc_region ?_
              refine jo_pure rfl (pr_addN (m := i) (n := 1) rfl rfl (by first | omega | (have := getD_len (i := i) hm; omega))) ?_
              refine jo_pure rfl (pr_move rfl) ?_
              refine jo_nil ?_
              refine jq_round' ((i + 1), (n + ((l.getD i []).length))) (by (try dsimp only); exact (⟨by omega, by omega, by have := getD_len (i := i) hm; omega⟩)) (by (try dsimp only); exact (by omega)) ⟨rfl, rfl, rfl, rfl, rfl, rfl, trivial⟩ (fun _ h => h)
          · have h5 := of_decide_eq_false h5b
            refine jc_exit ?_
            refine jq_then_exit ?_
            refine jq_then_exit ?_
            refine jq_in_hit ?_
            refine jq_then ?_
            refine jc_seq ?_
            refine jc_region ?_
            refine jo_alloc ty_98 [.pointer none, .slice none 0 0] rfl rfl (fun b1 => ?_)
            refine jo_nil ?_
            refine jq_then ?_
            refine jc_seq ?_
            refine jc_region ?_
            refine jo_pure rfl (pr_move rfl) ?_
            refine jo_callm [.imm (.list .str) (lv) (l)] rfl cal_97 (c_Grow_new b1 n (by omega) (by omega)) ⟨rfl, rfl, trivial⟩ rfl (fun r1 => ?_)
            show J _ _ [.box b1 98 [.pointer (some ⟨b1, 0, none⟩), r1], .row (r1) 5 .u8 ([]), .imm (.list .str) (lv) (l)] _
            refine jo_nil ?_
            refine jq_then ?_
            refine jc_seq ?_
            refine jc_region ?_
            refine jo_pure rfl (pr_move rfl) ?_
            refine jo_pure rfl (pr_idx_imm (i := 0) rfl (.tail _ (.tail _ (.head _))) rfl Tryz.underlying45 ty_9 (by omega)) ?_
            refine jo_pure rfl (pr_load_elem_imm (i := 0) (str (l.getD 0 [])) rfl (.tail _ (.tail _ (.head _))) ty_9 rfl rfl (by omega) rfl) ?_
            refine j_pull1 ?_
            refine j_pull1 ?_
            refine jo_callm [.imm (.list .str) (lv) (l)] rfl cal_98 (c_WriteString_used b1 r1 [] (l.getD 0 []) (by first | omega | (simp only [List.length_append, List.length_nil]; have := getD_len (i := 0) hm; omega) | (have := getD_len (i := k + 1) hm; rw [tail_get]; simp only [List.length_append]; omega) | (simp only [List.length_append]; omega))) ⟨rfl, rfl, trivial⟩ rfl (fun r2 => ?_)
            show J _ _ [.box b1 98 [.pointer (some ⟨b1, 0, none⟩), r2], .row (r2) 5 .u8 ([] ++ (l.getD 0 [])), .imm (.list .str) (lv) (l)] _
            refine jo_nil ?_
            refine jq_then ?_
            refine jc_seq ?_
            refine jc_seq ?_
            refine jc_region ?_
            refine jo_pure rfl (pr_move rfl) ?_
            refine j_resl (l := 1) (h := l.length) (.tail _ (.tail _ (.head _))) (by omega) (by omega) ?_
            show J _ _ (.imm (.list .str) (resl (lv) (1) (l.length) 1) ((l.take l.length).drop 1) :: _) _
            refine jo_pure rfl (pr_slice_imm (l := 1) (h := l.length) rfl (.tail _ (.tail _ (.tail _ (.head _)))) Tryz.underlying45 ty_9 ⟨_, rfl⟩ rfl (by omega) (by omega)) ?_
            refine jo_pure rfl (pr_len_imm rfl (.head _) Tryz.underlying45) ?_
            refine jo_pure rfl (pr_move rfl) ?_
            refine jo_nil ?_
            refine jq_then ?_
            refine jc_block ?_
            refine jc_loop3 (fun (k : Nat) (bv : Value) (acc : List UInt8) => [(1, str (sep)), (8, .pointer (some ⟨b1, 0, none⟩)), (63, resl (lv) (1) (l.length) 1), (64, .int .i64 ((((l.take l.length).drop 1).length : Nat) : Int)), (65, .int .i64 ((k : Nat) : Int))]) (fun (k : Nat) (bv : Value) (acc : List UInt8) => [.imm (.list .str) (resl (lv) (1) (l.length) 1) ((l.take l.length).drop 1), .box b1 98 [.pointer (some ⟨b1, 0, none⟩), bv], .row (bv) 5 .u8 (acc), .imm (.list .str) (lv) (l)]) (fun (k : Nat) (bv : Value) (acc : List UInt8) => k ≤ ((l.take l.length).drop 1).length ∧ acc.length ≤ 20000 + k * 20010 ∧ acc = joinS sep (l.take (k + 1))) (fun (k : Nat) (bv : Value) (acc : List UInt8) => ((l.take l.length).drop 1).length - k) 0 r2 ([] ++ (l.getD 0 [])) (⟨Nat.zero_le _, by have := getD_len (i := 0) hm; simp only [List.nil_append]; omega, by rw [joinS_first (by omega), List.nil_append]⟩) (⟨rfl, rfl, rfl, rfl, rfl, trivial⟩) (fun _ h => h) (fun k bv acc hink => ?_)
            refine jc_seq ?_
            refine jc_region ?_
            refine jo_pure rfl (pr_lssN (m := k) (n := ((l.take l.length).drop 1).length) rfl rfl) ?_
            refine jo_nil ?_
            refine jq_then ?_
            refine jc_seq ?_
            refine jc_cond rfl (fun h7b => ?_) (fun h7b => ?_)
            · have h7 := of_decide_eq_true h7b
              refine jc_skip ?_
              refine jq_then ?_
              refine jc_seq ?_
              refine jc_block ?_
              refine jc_seq ?_
              refine jc_region ?_
              refine jo_pure rfl (pr_idx_imm (i := k) rfl (.head _) rfl Tryz.underlying45 ty_9 (by omega)) ?_
              refine jo_pure rfl (pr_load_elem_imm (i := k) (str (((l.take l.length).drop 1).getD k [])) rfl (.head _) ty_9 rfl rfl (by omega) rfl) ?_
              refine jo_pure rfl (pr_assign rfl) ?_
              refine jo_nil ?_
              refine jq_then ?_
              refine jc_seq ?_
              refine jc_region ?_
              refine jo_pure rfl (pr_move rfl) ?_
              refine j_pull2 ?_
              refine j_pull2 ?_
              refine jo_callm [.imm (.list .str) (resl (lv) (1) (l.length) 1) ((l.take l.length).drop 1), .imm (.list .str) (lv) (l)] rfl cal_98 (c_WriteString_used b1 bv acc sep (by first | omega | (simp only [List.length_append, List.length_nil]; have := getD_len (i := 0) hm; omega) | (have := getD_len (i := k + 1) hm; rw [tail_get]; simp only [List.length_append]; omega) | (simp only [List.length_append]; omega))) ⟨rfl, rfl, trivial⟩ rfl (fun r3 => ?_)
              show J _ _ [.box b1 98 [.pointer (some ⟨b1, 0, none⟩), r3], .row (r3) 5 .u8 (acc ++ sep), .imm (.list .str) (resl (lv) (1) (l.length) 1) ((l.take l.length).drop 1), .imm (.list .str) (lv) (l)] _
              refine jo_nil ?_
              refine jq_then ?_
              refine jc_region ?_
              refine jo_pure rfl (pr_move rfl) ?_
              refine j_pull1 ?_
              refine j_pull1 ?_
              refine jo_callm [.imm (.list .str) (resl (lv) (1) (l.length) 1) ((l.take l.length).drop 1), .imm (.list .str) (lv) (l)] rfl cal_98 (c_WriteString_used b1 r3 (acc ++ sep) (((l.take l.length).drop 1).getD k []) (by first | omega | (simp only [List.length_append, List.length_nil]; have := getD_len (i := 0) hm; omega) | (have := getD_len (i := k + 1) hm; rw [tail_get]; simp only [List.length_append]; omega) | (simp only [List.length_append]; omega))) ⟨rfl, rfl, trivial⟩ rfl (fun r4 => ?_)
              show J _ _ [.box b1 98 [.pointer (some ⟨b1, 0, none⟩), r4], .row (r4) 5 .u8 ((acc ++ sep) ++ (((l.take l.length).drop 1).getD k [])), .imm (.list .str) (resl (lv) (1) (l.length) 1) ((l.take l.length).drop 1), .imm (.list .str) (lv) (l)] _
              refine jo_nil ?_
              refine jq_in_normal ?_
              refine jq_then ?_
              refine jc_region ?_
              refine jo_pure rfl (pr_addN (m := k) (n := 1) rfl rfl (by first | omega | (have := getD_len (i := i) hm; omega))) ?_
              refine jo_pure rfl (pr_move rfl) ?_
              refine jo_nil ?_
              refine j_pull3 ?_
              refine j_pull2 ?_
              refine j_pull2 ?_
              refine j_pull3 ?_
              refine jq_round' ((k + 1), r4, ((acc ++ sep) ++ (((l.take l.length).drop 1).getD k []))) (by (try dsimp only); exact (⟨by omega, by have := getD_len (i := k + 1) hm; rw [tail_get]; simp only [List.length_append]; omega, by rw [tail_get, joinS_next (by omega) (by omega), hink.2.2]⟩)) (by (try dsimp only); exact (by omega)) ⟨rfl, rfl, rfl, rfl, rfl, trivial⟩ (fun _ h => h)
            · have h7 := of_decide_eq_false h7b
              refine jc_exit ?_
              refine jq_then_exit ?_
              refine jq_then_exit ?_
              refine jq_in_hit ?_
              refine jq_then ?_
              refine jc_seq ?_
              refine jc_region ?_
              refine j_pull2 ?_
              refine j_pull2 ?_
              refine jo_callm [.imm (.list .str) (resl (lv) (1) (l.length) 1) ((l.take l.length).drop 1), .imm (.list .str) (lv) (l)] rfl cal_99 (c_Builder_String b1 (.pointer (some ⟨b1, 0, none⟩)) bv acc) ⟨rfl, trivial⟩ rfl (fun _ => ?_)
              show J _ _ [.imm (.list .str) (resl (lv) (1) (l.length) 1) ((l.take l.length).drop 1), .imm (.list .str) (lv) (l)] _
              refine jo_pure rfl (pr_assign rfl) ?_
              refine jo_nil ?_
              refine jq_then ?_
              refine jc_ret ?_
              refine j_drop ?_
              refine j_drop ?_
              exact jq_ret1 rfl () rfl (show (str (joinS sep l) : Value) = (str (acc)) from congrArg str (by rw [hink.2.2, joinS_all (by omega)])) (fun _ h => h)
      · have h3 := of_decide_eq_false h3b
        exact absurd hs h3
end Go.Proofs.YtgahnjchpomcfaaGreatDoor
