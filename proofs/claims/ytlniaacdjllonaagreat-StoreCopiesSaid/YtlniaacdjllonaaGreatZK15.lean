/-
 Contracts of functions of the program: each returns what a plain function says, for every input within the bounds named. Conditions: the bounds.
-/
import Derived.Test.YtlniaacdjllonaaGreatRows
import Derived.Test.YtlniaacdjllonaaGreatZK12
namespace Go.Proofs.YtlniaacdjllonaaGreat
open Go Go.Sep
set_option linter.unusedSimpArgs false
set_option linter.unusedVariables false

open Go.Plain

theorem cal_10 : Cal Tryz.prog 10 := cal_of Tryz.func10 (by kernel_rfl) rfl
theorem cal_11 : Cal Tryz.prog 11 := cal_of Tryz.func11 (by kernel_rfl) rfl
theorem cal_14 : Cal Tryz.prog 14 := cal_of Tryz.func14 (by kernel_rfl) rfl
theorem cal_15 : Cal Tryz.prog 15 := cal_of Tryz.func15 (by kernel_rfl) rfl
theorem cal_18 : Cal Tryz.prog 18 := cal_of Tryz.func18 (by kernel_rfl) rfl
theorem cal_24 : Cal Tryz.prog 24 := cal_of Tryz.func24 (by kernel_rfl) rfl
theorem cal_28 : Cal Tryz.prog 28 := cal_of Tryz.func28 (by kernel_rfl) rfl
theorem cal_29 : Cal Tryz.prog 29 := cal_of Tryz.func29 (by kernel_rfl) rfl

set_option maxHeartbeats 2000000 in
theorem c_law28_StoreCopies (bz : Int) (o : Int × Int × Int × Int × Ent × (List (Axs))) (ov : Value) (ov2 : Value) (ov3 : Value) (ov4 : Value) (ov5 : Value) (l : List (Int × Int × Int × Int × Ent × (List (Axs)))) (lv : Value) (hl : l.length ≤ 9223372036854775807) (hme : ∀ o ∈ l, (o.2.2.2.2.1.1.length ≤ 9223372036854775807 ∧ (∀ k ∈ o.2.2.2.2.1.1, k.length ≤ 9223372036854775807) ∧ o.2.2.2.2.1.2.1.length ≤ 9223372036854775807 ∧ o.2.2.2.2.1.2.2.1.length ≤ 9223372036854775807 ∧ o.2.2.2.2.1.2.2.2.2.1.length ≤ 9223372036854775807) ∧ o.2.2.2.2.2.length ≤ 9223372036854775807 ∧ ∀ a ∈ o.2.2.2.2.2, a.2.length ≤ 9223372036854775807) (ho : (o.2.2.2.2.1.1.length ≤ 9223372036854775807 ∧ (∀ k ∈ o.2.2.2.2.1.1, k.length ≤ 9223372036854775807) ∧ o.2.2.2.2.1.2.1.length ≤ 9223372036854775807 ∧ o.2.2.2.2.1.2.2.1.length ≤ 9223372036854775807 ∧ o.2.2.2.2.1.2.2.2.2.1.length ≤ 9223372036854775807) ∧ o.2.2.2.2.2.length ≤ 9223372036854775807 ∧ ∀ a ∈ o.2.2.2.2.2, a.2.length ≤ 9223372036854775807) : Con Tryz.prog 7 #[.int .i64 (bz), .agg #[.int .i64 (o.1), .int .i64 (o.2.1), .int .i64 (o.2.2.1), .int .i64 (o.2.2.2.1), ov, ov2, ov3, str (o.2.2.2.2.1.2.2.2.1), ov4, str (o.2.2.2.2.1.2.2.2.2.2.1), .int .i64 (o.2.2.2.2.1.2.2.2.2.2.2.1), .int .i64 (o.2.2.2.2.1.2.2.2.2.2.2.2), ov5], lv] [.imm (.list (.list .str)) (ov) (o.2.2.2.2.1.1), .imm (.list .str) (ov2) (o.2.2.2.2.1.2.1), .imm (.list .str) (ov3) (o.2.2.2.2.1.2.2.1), .imm (.list (.pair .str .str)) (ov4) (o.2.2.2.2.1.2.2.2.2.1), .imm (.list (.pair .str (.list .str))) (ov5) (o.2.2.2.2.2), .imm (.list (.pair (.int .i64) (.pair (.int .i64) (.pair (.int .i64) (.pair (.int .i64) (.pair tyE (.list (.pair .str (.list .str))))))))) (lv) (l)] (fun _ : Unit => .bool (true)) (fun _ => []) := by
 refine con_of_J (args := [.int .i64 (bz), .agg #[.int .i64 (o.1), .int .i64 (o.2.1), .int .i64 (o.2.2.1), .int .i64 (o.2.2.2.1), ov, ov2, ov3, str (o.2.2.2.2.1.2.2.2.1), ov4, str (o.2.2.2.2.1.2.2.2.2.2.1), .int .i64 (o.2.2.2.2.1.2.2.2.2.2.2.1), .int .i64 (o.2.2.2.2.1.2.2.2.2.2.2.2), ov5], lv]) (n := 95) Tryz.func7 rfl (Nat.le_of_ble_eq_true rfl) rfl (fun w0 I0 m0 => ?_)
 refine jc_seq (jc_region ?_)
 refine jo_box rfl [.int .i64 (o.1), .int .i64 (o.2.1), .int .i64 (o.2.2.1), .int .i64 (o.2.2.2.1), ov, ov2, ov3, str (o.2.2.2.2.1.2.2.2.1), ov4, str (o.2.2.2.2.1.2.2.2.2.2.1), .int .i64 (o.2.2.2.2.1.2.2.2.2.2.2.1), .int .i64 (o.2.2.2.2.1.2.2.2.2.2.2.2), ov5] rfl rfl (fun b1 => ?_)
 refine jo_pure rfl (pr_assign rfl) (jo_nil (jq_then (jc_seq (jc_seq ?_))))
 by_cases hz : smallL l = true
 ·skip
  by_cases hy : smallL [o] = true
  ·skip
   by_cases hal : 1 ≤ bz ∧ bz ≤ 100000000
   ·skip
    have hlim : LimA bz.toNat 4 4 := ⟨by omega, by decide, by decide⟩
    have hzz : bz = ((bz.toNat : Nat) : Int) := by omega
    have hyes : allowB ((bz.toNat : Nat) : Int) ((4 : Nat) : Int) ((4 : Nat) : Int) = true := by rw [← hzz]; exact allow_iff.2 ⟨hal, by decide, by decide⟩
    have hll := small_len hz
    have hko : keepO o = true := small_mem hy o (by simp)
    have hoe := ofE_keep hko
    have hka : keepE o.2.2.2.2.1 = true ∧ keepA o.2.2.2.2.2 = true := by have h9 := hko; unfold keepO at h9; rw [Bool.and_eq_true] at h9; exact h9
    have hxx := okA_keep hka.2
    have hstP : StoA bz.toNat 4 4 (putA bz.toNat 4 4 noA (nameF o.2.1) (ofE o) o.2.2.2.2.2) := sto_put hlim sto_noA hoe.1 hxx
    have hlenP := hstP.len hlim
    have hokP := hstP.ok
    have hfo := okT_find hokP (nameF o.2.1)
    have hco := copy_ok (k := (nameF o.2.1)) (e := ofE o) (axes := o.2.2.2.2.2) hlim (sto_noA) rfl
    rw [show (bz : Int) = ((bz.toNat : Nat) : Int) from (Int.toNat_of_nonneg (by omega)).symm]
    refine jc_region (jo_pure rfl (pr_move rfl) ?_)
    refine jo_callp cal_14 (c_law28_small l lv (by first | assumption | exact hka.1 | exact hoe.1 | exact (fun x hx => by rw [List.mem_singleton.1 hx]; exact ho) | (have := hxx.len; omega) | exact (fun a ha => ⟨hxx.names a ha, hxx.strs a ha, Nat.le_trans (hxx.vals a ha) (by decide)⟩) | (simp; done) | exact hfo) (by first | assumption | exact hka.1 | exact hoe.1 | exact (fun x hx => by rw [List.mem_singleton.1 hx]; exact ho) | (have := hxx.len; omega) | exact (fun a ha => ⟨hxx.names a ha, hxx.strs a ha, Nat.le_trans (hxx.vals a ha) (by decide)⟩) | (simp; done) | exact hfo)) ⟨rfl, trivial⟩ rfl (⟨⟨rfl, .tail _ (.tail _ (.tail _ (.tail _ (.tail _ (.tail _ (.head _))))))⟩, trivial⟩) (fun _ => ?_)
    refine jo_pure rfl (pr_not rfl) ?_
    refine jo_pure rfl (pr_move rfl) (jo_run (j := 3) (want := false) rfl rfl (by rw [hz]; rfl) ?_)
    refine jo_pure rfl (pr_load_box (.agg #[.int .i64 (o.1), .int .i64 (o.2.1), .int .i64 (o.2.2.1), .int .i64 (o.2.2.2.1), ov, ov2, ov3, str (o.2.2.2.2.1.2.2.2.1), ov4, str (o.2.2.2.2.1.2.2.2.2.2.1), .int .i64 (o.2.2.2.2.1.2.2.2.2.2.2.1), .int .i64 (o.2.2.2.2.1.2.2.2.2.2.2.2), ov5]) rfl ty_43 (.head _) rfl (by decide) rfl) ?_
    refine jo_run (j := 3) (want := false) rfl rfl (by rw [hz]; rfl) ?_
    refine jo_buildSliceL (t := (.pair (.int .i64) (.pair (.int .i64) (.pair (.int .i64) (.pair (.int .i64) (.pair tyE (.list (.pair .str (.list .str))))))))) [o] [.agg #[.int .i64 (o.1), .int .i64 (o.2.1), .int .i64 (o.2.2.1), .int .i64 (o.2.2.2.1), ov, ov2, ov3, str (o.2.2.2.2.1.2.2.2.1), ov4, str (o.2.2.2.2.1.2.2.2.2.2.1), .int .i64 (o.2.2.2.2.1.2.2.2.2.2.2.1), .int .i64 (o.2.2.2.2.1.2.2.2.2.2.2.2), ov5]] [[.int .i64 (o.1), .int .i64 (o.2.1), .int .i64 (o.2.2.1), .int .i64 (o.2.2.2.1), ov, ov2, ov3, str (o.2.2.2.2.1.2.2.2.1), ov4, str (o.2.2.2.2.1.2.2.2.2.2.1), .int .i64 (o.2.2.2.2.1.2.2.2.2.2.2.1), .int .i64 (o.2.2.2.2.1.2.2.2.2.2.2.2), ov5]] (fun a hf => by simp only [List.zipIdx_cons, List.zipIdx_nil, List.map_toArray, List.map_cons, List.map_nil, hf.ev (show ev _ (.tmp 17) = some (.agg #[.int .i64 (o.1), .int .i64 (o.2.1), .int .i64 (o.2.2.1), .int .i64 (o.2.2.2.1), ov, ov2, ov3, str (o.2.2.2.2.1.2.2.2.1), ov4, str (o.2.2.2.2.1.2.2.2.2.2.1), .int .i64 (o.2.2.2.2.1.2.2.2.2.2.2.1), .int .i64 (o.2.2.2.2.1.2.2.2.2.2.2.2), ov5]) from rfl)] <;> rfl) rfl ⟨⟨[.int .i64 (o.1)], [.int .i64 (o.2.1), .int .i64 (o.2.2.1), .int .i64 (o.2.2.2.1), ov, ov2, ov3, str (o.2.2.2.2.1.2.2.2.1), ov4, str (o.2.2.2.2.1.2.2.2.2.2.1), .int .i64 (o.2.2.2.2.1.2.2.2.2.2.2.1), .int .i64 (o.2.2.2.2.1.2.2.2.2.2.2.2), ov5], rfl, rfl, ⟨[.int .i64 (o.2.1)], [.int .i64 (o.2.2.1), .int .i64 (o.2.2.2.1), ov, ov2, ov3, str (o.2.2.2.2.1.2.2.2.1), ov4, str (o.2.2.2.2.1.2.2.2.2.2.1), .int .i64 (o.2.2.2.2.1.2.2.2.2.2.2.1), .int .i64 (o.2.2.2.2.1.2.2.2.2.2.2.2), ov5], rfl, rfl, ⟨[.int .i64 (o.2.2.1)], [.int .i64 (o.2.2.2.1), ov, ov2, ov3, str (o.2.2.2.2.1.2.2.2.1), ov4, str (o.2.2.2.2.1.2.2.2.2.2.1), .int .i64 (o.2.2.2.2.1.2.2.2.2.2.2.1), .int .i64 (o.2.2.2.2.1.2.2.2.2.2.2.2), ov5], rfl, rfl, ⟨[.int .i64 (o.2.2.2.1)], [ov, ov2, ov3, str (o.2.2.2.2.1.2.2.2.1), ov4, str (o.2.2.2.2.1.2.2.2.2.2.1), .int .i64 (o.2.2.2.2.1.2.2.2.2.2.2.1), .int .i64 (o.2.2.2.2.1.2.2.2.2.2.2.2), ov5], rfl, rfl, ⟨[ov, ov2, ov3, str (o.2.2.2.2.1.2.2.2.1), ov4, str (o.2.2.2.2.1.2.2.2.2.2.1), .int .i64 (o.2.2.2.2.1.2.2.2.2.2.2.1), .int .i64 (o.2.2.2.2.1.2.2.2.2.2.2.2)], [ov5], rfl, ⟨[ov], [ov2, ov3, str (o.2.2.2.2.1.2.2.2.1), ov4, str (o.2.2.2.2.1.2.2.2.2.2.1), .int .i64 (o.2.2.2.2.1.2.2.2.2.2.2.1), .int .i64 (o.2.2.2.2.1.2.2.2.2.2.2.2)], rfl, ⟨ov, rfl, .tail _ (.head _)⟩, ⟨[ov2], [ov3, str (o.2.2.2.2.1.2.2.2.1), ov4, str (o.2.2.2.2.1.2.2.2.2.2.1), .int .i64 (o.2.2.2.2.1.2.2.2.2.2.2.1), .int .i64 (o.2.2.2.2.1.2.2.2.2.2.2.2)], rfl, ⟨ov2, rfl, .tail _ (.tail _ (.head _))⟩, ⟨[ov3], [str (o.2.2.2.2.1.2.2.2.1), ov4, str (o.2.2.2.2.1.2.2.2.2.2.1), .int .i64 (o.2.2.2.2.1.2.2.2.2.2.2.1), .int .i64 (o.2.2.2.2.1.2.2.2.2.2.2.2)], rfl, ⟨ov3, rfl, .tail _ (.tail _ (.tail _ (.head _)))⟩, ⟨[str (o.2.2.2.2.1.2.2.2.1)], [ov4, str (o.2.2.2.2.1.2.2.2.2.2.1), .int .i64 (o.2.2.2.2.1.2.2.2.2.2.2.1), .int .i64 (o.2.2.2.2.1.2.2.2.2.2.2.2)], rfl, rfl, ⟨[ov4], [str (o.2.2.2.2.1.2.2.2.2.2.1), .int .i64 (o.2.2.2.2.1.2.2.2.2.2.2.1), .int .i64 (o.2.2.2.2.1.2.2.2.2.2.2.2)], rfl, ⟨ov4, rfl, .tail _ (.tail _ (.tail _ (.tail _ (.head _))))⟩, ⟨[str (o.2.2.2.2.1.2.2.2.2.2.1)], [.int .i64 (o.2.2.2.2.1.2.2.2.2.2.2.1), .int .i64 (o.2.2.2.2.1.2.2.2.2.2.2.2)], rfl, rfl, ⟨[.int .i64 (o.2.2.2.2.1.2.2.2.2.2.2.1)], [.int .i64 (o.2.2.2.2.1.2.2.2.2.2.2.2)], rfl, rfl, rfl⟩⟩⟩⟩⟩⟩⟩, ⟨ov5, rfl, .tail _ (.tail _ (.tail _ (.tail _ (.tail _ (.head _)))))⟩⟩⟩⟩⟩⟩, trivial⟩ Tryz.underlying31 ty_43 rfl rfl rfl rfl (fun g1 => ?_)
    refine jo_run (j := 3) (want := false) rfl rfl (by rw [hz]; rfl) ?_
    refine j_pub_rowg ?_
    refine jo_callp cal_14 (c_law28_small [o] (.slice (some ⟨g1, 0, none⟩) ([o]).length (([o]).length)) (by first | assumption | exact hka.1 | exact hoe.1 | exact (fun x hx => by rw [List.mem_singleton.1 hx]; exact ho) | (have := hxx.len; omega) | exact (fun a ha => ⟨hxx.names a ha, hxx.strs a ha, Nat.le_trans (hxx.vals a ha) (by decide)⟩) | (simp; done) | exact hfo) (by first | assumption | exact hka.1 | exact hoe.1 | exact (fun x hx => by rw [List.mem_singleton.1 hx]; exact ho) | (have := hxx.len; omega) | exact (fun a ha => ⟨hxx.names a ha, hxx.strs a ha, Nat.le_trans (hxx.vals a ha) (by decide)⟩) | (simp; done) | exact hfo)) ⟨rfl, trivial⟩ rfl (⟨⟨rfl, .head _⟩, trivial⟩) (fun _ => ?_)
    refine jo_run (j := 3) (want := false) rfl rfl (by rw [hz]; rfl) ?_
    refine jo_pure rfl (pr_not rfl) ?_
    refine jo_pure rfl (pr_pick_f rfl (by rw [hz]; rfl) rfl) ?_
    refine jo_pure rfl (pr_move rfl) (jo_run (j := 9) (want := false) rfl rfl (by rw [hy]; rfl) ?_)
    refine jo_pure rfl (pr_move rfl) (jo_run (j := 9) (want := false) rfl rfl (by rw [hy]; rfl) ?_)
    refine jo_callp cal_10 (c_ref26_Allowed ((bz.toNat : Nat) : Int) ((4 : Nat) : Int) ((4 : Nat) : Int)) ⟨rfl, rfl, rfl, trivial⟩ rfl (trivial) (fun _ => ?_)
    refine jo_run (j := 9) (want := false) rfl rfl (by rw [hy]; rfl) ?_
    refine jo_pure rfl (pr_not rfl) ?_
    refine jo_pure rfl (pr_pick_f rfl (by rw [hy]; rfl) rfl) ?_
    refine jo_nil (jq_then (jc_false rfl (by rw [hyes]; rfl) ?_))
    refine jc_skip (jq_then (jc_seq (jc_region (jo_pure rfl (pr_move rfl) ?_))))
    refine jo_callp cal_9 (c_store_New bz.toNat 4 4 (hlim.b) (hlim.v) (hlim.t)) ⟨rfl, rfl, rfl, trivial⟩ rfl (trivial) (fun ⟨nb1, nm1⟩ => ?_)
    refine jo_pure rfl (pr_move rfl) (jo_pure rfl (pr_extract rfl rfl) (jo_pure rfl (pr_extract rfl rfl) (jo_pure rfl (pr_assign rfl) (jo_pure rfl (pr_assign rfl) (jo_nil (jq_then (jc_seq (jc_seq (j_pull1 (j_pull1 (j_nil_row 9 .str ?_)))))))))))
    refine jc_region (jo_pure rfl (pr_move rfl) (jo_pure rfl (pr_neqN (m := 0) (n := 0) rfl rfl) ?_))
    refine jo_pure rfl (pr_move rfl) (jo_gpure (j := 2) (want := false) rfl rfl rfl rfl (fun hg=>pr_move rfl) (jo_gpure (j := 2) (want := false) rfl rfl rfl rfl (fun hg=>pr_eql_ptrnil (evg rfl hg) rfl Tryz.underlying22) ?_))
    refine jo_pure rfl (pr_pick_or rfl rfl rfl) ?_
    refine jo_nil (jq_then (jc_false rfl (by decide) ?_))
    refine jc_skip (jq_then (jc_seq (j_pull2 (j_pull2 (j_pull2 ?_)))))
    refine jc_held (fun (iq : Value × Value × Value × Value × Value) => [(0, .int .i64 ((bz.toNat : Nat) : Int)), (2, lv), (4, .pointer (some ⟨b1, 0, none⟩)), (7, .pointer (some ⟨nb1, 0, none⟩))]) (fun iq => [.mpt nm1 tyT (putA bz.toNat 4 4 noA (nameF o.2.1) (ofE o) o.2.2.2.2.2), .box nb1 68 [.int .i64 ((bz.toNat : Nat) : Int), .int .i64 ((4 : Nat) : Int), .int .i64 ((4 : Nat) : Int), .int .i64 ((totA (putA bz.toNat 4 4 noA (nameF o.2.1) (ofE o) o.2.2.2.2.2) : Nat) : Int), iq.1, .map (some nm1)], .row (iq.1) 9 .str (keysA (putA bz.toNat 4 4 noA (nameF o.2.1) (ofE o) o.2.2.2.2.2)), .imm (.list (.pair .str (.list .str))) (ov5) (o.2.2.2.2.2), .imm (.list (.pair .str .str)) (iq.2.1) ((ofE o).2.2.2.2.1), .imm (.list .str) (iq.2.2.1) ((ofE o).2.2.1), .imm (.list .str) (iq.2.2.2.1) ((ofE o).2.1), .imm (.list (.list .str)) (iq.2.2.2.2) ((ofE o).1), .imm (.list (.pair (.int .i64) (.pair (.int .i64) (.pair (.int .i64) (.pair (.int .i64) (.pair tyE (.list (.pair .str (.list .str))))))))) (.slice (some ⟨g1, 0, none⟩) ([o]).length (([o]).length)) ([o]), .box b1 43 [.int .i64 (o.1), .int .i64 (o.2.1), .int .i64 (o.2.2.1), .int .i64 (o.2.2.2.1), ov, ov2, ov3, str (o.2.2.2.2.1.2.2.2.1), ov4, str (o.2.2.2.2.1.2.2.2.2.2.1), .int .i64 (o.2.2.2.2.1.2.2.2.2.2.2.1), .int .i64 (o.2.2.2.2.1.2.2.2.2.2.2.2), ov5], .imm (.list (.list .str)) (ov) (o.2.2.2.2.1.1), .imm (.list .str) (ov2) (o.2.2.2.2.1.2.1), .imm (.list .str) (ov3) (o.2.2.2.2.1.2.2.1), .imm (.list (.pair .str .str)) (ov4) (o.2.2.2.2.1.2.2.2.2.1), .imm (.list (.pair (.int .i64) (.pair (.int .i64) (.pair (.int .i64) (.pair (.int .i64) (.pair tyE (.list (.pair .str (.list .str))))))))) (lv) (l)]) [.imm (.list (.pair (.int .i64) (.pair (.int .i64) (.pair (.int .i64) (.pair (.int .i64) (.pair tyE (.list (.pair .str (.list .str))))))))) (.slice (some ⟨g1, 0, none⟩) ([o]).length (([o]).length)) ([o]), .box b1 43 [.int .i64 (o.1), .int .i64 (o.2.1), .int .i64 (o.2.2.1), .int .i64 (o.2.2.2.1), ov, ov2, ov3, str (o.2.2.2.2.1.2.2.2.1), ov4, str (o.2.2.2.2.1.2.2.2.2.2.1), .int .i64 (o.2.2.2.2.1.2.2.2.2.2.2.1), .int .i64 (o.2.2.2.2.1.2.2.2.2.2.2.2), ov5], .imm (.list (.list .str)) (ov) (o.2.2.2.2.1.1), .imm (.list .str) (ov2) (o.2.2.2.2.1.2.1), .imm (.list .str) (ov3) (o.2.2.2.2.1.2.2.1), .imm (.list (.pair .str .str)) (ov4) (o.2.2.2.2.1.2.2.2.2.1), .imm (.list (.pair .str (.list .str))) (ov5) (o.2.2.2.2.2), .imm (.list (.pair (.int .i64) (.pair (.int .i64) (.pair (.int .i64) (.pair (.int .i64) (.pair tyE (.list (.pair .str (.list .str))))))))) (lv) (l)] mixed (fun lst hlst => ?_) (fun ⟨r5, r4, r3, r2, r1⟩ => ?_)
    ·subst hlst
     refine jh_take (listed' := #[true, false, false, false, false, false, false, false, false]) 0 rfl (by kernel_rfl) (by kernel_rfl) (by kernel_rfl) rfl (pr_move rfl) (fun _ h => Mem.drop1 (Mem.drop1 (Mem.drop1 (h)))) rfl ?_
     refine jh_take (listed' := #[true, true, false, false, false, false, false, false, false]) 1 rfl (by kernel_rfl) (by kernel_rfl) (by kernel_rfl) rfl (pr_fieldAddr 1 rfl Tryz.underlying43 rfl ty_3 rfl rfl) (fun _ h => Mem.drop1 (Mem.drop1 (Mem.drop1 (h)))) rfl ?_
     refine jh_take (listed' := #[true, true, true, false, false, false, false, false, false]) 2 rfl (by kernel_rfl) (by kernel_rfl) (by kernel_rfl) rfl (pr_load_box (.int .i64 (o.2.1)) rfl ty_3 (.tail _ (.head _)) rfl (by decide) rfl) (fun _ h => Mem.drop1 (Mem.drop1 (Mem.drop1 (h)))) rfl ?_
     refine jh_take (listed' := #[true, true, true, false, true, false, false, false, false]) 4 rfl (by kernel_rfl) (by kernel_rfl) (by kernel_rfl) rfl (pr_load_box (.agg #[.int .i64 (o.1), .int .i64 (o.2.1), .int .i64 (o.2.2.1), .int .i64 (o.2.2.2.1), ov, ov2, ov3, str (o.2.2.2.2.1.2.2.2.1), ov4, str (o.2.2.2.2.1.2.2.2.2.2.1), .int .i64 (o.2.2.2.2.1.2.2.2.2.2.2.1), .int .i64 (o.2.2.2.2.1.2.2.2.2.2.2.2), ov5]) rfl ty_43 (.tail _ (.head _)) rfl (by decide) rfl) (fun _ h => Mem.drop1 (Mem.drop1 (Mem.drop1 (h)))) rfl ?_
     refine jh_take (listed' := #[true, true, true, false, true, false, true, false, false]) 6 rfl (by kernel_rfl) (by kernel_rfl) (by kernel_rfl) rfl (pr_fieldAddr 12 rfl Tryz.underlying43 rfl ty_41 rfl rfl) (fun _ h => Mem.drop1 (Mem.drop1 (Mem.drop1 (h)))) rfl ?_
     refine jh_take (listed' := #[true, true, true, false, true, false, true, true, false]) 7 rfl (by kernel_rfl) (by kernel_rfl) (by kernel_rfl) rfl (pr_load_box (ov5) rfl ty_41 (.tail _ (.head _)) rfl (by decide) rfl) (fun _ h => Mem.drop1 (Mem.drop1 (Mem.drop1 (h)))) rfl ?_
     refine jh_all [3] (by kernel_rfl) (by simp) (fun i hi => ?_)
     simp only [List.mem_cons, List.not_mem_nil, or_false] at hi
     subst hi
     ·refine jh_op rfl ?_
      refine jo_callp cal_22 (c_law28_name o.2.1) ⟨rfl, trivial⟩ rfl (trivial) (fun _ => ?_)
      refine jh_in (listed' := #[true, true, true, true, true, false, true, true, false]) (fun _ h => Mem.drop1 (Mem.drop1 (Mem.drop1 (h)))) rfl ?_
      refine jh_all [5] (by kernel_rfl) (by simp) (fun i hi => ?_)
      simp only [List.mem_cons, List.not_mem_nil, or_false] at hi
      subst hi
      ·refine jh_op rfl ?_
       have con1 := c_law28_Op_of o ov ov2 ov3 ov4 ov5 (by first | assumption | exact hka.1 | exact hoe.1 | exact (fun x hx => by rw [List.mem_singleton.1 hx]; exact ho) | (have := hxx.len; omega) | exact (fun a ha => ⟨hxx.names a ha, hxx.strs a ha, Nat.le_trans (hxx.vals a ha) (by decide)⟩) | (simp; done) | exact hfo)
       refine jo_callp cal_20 con1 (by exact ⟨rfl, trivial⟩) rfl (by exact ⟨⟨rfl, .tail _ (.tail _ (.tail _ (.tail _ (.tail _ (.head _)))))⟩, ⟨⟨rfl, .tail _ (.tail _ (.tail _ (.tail _ (.tail _ (.tail _ (.head _))))))⟩, ⟨⟨rfl, .tail _ (.tail _ (.tail _ (.tail _ (.tail _ (.tail _ (.tail _ (.head _)))))))⟩, ⟨⟨rfl, .tail _ (.tail _ (.tail _ (.tail _ (.tail _ (.tail _ (.tail _ (.tail _ (.head _))))))))⟩, ⟨⟨rfl, .tail _ (.tail _ (.tail _ (.tail _ (.tail _ (.tail _ (.tail _ (.tail _ (.tail _ (.head _)))))))))⟩, trivial⟩⟩⟩⟩⟩) (fun ⟨r1, r2, r3, r4⟩ => ?_)
       clear con1
       refine jh_in (listed' := #[true, true, true, true, true, true, true, true, false]) (fun _ h => Mem.drop1 (Mem.drop1 (Mem.drop1 (Mem.drop1 (Mem.drop1 (Mem.drop1 (Mem.drop1 (h)))))))) rfl ?_
       refine jh_all [8] (by kernel_rfl) (by simp) (fun i hi => ?_)
       simp only [List.mem_cons, List.not_mem_nil, or_false] at hi
       subst hi
       ·refine jh_op rfl ?_
        refine j_dup rfl ?_
        refine j_pull2 (j_dup rfl ?_)
        refine j_pull4 ?_
        refine j_dup rfl ?_
        refine j_pull6 ?_
        refine j_dup rfl ?_
        refine j_pull17 ?_
        refine j_dup rfl ?_
        refine j_pull2 (j_pull4 ?_)
        refine j_pull6 ?_
        refine j_pull8 ?_
        refine j_pull12 ?_
        refine j_pull11 ?_
        refine j_pull12 ?_
        refine jo_callm [.imm (.list (.pair .str (.list .str))) (ov5) (o.2.2.2.2.2), .imm (.list (.pair .str .str)) (r4) ((ofE o).2.2.2.2.1), .imm (.list .str) (r3) ((ofE o).2.2.1), .imm (.list .str) (r2) ((ofE o).2.1), .imm (.list (.list .str)) (r1) ((ofE o).1), .imm (.list (.pair (.int .i64) (.pair (.int .i64) (.pair (.int .i64) (.pair (.int .i64) (.pair tyE (.list (.pair .str (.list .str))))))))) (.slice (some ⟨g1, 0, none⟩) ([o]).length (([o]).length)) ([o]), .box b1 43 [.int .i64 (o.1), .int .i64 (o.2.1), .int .i64 (o.2.2.1), .int .i64 (o.2.2.2.1), ov, ov2, ov3, str (o.2.2.2.2.1.2.2.2.1), ov4, str (o.2.2.2.2.1.2.2.2.2.2.1), .int .i64 (o.2.2.2.2.1.2.2.2.2.2.2.1), .int .i64 (o.2.2.2.2.1.2.2.2.2.2.2.2), ov5], .imm (.list (.list .str)) (ov) (o.2.2.2.2.1.1), .imm (.list .str) (ov2) (o.2.2.2.2.1.2.1), .imm (.list .str) (ov3) (o.2.2.2.2.1.2.2.1), .imm (.list (.pair .str .str)) (ov4) (o.2.2.2.2.1.2.2.2.2.1), .imm (.list (.pair (.int .i64) (.pair (.int .i64) (.pair (.int .i64) (.pair (.int .i64) (.pair tyE (.list (.pair .str (.list .str))))))))) (lv) (l)] rfl cal_21 (c_store_Put nb1 nm1 bz.toNat 4 4 (.slice none 0 0) noA (nameF o.2.1) (ofE o) r1 r2 r3 r4 o.2.2.2.2.2 ov5 (inv_nil _ _ _) (StoA.ok (B := 1) (V := 1) (T := 1) sto_noA) (hlim.b.2) (by have := hlim.v; omega) (hlim.t) (hoe.1) (hxx)) ⟨rfl, rfl, rfl, rfl, trivial⟩ rfl (fun r5 => ?_)
        refine jh_in (listed' := #[true, true, true, true, true, true, true, true, true]) (fun _ h => Mem.pull (As := [_, _, _, _, _, _, _]) (Mem.pull (As := [_, _, _, _, _, _, _]) (Mem.pull (As := [_, _, _, _, _, _, _]) (Mem.pull (As := [_, _, _, _, _, _, _]) (Mem.pull (As := [_, _, _, _, _, _, _]) (Mem.pull (As := [_, _, _, _, _, _, _]) (Mem.pull (As := [_]) (Mem.pull (As := [_, _, _, _, _, _, _]) (Mem.drop1 (Mem.pull (As := [_]) (Mem.drop1 (Mem.pull (As := [_]) (Mem.drop1 (Mem.pull (As := [_]) (Mem.drop1 (Mem.pull (As := [_]) (Mem.drop1 (Mem.drop1 (Mem.drop1 (h)))))))))))))))))))) rfl ?_
        refine j_pull14 ?_
        refine j_pull14 ?_
        refine j_pull14 ?_
        refine j_pull14 ?_
        refine j_pull14 ?_
        refine j_pull14 ?_
        refine j_pull14 ?_
        refine j_pull14 ?_
        refine j_pull14 ?_
        refine j_pull14 ?_
        refine j_pull14 ?_
        refine j_pull14 ?_
        refine j_pull14 ?_
        refine j_pull14 ?_
        refine j_pull14 ?_
        show JH _ _ _ _ _ _ _ _
        exact jh_done ⟨r5, r4, r3, r2, r1⟩ (by kernel_rfl) ⟨rfl, rfl, rfl, rfl, trivial⟩ (fun _ h => h)
    ·skip
     refine jq_then (jc_seq (jc_region (jo_pure rfl (pr_move rfl) (jo_pure rfl (pr_fieldAddr 1 rfl Tryz.underlying43 rfl ty_3 rfl rfl) ?_))))
     refine jo_pure rfl (pr_load_box (.int .i64 (o.2.1)) rfl ty_3 (.tail _ (.tail _ (.tail _ (.tail _ (.tail _ (.tail _ (.tail _ (.tail _ (.tail _ (.head _)))))))))) rfl (by decide) rfl) ?_
     refine jo_callp cal_22 (c_law28_name o.2.1) ⟨rfl, trivial⟩ rfl (trivial) (fun _ => ?_)
     refine j_pull1 ?_
     refine jo_callm [.row (r5) 9 .str (keysA (putA bz.toNat 4 4 noA (nameF o.2.1) (ofE o) o.2.2.2.2.2)), .imm (.list (.pair .str (.list .str))) (ov5) (o.2.2.2.2.2), .imm (.list (.pair .str .str)) (r4) ((ofE o).2.2.2.2.1), .imm (.list .str) (r3) ((ofE o).2.2.1), .imm (.list .str) (r2) ((ofE o).2.1), .imm (.list (.list .str)) (r1) ((ofE o).1), .imm (.list (.pair (.int .i64) (.pair (.int .i64) (.pair (.int .i64) (.pair (.int .i64) (.pair tyE (.list (.pair .str (.list .str))))))))) (.slice (some ⟨g1, 0, none⟩) ([o]).length (([o]).length)) ([o]), .box b1 43 [.int .i64 (o.1), .int .i64 (o.2.1), .int .i64 (o.2.2.1), .int .i64 (o.2.2.2.1), ov, ov2, ov3, str (o.2.2.2.2.1.2.2.2.1), ov4, str (o.2.2.2.2.1.2.2.2.2.2.1), .int .i64 (o.2.2.2.2.1.2.2.2.2.2.2.1), .int .i64 (o.2.2.2.2.1.2.2.2.2.2.2.2), ov5], .imm (.list (.list .str)) (ov) (o.2.2.2.2.1.1), .imm (.list .str) (ov2) (o.2.2.2.2.1.2.1), .imm (.list .str) (ov3) (o.2.2.2.2.1.2.2.1), .imm (.list (.pair .str .str)) (ov4) (o.2.2.2.2.1.2.2.2.2.1), .imm (.list (.pair (.int .i64) (.pair (.int .i64) (.pair (.int .i64) (.pair (.int .i64) (.pair tyE (.list (.pair .str (.list .str))))))))) (lv) (l)] rfl cal_18 (c_store_Get nb1 nm1 bz.toNat 4 4 (.int .i64 ((totA (putA bz.toNat 4 4 noA (nameF o.2.1) (ofE o) o.2.2.2.2.2) : Nat) : Int)) r5 (putA bz.toNat 4 4 noA (nameF o.2.1) (ofE o) o.2.2.2.2.2) (nameF o.2.1) (hokP)) ⟨rfl, rfl, trivial⟩ rfl (fun ⟨r6, r7⟩ => ?_)
     refine jo_pure rfl (pr_move rfl) (jo_pure rfl (pr_extract rfl rfl) (jo_pure rfl (pr_extract rfl rfl) ?_))
     refine jo_alloc ty_50 [.slice none 0 0, .slice none 0 0] rfl rfl (fun b2 => ?_)
     refine jo_storeV rfl rfl ty_50 [r6, r7] (fun _ _ _ _ => rfl) rfl (fun w I m hs => by simp only [List.all_cons, List.all_nil, Bool.and_true, Bool.and_eq_true]; exact ⟨(SliceV.one (imm_slice (.tail _ (.head _)) hs)), (SliceV.one (row_slice (.tail _ (.tail _ (.head _))) hs))⟩) [r6, r7] rfl rfl ?_
     refine jo_pure rfl (pr_assign rfl) (jo_nil (jq_then (jc_seq (jc_region (jo_pure rfl (pr_load_box (.agg #[r6, r7]) rfl ty_50 (.head _) rfl (by decide) rfl) ?_)))))
     refine j_pull2 (j_pub_row ?_)
     have con2 := c_ref26_Own (findA (putA bz.toNat 4 4 noA (nameF o.2.1) (ofE o) o.2.2.2.2.2) (nameF o.2.1)) r6 r7 (by first | assumption | exact hka.1 | exact hoe.1 | exact (fun x hx => by rw [List.mem_singleton.1 hx]; exact ho) | (have := hxx.len; omega) | exact (fun a ha => ⟨hxx.names a ha, hxx.strs a ha, Nat.le_trans (hxx.vals a ha) (by decide)⟩) | (simp; done) | exact hfo)
     refine jo_callp cal_28 con2 (by exact ⟨rfl, trivial⟩) rfl (by exact ⟨⟨rfl, .tail _ (.tail _ (.head _))⟩, ⟨⟨rfl, .head _⟩, trivial⟩⟩) (fun ⟨r8, r9⟩ => ?_)
     clear con2
     refine jo_alloc ty_50 [.slice none 0 0, .slice none 0 0] rfl rfl (fun b3 => ?_)
     refine jo_storeV rfl rfl ty_50 [r8, r9] (fun _ _ _ _ => rfl) rfl (fun w I m hs => by simp only [List.all_cons, List.all_nil, Bool.and_true, Bool.and_eq_true]; exact ⟨(SliceV.one (imm_slice (.tail _ (.head _)) hs)), (SliceV.one (imm_slice (.tail _ (.tail _ (.head _))) hs))⟩) [r8, r9] rfl rfl ?_
     refine jo_nil (jq_then (jc_seq (jc_seq (jc_region (jo_pure rfl (pr_assign rfl) (jo_nil (jq_then (jc_block ?_))))))))
     refine jc_loop2 (fun (i : Nat) (ow : Value) => [(0, .int .i64 ((bz.toNat : Nat) : Int)), (2, lv), (4, .pointer (some ⟨b1, 0, none⟩)), (7, .pointer (some ⟨nb1, 0, none⟩)), (9, .pointer (some ⟨b2, 0, none⟩)), (10, .bool (inA (putA bz.toNat 4 4 noA (nameF o.2.1) (ofE o) o.2.2.2.2.2) (nameF o.2.1))), (11, .pointer (some ⟨b3, 0, none⟩)), (12, .int .i64 ((i : Nat) : Int))]) (fun (i : Nat) (ow : Value) => [.box b3 50 [r8, r9], .imm (.list (.pair .str (.list .str))) (r8) ((findA (putA bz.toNat 4 4 noA (nameF o.2.1) (ofE o) o.2.2.2.2.2) (nameF o.2.1)).1), .imm (.list tyE) (r9) ((findA (putA bz.toNat 4 4 noA (nameF o.2.1) (ofE o) o.2.2.2.2.2) (nameF o.2.1)).2), .imm (.list tyE) (r7) ((findA (putA bz.toNat 4 4 noA (nameF o.2.1) (ofE o) o.2.2.2.2.2) (nameF o.2.1)).2), .box b2 50 [r6, r7], .imm (.list (.pair .str (.list .str))) (r6) ((findA (putA bz.toNat 4 4 noA (nameF o.2.1) (ofE o) o.2.2.2.2.2) (nameF o.2.1)).1), .box nb1 68 [.int .i64 ((bz.toNat : Nat) : Int), .int .i64 ((4 : Nat) : Int), .int .i64 ((4 : Nat) : Int), .int .i64 ((totA (runA bz.toNat 4 4 (putA bz.toNat 4 4 noA (nameF o.2.1) (ofE o) o.2.2.2.2.2) (l.take i)) : Nat) : Int), ow, .map (some nm1)], .mpt nm1 tyT (runA bz.toNat 4 4 (putA bz.toNat 4 4 noA (nameF o.2.1) (ofE o) o.2.2.2.2.2) (l.take i)), .row (ow) 9 .str (keysA (runA bz.toNat 4 4 (putA bz.toNat 4 4 noA (nameF o.2.1) (ofE o) o.2.2.2.2.2) (l.take i))), .imm (.list (.pair .str (.list .str))) (ov5) (o.2.2.2.2.2), .imm (.list (.pair .str .str)) (r4) ((ofE o).2.2.2.2.1), .imm (.list .str) (r3) ((ofE o).2.2.1), .imm (.list .str) (r2) ((ofE o).2.1), .imm (.list (.list .str)) (r1) ((ofE o).1), .imm (.list (.pair (.int .i64) (.pair (.int .i64) (.pair (.int .i64) (.pair (.int .i64) (.pair tyE (.list (.pair .str (.list .str))))))))) (.slice (some ⟨g1, 0, none⟩) ([o]).length (([o]).length)) ([o]), .box b1 43 [.int .i64 (o.1), .int .i64 (o.2.1), .int .i64 (o.2.2.1), .int .i64 (o.2.2.2.1), ov, ov2, ov3, str (o.2.2.2.2.1.2.2.2.1), ov4, str (o.2.2.2.2.1.2.2.2.2.2.1), .int .i64 (o.2.2.2.2.1.2.2.2.2.2.2.1), .int .i64 (o.2.2.2.2.1.2.2.2.2.2.2.2), ov5], .imm (.list (.list .str)) (ov) (o.2.2.2.2.1.1), .imm (.list .str) (ov2) (o.2.2.2.2.1.2.1), .imm (.list .str) (ov3) (o.2.2.2.2.1.2.2.1), .imm (.list (.pair .str .str)) (ov4) (o.2.2.2.2.1.2.2.2.2.1), .imm (.list (.pair (.int .i64) (.pair (.int .i64) (.pair (.int .i64) (.pair (.int .i64) (.pair tyE (.list (.pair .str (.list .str))))))))) (lv) (l)]) (fun (i : Nat) (ow : Value) => i ≤ l.length) (fun (i : Nat) (ow : Value) => l.length - i) 0 r5 (Nat.zero_le _) (⟨rfl, rfl, rfl, rfl, rfl, rfl, rfl, rfl, trivial⟩) (fun _ h => h) (fun i ow hinv => ?_)
     have hst := sto_run hlim hstP (fun o ho => small_mem hz o (List.mem_of_mem_take (i := i) ho))
     refine jc_seq (jc_seq (jc_region (jo_pure rfl (pr_move rfl) (jo_pure rfl (pr_move rfl) (jo_pure rfl (pr_len_imm rfl (.tail _ (.tail _ (.tail _ (.tail _ (.tail _ (.tail _ (.tail _ (.tail _ (.tail _ (.tail _ (.tail _ (.tail _ (.tail _ (.tail _ (.tail _ (.tail _ (.tail _ (.tail _ (.tail _ (.tail _ (.head _))))))))))))))))))))) Tryz.underlying31) ?_)))))
     refine jo_pure rfl (pr_lssN (m := i) (n := l.length) rfl rfl) ?_
     refine jo_nil (jq_then ?_)
     refine jc_cond rfl (fun h1b => ?_) (fun h1b => ?_)
     ·have h1 := of_decide_eq_true h1b
      refine jc_skip (jq_then (jc_seq (jc_block (jc_region (jo_pure rfl (pr_move rfl) (jo_pure rfl (pr_move rfl) ?_))))))
      refine j_open_elem (t := (.pair (.int .i64) (.pair (.int .i64) (.pair (.int .i64) (.pair (.int .i64) (.pair tyE (.list (.pair .str (.list .str))))))))) (i := i) (0, (0, (0, (0, (([],[],[],[],[],[],0,0), []))))) (.tail _ (.tail _ (.tail _ (.tail _ (.tail _ (.tail _ (.tail _ (.tail _ (.tail _ (.tail _ (.tail _ (.tail _ (.tail _ (.tail _ (.tail _ (.tail _ (.tail _ (.tail _ (.tail _ (.tail _ (.head _))))))))))))))))))))) (by omega) (fun ⟨_, ⟨_, ⟨_, ⟨_, ⟨⟨e1, ⟨e2, ⟨e3, ⟨_, ⟨e4, ⟨_, ⟨_, _⟩⟩⟩⟩⟩⟩⟩, e5⟩⟩⟩⟩⟩ => ?_)
      refine jo_pure rfl (pr_idx_imm (i := i) rfl (.tail _ (.tail _ (.tail _ (.tail _ (.tail _ (.tail _ (.tail _ (.tail _ (.tail _ (.tail _ (.tail _ (.tail _ (.tail _ (.tail _ (.tail _ (.tail _ (.tail _ (.tail _ (.tail _ (.tail _ (.tail _ (.tail _ (.tail _ (.tail _ (.tail _ (.tail _ (.head _))))))))))))))))))))))))))) rfl Tryz.underlying31 ty_43 (by omega)) ?_
      refine jo_pure rfl (pr_load_at (.agg #[.int .i64 (((l.getD i (0, (0, (0, (0, (([],[],[],[],[],[],0,0), []))))))).1), .int .i64 ((((l.getD i (0, (0, (0, (0, (([],[],[],[],[],[],0,0), []))))))).2).1), .int .i64 (((((l.getD i (0, (0, (0, (0, (([],[],[],[],[],[],0,0), []))))))).2).2).1), .int .i64 ((((((l.getD i (0, (0, (0, (0, (([],[],[],[],[],[],0,0), []))))))).2).2).2).1), e1, e2, e3, str (((((((((((l.getD i (0, (0, (0, (0, (([],[],[],[],[],[],0,0), []))))))).2).2).2).2).1).2).2).2).1), e4, str (((((((((((((l.getD i (0, (0, (0, (0, (([],[],[],[],[],[],0,0), []))))))).2).2).2).2).1).2).2).2).2).2).1), .int .i64 ((((((((((((((l.getD i (0, (0, (0, (0, (([],[],[],[],[],[],0,0), []))))))).2).2).2).2).1).2).2).2).2).2).2).1), .int .i64 ((((((((((((((l.getD i (0, (0, (0, (0, (([],[],[],[],[],[],0,0), []))))))).2).2).2).2).1).2).2).2).2).2).2).2), e5]) rfl (.tail _ (.tail _ (.tail _ (.tail _ (.tail _ (.head _)))))) ty_43 (by decide) rfl) ?_
      refine jo_pure rfl (pr_move rfl) (j_dup rfl ?_)
      refine j_pull2 (j_dup rfl ?_)
      refine j_pull4 ?_
      refine j_dup rfl ?_
      refine j_pull6 ?_
      refine j_dup rfl ?_
      refine j_pull8 ?_
      refine j_dup rfl ?_
      refine j_pull2 (j_pull4 ?_)
      refine j_pull6 ?_
      refine j_pull8 ?_
      refine j_pull18 ?_
      refine j_pull19 ?_
      refine j_pull19 ?_
      refine jo_callm [.imm (.list (.pair .str (.list .str))) (e5) (((((((l.getD i (0, (0, (0, (0, (([],[],[],[],[],[],0,0), []))))))).2).2).2).2).2), .imm (.list (.pair .str .str)) (e4) ((((((((((((l.getD i (0, (0, (0, (0, (([],[],[],[],[],[],0,0), []))))))).2).2).2).2).1).2).2).2).2).1), .imm (.list .str) (e3) ((((((((((l.getD i (0, (0, (0, (0, (([],[],[],[],[],[],0,0), []))))))).2).2).2).2).1).2).2).1), .imm (.list .str) (e2) (((((((((l.getD i (0, (0, (0, (0, (([],[],[],[],[],[],0,0), []))))))).2).2).2).2).1).2).1), .imm (.list (.list .str)) (e1) ((((((((l.getD i (0, (0, (0, (0, (([],[],[],[],[],[],0,0), []))))))).2).2).2).2).1).1), .fact (fun w_ I_ => ElemAt w_ I_ (lv) (i) 13 [.int .i64 (((l.getD i (0, (0, (0, (0, (([],[],[],[],[],[],0,0), []))))))).1), .int .i64 ((((l.getD i (0, (0, (0, (0, (([],[],[],[],[],[],0,0), []))))))).2).1), .int .i64 (((((l.getD i (0, (0, (0, (0, (([],[],[],[],[],[],0,0), []))))))).2).2).1), .int .i64 ((((((l.getD i (0, (0, (0, (0, (([],[],[],[],[],[],0,0), []))))))).2).2).2).1), e1, e2, e3, str (((((((((((l.getD i (0, (0, (0, (0, (([],[],[],[],[],[],0,0), []))))))).2).2).2).2).1).2).2).2).1), e4, str (((((((((((((l.getD i (0, (0, (0, (0, (([],[],[],[],[],[],0,0), []))))))).2).2).2).2).1).2).2).2).2).2).1), .int .i64 ((((((((((((((l.getD i (0, (0, (0, (0, (([],[],[],[],[],[],0,0), []))))))).2).2).2).2).1).2).2).2).2).2).2).1), .int .i64 ((((((((((((((l.getD i (0, (0, (0, (0, (([],[],[],[],[],[],0,0), []))))))).2).2).2).2).1).2).2).2).2).2).2).2), e5]), .box b3 50 [r8, r9], .imm (.list (.pair .str (.list .str))) (r8) ((findA (putA bz.toNat 4 4 noA (nameF o.2.1) (ofE o) o.2.2.2.2.2) (nameF o.2.1)).1), .imm (.list tyE) (r9) ((findA (putA bz.toNat 4 4 noA (nameF o.2.1) (ofE o) o.2.2.2.2.2) (nameF o.2.1)).2), .imm (.list tyE) (r7) ((findA (putA bz.toNat 4 4 noA (nameF o.2.1) (ofE o) o.2.2.2.2.2) (nameF o.2.1)).2), .box b2 50 [r6, r7], .imm (.list (.pair .str (.list .str))) (r6) ((findA (putA bz.toNat 4 4 noA (nameF o.2.1) (ofE o) o.2.2.2.2.2) (nameF o.2.1)).1), .imm (.list (.pair .str (.list .str))) (ov5) (o.2.2.2.2.2), .imm (.list (.pair .str .str)) (r4) ((ofE o).2.2.2.2.1), .imm (.list .str) (r3) ((ofE o).2.2.1), .imm (.list .str) (r2) ((ofE o).2.1), .imm (.list (.list .str)) (r1) ((ofE o).1), .imm (.list (.pair (.int .i64) (.pair (.int .i64) (.pair (.int .i64) (.pair (.int .i64) (.pair tyE (.list (.pair .str (.list .str))))))))) (.slice (some ⟨g1, 0, none⟩) ([o]).length (([o]).length)) ([o]), .box b1 43 [.int .i64 (o.1), .int .i64 (o.2.1), .int .i64 (o.2.2.1), .int .i64 (o.2.2.2.1), ov, ov2, ov3, str (o.2.2.2.2.1.2.2.2.1), ov4, str (o.2.2.2.2.1.2.2.2.2.2.1), .int .i64 (o.2.2.2.2.1.2.2.2.2.2.2.1), .int .i64 (o.2.2.2.2.1.2.2.2.2.2.2.2), ov5], .imm (.list (.list .str)) (ov) (o.2.2.2.2.1.1), .imm (.list .str) (ov2) (o.2.2.2.2.1.2.1), .imm (.list .str) (ov3) (o.2.2.2.2.1.2.2.1), .imm (.list (.pair .str .str)) (ov4) (o.2.2.2.2.1.2.2.2.2.1), .imm (.list (.pair (.int .i64) (.pair (.int .i64) (.pair (.int .i64) (.pair (.int .i64) (.pair tyE (.list (.pair .str (.list .str))))))))) (lv) (l)] rfl cal_15 (c_do nb1 nm1 bz.toNat 4 4 ow (runA bz.toNat 4 4 (putA bz.toNat 4 4 noA (nameF o.2.1) (ofE o) o.2.2.2.2.2) (l.take i)) ((l.getD i (0, (0, (0, (0, (([],[],[],[],[],[],0,0), []))))))) e1 e2 e3 e4 e5 (hlim) (hst) (small_mem hz _ (getD_mem h1))) ⟨rfl, rfl, trivial⟩ rfl (fun r10 => ?_)
      refine jo_nil (jq_in_normal (jq_then ?_))
      rw [← run_next (dd := (0, (0, (0, (0, (([],[],[],[],[],[],0,0), [])))))) h1]
      refine jc_region (jo_pure rfl (pr_move rfl) (jo_pure rfl (pr_addN (m := i) (n := 1) rfl rfl (by omega)) ?_))
      refine jo_pure rfl (pr_assign rfl) (jo_nil (j_pull3 (j_drop (j_pull3 (j_drop (j_pull3 (j_drop (j_pull3 (j_drop (j_pull3 (j_drop (j_pull3 (j_drop (j_pull20 ?_))))))))))))))
      refine j_pull20 ?_
      refine j_pull20 ?_
      refine j_pull20 ?_
      refine j_pull20 ?_
      refine j_pull20 ?_
      refine j_pull20 ?_
      refine j_pull20 ?_
      refine j_pull20 ?_
      refine j_pull20 ?_
      refine j_pull20 ?_
      refine j_pull20 ?_
      refine j_pull14 ?_
      refine j_pull13 ?_
      refine j_pull14 ?_
      refine j_pull20 ?_
      refine j_pull20 ?_
      refine j_pull20 ?_
      refine j_pull20 ?_
      refine j_pull20 ?_
      refine j_pull20 ?_
      refine jq_round' ((i + 1), r10) (by (try dsimp only); exact (by omega)) (by (try dsimp only); exact (by omega)) ⟨rfl, rfl, rfl, rfl, rfl, rfl, rfl, rfl, trivial⟩ (fun _ h => h)
     ·have h1 := of_decide_eq_false h1b
      refine jc_exit ?_
      refine jq_then_exit ?_
      refine jq_then_exit ?_
      refine jq_in_hit ?_
      refine jq_then (jc_seq (jc_region (jo_pure rfl (pr_move rfl) (jo_pure rfl (pr_load_box (.agg #[.int .i64 (o.1), .int .i64 (o.2.1), .int .i64 (o.2.2.1), .int .i64 (o.2.2.2.1), ov, ov2, ov3, str (o.2.2.2.2.1.2.2.2.1), ov4, str (o.2.2.2.2.1.2.2.2.2.2.1), .int .i64 (o.2.2.2.2.1.2.2.2.2.2.2.1), .int .i64 (o.2.2.2.2.1.2.2.2.2.2.2.2), ov5]) rfl ty_43 (.tail _ (.tail _ (.tail _ (.tail _ (.tail _ (.tail _ (.tail _ (.tail _ (.tail _ (.tail _ (.tail _ (.tail _ (.tail _ (.tail _ (.tail _ (.head _)))))))))))))))) rfl (by decide) rfl) ?_))))
      have con3 := c_law28_Op_of o ov ov2 ov3 ov4 ov5 (by first | assumption | exact hka.1 | exact hoe.1 | exact (fun x hx => by rw [List.mem_singleton.1 hx]; exact ho) | (have := hxx.len; omega) | exact (fun a ha => ⟨hxx.names a ha, hxx.strs a ha, Nat.le_trans (hxx.vals a ha) (by decide)⟩) | (simp; done) | exact hfo)
      refine jo_callp cal_20 con3 (by exact ⟨rfl, trivial⟩) rfl (by exact ⟨⟨rfl, .tail _ (.tail _ (.tail _ (.tail _ (.tail _ (.tail _ (.tail _ (.tail _ (.tail _ (.tail _ (.tail _ (.tail _ (.tail _ (.tail _ (.tail _ (.tail _ (.head _))))))))))))))))⟩, ⟨⟨rfl, .tail _ (.tail _ (.tail _ (.tail _ (.tail _ (.tail _ (.tail _ (.tail _ (.tail _ (.tail _ (.tail _ (.tail _ (.tail _ (.tail _ (.tail _ (.tail _ (.tail _ (.head _)))))))))))))))))⟩, ⟨⟨rfl, .tail _ (.tail _ (.tail _ (.tail _ (.tail _ (.tail _ (.tail _ (.tail _ (.tail _ (.tail _ (.tail _ (.tail _ (.tail _ (.tail _ (.tail _ (.tail _ (.tail _ (.tail _ (.head _))))))))))))))))))⟩, ⟨⟨rfl, .tail _ (.tail _ (.tail _ (.tail _ (.tail _ (.tail _ (.tail _ (.tail _ (.tail _ (.tail _ (.tail _ (.tail _ (.tail _ (.tail _ (.tail _ (.tail _ (.tail _ (.tail _ (.tail _ (.head _)))))))))))))))))))⟩, ⟨⟨rfl, .tail _ (.tail _ (.tail _ (.tail _ (.tail _ (.tail _ (.tail _ (.tail _ (.tail _ (.head _)))))))))⟩, trivial⟩⟩⟩⟩⟩) (fun ⟨r11, r12, r13, r14⟩ => ?_)
      clear con3
      have con4 := c_ref26_Size (ofE o) r11 r12 r13 r14 (by first | assumption | exact hka.1 | exact hoe.1 | exact (fun x hx => by rw [List.mem_singleton.1 hx]; exact ho) | (have := hxx.len; omega) | exact (fun a ha => ⟨hxx.names a ha, hxx.strs a ha, Nat.le_trans (hxx.vals a ha) (by decide)⟩) | (simp; done) | exact hfo)
      refine jo_callp cal_23 con4 (by exact ⟨rfl, trivial⟩) rfl (by exact ⟨⟨rfl, .head _⟩, ⟨⟨rfl, .tail _ (.head _)⟩, ⟨⟨rfl, .tail _ (.tail _ (.head _))⟩, ⟨⟨rfl, .tail _ (.tail _ (.tail _ (.head _)))⟩, trivial⟩⟩⟩⟩) (fun _ => ?_)
      clear con4
      refine jo_pure rfl (pr_move rfl) (jo_pure rfl (pr_leqN (m := sizeE (ofE o)) (n := bz.toNat) rfl rfl) ?_)
      refine jo_pure rfl (pr_move rfl) (jo_gpure (j := 6) (want := true) rfl rfl rfl rfl (fun hg=>pr_fieldAddr 12 rfl Tryz.underlying43 rfl ty_41 rfl rfl) ?_)
      refine jo_gpure (j := 6) (want := true) rfl rfl rfl rfl (fun hg=>pr_load_box (ov5) (evg rfl hg) ty_41 (.tail _ (.tail _ (.tail _ (.tail _ (.tail _ (.tail _ (.tail _ (.tail _ (.tail _ (.tail _ (.tail _ (.tail _ (.tail _ (.tail _ (.tail _ (.tail _ (.tail _ (.tail _ (.tail _ (.head _)))))))))))))))))))) rfl (by decide) rfl) ?_
      refine jo_gpure (j := 6) (want := true) rfl rfl rfl rfl (fun hg=>pr_len_imm (evg rfl hg) (.tail _ (.tail _ (.tail _ (.tail _ (.tail _ (.tail _ (.tail _ (.tail _ (.tail _ (.tail _ (.tail _ (.tail _ (.tail _ (.head _)))))))))))))) Tryz.underlying41) ?_
      refine jo_gpure (j := 6) (want := true) rfl rfl rfl rfl (fun hg=>pr_eqlN (m := o.2.2.2.2.2.length) (n := 0) (evg rfl hg) rfl) ?_
      refine jo_gpure (j := 6) (want := true) rfl rfl rfl rfl (fun hg=>pr_move (evg rfl hg)) ?_
      refine jo_gpure2 (j := 11) (want := false) rfl rfl rfl rfl (fun hg=>pr_fieldAddr 12 rfl Tryz.underlying43 rfl ty_41 rfl rfl) ?_
      refine jo_gpure2 (j := 11) (want := false) rfl rfl rfl rfl (fun hg=>pr_load_box (ov5) (evg rfl hg) ty_41 (.tail _ (.tail _ (.tail _ (.tail _ (.tail _ (.tail _ (.tail _ (.tail _ (.tail _ (.tail _ (.tail _ (.tail _ (.tail _ (.tail _ (.tail _ (.tail _ (.tail _ (.tail _ (.tail _ (.head _)))))))))))))))))))) rfl (by decide) rfl) ?_
      refine jo_gcall2 (j := 11) (want := false) rfl rfl rfl cal_24 (fun hg => c_ref10_Valid o.2.2.2.2.2 ov5 (by first | assumption | exact hka.1 | exact hoe.1 | exact (fun x hx => by rw [List.mem_singleton.1 hx]; exact ho) | (have := hxx.len; omega) | exact (fun a ha => ⟨hxx.names a ha, hxx.strs a ha, Nat.le_trans (hxx.vals a ha) (by decide)⟩) | (simp; done) | exact hfo) (by first | assumption | exact hka.1 | exact hoe.1 | exact (fun x hx => by rw [List.mem_singleton.1 hx]; exact ho) | (have := hxx.len; omega) | exact (fun a ha => ⟨hxx.names a ha, hxx.strs a ha, Nat.le_trans (hxx.vals a ha) (by decide)⟩) | (simp; done) | exact hfo)) (fun hg => ⟨evg rfl hg, trivial⟩) rfl (fun _ => ⟨⟨rfl, .tail _ (.tail _ (.tail _ (.tail _ (.tail _ (.tail _ (.tail _ (.tail _ (.tail _ (.tail _ (.tail _ (.tail _ (.tail _ (.head _)))))))))))))⟩, trivial⟩) ?_
      refine jo_gpure (j := 6) (want := true) rfl rfl rfl rfl (fun hg=>pr_pick_or (evg rfl hg) rfl (evg2 rfl hg)) ?_
      refine jo_pure rfl (pr_pick_and rfl rfl rfl) ?_
      refine jo_pure rfl (pr_eqlb rfl rfl Tryz.underlying4) ?_
      refine jo_pure rfl (pr_move rfl) (jo_gpure (j := 18) (want := true) rfl rfl rfl rfl (fun hg=>pr_load_box (.agg #[r6, r7]) rfl ty_50 (.tail _ (.tail _ (.tail _ (.tail _ (.tail _ (.tail _ (.tail _ (.tail _ (.head _))))))))) rfl (by decide) rfl) ?_)
      refine jo_gpure (j := 18) (want := true) rfl rfl rfl rfl (fun hg=>pr_load_box (.agg #[r8, r9]) rfl ty_50 (.tail _ (.tail _ (.tail _ (.tail _ (.head _))))) rfl (by decide) rfl) ?_
      refine jo_gcall (j := 18) (want := true) rfl rfl rfl cal_29 (fun hg => c_ref26_EqualTable (findA (putA bz.toNat 4 4 noA (nameF o.2.1) (ofE o) o.2.2.2.2.2) (nameF o.2.1)) r6 r7 (findA (putA bz.toNat 4 4 noA (nameF o.2.1) (ofE o) o.2.2.2.2.2) (nameF o.2.1)) r8 r9 (by first | assumption | exact hka.1 | exact hoe.1 | exact (fun x hx => by rw [List.mem_singleton.1 hx]; exact ho) | (have := hxx.len; omega) | exact (fun a ha => ⟨hxx.names a ha, hxx.strs a ha, Nat.le_trans (hxx.vals a ha) (by decide)⟩) | (simp; done) | exact hfo) (by first | assumption | exact hka.1 | exact hoe.1 | exact (fun x hx => by rw [List.mem_singleton.1 hx]; exact ho) | (have := hxx.len; omega) | exact (fun a ha => ⟨hxx.names a ha, hxx.strs a ha, Nat.le_trans (hxx.vals a ha) (by decide)⟩) | (simp; done) | exact hfo)) (fun hg => ⟨evg rfl hg, evg rfl hg, trivial⟩) rfl (fun _ => ⟨⟨rfl, .tail _ (.tail _ (.tail _ (.tail _ (.tail _ (.tail _ (.tail _ (.tail _ (.tail _ (.head _)))))))))⟩, ⟨⟨rfl, .tail _ (.tail _ (.tail _ (.tail _ (.tail _ (.tail _ (.tail _ (.head _)))))))⟩, ⟨⟨rfl, .tail _ (.tail _ (.tail _ (.tail _ (.tail _ (.head _)))))⟩, ⟨⟨rfl, .tail _ (.tail _ (.tail _ (.tail _ (.tail _ (.tail _ (.head _))))))⟩, trivial⟩⟩⟩⟩) ?_
      refine jo_pure rfl (pr_pick_and rfl rfl rfl) ?_
      refine jo_pure rfl (pr_move rfl) (jo_gcall (j := 23) (want := true) rfl rfl rfl cal_11 (fun hg => c_law28_awake) (fun hg => trivial) rfl (fun _ => trivial) ?_)
      refine jo_pure rfl (pr_pick_and rfl rfl rfl) ?_
      refine jo_pure rfl (pr_assign rfl) (jo_nil (jq_then (jc_ret (j_drop (j_drop (j_drop (j_drop (j_drop (j_drop (j_drop (j_drop (j_drop (j_drop (j_drop (j_drop (j_drop (j_drop (j_drop (j_drop (j_drop (j_drop (j_drop (j_drop ?_)))))))))))))))))))))))
      refine j_drop (j_drop (j_drop (j_drop (j_drop ?_))))
      exact jq_ret1 rfl () rfl (show (.bool (true) : Value) = (.bool ((((inA (putA bz.toNat 4 4 noA (nameF o.2.1) (ofE o) o.2.2.2.2.2) (nameF o.2.1) == (decide ((sizeE (ofE o) : Nat) ≤ bz.toNat) && (decide ((o.2.2.2.2.2.length : Nat) = 0) || validL o.2.2.2.2.2))) && eqT (findA (putA bz.toNat 4 4 noA (nameF o.2.1) (ofE o) o.2.2.2.2.2) (nameF o.2.1)) (findA (putA bz.toNat 4 4 noA (nameF o.2.1) (ofE o) o.2.2.2.2.2) (nameF o.2.1))) && true))) from congrArg Value.bool (by rw [hco, eqT_self]; rfl)) (fun _ h => h)
   ·skip
    refine jc_region (jo_pure rfl (pr_move rfl) ?_)
    refine jo_callp cal_14 (c_law28_small l lv (by first | assumption | exact hka.1 | exact hoe.1 | exact (fun x hx => by rw [List.mem_singleton.1 hx]; exact ho) | (have := hxx.len; omega) | exact (fun a ha => ⟨hxx.names a ha, hxx.strs a ha, Nat.le_trans (hxx.vals a ha) (by decide)⟩) | (simp; done) | exact hfo) (by first | assumption | exact hka.1 | exact hoe.1 | exact (fun x hx => by rw [List.mem_singleton.1 hx]; exact ho) | (have := hxx.len; omega) | exact (fun a ha => ⟨hxx.names a ha, hxx.strs a ha, Nat.le_trans (hxx.vals a ha) (by decide)⟩) | (simp; done) | exact hfo)) ⟨rfl, trivial⟩ rfl (⟨⟨rfl, .tail _ (.tail _ (.tail _ (.tail _ (.tail _ (.tail _ (.head _))))))⟩, trivial⟩) (fun _ => ?_)
    refine jo_pure rfl (pr_not rfl) ?_
    refine jo_pure rfl (pr_move rfl) (jo_run (j := 3) (want := false) rfl rfl (by rw [hz]; rfl) ?_)
    refine jo_pure rfl (pr_load_box (.agg #[.int .i64 (o.1), .int .i64 (o.2.1), .int .i64 (o.2.2.1), .int .i64 (o.2.2.2.1), ov, ov2, ov3, str (o.2.2.2.2.1.2.2.2.1), ov4, str (o.2.2.2.2.1.2.2.2.2.2.1), .int .i64 (o.2.2.2.2.1.2.2.2.2.2.2.1), .int .i64 (o.2.2.2.2.1.2.2.2.2.2.2.2), ov5]) rfl ty_43 (.head _) rfl (by decide) rfl) ?_
    refine jo_run (j := 3) (want := false) rfl rfl (by rw [hz]; rfl) ?_
    refine jo_buildSliceL (t := (.pair (.int .i64) (.pair (.int .i64) (.pair (.int .i64) (.pair (.int .i64) (.pair tyE (.list (.pair .str (.list .str))))))))) [o] [.agg #[.int .i64 (o.1), .int .i64 (o.2.1), .int .i64 (o.2.2.1), .int .i64 (o.2.2.2.1), ov, ov2, ov3, str (o.2.2.2.2.1.2.2.2.1), ov4, str (o.2.2.2.2.1.2.2.2.2.2.1), .int .i64 (o.2.2.2.2.1.2.2.2.2.2.2.1), .int .i64 (o.2.2.2.2.1.2.2.2.2.2.2.2), ov5]] [[.int .i64 (o.1), .int .i64 (o.2.1), .int .i64 (o.2.2.1), .int .i64 (o.2.2.2.1), ov, ov2, ov3, str (o.2.2.2.2.1.2.2.2.1), ov4, str (o.2.2.2.2.1.2.2.2.2.2.1), .int .i64 (o.2.2.2.2.1.2.2.2.2.2.2.1), .int .i64 (o.2.2.2.2.1.2.2.2.2.2.2.2), ov5]] (fun a hf => by simp only [List.zipIdx_cons, List.zipIdx_nil, List.map_toArray, List.map_cons, List.map_nil, hf.ev (show ev _ (.tmp 17) = some (.agg #[.int .i64 (o.1), .int .i64 (o.2.1), .int .i64 (o.2.2.1), .int .i64 (o.2.2.2.1), ov, ov2, ov3, str (o.2.2.2.2.1.2.2.2.1), ov4, str (o.2.2.2.2.1.2.2.2.2.2.1), .int .i64 (o.2.2.2.2.1.2.2.2.2.2.2.1), .int .i64 (o.2.2.2.2.1.2.2.2.2.2.2.2), ov5]) from rfl)] <;> rfl) rfl ⟨⟨[.int .i64 (o.1)], [.int .i64 (o.2.1), .int .i64 (o.2.2.1), .int .i64 (o.2.2.2.1), ov, ov2, ov3, str (o.2.2.2.2.1.2.2.2.1), ov4, str (o.2.2.2.2.1.2.2.2.2.2.1), .int .i64 (o.2.2.2.2.1.2.2.2.2.2.2.1), .int .i64 (o.2.2.2.2.1.2.2.2.2.2.2.2), ov5], rfl, rfl, ⟨[.int .i64 (o.2.1)], [.int .i64 (o.2.2.1), .int .i64 (o.2.2.2.1), ov, ov2, ov3, str (o.2.2.2.2.1.2.2.2.1), ov4, str (o.2.2.2.2.1.2.2.2.2.2.1), .int .i64 (o.2.2.2.2.1.2.2.2.2.2.2.1), .int .i64 (o.2.2.2.2.1.2.2.2.2.2.2.2), ov5], rfl, rfl, ⟨[.int .i64 (o.2.2.1)], [.int .i64 (o.2.2.2.1), ov, ov2, ov3, str (o.2.2.2.2.1.2.2.2.1), ov4, str (o.2.2.2.2.1.2.2.2.2.2.1), .int .i64 (o.2.2.2.2.1.2.2.2.2.2.2.1), .int .i64 (o.2.2.2.2.1.2.2.2.2.2.2.2), ov5], rfl, rfl, ⟨[.int .i64 (o.2.2.2.1)], [ov, ov2, ov3, str (o.2.2.2.2.1.2.2.2.1), ov4, str (o.2.2.2.2.1.2.2.2.2.2.1), .int .i64 (o.2.2.2.2.1.2.2.2.2.2.2.1), .int .i64 (o.2.2.2.2.1.2.2.2.2.2.2.2), ov5], rfl, rfl, ⟨[ov, ov2, ov3, str (o.2.2.2.2.1.2.2.2.1), ov4, str (o.2.2.2.2.1.2.2.2.2.2.1), .int .i64 (o.2.2.2.2.1.2.2.2.2.2.2.1), .int .i64 (o.2.2.2.2.1.2.2.2.2.2.2.2)], [ov5], rfl, ⟨[ov], [ov2, ov3, str (o.2.2.2.2.1.2.2.2.1), ov4, str (o.2.2.2.2.1.2.2.2.2.2.1), .int .i64 (o.2.2.2.2.1.2.2.2.2.2.2.1), .int .i64 (o.2.2.2.2.1.2.2.2.2.2.2.2)], rfl, ⟨ov, rfl, .tail _ (.head _)⟩, ⟨[ov2], [ov3, str (o.2.2.2.2.1.2.2.2.1), ov4, str (o.2.2.2.2.1.2.2.2.2.2.1), .int .i64 (o.2.2.2.2.1.2.2.2.2.2.2.1), .int .i64 (o.2.2.2.2.1.2.2.2.2.2.2.2)], rfl, ⟨ov2, rfl, .tail _ (.tail _ (.head _))⟩, ⟨[ov3], [str (o.2.2.2.2.1.2.2.2.1), ov4, str (o.2.2.2.2.1.2.2.2.2.2.1), .int .i64 (o.2.2.2.2.1.2.2.2.2.2.2.1), .int .i64 (o.2.2.2.2.1.2.2.2.2.2.2.2)], rfl, ⟨ov3, rfl, .tail _ (.tail _ (.tail _ (.head _)))⟩, ⟨[str (o.2.2.2.2.1.2.2.2.1)], [ov4, str (o.2.2.2.2.1.2.2.2.2.2.1), .int .i64 (o.2.2.2.2.1.2.2.2.2.2.2.1), .int .i64 (o.2.2.2.2.1.2.2.2.2.2.2.2)], rfl, rfl, ⟨[ov4], [str (o.2.2.2.2.1.2.2.2.2.2.1), .int .i64 (o.2.2.2.2.1.2.2.2.2.2.2.1), .int .i64 (o.2.2.2.2.1.2.2.2.2.2.2.2)], rfl, ⟨ov4, rfl, .tail _ (.tail _ (.tail _ (.tail _ (.head _))))⟩, ⟨[str (o.2.2.2.2.1.2.2.2.2.2.1)], [.int .i64 (o.2.2.2.2.1.2.2.2.2.2.2.1), .int .i64 (o.2.2.2.2.1.2.2.2.2.2.2.2)], rfl, rfl, ⟨[.int .i64 (o.2.2.2.2.1.2.2.2.2.2.2.1)], [.int .i64 (o.2.2.2.2.1.2.2.2.2.2.2.2)], rfl, rfl, rfl⟩⟩⟩⟩⟩⟩⟩, ⟨ov5, rfl, .tail _ (.tail _ (.tail _ (.tail _ (.tail _ (.head _)))))⟩⟩⟩⟩⟩⟩, trivial⟩ Tryz.underlying31 ty_43 rfl rfl rfl rfl (fun g2 => ?_)
    refine jo_run (j := 3) (want := false) rfl rfl (by rw [hz]; rfl) ?_
    refine j_pub_rowg ?_
    refine jo_callp cal_14 (c_law28_small [o] (.slice (some ⟨g2, 0, none⟩) ([o]).length (([o]).length)) (by first | assumption | exact hka.1 | exact hoe.1 | exact (fun x hx => by rw [List.mem_singleton.1 hx]; exact ho) | (have := hxx.len; omega) | exact (fun a ha => ⟨hxx.names a ha, hxx.strs a ha, Nat.le_trans (hxx.vals a ha) (by decide)⟩) | (simp; done) | exact hfo) (by first | assumption | exact hka.1 | exact hoe.1 | exact (fun x hx => by rw [List.mem_singleton.1 hx]; exact ho) | (have := hxx.len; omega) | exact (fun a ha => ⟨hxx.names a ha, hxx.strs a ha, Nat.le_trans (hxx.vals a ha) (by decide)⟩) | (simp; done) | exact hfo)) ⟨rfl, trivial⟩ rfl (⟨⟨rfl, .head _⟩, trivial⟩) (fun _ => ?_)
    refine jo_run (j := 3) (want := false) rfl rfl (by rw [hz]; rfl) ?_
    refine jo_pure rfl (pr_not rfl) ?_
    refine jo_pure rfl (pr_pick_f rfl (by rw [hz]; rfl) rfl) ?_
    refine jo_pure rfl (pr_move rfl) (jo_run (j := 9) (want := false) rfl rfl (by rw [hy]; rfl) ?_)
    refine jo_pure rfl (pr_move rfl) (jo_run (j := 9) (want := false) rfl rfl (by rw [hy]; rfl) ?_)
    refine jo_callp cal_10 (c_ref26_Allowed bz ((4 : Nat) : Int) ((4 : Nat) : Int)) ⟨rfl, rfl, rfl, trivial⟩ rfl (trivial) (fun _ => ?_)
    refine jo_run (j := 9) (want := false) rfl rfl (by rw [hy]; rfl) ?_
    refine jo_pure rfl (pr_not rfl) ?_
    refine jo_pure rfl (pr_pick_f rfl (by rw [hy]; rfl) rfl) ?_
    refine jo_nil (jq_then (jc_true rfl (by rw [allow_no (fun q => hal q.1)]; rfl) ?_))
    refine jc_seq (jc_region (jo_pure rfl (pr_assign rfl) (jo_nil (jq_then (jc_ret (jq_then_ret (j_drop (j_drop (j_drop (j_drop (j_drop (j_drop (j_drop (j_drop ?_))))))))))))))
    exact jq_ret1 rfl () rfl (show (.bool (true) : Value) = (.bool (true)) from rfl) (fun _ h => h)
  ·skip
   refine jc_region (jo_pure rfl (pr_move rfl) ?_)
   refine jo_callp cal_14 (c_law28_small l lv (by first | assumption | exact hka.1 | exact hoe.1 | exact (fun x hx => by rw [List.mem_singleton.1 hx]; exact ho) | (have := hxx.len; omega) | exact (fun a ha => ⟨hxx.names a ha, hxx.strs a ha, Nat.le_trans (hxx.vals a ha) (by decide)⟩) | (simp; done) | exact hfo) (by first | assumption | exact hka.1 | exact hoe.1 | exact (fun x hx => by rw [List.mem_singleton.1 hx]; exact ho) | (have := hxx.len; omega) | exact (fun a ha => ⟨hxx.names a ha, hxx.strs a ha, Nat.le_trans (hxx.vals a ha) (by decide)⟩) | (simp; done) | exact hfo)) ⟨rfl, trivial⟩ rfl (⟨⟨rfl, .tail _ (.tail _ (.tail _ (.tail _ (.tail _ (.tail _ (.head _))))))⟩, trivial⟩) (fun _ => ?_)
   refine jo_pure rfl (pr_not rfl) ?_
   refine jo_pure rfl (pr_move rfl) (jo_run (j := 3) (want := false) rfl rfl (by rw [hz]; rfl) ?_)
   refine jo_pure rfl (pr_load_box (.agg #[.int .i64 (o.1), .int .i64 (o.2.1), .int .i64 (o.2.2.1), .int .i64 (o.2.2.2.1), ov, ov2, ov3, str (o.2.2.2.2.1.2.2.2.1), ov4, str (o.2.2.2.2.1.2.2.2.2.2.1), .int .i64 (o.2.2.2.2.1.2.2.2.2.2.2.1), .int .i64 (o.2.2.2.2.1.2.2.2.2.2.2.2), ov5]) rfl ty_43 (.head _) rfl (by decide) rfl) ?_
   refine jo_run (j := 3) (want := false) rfl rfl (by rw [hz]; rfl) ?_
   refine jo_buildSliceL (t := (.pair (.int .i64) (.pair (.int .i64) (.pair (.int .i64) (.pair (.int .i64) (.pair tyE (.list (.pair .str (.list .str))))))))) [o] [.agg #[.int .i64 (o.1), .int .i64 (o.2.1), .int .i64 (o.2.2.1), .int .i64 (o.2.2.2.1), ov, ov2, ov3, str (o.2.2.2.2.1.2.2.2.1), ov4, str (o.2.2.2.2.1.2.2.2.2.2.1), .int .i64 (o.2.2.2.2.1.2.2.2.2.2.2.1), .int .i64 (o.2.2.2.2.1.2.2.2.2.2.2.2), ov5]] [[.int .i64 (o.1), .int .i64 (o.2.1), .int .i64 (o.2.2.1), .int .i64 (o.2.2.2.1), ov, ov2, ov3, str (o.2.2.2.2.1.2.2.2.1), ov4, str (o.2.2.2.2.1.2.2.2.2.2.1), .int .i64 (o.2.2.2.2.1.2.2.2.2.2.2.1), .int .i64 (o.2.2.2.2.1.2.2.2.2.2.2.2), ov5]] (fun a hf => by simp only [List.zipIdx_cons, List.zipIdx_nil, List.map_toArray, List.map_cons, List.map_nil, hf.ev (show ev _ (.tmp 17) = some (.agg #[.int .i64 (o.1), .int .i64 (o.2.1), .int .i64 (o.2.2.1), .int .i64 (o.2.2.2.1), ov, ov2, ov3, str (o.2.2.2.2.1.2.2.2.1), ov4, str (o.2.2.2.2.1.2.2.2.2.2.1), .int .i64 (o.2.2.2.2.1.2.2.2.2.2.2.1), .int .i64 (o.2.2.2.2.1.2.2.2.2.2.2.2), ov5]) from rfl)] <;> rfl) rfl ⟨⟨[.int .i64 (o.1)], [.int .i64 (o.2.1), .int .i64 (o.2.2.1), .int .i64 (o.2.2.2.1), ov, ov2, ov3, str (o.2.2.2.2.1.2.2.2.1), ov4, str (o.2.2.2.2.1.2.2.2.2.2.1), .int .i64 (o.2.2.2.2.1.2.2.2.2.2.2.1), .int .i64 (o.2.2.2.2.1.2.2.2.2.2.2.2), ov5], rfl, rfl, ⟨[.int .i64 (o.2.1)], [.int .i64 (o.2.2.1), .int .i64 (o.2.2.2.1), ov, ov2, ov3, str (o.2.2.2.2.1.2.2.2.1), ov4, str (o.2.2.2.2.1.2.2.2.2.2.1), .int .i64 (o.2.2.2.2.1.2.2.2.2.2.2.1), .int .i64 (o.2.2.2.2.1.2.2.2.2.2.2.2), ov5], rfl, rfl, ⟨[.int .i64 (o.2.2.1)], [.int .i64 (o.2.2.2.1), ov, ov2, ov3, str (o.2.2.2.2.1.2.2.2.1), ov4, str (o.2.2.2.2.1.2.2.2.2.2.1), .int .i64 (o.2.2.2.2.1.2.2.2.2.2.2.1), .int .i64 (o.2.2.2.2.1.2.2.2.2.2.2.2), ov5], rfl, rfl, ⟨[.int .i64 (o.2.2.2.1)], [ov, ov2, ov3, str (o.2.2.2.2.1.2.2.2.1), ov4, str (o.2.2.2.2.1.2.2.2.2.2.1), .int .i64 (o.2.2.2.2.1.2.2.2.2.2.2.1), .int .i64 (o.2.2.2.2.1.2.2.2.2.2.2.2), ov5], rfl, rfl, ⟨[ov, ov2, ov3, str (o.2.2.2.2.1.2.2.2.1), ov4, str (o.2.2.2.2.1.2.2.2.2.2.1), .int .i64 (o.2.2.2.2.1.2.2.2.2.2.2.1), .int .i64 (o.2.2.2.2.1.2.2.2.2.2.2.2)], [ov5], rfl, ⟨[ov], [ov2, ov3, str (o.2.2.2.2.1.2.2.2.1), ov4, str (o.2.2.2.2.1.2.2.2.2.2.1), .int .i64 (o.2.2.2.2.1.2.2.2.2.2.2.1), .int .i64 (o.2.2.2.2.1.2.2.2.2.2.2.2)], rfl, ⟨ov, rfl, .tail _ (.head _)⟩, ⟨[ov2], [ov3, str (o.2.2.2.2.1.2.2.2.1), ov4, str (o.2.2.2.2.1.2.2.2.2.2.1), .int .i64 (o.2.2.2.2.1.2.2.2.2.2.2.1), .int .i64 (o.2.2.2.2.1.2.2.2.2.2.2.2)], rfl, ⟨ov2, rfl, .tail _ (.tail _ (.head _))⟩, ⟨[ov3], [str (o.2.2.2.2.1.2.2.2.1), ov4, str (o.2.2.2.2.1.2.2.2.2.2.1), .int .i64 (o.2.2.2.2.1.2.2.2.2.2.2.1), .int .i64 (o.2.2.2.2.1.2.2.2.2.2.2.2)], rfl, ⟨ov3, rfl, .tail _ (.tail _ (.tail _ (.head _)))⟩, ⟨[str (o.2.2.2.2.1.2.2.2.1)], [ov4, str (o.2.2.2.2.1.2.2.2.2.2.1), .int .i64 (o.2.2.2.2.1.2.2.2.2.2.2.1), .int .i64 (o.2.2.2.2.1.2.2.2.2.2.2.2)], rfl, rfl, ⟨[ov4], [str (o.2.2.2.2.1.2.2.2.2.2.1), .int .i64 (o.2.2.2.2.1.2.2.2.2.2.2.1), .int .i64 (o.2.2.2.2.1.2.2.2.2.2.2.2)], rfl, ⟨ov4, rfl, .tail _ (.tail _ (.tail _ (.tail _ (.head _))))⟩, ⟨[str (o.2.2.2.2.1.2.2.2.2.2.1)], [.int .i64 (o.2.2.2.2.1.2.2.2.2.2.2.1), .int .i64 (o.2.2.2.2.1.2.2.2.2.2.2.2)], rfl, rfl, ⟨[.int .i64 (o.2.2.2.2.1.2.2.2.2.2.2.1)], [.int .i64 (o.2.2.2.2.1.2.2.2.2.2.2.2)], rfl, rfl, rfl⟩⟩⟩⟩⟩⟩⟩, ⟨ov5, rfl, .tail _ (.tail _ (.tail _ (.tail _ (.tail _ (.head _)))))⟩⟩⟩⟩⟩⟩, trivial⟩ Tryz.underlying31 ty_43 rfl rfl rfl rfl (fun g3 => ?_)
   refine jo_run (j := 3) (want := false) rfl rfl (by rw [hz]; rfl) ?_
   refine j_pub_rowg ?_
   refine jo_callp cal_14 (c_law28_small [o] (.slice (some ⟨g3, 0, none⟩) ([o]).length (([o]).length)) (by first | assumption | exact hka.1 | exact hoe.1 | exact (fun x hx => by rw [List.mem_singleton.1 hx]; exact ho) | (have := hxx.len; omega) | exact (fun a ha => ⟨hxx.names a ha, hxx.strs a ha, Nat.le_trans (hxx.vals a ha) (by decide)⟩) | (simp; done) | exact hfo) (by first | assumption | exact hka.1 | exact hoe.1 | exact (fun x hx => by rw [List.mem_singleton.1 hx]; exact ho) | (have := hxx.len; omega) | exact (fun a ha => ⟨hxx.names a ha, hxx.strs a ha, Nat.le_trans (hxx.vals a ha) (by decide)⟩) | (simp; done) | exact hfo)) ⟨rfl, trivial⟩ rfl (⟨⟨rfl, .head _⟩, trivial⟩) (fun _ => ?_)
   refine jo_run (j := 3) (want := false) rfl rfl (by rw [hz]; rfl) ?_
   refine jo_pure rfl (pr_not rfl) ?_
   refine jo_pure rfl (pr_pick_f rfl (by rw [hz]; rfl) rfl) ?_
   refine jo_pure rfl (pr_move rfl) (jo_skipu (j := 9) (want := false) rfl rfl (congrArg Bool.not (Bool.eq_false_iff.2 hy)) rfl ?_)
   refine jo_skipu (j := 9) (want := false) rfl rfl (congrArg Bool.not (Bool.eq_false_iff.2 hy)) rfl ?_
   refine jo_skipu (j := 9) (want := false) rfl rfl (congrArg Bool.not (Bool.eq_false_iff.2 hy)) rfl ?_
   refine jo_pure rfl (pr_pick_t rfl (congrArg Bool.not (Bool.eq_false_iff.2 hy)) rfl) ?_
   refine jo_nil (jq_then (jc_true rfl (rfl) ?_))
   refine jc_seq (jc_region (jo_pure rfl (pr_assign rfl) (jo_nil (jq_then (jc_ret (jq_then_ret (j_drop (j_drop (j_drop (j_drop (j_drop (j_drop (j_drop (j_drop ?_))))))))))))))
   exact jq_ret1 rfl () rfl (show (.bool (true) : Value) = (.bool (true)) from rfl) (fun _ h => h)
 ·skip
  refine jc_region (jo_pure rfl (pr_move rfl) ?_)
  refine jo_callp cal_14 (c_law28_small l lv (by first | assumption | exact hka.1 | exact hoe.1 | exact (fun x hx => by rw [List.mem_singleton.1 hx]; exact ho) | (have := hxx.len; omega) | exact (fun a ha => ⟨hxx.names a ha, hxx.strs a ha, Nat.le_trans (hxx.vals a ha) (by decide)⟩) | (simp; done) | exact hfo) (by first | assumption | exact hka.1 | exact hoe.1 | exact (fun x hx => by rw [List.mem_singleton.1 hx]; exact ho) | (have := hxx.len; omega) | exact (fun a ha => ⟨hxx.names a ha, hxx.strs a ha, Nat.le_trans (hxx.vals a ha) (by decide)⟩) | (simp; done) | exact hfo)) ⟨rfl, trivial⟩ rfl (⟨⟨rfl, .tail _ (.tail _ (.tail _ (.tail _ (.tail _ (.tail _ (.head _))))))⟩, trivial⟩) (fun _ => ?_)
  refine jo_pure rfl (pr_not rfl) ?_
  refine jo_pure rfl (pr_move rfl) (jo_skipu (j := 3) (want := false) rfl rfl (congrArg Bool.not (Bool.eq_false_iff.2 hz)) rfl ?_)
  refine jo_skipu (j := 3) (want := false) rfl rfl (congrArg Bool.not (Bool.eq_false_iff.2 hz)) rfl ?_
  refine jo_skipu (j := 3) (want := false) rfl rfl (congrArg Bool.not (Bool.eq_false_iff.2 hz)) rfl ?_
  refine jo_skipu (j := 3) (want := false) rfl rfl (congrArg Bool.not (Bool.eq_false_iff.2 hz)) rfl ?_
  refine jo_pure rfl (pr_pick_t rfl (congrArg Bool.not (Bool.eq_false_iff.2 hz)) rfl) ?_
  refine jo_pure rfl (pr_move rfl) (jo_skipu (j := 9) (want := false) rfl rfl (rfl) rfl ?_)
  refine jo_skipu (j := 9) (want := false) rfl rfl (rfl) rfl ?_
  refine jo_skipu (j := 9) (want := false) rfl rfl (rfl) rfl ?_
  refine jo_pure rfl (pr_pick_t rfl (rfl) rfl) ?_
  refine jo_nil (jq_then (jc_true rfl (rfl) ?_))
  refine jc_seq (jc_region (jo_pure rfl (pr_assign rfl) (jo_nil (jq_then (jc_ret (jq_then_ret (j_drop (j_drop (j_drop (j_drop (j_drop (j_drop (j_drop ?_)))))))))))))
  exact jq_ret1 rfl () rfl (show (.bool (true) : Value) = (.bool (true)) from rfl) (fun _ h => h)
end Go.Proofs.YtlniaacdjllonaaGreat
