/-
 Contracts of functions of the program: each returns what a plain function says, for every input within the bounds named. Conditions: the bounds.
-/
import Derived.Test.YtlniaacdjllonaaGreatRows
import Derived.Test.YtlniaacdjllonaaGreatYK12
namespace Go.Proofs.YtlniaacdjllonaaGreat
open Go Go.Sep
set_option linter.unusedSimpArgs false
set_option linter.unusedVariables false

open Go.Plain

theorem cal_10 : Cal Tryz.prog 10 := cal_of Tryz.func10 (by kernel_rfl) rfl
theorem cal_11 : Cal Tryz.prog 11 := cal_of Tryz.func11 (by kernel_rfl) rfl
theorem cal_14 : Cal Tryz.prog 14 := cal_of Tryz.func14 (by kernel_rfl) rfl
theorem cal_15 : Cal Tryz.prog 15 := cal_of Tryz.func15 (by kernel_rfl) rfl
theorem cal_18 : Cal Tryz.prog 18 := cal_of Tryz.func18 (by kernel_rfl) rfl
theorem cal_24 : Cal Tryz.prog 24 := cal_of Tryz.func24 (by kernel_rfl) rfl

set_option maxHeartbeats 2000000 in
theorem c_law28_StoreKeeps (bz : Int) (vz : Int) (tz : Int) (l : List (Int × Int × Int × Int × Ent × (List (Axs)))) (lv : Value) (o : Int × Int × Int × Int × Ent × (List (Axs))) (ov : Value) (ov2 : Value) (ov3 : Value) (ov4 : Value) (ov5 : Value) (hl : l.length ≤ 9223372036854775807) (hme : ∀ o ∈ l, (o.2.2.2.2.1.1.length ≤ 9223372036854775807 ∧ (∀ k ∈ o.2.2.2.2.1.1, k.length ≤ 9223372036854775807) ∧ o.2.2.2.2.1.2.1.length ≤ 9223372036854775807 ∧ o.2.2.2.2.1.2.2.1.length ≤ 9223372036854775807 ∧ o.2.2.2.2.1.2.2.2.2.1.length ≤ 9223372036854775807) ∧ o.2.2.2.2.2.length ≤ 9223372036854775807 ∧ ∀ a ∈ o.2.2.2.2.2, a.2.length ≤ 9223372036854775807) (ho : (o.2.2.2.2.1.1.length ≤ 9223372036854775807 ∧ (∀ k ∈ o.2.2.2.2.1.1, k.length ≤ 9223372036854775807) ∧ o.2.2.2.2.1.2.1.length ≤ 9223372036854775807 ∧ o.2.2.2.2.1.2.2.1.length ≤ 9223372036854775807 ∧ o.2.2.2.2.1.2.2.2.2.1.length ≤ 9223372036854775807) ∧ o.2.2.2.2.2.length ≤ 9223372036854775807 ∧ ∀ a ∈ o.2.2.2.2.2, a.2.length ≤ 9223372036854775807) : Con Tryz.prog 6 #[.int .i64 (bz), .int .i64 (vz), .int .i64 (tz), lv, .agg #[.int .i64 (o.1), .int .i64 (o.2.1), .int .i64 (o.2.2.1), .int .i64 (o.2.2.2.1), ov, ov2, ov3, str (o.2.2.2.2.1.2.2.2.1), ov4, str (o.2.2.2.2.1.2.2.2.2.2.1), .int .i64 (o.2.2.2.2.1.2.2.2.2.2.2.1), .int .i64 (o.2.2.2.2.1.2.2.2.2.2.2.2), ov5]] [.imm (.list (.pair (.int .i64) (.pair (.int .i64) (.pair (.int .i64) (.pair (.int .i64) (.pair tyE (.list (.pair .str (.list .str))))))))) (lv) (l), .imm (.list (.list .str)) (ov) (o.2.2.2.2.1.1), .imm (.list .str) (ov2) (o.2.2.2.2.1.2.1), .imm (.list .str) (ov3) (o.2.2.2.2.1.2.2.1), .imm (.list (.pair .str .str)) (ov4) (o.2.2.2.2.1.2.2.2.2.1), .imm (.list (.pair .str (.list .str))) (ov5) (o.2.2.2.2.2)] (fun _ : Unit => .bool (true)) (fun _ => []) := by
 refine con_of_J (args := [.int .i64 (bz), .int .i64 (vz), .int .i64 (tz), lv, .agg #[.int .i64 (o.1), .int .i64 (o.2.1), .int .i64 (o.2.2.1), .int .i64 (o.2.2.2.1), ov, ov2, ov3, str (o.2.2.2.2.1.2.2.2.1), ov4, str (o.2.2.2.2.1.2.2.2.2.2.1), .int .i64 (o.2.2.2.2.1.2.2.2.2.2.2.1), .int .i64 (o.2.2.2.2.1.2.2.2.2.2.2.2), ov5]]) (n := 164) Tryz.func6 rfl (Nat.le_of_ble_eq_true rfl) rfl (fun w0 I0 m0 => ?_)
 refine jc_seq (jc_region ?_)
 refine jo_box rfl [.int .i64 (o.1), .int .i64 (o.2.1), .int .i64 (o.2.2.1), .int .i64 (o.2.2.2.1), ov, ov2, ov3, str (o.2.2.2.2.1.2.2.2.1), ov4, str (o.2.2.2.2.1.2.2.2.2.2.1), .int .i64 (o.2.2.2.2.1.2.2.2.2.2.2.1), .int .i64 (o.2.2.2.2.1.2.2.2.2.2.2.2), ov5] rfl rfl (fun b1 => ?_)
 refine jo_pure rfl (pr_assign rfl) (jo_nil (jq_then (jc_seq (jc_seq ?_))))
 by_cases hz : smallL l = true
 ·skip
  by_cases hy : smallL [o] = true
  ·skip
   by_cases hal : ((1 ≤ bz ∧ bz ≤ 100000000) ∧ (1 ≤ vz ∧ vz ≤ 64) ∧ (1 ≤ tz ∧ tz ≤ 1000))
   ·skip
    have hlim := lim_of hal
    have hzz : bz = ((bz.toNat : Nat) : Int) ∧ vz = ((vz.toNat : Nat) : Int) ∧ tz = ((tz.toNat : Nat) : Int) := by omega
    have hyes : allowB ((bz.toNat : Nat) : Int) ((vz.toNat : Nat) : Int) ((tz.toNat : Nat) : Int) = true := by rw [← hzz.1, ← hzz.2.1, ← hzz.2.2]; exact allow_iff.2 hal
    have hll := small_len hz
    have hko : keepO o = true := small_mem hy o (by simp)
    have hoe := ofE_keep hko
    have hka : keepE o.2.2.2.2.1 = true ∧ keepA o.2.2.2.2.2 = true := by have h9 := hko; unfold keepO at h9; rw [Bool.and_eq_true] at h9; exact h9
    have hxx := okA_keep hka.2
    rw [show (bz : Int) = ((bz.toNat : Nat) : Int) from (Int.toNat_of_nonneg (by omega)).symm]
    rw [show (vz : Int) = ((vz.toNat : Nat) : Int) from (Int.toNat_of_nonneg (by omega)).symm]
    rw [show (tz : Int) = ((tz.toNat : Nat) : Int) from (Int.toNat_of_nonneg (by omega)).symm]
    refine jc_region (jo_pure rfl (pr_move rfl) ?_)
    refine jo_callp cal_14 (c_law28_small l lv (by first | assumption | exact hka.1 | exact hoe.1 | exact (fun x hx => by rw [List.mem_singleton.1 hx]; exact ho) | (have := hxx.len; omega) | exact (fun a ha => ⟨hxx.names a ha, hxx.strs a ha, Nat.le_trans (hxx.vals a ha) (by decide)⟩) | (simp; done) | exact hE.1 | exact hE.2.1 | exact hE.2.2.1 | exact hE.2.2.2.1 | exact hE.2.2.2.2 | exact (fun x hx => Nat.le_trans (hfo.axes.vals x hx) (by decide)) | omega | (rw [len_keys]; omega)) (by first | assumption | exact hka.1 | exact hoe.1 | exact (fun x hx => by rw [List.mem_singleton.1 hx]; exact ho) | (have := hxx.len; omega) | exact (fun a ha => ⟨hxx.names a ha, hxx.strs a ha, Nat.le_trans (hxx.vals a ha) (by decide)⟩) | (simp; done) | exact hE.1 | exact hE.2.1 | exact hE.2.2.1 | exact hE.2.2.2.1 | exact hE.2.2.2.2 | exact (fun x hx => Nat.le_trans (hfo.axes.vals x hx) (by decide)) | omega | (rw [len_keys]; omega))) ⟨rfl, trivial⟩ rfl (⟨⟨rfl, .tail _ (.head _)⟩, trivial⟩) (fun _ => ?_)
    refine jo_pure rfl (pr_not rfl) ?_
    refine jo_pure rfl (pr_move rfl) (jo_run (j := 3) (want := false) rfl rfl (by rw [hz]; rfl) ?_)
    refine jo_pure rfl (pr_load_box (.agg #[.int .i64 (o.1), .int .i64 (o.2.1), .int .i64 (o.2.2.1), .int .i64 (o.2.2.2.1), ov, ov2, ov3, str (o.2.2.2.2.1.2.2.2.1), ov4, str (o.2.2.2.2.1.2.2.2.2.2.1), .int .i64 (o.2.2.2.2.1.2.2.2.2.2.2.1), .int .i64 (o.2.2.2.2.1.2.2.2.2.2.2.2), ov5]) rfl ty_43 (.head _) rfl (by decide) rfl) ?_
    refine jo_run (j := 3) (want := false) rfl rfl (by rw [hz]; rfl) ?_
    refine jo_buildSliceL (t := (.pair (.int .i64) (.pair (.int .i64) (.pair (.int .i64) (.pair (.int .i64) (.pair tyE (.list (.pair .str (.list .str))))))))) [o] [.agg #[.int .i64 (o.1), .int .i64 (o.2.1), .int .i64 (o.2.2.1), .int .i64 (o.2.2.2.1), ov, ov2, ov3, str (o.2.2.2.2.1.2.2.2.1), ov4, str (o.2.2.2.2.1.2.2.2.2.2.1), .int .i64 (o.2.2.2.2.1.2.2.2.2.2.2.1), .int .i64 (o.2.2.2.2.1.2.2.2.2.2.2.2), ov5]] [[.int .i64 (o.1), .int .i64 (o.2.1), .int .i64 (o.2.2.1), .int .i64 (o.2.2.2.1), ov, ov2, ov3, str (o.2.2.2.2.1.2.2.2.1), ov4, str (o.2.2.2.2.1.2.2.2.2.2.1), .int .i64 (o.2.2.2.2.1.2.2.2.2.2.2.1), .int .i64 (o.2.2.2.2.1.2.2.2.2.2.2.2), ov5]] (fun a hf => by simp only [List.zipIdx_cons, List.zipIdx_nil, List.map_toArray, List.map_cons, List.map_nil, hf.ev (show ev _ (.tmp 25) = some (.agg #[.int .i64 (o.1), .int .i64 (o.2.1), .int .i64 (o.2.2.1), .int .i64 (o.2.2.2.1), ov, ov2, ov3, str (o.2.2.2.2.1.2.2.2.1), ov4, str (o.2.2.2.2.1.2.2.2.2.2.1), .int .i64 (o.2.2.2.2.1.2.2.2.2.2.2.1), .int .i64 (o.2.2.2.2.1.2.2.2.2.2.2.2), ov5]) from rfl)] <;> rfl) rfl ⟨⟨[.int .i64 (o.1)], [.int .i64 (o.2.1), .int .i64 (o.2.2.1), .int .i64 (o.2.2.2.1), ov, ov2, ov3, str (o.2.2.2.2.1.2.2.2.1), ov4, str (o.2.2.2.2.1.2.2.2.2.2.1), .int .i64 (o.2.2.2.2.1.2.2.2.2.2.2.1), .int .i64 (o.2.2.2.2.1.2.2.2.2.2.2.2), ov5], rfl, rfl, ⟨[.int .i64 (o.2.1)], [.int .i64 (o.2.2.1), .int .i64 (o.2.2.2.1), ov, ov2, ov3, str (o.2.2.2.2.1.2.2.2.1), ov4, str (o.2.2.2.2.1.2.2.2.2.2.1), .int .i64 (o.2.2.2.2.1.2.2.2.2.2.2.1), .int .i64 (o.2.2.2.2.1.2.2.2.2.2.2.2), ov5], rfl, rfl, ⟨[.int .i64 (o.2.2.1)], [.int .i64 (o.2.2.2.1), ov, ov2, ov3, str (o.2.2.2.2.1.2.2.2.1), ov4, str (o.2.2.2.2.1.2.2.2.2.2.1), .int .i64 (o.2.2.2.2.1.2.2.2.2.2.2.1), .int .i64 (o.2.2.2.2.1.2.2.2.2.2.2.2), ov5], rfl, rfl, ⟨[.int .i64 (o.2.2.2.1)], [ov, ov2, ov3, str (o.2.2.2.2.1.2.2.2.1), ov4, str (o.2.2.2.2.1.2.2.2.2.2.1), .int .i64 (o.2.2.2.2.1.2.2.2.2.2.2.1), .int .i64 (o.2.2.2.2.1.2.2.2.2.2.2.2), ov5], rfl, rfl, ⟨[ov, ov2, ov3, str (o.2.2.2.2.1.2.2.2.1), ov4, str (o.2.2.2.2.1.2.2.2.2.2.1), .int .i64 (o.2.2.2.2.1.2.2.2.2.2.2.1), .int .i64 (o.2.2.2.2.1.2.2.2.2.2.2.2)], [ov5], rfl, ⟨[ov], [ov2, ov3, str (o.2.2.2.2.1.2.2.2.1), ov4, str (o.2.2.2.2.1.2.2.2.2.2.1), .int .i64 (o.2.2.2.2.1.2.2.2.2.2.2.1), .int .i64 (o.2.2.2.2.1.2.2.2.2.2.2.2)], rfl, ⟨ov, rfl, .tail _ (.tail _ (.head _))⟩, ⟨[ov2], [ov3, str (o.2.2.2.2.1.2.2.2.1), ov4, str (o.2.2.2.2.1.2.2.2.2.2.1), .int .i64 (o.2.2.2.2.1.2.2.2.2.2.2.1), .int .i64 (o.2.2.2.2.1.2.2.2.2.2.2.2)], rfl, ⟨ov2, rfl, .tail _ (.tail _ (.tail _ (.head _)))⟩, ⟨[ov3], [str (o.2.2.2.2.1.2.2.2.1), ov4, str (o.2.2.2.2.1.2.2.2.2.2.1), .int .i64 (o.2.2.2.2.1.2.2.2.2.2.2.1), .int .i64 (o.2.2.2.2.1.2.2.2.2.2.2.2)], rfl, ⟨ov3, rfl, .tail _ (.tail _ (.tail _ (.tail _ (.head _))))⟩, ⟨[str (o.2.2.2.2.1.2.2.2.1)], [ov4, str (o.2.2.2.2.1.2.2.2.2.2.1), .int .i64 (o.2.2.2.2.1.2.2.2.2.2.2.1), .int .i64 (o.2.2.2.2.1.2.2.2.2.2.2.2)], rfl, rfl, ⟨[ov4], [str (o.2.2.2.2.1.2.2.2.2.2.1), .int .i64 (o.2.2.2.2.1.2.2.2.2.2.2.1), .int .i64 (o.2.2.2.2.1.2.2.2.2.2.2.2)], rfl, ⟨ov4, rfl, .tail _ (.tail _ (.tail _ (.tail _ (.tail _ (.head _)))))⟩, ⟨[str (o.2.2.2.2.1.2.2.2.2.2.1)], [.int .i64 (o.2.2.2.2.1.2.2.2.2.2.2.1), .int .i64 (o.2.2.2.2.1.2.2.2.2.2.2.2)], rfl, rfl, ⟨[.int .i64 (o.2.2.2.2.1.2.2.2.2.2.2.1)], [.int .i64 (o.2.2.2.2.1.2.2.2.2.2.2.2)], rfl, rfl, rfl⟩⟩⟩⟩⟩⟩⟩, ⟨ov5, rfl, .tail _ (.tail _ (.tail _ (.tail _ (.tail _ (.tail _ (.head _))))))⟩⟩⟩⟩⟩⟩, trivial⟩ Tryz.underlying31 ty_43 rfl rfl rfl rfl (fun g1 => ?_)
    refine jo_run (j := 3) (want := false) rfl rfl (by rw [hz]; rfl) ?_
    refine j_pub_rowg ?_
    refine jo_callp cal_14 (c_law28_small [o] (.slice (some ⟨g1, 0, none⟩) ([o]).length (([o]).length)) (by first | assumption | exact hka.1 | exact hoe.1 | exact (fun x hx => by rw [List.mem_singleton.1 hx]; exact ho) | (have := hxx.len; omega) | exact (fun a ha => ⟨hxx.names a ha, hxx.strs a ha, Nat.le_trans (hxx.vals a ha) (by decide)⟩) | (simp; done) | exact hE.1 | exact hE.2.1 | exact hE.2.2.1 | exact hE.2.2.2.1 | exact hE.2.2.2.2 | exact (fun x hx => Nat.le_trans (hfo.axes.vals x hx) (by decide)) | omega | (rw [len_keys]; omega)) (by first | assumption | exact hka.1 | exact hoe.1 | exact (fun x hx => by rw [List.mem_singleton.1 hx]; exact ho) | (have := hxx.len; omega) | exact (fun a ha => ⟨hxx.names a ha, hxx.strs a ha, Nat.le_trans (hxx.vals a ha) (by decide)⟩) | (simp; done) | exact hE.1 | exact hE.2.1 | exact hE.2.2.1 | exact hE.2.2.2.1 | exact hE.2.2.2.2 | exact (fun x hx => Nat.le_trans (hfo.axes.vals x hx) (by decide)) | omega | (rw [len_keys]; omega))) ⟨rfl, trivial⟩ rfl (⟨⟨rfl, .head _⟩, trivial⟩) (fun _ => ?_)
    refine jo_run (j := 3) (want := false) rfl rfl (by rw [hz]; rfl) ?_
    refine jo_pure rfl (pr_not rfl) ?_
    refine jo_pure rfl (pr_pick_f rfl (by rw [hz]; rfl) rfl) ?_
    refine jo_pure rfl (pr_move rfl) (jo_run (j := 9) (want := false) rfl rfl (by rw [hy]; rfl) ?_)
    refine jo_pure rfl (pr_move rfl) (jo_run (j := 9) (want := false) rfl rfl (by rw [hy]; rfl) ?_)
    refine jo_pure rfl (pr_move rfl) (jo_run (j := 9) (want := false) rfl rfl (by rw [hy]; rfl) ?_)
    refine jo_pure rfl (pr_move rfl) (jo_run (j := 9) (want := false) rfl rfl (by rw [hy]; rfl) ?_)
    refine jo_callp cal_10 (c_ref26_Allowed ((bz.toNat : Nat) : Int) ((vz.toNat : Nat) : Int) ((tz.toNat : Nat) : Int)) ⟨rfl, rfl, rfl, trivial⟩ rfl (trivial) (fun _ => ?_)
    refine jo_run (j := 9) (want := false) rfl rfl (by rw [hy]; rfl) ?_
    refine jo_pure rfl (pr_not rfl) ?_
    refine jo_pure rfl (pr_pick_f rfl (by rw [hy]; rfl) rfl) ?_
    refine jo_nil (jq_then (jc_false rfl (by rw [hyes]; rfl) ?_))
    refine jc_skip (jq_then (jc_seq (jc_region (jo_pure rfl (pr_move rfl) (jo_pure rfl (pr_move rfl) (jo_pure rfl (pr_move rfl) ?_))))))
    refine jo_callp cal_9 (c_store_New bz.toNat vz.toNat tz.toNat (hlim.b) (hlim.v) (hlim.t)) ⟨rfl, rfl, rfl, trivial⟩ rfl (trivial) (fun ⟨nb1, nm1⟩ => ?_)
    refine jo_pure rfl (pr_move rfl) (jo_pure rfl (pr_extract rfl rfl) (jo_pure rfl (pr_extract rfl rfl) (jo_pure rfl (pr_assign rfl) (jo_pure rfl (pr_assign rfl) (jo_nil (jq_then (jc_seq (jc_seq (j_pull1 (j_pull1 (j_nil_row 9 .str ?_)))))))))))
    refine jc_region (jo_pure rfl (pr_move rfl) (jo_pure rfl (pr_neqN (m := 0) (n := 0) rfl rfl) ?_))
    refine jo_pure rfl (pr_move rfl) (jo_gpure (j := 2) (want := false) rfl rfl rfl rfl (fun hg=>pr_move rfl) (jo_gpure (j := 2) (want := false) rfl rfl rfl rfl (fun hg=>pr_eql_ptrnil (evg rfl hg) rfl Tryz.underlying22) ?_))
    refine jo_pure rfl (pr_pick_or rfl rfl rfl) ?_
    refine jo_nil (jq_then (jc_false rfl (by decide) ?_))
    refine jc_skip (jq_then (jc_seq (jc_seq (jc_region (jo_pure rfl (pr_assign rfl) (jo_nil (jq_then (jc_block ?_))))))))
    refine jc_loop2 (fun (i : Nat) (ow : Value) => [(0, .int .i64 ((bz.toNat : Nat) : Int)), (3, lv), (9, .pointer (some ⟨b1, 0, none⟩)), (11, .pointer (some ⟨nb1, 0, none⟩)), (13, .int .i64 ((i : Nat) : Int))]) (fun (i : Nat) (ow : Value) => [.row (ow) 9 .str (keysA (runA bz.toNat vz.toNat tz.toNat noA (l.take i))), .box nb1 68 [.int .i64 ((bz.toNat : Nat) : Int), .int .i64 ((vz.toNat : Nat) : Int), .int .i64 ((tz.toNat : Nat) : Int), .int .i64 ((totA (runA bz.toNat vz.toNat tz.toNat noA (l.take i)) : Nat) : Int), ow, .map (some nm1)], .mpt nm1 tyT (runA bz.toNat vz.toNat tz.toNat noA (l.take i)), .imm (.list (.pair (.int .i64) (.pair (.int .i64) (.pair (.int .i64) (.pair (.int .i64) (.pair tyE (.list (.pair .str (.list .str))))))))) (.slice (some ⟨g1, 0, none⟩) ([o]).length (([o]).length)) ([o]), .box b1 43 [.int .i64 (o.1), .int .i64 (o.2.1), .int .i64 (o.2.2.1), .int .i64 (o.2.2.2.1), ov, ov2, ov3, str (o.2.2.2.2.1.2.2.2.1), ov4, str (o.2.2.2.2.1.2.2.2.2.2.1), .int .i64 (o.2.2.2.2.1.2.2.2.2.2.2.1), .int .i64 (o.2.2.2.2.1.2.2.2.2.2.2.2), ov5], .imm (.list (.pair (.int .i64) (.pair (.int .i64) (.pair (.int .i64) (.pair (.int .i64) (.pair tyE (.list (.pair .str (.list .str))))))))) (lv) (l), .imm (.list (.list .str)) (ov) (o.2.2.2.2.1.1), .imm (.list .str) (ov2) (o.2.2.2.2.1.2.1), .imm (.list .str) (ov3) (o.2.2.2.2.1.2.2.1), .imm (.list (.pair .str .str)) (ov4) (o.2.2.2.2.1.2.2.2.2.1), .imm (.list (.pair .str (.list .str))) (ov5) (o.2.2.2.2.2)]) (fun (i : Nat) (ow : Value) => i ≤ l.length) (fun (i : Nat) (ow : Value) => l.length - i) 0 (.slice none 0 0) (Nat.zero_le _) (⟨rfl, rfl, rfl, rfl, rfl, trivial⟩) (fun _ h => h) (fun i ow hinv => ?_)
    have hst := run_noA hlim hz i
    refine jc_seq (jc_seq (jc_region (jo_pure rfl (pr_move rfl) (jo_pure rfl (pr_move rfl) (jo_pure rfl (pr_len_imm rfl (.tail _ (.tail _ (.tail _ (.tail _ (.tail _ (.head _)))))) Tryz.underlying31) ?_)))))
    refine jo_pure rfl (pr_lssN (m := i) (n := l.length) rfl rfl) ?_
    refine jo_nil (jq_then ?_)
    refine jc_cond rfl (fun h1b => ?_) (fun h1b => ?_)
    ·have h1 := of_decide_eq_true h1b
     refine jc_skip (jq_then (jc_seq (jc_block (jc_region (jo_pure rfl (pr_move rfl) (jo_pure rfl (pr_move rfl) ?_))))))
     refine j_open_elem (t := (.pair (.int .i64) (.pair (.int .i64) (.pair (.int .i64) (.pair (.int .i64) (.pair tyE (.list (.pair .str (.list .str))))))))) (i := i) (0, (0, (0, (0, (([],[],[],[],[],[],0,0), []))))) (.tail _ (.tail _ (.tail _ (.tail _ (.tail _ (.head _)))))) (by omega) (fun ⟨_, ⟨_, ⟨_, ⟨_, ⟨⟨e1, ⟨e2, ⟨e3, ⟨_, ⟨e4, ⟨_, ⟨_, _⟩⟩⟩⟩⟩⟩⟩, e5⟩⟩⟩⟩⟩ => ?_)
     refine jo_pure rfl (pr_idx_imm (i := i) rfl (.tail _ (.tail _ (.tail _ (.tail _ (.tail _ (.tail _ (.tail _ (.tail _ (.tail _ (.tail _ (.tail _ (.head _)))))))))))) rfl Tryz.underlying31 ty_43 (by omega)) ?_
     refine jo_pure rfl (pr_load_at (.agg #[.int .i64 (((l.getD i (0, (0, (0, (0, (([],[],[],[],[],[],0,0), []))))))).1), .int .i64 ((((l.getD i (0, (0, (0, (0, (([],[],[],[],[],[],0,0), []))))))).2).1), .int .i64 (((((l.getD i (0, (0, (0, (0, (([],[],[],[],[],[],0,0), []))))))).2).2).1), .int .i64 ((((((l.getD i (0, (0, (0, (0, (([],[],[],[],[],[],0,0), []))))))).2).2).2).1), e1, e2, e3, str (((((((((((l.getD i (0, (0, (0, (0, (([],[],[],[],[],[],0,0), []))))))).2).2).2).2).1).2).2).2).1), e4, str (((((((((((((l.getD i (0, (0, (0, (0, (([],[],[],[],[],[],0,0), []))))))).2).2).2).2).1).2).2).2).2).2).1), .int .i64 ((((((((((((((l.getD i (0, (0, (0, (0, (([],[],[],[],[],[],0,0), []))))))).2).2).2).2).1).2).2).2).2).2).2).1), .int .i64 ((((((((((((((l.getD i (0, (0, (0, (0, (([],[],[],[],[],[],0,0), []))))))).2).2).2).2).1).2).2).2).2).2).2).2), e5]) rfl (.tail _ (.tail _ (.tail _ (.tail _ (.tail _ (.head _)))))) ty_43 (by decide) rfl) ?_
     refine jo_pure rfl (pr_move rfl) (j_dup rfl ?_)
     refine j_pull2 (j_dup rfl ?_)
     refine j_pull4 ?_
     refine j_dup rfl ?_
     refine j_pull6 ?_
     refine j_dup rfl ?_
     refine j_pull8 ?_
     refine j_dup rfl ?_
     refine j_pull2 (j_pull4 ?_)
     refine j_pull6 ?_
     refine j_pull8 ?_
     refine j_pull13 ?_
     refine j_pull12 ?_
     refine j_pull13 ?_
     refine jo_callm [.imm (.list (.pair .str (.list .str))) (e5) (((((((l.getD i (0, (0, (0, (0, (([],[],[],[],[],[],0,0), []))))))).2).2).2).2).2), .imm (.list (.pair .str .str)) (e4) ((((((((((((l.getD i (0, (0, (0, (0, (([],[],[],[],[],[],0,0), []))))))).2).2).2).2).1).2).2).2).2).1), .imm (.list .str) (e3) ((((((((((l.getD i (0, (0, (0, (0, (([],[],[],[],[],[],0,0), []))))))).2).2).2).2).1).2).2).1), .imm (.list .str) (e2) (((((((((l.getD i (0, (0, (0, (0, (([],[],[],[],[],[],0,0), []))))))).2).2).2).2).1).2).1), .imm (.list (.list .str)) (e1) ((((((((l.getD i (0, (0, (0, (0, (([],[],[],[],[],[],0,0), []))))))).2).2).2).2).1).1), .fact (fun w_ I_ => ElemAt w_ I_ (lv) (i) 13 [.int .i64 (((l.getD i (0, (0, (0, (0, (([],[],[],[],[],[],0,0), []))))))).1), .int .i64 ((((l.getD i (0, (0, (0, (0, (([],[],[],[],[],[],0,0), []))))))).2).1), .int .i64 (((((l.getD i (0, (0, (0, (0, (([],[],[],[],[],[],0,0), []))))))).2).2).1), .int .i64 ((((((l.getD i (0, (0, (0, (0, (([],[],[],[],[],[],0,0), []))))))).2).2).2).1), e1, e2, e3, str (((((((((((l.getD i (0, (0, (0, (0, (([],[],[],[],[],[],0,0), []))))))).2).2).2).2).1).2).2).2).1), e4, str (((((((((((((l.getD i (0, (0, (0, (0, (([],[],[],[],[],[],0,0), []))))))).2).2).2).2).1).2).2).2).2).2).1), .int .i64 ((((((((((((((l.getD i (0, (0, (0, (0, (([],[],[],[],[],[],0,0), []))))))).2).2).2).2).1).2).2).2).2).2).2).1), .int .i64 ((((((((((((((l.getD i (0, (0, (0, (0, (([],[],[],[],[],[],0,0), []))))))).2).2).2).2).1).2).2).2).2).2).2).2), e5]), .imm (.list (.pair (.int .i64) (.pair (.int .i64) (.pair (.int .i64) (.pair (.int .i64) (.pair tyE (.list (.pair .str (.list .str))))))))) (.slice (some ⟨g1, 0, none⟩) ([o]).length (([o]).length)) ([o]), .box b1 43 [.int .i64 (o.1), .int .i64 (o.2.1), .int .i64 (o.2.2.1), .int .i64 (o.2.2.2.1), ov, ov2, ov3, str (o.2.2.2.2.1.2.2.2.1), ov4, str (o.2.2.2.2.1.2.2.2.2.2.1), .int .i64 (o.2.2.2.2.1.2.2.2.2.2.2.1), .int .i64 (o.2.2.2.2.1.2.2.2.2.2.2.2), ov5], .imm (.list (.pair (.int .i64) (.pair (.int .i64) (.pair (.int .i64) (.pair (.int .i64) (.pair tyE (.list (.pair .str (.list .str))))))))) (lv) (l), .imm (.list (.list .str)) (ov) (o.2.2.2.2.1.1), .imm (.list .str) (ov2) (o.2.2.2.2.1.2.1), .imm (.list .str) (ov3) (o.2.2.2.2.1.2.2.1), .imm (.list (.pair .str .str)) (ov4) (o.2.2.2.2.1.2.2.2.2.1), .imm (.list (.pair .str (.list .str))) (ov5) (o.2.2.2.2.2)] rfl cal_15 (c_do nb1 nm1 bz.toNat vz.toNat tz.toNat ow (runA bz.toNat vz.toNat tz.toNat noA (l.take i)) ((l.getD i (0, (0, (0, (0, (([],[],[],[],[],[],0,0), []))))))) e1 e2 e3 e4 e5 (hlim) (hst) (small_mem hz _ (getD_mem h1))) ⟨rfl, rfl, trivial⟩ rfl (fun r1 => ?_)
     refine jo_nil (jq_in_normal (jq_then ?_))
     rw [← run_next (dd := (0, (0, (0, (0, (([],[],[],[],[],[],0,0), [])))))) h1]
     refine jc_region (jo_pure rfl (pr_move rfl) (jo_pure rfl (pr_addN (m := i) (n := 1) rfl rfl (by omega)) ?_))
     refine jo_pure rfl (pr_assign rfl) (jo_nil (j_pull3 (j_drop (j_pull3 (j_drop (j_pull3 (j_drop (j_pull3 (j_drop (j_pull3 (j_drop (j_pull3 (j_drop (j_pull10 ?_))))))))))))))
     refine j_pull10 ?_
     refine j_pull10 ?_
     refine j_pull10 ?_
     refine j_pull10 ?_
     refine j_pull10 ?_
     refine j_pull10 ?_
     refine j_pull10 ?_
     refine j_pull8 ?_
     refine j_pull9 ?_
     refine j_pull10 ?_
     refine jq_round' ((i + 1), r1) (by (try dsimp only); exact (by omega)) (by (try dsimp only); exact (by omega)) ⟨rfl, rfl, rfl, rfl, rfl, trivial⟩ (fun _ h => h)
    ·have h1 := of_decide_eq_false h1b
     refine jc_exit ?_
     refine jq_then_exit ?_
     refine jq_then_exit ?_
     refine jq_in_hit ?_
     refine jq_then (jc_seq ?_)
     have hst2 := run_noA hlim hz i
     generalize hA2 : runA bz.toNat vz.toNat tz.toNat noA (l.take i) = A2 at hst2 ⊢
     have hlen := hst2.len hlim
     have hst3 : StoA bz.toNat vz.toNat tz.toNat (putA bz.toNat vz.toNat tz.toNat A2 (nameF o.2.1) (ofE o) o.2.2.2.2.2) := sto_put hlim hst2 hoe.1 hxx
     have hlen3 := hst3.len hlim
     have hlk3 := len_keys (putA bz.toNat vz.toNat tz.toNat A2 (nameF o.2.1) (ofE o) o.2.2.2.2.2)
     refine jc_region (jo_pure rfl (pr_move rfl) (j_pull1 ?_))
     refine jo_callm [.mpt nm1 tyT (A2), .imm (.list (.pair (.int .i64) (.pair (.int .i64) (.pair (.int .i64) (.pair (.int .i64) (.pair tyE (.list (.pair .str (.list .str))))))))) (.slice (some ⟨g1, 0, none⟩) ([o]).length (([o]).length)) ([o]), .box b1 43 [.int .i64 (o.1), .int .i64 (o.2.1), .int .i64 (o.2.2.1), .int .i64 (o.2.2.2.1), ov, ov2, ov3, str (o.2.2.2.2.1.2.2.2.1), ov4, str (o.2.2.2.2.1.2.2.2.2.2.1), .int .i64 (o.2.2.2.2.1.2.2.2.2.2.2.1), .int .i64 (o.2.2.2.2.1.2.2.2.2.2.2.2), ov5], .imm (.list (.pair (.int .i64) (.pair (.int .i64) (.pair (.int .i64) (.pair (.int .i64) (.pair tyE (.list (.pair .str (.list .str))))))))) (lv) (l), .imm (.list (.list .str)) (ov) (o.2.2.2.2.1.1), .imm (.list .str) (ov2) (o.2.2.2.2.1.2.1), .imm (.list .str) (ov3) (o.2.2.2.2.1.2.2.1), .imm (.list (.pair .str .str)) (ov4) (o.2.2.2.2.1.2.2.2.2.1), .imm (.list (.pair .str (.list .str))) (ov5) (o.2.2.2.2.2)] rfl cal_12 (c_store_Keys nb1 nm1 bz.toNat vz.toNat tz.toNat (totA A2) ow (keysA A2) (by rw [len_keys]; omega)) ⟨rfl, trivial⟩ rfl (fun r2 => ?_)
     refine jo_pure rfl (pr_move rfl) ?_
     refine jo_callq cal_13 (c_store_Bytes nb1 nm1 bz.toNat vz.toNat tz.toNat (totA A2) ow) ⟨rfl, trivial⟩ rfl (⟨peek_box (.tail _ (.head _)), trivial⟩) (fun _ => ?_)
     refine jo_pure rfl (pr_assign rfl) (jo_pure rfl (pr_assign rfl) (jo_nil (jq_then (jc_seq (jc_region (jo_pure rfl (pr_load_box (.agg #[.int .i64 (o.1), .int .i64 (o.2.1), .int .i64 (o.2.2.1), .int .i64 (o.2.2.2.1), ov, ov2, ov3, str (o.2.2.2.2.1.2.2.2.1), ov4, str (o.2.2.2.2.1.2.2.2.2.2.1), .int .i64 (o.2.2.2.2.1.2.2.2.2.2.2.1), .int .i64 (o.2.2.2.2.1.2.2.2.2.2.2.2), ov5]) rfl ty_43 (.tail _ (.tail _ (.tail _ (.tail _ (.tail _ (.head _)))))) rfl (by decide) rfl) ?_))))))
     have con1 := c_law28_Op_of o ov ov2 ov3 ov4 ov5 (by first | assumption | exact hka.1 | exact hoe.1 | exact (fun x hx => by rw [List.mem_singleton.1 hx]; exact ho) | (have := hxx.len; omega) | exact (fun a ha => ⟨hxx.names a ha, hxx.strs a ha, Nat.le_trans (hxx.vals a ha) (by decide)⟩) | (simp; done) | exact hE.1 | exact hE.2.1 | exact hE.2.2.1 | exact hE.2.2.2.1 | exact hE.2.2.2.2 | exact (fun x hx => Nat.le_trans (hfo.axes.vals x hx) (by decide)) | omega | (rw [len_keys]; omega))
     refine jo_callp cal_20 con1 (by exact ⟨rfl, trivial⟩) rfl (by exact ⟨⟨rfl, .tail _ (.tail _ (.tail _ (.tail _ (.tail _ (.tail _ (.tail _ (.head _)))))))⟩, ⟨⟨rfl, .tail _ (.tail _ (.tail _ (.tail _ (.tail _ (.tail _ (.tail _ (.tail _ (.head _))))))))⟩, ⟨⟨rfl, .tail _ (.tail _ (.tail _ (.tail _ (.tail _ (.tail _ (.tail _ (.tail _ (.tail _ (.head _)))))))))⟩, ⟨⟨rfl, .tail _ (.tail _ (.tail _ (.tail _ (.tail _ (.tail _ (.tail _ (.tail _ (.tail _ (.tail _ (.head _))))))))))⟩, ⟨⟨rfl, .tail _ (.tail _ (.tail _ (.tail _ (.tail _ (.tail _ (.tail _ (.tail _ (.tail _ (.tail _ (.tail _ (.head _)))))))))))⟩, trivial⟩⟩⟩⟩⟩) (fun ⟨r3, r4, r5, r6⟩ => ?_)
     clear con1
     refine jo_alloc ty_40 [.slice none 0 0, .slice none 0 0, .slice none 0 0, str ([]), .slice none 0 0, str ([]), .int .i64 ((0 : Nat) : Int), .int .i64 ((0 : Nat) : Int)] rfl rfl (fun b2 => ?_)
     refine jo_storeV rfl rfl ty_40 [r3, r4, r5, str ((ofE o).2.2.2.1), r6, str ((ofE o).2.2.2.2.2.1), .int .i64 ((ofE o).2.2.2.2.2.2.1), .int .i64 ((ofE o).2.2.2.2.2.2.2)] (fun _ _ _ _ => rfl) rfl (fun w I m hs => by simp only [List.all_cons, List.all_nil, Bool.and_true, Bool.and_eq_true]; exact ⟨(SliceV.one (imm_slice (.tail _ (.head _)) hs)), (SliceV.one (imm_slice (.tail _ (.tail _ (.head _))) hs)), (SliceV.one (imm_slice (.tail _ (.tail _ (.tail _ (.head _)))) hs)), rfl, (SliceV.one (imm_slice (.tail _ (.tail _ (.tail _ (.tail _ (.head _))))) hs)), rfl, rfl, rfl⟩) [r3, r4, r5, str ((ofE o).2.2.2.1), r6, str ((ofE o).2.2.2.2.2.1), .int .i64 ((ofE o).2.2.2.2.2.2.1), .int .i64 ((ofE o).2.2.2.2.2.2.2)] rfl rfl ?_
     refine jo_nil (jq_then (jc_seq (j_pull8 ?_)))
     refine j_pull8 ?_
     refine j_pull8 ?_
     refine jc_held (fun (r7 : Value) => [(0, .int .i64 ((bz.toNat : Nat) : Int)), (9, .pointer (some ⟨b1, 0, none⟩)), (11, .pointer (some ⟨nb1, 0, none⟩)), (14, r2), (15, .int .i64 ((totA A2 : Nat) : Int)), (16, .pointer (some ⟨b2, 0, none⟩)), (17, .bool (fitsB bz.toNat (ofE o) o.2.2.2.2.2))]) (fun r7 => [.mpt nm1 tyT (putA bz.toNat vz.toNat tz.toNat A2 (nameF o.2.1) (ofE o) o.2.2.2.2.2), .box nb1 68 [.int .i64 ((bz.toNat : Nat) : Int), .int .i64 ((vz.toNat : Nat) : Int), .int .i64 ((tz.toNat : Nat) : Int), .int .i64 ((totA (putA bz.toNat vz.toNat tz.toNat A2 (nameF o.2.1) (ofE o) o.2.2.2.2.2) : Nat) : Int), r7, .map (some nm1)], .row (r7) 9 .str (keysA (putA bz.toNat vz.toNat tz.toNat A2 (nameF o.2.1) (ofE o) o.2.2.2.2.2)), .imm (.list (.pair .str (.list .str))) (ov5) (o.2.2.2.2.2), .imm (.list (.pair .str .str)) (r6) ((ofE o).2.2.2.2.1), .imm (.list .str) (r5) ((ofE o).2.2.1), .imm (.list .str) (r4) ((ofE o).2.1), .imm (.list (.list .str)) (r3) ((ofE o).1), .box b2 40 [r3, r4, r5, str ((ofE o).2.2.2.1), r6, str ((ofE o).2.2.2.2.2.1), .int .i64 ((ofE o).2.2.2.2.2.2.1), .int .i64 ((ofE o).2.2.2.2.2.2.2)], .row (r2) 9 .str (keysA A2), .imm (.list (.pair (.int .i64) (.pair (.int .i64) (.pair (.int .i64) (.pair (.int .i64) (.pair tyE (.list (.pair .str (.list .str))))))))) (.slice (some ⟨g1, 0, none⟩) ([o]).length (([o]).length)) ([o]), .box b1 43 [.int .i64 (o.1), .int .i64 (o.2.1), .int .i64 (o.2.2.1), .int .i64 (o.2.2.2.1), ov, ov2, ov3, str (o.2.2.2.2.1.2.2.2.1), ov4, str (o.2.2.2.2.1.2.2.2.2.2.1), .int .i64 (o.2.2.2.2.1.2.2.2.2.2.2.1), .int .i64 (o.2.2.2.2.1.2.2.2.2.2.2.2), ov5], .imm (.list (.pair (.int .i64) (.pair (.int .i64) (.pair (.int .i64) (.pair (.int .i64) (.pair tyE (.list (.pair .str (.list .str))))))))) (lv) (l), .imm (.list (.list .str)) (ov) (o.2.2.2.2.1.1), .imm (.list .str) (ov2) (o.2.2.2.2.1.2.1), .imm (.list .str) (ov3) (o.2.2.2.2.1.2.2.1), .imm (.list (.pair .str .str)) (ov4) (o.2.2.2.2.1.2.2.2.2.1)]) [.box b2 40 [r3, r4, r5, str ((ofE o).2.2.2.1), r6, str ((ofE o).2.2.2.2.2.1), .int .i64 ((ofE o).2.2.2.2.2.2.1), .int .i64 ((ofE o).2.2.2.2.2.2.2)], .imm (.list (.list .str)) (r3) ((ofE o).1), .imm (.list .str) (r4) ((ofE o).2.1), .imm (.list .str) (r5) ((ofE o).2.2.1), .imm (.list (.pair .str .str)) (r6) ((ofE o).2.2.2.2.1), .row (r2) 9 .str (keysA A2), .imm (.list (.pair (.int .i64) (.pair (.int .i64) (.pair (.int .i64) (.pair (.int .i64) (.pair tyE (.list (.pair .str (.list .str))))))))) (.slice (some ⟨g1, 0, none⟩) ([o]).length (([o]).length)) ([o]), .box b1 43 [.int .i64 (o.1), .int .i64 (o.2.1), .int .i64 (o.2.2.1), .int .i64 (o.2.2.2.1), ov, ov2, ov3, str (o.2.2.2.2.1.2.2.2.1), ov4, str (o.2.2.2.2.1.2.2.2.2.2.1), .int .i64 (o.2.2.2.2.1.2.2.2.2.2.2.1), .int .i64 (o.2.2.2.2.1.2.2.2.2.2.2.2), ov5], .imm (.list (.pair (.int .i64) (.pair (.int .i64) (.pair (.int .i64) (.pair (.int .i64) (.pair tyE (.list (.pair .str (.list .str))))))))) (lv) (l), .imm (.list (.list .str)) (ov) (o.2.2.2.2.1.1), .imm (.list .str) (ov2) (o.2.2.2.2.1.2.1), .imm (.list .str) (ov3) (o.2.2.2.2.1.2.2.1), .imm (.list (.pair .str .str)) (ov4) (o.2.2.2.2.1.2.2.2.2.1), .imm (.list (.pair .str (.list .str))) (ov5) (o.2.2.2.2.2)] mixed (fun lst hlst => ?_) (fun r7 => ?_)
     ·subst hlst
      refine jh_take (listed' := #[true, false, false, false, false, false, false, false, false]) 0 rfl (by kernel_rfl) (by kernel_rfl) (by kernel_rfl) rfl (pr_move rfl) (fun _ h => Mem.drop1 (Mem.drop1 (Mem.drop1 (h)))) rfl ?_
      refine jh_take (listed' := #[true, true, false, false, false, false, false, false, false]) 1 rfl (by kernel_rfl) (by kernel_rfl) (by kernel_rfl) rfl (pr_fieldAddr 1 rfl Tryz.underlying43 rfl ty_3 rfl rfl) (fun _ h => Mem.drop1 (Mem.drop1 (Mem.drop1 (h)))) rfl ?_
      refine jh_take (listed' := #[true, true, true, false, false, false, false, false, false]) 2 rfl (by kernel_rfl) (by kernel_rfl) (by kernel_rfl) rfl (pr_load_box (.int .i64 (o.2.1)) rfl ty_3 (.tail _ (.tail _ (.tail _ (.tail _ (.tail _ (.tail _ (.tail _ (.head _)))))))) rfl (by decide) rfl) (fun _ h => Mem.drop1 (Mem.drop1 (Mem.drop1 (h)))) rfl ?_
      refine jh_take (listed' := #[true, true, true, false, true, false, false, false, false]) 4 rfl (by kernel_rfl) (by kernel_rfl) (by kernel_rfl) rfl (pr_load_box (.agg #[r3, r4, r5, str ((ofE o).2.2.2.1), r6, str ((ofE o).2.2.2.2.2.1), .int .i64 ((ofE o).2.2.2.2.2.2.1), .int .i64 ((ofE o).2.2.2.2.2.2.2)]) rfl ty_40 (.head _) rfl (by decide) rfl) (fun _ h => Mem.drop1 (Mem.drop1 (Mem.drop1 (h)))) rfl ?_
      refine jh_take (listed' := #[true, true, true, false, true, true, false, false, false]) 5 rfl (by kernel_rfl) (by kernel_rfl) (by kernel_rfl) rfl (pr_fieldAddr 12 rfl Tryz.underlying43 rfl ty_41 rfl rfl) (fun _ h => Mem.drop1 (Mem.drop1 (Mem.drop1 (h)))) rfl ?_
      refine jh_take (listed' := #[true, true, true, false, true, true, true, false, false]) 6 rfl (by kernel_rfl) (by kernel_rfl) (by kernel_rfl) rfl (pr_load_box (ov5) rfl ty_41 (.tail _ (.tail _ (.tail _ (.tail _ (.tail _ (.tail _ (.tail _ (.head _)))))))) rfl (by decide) rfl) (fun _ h => Mem.drop1 (Mem.drop1 (Mem.drop1 (h)))) rfl ?_
      refine jh_all [3] (by kernel_rfl) (by simp) (fun i hi => ?_)
      simp only [List.mem_cons, List.not_mem_nil, or_false] at hi
      subst hi
      ·refine jh_op rfl ?_
       refine jo_callp cal_22 (c_law28_name o.2.1) ⟨rfl, trivial⟩ rfl (trivial) (fun _ => ?_)
       refine jh_in (listed' := #[true, true, true, true, true, true, true, false, false]) (fun _ h => Mem.drop1 (Mem.drop1 (Mem.drop1 (h)))) rfl ?_
       refine jh_all [7] (by kernel_rfl) (by simp) (fun i hi => ?_)
       simp only [List.mem_cons, List.not_mem_nil, or_false] at hi
       subst hi
       ·refine jh_op rfl ?_
        refine j_pull4 ?_
        refine j_dup rfl ?_
        refine j_pull6 ?_
        refine j_dup rfl ?_
        refine j_pull8 ?_
        refine j_dup rfl ?_
        refine j_pull10 ?_
        refine j_dup rfl ?_
        refine j_pull20 ?_
        refine j_dup rfl ?_
        refine j_pull2 (j_pull4 ?_)
        refine j_pull6 ?_
        refine j_pull8 ?_
        refine j_pull12 ?_
        refine j_pull12 ?_
        refine j_pull12 ?_
        refine jo_callm [.imm (.list (.pair .str (.list .str))) (ov5) (o.2.2.2.2.2), .imm (.list (.pair .str .str)) (r6) ((ofE o).2.2.2.2.1), .imm (.list .str) (r5) ((ofE o).2.2.1), .imm (.list .str) (r4) ((ofE o).2.1), .imm (.list (.list .str)) (r3) ((ofE o).1), .box b2 40 [r3, r4, r5, str ((ofE o).2.2.2.1), r6, str ((ofE o).2.2.2.2.2.1), .int .i64 ((ofE o).2.2.2.2.2.2.1), .int .i64 ((ofE o).2.2.2.2.2.2.2)], .row (r2) 9 .str (keysA A2), .imm (.list (.pair (.int .i64) (.pair (.int .i64) (.pair (.int .i64) (.pair (.int .i64) (.pair tyE (.list (.pair .str (.list .str))))))))) (.slice (some ⟨g1, 0, none⟩) ([o]).length (([o]).length)) ([o]), .box b1 43 [.int .i64 (o.1), .int .i64 (o.2.1), .int .i64 (o.2.2.1), .int .i64 (o.2.2.2.1), ov, ov2, ov3, str (o.2.2.2.2.1.2.2.2.1), ov4, str (o.2.2.2.2.1.2.2.2.2.2.1), .int .i64 (o.2.2.2.2.1.2.2.2.2.2.2.1), .int .i64 (o.2.2.2.2.1.2.2.2.2.2.2.2), ov5], .imm (.list (.pair (.int .i64) (.pair (.int .i64) (.pair (.int .i64) (.pair (.int .i64) (.pair tyE (.list (.pair .str (.list .str))))))))) (lv) (l), .imm (.list (.list .str)) (ov) (o.2.2.2.2.1.1), .imm (.list .str) (ov2) (o.2.2.2.2.1.2.1), .imm (.list .str) (ov3) (o.2.2.2.2.1.2.2.1), .imm (.list (.pair .str .str)) (ov4) (o.2.2.2.2.1.2.2.2.2.1)] rfl cal_21 (c_store_Put nb1 nm1 bz.toNat vz.toNat tz.toNat ow A2 (nameF o.2.1) (ofE o) r3 r4 r5 r6 o.2.2.2.2.2 ov5 (hst2.inv) (hst2.ok) (hlim.b.2) (by have := hlim.v; omega) (hlim.t) (hoe.1) (hxx)) ⟨rfl, rfl, rfl, rfl, trivial⟩ rfl (fun r7 => ?_)
        refine jh_in (listed' := #[true, true, true, true, true, true, true, true, false]) (fun _ h => Mem.pull (As := [_, _, _, _, _, _, _, _, _, _, _, _, _]) (Mem.pull (As := [_, _, _, _, _, _, _, _, _, _, _, _]) (Mem.pull (As := [_, _, _, _, _, _, _, _, _, _, _]) (Mem.pull (As := [_, _, _, _, _, _, _, _, _, _]) (Mem.pull (As := [_, _, _, _, _, _, _, _, _]) (Mem.pull (As := [_, _, _, _, _, _, _, _, _, _, _, _, _]) (Mem.pull (As := [_, _, _, _, _, _, _, _, _, _, _, _, _]) (Mem.pull (As := [_, _, _, _, _, _, _, _, _, _, _, _, _]) (Mem.pull (As := [_, _, _, _, _, _, _, _, _, _, _, _, _]) (Mem.pull (As := [_, _, _, _, _, _, _, _, _, _, _, _, _]) (Mem.pull (As := [_, _, _, _, _, _, _, _, _, _, _, _, _]) (Mem.pull (As := [_, _, _, _, _, _, _, _, _, _, _, _, _]) (Mem.pull (As := [_, _, _, _, _, _, _, _, _, _, _, _, _]) (Mem.drop1 (Mem.drop1 (Mem.drop1 (h))))))))))))))))) rfl ?_
        refine jh_take (listed' := #[true, true, true, true, true, true, true, true, true]) 8 rfl (by kernel_rfl) (by kernel_rfl) (by kernel_rfl) rfl (pr_assign rfl) (fun _ h => Mem.pull (As := [_, _, _, _, _, _, _, _, _, _, _, _, _]) (Mem.pull (As := [_, _, _, _, _, _, _, _, _, _, _, _]) (Mem.pull (As := [_, _, _, _, _, _, _, _, _, _, _]) (Mem.pull (As := [_, _, _, _, _, _, _, _, _, _]) (Mem.pull (As := [_, _, _, _, _, _, _, _, _]) (Mem.pull (As := [_, _, _, _, _, _, _, _, _, _, _, _, _]) (Mem.pull (As := [_, _, _, _, _, _, _, _, _, _, _, _, _]) (Mem.pull (As := [_, _, _, _, _, _, _, _, _, _, _, _, _]) (Mem.pull (As := [_, _, _, _, _, _, _, _, _, _, _, _, _]) (Mem.pull (As := [_, _, _, _, _, _, _, _, _, _, _, _, _]) (Mem.pull (As := [_, _, _, _, _, _, _, _, _, _, _, _, _]) (Mem.pull (As := [_, _, _, _, _, _, _, _, _, _, _, _, _]) (Mem.pull (As := [_, _, _, _, _, _, _, _, _, _, _, _, _]) (Mem.drop1 (Mem.drop1 (Mem.drop1 (h))))))))))))))))) rfl ?_
        refine j_pull16 ?_
        refine j_pull16 ?_
        refine j_pull16 ?_
        refine j_pull16 ?_
        refine j_pull16 ?_
        refine j_pull16 ?_
        refine j_pull16 ?_
        refine j_pull16 ?_
        refine j_pull16 ?_
        refine j_pull16 ?_
        refine j_pull16 ?_
        refine j_pull16 ?_
        refine j_pull16 ?_
        refine j_pull16 ?_
        refine j_pull16 ?_
        refine j_pull16 ?_
        refine j_pull16 ?_
        show JH _ _ _ _ _ _ _ _
        exact jh_done r7 (by kernel_rfl) ⟨rfl, rfl, rfl, rfl, rfl, rfl, rfl, trivial⟩ (fun _ h => h)
     ·skip
      refine jq_then (jc_seq (jc_region (jo_pure rfl (pr_move rfl) (j_pull2 (j_pull2 ?_)))))
      refine jo_callm [.mpt nm1 tyT (putA bz.toNat vz.toNat tz.toNat A2 (nameF o.2.1) (ofE o) o.2.2.2.2.2), .imm (.list (.pair .str (.list .str))) (ov5) (o.2.2.2.2.2), .imm (.list (.pair .str .str)) (r6) ((ofE o).2.2.2.2.1), .imm (.list .str) (r5) ((ofE o).2.2.1), .imm (.list .str) (r4) ((ofE o).2.1), .imm (.list (.list .str)) (r3) ((ofE o).1), .box b2 40 [r3, r4, r5, str ((ofE o).2.2.2.1), r6, str ((ofE o).2.2.2.2.2.1), .int .i64 ((ofE o).2.2.2.2.2.2.1), .int .i64 ((ofE o).2.2.2.2.2.2.2)], .row (r2) 9 .str (keysA A2), .imm (.list (.pair (.int .i64) (.pair (.int .i64) (.pair (.int .i64) (.pair (.int .i64) (.pair tyE (.list (.pair .str (.list .str))))))))) (.slice (some ⟨g1, 0, none⟩) ([o]).length (([o]).length)) ([o]), .box b1 43 [.int .i64 (o.1), .int .i64 (o.2.1), .int .i64 (o.2.2.1), .int .i64 (o.2.2.2.1), ov, ov2, ov3, str (o.2.2.2.2.1.2.2.2.1), ov4, str (o.2.2.2.2.1.2.2.2.2.2.1), .int .i64 (o.2.2.2.2.1.2.2.2.2.2.2.1), .int .i64 (o.2.2.2.2.1.2.2.2.2.2.2.2), ov5], .imm (.list (.pair (.int .i64) (.pair (.int .i64) (.pair (.int .i64) (.pair (.int .i64) (.pair tyE (.list (.pair .str (.list .str))))))))) (lv) (l), .imm (.list (.list .str)) (ov) (o.2.2.2.2.1.1), .imm (.list .str) (ov2) (o.2.2.2.2.1.2.1), .imm (.list .str) (ov3) (o.2.2.2.2.1.2.2.1), .imm (.list (.pair .str .str)) (ov4) (o.2.2.2.2.1.2.2.2.2.1)] rfl cal_12 (c_store_Keys nb1 nm1 bz.toNat vz.toNat tz.toNat (totA (putA bz.toNat vz.toNat tz.toNat A2 (nameF o.2.1) (ofE o) o.2.2.2.2.2)) r7 (keysA (putA bz.toNat vz.toNat tz.toNat A2 (nameF o.2.1) (ofE o) o.2.2.2.2.2)) (by rw [len_keys]; omega)) ⟨rfl, trivial⟩ rfl (fun r8 => ?_)
      refine jo_pure rfl (pr_assign rfl) (jo_nil (jq_then (jc_seq (jc_seq (jc_region (jo_pure rfl (pr_move rfl) (jo_pure rfl (pr_not rfl) (jo_nil (jq_then ?_)))))))))
      refine jc_cond rfl (fun h2b => ?_) (fun h2b => ?_)
      ·have h2 := (fun q => id (bt_not q)) h2b
       have hf : fitsB bz.toNat (ofE o) o.2.2.2.2.2 = false := by simpa using h2b
       refine jc_seq ?_
       by_cases hbig : bz.toNat < sizeE (ofE o)
       ·skip
        rw [put_no hf]
        refine jc_region (jo_pure rfl (pr_load_box (.agg #[r3, r4, r5, str ((ofE o).2.2.2.1), r6, str ((ofE o).2.2.2.2.2.1), .int .i64 ((ofE o).2.2.2.2.2.2.1), .int .i64 ((ofE o).2.2.2.2.2.2.2)]) rfl ty_40 (.tail _ (.tail _ (.tail _ (.tail _ (.tail _ (.tail _ (.tail _ (.tail _ (.tail _ (.head _)))))))))) rfl (by decide) rfl) ?_)
        have con2 := c_ref26_Size (ofE o) r3 r4 r5 r6 (by first | assumption | exact hka.1 | exact hoe.1 | exact (fun x hx => by rw [List.mem_singleton.1 hx]; exact ho) | (have := hxx.len; omega) | exact (fun a ha => ⟨hxx.names a ha, hxx.strs a ha, Nat.le_trans (hxx.vals a ha) (by decide)⟩) | (simp; done) | exact hE.1 | exact hE.2.1 | exact hE.2.2.1 | exact hE.2.2.2.1 | exact hE.2.2.2.2 | exact (fun x hx => Nat.le_trans (hfo.axes.vals x hx) (by decide)) | omega | (rw [len_keys]; omega))
        refine jo_callp cal_23 con2 (by exact ⟨rfl, trivial⟩) rfl (by exact ⟨⟨rfl, .tail _ (.tail _ (.tail _ (.tail _ (.tail _ (.tail _ (.tail _ (.tail _ (.head _))))))))⟩, ⟨⟨rfl, .tail _ (.tail _ (.tail _ (.tail _ (.tail _ (.tail _ (.tail _ (.head _)))))))⟩, ⟨⟨rfl, .tail _ (.tail _ (.tail _ (.tail _ (.tail _ (.tail _ (.head _))))))⟩, ⟨⟨rfl, .tail _ (.tail _ (.tail _ (.tail _ (.tail _ (.head _)))))⟩, trivial⟩⟩⟩⟩) (fun _ => ?_)
        clear con2
        refine jo_pure rfl (pr_move rfl) (jo_pure rfl (pr_gtrN (m := sizeE (ofE o)) (n := bz.toNat) rfl rfl) ?_)
        refine jo_pure rfl (pr_move rfl) (jo_skipu (j := 4) (want := false) rfl rfl (decide_eq_true hbig) rfl ?_)
        refine jo_skipu (j := 4) (want := false) rfl rfl (decide_eq_true hbig) rfl ?_
        refine jo_skipu (j := 4) (want := false) rfl rfl (decide_eq_true hbig) rfl ?_
        refine jo_skipu (j := 4) (want := false) rfl rfl (decide_eq_true hbig) rfl ?_
        refine jo_skipu (j := 4) (want := false) rfl rfl (decide_eq_true hbig) rfl ?_
        refine jo_skipn (j := 9) rfl rfl rfl ?_
        refine jo_skipn (j := 9) rfl rfl rfl ?_
        refine jo_skipn (j := 9) rfl rfl rfl ?_
        refine jo_skipn (j := 9) rfl rfl rfl ?_
        refine jo_skipu (j := 4) (want := false) rfl rfl (decide_eq_true hbig) rfl ?_
        refine jo_pure rfl (pr_pick_t rfl (decide_eq_true hbig) rfl) ?_
        refine jo_pure rfl (pr_move rfl) (jo_run (j := 16) (want := true) rfl rfl (rfl) ?_)
        refine jo_pure rfl (pr_move rfl) (jo_run (j := 16) (want := true) rfl rfl (rfl) ?_)
        refine jo_pure rfl (pr_move rfl) (jo_run (j := 16) (want := true) rfl rfl (rfl) ?_)
        refine j_pull10 ?_
        refine j_pub_row (j_pull1 (j_pub_row ?_))
        refine jo_callp cal_25 (c_keep_SameStrings (keysA A2) r2 (keysA A2) r8 (by first | assumption | exact hka.1 | exact hoe.1 | exact (fun x hx => by rw [List.mem_singleton.1 hx]; exact ho) | (have := hxx.len; omega) | exact (fun a ha => ⟨hxx.names a ha, hxx.strs a ha, Nat.le_trans (hxx.vals a ha) (by decide)⟩) | (simp; done) | exact hE.1 | exact hE.2.1 | exact hE.2.2.1 | exact hE.2.2.2.1 | exact hE.2.2.2.2 | exact (fun x hx => Nat.le_trans (hfo.axes.vals x hx) (by decide)) | omega | (rw [len_keys]; omega))) ⟨rfl, rfl, trivial⟩ rfl (⟨⟨rfl, .tail _ (.head _)⟩, ⟨⟨rfl, .head _⟩, trivial⟩⟩) (fun _ => ?_)
        refine jo_pure rfl (pr_pick_t rfl (rfl) rfl) ?_
        refine jo_pure rfl (pr_move rfl) ?_
        have ht1 : (decide ((keysA A2) = (keysA A2))) = true := by first | exact hpf.1 | exact decide_eq_true hpf.2.1 | exact decide_eq_true hpf.2.2.1 | exact eqE_of hpf.2.2.2.1 | exact decide_eq_true hp1 | exact decide_eq_true hpf.2.2.2.2.2 | (simp; done)
        refine jo_run (j := 21) (want := true) rfl rfl (ht1) ?_
        refine jo_pure rfl (pr_move rfl) (jo_run (j := 21) (want := true) rfl rfl (ht1) ?_)
        refine jo_pure rfl (pr_move rfl) (jo_run (j := 21) (want := true) rfl rfl (ht1) ?_)
        refine jo_callq cal_13 (c_store_Bytes nb1 nm1 bz.toNat vz.toNat tz.toNat (totA A2) r7) ⟨rfl, trivial⟩ rfl (⟨peek_box (.tail _ (.tail _ (.head _))), trivial⟩) (fun _ => ?_)
        refine jo_run (j := 21) (want := true) rfl rfl (ht1) ?_
        refine jo_pure rfl (pr_eqlN (m := totA A2) (n := totA A2) rfl rfl) ?_
        refine jo_pure rfl (pr_pick_t rfl (ht1) rfl) ?_
        refine jo_pure rfl (pr_move rfl) ?_
        have ht2 : (decide ((totA A2 : Nat) = totA A2)) = true := by first | exact hpf.1 | exact decide_eq_true hpf.2.1 | exact decide_eq_true hpf.2.2.1 | exact eqE_of hpf.2.2.2.1 | exact decide_eq_true hp1 | exact decide_eq_true hpf.2.2.2.2.2 | (simp; done)
        refine jo_run (j := 27) (want := true) rfl rfl (ht2) ?_
        refine jo_callp cal_11 (c_law28_awake) trivial rfl (trivial) (fun _ => ?_)
        refine jo_pure rfl (pr_pick_t rfl (ht2) rfl) ?_
        refine jo_pure rfl (pr_assign rfl) (jo_nil (jq_then (jc_ret (jq_then_ret (j_drop (j_drop (j_drop (j_drop (j_drop (j_drop (j_drop (j_drop (j_drop (j_drop (j_drop (j_drop (j_drop (j_drop (j_drop (j_drop (j_drop (j_drop ?_))))))))))))))))))))))
        exact jq_ret1 rfl () rfl (show (.bool (true) : Value) = (.bool (true)) from rfl) (fun _ h => h)
       ·skip
        rw [put_no hf]
        refine jc_region (jo_pure rfl (pr_load_box (.agg #[r3, r4, r5, str ((ofE o).2.2.2.1), r6, str ((ofE o).2.2.2.2.2.1), .int .i64 ((ofE o).2.2.2.2.2.2.1), .int .i64 ((ofE o).2.2.2.2.2.2.2)]) rfl ty_40 (.tail _ (.tail _ (.tail _ (.tail _ (.tail _ (.tail _ (.tail _ (.tail _ (.tail _ (.head _)))))))))) rfl (by decide) rfl) ?_)
        have con3 := c_ref26_Size (ofE o) r3 r4 r5 r6 (by first | assumption | exact hka.1 | exact hoe.1 | exact (fun x hx => by rw [List.mem_singleton.1 hx]; exact ho) | (have := hxx.len; omega) | exact (fun a ha => ⟨hxx.names a ha, hxx.strs a ha, Nat.le_trans (hxx.vals a ha) (by decide)⟩) | (simp; done) | exact hE.1 | exact hE.2.1 | exact hE.2.2.1 | exact hE.2.2.2.1 | exact hE.2.2.2.2 | exact (fun x hx => Nat.le_trans (hfo.axes.vals x hx) (by decide)) | omega | (rw [len_keys]; omega))
        refine jo_callp cal_23 con3 (by exact ⟨rfl, trivial⟩) rfl (by exact ⟨⟨rfl, .tail _ (.tail _ (.tail _ (.tail _ (.tail _ (.tail _ (.tail _ (.tail _ (.head _))))))))⟩, ⟨⟨rfl, .tail _ (.tail _ (.tail _ (.tail _ (.tail _ (.tail _ (.tail _ (.head _)))))))⟩, ⟨⟨rfl, .tail _ (.tail _ (.tail _ (.tail _ (.tail _ (.tail _ (.head _))))))⟩, ⟨⟨rfl, .tail _ (.tail _ (.tail _ (.tail _ (.tail _ (.head _)))))⟩, trivial⟩⟩⟩⟩) (fun _ => ?_)
        clear con3
        refine jo_pure rfl (pr_move rfl) (jo_pure rfl (pr_gtrN (m := sizeE (ofE o)) (n := bz.toNat) rfl rfl) ?_)
        refine jo_pure rfl (pr_move rfl) (jo_run (j := 4) (want := false) rfl rfl (decide_eq_false hbig) ?_)
        refine jo_pure rfl (pr_fieldAddr 12 rfl Tryz.underlying43 rfl ty_41 rfl rfl) ?_
        refine jo_run (j := 4) (want := false) rfl rfl (decide_eq_false hbig) ?_
        refine jo_pure rfl (pr_load_box (ov5) rfl ty_41 (.tail _ (.tail _ (.tail _ (.tail _ (.tail _ (.tail _ (.tail _ (.tail _ (.tail _ (.tail _ (.tail _ (.tail _ (.head _))))))))))))) rfl (by decide) rfl) ?_
        refine jo_run (j := 4) (want := false) rfl rfl (decide_eq_false hbig) ?_
        refine jo_pure rfl (pr_len_imm rfl (.tail _ (.tail _ (.tail _ (.tail _ (.head _))))) Tryz.underlying41) ?_
        refine jo_run (j := 4) (want := false) rfl rfl (decide_eq_false hbig) ?_
        refine jo_pure rfl (pr_gtrN (m := o.2.2.2.2.2.length) (n := 0) rfl rfl) ?_
        refine jo_run (j := 4) (want := false) rfl rfl (decide_eq_false hbig) ?_
        refine jo_pure rfl (pr_move rfl) (jo_run (j := 9) (want := true) rfl rfl (decide_eq_true (fits_why hf hbig).1) ?_)
        refine jo_pure rfl (pr_fieldAddr 12 rfl Tryz.underlying43 rfl ty_41 rfl rfl) ?_
        refine jo_run (j := 9) (want := true) rfl rfl (decide_eq_true (fits_why hf hbig).1) ?_
        refine jo_pure rfl (pr_load_box (ov5) rfl ty_41 (.tail _ (.tail _ (.tail _ (.tail _ (.tail _ (.tail _ (.tail _ (.tail _ (.tail _ (.tail _ (.tail _ (.tail _ (.head _))))))))))))) rfl (by decide) rfl) ?_
        refine jo_run (j := 9) (want := true) rfl rfl (decide_eq_true (fits_why hf hbig).1) ?_
        refine jo_callp cal_24 (c_ref10_Valid o.2.2.2.2.2 ov5 (by first | assumption | exact hka.1 | exact hoe.1 | exact (fun x hx => by rw [List.mem_singleton.1 hx]; exact ho) | (have := hxx.len; omega) | exact (fun a ha => ⟨hxx.names a ha, hxx.strs a ha, Nat.le_trans (hxx.vals a ha) (by decide)⟩) | (simp; done) | exact hE.1 | exact hE.2.1 | exact hE.2.2.1 | exact hE.2.2.2.1 | exact hE.2.2.2.2 | exact (fun x hx => Nat.le_trans (hfo.axes.vals x hx) (by decide)) | omega | (rw [len_keys]; omega)) (by first | assumption | exact hka.1 | exact hoe.1 | exact (fun x hx => by rw [List.mem_singleton.1 hx]; exact ho) | (have := hxx.len; omega) | exact (fun a ha => ⟨hxx.names a ha, hxx.strs a ha, Nat.le_trans (hxx.vals a ha) (by decide)⟩) | (simp; done) | exact hE.1 | exact hE.2.1 | exact hE.2.2.1 | exact hE.2.2.2.1 | exact hE.2.2.2.2 | exact (fun x hx => Nat.le_trans (hfo.axes.vals x hx) (by decide)) | omega | (rw [len_keys]; omega))) ⟨rfl, trivial⟩ rfl (⟨⟨rfl, .tail _ (.tail _ (.tail _ (.tail _ (.head _))))⟩, trivial⟩) (fun _ => ?_)
        refine jo_run (j := 9) (want := true) rfl rfl (decide_eq_true (fits_why hf hbig).1) ?_
        refine jo_pure rfl (pr_not rfl) ?_
        refine jo_run (j := 4) (want := false) rfl rfl (decide_eq_false hbig) ?_
        refine jo_pure rfl (pr_pick_t rfl (decide_eq_true (fits_why hf hbig).1) rfl) ?_
        refine jo_pure rfl (pr_pick_f rfl (decide_eq_false hbig) rfl) ?_
        refine jo_pure rfl (pr_move rfl) (jo_run (j := 16) (want := true) rfl rfl (by rw [(fits_why hf hbig).2]; rfl) ?_)
        refine jo_pure rfl (pr_move rfl) (jo_run (j := 16) (want := true) rfl rfl (by rw [(fits_why hf hbig).2]; rfl) ?_)
        refine jo_pure rfl (pr_move rfl) (jo_run (j := 16) (want := true) rfl rfl (by rw [(fits_why hf hbig).2]; rfl) ?_)
        refine j_pull10 ?_
        refine j_pub_row (j_pull1 (j_pub_row ?_))
        refine jo_callp cal_25 (c_keep_SameStrings (keysA A2) r2 (keysA A2) r8 (by first | assumption | exact hka.1 | exact hoe.1 | exact (fun x hx => by rw [List.mem_singleton.1 hx]; exact ho) | (have := hxx.len; omega) | exact (fun a ha => ⟨hxx.names a ha, hxx.strs a ha, Nat.le_trans (hxx.vals a ha) (by decide)⟩) | (simp; done) | exact hE.1 | exact hE.2.1 | exact hE.2.2.1 | exact hE.2.2.2.1 | exact hE.2.2.2.2 | exact (fun x hx => Nat.le_trans (hfo.axes.vals x hx) (by decide)) | omega | (rw [len_keys]; omega))) ⟨rfl, rfl, trivial⟩ rfl (⟨⟨rfl, .tail _ (.head _)⟩, ⟨⟨rfl, .head _⟩, trivial⟩⟩) (fun _ => ?_)
        refine jo_pure rfl (pr_pick_t rfl (by rw [(fits_why hf hbig).2]; rfl) rfl) ?_
        refine jo_pure rfl (pr_move rfl) ?_
        have ht3 : (decide ((keysA A2) = (keysA A2))) = true := by first | exact hpf.1 | exact decide_eq_true hpf.2.1 | exact decide_eq_true hpf.2.2.1 | exact eqE_of hpf.2.2.2.1 | exact decide_eq_true hp1 | exact decide_eq_true hpf.2.2.2.2.2 | (simp; done)
        refine jo_run (j := 21) (want := true) rfl rfl (ht3) ?_
        refine jo_pure rfl (pr_move rfl) (jo_run (j := 21) (want := true) rfl rfl (ht3) ?_)
        refine jo_pure rfl (pr_move rfl) (jo_run (j := 21) (want := true) rfl rfl (ht3) ?_)
        refine jo_callq cal_13 (c_store_Bytes nb1 nm1 bz.toNat vz.toNat tz.toNat (totA A2) r7) ⟨rfl, trivial⟩ rfl (⟨peek_box (.tail _ (.tail _ (.head _))), trivial⟩) (fun _ => ?_)
        refine jo_run (j := 21) (want := true) rfl rfl (ht3) ?_
        refine jo_pure rfl (pr_eqlN (m := totA A2) (n := totA A2) rfl rfl) ?_
        refine jo_pure rfl (pr_pick_t rfl (ht3) rfl) ?_
        refine jo_pure rfl (pr_move rfl) ?_
        have ht4 : (decide ((totA A2 : Nat) = totA A2)) = true := by first | exact hpf.1 | exact decide_eq_true hpf.2.1 | exact decide_eq_true hpf.2.2.1 | exact eqE_of hpf.2.2.2.1 | exact decide_eq_true hp1 | exact decide_eq_true hpf.2.2.2.2.2 | (simp; done)
        refine jo_run (j := 27) (want := true) rfl rfl (ht4) ?_
        refine jo_callp cal_11 (c_law28_awake) trivial rfl (trivial) (fun _ => ?_)
        refine jo_pure rfl (pr_pick_t rfl (ht4) rfl) ?_
        refine jo_pure rfl (pr_assign rfl) (jo_nil (jq_then (jc_ret (jq_then_ret (j_drop (j_drop (j_drop (j_drop (j_drop (j_drop (j_drop (j_drop (j_drop (j_drop (j_drop (j_drop (j_drop (j_drop (j_drop (j_drop (j_drop (j_drop ?_))))))))))))))))))))))
        exact jq_ret1 rfl () rfl (show (.bool (true) : Value) = (.bool (true)) from rfl) (fun _ h => h)
      ·have h2 := (fun q => id (bf_not q)) h2b
       have hf : fitsB bz.toNat (ofE o) o.2.2.2.2.2 = true := by simpa using h2b
       have hpf := put_found (k := (nameF o.2.1)) hlim hst2 hf
       have hp1 := hpf.2.2.2.2.1
       have hp2 := hpf.2.2.1
       have hok3 := hst3.ok
       have hfo := okT_find hok3 (nameF o.2.1)
       have hfl := hfo.len
       have hxl := hfo.axes.len
       have hE : (((findA (putA bz.toNat vz.toNat tz.toNat A2 (nameF o.2.1) (ofE o) o.2.2.2.2.2) (nameF o.2.1)).2.getD ((findA (putA bz.toNat vz.toNat tz.toNat A2 (nameF o.2.1) (ofE o) o.2.2.2.2.2) (nameF o.2.1)).2.length - 1) ([],[],[],[],[],[],0,0)).1.length ≤ 9223372036854775807 ∧ (∀ k ∈ ((findA (putA bz.toNat vz.toNat tz.toNat A2 (nameF o.2.1) (ofE o) o.2.2.2.2.2) (nameF o.2.1)).2.getD ((findA (putA bz.toNat vz.toNat tz.toNat A2 (nameF o.2.1) (ofE o) o.2.2.2.2.2) (nameF o.2.1)).2.length - 1) ([],[],[],[],[],[],0,0)).1, k.length ≤ 9223372036854775807) ∧ ((findA (putA bz.toNat vz.toNat tz.toNat A2 (nameF o.2.1) (ofE o) o.2.2.2.2.2) (nameF o.2.1)).2.getD ((findA (putA bz.toNat vz.toNat tz.toNat A2 (nameF o.2.1) (ofE o) o.2.2.2.2.2) (nameF o.2.1)).2.length - 1) ([],[],[],[],[],[],0,0)).2.1.length ≤ 9223372036854775807 ∧ ((findA (putA bz.toNat vz.toNat tz.toNat A2 (nameF o.2.1) (ofE o) o.2.2.2.2.2) (nameF o.2.1)).2.getD ((findA (putA bz.toNat vz.toNat tz.toNat A2 (nameF o.2.1) (ofE o) o.2.2.2.2.2) (nameF o.2.1)).2.length - 1) ([],[],[],[],[],[],0,0)).2.2.1.length ≤ 9223372036854775807 ∧ ((findA (putA bz.toNat vz.toNat tz.toNat A2 (nameF o.2.1) (ofE o) o.2.2.2.2.2) (nameF o.2.1)).2.getD ((findA (putA bz.toNat vz.toNat tz.toNat A2 (nameF o.2.1) (ofE o) o.2.2.2.2.2) (nameF o.2.1)).2.length - 1) ([],[],[],[],[],[],0,0)).2.2.2.2.1.length ≤ 9223372036854775807) := by rw [hpf.2.2.2.1]; have h9 := hoe.1.lens; exact ⟨by omega, fun k hk => by have := h9.2.1 k hk; omega, by omega, by omega, by omega⟩
       refine jc_skip (jq_then (jc_seq (jc_region (jo_pure rfl (pr_move rfl) (jo_pure rfl (pr_fieldAddr 1 rfl Tryz.underlying43 rfl ty_3 rfl rfl) ?_)))))
       refine jo_pure rfl (pr_load_box (.int .i64 (o.2.1)) rfl ty_3 (.tail _ (.tail _ (.tail _ (.tail _ (.tail _ (.tail _ (.tail _ (.tail _ (.tail _ (.tail _ (.tail _ (.tail _ (.head _))))))))))))) rfl (by decide) rfl) ?_
       refine jo_callp cal_22 (c_law28_name o.2.1) ⟨rfl, trivial⟩ rfl (trivial) (fun _ => ?_)
       refine j_pull3 (j_pull2 ?_)
       refine jo_callm [.row (r8) 9 .str (keysA (putA bz.toNat vz.toNat tz.toNat A2 (nameF o.2.1) (ofE o) o.2.2.2.2.2)), .row (r7) 9 .str (keysA (putA bz.toNat vz.toNat tz.toNat A2 (nameF o.2.1) (ofE o) o.2.2.2.2.2)), .imm (.list (.pair .str (.list .str))) (ov5) (o.2.2.2.2.2), .imm (.list (.pair .str .str)) (r6) ((ofE o).2.2.2.2.1), .imm (.list .str) (r5) ((ofE o).2.2.1), .imm (.list .str) (r4) ((ofE o).2.1), .imm (.list (.list .str)) (r3) ((ofE o).1), .box b2 40 [r3, r4, r5, str ((ofE o).2.2.2.1), r6, str ((ofE o).2.2.2.2.2.1), .int .i64 ((ofE o).2.2.2.2.2.2.1), .int .i64 ((ofE o).2.2.2.2.2.2.2)], .row (r2) 9 .str (keysA A2), .imm (.list (.pair (.int .i64) (.pair (.int .i64) (.pair (.int .i64) (.pair (.int .i64) (.pair tyE (.list (.pair .str (.list .str))))))))) (.slice (some ⟨g1, 0, none⟩) ([o]).length (([o]).length)) ([o]), .box b1 43 [.int .i64 (o.1), .int .i64 (o.2.1), .int .i64 (o.2.2.1), .int .i64 (o.2.2.2.1), ov, ov2, ov3, str (o.2.2.2.2.1.2.2.2.1), ov4, str (o.2.2.2.2.1.2.2.2.2.2.1), .int .i64 (o.2.2.2.2.1.2.2.2.2.2.2.1), .int .i64 (o.2.2.2.2.1.2.2.2.2.2.2.2), ov5], .imm (.list (.pair (.int .i64) (.pair (.int .i64) (.pair (.int .i64) (.pair (.int .i64) (.pair tyE (.list (.pair .str (.list .str))))))))) (lv) (l), .imm (.list (.list .str)) (ov) (o.2.2.2.2.1.1), .imm (.list .str) (ov2) (o.2.2.2.2.1.2.1), .imm (.list .str) (ov3) (o.2.2.2.2.1.2.2.1), .imm (.list (.pair .str .str)) (ov4) (o.2.2.2.2.1.2.2.2.2.1)] rfl cal_18 (c_store_Get nb1 nm1 bz.toNat vz.toNat tz.toNat (.int .i64 ((totA (putA bz.toNat vz.toNat tz.toNat A2 (nameF o.2.1) (ofE o) o.2.2.2.2.2) : Nat) : Int)) r7 (putA bz.toNat vz.toNat tz.toNat A2 (nameF o.2.1) (ofE o) o.2.2.2.2.2) (nameF o.2.1) (hok3)) ⟨rfl, rfl, trivial⟩ rfl (fun ⟨r9, r10⟩ => ?_)
       refine jo_pure rfl (pr_move rfl) (jo_pure rfl (pr_extract rfl rfl) (jo_pure rfl (pr_extract rfl rfl) ?_))
       refine jo_alloc ty_50 [.slice none 0 0, .slice none 0 0] rfl rfl (fun b3 => ?_)
       refine jo_storeV rfl rfl ty_50 [r9, r10] (fun _ _ _ _ => rfl) rfl (fun w I m hs => by simp only [List.all_cons, List.all_nil, Bool.and_true, Bool.and_eq_true]; exact ⟨(SliceV.one (imm_slice (.tail _ (.head _)) hs)), (SliceV.one (row_slice (.tail _ (.tail _ (.head _))) hs))⟩) [r9, r10] rfl rfl ?_
       refine jo_pure rfl (pr_assign rfl) (jo_nil (jq_then (jc_seq (j_pull5 ?_))))
       refine j_pub_row (j_pull3 (j_pub_row ?_))
       refine j_open_elem (t := tyE) (i := ((((findA (putA bz.toNat vz.toNat tz.toNat A2 (nameF o.2.1) (ofE o) o.2.2.2.2.2) (nameF o.2.1)).2).length) - 1)) ([],[],[],[],[],[],0,0) (.head _) (by omega) (fun ⟨e6, ⟨e7, ⟨e8, ⟨_, ⟨e9, ⟨_, ⟨_, _⟩⟩⟩⟩⟩⟩⟩ => ?_)
       refine jc_draws mixed (by kernel_rfl) (jd_pure rfl (pr_move rfl) ?_)
       refine jd_pure rfl (pr_move rfl) ?_
       have ht5 : (inA (putA bz.toNat vz.toNat tz.toNat A2 (nameF o.2.1) (ofE o) o.2.2.2.2.2) (nameF o.2.1)) = true := by first | exact hpf.1 | exact decide_eq_true hpf.2.1 | exact decide_eq_true hpf.2.2.1 | exact eqE_of hpf.2.2.2.1 | exact decide_eq_true hp1 | exact decide_eq_true hpf.2.2.2.2.2 | (simp; done)
       refine jd_run (j := 1) (want := true) rfl rfl (ht5) ?_
       refine jd_pure rfl (pr_move rfl) ?_
       refine jd_run (j := 1) (want := true) rfl rfl (ht5) ?_
       refine jd_pure rfl (pr_len_imm rfl (.tail _ (.tail _ (.tail _ (.tail _ (.tail _ (.tail _ (.head _))))))) Tryz.underlying28) ?_
       refine jd_run (j := 1) (want := true) rfl rfl (ht5) ?_
       refine jd_pure rfl (pr_gtrN (m := (keysA (putA bz.toNat vz.toNat tz.toNat A2 (nameF o.2.1) (ofE o) o.2.2.2.2.2)).length) (n := 0) rfl rfl) ?_
       refine jd_pure rfl (pr_pick_t rfl (ht5) rfl) ?_
       refine jd_pure rfl (pr_move rfl) ?_
       have ht6 : (decide ((0 : Nat) < (keysA (putA bz.toNat vz.toNat tz.toNat A2 (nameF o.2.1) (ofE o) o.2.2.2.2.2)).length)) = true := by first | exact hpf.1 | exact decide_eq_true hpf.2.1 | exact decide_eq_true hpf.2.2.1 | exact eqE_of hpf.2.2.2.1 | exact decide_eq_true hp1 | exact decide_eq_true hpf.2.2.2.2.2 | (simp; done)
       refine jd_run (j := 6) (want := true) rfl rfl (ht6) ?_
       refine jd_pure rfl (pr_move rfl) ?_
       refine jd_run (j := 6) (want := true) rfl rfl (ht6) ?_
       refine jd_pure rfl (pr_move rfl) ?_
       refine jd_run (j := 6) (want := true) rfl rfl (ht6) ?_
       refine jd_pure rfl (pr_len_imm rfl (.tail _ (.tail _ (.tail _ (.tail _ (.tail _ (.tail _ (.head _))))))) Tryz.underlying28) ?_
       refine jd_run (j := 6) (want := true) rfl rfl (ht6) ?_
       refine jd_pure rfl (pr_subN (m := (keysA (putA bz.toNat vz.toNat tz.toNat A2 (nameF o.2.1) (ofE o) o.2.2.2.2.2)).length) (n := 1) rfl rfl (by omega) (by omega)) ?_
       refine jd_run (j := 6) (want := true) rfl rfl (ht6) ?_
       refine jd_pure rfl (pr_idx_imm (i := ((keysA (putA bz.toNat vz.toNat tz.toNat A2 (nameF o.2.1) (ofE o) o.2.2.2.2.2)).length) - 1) rfl (.tail _ (.tail _ (.tail _ (.tail _ (.tail _ (.tail _ (.head _))))))) rfl Tryz.underlying28 ty_9 (by omega)) ?_
       refine jd_run (j := 6) (want := true) rfl rfl (ht6) ?_
       refine jd_pure rfl (pr_load_elem_imm (i := ((keysA (putA bz.toNat vz.toNat tz.toNat A2 (nameF o.2.1) (ofE o) o.2.2.2.2.2)).length) - 1) (str ((keysA (putA bz.toNat vz.toNat tz.toNat A2 (nameF o.2.1) (ofE o) o.2.2.2.2.2)).getD (((keysA (putA bz.toNat vz.toNat tz.toNat A2 (nameF o.2.1) (ofE o) o.2.2.2.2.2)).length) - 1) [])) rfl (.tail _ (.tail _ (.tail _ (.tail _ (.tail _ (.tail _ (.head _))))))) ty_9 rfl rfl (by omega) rfl) ?_
       refine jd_run (j := 6) (want := true) rfl rfl (ht6) ?_
       refine jd_pure rfl (pr_fieldAddr 1 rfl Tryz.underlying43 rfl ty_3 rfl rfl) ?_
       refine jd_run (j := 6) (want := true) rfl rfl (ht6) ?_
       refine jd_pure rfl (pr_load_box (.int .i64 (o.2.1)) rfl ty_3 (.tail _ (.tail _ (.tail _ (.tail _ (.tail _ (.tail _ (.tail _ (.tail _ (.tail _ (.tail _ (.tail _ (.tail _ (.tail _ (.tail _ (.tail _ (.tail _ (.tail _ (.tail _ (.tail _ (.tail _ (.head _))))))))))))))))))))) rfl (by decide) rfl) ?_
       refine jd_run (j := 6) (want := true) rfl rfl (ht6) ?_
       refine jd_callp cal_22 (c_law28_name o.2.1) ⟨rfl, trivial⟩ rfl (trivial) ?_
       refine jd_run (j := 6) (want := true) rfl rfl (ht6) ?_
       refine jd_pure rfl (pr_seql rfl rfl) ?_
       refine jd_pure rfl (pr_pick_t rfl (ht6) rfl) ?_
       refine jd_pure rfl (pr_move rfl) ?_
       have ht7 : (decide (((keysA (putA bz.toNat vz.toNat tz.toNat A2 (nameF o.2.1) (ofE o) o.2.2.2.2.2)).getD (((keysA (putA bz.toNat vz.toNat tz.toNat A2 (nameF o.2.1) (ofE o) o.2.2.2.2.2)).length) - 1) [] : Str) = nameF o.2.1)) = true := by first | exact hpf.1 | exact decide_eq_true hpf.2.1 | exact decide_eq_true hpf.2.2.1 | exact eqE_of hpf.2.2.2.1 | exact decide_eq_true hp1 | exact decide_eq_true hpf.2.2.2.2.2 | (simp; done)
       refine jd_run (j := 18) (want := true) rfl rfl (ht7) ?_
       refine jd_pure rfl (pr_fieldAddr 1 rfl Tryz.underlying50 rfl ty_48 rfl rfl) ?_
       refine jd_run (j := 18) (want := true) rfl rfl (ht7) ?_
       refine jd_pure rfl (pr_load_box (r10) rfl ty_48 (.tail _ (.tail _ (.tail _ (.tail _ (.tail _ (.tail _ (.tail _ (.head _)))))))) rfl (by decide) rfl) ?_
       refine jd_run (j := 18) (want := true) rfl rfl (ht7) ?_
       refine jd_pure rfl (pr_len_imm rfl (.tail _ (.tail _ (.tail _ (.tail _ (.tail _ (.head _)))))) Tryz.underlying48) ?_
       refine jd_run (j := 18) (want := true) rfl rfl (ht7) ?_
       refine jd_pure rfl (pr_gtrN (m := ((findA (putA bz.toNat vz.toNat tz.toNat A2 (nameF o.2.1) (ofE o) o.2.2.2.2.2) (nameF o.2.1)).2).length) (n := 0) rfl rfl) ?_
       refine jd_pure rfl (pr_pick_t rfl (ht7) rfl) ?_
       refine jd_pure rfl (pr_move rfl) ?_
       have ht8 : (decide ((0 : Nat) < ((findA (putA bz.toNat vz.toNat tz.toNat A2 (nameF o.2.1) (ofE o) o.2.2.2.2.2) (nameF o.2.1)).2).length)) = true := by first | exact hpf.1 | exact decide_eq_true hpf.2.1 | exact decide_eq_true hpf.2.2.1 | exact eqE_of hpf.2.2.2.1 | exact decide_eq_true hp1 | exact decide_eq_true hpf.2.2.2.2.2 | (simp; done)
       refine jd_run (j := 24) (want := true) rfl rfl (ht8) ?_
       refine jd_pure rfl (pr_fieldAddr 1 rfl Tryz.underlying50 rfl ty_48 rfl rfl) ?_
       refine jd_run (j := 24) (want := true) rfl rfl (ht8) ?_
       refine jd_pure rfl (pr_load_box (r10) rfl ty_48 (.tail _ (.tail _ (.tail _ (.tail _ (.tail _ (.tail _ (.tail _ (.head _)))))))) rfl (by decide) rfl) ?_
       refine jd_run (j := 24) (want := true) rfl rfl (ht8) ?_
       refine jd_pure rfl (pr_fieldAddr 1 rfl Tryz.underlying50 rfl ty_48 rfl rfl) ?_
       refine jd_run (j := 24) (want := true) rfl rfl (ht8) ?_
       refine jd_pure rfl (pr_load_box (r10) rfl ty_48 (.tail _ (.tail _ (.tail _ (.tail _ (.tail _ (.tail _ (.tail _ (.head _)))))))) rfl (by decide) rfl) ?_
       refine jd_run (j := 24) (want := true) rfl rfl (ht8) ?_
       refine jd_pure rfl (pr_len_imm rfl (.tail _ (.tail _ (.tail _ (.tail _ (.tail _ (.head _)))))) Tryz.underlying48) ?_
       refine jd_run (j := 24) (want := true) rfl rfl (ht8) ?_
       refine jd_pure rfl (pr_subN (m := ((findA (putA bz.toNat vz.toNat tz.toNat A2 (nameF o.2.1) (ofE o) o.2.2.2.2.2) (nameF o.2.1)).2).length) (n := 1) rfl rfl (by omega) (by omega)) ?_
       refine jd_run (j := 24) (want := true) rfl rfl (ht8) ?_
       refine jd_pure rfl (pr_idx_imm (i := (((findA (putA bz.toNat vz.toNat tz.toNat A2 (nameF o.2.1) (ofE o) o.2.2.2.2.2) (nameF o.2.1)).2).length) - 1) rfl (.tail _ (.tail _ (.tail _ (.tail _ (.tail _ (.head _)))))) rfl Tryz.underlying48 ty_40 (by omega)) ?_
       refine jd_run (j := 24) (want := true) rfl rfl (ht8) ?_
       refine jd_pure rfl (pr_load_at (.agg #[e6, e7, e8, str ((((((((findA (putA bz.toNat vz.toNat tz.toNat A2 (nameF o.2.1) (ofE o) o.2.2.2.2.2) (nameF o.2.1)).2).getD ((((findA (putA bz.toNat vz.toNat tz.toNat A2 (nameF o.2.1) (ofE o) o.2.2.2.2.2) (nameF o.2.1)).2).length) - 1) ([],[],[],[],[],[],0,0))).2).2).2).1), e9, str ((((((((((findA (putA bz.toNat vz.toNat tz.toNat A2 (nameF o.2.1) (ofE o) o.2.2.2.2.2) (nameF o.2.1)).2).getD ((((findA (putA bz.toNat vz.toNat tz.toNat A2 (nameF o.2.1) (ofE o) o.2.2.2.2.2) (nameF o.2.1)).2).length) - 1) ([],[],[],[],[],[],0,0))).2).2).2).2).2).1), .int .i64 (((((((((((findA (putA bz.toNat vz.toNat tz.toNat A2 (nameF o.2.1) (ofE o) o.2.2.2.2.2) (nameF o.2.1)).2).getD ((((findA (putA bz.toNat vz.toNat tz.toNat A2 (nameF o.2.1) (ofE o) o.2.2.2.2.2) (nameF o.2.1)).2).length) - 1) ([],[],[],[],[],[],0,0))).2).2).2).2).2).2).1), .int .i64 (((((((((((findA (putA bz.toNat vz.toNat tz.toNat A2 (nameF o.2.1) (ofE o) o.2.2.2.2.2) (nameF o.2.1)).2).getD ((((findA (putA bz.toNat vz.toNat tz.toNat A2 (nameF o.2.1) (ofE o) o.2.2.2.2.2) (nameF o.2.1)).2).length) - 1) ([],[],[],[],[],[],0,0))).2).2).2).2).2).2).2)]) rfl (.tail _ (.tail _ (.tail _ (.tail _ (.head _))))) ty_40 (by decide) rfl) ?_
       refine jd_run (j := 24) (want := true) rfl rfl (ht8) ?_
       refine jd_pure rfl (pr_load_box (.agg #[r3, r4, r5, str ((ofE o).2.2.2.1), r6, str ((ofE o).2.2.2.2.2.1), .int .i64 ((ofE o).2.2.2.2.2.2.1), .int .i64 ((ofE o).2.2.2.2.2.2.2)]) rfl ty_40 (.tail _ (.tail _ (.tail _ (.tail _ (.tail _ (.tail _ (.tail _ (.tail _ (.tail _ (.tail _ (.tail _ (.tail _ (.tail _ (.tail _ (.tail _ (.tail _ (.tail _ (.head _)))))))))))))))))) rfl (by decide) rfl) ?_
       refine jd_run (j := 24) (want := true) rfl rfl (ht8) ?_
       refine jd_callp cal_26 (c_ref26_Equal ((((findA (putA bz.toNat vz.toNat tz.toNat A2 (nameF o.2.1) (ofE o) o.2.2.2.2.2) (nameF o.2.1)).2).getD ((((findA (putA bz.toNat vz.toNat tz.toNat A2 (nameF o.2.1) (ofE o) o.2.2.2.2.2) (nameF o.2.1)).2).length) - 1) ([],[],[],[],[],[],0,0))) e6 e7 e8 e9 (ofE o) r3 r4 r5 r6 (by first | assumption | exact hka.1 | exact hoe.1 | exact (fun x hx => by rw [List.mem_singleton.1 hx]; exact ho) | (have := hxx.len; omega) | exact (fun a ha => ⟨hxx.names a ha, hxx.strs a ha, Nat.le_trans (hxx.vals a ha) (by decide)⟩) | (simp; done) | exact hE.1 | exact hE.2.1 | exact hE.2.2.1 | exact hE.2.2.2.1 | exact hE.2.2.2.2 | exact (fun x hx => Nat.le_trans (hfo.axes.vals x hx) (by decide)) | omega | (rw [len_keys]; omega)) (by first | assumption | exact hka.1 | exact hoe.1 | exact (fun x hx => by rw [List.mem_singleton.1 hx]; exact ho) | (have := hxx.len; omega) | exact (fun a ha => ⟨hxx.names a ha, hxx.strs a ha, Nat.le_trans (hxx.vals a ha) (by decide)⟩) | (simp; done) | exact hE.1 | exact hE.2.1 | exact hE.2.2.1 | exact hE.2.2.2.1 | exact hE.2.2.2.2 | exact (fun x hx => Nat.le_trans (hfo.axes.vals x hx) (by decide)) | omega | (rw [len_keys]; omega)) (by first | assumption | exact hka.1 | exact hoe.1 | exact (fun x hx => by rw [List.mem_singleton.1 hx]; exact ho) | (have := hxx.len; omega) | exact (fun a ha => ⟨hxx.names a ha, hxx.strs a ha, Nat.le_trans (hxx.vals a ha) (by decide)⟩) | (simp; done) | exact hE.1 | exact hE.2.1 | exact hE.2.2.1 | exact hE.2.2.2.1 | exact hE.2.2.2.2 | exact (fun x hx => Nat.le_trans (hfo.axes.vals x hx) (by decide)) | omega | (rw [len_keys]; omega)) (by first | assumption | exact hka.1 | exact hoe.1 | exact (fun x hx => by rw [List.mem_singleton.1 hx]; exact ho) | (have := hxx.len; omega) | exact (fun a ha => ⟨hxx.names a ha, hxx.strs a ha, Nat.le_trans (hxx.vals a ha) (by decide)⟩) | (simp; done) | exact hE.1 | exact hE.2.1 | exact hE.2.2.1 | exact hE.2.2.2.1 | exact hE.2.2.2.2 | exact (fun x hx => Nat.le_trans (hfo.axes.vals x hx) (by decide)) | omega | (rw [len_keys]; omega)) (by first | assumption | exact hka.1 | exact hoe.1 | exact (fun x hx => by rw [List.mem_singleton.1 hx]; exact ho) | (have := hxx.len; omega) | exact (fun a ha => ⟨hxx.names a ha, hxx.strs a ha, Nat.le_trans (hxx.vals a ha) (by decide)⟩) | (simp; done) | exact hE.1 | exact hE.2.1 | exact hE.2.2.1 | exact hE.2.2.2.1 | exact hE.2.2.2.2 | exact (fun x hx => Nat.le_trans (hfo.axes.vals x hx) (by decide)) | omega | (rw [len_keys]; omega))) ⟨rfl, rfl, trivial⟩ rfl (⟨⟨rfl, .head _⟩, ⟨⟨rfl, .tail _ (.head _)⟩, ⟨⟨rfl, .tail _ (.tail _ (.head _))⟩, ⟨⟨rfl, .tail _ (.tail _ (.tail _ (.head _)))⟩, ⟨⟨rfl, .tail _ (.tail _ (.tail _ (.tail _ (.tail _ (.tail _ (.tail _ (.tail _ (.tail _ (.tail _ (.tail _ (.tail _ (.tail _ (.tail _ (.tail _ (.tail _ (.head _))))))))))))))))⟩, ⟨⟨rfl, .tail _ (.tail _ (.tail _ (.tail _ (.tail _ (.tail _ (.tail _ (.tail _ (.tail _ (.tail _ (.tail _ (.tail _ (.tail _ (.tail _ (.tail _ (.head _)))))))))))))))⟩, ⟨⟨rfl, .tail _ (.tail _ (.tail _ (.tail _ (.tail _ (.tail _ (.tail _ (.tail _ (.tail _ (.tail _ (.tail _ (.tail _ (.tail _ (.tail _ (.head _))))))))))))))⟩, ⟨⟨rfl, .tail _ (.tail _ (.tail _ (.tail _ (.tail _ (.tail _ (.tail _ (.tail _ (.tail _ (.tail _ (.tail _ (.tail _ (.tail _ (.head _)))))))))))))⟩, trivial⟩⟩⟩⟩⟩⟩⟩⟩) ?_
       refine jd_pure rfl (pr_pick_t rfl (ht8) rfl) ?_
       refine jd_pure rfl (pr_move rfl) ?_
       have ht9 : (eqE ((((findA (putA bz.toNat vz.toNat tz.toNat A2 (nameF o.2.1) (ofE o) o.2.2.2.2.2) (nameF o.2.1)).2).getD ((((findA (putA bz.toNat vz.toNat tz.toNat A2 (nameF o.2.1) (ofE o) o.2.2.2.2.2) (nameF o.2.1)).2).length) - 1) ([],[],[],[],[],[],0,0))) (ofE o)) = true := by first | exact hpf.1 | exact decide_eq_true hpf.2.1 | exact decide_eq_true hpf.2.2.1 | exact eqE_of hpf.2.2.2.1 | exact decide_eq_true hp1 | exact decide_eq_true hpf.2.2.2.2.2 | (simp; done)
       refine jd_run (j := 36) (want := true) rfl rfl (ht9) ?_
       refine jd_pure rfl (pr_fieldAddr 0 rfl Tryz.underlying50 rfl ty_41 rfl rfl) ?_
       refine jd_run (j := 36) (want := true) rfl rfl (ht9) ?_
       refine jd_pure rfl (pr_load_box (r9) rfl ty_41 (.tail _ (.tail _ (.tail _ (.tail _ (.tail _ (.tail _ (.tail _ (.head _)))))))) rfl (by decide) rfl) ?_
       refine jd_run (j := 36) (want := true) rfl rfl (ht9) ?_
       refine jd_pure rfl (pr_fieldAddr 12 rfl Tryz.underlying43 rfl ty_41 rfl rfl) ?_
       refine jd_run (j := 36) (want := true) rfl rfl (ht9) ?_
       refine jd_pure rfl (pr_load_box (ov5) rfl ty_41 (.tail _ (.tail _ (.tail _ (.tail _ (.tail _ (.tail _ (.tail _ (.tail _ (.tail _ (.tail _ (.tail _ (.tail _ (.tail _ (.tail _ (.tail _ (.tail _ (.tail _ (.tail _ (.tail _ (.tail _ (.head _))))))))))))))))))))) rfl (by decide) rfl) ?_
       refine jd_run (j := 36) (want := true) rfl rfl (ht9) ?_
       refine jd_callp cal_27 (c_ref10_Equal ((findA (putA bz.toNat vz.toNat tz.toNat A2 (nameF o.2.1) (ofE o) o.2.2.2.2.2) (nameF o.2.1)).1) r9 o.2.2.2.2.2 ov5 (by first | assumption | exact hka.1 | exact hoe.1 | exact (fun x hx => by rw [List.mem_singleton.1 hx]; exact ho) | (have := hxx.len; omega) | exact (fun a ha => ⟨hxx.names a ha, hxx.strs a ha, Nat.le_trans (hxx.vals a ha) (by decide)⟩) | (simp; done) | exact hE.1 | exact hE.2.1 | exact hE.2.2.1 | exact hE.2.2.2.1 | exact hE.2.2.2.2 | exact (fun x hx => Nat.le_trans (hfo.axes.vals x hx) (by decide)) | omega | (rw [len_keys]; omega)) (by first | assumption | exact hka.1 | exact hoe.1 | exact (fun x hx => by rw [List.mem_singleton.1 hx]; exact ho) | (have := hxx.len; omega) | exact (fun a ha => ⟨hxx.names a ha, hxx.strs a ha, Nat.le_trans (hxx.vals a ha) (by decide)⟩) | (simp; done) | exact hE.1 | exact hE.2.1 | exact hE.2.2.1 | exact hE.2.2.2.1 | exact hE.2.2.2.2 | exact (fun x hx => Nat.le_trans (hfo.axes.vals x hx) (by decide)) | omega | (rw [len_keys]; omega))) ⟨rfl, rfl, trivial⟩ rfl (⟨⟨rfl, .tail _ (.tail _ (.tail _ (.tail _ (.tail _ (.tail _ (.tail _ (.tail _ (.head _))))))))⟩, ⟨⟨rfl, .tail _ (.tail _ (.tail _ (.tail _ (.tail _ (.tail _ (.tail _ (.tail _ (.tail _ (.tail _ (.tail _ (.tail _ (.head _))))))))))))⟩, trivial⟩⟩) ?_
       refine jd_pure rfl (pr_pick_t rfl (ht9) rfl) ?_
       refine jd_pure rfl (pr_move rfl) ?_
       have ht10 : (decide (((findA (putA bz.toNat vz.toNat tz.toNat A2 (nameF o.2.1) (ofE o) o.2.2.2.2.2) (nameF o.2.1)).1) = o.2.2.2.2.2)) = true := by first | exact hpf.1 | exact decide_eq_true hpf.2.1 | exact decide_eq_true hpf.2.2.1 | exact eqE_of hpf.2.2.2.1 | exact decide_eq_true hp1 | exact decide_eq_true hpf.2.2.2.2.2 | (simp; done)
       refine jd_run (j := 43) (want := true) rfl rfl (ht10) ?_
       refine jd_callp cal_11 (c_law28_awake) trivial rfl (trivial) ?_
       refine jd_pure rfl (pr_pick_t rfl (ht10) rfl) ?_
       refine jd_pure rfl (pr_assign rfl) ?_
       refine jd_nil ?_
       refine jq_then (jc_ret (j_drop (j_drop (j_drop (j_drop (j_drop (j_drop (j_drop (j_drop (j_drop (j_drop (j_drop (j_drop (j_drop (j_drop (j_drop (j_drop (j_drop (j_drop (j_drop (j_drop (j_drop (j_drop ?_)))))))))))))))))))))))
       refine j_drop (j_drop (j_drop (j_drop ?_)))
       exact jq_ret1 rfl () rfl (show (.bool (true) : Value) = (.bool (true)) from rfl) (fun _ h => h)
   ·skip
    refine jc_region (jo_pure rfl (pr_move rfl) ?_)
    refine jo_callp cal_14 (c_law28_small l lv (by first | assumption | exact hka.1 | exact hoe.1 | exact (fun x hx => by rw [List.mem_singleton.1 hx]; exact ho) | (have := hxx.len; omega) | exact (fun a ha => ⟨hxx.names a ha, hxx.strs a ha, Nat.le_trans (hxx.vals a ha) (by decide)⟩) | (simp; done) | exact hE.1 | exact hE.2.1 | exact hE.2.2.1 | exact hE.2.2.2.1 | exact hE.2.2.2.2 | exact (fun x hx => Nat.le_trans (hfo.axes.vals x hx) (by decide)) | omega | (rw [len_keys]; omega)) (by first | assumption | exact hka.1 | exact hoe.1 | exact (fun x hx => by rw [List.mem_singleton.1 hx]; exact ho) | (have := hxx.len; omega) | exact (fun a ha => ⟨hxx.names a ha, hxx.strs a ha, Nat.le_trans (hxx.vals a ha) (by decide)⟩) | (simp; done) | exact hE.1 | exact hE.2.1 | exact hE.2.2.1 | exact hE.2.2.2.1 | exact hE.2.2.2.2 | exact (fun x hx => Nat.le_trans (hfo.axes.vals x hx) (by decide)) | omega | (rw [len_keys]; omega))) ⟨rfl, trivial⟩ rfl (⟨⟨rfl, .tail _ (.head _)⟩, trivial⟩) (fun _ => ?_)
    refine jo_pure rfl (pr_not rfl) ?_
    refine jo_pure rfl (pr_move rfl) (jo_run (j := 3) (want := false) rfl rfl (by rw [hz]; rfl) ?_)
    refine jo_pure rfl (pr_load_box (.agg #[.int .i64 (o.1), .int .i64 (o.2.1), .int .i64 (o.2.2.1), .int .i64 (o.2.2.2.1), ov, ov2, ov3, str (o.2.2.2.2.1.2.2.2.1), ov4, str (o.2.2.2.2.1.2.2.2.2.2.1), .int .i64 (o.2.2.2.2.1.2.2.2.2.2.2.1), .int .i64 (o.2.2.2.2.1.2.2.2.2.2.2.2), ov5]) rfl ty_43 (.head _) rfl (by decide) rfl) ?_
    refine jo_run (j := 3) (want := false) rfl rfl (by rw [hz]; rfl) ?_
    refine jo_buildSliceL (t := (.pair (.int .i64) (.pair (.int .i64) (.pair (.int .i64) (.pair (.int .i64) (.pair tyE (.list (.pair .str (.list .str))))))))) [o] [.agg #[.int .i64 (o.1), .int .i64 (o.2.1), .int .i64 (o.2.2.1), .int .i64 (o.2.2.2.1), ov, ov2, ov3, str (o.2.2.2.2.1.2.2.2.1), ov4, str (o.2.2.2.2.1.2.2.2.2.2.1), .int .i64 (o.2.2.2.2.1.2.2.2.2.2.2.1), .int .i64 (o.2.2.2.2.1.2.2.2.2.2.2.2), ov5]] [[.int .i64 (o.1), .int .i64 (o.2.1), .int .i64 (o.2.2.1), .int .i64 (o.2.2.2.1), ov, ov2, ov3, str (o.2.2.2.2.1.2.2.2.1), ov4, str (o.2.2.2.2.1.2.2.2.2.2.1), .int .i64 (o.2.2.2.2.1.2.2.2.2.2.2.1), .int .i64 (o.2.2.2.2.1.2.2.2.2.2.2.2), ov5]] (fun a hf => by simp only [List.zipIdx_cons, List.zipIdx_nil, List.map_toArray, List.map_cons, List.map_nil, hf.ev (show ev _ (.tmp 25) = some (.agg #[.int .i64 (o.1), .int .i64 (o.2.1), .int .i64 (o.2.2.1), .int .i64 (o.2.2.2.1), ov, ov2, ov3, str (o.2.2.2.2.1.2.2.2.1), ov4, str (o.2.2.2.2.1.2.2.2.2.2.1), .int .i64 (o.2.2.2.2.1.2.2.2.2.2.2.1), .int .i64 (o.2.2.2.2.1.2.2.2.2.2.2.2), ov5]) from rfl)] <;> rfl) rfl ⟨⟨[.int .i64 (o.1)], [.int .i64 (o.2.1), .int .i64 (o.2.2.1), .int .i64 (o.2.2.2.1), ov, ov2, ov3, str (o.2.2.2.2.1.2.2.2.1), ov4, str (o.2.2.2.2.1.2.2.2.2.2.1), .int .i64 (o.2.2.2.2.1.2.2.2.2.2.2.1), .int .i64 (o.2.2.2.2.1.2.2.2.2.2.2.2), ov5], rfl, rfl, ⟨[.int .i64 (o.2.1)], [.int .i64 (o.2.2.1), .int .i64 (o.2.2.2.1), ov, ov2, ov3, str (o.2.2.2.2.1.2.2.2.1), ov4, str (o.2.2.2.2.1.2.2.2.2.2.1), .int .i64 (o.2.2.2.2.1.2.2.2.2.2.2.1), .int .i64 (o.2.2.2.2.1.2.2.2.2.2.2.2), ov5], rfl, rfl, ⟨[.int .i64 (o.2.2.1)], [.int .i64 (o.2.2.2.1), ov, ov2, ov3, str (o.2.2.2.2.1.2.2.2.1), ov4, str (o.2.2.2.2.1.2.2.2.2.2.1), .int .i64 (o.2.2.2.2.1.2.2.2.2.2.2.1), .int .i64 (o.2.2.2.2.1.2.2.2.2.2.2.2), ov5], rfl, rfl, ⟨[.int .i64 (o.2.2.2.1)], [ov, ov2, ov3, str (o.2.2.2.2.1.2.2.2.1), ov4, str (o.2.2.2.2.1.2.2.2.2.2.1), .int .i64 (o.2.2.2.2.1.2.2.2.2.2.2.1), .int .i64 (o.2.2.2.2.1.2.2.2.2.2.2.2), ov5], rfl, rfl, ⟨[ov, ov2, ov3, str (o.2.2.2.2.1.2.2.2.1), ov4, str (o.2.2.2.2.1.2.2.2.2.2.1), .int .i64 (o.2.2.2.2.1.2.2.2.2.2.2.1), .int .i64 (o.2.2.2.2.1.2.2.2.2.2.2.2)], [ov5], rfl, ⟨[ov], [ov2, ov3, str (o.2.2.2.2.1.2.2.2.1), ov4, str (o.2.2.2.2.1.2.2.2.2.2.1), .int .i64 (o.2.2.2.2.1.2.2.2.2.2.2.1), .int .i64 (o.2.2.2.2.1.2.2.2.2.2.2.2)], rfl, ⟨ov, rfl, .tail _ (.tail _ (.head _))⟩, ⟨[ov2], [ov3, str (o.2.2.2.2.1.2.2.2.1), ov4, str (o.2.2.2.2.1.2.2.2.2.2.1), .int .i64 (o.2.2.2.2.1.2.2.2.2.2.2.1), .int .i64 (o.2.2.2.2.1.2.2.2.2.2.2.2)], rfl, ⟨ov2, rfl, .tail _ (.tail _ (.tail _ (.head _)))⟩, ⟨[ov3], [str (o.2.2.2.2.1.2.2.2.1), ov4, str (o.2.2.2.2.1.2.2.2.2.2.1), .int .i64 (o.2.2.2.2.1.2.2.2.2.2.2.1), .int .i64 (o.2.2.2.2.1.2.2.2.2.2.2.2)], rfl, ⟨ov3, rfl, .tail _ (.tail _ (.tail _ (.tail _ (.head _))))⟩, ⟨[str (o.2.2.2.2.1.2.2.2.1)], [ov4, str (o.2.2.2.2.1.2.2.2.2.2.1), .int .i64 (o.2.2.2.2.1.2.2.2.2.2.2.1), .int .i64 (o.2.2.2.2.1.2.2.2.2.2.2.2)], rfl, rfl, ⟨[ov4], [str (o.2.2.2.2.1.2.2.2.2.2.1), .int .i64 (o.2.2.2.2.1.2.2.2.2.2.2.1), .int .i64 (o.2.2.2.2.1.2.2.2.2.2.2.2)], rfl, ⟨ov4, rfl, .tail _ (.tail _ (.tail _ (.tail _ (.tail _ (.head _)))))⟩, ⟨[str (o.2.2.2.2.1.2.2.2.2.2.1)], [.int .i64 (o.2.2.2.2.1.2.2.2.2.2.2.1), .int .i64 (o.2.2.2.2.1.2.2.2.2.2.2.2)], rfl, rfl, ⟨[.int .i64 (o.2.2.2.2.1.2.2.2.2.2.2.1)], [.int .i64 (o.2.2.2.2.1.2.2.2.2.2.2.2)], rfl, rfl, rfl⟩⟩⟩⟩⟩⟩⟩, ⟨ov5, rfl, .tail _ (.tail _ (.tail _ (.tail _ (.tail _ (.tail _ (.head _))))))⟩⟩⟩⟩⟩⟩, trivial⟩ Tryz.underlying31 ty_43 rfl rfl rfl rfl (fun g2 => ?_)
    refine jo_run (j := 3) (want := false) rfl rfl (by rw [hz]; rfl) ?_
    refine j_pub_rowg ?_
    refine jo_callp cal_14 (c_law28_small [o] (.slice (some ⟨g2, 0, none⟩) ([o]).length (([o]).length)) (by first | assumption | exact hka.1 | exact hoe.1 | exact (fun x hx => by rw [List.mem_singleton.1 hx]; exact ho) | (have := hxx.len; omega) | exact (fun a ha => ⟨hxx.names a ha, hxx.strs a ha, Nat.le_trans (hxx.vals a ha) (by decide)⟩) | (simp; done) | exact hE.1 | exact hE.2.1 | exact hE.2.2.1 | exact hE.2.2.2.1 | exact hE.2.2.2.2 | exact (fun x hx => Nat.le_trans (hfo.axes.vals x hx) (by decide)) | omega | (rw [len_keys]; omega)) (by first | assumption | exact hka.1 | exact hoe.1 | exact (fun x hx => by rw [List.mem_singleton.1 hx]; exact ho) | (have := hxx.len; omega) | exact (fun a ha => ⟨hxx.names a ha, hxx.strs a ha, Nat.le_trans (hxx.vals a ha) (by decide)⟩) | (simp; done) | exact hE.1 | exact hE.2.1 | exact hE.2.2.1 | exact hE.2.2.2.1 | exact hE.2.2.2.2 | exact (fun x hx => Nat.le_trans (hfo.axes.vals x hx) (by decide)) | omega | (rw [len_keys]; omega))) ⟨rfl, trivial⟩ rfl (⟨⟨rfl, .head _⟩, trivial⟩) (fun _ => ?_)
    refine jo_run (j := 3) (want := false) rfl rfl (by rw [hz]; rfl) ?_
    refine jo_pure rfl (pr_not rfl) ?_
    refine jo_pure rfl (pr_pick_f rfl (by rw [hz]; rfl) rfl) ?_
    refine jo_pure rfl (pr_move rfl) (jo_run (j := 9) (want := false) rfl rfl (by rw [hy]; rfl) ?_)
    refine jo_pure rfl (pr_move rfl) (jo_run (j := 9) (want := false) rfl rfl (by rw [hy]; rfl) ?_)
    refine jo_pure rfl (pr_move rfl) (jo_run (j := 9) (want := false) rfl rfl (by rw [hy]; rfl) ?_)
    refine jo_pure rfl (pr_move rfl) (jo_run (j := 9) (want := false) rfl rfl (by rw [hy]; rfl) ?_)
    refine jo_callp cal_10 (c_ref26_Allowed bz vz tz) ⟨rfl, rfl, rfl, trivial⟩ rfl (trivial) (fun _ => ?_)
    refine jo_run (j := 9) (want := false) rfl rfl (by rw [hy]; rfl) ?_
    refine jo_pure rfl (pr_not rfl) ?_
    refine jo_pure rfl (pr_pick_f rfl (by rw [hy]; rfl) rfl) ?_
    refine jo_nil (jq_then (jc_true rfl (by rw [allow_no hal]; rfl) ?_))
    refine jc_seq (jc_region (jo_pure rfl (pr_assign rfl) (jo_nil (jq_then (jc_ret (jq_then_ret (j_drop (j_drop (j_drop (j_drop (j_drop (j_drop (j_drop (j_drop ?_))))))))))))))
    exact jq_ret1 rfl () rfl (show (.bool (true) : Value) = (.bool (true)) from rfl) (fun _ h => h)
  ·skip
   refine jc_region (jo_pure rfl (pr_move rfl) ?_)
   refine jo_callp cal_14 (c_law28_small l lv (by first | assumption | exact hka.1 | exact hoe.1 | exact (fun x hx => by rw [List.mem_singleton.1 hx]; exact ho) | (have := hxx.len; omega) | exact (fun a ha => ⟨hxx.names a ha, hxx.strs a ha, Nat.le_trans (hxx.vals a ha) (by decide)⟩) | (simp; done) | exact hE.1 | exact hE.2.1 | exact hE.2.2.1 | exact hE.2.2.2.1 | exact hE.2.2.2.2 | exact (fun x hx => Nat.le_trans (hfo.axes.vals x hx) (by decide)) | omega | (rw [len_keys]; omega)) (by first | assumption | exact hka.1 | exact hoe.1 | exact (fun x hx => by rw [List.mem_singleton.1 hx]; exact ho) | (have := hxx.len; omega) | exact (fun a ha => ⟨hxx.names a ha, hxx.strs a ha, Nat.le_trans (hxx.vals a ha) (by decide)⟩) | (simp; done) | exact hE.1 | exact hE.2.1 | exact hE.2.2.1 | exact hE.2.2.2.1 | exact hE.2.2.2.2 | exact (fun x hx => Nat.le_trans (hfo.axes.vals x hx) (by decide)) | omega | (rw [len_keys]; omega))) ⟨rfl, trivial⟩ rfl (⟨⟨rfl, .tail _ (.head _)⟩, trivial⟩) (fun _ => ?_)
   refine jo_pure rfl (pr_not rfl) ?_
   refine jo_pure rfl (pr_move rfl) (jo_run (j := 3) (want := false) rfl rfl (by rw [hz]; rfl) ?_)
   refine jo_pure rfl (pr_load_box (.agg #[.int .i64 (o.1), .int .i64 (o.2.1), .int .i64 (o.2.2.1), .int .i64 (o.2.2.2.1), ov, ov2, ov3, str (o.2.2.2.2.1.2.2.2.1), ov4, str (o.2.2.2.2.1.2.2.2.2.2.1), .int .i64 (o.2.2.2.2.1.2.2.2.2.2.2.1), .int .i64 (o.2.2.2.2.1.2.2.2.2.2.2.2), ov5]) rfl ty_43 (.head _) rfl (by decide) rfl) ?_
   refine jo_run (j := 3) (want := false) rfl rfl (by rw [hz]; rfl) ?_
   refine jo_buildSliceL (t := (.pair (.int .i64) (.pair (.int .i64) (.pair (.int .i64) (.pair (.int .i64) (.pair tyE (.list (.pair .str (.list .str))))))))) [o] [.agg #[.int .i64 (o.1), .int .i64 (o.2.1), .int .i64 (o.2.2.1), .int .i64 (o.2.2.2.1), ov, ov2, ov3, str (o.2.2.2.2.1.2.2.2.1), ov4, str (o.2.2.2.2.1.2.2.2.2.2.1), .int .i64 (o.2.2.2.2.1.2.2.2.2.2.2.1), .int .i64 (o.2.2.2.2.1.2.2.2.2.2.2.2), ov5]] [[.int .i64 (o.1), .int .i64 (o.2.1), .int .i64 (o.2.2.1), .int .i64 (o.2.2.2.1), ov, ov2, ov3, str (o.2.2.2.2.1.2.2.2.1), ov4, str (o.2.2.2.2.1.2.2.2.2.2.1), .int .i64 (o.2.2.2.2.1.2.2.2.2.2.2.1), .int .i64 (o.2.2.2.2.1.2.2.2.2.2.2.2), ov5]] (fun a hf => by simp only [List.zipIdx_cons, List.zipIdx_nil, List.map_toArray, List.map_cons, List.map_nil, hf.ev (show ev _ (.tmp 25) = some (.agg #[.int .i64 (o.1), .int .i64 (o.2.1), .int .i64 (o.2.2.1), .int .i64 (o.2.2.2.1), ov, ov2, ov3, str (o.2.2.2.2.1.2.2.2.1), ov4, str (o.2.2.2.2.1.2.2.2.2.2.1), .int .i64 (o.2.2.2.2.1.2.2.2.2.2.2.1), .int .i64 (o.2.2.2.2.1.2.2.2.2.2.2.2), ov5]) from rfl)] <;> rfl) rfl ⟨⟨[.int .i64 (o.1)], [.int .i64 (o.2.1), .int .i64 (o.2.2.1), .int .i64 (o.2.2.2.1), ov, ov2, ov3, str (o.2.2.2.2.1.2.2.2.1), ov4, str (o.2.2.2.2.1.2.2.2.2.2.1), .int .i64 (o.2.2.2.2.1.2.2.2.2.2.2.1), .int .i64 (o.2.2.2.2.1.2.2.2.2.2.2.2), ov5], rfl, rfl, ⟨[.int .i64 (o.2.1)], [.int .i64 (o.2.2.1), .int .i64 (o.2.2.2.1), ov, ov2, ov3, str (o.2.2.2.2.1.2.2.2.1), ov4, str (o.2.2.2.2.1.2.2.2.2.2.1), .int .i64 (o.2.2.2.2.1.2.2.2.2.2.2.1), .int .i64 (o.2.2.2.2.1.2.2.2.2.2.2.2), ov5], rfl, rfl, ⟨[.int .i64 (o.2.2.1)], [.int .i64 (o.2.2.2.1), ov, ov2, ov3, str (o.2.2.2.2.1.2.2.2.1), ov4, str (o.2.2.2.2.1.2.2.2.2.2.1), .int .i64 (o.2.2.2.2.1.2.2.2.2.2.2.1), .int .i64 (o.2.2.2.2.1.2.2.2.2.2.2.2), ov5], rfl, rfl, ⟨[.int .i64 (o.2.2.2.1)], [ov, ov2, ov3, str (o.2.2.2.2.1.2.2.2.1), ov4, str (o.2.2.2.2.1.2.2.2.2.2.1), .int .i64 (o.2.2.2.2.1.2.2.2.2.2.2.1), .int .i64 (o.2.2.2.2.1.2.2.2.2.2.2.2), ov5], rfl, rfl, ⟨[ov, ov2, ov3, str (o.2.2.2.2.1.2.2.2.1), ov4, str (o.2.2.2.2.1.2.2.2.2.2.1), .int .i64 (o.2.2.2.2.1.2.2.2.2.2.2.1), .int .i64 (o.2.2.2.2.1.2.2.2.2.2.2.2)], [ov5], rfl, ⟨[ov], [ov2, ov3, str (o.2.2.2.2.1.2.2.2.1), ov4, str (o.2.2.2.2.1.2.2.2.2.2.1), .int .i64 (o.2.2.2.2.1.2.2.2.2.2.2.1), .int .i64 (o.2.2.2.2.1.2.2.2.2.2.2.2)], rfl, ⟨ov, rfl, .tail _ (.tail _ (.head _))⟩, ⟨[ov2], [ov3, str (o.2.2.2.2.1.2.2.2.1), ov4, str (o.2.2.2.2.1.2.2.2.2.2.1), .int .i64 (o.2.2.2.2.1.2.2.2.2.2.2.1), .int .i64 (o.2.2.2.2.1.2.2.2.2.2.2.2)], rfl, ⟨ov2, rfl, .tail _ (.tail _ (.tail _ (.head _)))⟩, ⟨[ov3], [str (o.2.2.2.2.1.2.2.2.1), ov4, str (o.2.2.2.2.1.2.2.2.2.2.1), .int .i64 (o.2.2.2.2.1.2.2.2.2.2.2.1), .int .i64 (o.2.2.2.2.1.2.2.2.2.2.2.2)], rfl, ⟨ov3, rfl, .tail _ (.tail _ (.tail _ (.tail _ (.head _))))⟩, ⟨[str (o.2.2.2.2.1.2.2.2.1)], [ov4, str (o.2.2.2.2.1.2.2.2.2.2.1), .int .i64 (o.2.2.2.2.1.2.2.2.2.2.2.1), .int .i64 (o.2.2.2.2.1.2.2.2.2.2.2.2)], rfl, rfl, ⟨[ov4], [str (o.2.2.2.2.1.2.2.2.2.2.1), .int .i64 (o.2.2.2.2.1.2.2.2.2.2.2.1), .int .i64 (o.2.2.2.2.1.2.2.2.2.2.2.2)], rfl, ⟨ov4, rfl, .tail _ (.tail _ (.tail _ (.tail _ (.tail _ (.head _)))))⟩, ⟨[str (o.2.2.2.2.1.2.2.2.2.2.1)], [.int .i64 (o.2.2.2.2.1.2.2.2.2.2.2.1), .int .i64 (o.2.2.2.2.1.2.2.2.2.2.2.2)], rfl, rfl, ⟨[.int .i64 (o.2.2.2.2.1.2.2.2.2.2.2.1)], [.int .i64 (o.2.2.2.2.1.2.2.2.2.2.2.2)], rfl, rfl, rfl⟩⟩⟩⟩⟩⟩⟩, ⟨ov5, rfl, .tail _ (.tail _ (.tail _ (.tail _ (.tail _ (.tail _ (.head _))))))⟩⟩⟩⟩⟩⟩, trivial⟩ Tryz.underlying31 ty_43 rfl rfl rfl rfl (fun g3 => ?_)
   refine jo_run (j := 3) (want := false) rfl rfl (by rw [hz]; rfl) ?_
   refine j_pub_rowg ?_
   refine jo_callp cal_14 (c_law28_small [o] (.slice (some ⟨g3, 0, none⟩) ([o]).length (([o]).length)) (by first | assumption | exact hka.1 | exact hoe.1 | exact (fun x hx => by rw [List.mem_singleton.1 hx]; exact ho) | (have := hxx.len; omega) | exact (fun a ha => ⟨hxx.names a ha, hxx.strs a ha, Nat.le_trans (hxx.vals a ha) (by decide)⟩) | (simp; done) | exact hE.1 | exact hE.2.1 | exact hE.2.2.1 | exact hE.2.2.2.1 | exact hE.2.2.2.2 | exact (fun x hx => Nat.le_trans (hfo.axes.vals x hx) (by decide)) | omega | (rw [len_keys]; omega)) (by first | assumption | exact hka.1 | exact hoe.1 | exact (fun x hx => by rw [List.mem_singleton.1 hx]; exact ho) | (have := hxx.len; omega) | exact (fun a ha => ⟨hxx.names a ha, hxx.strs a ha, Nat.le_trans (hxx.vals a ha) (by decide)⟩) | (simp; done) | exact hE.1 | exact hE.2.1 | exact hE.2.2.1 | exact hE.2.2.2.1 | exact hE.2.2.2.2 | exact (fun x hx => Nat.le_trans (hfo.axes.vals x hx) (by decide)) | omega | (rw [len_keys]; omega))) ⟨rfl, trivial⟩ rfl (⟨⟨rfl, .head _⟩, trivial⟩) (fun _ => ?_)
   refine jo_run (j := 3) (want := false) rfl rfl (by rw [hz]; rfl) ?_
   refine jo_pure rfl (pr_not rfl) ?_
   refine jo_pure rfl (pr_pick_f rfl (by rw [hz]; rfl) rfl) ?_
   refine jo_pure rfl (pr_move rfl) (jo_skipu (j := 9) (want := false) rfl rfl (congrArg Bool.not (Bool.eq_false_iff.2 hy)) rfl ?_)
   refine jo_skipu (j := 9) (want := false) rfl rfl (congrArg Bool.not (Bool.eq_false_iff.2 hy)) rfl ?_
   refine jo_skipu (j := 9) (want := false) rfl rfl (congrArg Bool.not (Bool.eq_false_iff.2 hy)) rfl ?_
   refine jo_skipu (j := 9) (want := false) rfl rfl (congrArg Bool.not (Bool.eq_false_iff.2 hy)) rfl ?_
   refine jo_skipu (j := 9) (want := false) rfl rfl (congrArg Bool.not (Bool.eq_false_iff.2 hy)) rfl ?_
   refine jo_pure rfl (pr_pick_t rfl (congrArg Bool.not (Bool.eq_false_iff.2 hy)) rfl) ?_
   refine jo_nil (jq_then (jc_true rfl (rfl) ?_))
   refine jc_seq (jc_region (jo_pure rfl (pr_assign rfl) (jo_nil (jq_then (jc_ret (jq_then_ret (j_drop (j_drop (j_drop (j_drop (j_drop (j_drop (j_drop (j_drop ?_))))))))))))))
   exact jq_ret1 rfl () rfl (show (.bool (true) : Value) = (.bool (true)) from rfl) (fun _ h => h)
 ·skip
  refine jc_region (jo_pure rfl (pr_move rfl) ?_)
  refine jo_callp cal_14 (c_law28_small l lv (by first | assumption | exact hka.1 | exact hoe.1 | exact (fun x hx => by rw [List.mem_singleton.1 hx]; exact ho) | (have := hxx.len; omega) | exact (fun a ha => ⟨hxx.names a ha, hxx.strs a ha, Nat.le_trans (hxx.vals a ha) (by decide)⟩) | (simp; done) | exact hE.1 | exact hE.2.1 | exact hE.2.2.1 | exact hE.2.2.2.1 | exact hE.2.2.2.2 | exact (fun x hx => Nat.le_trans (hfo.axes.vals x hx) (by decide)) | omega | (rw [len_keys]; omega)) (by first | assumption | exact hka.1 | exact hoe.1 | exact (fun x hx => by rw [List.mem_singleton.1 hx]; exact ho) | (have := hxx.len; omega) | exact (fun a ha => ⟨hxx.names a ha, hxx.strs a ha, Nat.le_trans (hxx.vals a ha) (by decide)⟩) | (simp; done) | exact hE.1 | exact hE.2.1 | exact hE.2.2.1 | exact hE.2.2.2.1 | exact hE.2.2.2.2 | exact (fun x hx => Nat.le_trans (hfo.axes.vals x hx) (by decide)) | omega | (rw [len_keys]; omega))) ⟨rfl, trivial⟩ rfl (⟨⟨rfl, .tail _ (.head _)⟩, trivial⟩) (fun _ => ?_)
  refine jo_pure rfl (pr_not rfl) ?_
  refine jo_pure rfl (pr_move rfl) (jo_skipu (j := 3) (want := false) rfl rfl (congrArg Bool.not (Bool.eq_false_iff.2 hz)) rfl ?_)
  refine jo_skipu (j := 3) (want := false) rfl rfl (congrArg Bool.not (Bool.eq_false_iff.2 hz)) rfl ?_
  refine jo_skipu (j := 3) (want := false) rfl rfl (congrArg Bool.not (Bool.eq_false_iff.2 hz)) rfl ?_
  refine jo_skipu (j := 3) (want := false) rfl rfl (congrArg Bool.not (Bool.eq_false_iff.2 hz)) rfl ?_
  refine jo_pure rfl (pr_pick_t rfl (congrArg Bool.not (Bool.eq_false_iff.2 hz)) rfl) ?_
  refine jo_pure rfl (pr_move rfl) (jo_skipu (j := 9) (want := false) rfl rfl (rfl) rfl ?_)
  refine jo_skipu (j := 9) (want := false) rfl rfl (rfl) rfl ?_
  refine jo_skipu (j := 9) (want := false) rfl rfl (rfl) rfl ?_
  refine jo_skipu (j := 9) (want := false) rfl rfl (rfl) rfl ?_
  refine jo_skipu (j := 9) (want := false) rfl rfl (rfl) rfl ?_
  refine jo_pure rfl (pr_pick_t rfl (rfl) rfl) ?_
  refine jo_nil (jq_then (jc_true rfl (rfl) ?_))
  refine jc_seq (jc_region (jo_pure rfl (pr_assign rfl) (jo_nil (jq_then (jc_ret (jq_then_ret (j_drop (j_drop (j_drop (j_drop (j_drop (j_drop (j_drop ?_)))))))))))))
  exact jq_ret1 rfl () rfl (show (.bool (true) : Value) = (.bool (true)) from rfl) (fun _ h => h)
end Go.Proofs.YtlniaacdjllonaaGreat
