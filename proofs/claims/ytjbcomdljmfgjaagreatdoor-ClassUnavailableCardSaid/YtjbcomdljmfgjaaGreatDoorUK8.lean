/-
 Contracts of functions of the program: each returns what a plain function says, for every input within the bounds named. Conditions: the bounds.
-/
import Derived.Test.YtjbcomdljmfgjaaGreatDoorRows
import Derived.Test.YtjbcomdljmfgjaaGreatDoorUK7
namespace Go.Proofs.YtjbcomdljmfgjaaGreatDoor
open Go Go.Sep
set_option linter.unusedSimpArgs false
set_option linter.unusedVariables false

open Go.Plain

theorem cal_19 : Cal Tryz.prog 19 := cal_of Tryz.func19 (by kernel_rfl) rfl
theorem cal_21 : Cal Tryz.prog 21 := cal_of Tryz.func21 (by kernel_rfl) rfl
theorem cal_53 : Cal Tryz.prog 53 := cal_of Tryz.func53 (by kernel_rfl) rfl

theorem c_law18_axes   : Con Tryz.prog 53 #[] [] (fun r1 : Value => r1) (fun r1 => [.imm (.list (.pair .str (.list .str))) r1 ([([97, 99, 99, 101, 112, 116, 45, 108, 97, 110, 103, 117, 97, 103, 101], [[101, 110], [102, 114]]), ([97, 99, 99, 101, 112, 116, 45, 101, 110, 99, 111, 100, 105, 110, 103], [[103, 122, 105, 112], [105, 100, 101, 110, 116, 105, 116, 121]])])]) := by
 refine con_of_J (args := []) (n := 6) Tryz.func53 rfl (Nat.le_of_ble_eq_true rfl) rfl (fun w0 I0 m0 => ?_)
 show J _ [] [] _
 refine jc_seq (jc_region (jo_pure rfl (pr_assign rfl) (jo_nil (jq_then (jc_seq ?_)))))
 refine jc_region ?_
 refine jo_buildSlice (t := .str) [[101, 110], [102, 114]] [str ([101, 110]), str ([102, 114])] (fun a hf => by simp only [List.zipIdx_cons, List.zipIdx_nil, List.map_toArray, List.map_cons, List.map_nil] <;> rfl) rfl Tryz.underlying29 ty_9 rfl rfl rfl rfl rfl (fun g1 => ?_)
 refine jo_pure rfl (pr_build [(0, str ([97, 99, 99, 101, 112, 116, 45, 108, 97, 110, 103, 117, 97, 103, 101])), (1, .slice (some ⟨g1, 0, none⟩) (([[101, 110], [102, 114]]).length) (([[101, 110], [102, 114]]).length))] [str ([97, 99, 99, 101, 112, 116, 45, 108, 97, 110, 103, 117, 97, 103, 101]), .slice (some ⟨g1, 0, none⟩) (([[101, 110], [102, 114]]).length) (([[101, 110], [102, 114]]).length)] (fun a hf => by simp only [List.map_toArray, List.map_cons, List.map_nil, hf.ev (show ev _ (.tmp 1) = some (.slice (some ⟨g1, 0, none⟩) (([[101, 110], [102, 114]]).length) (([[101, 110], [102, 114]]).length)) from rfl)] <;> rfl) (by kernel_rfl)) ?_
 refine jo_buildSlice (t := .str) [[103, 122, 105, 112], [105, 100, 101, 110, 116, 105, 116, 121]] [str ([103, 122, 105, 112]), str ([105, 100, 101, 110, 116, 105, 116, 121])] (fun a hf => by simp only [List.zipIdx_cons, List.zipIdx_nil, List.map_toArray, List.map_cons, List.map_nil] <;> rfl) rfl Tryz.underlying29 ty_9 rfl rfl rfl rfl rfl (fun g2 => ?_)
 refine jo_pure rfl (pr_build [(0, str ([97, 99, 99, 101, 112, 116, 45, 101, 110, 99, 111, 100, 105, 110, 103])), (1, .slice (some ⟨g2, 0, none⟩) (([[103, 122, 105, 112], [105, 100, 101, 110, 116, 105, 116, 121]]).length) (([[103, 122, 105, 112], [105, 100, 101, 110, 116, 105, 116, 121]]).length))] [str ([97, 99, 99, 101, 112, 116, 45, 101, 110, 99, 111, 100, 105, 110, 103]), .slice (some ⟨g2, 0, none⟩) (([[103, 122, 105, 112], [105, 100, 101, 110, 116, 105, 116, 121]]).length) (([[103, 122, 105, 112], [105, 100, 101, 110, 116, 105, 116, 121]]).length)] (fun a hf => by simp only [List.map_toArray, List.map_cons, List.map_nil, hf.ev (show ev _ (.tmp 3) = some (.slice (some ⟨g2, 0, none⟩) (([[103, 122, 105, 112], [105, 100, 101, 110, 116, 105, 116, 121]]).length) (([[103, 122, 105, 112], [105, 100, 101, 110, 116, 105, 116, 121]]).length)) from rfl)] <;> rfl) (by kernel_rfl)) ?_
 refine j_pull1 (j_pub_rowg (j_pull1 (j_pub_rowg ?_)))
 refine jo_buildSliceL (t := (.pair .str (.list .str))) [([97, 99, 99, 101, 112, 116, 45, 108, 97, 110, 103, 117, 97, 103, 101], [[101, 110], [102, 114]]), ([97, 99, 99, 101, 112, 116, 45, 101, 110, 99, 111, 100, 105, 110, 103], [[103, 122, 105, 112], [105, 100, 101, 110, 116, 105, 116, 121]])] [.agg #[str ([97, 99, 99, 101, 112, 116, 45, 108, 97, 110, 103, 117, 97, 103, 101]), .slice (some ⟨g1, 0, none⟩) ([[101, 110], [102, 114]]).length (([[101, 110], [102, 114]]).length)], .agg #[str ([97, 99, 99, 101, 112, 116, 45, 101, 110, 99, 111, 100, 105, 110, 103]), .slice (some ⟨g2, 0, none⟩) ([[103, 122, 105, 112], [105, 100, 101, 110, 116, 105, 116, 121]]).length (([[103, 122, 105, 112], [105, 100, 101, 110, 116, 105, 116, 121]]).length)]] [[str ([97, 99, 99, 101, 112, 116, 45, 108, 97, 110, 103, 117, 97, 103, 101]), .slice (some ⟨g1, 0, none⟩) ([[101, 110], [102, 114]]).length (([[101, 110], [102, 114]]).length)], [str ([97, 99, 99, 101, 112, 116, 45, 101, 110, 99, 111, 100, 105, 110, 103]), .slice (some ⟨g2, 0, none⟩) ([[103, 122, 105, 112], [105, 100, 101, 110, 116, 105, 116, 121]]).length (([[103, 122, 105, 112], [105, 100, 101, 110, 116, 105, 116, 121]]).length)]] (fun a hf => by simp only [List.zipIdx_cons, List.zipIdx_nil, List.map_toArray, List.map_cons, List.map_nil, hf.ev (show ev _ (.tmp 2) = some (.agg #[str ([97, 99, 99, 101, 112, 116, 45, 108, 97, 110, 103, 117, 97, 103, 101]), .slice (some ⟨g1, 0, none⟩) ([[101, 110], [102, 114]]).length (([[101, 110], [102, 114]]).length)]) from rfl), hf.ev (show ev _ (.tmp 4) = some (.agg #[str ([97, 99, 99, 101, 112, 116, 45, 101, 110, 99, 111, 100, 105, 110, 103]), .slice (some ⟨g2, 0, none⟩) ([[103, 122, 105, 112], [105, 100, 101, 110, 116, 105, 116, 121]]).length (([[103, 122, 105, 112], [105, 100, 101, 110, 116, 105, 116, 121]]).length)]) from rfl)] <;> rfl) rfl ⟨⟨[str ([97, 99, 99, 101, 112, 116, 45, 108, 97, 110, 103, 117, 97, 103, 101])], [.slice (some ⟨g1, 0, none⟩) ([[101, 110], [102, 114]]).length (([[101, 110], [102, 114]]).length)], rfl, rfl, ⟨(.slice (some ⟨g1, 0, none⟩) ([[101, 110], [102, 114]]).length (([[101, 110], [102, 114]]).length)), rfl, .tail _ (.head _)⟩⟩, ⟨⟨[str ([97, 99, 99, 101, 112, 116, 45, 101, 110, 99, 111, 100, 105, 110, 103])], [.slice (some ⟨g2, 0, none⟩) ([[103, 122, 105, 112], [105, 100, 101, 110, 116, 105, 116, 121]]).length (([[103, 122, 105, 112], [105, 100, 101, 110, 116, 105, 116, 121]]).length)], rfl, rfl, ⟨(.slice (some ⟨g2, 0, none⟩) ([[103, 122, 105, 112], [105, 100, 101, 110, 116, 105, 116, 121]]).length (([[103, 122, 105, 112], [105, 100, 101, 110, 116, 105, 116, 121]]).length)), rfl, .head _⟩⟩, trivial⟩⟩ Tryz.underlying22 ty_32 rfl rfl rfl rfl (fun g3 => ?_)
 refine jo_pure rfl (pr_assign rfl) (jo_nil (jq_then (jc_ret (j_row_of_rowg ?_))))
 refine j_pub_row (j_pull1 (j_drop (j_pull1 (j_drop ?_))))
 exact jq_ret1 rfl (.slice (some ⟨g3, 0, none⟩) ([([97, 99, 99, 101, 112, 116, 45, 108, 97, 110, 103, 117, 97, 103, 101], [[101, 110], [102, 114]]), ([97, 99, 99, 101, 112, 116, 45, 101, 110, 99, 111, 100, 105, 110, 103], [[103, 122, 105, 112], [105, 100, 101, 110, 116, 105, 116, 121]])]).length (([([97, 99, 99, 101, 112, 116, 45, 108, 97, 110, 103, 117, 97, 103, 101], [[101, 110], [102, 114]]), ([97, 99, 99, 101, 112, 116, 45, 101, 110, 99, 111, 100, 105, 110, 103], [[103, 122, 105, 112], [105, 100, 101, 110, 116, 105, 116, 121]])]).length)) rfl (show (.slice (some ⟨g3, 0, none⟩) ([([97, 99, 99, 101, 112, 116, 45, 108, 97, 110, 103, 117, 97, 103, 101], [[101, 110], [102, 114]]), ([97, 99, 99, 101, 112, 116, 45, 101, 110, 99, 111, 100, 105, 110, 103], [[103, 122, 105, 112], [105, 100, 101, 110, 116, 105, 116, 121]])]).length (([([97, 99, 99, 101, 112, 116, 45, 108, 97, 110, 103, 117, 97, 103, 101], [[101, 110], [102, 114]]), ([97, 99, 99, 101, 112, 116, 45, 101, 110, 99, 111, 100, 105, 110, 103], [[103, 122, 105, 112], [105, 100, 101, 110, 116, 105, 116, 121]])]).length) : Value) = (.slice (some ⟨g3, 0, none⟩) ([([97, 99, 99, 101, 112, 116, 45, 108, 97, 110, 103, 117, 97, 103, 101], [[101, 110], [102, 114]]), ([97, 99, 99, 101, 112, 116, 45, 101, 110, 99, 111, 100, 105, 110, 103], [[103, 122, 105, 112], [105, 100, 101, 110, 116, 105, 116, 121]])]).length (([([97, 99, 99, 101, 112, 116, 45, 108, 97, 110, 103, 117, 97, 103, 101], [[101, 110], [102, 114]]), ([97, 99, 99, 101, 112, 116, 45, 101, 110, 99, 111, 100, 105, 110, 103], [[103, 122, 105, 112], [105, 100, 101, 110, 116, 105, 116, 121]])]).length)) from rfl) (fun _ h => h)

theorem c_law18_awake   : Con Tryz.prog 21 #[] [] (fun _ : Unit => .bool (true)) (fun _ => []) := by
 refine con_of_J (args := []) (n := 4) Tryz.func21 rfl (Nat.le_of_ble_eq_true rfl) rfl (fun w0 I0 m0 => ?_)
 show J _ [] [] _
 refine jc_seq (jc_region (jo_pure rfl (pr_assign rfl) (jo_nil (jq_then (jc_seq ?_)))))
 refine jc_region ?_
 refine jo_callp cal_53 (c_law18_axes) trivial rfl (trivial) (fun r1 => ?_)
 show J _ _ [.imm (.list (.pair .str (.list .str))) (r1) ([([97, 99, 99, 101, 112, 116, 45, 108, 97, 110, 103, 117, 97, 103, 101], [[101, 110], [102, 114]]), ([97, 99, 99, 101, 112, 116, 45, 101, 110, 99, 111, 100, 105, 110, 103], [[103, 122, 105, 112], [105, 100, 101, 110, 116, 105, 116, 121]])])] _
 refine j_nil_imm (.pair .str .str) ?_
 refine jo_callp cal_17 (c_class_Class [([97, 99, 99, 101, 112, 116, 45, 108, 97, 110, 103, 117, 97, 103, 101], [[101, 110], [102, 114]]), ([97, 99, 99, 101, 112, 116, 45, 101, 110, 99, 111, 100, 105, 110, 103], [[103, 122, 105, 112], [105, 100, 101, 110, 116, 105, 116, 121]])] r1 [] (.slice none 0 0) false (by decide +kernel) (by decide +kernel) (by decide +kernel) (by decide +kernel)) ⟨rfl, rfl, rfl, trivial⟩ rfl (⟨⟨rfl, .tail _ (.head _)⟩, ⟨⟨rfl, .head _⟩, trivial⟩⟩) (fun _ => ?_)
 refine jo_pure rfl (pr_seql rfl rfl) ?_
 refine jo_pure rfl (pr_assign rfl) (jo_nil (jq_then (jc_ret (j_drop (j_drop ?_)))))
 exact jq_ret1 rfl () rfl (show (.bool (true) : Value) = (.bool (decide ((classF [([97, 99, 99, 101, 112, 116, 45, 108, 97, 110, 103, 117, 97, 103, 101], [[101, 110], [102, 114]]), ([97, 99, 99, 101, 112, 116, 45, 101, 110, 99, 111, 100, 105, 110, 103], [[103, 122, 105, 112], [105, 100, 101, 110, 116, 105, 116, 121]])] [] false : List UInt8) = [97, 99, 99, 101, 112, 116, 45, 108, 97, 110, 103, 117, 97, 103, 101, 61, 40, 101, 110, 32, 102, 114, 41, 44, 32, 97, 99, 99, 101, 112, 116, 45, 101, 110, 99, 111, 100, 105, 110, 103, 61, 40, 103, 122, 105, 112, 32, 105, 100, 101, 110, 116, 105, 116, 121, 41]))) from congrArg Value.bool (by decide +kernel)) (fun _ h => h)

set_option maxHeartbeats 2000000 in
theorem c_law18_ClassUnavailable (x : List ((List UInt8) × (List (List UInt8)))) (xv : Value) (l : List ((List UInt8) × (List UInt8))) (lv : Value) (azz : Int) (rr : List UInt8) (qzz : Int) (first : Bool) (strict : Bool) (hlx : x.length ≤ 9223372036854775807) (hmx : ∀ a ∈ x, a.2.length ≤ 9223372036854775807) (hl : l.length ≤ 9223372036854775807) : Con Tryz.prog 6 #[xv, lv, .int .i64 (azz), str (rr), .int .i64 (qzz), .bool (first), .bool (strict)] [.imm (.list (.pair .str (.list .str))) (xv) (x), .imm (.list (.pair .str .str)) (lv) (l)] (fun _ : Unit => .bool (true)) (fun _ => []) := by
 refine con_of_J (args := [xv, lv, .int .i64 (azz), str (rr), .int .i64 (qzz), .bool (first), .bool (strict)]) (n := 168) Tryz.func6 rfl (Nat.le_of_ble_eq_true rfl) rfl (fun w0 I0 m0 => ?_)
 show J _ [(0, xv), (1, lv), (2, .int .i64 (azz)), (3, str (rr)), (4, .int .i64 (qzz)), (5, .bool (first)), (6, .bool (strict))] [.imm (.list (.pair .str (.list .str))) (xv) (x), .imm (.list (.pair .str .str)) (lv) (l)] _
 refine jc_seq (jc_region (jo_pure rfl (pr_assign rfl) (jo_nil (jq_then (jc_seq ?_)))))
 refine jc_seq ?_
 by_cases hz : keepA x = true
 ·skip
  have hxl : x.length ≤ 1000 := by have := keepA_len (hz); omega
  have hxv : ∀ a ∈ x, a.1.length ≤ 1000000 ∧ (∀ z ∈ a.2, z.length ≤ 300000) ∧ a.2.length ≤ 9223372036854775807 := fun a ha => by have h9 := keepA_mem (hz) a ha; exact ⟨by omega, fun z hz => Nat.le_trans (h9.2.2 z hz) (by omega), by omega⟩
  have hav : ∀ a ∈ x, a.1.length ≤ 300 ∧ a.2.length ≤ 1000 ∧ ∀ z ∈ a.2, z.length ≤ 300 := fun a ha => by have h9 := keepA_mem hz a ha; exact ⟨by omega, by omega, fun z hz => Nat.le_trans (h9.2.2 z hz) (by omega)⟩
  have hav1 : ∀ a ∈ x, a.1.length ≤ 100 := fun a ha => (keepA_mem hz a ha).1
  by_cases hv : validL x = true
  ·skip
   have hv4 := validL_len hv
   by_cases hkl : keepF l = true
   ·skip
    have hlenl : l.length ≤ 1000000 := by have := keepF_len (hkl); omega
    have hmeml : ∀ z ∈ l, z.1.length ≤ 20000 ∧ z.2.length ≤ 20000 := fun z hz => by have := keepF_mem (hkl) z hz; omega
    have hmem3l : ∀ z ∈ l, z.1.length ≤ 300000 ∧ z.2.length ≤ 300000 := fun z hz => by have := keepF_mem (hkl) z hz; omega
    have hmem6l : ∀ z ∈ l, z.1.length ≤ 1000000 ∧ z.2.length ≤ 1000000 := fun z hz => by have := hmeml z hz; omega
    refine jc_region (jo_pure rfl (pr_move rfl) ?_)
    refine jo_callp cal_15 (c_keep_Axes x xv (by first | omega | exact hl | exact hm | exact hlx | exact hmx | exact hxl | exact hxv | exact hav | exact hlenl | exact hmeml | exact hmem3l | exact hmem6l | exact hone3 | exact hone6 | exact hgl | exact hmem6 | exact hm1l | exact hm1m | exact hm2l | exact hm2m | (have := hplm _ (getD_mem (dd := ([], 0)) h4); omega) | (have := hxv _ (getD_mem (dd := ([], [])) hr1.2.1); have := this.2.1 _ (getD_mem (dd := []) h3); omega) | (simp only [List.length_append, List.length_cons, List.length_nil]; omega) | decide) (by first | omega | exact hl | exact hm | exact hlx | exact hmx | exact hxl | exact hxv | exact hav | exact hlenl | exact hmeml | exact hmem3l | exact hmem6l | exact hone3 | exact hone6 | exact hgl | exact hmem6 | exact hm1l | exact hm1m | exact hm2l | exact hm2m | (have := hplm _ (getD_mem (dd := ([], 0)) h4); omega) | (have := hxv _ (getD_mem (dd := ([], [])) hr1.2.1); have := this.2.1 _ (getD_mem (dd := []) h3); omega) | (simp only [List.length_append, List.length_cons, List.length_nil]; omega) | decide)) ⟨rfl, trivial⟩ rfl (⟨⟨rfl, .head _⟩, trivial⟩) (fun _ => ?_)
    refine jo_pure rfl (pr_not rfl) ?_
    refine jo_pure rfl (pr_move rfl) (jo_run (j := 3) (want := false) rfl rfl (by rw [hz]; rfl) ?_)
    refine jo_pure rfl (pr_move rfl) (jo_run (j := 3) (want := false) rfl rfl (by rw [hz]; rfl) ?_)
    refine jo_callp cal_22 (c_ref10_Valid x xv (by first | omega | exact hl | exact hm | exact hlx | exact hmx | exact hxl | exact hxv | exact hav | exact hlenl | exact hmeml | exact hmem3l | exact hmem6l | exact hone3 | exact hone6 | exact hgl | exact hmem6 | exact hm1l | exact hm1m | exact hm2l | exact hm2m | (have := hplm _ (getD_mem (dd := ([], 0)) h4); omega) | (have := hxv _ (getD_mem (dd := ([], [])) hr1.2.1); have := this.2.1 _ (getD_mem (dd := []) h3); omega) | (simp only [List.length_append, List.length_cons, List.length_nil]; omega) | decide) (by first | omega | exact hl | exact hm | exact hlx | exact hmx | exact hxl | exact hxv | exact hav | exact hlenl | exact hmeml | exact hmem3l | exact hmem6l | exact hone3 | exact hone6 | exact hgl | exact hmem6 | exact hm1l | exact hm1m | exact hm2l | exact hm2m | (have := hplm _ (getD_mem (dd := ([], 0)) h4); omega) | (have := hxv _ (getD_mem (dd := ([], [])) hr1.2.1); have := this.2.1 _ (getD_mem (dd := []) h3); omega) | (simp only [List.length_append, List.length_cons, List.length_nil]; omega) | decide)) ⟨rfl, trivial⟩ rfl (⟨⟨rfl, .head _⟩, trivial⟩) (fun _ => ?_)
    refine jo_run (j := 3) (want := false) rfl rfl (by rw [hz]; rfl) ?_
    refine jo_pure rfl (pr_not rfl) ?_
    refine jo_pure rfl (pr_pick_f rfl (by rw [hz]; rfl) rfl) ?_
    refine jo_pure rfl (pr_move rfl) (jo_run (j := 8) (want := false) rfl rfl (by rw [hv]; rfl) ?_)
    refine jo_pure rfl (pr_move rfl) (jo_run (j := 8) (want := false) rfl rfl (by rw [hv]; rfl) ?_)
    refine jo_callp cal_16 (c_keep_Fields l lv (by first | omega | exact hl | exact hm | exact hlx | exact hmx | exact hxl | exact hxv | exact hav | exact hlenl | exact hmeml | exact hmem3l | exact hmem6l | exact hone3 | exact hone6 | exact hgl | exact hmem6 | exact hm1l | exact hm1m | exact hm2l | exact hm2m | (have := hplm _ (getD_mem (dd := ([], 0)) h4); omega) | (have := hxv _ (getD_mem (dd := ([], [])) hr1.2.1); have := this.2.1 _ (getD_mem (dd := []) h3); omega) | (simp only [List.length_append, List.length_cons, List.length_nil]; omega) | decide)) ⟨rfl, trivial⟩ rfl (⟨⟨rfl, .tail _ (.head _)⟩, trivial⟩) (fun _ => ?_)
    refine jo_run (j := 8) (want := false) rfl rfl (by rw [hv]; rfl) ?_
    refine jo_pure rfl (pr_not rfl) ?_
    refine jo_pure rfl (pr_pick_f rfl (by rw [hv]; rfl) rfl) ?_
    refine jo_pure rfl (pr_move rfl) (jo_run (j := 13) (want := false) rfl rfl (by rw [hkl]; rfl) ?_)
    refine jo_pure rfl (pr_move rfl) (jo_run (j := 13) (want := false) rfl rfl (by rw [hkl]; rfl) ?_)
    refine jo_pure rfl (pr_lss (n := 0) rfl rfl) ?_
    refine jo_pure rfl (pr_pick_f rfl (by rw [hkl]; rfl) rfl) ?_
    refine jo_pure rfl (pr_move rfl) (jo_gpure (j := 17) (want := false) rfl rfl rfl rfl (fun hg => pr_move rfl) ?_)
    refine jo_gpure (j := 17) (want := false) rfl rfl rfl rfl (fun hg => pr_move rfl) ?_
    refine jo_gpure (j := 17) (want := false) rfl rfl rfl rfl (fun hg => pr_len_imm (evg rfl hg) (.head _) Tryz.underlying22) ?_
    refine jo_gpure (j := 17) (want := false) rfl rfl rfl rfl (fun hg => pr_geq (n := ((x.length : Nat) : Int)) (evg rfl hg) (evg rfl hg)) ?_
    refine jo_pure rfl (pr_pick_or rfl rfl rfl) ?_
    refine jo_pure rfl (pr_move rfl) (jo_gpure (j := 23) (want := false) rfl rfl rfl rfl (fun hg => pr_move rfl) ?_)
    refine jo_gpure (j := 23) (want := false) rfl rfl rfl rfl (fun hg => pr_slen (evg rfl hg) Tryz.underlying9) ?_
    refine jo_gpure (j := 23) (want := false) rfl rfl rfl rfl (fun hg => pr_gtrN (m := rr.length) (n := 50) (evg rfl hg) rfl) ?_
    refine jo_pure rfl (pr_pick_or rfl rfl rfl) ?_
    refine jo_pure rfl (pr_move rfl) (jo_gpure (j := 28) (want := false) rfl rfl rfl rfl (fun hg => pr_move rfl) ?_)
    refine jo_gpure (j := 28) (want := false) rfl rfl rfl rfl (fun hg => pr_lss (n := 0) (evg rfl hg) rfl) ?_
    refine jo_pure rfl (pr_pick_or rfl rfl rfl) ?_
    refine jo_pure rfl (pr_move rfl) (jo_gpure (j := 32) (want := false) rfl rfl rfl rfl (fun hg => pr_move rfl) ?_)
    refine jo_gpure (j := 32) (want := false) rfl rfl rfl rfl (fun hg => pr_gtr (n := 1000) (evg rfl hg) rfl) ?_
    refine jo_pure rfl (pr_pick_or rfl rfl rfl) ?_
    refine jo_nil (jq_then ?_)
    refine jc_cond rfl (fun h1b => ?_) (fun h1b => ?_)
    ·have h1 := (fun q => Or.imp (fun q => Or.imp (fun q => Or.imp (fun q => Or.imp of_decide_eq_true of_decide_eq_true (bt_or q)) of_decide_eq_true (bt_or q)) of_decide_eq_true (bt_or q)) of_decide_eq_true (bt_or q)) h1b
     refine jc_seq (jc_region (jo_pure rfl (pr_assign rfl) (jo_nil (jq_then (jc_ret ?_)))))
     refine jq_then_ret (j_drop (j_drop ?_))
     exact jq_ret1 rfl () rfl (show (.bool (true) : Value) = (.bool (true)) from rfl) (fun _ h => h)
    ·have h1 := (fun q => And.imp (fun q => And.imp (fun q => And.imp (fun q => And.imp of_decide_eq_false of_decide_eq_false (bf_or q)) of_decide_eq_false (bf_or q)) of_decide_eq_false (bf_or q)) of_decide_eq_false (bf_or q)) h1b
     have hr1 : 0 ≤ azz ∧ azz.toNat < x.length ∧ rr.length ≤ 50 ∧ 0 ≤ qzz ∧ qzz.toNat ≤ 1000 := by have h9 := h1; omega
     have hfl2 := fmtQ_length ((qzz.toNat : Nat) : Int)
     have hn1 := hav1 _ (getD_mem (dd := ([], [])) hr1.2.1)
     have hvl9 := valid_values hv hr1.2.1
     have hone3 : ∀ z ∈ [((x.getD azz.toNat ([], [])).1, ((rr ++ [59, 113, 61]) ++ fmtQ ((qzz.toNat : Nat) : Int)))], z.1.length ≤ 300000 ∧ z.2.length ≤ 300000 := fun z hz => by obtain rfl := List.mem_singleton.1 hz; exact ⟨by simp only; omega, by simp only [List.length_append, List.length_cons, List.length_nil]; omega⟩
     have hgl : (x.getD azz.toNat ([], [])).1.length ≤ 1000000 := by omega
     have hmem6 : ∀ z ∈ l, z.1.length ≤ 1000000 ∧ z.2.length ≤ 1000000 := fun z hz => by have := hmeml z hz; omega
     have hone6 : ∀ z ∈ [((x.getD azz.toNat ([], [])).1, ((rr ++ [59, 113, 61]) ++ fmtQ ((qzz.toNat : Nat) : Int)))], z.1.length ≤ 20000 ∧ z.2.length ≤ 20000 := fun z hz => by obtain rfl := List.mem_singleton.1 hz; exact ⟨by simp only; omega, by simp only [List.length_append, List.length_cons, List.length_nil]; omega⟩
     have hplm : ∀ z ∈ (prefsF (kindF (x.getD azz.toNat ([], [])).1) [((x.getD azz.toNat ([], [])).1, ((rr ++ [59, 113, 61]) ++ fmtQ ((qzz.toNat : Nat) : Int)))]).1, z.1.length ≤ 1000000 := fun z hz => by have := prefsF_short (kind := (kindF (x.getD azz.toNat ([], [])).1)) (n := 20000) hone6 z hz; omega
     have hpll := prefsF_length (kindF (x.getD azz.toNat ([], [])).1) [((x.getD azz.toNat ([], [])).1, ((rr ++ [59, 113, 61]) ++ fmtQ ((qzz.toNat : Nat) : Int)))]
     have hm1l : (([] ++ l) ++ [((x.getD azz.toNat ([], [])).1, ((rr ++ [59, 113, 61]) ++ fmtQ ((qzz.toNat : Nat) : Int)))]).length ≤ 1000000 := by have := keepF_len hkl; simp only [List.length_append, List.length_cons, List.length_nil]; omega
     have hm2l : ([((x.getD azz.toNat ([], [])).1, ((rr ++ [59, 113, 61]) ++ fmtQ ((qzz.toNat : Nat) : Int)))] ++ l).length ≤ 1000000 := by have := keepF_len hkl; simp only [List.length_append, List.length_cons, List.length_nil]; omega
     have hm2m := lines_mem2 (u := ((x.getD azz.toNat ([], [])).1, ((rr ++ [59, 113, 61]) ++ fmtQ ((qzz.toNat : Nat) : Int)))) (P := fun z : List UInt8 × List UInt8 => z.1.length ≤ 20000 ∧ z.2.length ≤ 20000) hmeml (hone6 _ (by simp))
     have hm1m : ∀ z ∈ ([] ++ l) ++ [((x.getD azz.toNat ([], [])).1, ((rr ++ [59, 113, 61]) ++ fmtQ ((qzz.toNat : Nat) : Int)))], z.1.length ≤ 20000 ∧ z.2.length ≤ 20000 := fun z hz => by rcases List.mem_append.1 hz with hz | hz; exact hmeml z (by simpa using hz); exact hone6 z hz
     rw [show (azz : Int) = ((azz.toNat : Nat) : Int) from (Int.toNat_of_nonneg hr1.1).symm]
     rw [show (qzz : Int) = ((qzz.toNat : Nat) : Int) from (Int.toNat_of_nonneg hr1.2.2.2.1).symm]
     refine jc_skip (jq_then (jc_seq (jc_region (jo_pure rfl (pr_move rfl) (jo_pure rfl (pr_move rfl) ?_)))))
     refine j_open_elem (t := (.pair .str (.list .str))) (i := azz.toNat) ([], []) (.head _) (by omega) (fun ⟨_, e1⟩ => ?_)
     show J _ _ (.imm (.list .str) (e1) (((x.getD azz.toNat ([], []))).2) :: .fact (fun w_ I_ => ElemAt w_ I_ (xv) (azz.toNat) 2 [str (((x.getD azz.toNat ([], []))).1), e1]) :: _) _
     refine jo_pure rfl (pr_idx_imm (i := azz.toNat) rfl (.tail _ (.tail _ (.head _))) rfl Tryz.underlying22 ty_32 (by omega)) ?_
     refine jo_pure rfl (pr_fieldAddr_imm (i := azz.toNat) rfl (.tail _ (.tail _ (.head _))) Tryz.underlying32 rfl ty_9 rfl rfl (by omega)) ?_
     refine jo_pure rfl (pr_load_off_at (o := 0) (str (((x.getD azz.toNat ([], []))).1)) rfl (.tail _ (.head _)) ty_9 (by decide) rfl rfl) ?_
     refine jo_callp cal_26 (c_ref10_Kind (((x.getD azz.toNat ([], []))).1) (by first | omega | exact hl | exact hm | exact hlx | exact hmx | exact hxl | exact hxv | exact hav | exact hlenl | exact hmeml | exact hmem3l | exact hmem6l | exact hone3 | exact hone6 | exact hgl | exact hmem6 | exact hm1l | exact hm1m | exact hm2l | exact hm2m | (have := hplm _ (getD_mem (dd := ([], 0)) h4); omega) | (have := hxv _ (getD_mem (dd := ([], [])) hr1.2.1); have := this.2.1 _ (getD_mem (dd := []) h3); omega) | (simp only [List.length_append, List.length_cons, List.length_nil]; omega) | decide)) ⟨rfl, trivial⟩ rfl (trivial) (fun _ => ?_)
     refine jo_pure rfl (pr_assign rfl) (jo_nil (jq_then (jc_seq (jc_seq ?_))))
     by_cases hd1 : ¬ kindF (x.getD azz.toNat ([], [])).1 = 0
     ·skip
      by_cases hd2 : 0 < (getF l (x.getD azz.toNat ([], [])).1).length
      ·skip
       by_cases hd3 : (allF l (x.getD azz.toNat ([], [])).1).length ≤ 50
       ·skip
        by_cases hd4 : (splitF rr).length = 1
        ·skip
         refine jc_region (jo_pure rfl (pr_move rfl) (jo_pure rfl (pr_eql (n := 0) rfl rfl) ?_))
         refine jo_pure rfl (pr_move rfl) (jo_run (j := 2) (want := false) rfl rfl (decide_eq_false (by omega)) ?_)
         refine jo_pure rfl (pr_move rfl) (jo_run (j := 2) (want := false) rfl rfl (decide_eq_false (by omega)) ?_)
         refine jo_pure rfl (pr_move rfl) (jo_run (j := 2) (want := false) rfl rfl (decide_eq_false (by omega)) ?_)
         refine jo_pure rfl (pr_move rfl) (jo_run (j := 2) (want := false) rfl rfl (decide_eq_false (by omega)) ?_)
         refine jo_pure rfl (pr_idx_imm (i := azz.toNat) rfl (.tail _ (.tail _ (.head _))) rfl Tryz.underlying22 ty_32 (by omega)) ?_
         refine jo_run (j := 2) (want := false) rfl rfl (decide_eq_false (by omega)) ?_
         refine jo_pure rfl (pr_fieldAddr_imm (i := azz.toNat) rfl (.tail _ (.tail _ (.head _))) Tryz.underlying32 rfl ty_9 rfl rfl (by omega)) ?_
         refine jo_run (j := 2) (want := false) rfl rfl (decide_eq_false (by omega)) ?_
         refine jo_pure rfl (pr_load_off_at (o := 0) (str (((x.getD azz.toNat ([], []))).1)) rfl (.tail _ (.head _)) ty_9 (by decide) rfl rfl) ?_
         refine jo_run (j := 2) (want := false) rfl rfl (decide_eq_false (by omega)) ?_
         refine jo_callp cal_28 (c_ref01_Has l lv (((x.getD azz.toNat ([], []))).1) (by first | omega | exact hl | exact hm | exact hlx | exact hmx | exact hxl | exact hxv | exact hav | exact hlenl | exact hmeml | exact hmem3l | exact hmem6l | exact hone3 | exact hone6 | exact hgl | exact hmem6 | exact hm1l | exact hm1m | exact hm2l | exact hm2m | (have := hplm _ (getD_mem (dd := ([], 0)) h4); omega) | (have := hxv _ (getD_mem (dd := ([], [])) hr1.2.1); have := this.2.1 _ (getD_mem (dd := []) h3); omega) | (simp only [List.length_append, List.length_cons, List.length_nil]; omega) | decide) (by first | omega | exact hl | exact hm | exact hlx | exact hmx | exact hxl | exact hxv | exact hav | exact hlenl | exact hmeml | exact hmem3l | exact hmem6l | exact hone3 | exact hone6 | exact hgl | exact hmem6 | exact hm1l | exact hm1m | exact hm2l | exact hm2m | (have := hplm _ (getD_mem (dd := ([], 0)) h4); omega) | (have := hxv _ (getD_mem (dd := ([], [])) hr1.2.1); have := this.2.1 _ (getD_mem (dd := []) h3); omega) | (simp only [List.length_append, List.length_cons, List.length_nil]; omega) | decide) (by first | omega | exact hl | exact hm | exact hlx | exact hmx | exact hxl | exact hxv | exact hav | exact hlenl | exact hmeml | exact hmem3l | exact hmem6l | exact hone3 | exact hone6 | exact hgl | exact hmem6 | exact hm1l | exact hm1m | exact hm2l | exact hm2m | (have := hplm _ (getD_mem (dd := ([], 0)) h4); omega) | (have := hxv _ (getD_mem (dd := ([], [])) hr1.2.1); have := this.2.1 _ (getD_mem (dd := []) h3); omega) | (simp only [List.length_append, List.length_cons, List.length_nil]; omega) | decide)) ⟨rfl, rfl, trivial⟩ rfl (⟨⟨rfl, .tail _ (.tail _ (.tail _ (.head _)))⟩, trivial⟩) (fun _ => ?_)
         refine jo_run (j := 2) (want := false) rfl rfl (decide_eq_false (by omega)) ?_
         refine jo_pure rfl (pr_not rfl) ?_
         refine jo_pure rfl (pr_pick_f rfl (decide_eq_false (by omega)) rfl) ?_
         refine jo_pure rfl (pr_move rfl) (jo_run (j := 12) (want := false) rfl rfl (by rw [decide_eq_true hd2] <;> rfl) ?_)
         refine jo_pure rfl (pr_move rfl) (jo_run (j := 12) (want := false) rfl rfl (by rw [decide_eq_true hd2] <;> rfl) ?_)
         refine jo_pure rfl (pr_move rfl) (jo_run (j := 12) (want := false) rfl rfl (by rw [decide_eq_true hd2] <;> rfl) ?_)
         refine jo_pure rfl (pr_move rfl) (jo_run (j := 12) (want := false) rfl rfl (by rw [decide_eq_true hd2] <;> rfl) ?_)
         refine jo_pure rfl (pr_idx_imm (i := azz.toNat) rfl (.tail _ (.tail _ (.head _))) rfl Tryz.underlying22 ty_32 (by omega)) ?_
         refine jo_run (j := 12) (want := false) rfl rfl (by rw [decide_eq_true hd2] <;> rfl) ?_
         refine jo_pure rfl (pr_fieldAddr_imm (i := azz.toNat) rfl (.tail _ (.tail _ (.head _))) Tryz.underlying32 rfl ty_9 rfl rfl (by omega)) ?_
         refine jo_run (j := 12) (want := false) rfl rfl (by rw [decide_eq_true hd2] <;> rfl) ?_
         refine jo_pure rfl (pr_load_off_at (o := 0) (str (((x.getD azz.toNat ([], []))).1)) rfl (.tail _ (.head _)) ty_9 (by decide) rfl rfl) ?_
         refine jo_run (j := 12) (want := false) rfl rfl (by rw [decide_eq_true hd2] <;> rfl) ?_
         refine jo_callp cal_29 (c_ref01_All l lv (((x.getD azz.toNat ([], []))).1) (by first | omega | exact hl | exact hm | exact hlx | exact hmx | exact hxl | exact hxv | exact hav | exact hlenl | exact hmeml | exact hmem3l | exact hmem6l | exact hone3 | exact hone6 | exact hgl | exact hmem6 | exact hm1l | exact hm1m | exact hm2l | exact hm2m | (have := hplm _ (getD_mem (dd := ([], 0)) h4); omega) | (have := hxv _ (getD_mem (dd := ([], [])) hr1.2.1); have := this.2.1 _ (getD_mem (dd := []) h3); omega) | (simp only [List.length_append, List.length_cons, List.length_nil]; omega) | decide) (by first | omega | exact hl | exact hm | exact hlx | exact hmx | exact hxl | exact hxv | exact hav | exact hlenl | exact hmeml | exact hmem3l | exact hmem6l | exact hone3 | exact hone6 | exact hgl | exact hmem6 | exact hm1l | exact hm1m | exact hm2l | exact hm2m | (have := hplm _ (getD_mem (dd := ([], 0)) h4); omega) | (have := hxv _ (getD_mem (dd := ([], [])) hr1.2.1); have := this.2.1 _ (getD_mem (dd := []) h3); omega) | (simp only [List.length_append, List.length_cons, List.length_nil]; omega) | decide) (by first | omega | exact hl | exact hm | exact hlx | exact hmx | exact hxl | exact hxv | exact hav | exact hlenl | exact hmeml | exact hmem3l | exact hmem6l | exact hone3 | exact hone6 | exact hgl | exact hmem6 | exact hm1l | exact hm1m | exact hm2l | exact hm2m | (have := hplm _ (getD_mem (dd := ([], 0)) h4); omega) | (have := hxv _ (getD_mem (dd := ([], [])) hr1.2.1); have := this.2.1 _ (getD_mem (dd := []) h3); omega) | (simp only [List.length_append, List.length_cons, List.length_nil]; omega) | decide)) ⟨rfl, rfl, trivial⟩ rfl (⟨⟨rfl, .tail _ (.tail _ (.tail _ (.head _)))⟩, trivial⟩) (fun r1 => ?_)
         show J _ _ [.row (r1) 9 .str (allF l (((x.getD azz.toNat ([], []))).1)), .imm (.list .str) (e1) (((x.getD azz.toNat ([], []))).2), .fact (fun w_ I_ => ElemAt w_ I_ (xv) (azz.toNat) 2 [str (((x.getD azz.toNat ([], []))).1), e1]), .imm (.list (.pair .str (.list .str))) (xv) (x), .imm (.list (.pair .str .str)) (lv) (l)] _
         refine jo_run (j := 12) (want := false) rfl rfl (by rw [decide_eq_true hd2] <;> rfl) ?_
         refine jo_pure rfl (pr_len_row rfl (.head _) Tryz.underlying29) ?_
         refine jo_run (j := 12) (want := false) rfl rfl (by rw [decide_eq_true hd2] <;> rfl) ?_
         refine jo_pure rfl (pr_gtrN (m := (allF l (((x.getD azz.toNat ([], []))).1)).length) (n := 50) rfl rfl) ?_
         refine jo_pure rfl (pr_pick_f rfl (by rw [decide_eq_true hd2] <;> rfl) rfl) ?_
         refine jo_pure rfl (pr_move rfl) (jo_run (j := 23) (want := false) rfl rfl (decide_eq_false (by omega)) ?_)
         refine jo_pure rfl (pr_move rfl) (jo_run (j := 23) (want := false) rfl rfl (decide_eq_false (by omega)) ?_)
         refine jo_callp cal_23 (c_ref01_Split rr (by first | omega | exact hl | exact hm | exact hlx | exact hmx | exact hxl | exact hxv | exact hav | exact hlenl | exact hmeml | exact hmem3l | exact hmem6l | exact hone3 | exact hone6 | exact hgl | exact hmem6 | exact hm1l | exact hm1m | exact hm2l | exact hm2m | (have := hplm _ (getD_mem (dd := ([], 0)) h4); omega) | (have := hxv _ (getD_mem (dd := ([], [])) hr1.2.1); have := this.2.1 _ (getD_mem (dd := []) h3); omega) | (simp only [List.length_append, List.length_cons, List.length_nil]; omega) | decide)) ⟨rfl, trivial⟩ rfl (trivial) (fun r2 => ?_)
         show J _ _ [.row (r2) 9 .str (splitF rr), .row (r1) 9 .str (allF l (((x.getD azz.toNat ([], []))).1)), .imm (.list .str) (e1) (((x.getD azz.toNat ([], []))).2), .fact (fun w_ I_ => ElemAt w_ I_ (xv) (azz.toNat) 2 [str (((x.getD azz.toNat ([], []))).1), e1]), .imm (.list (.pair .str (.list .str))) (xv) (x), .imm (.list (.pair .str .str)) (lv) (l)] _
         refine jo_run (j := 23) (want := false) rfl rfl (decide_eq_false (by omega)) ?_
         refine jo_pure rfl (pr_len_row rfl (.head _) Tryz.underlying29) ?_
         refine jo_run (j := 23) (want := false) rfl rfl (decide_eq_false (by omega)) ?_
         refine jo_pure rfl (pr_neqN (m := (splitF rr).length) (n := 1) rfl rfl) ?_
         refine jo_pure rfl (pr_pick_f rfl (decide_eq_false (by omega)) rfl) ?_
         refine jo_pure rfl (pr_move rfl) (jo_run (j := 29) (want := false) rfl rfl (by rw [decide_eq_true hd4] <;> rfl) ?_)
         refine jo_pure rfl (pr_move rfl) (jo_run (j := 29) (want := false) rfl rfl (by rw [decide_eq_true hd4] <;> rfl) ?_)
         refine jo_pure rfl (pr_sadd rfl rfl (by simp only [List.length_append, List.length_cons, List.length_nil]; omega)) ?_
         refine jo_run (j := 29) (want := false) rfl rfl (by rw [decide_eq_true hd4] <;> rfl) ?_
         refine jo_callp cal_23 (c_ref01_Split (rr ++ [44, 120]) (by first | omega | exact hl | exact hm | exact hlx | exact hmx | exact hxl | exact hxv | exact hav | exact hlenl | exact hmeml | exact hmem3l | exact hmem6l | exact hone3 | exact hone6 | exact hgl | exact hmem6 | exact hm1l | exact hm1m | exact hm2l | exact hm2m | (have := hplm _ (getD_mem (dd := ([], 0)) h4); omega) | (have := hxv _ (getD_mem (dd := ([], [])) hr1.2.1); have := this.2.1 _ (getD_mem (dd := []) h3); omega) | (simp only [List.length_append, List.length_cons, List.length_nil]; omega) | decide)) ⟨rfl, trivial⟩ rfl (trivial) (fun r3 => ?_)
         show J _ _ [.row (r3) 9 .str (splitF (rr ++ [44, 120])), .row (r2) 9 .str (splitF rr), .row (r1) 9 .str (allF l (((x.getD azz.toNat ([], []))).1)), .imm (.list .str) (e1) (((x.getD azz.toNat ([], []))).2), .fact (fun w_ I_ => ElemAt w_ I_ (xv) (azz.toNat) 2 [str (((x.getD azz.toNat ([], []))).1), e1]), .imm (.list (.pair .str (.list .str))) (xv) (x), .imm (.list (.pair .str .str)) (lv) (l)] _
         refine jo_run (j := 29) (want := false) rfl rfl (by rw [decide_eq_true hd4] <;> rfl) ?_
         refine jo_pure rfl (pr_len_row rfl (.head _) Tryz.underlying29) ?_
         refine jo_run (j := 29) (want := false) rfl rfl (by rw [decide_eq_true hd4] <;> rfl) ?_
         refine jo_pure rfl (pr_neqN (m := (splitF (rr ++ [44, 120])).length) (n := 2) rfl rfl) ?_
         refine jo_pure rfl (pr_pick_f rfl (by rw [decide_eq_true hd4] <;> rfl) rfl) ?_
         refine jo_nil (jq_then ?_)
         refine jc_cond rfl (fun h2b => ?_) (fun h2b => ?_)
         ·have h2 := (fun q => of_decide_eq_false (bt_not q)) h2b
          refine jc_seq (jc_region (jo_pure rfl (pr_assign rfl) (jo_nil (jq_then (jc_ret ?_)))))
          refine jq_then_ret (j_drop (j_drop (j_drop (j_drop (j_drop ?_)))))
          refine j_drop (j_drop ?_)
          exact jq_ret1 rfl () rfl (show (.bool (true) : Value) = (.bool (true)) from rfl) (fun _ h => h)
         ·have h2 := (fun q => of_decide_eq_true (bf_not q)) h2b
          refine jc_skip (jq_then (jc_seq ?_))
          refine jc_held (fun (b1 : Nat) => [(0, xv), (1, lv), (2, .int .i64 ((azz.toNat : Nat) : Int)), (5, .bool (first)), (6, .bool (strict)), (15, .int .i64 (kindF (((x.getD azz.toNat ([], []))).1))), (16, .pointer (some ⟨b1, 0, none⟩))]) (fun b1 => [.box b1 35 [str (((x.getD azz.toNat ([], []))).1), str ((rr ++ [59, 113, 61]) ++ (fmtQ ((qzz.toNat : Nat) : Int)))], .row (r3) 9 .str (splitF (rr ++ [44, 120])), .row (r2) 9 .str (splitF rr), .row (r1) 9 .str (allF l (((x.getD azz.toNat ([], []))).1)), .imm (.list .str) (e1) (((x.getD azz.toNat ([], []))).2), .fact (fun w_ I_ => ElemAt w_ I_ (xv) (azz.toNat) 2 [str (((x.getD azz.toNat ([], []))).1), e1]), .imm (.list (.pair .str (.list .str))) (xv) (x), .imm (.list (.pair .str .str)) (lv) (l)]) [.row (r3) 9 .str (splitF (rr ++ [44, 120])), .row (r2) 9 .str (splitF rr), .row (r1) 9 .str (allF l (((x.getD azz.toNat ([], []))).1)), .imm (.list .str) (e1) (((x.getD azz.toNat ([], []))).2), .fact (fun w_ I_ => ElemAt w_ I_ (xv) (azz.toNat) 2 [str (((x.getD azz.toNat ([], []))).1), e1]), .imm (.list (.pair .str (.list .str))) (xv) (x), .imm (.list (.pair .str .str)) (lv) (l)] mixed (fun lst hlst => ?_) (fun b1 => ?_)
          ·subst hlst
           refine jh_take (listed' := #[true, false, false, false, false, false, false, false, false, false, false, false, false]) 0 rfl (by kernel_rfl) (by kernel_rfl) (by kernel_rfl) rfl (pr_move rfl) (fun _ h => h) rfl ?_
           refine jh_take (listed' := #[true, true, false, false, false, false, false, false, false, false, false, false, false]) 1 rfl (by kernel_rfl) (by kernel_rfl) (by kernel_rfl) rfl (pr_move rfl) (fun _ h => h) rfl ?_
           refine jh_take (listed' := #[true, true, true, false, false, false, false, false, false, false, false, false, false]) 2 rfl (by kernel_rfl) (by kernel_rfl) (by kernel_rfl) rfl (pr_idx_imm (i := azz.toNat) rfl (.tail _ (.tail _ (.tail _ (.tail _ (.tail _ (.head _)))))) rfl Tryz.underlying22 ty_32 (by omega)) (fun _ h => h) rfl ?_
           refine jh_take (listed' := #[true, true, true, true, false, false, false, false, false, false, false, false, false]) 3 rfl (by kernel_rfl) (by kernel_rfl) (by kernel_rfl) rfl (pr_fieldAddr_imm (i := azz.toNat) rfl (.tail _ (.tail _ (.tail _ (.tail _ (.tail _ (.head _)))))) Tryz.underlying32 rfl ty_9 rfl rfl (by omega)) (fun _ h => h) rfl ?_
           refine jh_take (listed' := #[true, true, true, true, true, false, false, false, false, false, false, false, false]) 4 rfl (by kernel_rfl) (by kernel_rfl) (by kernel_rfl) rfl (pr_load_off_at (o := 0) (str (((x.getD azz.toNat ([], []))).1)) rfl (.tail _ (.tail _ (.tail _ (.tail _ (.head _))))) ty_9 (by decide) rfl rfl) (fun _ h => h) rfl ?_
           refine jh_take (listed' := #[true, true, true, true, true, true, false, false, false, false, false, false, false]) 5 rfl (by kernel_rfl) (by kernel_rfl) (by kernel_rfl) rfl (pr_move rfl) (fun _ h => h) rfl ?_
           refine jh_take (listed' := #[true, true, true, true, true, true, true, false, false, false, false, false, false]) 6 rfl (by kernel_rfl) (by kernel_rfl) (by kernel_rfl) rfl (pr_sadd rfl rfl (by simp only [List.length_append, List.length_cons, List.length_nil]; omega)) (fun _ h => h) rfl ?_
           refine jh_take (listed' := #[true, true, true, true, true, true, true, true, false, false, false, false, false]) 7 rfl (by kernel_rfl) (by kernel_rfl) (by kernel_rfl) rfl (pr_move rfl) (fun _ h => h) rfl ?_
           refine jh_all [8, 11] (by kernel_rfl) (by simp) (fun i hi => ?_)
           simp only [List.mem_cons, List.not_mem_nil, or_false] at hi
           rcases hi with rfl | rfl
           ·refine jh_op rfl ?_
            refine jo_callp cal_30 (c_ref01_FormatQ ((qzz.toNat : Nat) : Int)) ⟨rfl, trivial⟩ rfl (trivial) (fun _ => ?_)
            refine jh_in (listed' := #[true, true, true, true, true, true, true, true, true, false, false, false, false]) (fun _ h => h) rfl ?_
            refine jh_take (listed' := #[true, true, true, true, true, true, true, true, true, true, false, false, false]) 9 rfl (by kernel_rfl) (by kernel_rfl) (by kernel_rfl) rfl (pr_sadd rfl rfl (by simp only [List.length_append, List.length_cons, List.length_nil]; omega)) (fun _ h => h) rfl ?_
            refine jh_take (listed' := #[true, true, true, true, true, true, true, true, true, true, true, false, false]) 10 rfl (by kernel_rfl) (by kernel_rfl) (by kernel_rfl) rfl (pr_build [(0, str (((x.getD azz.toNat ([], []))).1)), (1, str ((rr ++ [59, 113, 61]) ++ (fmtQ ((qzz.toNat : Nat) : Int))))] [str (((x.getD azz.toNat ([], []))).1), str ((rr ++ [59, 113, 61]) ++ (fmtQ ((qzz.toNat : Nat) : Int)))] (fun a hf => by simp only [List.map_toArray, List.map_cons, List.map_nil, hf.ev (show ev _ (.tmp 104) = some (str (((x.getD azz.toNat ([], []))).1)) from rfl), hf.ev (show ev _ (.tmp 109) = some (str ((rr ++ [59, 113, 61]) ++ (fmtQ ((qzz.toNat : Nat) : Int)))) from rfl)]) (by kernel_rfl)) (fun _ h => h) rfl ?_
            refine jh_all [11] (by kernel_rfl) (by simp) (fun i hi => ?_)
            simp only [List.mem_cons, List.not_mem_nil, or_false] at hi
            subst hi
            ·refine jh_op rfl ?_
             refine jo_alloc ty_35 [str ([]), str ([])] rfl rfl (fun b1 => ?_)
             refine jh_in (listed' := #[true, true, true, true, true, true, true, true, true, true, true, true, false]) (fun _ h => Mem.drop1 (h)) rfl ?_
             refine jh_all [12] (by kernel_rfl) (by simp) (fun i hi => ?_)
             simp only [List.mem_cons, List.not_mem_nil, or_false] at hi
             subst hi
             ·refine jh_op rfl ?_
              refine jo_store rfl rfl ty_35 [str (((x.getD azz.toNat ([], []))).1), str ((rr ++ [59, 113, 61]) ++ (fmtQ ((qzz.toNat : Nat) : Int)))] rfl rfl rfl [str (((x.getD azz.toNat ([], []))).1), str ((rr ++ [59, 113, 61]) ++ (fmtQ ((qzz.toNat : Nat) : Int)))] rfl rfl ?_
              refine jh_in (listed' := #[true, true, true, true, true, true, true, true, true, true, true, true, true]) (fun _ h => Mem.drop1 (h)) rfl ?_
              show J _ _ _ _
              refine j_pull7 ?_
              refine j_pull7 ?_
              refine j_pull7 ?_
              refine j_pull7 ?_
              refine j_pull7 ?_
              refine j_pull7 ?_
              refine j_pull7 ?_
              refine j_pull7 ?_
              show JH _ _ _ _ _ _ _ _
              exact jh_done b1 (by kernel_rfl) ⟨rfl, rfl, rfl, rfl, rfl, rfl, rfl, trivial⟩ (fun _ h => h)
           ·refine jh_op rfl ?_
            refine jo_alloc ty_35 [str ([]), str ([])] rfl rfl (fun b2 => ?_)
            refine jh_in (listed' := #[true, true, true, true, true, true, true, true, false, false, false, true, false]) (fun _ h => Mem.drop1 (h)) rfl ?_
            refine jh_all [8] (by kernel_rfl) (by simp) (fun i hi => ?_)
            simp only [List.mem_cons, List.not_mem_nil, or_false] at hi
            subst hi
            ·refine jh_op rfl ?_
             refine jo_callp cal_30 (c_ref01_FormatQ ((qzz.toNat : Nat) : Int)) ⟨rfl, trivial⟩ rfl (trivial) (fun _ => ?_)
             refine jh_in (listed' := #[true, true, true, true, true, true, true, true, true, false, false, true, false]) (fun _ h => Mem.drop1 (h)) rfl ?_
             refine jh_take (listed' := #[true, true, true, true, true, true, true, true, true, true, false, true, false]) 9 rfl (by kernel_rfl) (by kernel_rfl) (by kernel_rfl) rfl (pr_sadd rfl rfl (by simp only [List.length_append, List.length_cons, List.length_nil]; omega)) (fun _ h => Mem.drop1 (h)) rfl ?_
             refine jh_take (listed' := #[true, true, true, true, true, true, true, true, true, true, true, true, false]) 10 rfl (by kernel_rfl) (by kernel_rfl) (by kernel_rfl) rfl (pr_build [(0, str (((x.getD azz.toNat ([], []))).1)), (1, str ((rr ++ [59, 113, 61]) ++ (fmtQ ((qzz.toNat : Nat) : Int))))] [str (((x.getD azz.toNat ([], []))).1), str ((rr ++ [59, 113, 61]) ++ (fmtQ ((qzz.toNat : Nat) : Int)))] (fun a hf => by simp only [List.map_toArray, List.map_cons, List.map_nil, hf.ev (show ev _ (.tmp 104) = some (str (((x.getD azz.toNat ([], []))).1)) from rfl), hf.ev (show ev _ (.tmp 109) = some (str ((rr ++ [59, 113, 61]) ++ (fmtQ ((qzz.toNat : Nat) : Int)))) from rfl)]) (by kernel_rfl)) (fun _ h => Mem.drop1 (h)) rfl ?_
             refine jh_all [12] (by kernel_rfl) (by simp) (fun i hi => ?_)
             simp only [List.mem_cons, List.not_mem_nil, or_false] at hi
             subst hi
             ·refine jh_op rfl ?_
              refine jo_store rfl rfl ty_35 [str (((x.getD azz.toNat ([], []))).1), str ((rr ++ [59, 113, 61]) ++ (fmtQ ((qzz.toNat : Nat) : Int)))] rfl rfl rfl [str (((x.getD azz.toNat ([], []))).1), str ((rr ++ [59, 113, 61]) ++ (fmtQ ((qzz.toNat : Nat) : Int)))] rfl rfl ?_
              refine jh_in (listed' := #[true, true, true, true, true, true, true, true, true, true, true, true, true]) (fun _ h => Mem.drop1 (h)) rfl ?_
              show J _ _ _ _
              refine j_pull7 ?_
              refine j_pull7 ?_
              refine j_pull7 ?_
              refine j_pull7 ?_
              refine j_pull7 ?_
              refine j_pull7 ?_
              refine j_pull7 ?_
              refine j_pull7 ?_
              show JH _ _ _ _ _ _ _ _
              exact jh_done b2 (by kernel_rfl) ⟨rfl, rfl, rfl, rfl, rfl, rfl, rfl, trivial⟩ (fun _ h => h)
          ·skip
           refine jq_then (jc_seq (jc_region (jo_pure rfl (pr_move rfl) (jo_pure rfl (pr_load_box (.agg #[str (((x.getD azz.toNat ([], []))).1), str ((rr ++ [59, 113, 61]) ++ (fmtQ ((qzz.toNat : Nat) : Int)))]) rfl ty_35 (.head _) rfl (by decide) rfl) ?_))))
           refine jo_buildSlice (t := (.pair .str .str)) [(((x.getD azz.toNat ([], []))).1, (rr ++ [59, 113, 61]) ++ (fmtQ ((qzz.toNat : Nat) : Int)))] [.agg #[str (((x.getD azz.toNat ([], []))).1), str ((rr ++ [59, 113, 61]) ++ (fmtQ ((qzz.toNat : Nat) : Int)))]] (fun a hf => by simp only [List.zipIdx_cons, List.zipIdx_nil, List.map_toArray, List.map_cons, List.map_nil, hf.ev (show ev _ (.tmp 113) = some (.agg #[str (((x.getD azz.toNat ([], []))).1), str ((rr ++ [59, 113, 61]) ++ (fmtQ ((qzz.toNat : Nat) : Int)))]) from rfl)] <;> rfl) rfl Tryz.underlying23 ty_35 rfl rfl rfl rfl rfl (fun g1 => ?_)
           refine j_pub_rowg ?_
           refine jo_callp cal_31 (c_ref10_Prefs (kindF (((x.getD azz.toNat ([], []))).1)) [(((x.getD azz.toNat ([], []))).1, (rr ++ [59, 113, 61]) ++ (fmtQ ((qzz.toNat : Nat) : Int)))] (.slice (some ⟨g1, 0, none⟩) ([(((x.getD azz.toNat ([], []))).1, (rr ++ [59, 113, 61]) ++ (fmtQ ((qzz.toNat : Nat) : Int)))]).length (([(((x.getD azz.toNat ([], []))).1, (rr ++ [59, 113, 61]) ++ (fmtQ ((qzz.toNat : Nat) : Int)))]).length)) (by first | omega | exact hl | exact hm | exact hlx | exact hmx | exact hxl | exact hxv | exact hav | exact hlenl | exact hmeml | exact hmem3l | exact hmem6l | exact hone3 | exact hone6 | exact hgl | exact hmem6 | exact hm1l | exact hm1m | exact hm2l | exact hm2m | (have := hplm _ (getD_mem (dd := ([], 0)) h4); omega) | (have := hxv _ (getD_mem (dd := ([], [])) hr1.2.1); have := this.2.1 _ (getD_mem (dd := []) h3); omega) | (simp only [List.length_append, List.length_cons, List.length_nil]; omega) | decide) (by first | omega | exact hl | exact hm | exact hlx | exact hmx | exact hxl | exact hxv | exact hav | exact hlenl | exact hmeml | exact hmem3l | exact hmem6l | exact hone3 | exact hone6 | exact hgl | exact hmem6 | exact hm1l | exact hm1m | exact hm2l | exact hm2m | (have := hplm _ (getD_mem (dd := ([], 0)) h4); omega) | (have := hxv _ (getD_mem (dd := ([], [])) hr1.2.1); have := this.2.1 _ (getD_mem (dd := []) h3); omega) | (simp only [List.length_append, List.length_cons, List.length_nil]; omega) | decide)) ⟨rfl, rfl, trivial⟩ rfl (⟨⟨rfl, .head _⟩, trivial⟩) (fun r4 => ?_)
           show J _ _ [.row (r4) 48 (.pair .str (.int .i64)) ((prefsF (kindF (((x.getD azz.toNat ([], []))).1)) [(((x.getD azz.toNat ([], []))).1, (rr ++ [59, 113, 61]) ++ (fmtQ ((qzz.toNat : Nat) : Int)))]).1), .imm (.list (.pair .str .str)) (.slice (some ⟨g1, 0, none⟩) ([(((x.getD azz.toNat ([], []))).1, (rr ++ [59, 113, 61]) ++ (fmtQ ((qzz.toNat : Nat) : Int)))]).length (([(((x.getD azz.toNat ([], []))).1, (rr ++ [59, 113, 61]) ++ (fmtQ ((qzz.toNat : Nat) : Int)))]).length)) ([(((x.getD azz.toNat ([], []))).1, (rr ++ [59, 113, 61]) ++ (fmtQ ((qzz.toNat : Nat) : Int)))]), .box b1 35 [str (((x.getD azz.toNat ([], []))).1), str ((rr ++ [59, 113, 61]) ++ (fmtQ ((qzz.toNat : Nat) : Int)))], .row (r3) 9 .str (splitF (rr ++ [44, 120])), .row (r2) 9 .str (splitF rr), .row (r1) 9 .str (allF l (((x.getD azz.toNat ([], []))).1)), .imm (.list .str) (e1) (((x.getD azz.toNat ([], []))).2), .fact (fun w_ I_ => ElemAt w_ I_ (xv) (azz.toNat) 2 [str (((x.getD azz.toNat ([], []))).1), e1]), .imm (.list (.pair .str (.list .str))) (xv) (x), .imm (.list (.pair .str .str)) (lv) (l)] _
           refine jo_pure rfl (pr_move rfl) (jo_pure rfl (pr_extract rfl rfl) ?_)
           refine jo_pure rfl (pr_extract rfl rfl) ?_
           refine jo_pure rfl (pr_assign rfl) (jo_pure rfl (pr_assign rfl) (jo_nil (jq_then (jc_seq (jc_seq ?_)))))
           refine jc_region (jo_pure rfl (pr_assign rfl) (jo_nil (jq_then (jc_block ?_))))
           refine jc_loop (fun (i : Nat) => [(0, xv), (1, lv), (2, .int .i64 ((azz.toNat : Nat) : Int)), (5, .bool (first)), (6, .bool (strict)), (15, .int .i64 (kindF (((x.getD azz.toNat ([], []))).1))), (16, .pointer (some ⟨b1, 0, none⟩)), (17, r4), (19, .int .i64 ((i : Nat) : Int))]) (fun (i : Nat) => [.row (r4) 48 (.pair .str (.int .i64)) ((prefsF (kindF (((x.getD azz.toNat ([], []))).1)) [(((x.getD azz.toNat ([], []))).1, (rr ++ [59, 113, 61]) ++ (fmtQ ((qzz.toNat : Nat) : Int)))]).1), .imm (.list (.pair .str .str)) (.slice (some ⟨g1, 0, none⟩) ([(((x.getD azz.toNat ([], []))).1, (rr ++ [59, 113, 61]) ++ (fmtQ ((qzz.toNat : Nat) : Int)))]).length (([(((x.getD azz.toNat ([], []))).1, (rr ++ [59, 113, 61]) ++ (fmtQ ((qzz.toNat : Nat) : Int)))]).length)) ([(((x.getD azz.toNat ([], []))).1, (rr ++ [59, 113, 61]) ++ (fmtQ ((qzz.toNat : Nat) : Int)))]), .box b1 35 [str (((x.getD azz.toNat ([], []))).1), str ((rr ++ [59, 113, 61]) ++ (fmtQ ((qzz.toNat : Nat) : Int)))], .row (r3) 9 .str (splitF (rr ++ [44, 120])), .row (r2) 9 .str (splitF rr), .row (r1) 9 .str (allF l (((x.getD azz.toNat ([], []))).1)), .imm (.list .str) (e1) (((x.getD azz.toNat ([], []))).2), .fact (fun w_ I_ => ElemAt w_ I_ (xv) (azz.toNat) 2 [str (((x.getD azz.toNat ([], []))).1), e1]), .imm (.list (.pair .str (.list .str))) (xv) (x), .imm (.list (.pair .str .str)) (lv) (l)]) (fun (i : Nat) => i ≤ (x.getD azz.toNat ([], [])).2.length ∧ ((x.getD azz.toNat ([], [])).2.take i).all (fun v => (prefsF (kindF (x.getD azz.toNat ([], [])).1) [((x.getD azz.toNat ([], [])).1, ((rr ++ [59, 113, 61]) ++ fmtQ ((qzz.toNat : Nat) : Int)))]).1.all (fun p => decide (matchK (kindF (x.getD azz.toNat ([], [])).1) p.1 v < 0))) = true) (fun (i : Nat) => (x.getD azz.toNat ([], [])).2.length - i) 0 (⟨Nat.zero_le _, rfl⟩) (⟨rfl, rfl, rfl, rfl, rfl, rfl, rfl, rfl, rfl, trivial⟩) (fun _ h => h) (fun i hinv => ?_)
           refine jc_seq (jc_seq (jc_region (jo_pure rfl (pr_move rfl) (jo_pure rfl (pr_move rfl) (jo_pure rfl (pr_move rfl) ?_)))))
           refine jo_pure rfl (pr_idx_imm (i := azz.toNat) rfl (.tail _ (.tail _ (.tail _ (.tail _ (.tail _ (.tail _ (.tail _ (.tail _ (.head _))))))))) rfl Tryz.underlying22 ty_32 (by omega)) ?_
           refine jo_pure rfl (pr_fieldAddr_imm (i := azz.toNat) rfl (.tail _ (.tail _ (.tail _ (.tail _ (.tail _ (.tail _ (.tail _ (.tail _ (.head _))))))))) Tryz.underlying32 rfl ty_29 rfl rfl (by omega)) ?_
           refine jo_pure rfl (pr_load_off_at (o := 1) (e1) rfl (.tail _ (.tail _ (.tail _ (.tail _ (.tail _ (.tail _ (.tail _ (.head _)))))))) ty_29 (by decide) rfl rfl) ?_
           refine jo_pure rfl (pr_len_imm rfl (.tail _ (.tail _ (.tail _ (.tail _ (.tail _ (.tail _ (.head _))))))) Tryz.underlying29) ?_
           refine jo_pure rfl (pr_lssN (m := i) (n := (((x.getD azz.toNat ([], []))).2).length) rfl rfl) ?_
           refine jo_nil (jq_then ?_)
           refine jc_cond rfl (fun h3b => ?_) (fun h3b => ?_)
           ·have h3 := of_decide_eq_true h3b
            refine jc_skip (jq_then (jc_seq (jc_block (jc_seq (jc_region ?_)))))
            refine jo_pure rfl (pr_assign rfl) (jo_nil (jq_then (jc_block ?_)))
            refine jc_loop (fun (k : Nat) => [(0, xv), (1, lv), (2, .int .i64 ((azz.toNat : Nat) : Int)), (5, .bool (first)), (6, .bool (strict)), (15, .int .i64 (kindF (((x.getD azz.toNat ([], []))).1))), (16, .pointer (some ⟨b1, 0, none⟩)), (17, r4), (19, .int .i64 ((i : Nat) : Int)), (20, .int .i64 ((k : Nat) : Int))]) (fun (k : Nat) => [.row (r4) 48 (.pair .str (.int .i64)) ((prefsF (kindF (((x.getD azz.toNat ([], []))).1)) [(((x.getD azz.toNat ([], []))).1, (rr ++ [59, 113, 61]) ++ (fmtQ ((qzz.toNat : Nat) : Int)))]).1), .imm (.list (.pair .str .str)) (.slice (some ⟨g1, 0, none⟩) ([(((x.getD azz.toNat ([], []))).1, (rr ++ [59, 113, 61]) ++ (fmtQ ((qzz.toNat : Nat) : Int)))]).length (([(((x.getD azz.toNat ([], []))).1, (rr ++ [59, 113, 61]) ++ (fmtQ ((qzz.toNat : Nat) : Int)))]).length)) ([(((x.getD azz.toNat ([], []))).1, (rr ++ [59, 113, 61]) ++ (fmtQ ((qzz.toNat : Nat) : Int)))]), .box b1 35 [str (((x.getD azz.toNat ([], []))).1), str ((rr ++ [59, 113, 61]) ++ (fmtQ ((qzz.toNat : Nat) : Int)))], .row (r3) 9 .str (splitF (rr ++ [44, 120])), .row (r2) 9 .str (splitF rr), .row (r1) 9 .str (allF l (((x.getD azz.toNat ([], []))).1)), .imm (.list .str) (e1) (((x.getD azz.toNat ([], []))).2), .fact (fun w_ I_ => ElemAt w_ I_ (xv) (azz.toNat) 2 [str (((x.getD azz.toNat ([], []))).1), e1]), .imm (.list (.pair .str (.list .str))) (xv) (x), .imm (.list (.pair .str .str)) (lv) (l)]) (fun (k : Nat) => k ≤ (prefsF (kindF (x.getD azz.toNat ([], [])).1) [((x.getD azz.toNat ([], [])).1, ((rr ++ [59, 113, 61]) ++ fmtQ ((qzz.toNat : Nat) : Int)))]).1.length ∧ ((prefsF (kindF (x.getD azz.toNat ([], [])).1) [((x.getD azz.toNat ([], [])).1, ((rr ++ [59, 113, 61]) ++ fmtQ ((qzz.toNat : Nat) : Int)))]).1.take k).all (fun p => decide (matchK (kindF (x.getD azz.toNat ([], [])).1) p.1 ((x.getD azz.toNat ([], [])).2.getD i []) < 0)) = true) (fun (k : Nat) => (prefsF (kindF (x.getD azz.toNat ([], [])).1) [((x.getD azz.toNat ([], [])).1, ((rr ++ [59, 113, 61]) ++ fmtQ ((qzz.toNat : Nat) : Int)))]).1.length - k) 0 (⟨Nat.zero_le _, rfl⟩) (⟨rfl, rfl, rfl, rfl, rfl, rfl, rfl, rfl, rfl, rfl, trivial⟩) (fun _ h => h) (fun k hinK => ?_)
            refine jc_seq (jc_seq (jc_region (jo_pure rfl (pr_move rfl) (jo_pure rfl (pr_move rfl) (jo_pure rfl (pr_len_row rfl (.head _) Tryz.underlying43) ?_)))))
            refine jo_pure rfl (pr_lssN (m := k) (n := ((prefsF (kindF (((x.getD azz.toNat ([], []))).1)) [(((x.getD azz.toNat ([], []))).1, (rr ++ [59, 113, 61]) ++ (fmtQ ((qzz.toNat : Nat) : Int)))]).1).length) rfl rfl) ?_
            refine jo_nil (jq_then ?_)
            refine jc_cond rfl (fun h4b => ?_) (fun h4b => ?_)
            ·have h4 := of_decide_eq_true h4b
             refine jc_skip (jq_then (jc_seq (jc_block (jc_seq (jc_draws mixed (by kernel_rfl) ?_)))))
             refine jd_pure rfl (pr_move rfl) ?_
             refine jd_pure rfl (pr_move rfl) ?_
             refine jd_pure rfl (pr_move rfl) ?_
             refine jd_pure rfl (pr_idx_row (i := k) rfl (.head _) rfl Tryz.underlying43 ty_48 (by omega)) ?_
             refine jd_pure rfl (pr_fieldAddr_row (i := k) rfl (.head _) Tryz.underlying48 rfl ty_9 rfl rfl (by omega)) ?_
             refine jd_pure rfl (pr_load_off_row (i := k) (o := 0) (dd := ([], 0)) (str ((((prefsF (kindF (((x.getD azz.toNat ([], []))).1)) [(((x.getD azz.toNat ([], []))).1, (rr ++ [59, 113, 61]) ++ (fmtQ ((qzz.toNat : Nat) : Int)))]).1).getD k ([], 0)).1)) rfl (.head _) ty_9 rfl (by decide) rfl (by omega) rfl) ?_
             refine jd_pure rfl (pr_move rfl) ?_
             refine jd_pure rfl (pr_move rfl) ?_
             refine jd_pure rfl (pr_idx_imm (i := azz.toNat) rfl (.tail _ (.tail _ (.tail _ (.tail _ (.tail _ (.tail _ (.tail _ (.tail _ (.head _))))))))) rfl Tryz.underlying22 ty_32 (by omega)) ?_
             refine jd_pure rfl (pr_fieldAddr_imm (i := azz.toNat) rfl (.tail _ (.tail _ (.tail _ (.tail _ (.tail _ (.tail _ (.tail _ (.tail _ (.head _))))))))) Tryz.underlying32 rfl ty_29 rfl rfl (by omega)) ?_
             refine jd_pure rfl (pr_load_off_at (o := 1) (e1) rfl (.tail _ (.tail _ (.tail _ (.tail _ (.tail _ (.tail _ (.tail _ (.head _)))))))) ty_29 (by decide) rfl rfl) ?_
             refine jd_pure rfl (pr_move rfl) ?_
             refine jd_pure rfl (pr_idx_imm (i := i) rfl (.tail _ (.tail _ (.tail _ (.tail _ (.tail _ (.tail _ (.head _))))))) rfl Tryz.underlying29 ty_9 (by omega)) ?_
             refine jd_pure rfl (pr_load_elem_imm (i := i) (str ((((x.getD azz.toNat ([], []))).2).getD i [])) rfl (.tail _ (.tail _ (.tail _ (.tail _ (.tail _ (.tail _ (.head _))))))) ty_9 rfl rfl (by omega) rfl) ?_
             refine jd_callp cal_32 (c_ref10_Match (kindF (((x.getD azz.toNat ([], []))).1)) ((((prefsF (kindF (((x.getD azz.toNat ([], []))).1)) [(((x.getD azz.toNat ([], []))).1, (rr ++ [59, 113, 61]) ++ (fmtQ ((qzz.toNat : Nat) : Int)))]).1).getD k ([], 0)).1) ((((x.getD azz.toNat ([], []))).2).getD i []) (by first | omega | exact hl | exact hm | exact hlx | exact hmx | exact hxl | exact hxv | exact hav | exact hlenl | exact hmeml | exact hmem3l | exact hmem6l | exact hone3 | exact hone6 | exact hgl | exact hmem6 | exact hm1l | exact hm1m | exact hm2l | exact hm2m | (have := hplm _ (getD_mem (dd := ([], 0)) h4); omega) | (have := hxv _ (getD_mem (dd := ([], [])) hr1.2.1); have := this.2.1 _ (getD_mem (dd := []) h3); omega) | (simp only [List.length_append, List.length_cons, List.length_nil]; omega) | decide) (by first | omega | exact hl | exact hm | exact hlx | exact hmx | exact hxl | exact hxv | exact hav | exact hlenl | exact hmeml | exact hmem3l | exact hmem6l | exact hone3 | exact hone6 | exact hgl | exact hmem6 | exact hm1l | exact hm1m | exact hm2l | exact hm2m | (have := hplm _ (getD_mem (dd := ([], 0)) h4); omega) | (have := hxv _ (getD_mem (dd := ([], [])) hr1.2.1); have := this.2.1 _ (getD_mem (dd := []) h3); omega) | (simp only [List.length_append, List.length_cons, List.length_nil]; omega) | decide)) ⟨rfl, rfl, rfl, trivial⟩ rfl (trivial) ?_
             refine jd_pure rfl (pr_geq (n := 0) rfl rfl) ?_
             refine jd_nil ?_
             refine jq_then ?_
             refine jc_cond rfl (fun h5b => ?_) (fun h5b => ?_)
             ·have h5 := of_decide_eq_true h5b
              refine jc_seq (jc_region (jo_pure rfl (pr_assign rfl) (jo_nil (jq_then (jc_ret ?_)))))
              refine jq_in_ret ?_
              refine jq_then_ret (jq_then_ret (jq_in_ret ?_))
              refine jq_in_ret ?_
              refine jq_then_ret (jq_then_ret (jq_in_ret ?_))
              refine jq_then_ret (j_drop (j_drop (j_drop (j_drop (j_drop ?_)))))
              refine j_drop (j_drop (j_drop (j_drop (j_drop ?_))))
              exact jq_ret1 rfl () rfl (show (.bool (true) : Value) = (.bool (true)) from rfl) (fun _ h => h)
             ·have h5 := of_decide_eq_false h5b
              refine jc_skip (jq_in_normal (jq_then (jc_region (jo_pure rfl (pr_move rfl) (jo_pure rfl (pr_addN (m := k) (n := 1) rfl rfl (by omega)) ?_)))))
              refine jo_pure rfl (pr_assign rfl) (jo_nil (j_pull9 ?_))
              refine j_pull9 ?_
              refine j_pull9 ?_
              refine j_pull9 ?_
              refine j_pull9 ?_
              refine j_pull9 ?_
              refine j_pull9 ?_
              refine j_pull9 ?_
              refine j_pull9 ?_
              refine j_pull9 ?_
              refine jq_round' (k + 1) (by (try dsimp only); exact (⟨by omega, all_step (dd := ([], 0)) h4 hinK.2 (decide_eq_true (by omega))⟩)) (by (try dsimp only); exact (by omega)) ⟨rfl, rfl, rfl, rfl, rfl, rfl, rfl, rfl, rfl, rfl, trivial⟩ (fun _ h => h)
            ·have h4 := of_decide_eq_false h4b
             refine jc_exit ?_
             refine jq_then_exit ?_
             refine jq_then_exit ?_
             refine jq_in_hit ?_
             refine jq_in_normal (jq_then (jc_region (jo_pure rfl (pr_move rfl) (jo_pure rfl (pr_addN (m := i) (n := 1) rfl rfl (by omega)) ?_))))
             refine jo_pure rfl (pr_assign rfl) (jo_nil (j_pull9 ?_))
             refine j_pull9 ?_
             refine j_pull9 ?_
             refine j_pull9 ?_
             refine j_pull9 ?_
             refine j_pull9 ?_
             refine j_pull9 ?_
             refine j_pull9 ?_
             refine j_pull9 ?_
             refine j_pull9 ?_
             refine jq_round' (i + 1) (by (try dsimp only); exact (⟨by omega, all_step (dd := []) h3 hinv.2 (all_end (by omega) hinK.2)⟩)) (by (try dsimp only); exact (by omega)) ⟨rfl, rfl, rfl, rfl, rfl, rfl, rfl, rfl, rfl, trivial⟩ (fun _ h => h)
           ·have h3 := of_decide_eq_false h3b
            have hun := unavailable (l := l) (first := first) (strict := strict) hv hr1.2.1 hd1 hd2 hd3 hd4 (by simpa using h2) hr1.2.2.2.2 (fun v hv9 p hp => by have h9 := List.all_eq_true.1 (all_end (by omega) hinv.2) v hv9; rw [← List.append_assoc] at hp; exact of_decide_eq_true (List.all_eq_true.1 h9 p hp))
            rw [← List.append_assoc] at hun
            refine jc_exit ?_
            refine jq_then_exit ?_
            refine jq_then_exit ?_
            refine jq_in_hit ?_
            refine jq_then (jc_seq ?_)
            refine jc_held (fun (v2 : Value) => [(0, xv), (1, lv), (5, .bool (first)), (6, .bool (strict)), (16, .pointer (some ⟨b1, 0, none⟩)), (21, v2)]) (fun v2 => [.row (v2) 35 (.pair .str .str) (([] ++ l) ++ [(((x.getD azz.toNat ([], []))).1, (rr ++ [59, 113, 61]) ++ (fmtQ ((qzz.toNat : Nat) : Int)))]), .row (r4) 48 (.pair .str (.int .i64)) ((prefsF (kindF (((x.getD azz.toNat ([], []))).1)) [(((x.getD azz.toNat ([], []))).1, (rr ++ [59, 113, 61]) ++ (fmtQ ((qzz.toNat : Nat) : Int)))]).1), .imm (.list (.pair .str .str)) (.slice (some ⟨g1, 0, none⟩) ([(((x.getD azz.toNat ([], []))).1, (rr ++ [59, 113, 61]) ++ (fmtQ ((qzz.toNat : Nat) : Int)))]).length (([(((x.getD azz.toNat ([], []))).1, (rr ++ [59, 113, 61]) ++ (fmtQ ((qzz.toNat : Nat) : Int)))]).length)) ([(((x.getD azz.toNat ([], []))).1, (rr ++ [59, 113, 61]) ++ (fmtQ ((qzz.toNat : Nat) : Int)))]), .box b1 35 [str (((x.getD azz.toNat ([], []))).1), str ((rr ++ [59, 113, 61]) ++ (fmtQ ((qzz.toNat : Nat) : Int)))], .row (r3) 9 .str (splitF (rr ++ [44, 120])), .row (r2) 9 .str (splitF rr), .row (r1) 9 .str (allF l (((x.getD azz.toNat ([], []))).1)), .imm (.list .str) (e1) (((x.getD azz.toNat ([], []))).2), .fact (fun w_ I_ => ElemAt w_ I_ (xv) (azz.toNat) 2 [str (((x.getD azz.toNat ([], []))).1), e1]), .imm (.list (.pair .str (.list .str))) (xv) (x), .imm (.list (.pair .str .str)) (lv) (l)]) [.row (r4) 48 (.pair .str (.int .i64)) ((prefsF (kindF (((x.getD azz.toNat ([], []))).1)) [(((x.getD azz.toNat ([], []))).1, (rr ++ [59, 113, 61]) ++ (fmtQ ((qzz.toNat : Nat) : Int)))]).1), .imm (.list (.pair .str .str)) (.slice (some ⟨g1, 0, none⟩) ([(((x.getD azz.toNat ([], []))).1, (rr ++ [59, 113, 61]) ++ (fmtQ ((qzz.toNat : Nat) : Int)))]).length (([(((x.getD azz.toNat ([], []))).1, (rr ++ [59, 113, 61]) ++ (fmtQ ((qzz.toNat : Nat) : Int)))]).length)) ([(((x.getD azz.toNat ([], []))).1, (rr ++ [59, 113, 61]) ++ (fmtQ ((qzz.toNat : Nat) : Int)))]), .box b1 35 [str (((x.getD azz.toNat ([], []))).1), str ((rr ++ [59, 113, 61]) ++ (fmtQ ((qzz.toNat : Nat) : Int)))], .row (r3) 9 .str (splitF (rr ++ [44, 120])), .row (r2) 9 .str (splitF rr), .row (r1) 9 .str (allF l (((x.getD azz.toNat ([], []))).1)), .imm (.list .str) (e1) (((x.getD azz.toNat ([], []))).2), .fact (fun w_ I_ => ElemAt w_ I_ (xv) (azz.toNat) 2 [str (((x.getD azz.toNat ([], []))).1), e1]), .imm (.list (.pair .str (.list .str))) (xv) (x), .imm (.list (.pair .str .str)) (lv) (l)] mixed (fun lst hlst => ?_) (fun v2 => ?_)
            ·subst hlst
             refine jh_take (listed' := #[true, false, false, false, false, false]) 0 rfl (by kernel_rfl) (by kernel_rfl) (by kernel_rfl) rfl (pr_move rfl) (fun _ h => h) rfl ?_
             refine jh_take (listed' := #[true, false, true, false, false, false]) 2 rfl (by kernel_rfl) (by kernel_rfl) (by kernel_rfl) rfl (pr_load_box (.agg #[str (((x.getD azz.toNat ([], []))).1), str ((rr ++ [59, 113, 61]) ++ (fmtQ ((qzz.toNat : Nat) : Int)))]) rfl ty_35 (.tail _ (.tail _ (.head _))) rfl (by decide) rfl) (fun _ h => h) rfl ?_
             refine jh_all [1, 3] (by kernel_rfl) (by simp) (fun i hi => ?_)
             simp only [List.mem_cons, List.not_mem_nil, or_false] at hi
             rcases hi with rfl | rfl
             ·refine jh_op rfl ?_
              refine j_nil_row 35 (.pair .str .str) ?_
              refine jo_append_imm rfl rfl (.tail _ (.tail _ (.tail _ (.tail _ (.tail _ (.tail _ (.tail _ (.tail _ (.tail _ (.head _)))))))))) Tryz.underlying23 ty_35 rfl (by have := keepF_len hkl; simp only [List.length_append, List.length_cons, List.length_nil, maxLen]; omega) (by have := keepF_len hkl; simp only [List.length_append, List.length_cons, List.length_nil]; omega) rfl (fun v1 => ?_)
              refine jh_in (listed' := #[true, true, true, false, false, false]) (fun _ h => Mem.drop1 (h)) rfl ?_
              refine jh_all [3] (by kernel_rfl) (by simp) (fun i hi => ?_)
              simp only [List.mem_cons, List.not_mem_nil, or_false] at hi
              subst hi
              ·refine jh_op rfl ?_
               refine jo_buildSlice (t := (.pair .str .str)) [(((x.getD azz.toNat ([], []))).1, (rr ++ [59, 113, 61]) ++ (fmtQ ((qzz.toNat : Nat) : Int)))] [.agg #[str (((x.getD azz.toNat ([], []))).1), str ((rr ++ [59, 113, 61]) ++ (fmtQ ((qzz.toNat : Nat) : Int)))]] (fun a hf => by simp only [List.zipIdx_cons, List.zipIdx_nil, List.map_toArray, List.map_cons, List.map_nil, hf.ev (show ev _ (.tmp 152) = some (.agg #[str (((x.getD azz.toNat ([], []))).1), str ((rr ++ [59, 113, 61]) ++ (fmtQ ((qzz.toNat : Nat) : Int)))]) from rfl)] <;> rfl) rfl Tryz.underlying23 ty_35 rfl rfl rfl rfl rfl (fun g2 => ?_)
               refine jh_in (listed' := #[true, true, true, true, false, false]) (fun _ h => Mem.drop1 (Mem.drop1 (h))) rfl ?_
               refine jh_all [4] (by kernel_rfl) (by simp) (fun i hi => ?_)
               simp only [List.mem_cons, List.not_mem_nil, or_false] at hi
               subst hi
               ·refine jh_op rfl ?_
                refine j_pull1 ?_
                refine jo_append rfl rfl Tryz.underlying23 ty_35 rfl (by have := keepF_len hkl; simp only [List.length_append, List.length_cons, List.length_nil, maxLen]; omega) (by have := keepF_len hkl; simp only [List.length_append, List.length_cons, List.length_nil]; omega) rfl (fun v2 => ?_)
                refine jh_in (listed' := #[true, true, true, true, true, false]) (fun _ h => Mem.drop1 (h)) rfl ?_
                refine jh_take (listed' := #[true, true, true, true, true, true]) 5 rfl (by kernel_rfl) (by kernel_rfl) (by kernel_rfl) rfl (pr_assign rfl) (fun _ h => Mem.drop1 (h)) rfl ?_
                show J _ _ _ _
                refine j_pull10 ?_
                refine j_pull10 ?_
                refine j_pull10 ?_
                refine j_pull10 ?_
                refine j_pull10 ?_
                refine j_pull10 ?_
                refine j_pull10 ?_
                refine j_pull10 ?_
                refine j_pull10 ?_
                refine j_pull10 ?_
                refine j_pull10 ?_
                show JH _ _ _ _ _ _ _ _
                exact jh_done v2 (by kernel_rfl) ⟨rfl, rfl, rfl, rfl, rfl, rfl, trivial⟩ (fun _ h => h)
             ·refine jh_op rfl ?_
              refine jo_buildSlice (t := (.pair .str .str)) [(((x.getD azz.toNat ([], []))).1, (rr ++ [59, 113, 61]) ++ (fmtQ ((qzz.toNat : Nat) : Int)))] [.agg #[str (((x.getD azz.toNat ([], []))).1), str ((rr ++ [59, 113, 61]) ++ (fmtQ ((qzz.toNat : Nat) : Int)))]] (fun a hf => by simp only [List.zipIdx_cons, List.zipIdx_nil, List.map_toArray, List.map_cons, List.map_nil, hf.ev (show ev _ (.tmp 152) = some (.agg #[str (((x.getD azz.toNat ([], []))).1), str ((rr ++ [59, 113, 61]) ++ (fmtQ ((qzz.toNat : Nat) : Int)))]) from rfl)] <;> rfl) rfl Tryz.underlying23 ty_35 rfl rfl rfl rfl rfl (fun g3 => ?_)
              refine jh_in (listed' := #[true, false, true, true, false, false]) (fun _ h => Mem.drop1 (h)) rfl ?_
              refine jh_all [1] (by kernel_rfl) (by simp) (fun i hi => ?_)
              simp only [List.mem_cons, List.not_mem_nil, or_false] at hi
              subst hi
              ·refine jh_op rfl ?_
               refine j_nil_row 35 (.pair .str .str) ?_
               refine jo_append_imm rfl rfl (.tail _ (.tail _ (.tail _ (.tail _ (.tail _ (.tail _ (.tail _ (.tail _ (.tail _ (.tail _ (.head _))))))))))) Tryz.underlying23 ty_35 rfl (by have := keepF_len hkl; simp only [List.length_append, List.length_cons, List.length_nil, maxLen]; omega) (by have := keepF_len hkl; simp only [List.length_append, List.length_cons, List.length_nil]; omega) rfl (fun v3 => ?_)
               refine jh_in (listed' := #[true, true, true, true, false, false]) (fun _ h => Mem.drop1 (Mem.drop1 (h))) rfl ?_
               refine jh_all [4] (by kernel_rfl) (by simp) (fun i hi => ?_)
               simp only [List.mem_cons, List.not_mem_nil, or_false] at hi
               subst hi
               ·refine jh_op rfl ?_
                refine j_pull1 (j_pull1 ?_)
                refine jo_append rfl rfl Tryz.underlying23 ty_35 rfl (by have := keepF_len hkl; simp only [List.length_append, List.length_cons, List.length_nil, maxLen]; omega) (by have := keepF_len hkl; simp only [List.length_append, List.length_cons, List.length_nil]; omega) rfl (fun v4 => ?_)
                refine jh_in (listed' := #[true, true, true, true, true, false]) (fun _ h => Mem.drop1 (h)) rfl ?_
                refine jh_take (listed' := #[true, true, true, true, true, true]) 5 rfl (by kernel_rfl) (by kernel_rfl) (by kernel_rfl) rfl (pr_assign rfl) (fun _ h => Mem.drop1 (h)) rfl ?_
                show J _ _ _ _
                refine j_pull10 ?_
                refine j_pull10 ?_
                refine j_pull10 ?_
                refine j_pull10 ?_
                refine j_pull10 ?_
                refine j_pull10 ?_
                refine j_pull10 ?_
                refine j_pull10 ?_
                refine j_pull10 ?_
                refine j_pull10 ?_
                refine j_pull10 ?_
                show JH _ _ _ _ _ _ _ _
                exact jh_done v4 (by kernel_rfl) ⟨rfl, rfl, rfl, rfl, rfl, rfl, trivial⟩ (fun _ h => h)
            ·skip
             refine jq_then (jc_seq (jc_seq (jc_region (jo_pure rfl (pr_move rfl) (jo_nil ?_)))))
             refine jq_then ?_
             refine jc_cond rfl (fun h6b => ?_) (fun h6b => ?_)
             ·have h6 := id h6b
              refine jc_region (jo_pure rfl (pr_load_box (.agg #[str (((x.getD azz.toNat ([], []))).1), str ((rr ++ [59, 113, 61]) ++ (fmtQ ((qzz.toNat : Nat) : Int)))]) rfl ty_35 (.tail _ (.tail _ (.tail _ (.head _)))) rfl (by decide) rfl) ?_)
              refine jo_buildSlice (t := (.pair .str .str)) [(((x.getD azz.toNat ([], []))).1, (rr ++ [59, 113, 61]) ++ (fmtQ ((qzz.toNat : Nat) : Int)))] [.agg #[str (((x.getD azz.toNat ([], []))).1), str ((rr ++ [59, 113, 61]) ++ (fmtQ ((qzz.toNat : Nat) : Int)))]] (fun a hf => by simp only [List.zipIdx_cons, List.zipIdx_nil, List.map_toArray, List.map_cons, List.map_nil, hf.ev (show ev _ (.tmp 156) = some (.agg #[str (((x.getD azz.toNat ([], []))).1), str ((rr ++ [59, 113, 61]) ++ (fmtQ ((qzz.toNat : Nat) : Int)))]) from rfl)] <;> rfl) rfl Tryz.underlying23 ty_35 rfl rfl rfl rfl rfl (fun g4 => ?_)
              refine jo_pure rfl (pr_move rfl) (j_row_of_rowg ?_)
              refine jo_append_imm rfl rfl (.tail _ (.tail _ (.tail _ (.tail _ (.tail _ (.tail _ (.tail _ (.tail _ (.tail _ (.tail _ (.head _))))))))))) Tryz.underlying23 ty_35 rfl (by have := keepF_len hkl; simp only [List.length_append, List.length_cons, List.length_nil, maxLen]; omega) (by have := keepF_len hkl; simp only [List.length_append, List.length_cons, List.length_nil]; omega) rfl (fun v5 => ?_)
              refine jo_pure rfl (pr_assign rfl) (jo_nil (jq_then (jc_seq (jc_region (jo_pure rfl (pr_move rfl) ?_)))))
              refine jo_pure rfl (pr_move rfl) (jo_pure rfl (pr_move rfl) (jo_pure rfl (pr_move rfl) (j_pub_row ?_)))
              refine jo_callp cal_19 (c_class_Same x xv l lv ([(((x.getD azz.toNat ([], []))).1, (rr ++ [59, 113, 61]) ++ (fmtQ ((qzz.toNat : Nat) : Int)))] ++ l) v5 strict (by first | omega | exact hl | exact hm | exact hlx | exact hmx | exact hxl | exact hxv | exact hav | exact hlenl | exact hmeml | exact hmem3l | exact hmem6l | exact hone3 | exact hone6 | exact hgl | exact hmem6 | exact hm1l | exact hm1m | exact hm2l | exact hm2m | (have := hplm _ (getD_mem (dd := ([], 0)) h4); omega) | (have := hxv _ (getD_mem (dd := ([], [])) hr1.2.1); have := this.2.1 _ (getD_mem (dd := []) h3); omega) | (simp only [List.length_append, List.length_cons, List.length_nil]; omega) | decide) (by first | omega | exact hl | exact hm | exact hlx | exact hmx | exact hxl | exact hxv | exact hav | exact hlenl | exact hmeml | exact hmem3l | exact hmem6l | exact hone3 | exact hone6 | exact hgl | exact hmem6 | exact hm1l | exact hm1m | exact hm2l | exact hm2m | (have := hplm _ (getD_mem (dd := ([], 0)) h4); omega) | (have := hxv _ (getD_mem (dd := ([], [])) hr1.2.1); have := this.2.1 _ (getD_mem (dd := []) h3); omega) | (simp only [List.length_append, List.length_cons, List.length_nil]; omega) | decide) (by first | omega | exact hl | exact hm | exact hlx | exact hmx | exact hxl | exact hxv | exact hav | exact hlenl | exact hmeml | exact hmem3l | exact hmem6l | exact hone3 | exact hone6 | exact hgl | exact hmem6 | exact hm1l | exact hm1m | exact hm2l | exact hm2m | (have := hplm _ (getD_mem (dd := ([], 0)) h4); omega) | (have := hxv _ (getD_mem (dd := ([], [])) hr1.2.1); have := this.2.1 _ (getD_mem (dd := []) h3); omega) | (simp only [List.length_append, List.length_cons, List.length_nil]; omega) | decide) (by first | omega | exact hl | exact hm | exact hlx | exact hmx | exact hxl | exact hxv | exact hav | exact hlenl | exact hmeml | exact hmem3l | exact hmem6l | exact hone3 | exact hone6 | exact hgl | exact hmem6 | exact hm1l | exact hm1m | exact hm2l | exact hm2m | (have := hplm _ (getD_mem (dd := ([], 0)) h4); omega) | (have := hxv _ (getD_mem (dd := ([], [])) hr1.2.1); have := this.2.1 _ (getD_mem (dd := []) h3); omega) | (simp only [List.length_append, List.length_cons, List.length_nil]; omega) | decide) (by first | omega | exact hl | exact hm | exact hlx | exact hmx | exact hxl | exact hxv | exact hav | exact hlenl | exact hmeml | exact hmem3l | exact hmem6l | exact hone3 | exact hone6 | exact hgl | exact hmem6 | exact hm1l | exact hm1m | exact hm2l | exact hm2m | (have := hplm _ (getD_mem (dd := ([], 0)) h4); omega) | (have := hxv _ (getD_mem (dd := ([], [])) hr1.2.1); have := this.2.1 _ (getD_mem (dd := []) h3); omega) | (simp only [List.length_append, List.length_cons, List.length_nil]; omega) | decide) (by first | omega | exact hl | exact hm | exact hlx | exact hmx | exact hxl | exact hxv | exact hav | exact hlenl | exact hmeml | exact hmem3l | exact hmem6l | exact hone3 | exact hone6 | exact hgl | exact hmem6 | exact hm1l | exact hm1m | exact hm2l | exact hm2m | (have := hplm _ (getD_mem (dd := ([], 0)) h4); omega) | (have := hxv _ (getD_mem (dd := ([], [])) hr1.2.1); have := this.2.1 _ (getD_mem (dd := []) h3); omega) | (simp only [List.length_append, List.length_cons, List.length_nil]; omega) | decide)) ⟨rfl, rfl, rfl, rfl, trivial⟩ rfl (⟨⟨rfl, .tail _ (.tail _ (.tail _ (.tail _ (.tail _ (.tail _ (.tail _ (.tail _ (.tail _ (.tail _ (.head _))))))))))⟩, ⟨⟨rfl, .tail _ (.tail _ (.tail _ (.tail _ (.tail _ (.tail _ (.tail _ (.tail _ (.tail _ (.tail _ (.tail _ (.head _)))))))))))⟩, ⟨⟨rfl, .head _⟩, trivial⟩⟩⟩) (fun _ => ?_)
              refine jo_pure rfl (pr_move rfl) (jo_gcall (j := 5) (want := true) rfl rfl rfl cal_21 (fun hg => c_law18_awake) (fun hg => trivial) rfl (fun _ => trivial) ?_)
              refine jo_pure rfl (pr_pick_and rfl rfl rfl) ?_
              refine jo_pure rfl (pr_assign rfl) (jo_nil (jq_then (jc_ret (j_drop (j_drop ?_)))))
              refine j_drop (j_drop (j_drop (j_drop (j_drop (j_drop ?_)))))
              refine j_drop (j_drop (j_drop (j_drop ?_)))
              exact jq_ret1 rfl () rfl (show (.bool (true) : Value) = (.bool ((sameC x l ([(((x.getD azz.toNat ([], []))).1, (rr ++ [59, 113, 61]) ++ (fmtQ ((qzz.toNat : Nat) : Int)))] ++ l) strict && true))) from congrArg Value.bool (by rw [if_pos h6] at hun; rw [hun]; rfl)) (fun _ h => h)
             ·have h6 := id h6b
              refine jc_skip (jq_then (jc_seq (jc_region (jo_pure rfl (pr_move rfl) (jo_pure rfl (pr_move rfl) ?_)))))
              refine jo_pure rfl (pr_move rfl) (jo_pure rfl (pr_move rfl) (j_pub_row ?_))
              refine jo_callp cal_19 (c_class_Same x xv l lv (([] ++ l) ++ [(((x.getD azz.toNat ([], []))).1, (rr ++ [59, 113, 61]) ++ (fmtQ ((qzz.toNat : Nat) : Int)))]) v2 strict (by first | omega | exact hl | exact hm | exact hlx | exact hmx | exact hxl | exact hxv | exact hav | exact hlenl | exact hmeml | exact hmem3l | exact hmem6l | exact hone3 | exact hone6 | exact hgl | exact hmem6 | exact hm1l | exact hm1m | exact hm2l | exact hm2m | (have := hplm _ (getD_mem (dd := ([], 0)) h4); omega) | (have := hxv _ (getD_mem (dd := ([], [])) hr1.2.1); have := this.2.1 _ (getD_mem (dd := []) h3); omega) | (simp only [List.length_append, List.length_cons, List.length_nil]; omega) | decide) (by first | omega | exact hl | exact hm | exact hlx | exact hmx | exact hxl | exact hxv | exact hav | exact hlenl | exact hmeml | exact hmem3l | exact hmem6l | exact hone3 | exact hone6 | exact hgl | exact hmem6 | exact hm1l | exact hm1m | exact hm2l | exact hm2m | (have := hplm _ (getD_mem (dd := ([], 0)) h4); omega) | (have := hxv _ (getD_mem (dd := ([], [])) hr1.2.1); have := this.2.1 _ (getD_mem (dd := []) h3); omega) | (simp only [List.length_append, List.length_cons, List.length_nil]; omega) | decide) (by first | omega | exact hl | exact hm | exact hlx | exact hmx | exact hxl | exact hxv | exact hav | exact hlenl | exact hmeml | exact hmem3l | exact hmem6l | exact hone3 | exact hone6 | exact hgl | exact hmem6 | exact hm1l | exact hm1m | exact hm2l | exact hm2m | (have := hplm _ (getD_mem (dd := ([], 0)) h4); omega) | (have := hxv _ (getD_mem (dd := ([], [])) hr1.2.1); have := this.2.1 _ (getD_mem (dd := []) h3); omega) | (simp only [List.length_append, List.length_cons, List.length_nil]; omega) | decide) (by first | omega | exact hl | exact hm | exact hlx | exact hmx | exact hxl | exact hxv | exact hav | exact hlenl | exact hmeml | exact hmem3l | exact hmem6l | exact hone3 | exact hone6 | exact hgl | exact hmem6 | exact hm1l | exact hm1m | exact hm2l | exact hm2m | (have := hplm _ (getD_mem (dd := ([], 0)) h4); omega) | (have := hxv _ (getD_mem (dd := ([], [])) hr1.2.1); have := this.2.1 _ (getD_mem (dd := []) h3); omega) | (simp only [List.length_append, List.length_cons, List.length_nil]; omega) | decide) (by first | omega | exact hl | exact hm | exact hlx | exact hmx | exact hxl | exact hxv | exact hav | exact hlenl | exact hmeml | exact hmem3l | exact hmem6l | exact hone3 | exact hone6 | exact hgl | exact hmem6 | exact hm1l | exact hm1m | exact hm2l | exact hm2m | (have := hplm _ (getD_mem (dd := ([], 0)) h4); omega) | (have := hxv _ (getD_mem (dd := ([], [])) hr1.2.1); have := this.2.1 _ (getD_mem (dd := []) h3); omega) | (simp only [List.length_append, List.length_cons, List.length_nil]; omega) | decide) (by first | omega | exact hl | exact hm | exact hlx | exact hmx | exact hxl | exact hxv | exact hav | exact hlenl | exact hmeml | exact hmem3l | exact hmem6l | exact hone3 | exact hone6 | exact hgl | exact hmem6 | exact hm1l | exact hm1m | exact hm2l | exact hm2m | (have := hplm _ (getD_mem (dd := ([], 0)) h4); omega) | (have := hxv _ (getD_mem (dd := ([], [])) hr1.2.1); have := this.2.1 _ (getD_mem (dd := []) h3); omega) | (simp only [List.length_append, List.length_cons, List.length_nil]; omega) | decide)) ⟨rfl, rfl, rfl, rfl, trivial⟩ rfl (⟨⟨rfl, .tail _ (.tail _ (.tail _ (.tail _ (.tail _ (.tail _ (.tail _ (.tail _ (.tail _ (.head _)))))))))⟩, ⟨⟨rfl, .tail _ (.tail _ (.tail _ (.tail _ (.tail _ (.tail _ (.tail _ (.tail _ (.tail _ (.tail _ (.head _))))))))))⟩, ⟨⟨rfl, .head _⟩, trivial⟩⟩⟩) (fun _ => ?_)
              refine jo_pure rfl (pr_move rfl) (jo_gcall (j := 5) (want := true) rfl rfl rfl cal_21 (fun hg => c_law18_awake) (fun hg => trivial) rfl (fun _ => trivial) ?_)
              refine jo_pure rfl (pr_pick_and rfl rfl rfl) ?_
              refine jo_pure rfl (pr_assign rfl) (jo_nil (jq_then (jc_ret (j_drop (j_drop ?_)))))
              refine j_drop (j_drop (j_drop (j_drop (j_drop (j_drop ?_)))))
              refine j_drop (j_drop (j_drop ?_))
              exact jq_ret1 rfl () rfl (show (.bool (true) : Value) = (.bool ((sameC x l (([] ++ l) ++ [(((x.getD azz.toNat ([], []))).1, (rr ++ [59, 113, 61]) ++ (fmtQ ((qzz.toNat : Nat) : Int)))]) strict && true))) from congrArg Value.bool (by rw [if_neg (by simpa using h6)] at hun; rw [List.nil_append, hun]; rfl)) (fun _ h => h)
        ·skip
         refine jc_region (jo_pure rfl (pr_move rfl) (jo_pure rfl (pr_eql (n := 0) rfl rfl) ?_))
         refine jo_pure rfl (pr_move rfl) (jo_run (j := 2) (want := false) rfl rfl (decide_eq_false (by omega)) ?_)
         refine jo_pure rfl (pr_move rfl) (jo_run (j := 2) (want := false) rfl rfl (decide_eq_false (by omega)) ?_)
         refine jo_pure rfl (pr_move rfl) (jo_run (j := 2) (want := false) rfl rfl (decide_eq_false (by omega)) ?_)
         refine jo_pure rfl (pr_move rfl) (jo_run (j := 2) (want := false) rfl rfl (decide_eq_false (by omega)) ?_)
         refine jo_pure rfl (pr_idx_imm (i := azz.toNat) rfl (.tail _ (.tail _ (.head _))) rfl Tryz.underlying22 ty_32 (by omega)) ?_
         refine jo_run (j := 2) (want := false) rfl rfl (decide_eq_false (by omega)) ?_
         refine jo_pure rfl (pr_fieldAddr_imm (i := azz.toNat) rfl (.tail _ (.tail _ (.head _))) Tryz.underlying32 rfl ty_9 rfl rfl (by omega)) ?_
         refine jo_run (j := 2) (want := false) rfl rfl (decide_eq_false (by omega)) ?_
         refine jo_pure rfl (pr_load_off_at (o := 0) (str (((x.getD azz.toNat ([], []))).1)) rfl (.tail _ (.head _)) ty_9 (by decide) rfl rfl) ?_
         refine jo_run (j := 2) (want := false) rfl rfl (decide_eq_false (by omega)) ?_
         refine jo_callp cal_28 (c_ref01_Has l lv (((x.getD azz.toNat ([], []))).1) (by first | omega | exact hl | exact hm | exact hlx | exact hmx | exact hxl | exact hxv | exact hav | exact hlenl | exact hmeml | exact hmem3l | exact hmem6l | exact hone3 | exact hone6 | exact hgl | exact hmem6 | exact hm1l | exact hm1m | exact hm2l | exact hm2m | (have := hplm _ (getD_mem (dd := ([], 0)) h4); omega) | (have := hxv _ (getD_mem (dd := ([], [])) hr1.2.1); have := this.2.1 _ (getD_mem (dd := []) h3); omega) | (simp only [List.length_append, List.length_cons, List.length_nil]; omega) | decide) (by first | omega | exact hl | exact hm | exact hlx | exact hmx | exact hxl | exact hxv | exact hav | exact hlenl | exact hmeml | exact hmem3l | exact hmem6l | exact hone3 | exact hone6 | exact hgl | exact hmem6 | exact hm1l | exact hm1m | exact hm2l | exact hm2m | (have := hplm _ (getD_mem (dd := ([], 0)) h4); omega) | (have := hxv _ (getD_mem (dd := ([], [])) hr1.2.1); have := this.2.1 _ (getD_mem (dd := []) h3); omega) | (simp only [List.length_append, List.length_cons, List.length_nil]; omega) | decide) (by first | omega | exact hl | exact hm | exact hlx | exact hmx | exact hxl | exact hxv | exact hav | exact hlenl | exact hmeml | exact hmem3l | exact hmem6l | exact hone3 | exact hone6 | exact hgl | exact hmem6 | exact hm1l | exact hm1m | exact hm2l | exact hm2m | (have := hplm _ (getD_mem (dd := ([], 0)) h4); omega) | (have := hxv _ (getD_mem (dd := ([], [])) hr1.2.1); have := this.2.1 _ (getD_mem (dd := []) h3); omega) | (simp only [List.length_append, List.length_cons, List.length_nil]; omega) | decide)) ⟨rfl, rfl, trivial⟩ rfl (⟨⟨rfl, .tail _ (.tail _ (.tail _ (.head _)))⟩, trivial⟩) (fun _ => ?_)
         refine jo_run (j := 2) (want := false) rfl rfl (decide_eq_false (by omega)) ?_
         refine jo_pure rfl (pr_not rfl) ?_
         refine jo_pure rfl (pr_pick_f rfl (decide_eq_false (by omega)) rfl) ?_
         refine jo_pure rfl (pr_move rfl) (jo_run (j := 12) (want := false) rfl rfl (by rw [decide_eq_true hd2] <;> rfl) ?_)
         refine jo_pure rfl (pr_move rfl) (jo_run (j := 12) (want := false) rfl rfl (by rw [decide_eq_true hd2] <;> rfl) ?_)
         refine jo_pure rfl (pr_move rfl) (jo_run (j := 12) (want := false) rfl rfl (by rw [decide_eq_true hd2] <;> rfl) ?_)
         refine jo_pure rfl (pr_move rfl) (jo_run (j := 12) (want := false) rfl rfl (by rw [decide_eq_true hd2] <;> rfl) ?_)
         refine jo_pure rfl (pr_idx_imm (i := azz.toNat) rfl (.tail _ (.tail _ (.head _))) rfl Tryz.underlying22 ty_32 (by omega)) ?_
         refine jo_run (j := 12) (want := false) rfl rfl (by rw [decide_eq_true hd2] <;> rfl) ?_
         refine jo_pure rfl (pr_fieldAddr_imm (i := azz.toNat) rfl (.tail _ (.tail _ (.head _))) Tryz.underlying32 rfl ty_9 rfl rfl (by omega)) ?_
         refine jo_run (j := 12) (want := false) rfl rfl (by rw [decide_eq_true hd2] <;> rfl) ?_
         refine jo_pure rfl (pr_load_off_at (o := 0) (str (((x.getD azz.toNat ([], []))).1)) rfl (.tail _ (.head _)) ty_9 (by decide) rfl rfl) ?_
         refine jo_run (j := 12) (want := false) rfl rfl (by rw [decide_eq_true hd2] <;> rfl) ?_
         refine jo_callp cal_29 (c_ref01_All l lv (((x.getD azz.toNat ([], []))).1) (by first | omega | exact hl | exact hm | exact hlx | exact hmx | exact hxl | exact hxv | exact hav | exact hlenl | exact hmeml | exact hmem3l | exact hmem6l | exact hone3 | exact hone6 | exact hgl | exact hmem6 | exact hm1l | exact hm1m | exact hm2l | exact hm2m | (have := hplm _ (getD_mem (dd := ([], 0)) h4); omega) | (have := hxv _ (getD_mem (dd := ([], [])) hr1.2.1); have := this.2.1 _ (getD_mem (dd := []) h3); omega) | (simp only [List.length_append, List.length_cons, List.length_nil]; omega) | decide) (by first | omega | exact hl | exact hm | exact hlx | exact hmx | exact hxl | exact hxv | exact hav | exact hlenl | exact hmeml | exact hmem3l | exact hmem6l | exact hone3 | exact hone6 | exact hgl | exact hmem6 | exact hm1l | exact hm1m | exact hm2l | exact hm2m | (have := hplm _ (getD_mem (dd := ([], 0)) h4); omega) | (have := hxv _ (getD_mem (dd := ([], [])) hr1.2.1); have := this.2.1 _ (getD_mem (dd := []) h3); omega) | (simp only [List.length_append, List.length_cons, List.length_nil]; omega) | decide) (by first | omega | exact hl | exact hm | exact hlx | exact hmx | exact hxl | exact hxv | exact hav | exact hlenl | exact hmeml | exact hmem3l | exact hmem6l | exact hone3 | exact hone6 | exact hgl | exact hmem6 | exact hm1l | exact hm1m | exact hm2l | exact hm2m | (have := hplm _ (getD_mem (dd := ([], 0)) h4); omega) | (have := hxv _ (getD_mem (dd := ([], [])) hr1.2.1); have := this.2.1 _ (getD_mem (dd := []) h3); omega) | (simp only [List.length_append, List.length_cons, List.length_nil]; omega) | decide)) ⟨rfl, rfl, trivial⟩ rfl (⟨⟨rfl, .tail _ (.tail _ (.tail _ (.head _)))⟩, trivial⟩) (fun r5 => ?_)
         show J _ _ [.row (r5) 9 .str (allF l (((x.getD azz.toNat ([], []))).1)), .imm (.list .str) (e1) (((x.getD azz.toNat ([], []))).2), .fact (fun w_ I_ => ElemAt w_ I_ (xv) (azz.toNat) 2 [str (((x.getD azz.toNat ([], []))).1), e1]), .imm (.list (.pair .str (.list .str))) (xv) (x), .imm (.list (.pair .str .str)) (lv) (l)] _
         refine jo_run (j := 12) (want := false) rfl rfl (by rw [decide_eq_true hd2] <;> rfl) ?_
         refine jo_pure rfl (pr_len_row rfl (.head _) Tryz.underlying29) ?_
         refine jo_run (j := 12) (want := false) rfl rfl (by rw [decide_eq_true hd2] <;> rfl) ?_
         refine jo_pure rfl (pr_gtrN (m := (allF l (((x.getD azz.toNat ([], []))).1)).length) (n := 50) rfl rfl) ?_
         refine jo_pure rfl (pr_pick_f rfl (by rw [decide_eq_true hd2] <;> rfl) rfl) ?_
         refine jo_pure rfl (pr_move rfl) (jo_run (j := 23) (want := false) rfl rfl (decide_eq_false (by omega)) ?_)
         refine jo_pure rfl (pr_move rfl) (jo_run (j := 23) (want := false) rfl rfl (decide_eq_false (by omega)) ?_)
         refine jo_callp cal_23 (c_ref01_Split rr (by first | omega | exact hl | exact hm | exact hlx | exact hmx | exact hxl | exact hxv | exact hav | exact hlenl | exact hmeml | exact hmem3l | exact hmem6l | exact hone3 | exact hone6 | exact hgl | exact hmem6 | exact hm1l | exact hm1m | exact hm2l | exact hm2m | (have := hplm _ (getD_mem (dd := ([], 0)) h4); omega) | (have := hxv _ (getD_mem (dd := ([], [])) hr1.2.1); have := this.2.1 _ (getD_mem (dd := []) h3); omega) | (simp only [List.length_append, List.length_cons, List.length_nil]; omega) | decide)) ⟨rfl, trivial⟩ rfl (trivial) (fun r6 => ?_)
         show J _ _ [.row (r6) 9 .str (splitF rr), .row (r5) 9 .str (allF l (((x.getD azz.toNat ([], []))).1)), .imm (.list .str) (e1) (((x.getD azz.toNat ([], []))).2), .fact (fun w_ I_ => ElemAt w_ I_ (xv) (azz.toNat) 2 [str (((x.getD azz.toNat ([], []))).1), e1]), .imm (.list (.pair .str (.list .str))) (xv) (x), .imm (.list (.pair .str .str)) (lv) (l)] _
         refine jo_run (j := 23) (want := false) rfl rfl (decide_eq_false (by omega)) ?_
         refine jo_pure rfl (pr_len_row rfl (.head _) Tryz.underlying29) ?_
         refine jo_run (j := 23) (want := false) rfl rfl (decide_eq_false (by omega)) ?_
         refine jo_pure rfl (pr_neqN (m := (splitF rr).length) (n := 1) rfl rfl) ?_
         refine jo_pure rfl (pr_pick_f rfl (decide_eq_false (by omega)) rfl) ?_
         refine jo_pure rfl (pr_move rfl) (jo_skipu (j := 29) (want := false) rfl rfl (by rw [decide_eq_false hd4] <;> rfl) rfl ?_)
         refine jo_skipu (j := 29) (want := false) rfl rfl (by rw [decide_eq_false hd4] <;> rfl) rfl ?_
         refine jo_skipu (j := 29) (want := false) rfl rfl (by rw [decide_eq_false hd4] <;> rfl) rfl ?_
         refine jo_skipu (j := 29) (want := false) rfl rfl (by rw [decide_eq_false hd4] <;> rfl) rfl ?_
         refine jo_skipu (j := 29) (want := false) rfl rfl (by rw [decide_eq_false hd4] <;> rfl) rfl ?_
         refine jo_pure rfl (pr_pick_t rfl (by rw [decide_eq_false hd4] <;> rfl) rfl) ?_
         refine jo_nil (jq_then (jc_true rfl (rfl) ?_))
         refine jc_seq (jc_region (jo_pure rfl (pr_assign rfl) (jo_nil (jq_then (jc_ret ?_)))))
         refine jq_then_ret (j_drop (j_drop (j_drop (j_drop (j_drop ?_)))))
         refine j_drop ?_
         exact jq_ret1 rfl () rfl (show (.bool (true) : Value) = (.bool (true)) from rfl) (fun _ h => h)
       ·skip
        refine jc_region (jo_pure rfl (pr_move rfl) (jo_pure rfl (pr_eql (n := 0) rfl rfl) ?_))
        refine jo_pure rfl (pr_move rfl) (jo_run (j := 2) (want := false) rfl rfl (decide_eq_false (by omega)) ?_)
        refine jo_pure rfl (pr_move rfl) (jo_run (j := 2) (want := false) rfl rfl (decide_eq_false (by omega)) ?_)
        refine jo_pure rfl (pr_move rfl) (jo_run (j := 2) (want := false) rfl rfl (decide_eq_false (by omega)) ?_)
        refine jo_pure rfl (pr_move rfl) (jo_run (j := 2) (want := false) rfl rfl (decide_eq_false (by omega)) ?_)
        refine jo_pure rfl (pr_idx_imm (i := azz.toNat) rfl (.tail _ (.tail _ (.head _))) rfl Tryz.underlying22 ty_32 (by omega)) ?_
        refine jo_run (j := 2) (want := false) rfl rfl (decide_eq_false (by omega)) ?_
        refine jo_pure rfl (pr_fieldAddr_imm (i := azz.toNat) rfl (.tail _ (.tail _ (.head _))) Tryz.underlying32 rfl ty_9 rfl rfl (by omega)) ?_
        refine jo_run (j := 2) (want := false) rfl rfl (decide_eq_false (by omega)) ?_
        refine jo_pure rfl (pr_load_off_at (o := 0) (str (((x.getD azz.toNat ([], []))).1)) rfl (.tail _ (.head _)) ty_9 (by decide) rfl rfl) ?_
        refine jo_run (j := 2) (want := false) rfl rfl (decide_eq_false (by omega)) ?_
        refine jo_callp cal_28 (c_ref01_Has l lv (((x.getD azz.toNat ([], []))).1) (by first | omega | exact hl | exact hm | exact hlx | exact hmx | exact hxl | exact hxv | exact hav | exact hlenl | exact hmeml | exact hmem3l | exact hmem6l | exact hone3 | exact hone6 | exact hgl | exact hmem6 | exact hm1l | exact hm1m | exact hm2l | exact hm2m | (have := hplm _ (getD_mem (dd := ([], 0)) h4); omega) | (have := hxv _ (getD_mem (dd := ([], [])) hr1.2.1); have := this.2.1 _ (getD_mem (dd := []) h3); omega) | (simp only [List.length_append, List.length_cons, List.length_nil]; omega) | decide) (by first | omega | exact hl | exact hm | exact hlx | exact hmx | exact hxl | exact hxv | exact hav | exact hlenl | exact hmeml | exact hmem3l | exact hmem6l | exact hone3 | exact hone6 | exact hgl | exact hmem6 | exact hm1l | exact hm1m | exact hm2l | exact hm2m | (have := hplm _ (getD_mem (dd := ([], 0)) h4); omega) | (have := hxv _ (getD_mem (dd := ([], [])) hr1.2.1); have := this.2.1 _ (getD_mem (dd := []) h3); omega) | (simp only [List.length_append, List.length_cons, List.length_nil]; omega) | decide) (by first | omega | exact hl | exact hm | exact hlx | exact hmx | exact hxl | exact hxv | exact hav | exact hlenl | exact hmeml | exact hmem3l | exact hmem6l | exact hone3 | exact hone6 | exact hgl | exact hmem6 | exact hm1l | exact hm1m | exact hm2l | exact hm2m | (have := hplm _ (getD_mem (dd := ([], 0)) h4); omega) | (have := hxv _ (getD_mem (dd := ([], [])) hr1.2.1); have := this.2.1 _ (getD_mem (dd := []) h3); omega) | (simp only [List.length_append, List.length_cons, List.length_nil]; omega) | decide)) ⟨rfl, rfl, trivial⟩ rfl (⟨⟨rfl, .tail _ (.tail _ (.tail _ (.head _)))⟩, trivial⟩) (fun _ => ?_)
        refine jo_run (j := 2) (want := false) rfl rfl (decide_eq_false (by omega)) ?_
        refine jo_pure rfl (pr_not rfl) ?_
        refine jo_pure rfl (pr_pick_f rfl (decide_eq_false (by omega)) rfl) ?_
        refine jo_pure rfl (pr_move rfl) (jo_run (j := 12) (want := false) rfl rfl (by rw [decide_eq_true hd2] <;> rfl) ?_)
        refine jo_pure rfl (pr_move rfl) (jo_run (j := 12) (want := false) rfl rfl (by rw [decide_eq_true hd2] <;> rfl) ?_)
        refine jo_pure rfl (pr_move rfl) (jo_run (j := 12) (want := false) rfl rfl (by rw [decide_eq_true hd2] <;> rfl) ?_)
        refine jo_pure rfl (pr_move rfl) (jo_run (j := 12) (want := false) rfl rfl (by rw [decide_eq_true hd2] <;> rfl) ?_)
        refine jo_pure rfl (pr_idx_imm (i := azz.toNat) rfl (.tail _ (.tail _ (.head _))) rfl Tryz.underlying22 ty_32 (by omega)) ?_
        refine jo_run (j := 12) (want := false) rfl rfl (by rw [decide_eq_true hd2] <;> rfl) ?_
        refine jo_pure rfl (pr_fieldAddr_imm (i := azz.toNat) rfl (.tail _ (.tail _ (.head _))) Tryz.underlying32 rfl ty_9 rfl rfl (by omega)) ?_
        refine jo_run (j := 12) (want := false) rfl rfl (by rw [decide_eq_true hd2] <;> rfl) ?_
        refine jo_pure rfl (pr_load_off_at (o := 0) (str (((x.getD azz.toNat ([], []))).1)) rfl (.tail _ (.head _)) ty_9 (by decide) rfl rfl) ?_
        refine jo_run (j := 12) (want := false) rfl rfl (by rw [decide_eq_true hd2] <;> rfl) ?_
        refine jo_callp cal_29 (c_ref01_All l lv (((x.getD azz.toNat ([], []))).1) (by first | omega | exact hl | exact hm | exact hlx | exact hmx | exact hxl | exact hxv | exact hav | exact hlenl | exact hmeml | exact hmem3l | exact hmem6l | exact hone3 | exact hone6 | exact hgl | exact hmem6 | exact hm1l | exact hm1m | exact hm2l | exact hm2m | (have := hplm _ (getD_mem (dd := ([], 0)) h4); omega) | (have := hxv _ (getD_mem (dd := ([], [])) hr1.2.1); have := this.2.1 _ (getD_mem (dd := []) h3); omega) | (simp only [List.length_append, List.length_cons, List.length_nil]; omega) | decide) (by first | omega | exact hl | exact hm | exact hlx | exact hmx | exact hxl | exact hxv | exact hav | exact hlenl | exact hmeml | exact hmem3l | exact hmem6l | exact hone3 | exact hone6 | exact hgl | exact hmem6 | exact hm1l | exact hm1m | exact hm2l | exact hm2m | (have := hplm _ (getD_mem (dd := ([], 0)) h4); omega) | (have := hxv _ (getD_mem (dd := ([], [])) hr1.2.1); have := this.2.1 _ (getD_mem (dd := []) h3); omega) | (simp only [List.length_append, List.length_cons, List.length_nil]; omega) | decide) (by first | omega | exact hl | exact hm | exact hlx | exact hmx | exact hxl | exact hxv | exact hav | exact hlenl | exact hmeml | exact hmem3l | exact hmem6l | exact hone3 | exact hone6 | exact hgl | exact hmem6 | exact hm1l | exact hm1m | exact hm2l | exact hm2m | (have := hplm _ (getD_mem (dd := ([], 0)) h4); omega) | (have := hxv _ (getD_mem (dd := ([], [])) hr1.2.1); have := this.2.1 _ (getD_mem (dd := []) h3); omega) | (simp only [List.length_append, List.length_cons, List.length_nil]; omega) | decide)) ⟨rfl, rfl, trivial⟩ rfl (⟨⟨rfl, .tail _ (.tail _ (.tail _ (.head _)))⟩, trivial⟩) (fun r7 => ?_)
        show J _ _ [.row (r7) 9 .str (allF l (((x.getD azz.toNat ([], []))).1)), .imm (.list .str) (e1) (((x.getD azz.toNat ([], []))).2), .fact (fun w_ I_ => ElemAt w_ I_ (xv) (azz.toNat) 2 [str (((x.getD azz.toNat ([], []))).1), e1]), .imm (.list (.pair .str (.list .str))) (xv) (x), .imm (.list (.pair .str .str)) (lv) (l)] _
        refine jo_run (j := 12) (want := false) rfl rfl (by rw [decide_eq_true hd2] <;> rfl) ?_
        refine jo_pure rfl (pr_len_row rfl (.head _) Tryz.underlying29) ?_
        refine jo_run (j := 12) (want := false) rfl rfl (by rw [decide_eq_true hd2] <;> rfl) ?_
        refine jo_pure rfl (pr_gtrN (m := (allF l (((x.getD azz.toNat ([], []))).1)).length) (n := 50) rfl rfl) ?_
        refine jo_pure rfl (pr_pick_f rfl (by rw [decide_eq_true hd2] <;> rfl) rfl) ?_
        refine jo_pure rfl (pr_move rfl) (jo_skipu (j := 23) (want := false) rfl rfl (decide_eq_true (by omega)) rfl ?_)
        refine jo_skipu (j := 23) (want := false) rfl rfl (decide_eq_true (by omega)) rfl ?_
        refine jo_skipu (j := 23) (want := false) rfl rfl (decide_eq_true (by omega)) rfl ?_
        refine jo_skipu (j := 23) (want := false) rfl rfl (decide_eq_true (by omega)) rfl ?_
        refine jo_pure rfl (pr_pick_t rfl (decide_eq_true (by omega)) rfl) ?_
        refine jo_pure rfl (pr_move rfl) (jo_skipu (j := 29) (want := false) rfl rfl (rfl) rfl ?_)
        refine jo_skipu (j := 29) (want := false) rfl rfl (rfl) rfl ?_
        refine jo_skipu (j := 29) (want := false) rfl rfl (rfl) rfl ?_
        refine jo_skipu (j := 29) (want := false) rfl rfl (rfl) rfl ?_
        refine jo_skipu (j := 29) (want := false) rfl rfl (rfl) rfl ?_
        refine jo_pure rfl (pr_pick_t rfl (rfl) rfl) ?_
        refine jo_nil (jq_then (jc_true rfl (rfl) ?_))
        refine jc_seq (jc_region (jo_pure rfl (pr_assign rfl) (jo_nil (jq_then (jc_ret ?_)))))
        refine jq_then_ret (j_drop (j_drop (j_drop (j_drop (j_drop ?_)))))
        exact jq_ret1 rfl () rfl (show (.bool (true) : Value) = (.bool (true)) from rfl) (fun _ h => h)
      ·skip
       refine jc_region (jo_pure rfl (pr_move rfl) (jo_pure rfl (pr_eql (n := 0) rfl rfl) ?_))
       refine jo_pure rfl (pr_move rfl) (jo_run (j := 2) (want := false) rfl rfl (decide_eq_false (by omega)) ?_)
       refine jo_pure rfl (pr_move rfl) (jo_run (j := 2) (want := false) rfl rfl (decide_eq_false (by omega)) ?_)
       refine jo_pure rfl (pr_move rfl) (jo_run (j := 2) (want := false) rfl rfl (decide_eq_false (by omega)) ?_)
       refine jo_pure rfl (pr_move rfl) (jo_run (j := 2) (want := false) rfl rfl (decide_eq_false (by omega)) ?_)
       refine jo_pure rfl (pr_idx_imm (i := azz.toNat) rfl (.tail _ (.tail _ (.head _))) rfl Tryz.underlying22 ty_32 (by omega)) ?_
       refine jo_run (j := 2) (want := false) rfl rfl (decide_eq_false (by omega)) ?_
       refine jo_pure rfl (pr_fieldAddr_imm (i := azz.toNat) rfl (.tail _ (.tail _ (.head _))) Tryz.underlying32 rfl ty_9 rfl rfl (by omega)) ?_
       refine jo_run (j := 2) (want := false) rfl rfl (decide_eq_false (by omega)) ?_
       refine jo_pure rfl (pr_load_off_at (o := 0) (str (((x.getD azz.toNat ([], []))).1)) rfl (.tail _ (.head _)) ty_9 (by decide) rfl rfl) ?_
       refine jo_run (j := 2) (want := false) rfl rfl (decide_eq_false (by omega)) ?_
       refine jo_callp cal_28 (c_ref01_Has l lv (((x.getD azz.toNat ([], []))).1) (by first | omega | exact hl | exact hm | exact hlx | exact hmx | exact hxl | exact hxv | exact hav | exact hlenl | exact hmeml | exact hmem3l | exact hmem6l | exact hone3 | exact hone6 | exact hgl | exact hmem6 | exact hm1l | exact hm1m | exact hm2l | exact hm2m | (have := hplm _ (getD_mem (dd := ([], 0)) h4); omega) | (have := hxv _ (getD_mem (dd := ([], [])) hr1.2.1); have := this.2.1 _ (getD_mem (dd := []) h3); omega) | (simp only [List.length_append, List.length_cons, List.length_nil]; omega) | decide) (by first | omega | exact hl | exact hm | exact hlx | exact hmx | exact hxl | exact hxv | exact hav | exact hlenl | exact hmeml | exact hmem3l | exact hmem6l | exact hone3 | exact hone6 | exact hgl | exact hmem6 | exact hm1l | exact hm1m | exact hm2l | exact hm2m | (have := hplm _ (getD_mem (dd := ([], 0)) h4); omega) | (have := hxv _ (getD_mem (dd := ([], [])) hr1.2.1); have := this.2.1 _ (getD_mem (dd := []) h3); omega) | (simp only [List.length_append, List.length_cons, List.length_nil]; omega) | decide) (by first | omega | exact hl | exact hm | exact hlx | exact hmx | exact hxl | exact hxv | exact hav | exact hlenl | exact hmeml | exact hmem3l | exact hmem6l | exact hone3 | exact hone6 | exact hgl | exact hmem6 | exact hm1l | exact hm1m | exact hm2l | exact hm2m | (have := hplm _ (getD_mem (dd := ([], 0)) h4); omega) | (have := hxv _ (getD_mem (dd := ([], [])) hr1.2.1); have := this.2.1 _ (getD_mem (dd := []) h3); omega) | (simp only [List.length_append, List.length_cons, List.length_nil]; omega) | decide)) ⟨rfl, rfl, trivial⟩ rfl (⟨⟨rfl, .tail _ (.tail _ (.tail _ (.head _)))⟩, trivial⟩) (fun _ => ?_)
       refine jo_run (j := 2) (want := false) rfl rfl (decide_eq_false (by omega)) ?_
       refine jo_pure rfl (pr_not rfl) ?_
       refine jo_pure rfl (pr_pick_f rfl (decide_eq_false (by omega)) rfl) ?_
       refine jo_pure rfl (pr_move rfl) (jo_skipu (j := 12) (want := false) rfl rfl (by rw [decide_eq_false hd2] <;> rfl) rfl ?_)
       refine jo_skipu (j := 12) (want := false) rfl rfl (by rw [decide_eq_false hd2] <;> rfl) rfl ?_
       refine jo_skipu (j := 12) (want := false) rfl rfl (by rw [decide_eq_false hd2] <;> rfl) rfl ?_
       refine jo_skipu (j := 12) (want := false) rfl rfl (by rw [decide_eq_false hd2] <;> rfl) rfl ?_
       refine jo_skipu (j := 12) (want := false) rfl rfl (by rw [decide_eq_false hd2] <;> rfl) rfl ?_
       refine jo_skipu (j := 12) (want := false) rfl rfl (by rw [decide_eq_false hd2] <;> rfl) rfl ?_
       refine jo_skipu (j := 12) (want := false) rfl rfl (by rw [decide_eq_false hd2] <;> rfl) rfl ?_
       refine jo_skipu (j := 12) (want := false) rfl rfl (by rw [decide_eq_false hd2] <;> rfl) rfl ?_
       refine jo_skipu (j := 12) (want := false) rfl rfl (by rw [decide_eq_false hd2] <;> rfl) rfl ?_
       refine jo_pure rfl (pr_pick_t rfl (by rw [decide_eq_false hd2] <;> rfl) rfl) ?_
       refine jo_pure rfl (pr_move rfl) (jo_skipu (j := 23) (want := false) rfl rfl (rfl) rfl ?_)
       refine jo_skipu (j := 23) (want := false) rfl rfl (rfl) rfl ?_
       refine jo_skipu (j := 23) (want := false) rfl rfl (rfl) rfl ?_
       refine jo_skipu (j := 23) (want := false) rfl rfl (rfl) rfl ?_
       refine jo_pure rfl (pr_pick_t rfl (rfl) rfl) ?_
       refine jo_pure rfl (pr_move rfl) (jo_skipu (j := 29) (want := false) rfl rfl (rfl) rfl ?_)
       refine jo_skipu (j := 29) (want := false) rfl rfl (rfl) rfl ?_
       refine jo_skipu (j := 29) (want := false) rfl rfl (rfl) rfl ?_
       refine jo_skipu (j := 29) (want := false) rfl rfl (rfl) rfl ?_
       refine jo_skipu (j := 29) (want := false) rfl rfl (rfl) rfl ?_
       refine jo_pure rfl (pr_pick_t rfl (rfl) rfl) ?_
       refine jo_nil (jq_then (jc_true rfl (rfl) ?_))
       refine jc_seq (jc_region (jo_pure rfl (pr_assign rfl) (jo_nil (jq_then (jc_ret ?_)))))
       refine jq_then_ret (j_drop (j_drop (j_drop (j_drop ?_))))
       exact jq_ret1 rfl () rfl (show (.bool (true) : Value) = (.bool (true)) from rfl) (fun _ h => h)
     ·skip
      refine jc_region (jo_pure rfl (pr_move rfl) (jo_pure rfl (pr_eql (n := 0) rfl rfl) ?_))
      refine jo_pure rfl (pr_move rfl) (jo_skipu (j := 2) (want := false) rfl rfl (decide_eq_true (by omega)) rfl ?_)
      refine jo_skipu (j := 2) (want := false) rfl rfl (decide_eq_true (by omega)) rfl ?_
      refine jo_skipu (j := 2) (want := false) rfl rfl (decide_eq_true (by omega)) rfl ?_
      refine jo_skipu (j := 2) (want := false) rfl rfl (decide_eq_true (by omega)) rfl ?_
      refine jo_skipu (j := 2) (want := false) rfl rfl (decide_eq_true (by omega)) rfl ?_
      refine jo_skipu (j := 2) (want := false) rfl rfl (decide_eq_true (by omega)) rfl ?_
      refine jo_skipu (j := 2) (want := false) rfl rfl (decide_eq_true (by omega)) rfl ?_
      refine jo_skipu (j := 2) (want := false) rfl rfl (decide_eq_true (by omega)) rfl ?_
      refine jo_pure rfl (pr_pick_t rfl (decide_eq_true (by omega)) rfl) ?_
      refine jo_pure rfl (pr_move rfl) (jo_skipu (j := 12) (want := false) rfl rfl (rfl) rfl ?_)
      refine jo_skipu (j := 12) (want := false) rfl rfl (rfl) rfl ?_
      refine jo_skipu (j := 12) (want := false) rfl rfl (rfl) rfl ?_
      refine jo_skipu (j := 12) (want := false) rfl rfl (rfl) rfl ?_
      refine jo_skipu (j := 12) (want := false) rfl rfl (rfl) rfl ?_
      refine jo_skipu (j := 12) (want := false) rfl rfl (rfl) rfl ?_
      refine jo_skipu (j := 12) (want := false) rfl rfl (rfl) rfl ?_
      refine jo_skipu (j := 12) (want := false) rfl rfl (rfl) rfl ?_
      refine jo_skipu (j := 12) (want := false) rfl rfl (rfl) rfl ?_
      refine jo_pure rfl (pr_pick_t rfl (rfl) rfl) ?_
      refine jo_pure rfl (pr_move rfl) (jo_skipu (j := 23) (want := false) rfl rfl (rfl) rfl ?_)
      refine jo_skipu (j := 23) (want := false) rfl rfl (rfl) rfl ?_
      refine jo_skipu (j := 23) (want := false) rfl rfl (rfl) rfl ?_
      refine jo_skipu (j := 23) (want := false) rfl rfl (rfl) rfl ?_
      refine jo_pure rfl (pr_pick_t rfl (rfl) rfl) ?_
      refine jo_pure rfl (pr_move rfl) (jo_skipu (j := 29) (want := false) rfl rfl (rfl) rfl ?_)
      refine jo_skipu (j := 29) (want := false) rfl rfl (rfl) rfl ?_
      refine jo_skipu (j := 29) (want := false) rfl rfl (rfl) rfl ?_
      refine jo_skipu (j := 29) (want := false) rfl rfl (rfl) rfl ?_
      refine jo_skipu (j := 29) (want := false) rfl rfl (rfl) rfl ?_
      refine jo_pure rfl (pr_pick_t rfl (rfl) rfl) ?_
      refine jo_nil (jq_then (jc_true rfl (rfl) ?_))
      refine jc_seq (jc_region (jo_pure rfl (pr_assign rfl) (jo_nil (jq_then (jc_ret ?_)))))
      refine jq_then_ret (j_drop (j_drop (j_drop (j_drop ?_))))
      exact jq_ret1 rfl () rfl (show (.bool (true) : Value) = (.bool (true)) from rfl) (fun _ h => h)
   ·skip
    refine jc_region (jo_pure rfl (pr_move rfl) ?_)
    refine jo_callp cal_15 (c_keep_Axes x xv (by first | omega | exact hl | exact hm | exact hlx | exact hmx | exact hxl | exact hxv | exact hav | exact hlenl | exact hmeml | exact hmem3l | exact hmem6l | exact hone3 | exact hone6 | exact hgl | exact hmem6 | exact hm1l | exact hm1m | exact hm2l | exact hm2m | (have := hplm _ (getD_mem (dd := ([], 0)) h4); omega) | (have := hxv _ (getD_mem (dd := ([], [])) hr1.2.1); have := this.2.1 _ (getD_mem (dd := []) h3); omega) | (simp only [List.length_append, List.length_cons, List.length_nil]; omega) | decide) (by first | omega | exact hl | exact hm | exact hlx | exact hmx | exact hxl | exact hxv | exact hav | exact hlenl | exact hmeml | exact hmem3l | exact hmem6l | exact hone3 | exact hone6 | exact hgl | exact hmem6 | exact hm1l | exact hm1m | exact hm2l | exact hm2m | (have := hplm _ (getD_mem (dd := ([], 0)) h4); omega) | (have := hxv _ (getD_mem (dd := ([], [])) hr1.2.1); have := this.2.1 _ (getD_mem (dd := []) h3); omega) | (simp only [List.length_append, List.length_cons, List.length_nil]; omega) | decide)) ⟨rfl, trivial⟩ rfl (⟨⟨rfl, .head _⟩, trivial⟩) (fun _ => ?_)
    refine jo_pure rfl (pr_not rfl) ?_
    refine jo_pure rfl (pr_move rfl) (jo_run (j := 3) (want := false) rfl rfl (by rw [hz]; rfl) ?_)
    refine jo_pure rfl (pr_move rfl) (jo_run (j := 3) (want := false) rfl rfl (by rw [hz]; rfl) ?_)
    refine jo_callp cal_22 (c_ref10_Valid x xv (by first | omega | exact hl | exact hm | exact hlx | exact hmx | exact hxl | exact hxv | exact hav | exact hlenl | exact hmeml | exact hmem3l | exact hmem6l | exact hone3 | exact hone6 | exact hgl | exact hmem6 | exact hm1l | exact hm1m | exact hm2l | exact hm2m | (have := hplm _ (getD_mem (dd := ([], 0)) h4); omega) | (have := hxv _ (getD_mem (dd := ([], [])) hr1.2.1); have := this.2.1 _ (getD_mem (dd := []) h3); omega) | (simp only [List.length_append, List.length_cons, List.length_nil]; omega) | decide) (by first | omega | exact hl | exact hm | exact hlx | exact hmx | exact hxl | exact hxv | exact hav | exact hlenl | exact hmeml | exact hmem3l | exact hmem6l | exact hone3 | exact hone6 | exact hgl | exact hmem6 | exact hm1l | exact hm1m | exact hm2l | exact hm2m | (have := hplm _ (getD_mem (dd := ([], 0)) h4); omega) | (have := hxv _ (getD_mem (dd := ([], [])) hr1.2.1); have := this.2.1 _ (getD_mem (dd := []) h3); omega) | (simp only [List.length_append, List.length_cons, List.length_nil]; omega) | decide)) ⟨rfl, trivial⟩ rfl (⟨⟨rfl, .head _⟩, trivial⟩) (fun _ => ?_)
    refine jo_run (j := 3) (want := false) rfl rfl (by rw [hz]; rfl) ?_
    refine jo_pure rfl (pr_not rfl) ?_
    refine jo_pure rfl (pr_pick_f rfl (by rw [hz]; rfl) rfl) ?_
    refine jo_pure rfl (pr_move rfl) (jo_run (j := 8) (want := false) rfl rfl (by rw [hv]; rfl) ?_)
    refine jo_pure rfl (pr_move rfl) (jo_run (j := 8) (want := false) rfl rfl (by rw [hv]; rfl) ?_)
    refine jo_callp cal_16 (c_keep_Fields l lv (by first | omega | exact hl | exact hm | exact hlx | exact hmx | exact hxl | exact hxv | exact hav | exact hlenl | exact hmeml | exact hmem3l | exact hmem6l | exact hone3 | exact hone6 | exact hgl | exact hmem6 | exact hm1l | exact hm1m | exact hm2l | exact hm2m | (have := hplm _ (getD_mem (dd := ([], 0)) h4); omega) | (have := hxv _ (getD_mem (dd := ([], [])) hr1.2.1); have := this.2.1 _ (getD_mem (dd := []) h3); omega) | (simp only [List.length_append, List.length_cons, List.length_nil]; omega) | decide)) ⟨rfl, trivial⟩ rfl (⟨⟨rfl, .tail _ (.head _)⟩, trivial⟩) (fun _ => ?_)
    refine jo_run (j := 8) (want := false) rfl rfl (by rw [hv]; rfl) ?_
    refine jo_pure rfl (pr_not rfl) ?_
    refine jo_pure rfl (pr_pick_f rfl (by rw [hv]; rfl) rfl) ?_
    refine jo_pure rfl (pr_move rfl) (jo_skipu (j := 13) (want := false) rfl rfl (by simpa using hkl) rfl ?_)
    refine jo_skipu (j := 13) (want := false) rfl rfl (by simpa using hkl) rfl ?_
    refine jo_pure rfl (pr_pick_t rfl (by simpa using hkl) rfl) ?_
    refine jo_pure rfl (pr_move rfl) (jo_skipu (j := 17) (want := false) rfl rfl (rfl) rfl ?_)
    refine jo_skipu (j := 17) (want := false) rfl rfl (rfl) rfl ?_
    refine jo_skipu (j := 17) (want := false) rfl rfl (rfl) rfl ?_
    refine jo_skipu (j := 17) (want := false) rfl rfl (rfl) rfl ?_
    refine jo_pure rfl (pr_pick_t rfl (rfl) rfl) ?_
    refine jo_pure rfl (pr_move rfl) (jo_skipu (j := 23) (want := false) rfl rfl (rfl) rfl ?_)
    refine jo_skipu (j := 23) (want := false) rfl rfl (rfl) rfl ?_
    refine jo_skipu (j := 23) (want := false) rfl rfl (rfl) rfl ?_
    refine jo_pure rfl (pr_pick_t rfl (rfl) rfl) ?_
    refine jo_pure rfl (pr_move rfl) (jo_skipu (j := 28) (want := false) rfl rfl (rfl) rfl ?_)
    refine jo_skipu (j := 28) (want := false) rfl rfl (rfl) rfl ?_
    refine jo_pure rfl (pr_pick_t rfl (rfl) rfl) ?_
    refine jo_pure rfl (pr_move rfl) (jo_skipu (j := 32) (want := false) rfl rfl (rfl) rfl ?_)
    refine jo_skipu (j := 32) (want := false) rfl rfl (rfl) rfl ?_
    refine jo_pure rfl (pr_pick_t rfl (rfl) rfl) ?_
    refine jo_nil (jq_then (jc_true rfl (rfl) ?_))
    refine jc_seq (jc_region (jo_pure rfl (pr_assign rfl) (jo_nil (jq_then (jc_ret ?_)))))
    refine jq_then_ret (j_drop (j_drop ?_))
    exact jq_ret1 rfl () rfl (show (.bool (true) : Value) = (.bool (true)) from rfl) (fun _ h => h)
  ·skip
   refine jc_region (jo_pure rfl (pr_move rfl) ?_)
   refine jo_callp cal_15 (c_keep_Axes x xv (by first | omega | exact hl | exact hm | exact hlx | exact hmx | exact hxl | exact hxv | exact hav | exact hlenl | exact hmeml | exact hmem3l | exact hmem6l | exact hone3 | exact hone6 | exact hgl | exact hmem6 | exact hm1l | exact hm1m | exact hm2l | exact hm2m | (have := hplm _ (getD_mem (dd := ([], 0)) h4); omega) | (have := hxv _ (getD_mem (dd := ([], [])) hr1.2.1); have := this.2.1 _ (getD_mem (dd := []) h3); omega) | (simp only [List.length_append, List.length_cons, List.length_nil]; omega) | decide) (by first | omega | exact hl | exact hm | exact hlx | exact hmx | exact hxl | exact hxv | exact hav | exact hlenl | exact hmeml | exact hmem3l | exact hmem6l | exact hone3 | exact hone6 | exact hgl | exact hmem6 | exact hm1l | exact hm1m | exact hm2l | exact hm2m | (have := hplm _ (getD_mem (dd := ([], 0)) h4); omega) | (have := hxv _ (getD_mem (dd := ([], [])) hr1.2.1); have := this.2.1 _ (getD_mem (dd := []) h3); omega) | (simp only [List.length_append, List.length_cons, List.length_nil]; omega) | decide)) ⟨rfl, trivial⟩ rfl (⟨⟨rfl, .head _⟩, trivial⟩) (fun _ => ?_)
   refine jo_pure rfl (pr_not rfl) ?_
   refine jo_pure rfl (pr_move rfl) (jo_run (j := 3) (want := false) rfl rfl (by rw [hz]; rfl) ?_)
   refine jo_pure rfl (pr_move rfl) (jo_run (j := 3) (want := false) rfl rfl (by rw [hz]; rfl) ?_)
   refine jo_callp cal_22 (c_ref10_Valid x xv (by first | omega | exact hl | exact hm | exact hlx | exact hmx | exact hxl | exact hxv | exact hav | exact hlenl | exact hmeml | exact hmem3l | exact hmem6l | exact hone3 | exact hone6 | exact hgl | exact hmem6 | exact hm1l | exact hm1m | exact hm2l | exact hm2m | (have := hplm _ (getD_mem (dd := ([], 0)) h4); omega) | (have := hxv _ (getD_mem (dd := ([], [])) hr1.2.1); have := this.2.1 _ (getD_mem (dd := []) h3); omega) | (simp only [List.length_append, List.length_cons, List.length_nil]; omega) | decide) (by first | omega | exact hl | exact hm | exact hlx | exact hmx | exact hxl | exact hxv | exact hav | exact hlenl | exact hmeml | exact hmem3l | exact hmem6l | exact hone3 | exact hone6 | exact hgl | exact hmem6 | exact hm1l | exact hm1m | exact hm2l | exact hm2m | (have := hplm _ (getD_mem (dd := ([], 0)) h4); omega) | (have := hxv _ (getD_mem (dd := ([], [])) hr1.2.1); have := this.2.1 _ (getD_mem (dd := []) h3); omega) | (simp only [List.length_append, List.length_cons, List.length_nil]; omega) | decide)) ⟨rfl, trivial⟩ rfl (⟨⟨rfl, .head _⟩, trivial⟩) (fun _ => ?_)
   refine jo_run (j := 3) (want := false) rfl rfl (by rw [hz]; rfl) ?_
   refine jo_pure rfl (pr_not rfl) ?_
   refine jo_pure rfl (pr_pick_f rfl (by rw [hz]; rfl) rfl) ?_
   refine jo_pure rfl (pr_move rfl) (jo_skipu (j := 8) (want := false) rfl rfl (by simpa using hv) rfl ?_)
   refine jo_skipu (j := 8) (want := false) rfl rfl (by simpa using hv) rfl ?_
   refine jo_skipu (j := 8) (want := false) rfl rfl (by simpa using hv) rfl ?_
   refine jo_pure rfl (pr_pick_t rfl (by simpa using hv) rfl) ?_
   refine jo_pure rfl (pr_move rfl) (jo_skipu (j := 13) (want := false) rfl rfl (rfl) rfl ?_)
   refine jo_skipu (j := 13) (want := false) rfl rfl (rfl) rfl ?_
   refine jo_pure rfl (pr_pick_t rfl (rfl) rfl) ?_
   refine jo_pure rfl (pr_move rfl) (jo_skipu (j := 17) (want := false) rfl rfl (rfl) rfl ?_)
   refine jo_skipu (j := 17) (want := false) rfl rfl (rfl) rfl ?_
   refine jo_skipu (j := 17) (want := false) rfl rfl (rfl) rfl ?_
   refine jo_skipu (j := 17) (want := false) rfl rfl (rfl) rfl ?_
   refine jo_pure rfl (pr_pick_t rfl (rfl) rfl) ?_
   refine jo_pure rfl (pr_move rfl) (jo_skipu (j := 23) (want := false) rfl rfl (rfl) rfl ?_)
   refine jo_skipu (j := 23) (want := false) rfl rfl (rfl) rfl ?_
   refine jo_skipu (j := 23) (want := false) rfl rfl (rfl) rfl ?_
   refine jo_pure rfl (pr_pick_t rfl (rfl) rfl) ?_
   refine jo_pure rfl (pr_move rfl) (jo_skipu (j := 28) (want := false) rfl rfl (rfl) rfl ?_)
   refine jo_skipu (j := 28) (want := false) rfl rfl (rfl) rfl ?_
   refine jo_pure rfl (pr_pick_t rfl (rfl) rfl) ?_
   refine jo_pure rfl (pr_move rfl) (jo_skipu (j := 32) (want := false) rfl rfl (rfl) rfl ?_)
   refine jo_skipu (j := 32) (want := false) rfl rfl (rfl) rfl ?_
   refine jo_pure rfl (pr_pick_t rfl (rfl) rfl) ?_
   refine jo_nil (jq_then (jc_true rfl (rfl) ?_))
   refine jc_seq (jc_region (jo_pure rfl (pr_assign rfl) (jo_nil (jq_then (jc_ret ?_)))))
   refine jq_then_ret (j_drop (j_drop ?_))
   exact jq_ret1 rfl () rfl (show (.bool (true) : Value) = (.bool (true)) from rfl) (fun _ h => h)
 ·skip
  refine jc_region (jo_pure rfl (pr_move rfl) ?_)
  refine jo_callp cal_15 (c_keep_Axes x xv (by first | omega | exact hl | exact hm | exact hlx | exact hmx | exact hxl | exact hxv | exact hav | exact hlenl | exact hmeml | exact hmem3l | exact hmem6l | exact hone3 | exact hone6 | exact hgl | exact hmem6 | exact hm1l | exact hm1m | exact hm2l | exact hm2m | (have := hplm _ (getD_mem (dd := ([], 0)) h4); omega) | (have := hxv _ (getD_mem (dd := ([], [])) hr1.2.1); have := this.2.1 _ (getD_mem (dd := []) h3); omega) | (simp only [List.length_append, List.length_cons, List.length_nil]; omega) | decide) (by first | omega | exact hl | exact hm | exact hlx | exact hmx | exact hxl | exact hxv | exact hav | exact hlenl | exact hmeml | exact hmem3l | exact hmem6l | exact hone3 | exact hone6 | exact hgl | exact hmem6 | exact hm1l | exact hm1m | exact hm2l | exact hm2m | (have := hplm _ (getD_mem (dd := ([], 0)) h4); omega) | (have := hxv _ (getD_mem (dd := ([], [])) hr1.2.1); have := this.2.1 _ (getD_mem (dd := []) h3); omega) | (simp only [List.length_append, List.length_cons, List.length_nil]; omega) | decide)) ⟨rfl, trivial⟩ rfl (⟨⟨rfl, .head _⟩, trivial⟩) (fun _ => ?_)
  refine jo_pure rfl (pr_not rfl) ?_
  refine jo_pure rfl (pr_move rfl) (jo_skipu (j := 3) (want := false) rfl rfl (by simpa using hz) rfl ?_)
  refine jo_skipu (j := 3) (want := false) rfl rfl (by simpa using hz) rfl ?_
  refine jo_skipu (j := 3) (want := false) rfl rfl (by simpa using hz) rfl ?_
  refine jo_pure rfl (pr_pick_t rfl (by simpa using hz) rfl) ?_
  refine jo_pure rfl (pr_move rfl) (jo_skipu (j := 8) (want := false) rfl rfl (rfl) rfl ?_)
  refine jo_skipu (j := 8) (want := false) rfl rfl (rfl) rfl ?_
  refine jo_skipu (j := 8) (want := false) rfl rfl (rfl) rfl ?_
  refine jo_pure rfl (pr_pick_t rfl (rfl) rfl) ?_
  refine jo_pure rfl (pr_move rfl) (jo_skipu (j := 13) (want := false) rfl rfl (rfl) rfl ?_)
  refine jo_skipu (j := 13) (want := false) rfl rfl (rfl) rfl ?_
  refine jo_pure rfl (pr_pick_t rfl (rfl) rfl) ?_
  refine jo_pure rfl (pr_move rfl) (jo_skipu (j := 17) (want := false) rfl rfl (rfl) rfl ?_)
  refine jo_skipu (j := 17) (want := false) rfl rfl (rfl) rfl ?_
  refine jo_skipu (j := 17) (want := false) rfl rfl (rfl) rfl ?_
  refine jo_skipu (j := 17) (want := false) rfl rfl (rfl) rfl ?_
  refine jo_pure rfl (pr_pick_t rfl (rfl) rfl) ?_
  refine jo_pure rfl (pr_move rfl) (jo_skipu (j := 23) (want := false) rfl rfl (rfl) rfl ?_)
  refine jo_skipu (j := 23) (want := false) rfl rfl (rfl) rfl ?_
  refine jo_skipu (j := 23) (want := false) rfl rfl (rfl) rfl ?_
  refine jo_pure rfl (pr_pick_t rfl (rfl) rfl) ?_
  refine jo_pure rfl (pr_move rfl) (jo_skipu (j := 28) (want := false) rfl rfl (rfl) rfl ?_)
  refine jo_skipu (j := 28) (want := false) rfl rfl (rfl) rfl ?_
  refine jo_pure rfl (pr_pick_t rfl (rfl) rfl) ?_
  refine jo_pure rfl (pr_move rfl) (jo_skipu (j := 32) (want := false) rfl rfl (rfl) rfl ?_)
  refine jo_skipu (j := 32) (want := false) rfl rfl (rfl) rfl ?_
  refine jo_pure rfl (pr_pick_t rfl (rfl) rfl) ?_
  refine jo_nil (jq_then (jc_true rfl (rfl) ?_))
  refine jc_seq (jc_region (jo_pure rfl (pr_assign rfl) (jo_nil (jq_then (jc_ret ?_)))))
  refine jq_then_ret (j_drop (j_drop ?_))
  exact jq_ret1 rfl () rfl (show (.bool (true) : Value) = (.bool (true)) from rfl) (fun _ h => h)
end Go.Proofs.YtjbcomdljmfgjaaGreatDoor
