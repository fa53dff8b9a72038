/-
 Contracts of functions of the program: each returns what a plain function says, for every input within the bounds named. Conditions: the bounds.
-/
import Derived.Test.YtjbcomdljmfgjaaGreatDoorRows
import Derived.Test.YtjbcomdljmfgjaaGreatDoorTK7
namespace Go.Proofs.YtjbcomdljmfgjaaGreatDoor
open Go Go.Sep
set_option linter.unusedSimpArgs false
set_option linter.unusedVariables false

open Go.Plain

theorem cal_19 : Cal Tryz.prog 19 := cal_of Tryz.func19 (by kernel_rfl) rfl
theorem cal_21 : Cal Tryz.prog 21 := cal_of Tryz.func21 (by kernel_rfl) rfl
theorem cal_24 : Cal Tryz.prog 24 := cal_of Tryz.func24 (by kernel_rfl) rfl
theorem cal_53 : Cal Tryz.prog 53 := cal_of Tryz.func53 (by kernel_rfl) rfl

theorem c_law18_axes   : Con Tryz.prog 53 #[] [] (fun r1 : Value => r1) (fun r1 => [.imm (.list (.pair .str (.list .str))) r1 ([([97, 99, 99, 101, 112, 116, 45, 108, 97, 110, 103, 117, 97, 103, 101], [[101, 110], [102, 114]]), ([97, 99, 99, 101, 112, 116, 45, 101, 110, 99, 111, 100, 105, 110, 103], [[103, 122, 105, 112], [105, 100, 101, 110, 116, 105, 116, 121]])])]) := by
 refine con_of_J (args := []) (n := 6) Tryz.func53 rfl (Nat.le_of_ble_eq_true rfl) rfl (fun w0 I0 m0 => ?_)
 show J _ [] [] _
 refine jc_seq (jc_region (jo_pure rfl (pr_assign rfl) (jo_nil (jq_then (jc_seq ?_)))))
 refine jc_region ?_
 refine jo_buildSlice (t := .str) [[101, 110], [102, 114]] [str ([101, 110]), str ([102, 114])] (fun a hf => by simp only [List.zipIdx_cons, List.zipIdx_nil, List.map_toArray, List.map_cons, List.map_nil] <;> rfl) rfl Tryz.underlying29 ty_9 rfl rfl rfl rfl rfl (fun g1 => ?_)
 refine jo_pure rfl (pr_build [(0, str ([97, 99, 99, 101, 112, 116, 45, 108, 97, 110, 103, 117, 97, 103, 101])), (1, .slice (some ⟨g1, 0, none⟩) (([[101, 110], [102, 114]]).length) (([[101, 110], [102, 114]]).length))] [str ([97, 99, 99, 101, 112, 116, 45, 108, 97, 110, 103, 117, 97, 103, 101]), .slice (some ⟨g1, 0, none⟩) (([[101, 110], [102, 114]]).length) (([[101, 110], [102, 114]]).length)] (fun a hf => by simp only [List.map_toArray, List.map_cons, List.map_nil, hf.ev (show ev _ (.tmp 1) = some (.slice (some ⟨g1, 0, none⟩) (([[101, 110], [102, 114]]).length) (([[101, 110], [102, 114]]).length)) from rfl)] <;> rfl) (by kernel_rfl)) ?_
 refine jo_buildSlice (t := .str) [[103, 122, 105, 112], [105, 100, 101, 110, 116, 105, 116, 121]] [str ([103, 122, 105, 112]), str ([105, 100, 101, 110, 116, 105, 116, 121])] (fun a hf => by simp only [List.zipIdx_cons, List.zipIdx_nil, List.map_toArray, List.map_cons, List.map_nil] <;> rfl) rfl Tryz.underlying29 ty_9 rfl rfl rfl rfl rfl (fun g2 => ?_)
 refine jo_pure rfl (pr_build [(0, str ([97, 99, 99, 101, 112, 116, 45, 101, 110, 99, 111, 100, 105, 110, 103])), (1, .slice (some ⟨g2, 0, none⟩) (([[103, 122, 105, 112], [105, 100, 101, 110, 116, 105, 116, 121]]).length) (([[103, 122, 105, 112], [105, 100, 101, 110, 116, 105, 116, 121]]).length))] [str ([97, 99, 99, 101, 112, 116, 45, 101, 110, 99, 111, 100, 105, 110, 103]), .slice (some ⟨g2, 0, none⟩) (([[103, 122, 105, 112], [105, 100, 101, 110, 116, 105, 116, 121]]).length) (([[103, 122, 105, 112], [105, 100, 101, 110, 116, 105, 116, 121]]).length)] (fun a hf => by simp only [List.map_toArray, List.map_cons, List.map_nil, hf.ev (show ev _ (.tmp 3) = some (.slice (some ⟨g2, 0, none⟩) (([[103, 122, 105, 112], [105, 100, 101, 110, 116, 105, 116, 121]]).length) (([[103, 122, 105, 112], [105, 100, 101, 110, 116, 105, 116, 121]]).length)) from rfl)] <;> rfl) (by kernel_rfl)) ?_
 refine j_pull1 (j_pub_rowg (j_pull1 (j_pub_rowg ?_)))
 refine jo_buildSliceL (t := (.pair .str (.list .str))) [([97, 99, 99, 101, 112, 116, 45, 108, 97, 110, 103, 117, 97, 103, 101], [[101, 110], [102, 114]]), ([97, 99, 99, 101, 112, 116, 45, 101, 110, 99, 111, 100, 105, 110, 103], [[103, 122, 105, 112], [105, 100, 101, 110, 116, 105, 116, 121]])] [.agg #[str ([97, 99, 99, 101, 112, 116, 45, 108, 97, 110, 103, 117, 97, 103, 101]), .slice (some ⟨g1, 0, none⟩) ([[101, 110], [102, 114]]).length (([[101, 110], [102, 114]]).length)], .agg #[str ([97, 99, 99, 101, 112, 116, 45, 101, 110, 99, 111, 100, 105, 110, 103]), .slice (some ⟨g2, 0, none⟩) ([[103, 122, 105, 112], [105, 100, 101, 110, 116, 105, 116, 121]]).length (([[103, 122, 105, 112], [105, 100, 101, 110, 116, 105, 116, 121]]).length)]] [[str ([97, 99, 99, 101, 112, 116, 45, 108, 97, 110, 103, 117, 97, 103, 101]), .slice (some ⟨g1, 0, none⟩) ([[101, 110], [102, 114]]).length (([[101, 110], [102, 114]]).length)], [str ([97, 99, 99, 101, 112, 116, 45, 101, 110, 99, 111, 100, 105, 110, 103]), .slice (some ⟨g2, 0, none⟩) ([[103, 122, 105, 112], [105, 100, 101, 110, 116, 105, 116, 121]]).length (([[103, 122, 105, 112], [105, 100, 101, 110, 116, 105, 116, 121]]).length)]] (fun a hf => by simp only [List.zipIdx_cons, List.zipIdx_nil, List.map_toArray, List.map_cons, List.map_nil, hf.ev (show ev _ (.tmp 2) = some (.agg #[str ([97, 99, 99, 101, 112, 116, 45, 108, 97, 110, 103, 117, 97, 103, 101]), .slice (some ⟨g1, 0, none⟩) ([[101, 110], [102, 114]]).length (([[101, 110], [102, 114]]).length)]) from rfl), hf.ev (show ev _ (.tmp 4) = some (.agg #[str ([97, 99, 99, 101, 112, 116, 45, 101, 110, 99, 111, 100, 105, 110, 103]), .slice (some ⟨g2, 0, none⟩) ([[103, 122, 105, 112], [105, 100, 101, 110, 116, 105, 116, 121]]).length (([[103, 122, 105, 112], [105, 100, 101, 110, 116, 105, 116, 121]]).length)]) from rfl)] <;> rfl) rfl ⟨⟨[str ([97, 99, 99, 101, 112, 116, 45, 108, 97, 110, 103, 117, 97, 103, 101])], [.slice (some ⟨g1, 0, none⟩) ([[101, 110], [102, 114]]).length (([[101, 110], [102, 114]]).length)], rfl, rfl, ⟨(.slice (some ⟨g1, 0, none⟩) ([[101, 110], [102, 114]]).length (([[101, 110], [102, 114]]).length)), rfl, .tail _ (.head _)⟩⟩, ⟨⟨[str ([97, 99, 99, 101, 112, 116, 45, 101, 110, 99, 111, 100, 105, 110, 103])], [.slice (some ⟨g2, 0, none⟩) ([[103, 122, 105, 112], [105, 100, 101, 110, 116, 105, 116, 121]]).length (([[103, 122, 105, 112], [105, 100, 101, 110, 116, 105, 116, 121]]).length)], rfl, rfl, ⟨(.slice (some ⟨g2, 0, none⟩) ([[103, 122, 105, 112], [105, 100, 101, 110, 116, 105, 116, 121]]).length (([[103, 122, 105, 112], [105, 100, 101, 110, 116, 105, 116, 121]]).length)), rfl, .head _⟩⟩, trivial⟩⟩ Tryz.underlying22 ty_32 rfl rfl rfl rfl (fun g3 => ?_)
 refine jo_pure rfl (pr_assign rfl) (jo_nil (jq_then (jc_ret (j_row_of_rowg ?_))))
 refine j_pub_row (j_pull1 (j_drop (j_pull1 (j_drop ?_))))
 exact jq_ret1 rfl (.slice (some ⟨g3, 0, none⟩) ([([97, 99, 99, 101, 112, 116, 45, 108, 97, 110, 103, 117, 97, 103, 101], [[101, 110], [102, 114]]), ([97, 99, 99, 101, 112, 116, 45, 101, 110, 99, 111, 100, 105, 110, 103], [[103, 122, 105, 112], [105, 100, 101, 110, 116, 105, 116, 121]])]).length (([([97, 99, 99, 101, 112, 116, 45, 108, 97, 110, 103, 117, 97, 103, 101], [[101, 110], [102, 114]]), ([97, 99, 99, 101, 112, 116, 45, 101, 110, 99, 111, 100, 105, 110, 103], [[103, 122, 105, 112], [105, 100, 101, 110, 116, 105, 116, 121]])]).length)) rfl (show (.slice (some ⟨g3, 0, none⟩) ([([97, 99, 99, 101, 112, 116, 45, 108, 97, 110, 103, 117, 97, 103, 101], [[101, 110], [102, 114]]), ([97, 99, 99, 101, 112, 116, 45, 101, 110, 99, 111, 100, 105, 110, 103], [[103, 122, 105, 112], [105, 100, 101, 110, 116, 105, 116, 121]])]).length (([([97, 99, 99, 101, 112, 116, 45, 108, 97, 110, 103, 117, 97, 103, 101], [[101, 110], [102, 114]]), ([97, 99, 99, 101, 112, 116, 45, 101, 110, 99, 111, 100, 105, 110, 103], [[103, 122, 105, 112], [105, 100, 101, 110, 116, 105, 116, 121]])]).length) : Value) = (.slice (some ⟨g3, 0, none⟩) ([([97, 99, 99, 101, 112, 116, 45, 108, 97, 110, 103, 117, 97, 103, 101], [[101, 110], [102, 114]]), ([97, 99, 99, 101, 112, 116, 45, 101, 110, 99, 111, 100, 105, 110, 103], [[103, 122, 105, 112], [105, 100, 101, 110, 116, 105, 116, 121]])]).length (([([97, 99, 99, 101, 112, 116, 45, 108, 97, 110, 103, 117, 97, 103, 101], [[101, 110], [102, 114]]), ([97, 99, 99, 101, 112, 116, 45, 101, 110, 99, 111, 100, 105, 110, 103], [[103, 122, 105, 112], [105, 100, 101, 110, 116, 105, 116, 121]])]).length)) from rfl) (fun _ h => h)

theorem c_law18_awake   : Con Tryz.prog 21 #[] [] (fun _ : Unit => .bool (true)) (fun _ => []) := by
 refine con_of_J (args := []) (n := 4) Tryz.func21 rfl (Nat.le_of_ble_eq_true rfl) rfl (fun w0 I0 m0 => ?_)
 show J _ [] [] _
 refine jc_seq (jc_region (jo_pure rfl (pr_assign rfl) (jo_nil (jq_then (jc_seq ?_)))))
 refine jc_region ?_
 refine jo_callp cal_53 (c_law18_axes) trivial rfl (trivial) (fun r1 => ?_)
 show J _ _ [.imm (.list (.pair .str (.list .str))) (r1) ([([97, 99, 99, 101, 112, 116, 45, 108, 97, 110, 103, 117, 97, 103, 101], [[101, 110], [102, 114]]), ([97, 99, 99, 101, 112, 116, 45, 101, 110, 99, 111, 100, 105, 110, 103], [[103, 122, 105, 112], [105, 100, 101, 110, 116, 105, 116, 121]])])] _
 refine j_nil_imm (.pair .str .str) ?_
 refine jo_callp cal_17 (c_class_Class [([97, 99, 99, 101, 112, 116, 45, 108, 97, 110, 103, 117, 97, 103, 101], [[101, 110], [102, 114]]), ([97, 99, 99, 101, 112, 116, 45, 101, 110, 99, 111, 100, 105, 110, 103], [[103, 122, 105, 112], [105, 100, 101, 110, 116, 105, 116, 121]])] r1 [] (.slice none 0 0) false (by decide +kernel) (by decide +kernel) (by decide +kernel) (by decide +kernel)) ⟨rfl, rfl, rfl, trivial⟩ rfl (⟨⟨rfl, .tail _ (.head _)⟩, ⟨⟨rfl, .head _⟩, trivial⟩⟩) (fun _ => ?_)
 refine jo_pure rfl (pr_seql rfl rfl) ?_
 refine jo_pure rfl (pr_assign rfl) (jo_nil (jq_then (jc_ret (j_drop (j_drop ?_)))))
 exact jq_ret1 rfl () rfl (show (.bool (true) : Value) = (.bool (decide ((classF [([97, 99, 99, 101, 112, 116, 45, 108, 97, 110, 103, 117, 97, 103, 101], [[101, 110], [102, 114]]), ([97, 99, 99, 101, 112, 116, 45, 101, 110, 99, 111, 100, 105, 110, 103], [[103, 122, 105, 112], [105, 100, 101, 110, 116, 105, 116, 121]])] [] false : List UInt8) = [97, 99, 99, 101, 112, 116, 45, 108, 97, 110, 103, 117, 97, 103, 101, 61, 40, 101, 110, 32, 102, 114, 41, 44, 32, 97, 99, 99, 101, 112, 116, 45, 101, 110, 99, 111, 100, 105, 110, 103, 61, 40, 103, 122, 105, 112, 32, 105, 100, 101, 110, 116, 105, 116, 121, 41]))) from congrArg Value.bool (by decide +kernel)) (fun _ h => h)

theorem c_law18_ClassDecides (x : List ((List UInt8) × (List (List UInt8)))) (xv : Value) (l : List ((List UInt8) × (List UInt8))) (lv : Value) (m : List ((List UInt8) × (List UInt8))) (mv : Value) (strict : Bool) (hlx : x.length ≤ 9223372036854775807) (hmx : ∀ a ∈ x, a.2.length ≤ 9223372036854775807) (hl : l.length ≤ 9223372036854775807) (hm : m.length ≤ 9223372036854775807) : Con Tryz.prog 13 #[xv, lv, mv, .bool (strict)] [.imm (.list (.pair .str (.list .str))) (xv) (x), .imm (.list (.pair .str .str)) (lv) (l), .imm (.list (.pair .str .str)) (mv) (m)] (fun _ : Unit => .bool (true)) (fun _ => []) := by
 refine con_of_J (args := [xv, lv, mv, .bool (strict)]) (n := 47) Tryz.func13 rfl (Nat.le_of_ble_eq_true rfl) rfl (fun w0 I0 m0 => ?_)
 show J _ [(0, xv), (1, lv), (2, mv), (3, .bool (strict))] [.imm (.list (.pair .str (.list .str))) (xv) (x), .imm (.list (.pair .str .str)) (lv) (l), .imm (.list (.pair .str .str)) (mv) (m)] _
 refine jc_seq (jc_region (jo_pure rfl (pr_assign rfl) (jo_nil (jq_then (jc_seq ?_)))))
 refine jc_seq ?_
 by_cases hz : keepA x = true
 ·skip
  have hxl : x.length ≤ 1000 := by have := keepA_len (hz); omega
  have hxv : ∀ a ∈ x, a.1.length ≤ 1000000 ∧ (∀ z ∈ a.2, z.length ≤ 300000) ∧ a.2.length ≤ 9223372036854775807 := fun a ha => by have h9 := keepA_mem (hz) a ha; exact ⟨by omega, fun z hz => Nat.le_trans (h9.2.2 z hz) (by omega), by omega⟩
  have hav : ∀ a ∈ x, a.1.length ≤ 300 ∧ a.2.length ≤ 1000 ∧ ∀ z ∈ a.2, z.length ≤ 300 := fun a ha => by have h9 := keepA_mem hz a ha; exact ⟨by omega, by omega, fun z hz => Nat.le_trans (h9.2.2 z hz) (by omega)⟩
  have hav1 : ∀ a ∈ x, a.1.length ≤ 100 := fun a ha => (keepA_mem hz a ha).1
  by_cases hkl : keepF l = true
  ·skip
   have hlenl : l.length ≤ 1000000 := by have := keepF_len (hkl); omega
   have hmeml : ∀ z ∈ l, z.1.length ≤ 20000 ∧ z.2.length ≤ 20000 := fun z hz => by have := keepF_mem (hkl) z hz; omega
   have hmem3l : ∀ z ∈ l, z.1.length ≤ 300000 ∧ z.2.length ≤ 300000 := fun z hz => by have := keepF_mem (hkl) z hz; omega
   have hmem6l : ∀ z ∈ l, z.1.length ≤ 1000000 ∧ z.2.length ≤ 1000000 := fun z hz => by have := hmeml z hz; omega
   by_cases hkm : keepF m = true
   ·skip
    have hlenm : m.length ≤ 1000000 := by have := keepF_len (hkm); omega
    have hmemm : ∀ z ∈ m, z.1.length ≤ 20000 ∧ z.2.length ≤ 20000 := fun z hz => by have := keepF_mem (hkm) z hz; omega
    have hmem3m : ∀ z ∈ m, z.1.length ≤ 300000 ∧ z.2.length ≤ 300000 := fun z hz => by have := keepF_mem (hkm) z hz; omega
    have hmem6m : ∀ z ∈ m, z.1.length ≤ 1000000 ∧ z.2.length ≤ 1000000 := fun z hz => by have := hmemm z hz; omega
    refine jc_region (jo_pure rfl (pr_move rfl) ?_)
    refine jo_callp cal_15 (c_keep_Axes x xv (by first | omega | exact hl | exact hm | exact hlx | exact hmx | exact hxl | exact hxv | exact hav | exact hlenl | exact hmeml | exact hmem3l | exact hmem6l | exact hlenm | exact hmemm | exact hkl | exact hkm | decide) (by first | omega | exact hl | exact hm | exact hlx | exact hmx | exact hxl | exact hxv | exact hav | exact hlenl | exact hmeml | exact hmem3l | exact hmem6l | exact hlenm | exact hmemm | exact hkl | exact hkm | decide)) ⟨rfl, trivial⟩ rfl (⟨⟨rfl, .head _⟩, trivial⟩) (fun _ => ?_)
    refine jo_pure rfl (pr_not rfl) ?_
    refine jo_pure rfl (pr_move rfl) (jo_run (j := 3) (want := false) rfl rfl (by rw [hz]; rfl) ?_)
    refine jo_pure rfl (pr_move rfl) (jo_run (j := 3) (want := false) rfl rfl (by rw [hz]; rfl) ?_)
    refine jo_callp cal_16 (c_keep_Fields l lv (by first | omega | exact hl | exact hm | exact hlx | exact hmx | exact hxl | exact hxv | exact hav | exact hlenl | exact hmeml | exact hmem3l | exact hmem6l | exact hlenm | exact hmemm | exact hkl | exact hkm | decide)) ⟨rfl, trivial⟩ rfl (⟨⟨rfl, .tail _ (.head _)⟩, trivial⟩) (fun _ => ?_)
    refine jo_run (j := 3) (want := false) rfl rfl (by rw [hz]; rfl) ?_
    refine jo_pure rfl (pr_not rfl) ?_
    refine jo_pure rfl (pr_pick_f rfl (by rw [hz]; rfl) rfl) ?_
    refine jo_pure rfl (pr_move rfl) (jo_run (j := 8) (want := false) rfl rfl (by rw [hkl]; rfl) ?_)
    refine jo_pure rfl (pr_move rfl) (jo_run (j := 8) (want := false) rfl rfl (by rw [hkl]; rfl) ?_)
    refine jo_callp cal_16 (c_keep_Fields m mv (by first | omega | exact hl | exact hm | exact hlx | exact hmx | exact hxl | exact hxv | exact hav | exact hlenl | exact hmeml | exact hmem3l | exact hmem6l | exact hlenm | exact hmemm | exact hkl | exact hkm | decide)) ⟨rfl, trivial⟩ rfl (⟨⟨rfl, .tail _ (.tail _ (.head _))⟩, trivial⟩) (fun _ => ?_)
    refine jo_run (j := 8) (want := false) rfl rfl (by rw [hkl]; rfl) ?_
    refine jo_pure rfl (pr_not rfl) ?_
    refine jo_pure rfl (pr_pick_f rfl (by rw [hkl]; rfl) rfl) ?_
    refine jo_pure rfl (pr_move rfl) (jo_run (j := 13) (want := false) rfl rfl (by rw [hkm]; rfl) ?_)
    refine jo_pure rfl (pr_move rfl) (jo_run (j := 13) (want := false) rfl rfl (by rw [hkm]; rfl) ?_)
    refine jo_pure rfl (pr_move rfl) (jo_run (j := 13) (want := false) rfl rfl (by rw [hkm]; rfl) ?_)
    refine jo_pure rfl (pr_move rfl) (jo_run (j := 13) (want := false) rfl rfl (by rw [hkm]; rfl) ?_)
    refine jo_pure rfl (pr_move rfl) (jo_run (j := 13) (want := false) rfl rfl (by rw [hkm]; rfl) ?_)
    refine jo_callp cal_19 (c_class_Same x xv l lv m mv strict (by first | omega | exact hl | exact hm | exact hlx | exact hmx | exact hxl | exact hxv | exact hav | exact hlenl | exact hmeml | exact hmem3l | exact hmem6l | exact hlenm | exact hmemm | exact hkl | exact hkm | decide) (by first | omega | exact hl | exact hm | exact hlx | exact hmx | exact hxl | exact hxv | exact hav | exact hlenl | exact hmeml | exact hmem3l | exact hmem6l | exact hlenm | exact hmemm | exact hkl | exact hkm | decide) (by first | omega | exact hl | exact hm | exact hlx | exact hmx | exact hxl | exact hxv | exact hav | exact hlenl | exact hmeml | exact hmem3l | exact hmem6l | exact hlenm | exact hmemm | exact hkl | exact hkm | decide) (by first | omega | exact hl | exact hm | exact hlx | exact hmx | exact hxl | exact hxv | exact hav | exact hlenl | exact hmeml | exact hmem3l | exact hmem6l | exact hlenm | exact hmemm | exact hkl | exact hkm | decide) (by first | omega | exact hl | exact hm | exact hlx | exact hmx | exact hxl | exact hxv | exact hav | exact hlenl | exact hmeml | exact hmem3l | exact hmem6l | exact hlenm | exact hmemm | exact hkl | exact hkm | decide) (by first | omega | exact hl | exact hm | exact hlx | exact hmx | exact hxl | exact hxv | exact hav | exact hlenl | exact hmeml | exact hmem3l | exact hmem6l | exact hlenm | exact hmemm | exact hkl | exact hkm | decide)) ⟨rfl, rfl, rfl, rfl, trivial⟩ rfl (⟨⟨rfl, .head _⟩, ⟨⟨rfl, .tail _ (.head _)⟩, ⟨⟨rfl, .tail _ (.tail _ (.head _))⟩, trivial⟩⟩⟩) (fun _ => ?_)
    refine jo_run (j := 13) (want := false) rfl rfl (by rw [hkm]; rfl) ?_
    refine jo_pure rfl (pr_not rfl) ?_
    refine jo_pure rfl (pr_pick_f rfl (by rw [hkm]; rfl) rfl) ?_
    refine jo_nil (jq_then ?_)
    refine jc_cond rfl (fun h1b => ?_) (fun h1b => ?_)
    ·have h1 := (fun q => id (bt_not q)) h1b
     refine jc_seq (jc_region ?_)
     refine jo_callp cal_21 (c_law18_awake) trivial rfl (trivial) (fun _ => ?_)
     refine jo_pure rfl (pr_assign rfl) (jo_nil (jq_then (jc_ret (jq_then_ret (j_drop ?_)))))
     refine j_drop (j_drop ?_)
     exact jq_ret1 rfl () rfl (show (.bool (true) : Value) = (.bool (true)) from rfl) (fun _ h => h)
    ·have h1 := (fun q => id (bf_not q)) h1b
     have hsc : sameC x l m strict = true := by simpa using h1
     have hkl : (keysF x l strict 64).length ≤ 9223372036854775807 := by have := keys_le (axes := x) (l := l) (strict := strict) (most := 64); omega
     have hkm : ∀ k ∈ keysF x l strict 64, k.length ≤ 9223372036854775807 := fun k hk => by rw [keys_mem k hk]; omega
     refine jc_skip (jq_then (jc_seq (jc_region (jo_pure rfl (pr_move rfl) (jo_pure rfl (pr_move rfl) ?_)))))
     refine jo_pure rfl (pr_move rfl) ?_
     refine jo_callp cal_37 (c_selection_Keys x xv l lv strict (by first | omega | exact hl | exact hm | exact hlx | exact hmx | exact hxl | exact hxv | exact hav | exact hlenl | exact hmeml | exact hmem3l | exact hmem6l | exact hlenm | exact hmemm | exact hkl | exact hkm | decide) (by first | omega | exact hl | exact hm | exact hlx | exact hmx | exact hxl | exact hxv | exact hav | exact hlenl | exact hmeml | exact hmem3l | exact hmem6l | exact hlenm | exact hmemm | exact hkl | exact hkm | decide) (by first | omega | exact hl | exact hm | exact hlx | exact hmx | exact hxl | exact hxv | exact hav | exact hlenl | exact hmeml | exact hmem3l | exact hmem6l | exact hlenm | exact hmemm | exact hkl | exact hkm | decide) (by first | omega | exact hl | exact hm | exact hlx | exact hmx | exact hxl | exact hxv | exact hav | exact hlenl | exact hmeml | exact hmem3l | exact hmem6l | exact hlenm | exact hmemm | exact hkl | exact hkm | decide)) ⟨rfl, rfl, rfl, trivial⟩ rfl (⟨⟨rfl, .head _⟩, ⟨⟨rfl, .tail _ (.head _)⟩, trivial⟩⟩) (fun r1 => ?_)
     show J _ _ [.imm (.list (.list .str)) (r1) (keysF x l strict 64), .imm (.list (.pair .str (.list .str))) (xv) (x), .imm (.list (.pair .str .str)) (lv) (l), .imm (.list (.pair .str .str)) (mv) (m)] _
     refine jo_pure rfl (pr_move rfl) (jo_pure rfl (pr_move rfl) (jo_pure rfl (pr_move rfl) ?_))
     refine jo_callp cal_37 (c_selection_Keys x xv m mv strict (by first | omega | exact hl | exact hm | exact hlx | exact hmx | exact hxl | exact hxv | exact hav | exact hlenl | exact hmeml | exact hmem3l | exact hmem6l | exact hlenm | exact hmemm | exact hkl | exact hkm | decide) (by first | omega | exact hl | exact hm | exact hlx | exact hmx | exact hxl | exact hxv | exact hav | exact hlenl | exact hmeml | exact hmem3l | exact hmem6l | exact hlenm | exact hmemm | exact hkl | exact hkm | decide) (by first | omega | exact hl | exact hm | exact hlx | exact hmx | exact hxl | exact hxv | exact hav | exact hlenl | exact hmeml | exact hmem3l | exact hmem6l | exact hlenm | exact hmemm | exact hkl | exact hkm | decide) (by first | omega | exact hl | exact hm | exact hlx | exact hmx | exact hxl | exact hxv | exact hav | exact hlenl | exact hmeml | exact hmem3l | exact hmem6l | exact hlenm | exact hmemm | exact hkl | exact hkm | decide)) ⟨rfl, rfl, rfl, trivial⟩ rfl (⟨⟨rfl, .tail _ (.head _)⟩, ⟨⟨rfl, .tail _ (.tail _ (.tail _ (.head _)))⟩, trivial⟩⟩) (fun r2 => ?_)
     show J _ _ [.imm (.list (.list .str)) (r2) (keysF x m strict 64), .imm (.list (.list .str)) (r1) (keysF x l strict 64), .imm (.list (.pair .str (.list .str))) (xv) (x), .imm (.list (.pair .str .str)) (lv) (l), .imm (.list (.pair .str .str)) (mv) (m)] _
     refine jo_callp cal_39 (c_ref26_SameKeys (keysF x l strict 64) r1 (keysF x m strict 64) r2 (by first | omega | exact hl | exact hm | exact hlx | exact hmx | exact hxl | exact hxv | exact hav | exact hlenl | exact hmeml | exact hmem3l | exact hmem6l | exact hlenm | exact hmemm | exact hkl | exact hkm | decide) (by first | omega | exact hl | exact hm | exact hlx | exact hmx | exact hxl | exact hxv | exact hav | exact hlenl | exact hmeml | exact hmem3l | exact hmem6l | exact hlenm | exact hmemm | exact hkl | exact hkm | decide)) ⟨rfl, rfl, trivial⟩ rfl (⟨⟨rfl, .tail _ (.head _)⟩, ⟨⟨rfl, .head _⟩, trivial⟩⟩) (fun _ => ?_)
     refine jo_pure rfl (pr_move rfl) (jo_gpure (j := 9) (want := true) rfl rfl rfl rfl (fun hg => pr_move rfl) ?_)
     refine jo_gcall (j := 9) (want := true) rfl rfl rfl cal_22 (fun hg => c_ref10_Valid x xv (by first | omega | exact hl | exact hm | exact hlx | exact hmx | exact hxl | exact hxv | exact hav | exact hlenl | exact hmeml | exact hmem3l | exact hmem6l | exact hlenm | exact hmemm | exact hkl | exact hkm | decide) (by first | omega | exact hl | exact hm | exact hlx | exact hmx | exact hxl | exact hxv | exact hav | exact hlenl | exact hmeml | exact hmem3l | exact hmem6l | exact hlenm | exact hmemm | exact hkl | exact hkm | decide)) (fun hg => ⟨evg rfl hg, trivial⟩) rfl (fun _ => ⟨⟨rfl, .tail _ (.tail _ (.head _))⟩, trivial⟩) ?_
     refine jo_pure rfl (pr_pick_and rfl rfl rfl) ?_
     refine jo_pure rfl (pr_move rfl) (jo_gcall (j := 13) (want := true) rfl rfl rfl cal_21 (fun hg => c_law18_awake) (fun hg => trivial) rfl (fun _ => trivial) ?_)
     refine jo_pure rfl (pr_pick_and rfl rfl rfl) ?_
     refine jo_pure rfl (pr_assign rfl) (jo_nil (jq_then (jc_ret (j_drop (j_drop ?_)))))
     refine j_drop (j_drop (j_drop ?_))
     exact jq_ret1 rfl () rfl (show (.bool (true) : Value) = (.bool (((decide ((keysF x l strict 64) = (keysF x m strict 64)) && validL x) && true))) from congrArg Value.bool (by rw [decides (most := 64) hsc, (class_inj hsc).1]; simp)) (fun _ h => h)
   ·skip
    refine jc_region (jo_pure rfl (pr_move rfl) ?_)
    refine jo_callp cal_15 (c_keep_Axes x xv (by first | omega | exact hl | exact hm | exact hlx | exact hmx | exact hxl | exact hxv | exact hav | exact hlenl | exact hmeml | exact hmem3l | exact hmem6l | exact hlenm | exact hmemm | exact hkl | exact hkm | decide) (by first | omega | exact hl | exact hm | exact hlx | exact hmx | exact hxl | exact hxv | exact hav | exact hlenl | exact hmeml | exact hmem3l | exact hmem6l | exact hlenm | exact hmemm | exact hkl | exact hkm | decide)) ⟨rfl, trivial⟩ rfl (⟨⟨rfl, .head _⟩, trivial⟩) (fun _ => ?_)
    refine jo_pure rfl (pr_not rfl) ?_
    refine jo_pure rfl (pr_move rfl) (jo_run (j := 3) (want := false) rfl rfl (by rw [hz]; rfl) ?_)
    refine jo_pure rfl (pr_move rfl) (jo_run (j := 3) (want := false) rfl rfl (by rw [hz]; rfl) ?_)
    refine jo_callp cal_16 (c_keep_Fields l lv (by first | omega | exact hl | exact hm | exact hlx | exact hmx | exact hxl | exact hxv | exact hav | exact hlenl | exact hmeml | exact hmem3l | exact hmem6l | exact hlenm | exact hmemm | exact hkl | exact hkm | decide)) ⟨rfl, trivial⟩ rfl (⟨⟨rfl, .tail _ (.head _)⟩, trivial⟩) (fun _ => ?_)
    refine jo_run (j := 3) (want := false) rfl rfl (by rw [hz]; rfl) ?_
    refine jo_pure rfl (pr_not rfl) ?_
    refine jo_pure rfl (pr_pick_f rfl (by rw [hz]; rfl) rfl) ?_
    refine jo_pure rfl (pr_move rfl) (jo_run (j := 8) (want := false) rfl rfl (by rw [hkl]; rfl) ?_)
    refine jo_pure rfl (pr_move rfl) (jo_run (j := 8) (want := false) rfl rfl (by rw [hkl]; rfl) ?_)
    refine jo_callp cal_16 (c_keep_Fields m mv (by first | omega | exact hl | exact hm | exact hlx | exact hmx | exact hxl | exact hxv | exact hav | exact hlenl | exact hmeml | exact hmem3l | exact hmem6l | exact hlenm | exact hmemm | exact hkl | exact hkm | decide)) ⟨rfl, trivial⟩ rfl (⟨⟨rfl, .tail _ (.tail _ (.head _))⟩, trivial⟩) (fun _ => ?_)
    refine jo_run (j := 8) (want := false) rfl rfl (by rw [hkl]; rfl) ?_
    refine jo_pure rfl (pr_not rfl) ?_
    refine jo_pure rfl (pr_pick_f rfl (by rw [hkl]; rfl) rfl) ?_
    refine jo_pure rfl (pr_move rfl) (jo_skipu (j := 13) (want := false) rfl rfl (by simpa using hkm) rfl ?_)
    refine jo_skipu (j := 13) (want := false) rfl rfl (by simpa using hkm) rfl ?_
    refine jo_skipu (j := 13) (want := false) rfl rfl (by simpa using hkm) rfl ?_
    refine jo_skipu (j := 13) (want := false) rfl rfl (by simpa using hkm) rfl ?_
    refine jo_skipu (j := 13) (want := false) rfl rfl (by simpa using hkm) rfl ?_
    refine jo_skipu (j := 13) (want := false) rfl rfl (by simpa using hkm) rfl ?_
    refine jo_pure rfl (pr_pick_t rfl (by simpa using hkm) rfl) ?_
    refine jo_nil (jq_then (jc_true rfl (rfl) ?_))
    refine jc_seq (jc_region ?_)
    refine jo_callp cal_21 (c_law18_awake) trivial rfl (trivial) (fun _ => ?_)
    refine jo_pure rfl (pr_assign rfl) (jo_nil (jq_then (jc_ret (jq_then_ret (j_drop ?_)))))
    refine j_drop (j_drop ?_)
    exact jq_ret1 rfl () rfl (show (.bool (true) : Value) = (.bool (true)) from rfl) (fun _ h => h)
  ·skip
   refine jc_region (jo_pure rfl (pr_move rfl) ?_)
   refine jo_callp cal_15 (c_keep_Axes x xv (by first | omega | exact hl | exact hm | exact hlx | exact hmx | exact hxl | exact hxv | exact hav | exact hlenl | exact hmeml | exact hmem3l | exact hmem6l | exact hlenm | exact hmemm | exact hkl | exact hkm | decide) (by first | omega | exact hl | exact hm | exact hlx | exact hmx | exact hxl | exact hxv | exact hav | exact hlenl | exact hmeml | exact hmem3l | exact hmem6l | exact hlenm | exact hmemm | exact hkl | exact hkm | decide)) ⟨rfl, trivial⟩ rfl (⟨⟨rfl, .head _⟩, trivial⟩) (fun _ => ?_)
   refine jo_pure rfl (pr_not rfl) ?_
   refine jo_pure rfl (pr_move rfl) (jo_run (j := 3) (want := false) rfl rfl (by rw [hz]; rfl) ?_)
   refine jo_pure rfl (pr_move rfl) (jo_run (j := 3) (want := false) rfl rfl (by rw [hz]; rfl) ?_)
   refine jo_callp cal_16 (c_keep_Fields l lv (by first | omega | exact hl | exact hm | exact hlx | exact hmx | exact hxl | exact hxv | exact hav | exact hlenl | exact hmeml | exact hmem3l | exact hmem6l | exact hlenm | exact hmemm | exact hkl | exact hkm | decide)) ⟨rfl, trivial⟩ rfl (⟨⟨rfl, .tail _ (.head _)⟩, trivial⟩) (fun _ => ?_)
   refine jo_run (j := 3) (want := false) rfl rfl (by rw [hz]; rfl) ?_
   refine jo_pure rfl (pr_not rfl) ?_
   refine jo_pure rfl (pr_pick_f rfl (by rw [hz]; rfl) rfl) ?_
   refine jo_pure rfl (pr_move rfl) (jo_skipu (j := 8) (want := false) rfl rfl (by simpa using hkl) rfl ?_)
   refine jo_skipu (j := 8) (want := false) rfl rfl (by simpa using hkl) rfl ?_
   refine jo_skipu (j := 8) (want := false) rfl rfl (by simpa using hkl) rfl ?_
   refine jo_pure rfl (pr_pick_t rfl (by simpa using hkl) rfl) ?_
   refine jo_pure rfl (pr_move rfl) (jo_skipu (j := 13) (want := false) rfl rfl (rfl) rfl ?_)
   refine jo_skipu (j := 13) (want := false) rfl rfl (rfl) rfl ?_
   refine jo_skipu (j := 13) (want := false) rfl rfl (rfl) rfl ?_
   refine jo_skipu (j := 13) (want := false) rfl rfl (rfl) rfl ?_
   refine jo_skipu (j := 13) (want := false) rfl rfl (rfl) rfl ?_
   refine jo_skipu (j := 13) (want := false) rfl rfl (rfl) rfl ?_
   refine jo_pure rfl (pr_pick_t rfl (rfl) rfl) ?_
   refine jo_nil (jq_then (jc_true rfl (rfl) ?_))
   refine jc_seq (jc_region ?_)
   refine jo_callp cal_21 (c_law18_awake) trivial rfl (trivial) (fun _ => ?_)
   refine jo_pure rfl (pr_assign rfl) (jo_nil (jq_then (jc_ret (jq_then_ret (j_drop ?_)))))
   refine j_drop (j_drop ?_)
   exact jq_ret1 rfl () rfl (show (.bool (true) : Value) = (.bool (true)) from rfl) (fun _ h => h)
 ·skip
  refine jc_region (jo_pure rfl (pr_move rfl) ?_)
  refine jo_callp cal_15 (c_keep_Axes x xv (by first | omega | exact hl | exact hm | exact hlx | exact hmx | exact hxl | exact hxv | exact hav | exact hlenl | exact hmeml | exact hmem3l | exact hmem6l | exact hlenm | exact hmemm | exact hkl | exact hkm | decide) (by first | omega | exact hl | exact hm | exact hlx | exact hmx | exact hxl | exact hxv | exact hav | exact hlenl | exact hmeml | exact hmem3l | exact hmem6l | exact hlenm | exact hmemm | exact hkl | exact hkm | decide)) ⟨rfl, trivial⟩ rfl (⟨⟨rfl, .head _⟩, trivial⟩) (fun _ => ?_)
  refine jo_pure rfl (pr_not rfl) ?_
  refine jo_pure rfl (pr_move rfl) (jo_skipu (j := 3) (want := false) rfl rfl (by simpa using hz) rfl ?_)
  refine jo_skipu (j := 3) (want := false) rfl rfl (by simpa using hz) rfl ?_
  refine jo_skipu (j := 3) (want := false) rfl rfl (by simpa using hz) rfl ?_
  refine jo_pure rfl (pr_pick_t rfl (by simpa using hz) rfl) ?_
  refine jo_pure rfl (pr_move rfl) (jo_skipu (j := 8) (want := false) rfl rfl (rfl) rfl ?_)
  refine jo_skipu (j := 8) (want := false) rfl rfl (rfl) rfl ?_
  refine jo_skipu (j := 8) (want := false) rfl rfl (rfl) rfl ?_
  refine jo_pure rfl (pr_pick_t rfl (rfl) rfl) ?_
  refine jo_pure rfl (pr_move rfl) (jo_skipu (j := 13) (want := false) rfl rfl (rfl) rfl ?_)
  refine jo_skipu (j := 13) (want := false) rfl rfl (rfl) rfl ?_
  refine jo_skipu (j := 13) (want := false) rfl rfl (rfl) rfl ?_
  refine jo_skipu (j := 13) (want := false) rfl rfl (rfl) rfl ?_
  refine jo_skipu (j := 13) (want := false) rfl rfl (rfl) rfl ?_
  refine jo_skipu (j := 13) (want := false) rfl rfl (rfl) rfl ?_
  refine jo_pure rfl (pr_pick_t rfl (rfl) rfl) ?_
  refine jo_nil (jq_then (jc_true rfl (rfl) ?_))
  refine jc_seq (jc_region ?_)
  refine jo_callp cal_21 (c_law18_awake) trivial rfl (trivial) (fun _ => ?_)
  refine jo_pure rfl (pr_assign rfl) (jo_nil (jq_then (jc_ret (jq_then_ret (j_drop ?_)))))
  refine j_drop (j_drop ?_)
  exact jq_ret1 rfl () rfl (show (.bool (true) : Value) = (.bool (true)) from rfl) (fun _ h => h)

theorem c_law18_ClassCases (x : List ((List UInt8) × (List (List UInt8)))) (xv : Value) (l : List ((List UInt8) × (List UInt8))) (lv : Value) (strict : Bool) (hlx : x.length ≤ 9223372036854775807) (hmx : ∀ a ∈ x, a.2.length ≤ 9223372036854775807) (hl : l.length ≤ 9223372036854775807) : Con Tryz.prog 5 #[xv, lv, .bool (strict)] [.imm (.list (.pair .str (.list .str))) (xv) (x), .imm (.list (.pair .str .str)) (lv) (l)] (fun _ : Unit => .bool (true)) (fun _ => []) := by
 refine con_of_J (args := [xv, lv, .bool (strict)]) (n := 57) Tryz.func5 rfl (Nat.le_of_ble_eq_true rfl) rfl (fun w0 I0 m0 => ?_)
 show J _ [(0, xv), (1, lv), (2, .bool (strict))] [.imm (.list (.pair .str (.list .str))) (xv) (x), .imm (.list (.pair .str .str)) (lv) (l)] _
 refine jc_seq (jc_region (jo_pure rfl (pr_assign rfl) (jo_nil (jq_then (jc_seq ?_)))))
 refine jc_seq ?_
 by_cases hz : keepA x = true
 ·skip
  have hxl : x.length ≤ 1000 := by have := keepA_len (hz); omega
  have hxv : ∀ a ∈ x, a.1.length ≤ 1000000 ∧ (∀ z ∈ a.2, z.length ≤ 300000) ∧ a.2.length ≤ 9223372036854775807 := fun a ha => by have h9 := keepA_mem (hz) a ha; exact ⟨by omega, fun z hz => Nat.le_trans (h9.2.2 z hz) (by omega), by omega⟩
  have hav : ∀ a ∈ x, a.1.length ≤ 300 ∧ a.2.length ≤ 1000 ∧ ∀ z ∈ a.2, z.length ≤ 300 := fun a ha => by have h9 := keepA_mem hz a ha; exact ⟨by omega, by omega, fun z hz => Nat.le_trans (h9.2.2 z hz) (by omega)⟩
  have hav1 : ∀ a ∈ x, a.1.length ≤ 100 := fun a ha => (keepA_mem hz a ha).1
  by_cases hv : validL x = true
  ·skip
   have hv4 := validL_len hv
   by_cases hkl : keepF l = true
   ·skip
    have hlenl : l.length ≤ 1000000 := by have := keepF_len (hkl); omega
    have hmeml : ∀ z ∈ l, z.1.length ≤ 20000 ∧ z.2.length ≤ 20000 := fun z hz => by have := keepF_mem (hkl) z hz; omega
    have hmem3l : ∀ z ∈ l, z.1.length ≤ 300000 ∧ z.2.length ≤ 300000 := fun z hz => by have := keepF_mem (hkl) z hz; omega
    have hmem6l : ∀ z ∈ l, z.1.length ≤ 1000000 ∧ z.2.length ≤ 1000000 := fun z hz => by have := hmeml z hz; omega
    refine jc_region (jo_pure rfl (pr_move rfl) ?_)
    refine jo_callp cal_15 (c_keep_Axes x xv (by first | omega | exact hl | exact hm | exact hlx | exact hmx | exact hxl | exact hxv | exact hav | exact hlenl | exact hmeml | exact hmem3l | exact hmem6l | exact hgm | (rw [hinv.2]; exact hM1) | (rw [hinv.2]; exact hM2) | exact hM2 | decide) (by first | omega | exact hl | exact hm | exact hlx | exact hmx | exact hxl | exact hxv | exact hav | exact hlenl | exact hmeml | exact hmem3l | exact hmem6l | exact hgm | (rw [hinv.2]; exact hM1) | (rw [hinv.2]; exact hM2) | exact hM2 | decide)) ⟨rfl, trivial⟩ rfl (⟨⟨rfl, .head _⟩, trivial⟩) (fun _ => ?_)
    refine jo_pure rfl (pr_not rfl) ?_
    refine jo_pure rfl (pr_move rfl) (jo_run (j := 3) (want := false) rfl rfl (by rw [hz]; rfl) ?_)
    refine jo_pure rfl (pr_move rfl) (jo_run (j := 3) (want := false) rfl rfl (by rw [hz]; rfl) ?_)
    refine jo_callp cal_22 (c_ref10_Valid x xv (by first | omega | exact hl | exact hm | exact hlx | exact hmx | exact hxl | exact hxv | exact hav | exact hlenl | exact hmeml | exact hmem3l | exact hmem6l | exact hgm | (rw [hinv.2]; exact hM1) | (rw [hinv.2]; exact hM2) | exact hM2 | decide) (by first | omega | exact hl | exact hm | exact hlx | exact hmx | exact hxl | exact hxv | exact hav | exact hlenl | exact hmeml | exact hmem3l | exact hmem6l | exact hgm | (rw [hinv.2]; exact hM1) | (rw [hinv.2]; exact hM2) | exact hM2 | decide)) ⟨rfl, trivial⟩ rfl (⟨⟨rfl, .head _⟩, trivial⟩) (fun _ => ?_)
    refine jo_run (j := 3) (want := false) rfl rfl (by rw [hz]; rfl) ?_
    refine jo_pure rfl (pr_not rfl) ?_
    refine jo_pure rfl (pr_pick_f rfl (by rw [hz]; rfl) rfl) ?_
    refine jo_pure rfl (pr_move rfl) (jo_run (j := 8) (want := false) rfl rfl (by rw [hv]; rfl) ?_)
    refine jo_pure rfl (pr_move rfl) (jo_run (j := 8) (want := false) rfl rfl (by rw [hv]; rfl) ?_)
    refine jo_callp cal_16 (c_keep_Fields l lv (by first | omega | exact hl | exact hm | exact hlx | exact hmx | exact hxl | exact hxv | exact hav | exact hlenl | exact hmeml | exact hmem3l | exact hmem6l | exact hgm | (rw [hinv.2]; exact hM1) | (rw [hinv.2]; exact hM2) | exact hM2 | decide)) ⟨rfl, trivial⟩ rfl (⟨⟨rfl, .tail _ (.head _)⟩, trivial⟩) (fun _ => ?_)
    refine jo_run (j := 8) (want := false) rfl rfl (by rw [hv]; rfl) ?_
    refine jo_pure rfl (pr_not rfl) ?_
    refine jo_pure rfl (pr_pick_f rfl (by rw [hv]; rfl) rfl) ?_
    refine jo_nil (jq_then (jc_false rfl (by rw [hkl]; rfl) ?_))
    refine jc_skip (jq_then (jc_seq (jc_region (jo_pure rfl (pr_move rfl) (j_nil_row 35 (.pair .str .str) ?_)))))
    refine jo_append_imm rfl rfl (.tail _ (.head _)) Tryz.underlying23 ty_35 rfl (by simp only [List.length_append, List.length_cons, List.length_nil, maxLen]; omega) (by simp only [List.length_append, List.length_cons, List.length_nil]; omega) rfl (fun v1 => ?_)
    refine jo_pure rfl (pr_assign rfl) (jo_nil (jq_then (jc_seq (jc_seq (jc_region ?_)))))
    refine jo_pure rfl (pr_assign rfl) (jo_nil (jq_then (jc_block ?_)))
    refine jc_loop2 (fun (i : Nat) (m : List (List UInt8 × List UInt8)) => [(0, xv), (1, lv), (2, .bool (strict)), (7, v1), (8, .int .i64 ((i : Nat) : Int))]) (fun (i : Nat) (m : List (List UInt8 × List UInt8)) => [.row (v1) 35 (.pair .str .str) (m), .imm (.list (.pair .str (.list .str))) (xv) (x), .imm (.list (.pair .str .str)) (lv) (l)]) (fun (i : Nat) (m : List (List UInt8 × List UInt8)) => i ≤ l.length ∧ m.length = l.length ∧ m = (l.take i).map lowField ++ l.drop i) (fun (i : Nat) (m : List (List UInt8 × List UInt8)) => l.length - i) 0 ([] ++ l) (⟨Nat.zero_le _, by simp, by simp⟩) (⟨rfl, rfl, rfl, rfl, rfl, trivial⟩) (fun _ h => h) (fun i m hinv => ?_)
    refine jc_seq (jc_seq (jc_region (jo_pure rfl (pr_move rfl) (jo_pure rfl (pr_move rfl) (jo_pure rfl (pr_len_row rfl (.head _) Tryz.underlying23) ?_)))))
    refine jo_pure rfl (pr_lssN (m := i) (n := m.length) rfl rfl) ?_
    refine jo_nil (jq_then ?_)
    refine jc_cond rfl (fun h1b => ?_) (fun h1b => ?_)
    ·have h1 := of_decide_eq_true h1b
     have h2l : i < l.length := by omega
     have hgm : (m.getD i ([], [])).1.length ≤ 1000000 := by have := hmeml _ (getD_mem (dd := ([], [])) h2l); rw [low_at h2l hinv.2.2]; omega
     have hgm2 : (m.getD i ([], [])).2.length ≤ 1000000 := by have := hmeml _ (getD_mem (dd := ([], [])) h2l); rw [low_at h2l hinv.2.2]; omega
     refine jc_skip (jq_then (jc_seq (jc_block (jc_seq (jc_region ?_)))))
     refine jo_pure rfl (pr_move rfl) (jo_pure rfl (pr_move rfl) (jo_pure rfl (pr_idx_row (i := i) rfl (.head _) rfl Tryz.underlying23 ty_35 (by omega)) ?_))
     refine jo_pure rfl (pr_fieldAddr_row (i := i) rfl (.head _) Tryz.underlying35 rfl ty_9 rfl rfl (by omega)) ?_
     refine jo_pure rfl (pr_load_off_row (i := i) (o := 0) (dd := ([], [])) (str ((m.getD i ([], [])).1)) rfl (.head _) ty_9 rfl (by decide) rfl (by omega) rfl) ?_
     refine jo_callp cal_26 (c_ref10_Kind ((m.getD i ([], [])).1) (by first | omega | exact hl | exact hm | exact hlx | exact hmx | exact hxl | exact hxv | exact hav | exact hlenl | exact hmeml | exact hmem3l | exact hmem6l | exact hgm | (rw [hinv.2]; exact hM1) | (rw [hinv.2]; exact hM2) | exact hM2 | decide)) ⟨rfl, trivial⟩ rfl (trivial) (fun _ => ?_)
     refine jo_pure rfl (pr_assign rfl) (jo_nil (jq_then (jc_seq (jc_region (jo_pure rfl (pr_move rfl) ?_)))))
     refine jo_pure rfl (pr_neq (n := 0) rfl rfl) ?_
     refine jo_nil (jq_then ?_)
     refine jc_cond rfl (fun h2b => ?_) (fun h2b => ?_)
     ·have h2 := (fun q => of_decide_eq_false (bt_not q)) h2b
      refine jc_region (jo_pure rfl (pr_move rfl) (jo_pure rfl (pr_move rfl) (jo_pure rfl (pr_move rfl) (jo_pure rfl (pr_move rfl) (jo_pure rfl (pr_idx_row (i := i) rfl (.head _) rfl Tryz.underlying23 ty_35 (by omega)) ?_)))))
      refine jo_pure rfl (pr_fieldAddr_row (i := i) rfl (.head _) Tryz.underlying35 rfl ty_9 rfl rfl (by omega)) ?_
      refine jo_pure rfl (pr_load_off_row (i := i) (o := 1) (dd := ([], [])) (str ((m.getD i ([], [])).2)) rfl (.head _) ty_9 rfl (by decide) rfl (by omega) rfl) ?_
      refine jo_callp cal_27 (c_ref01_Lower ((m.getD i ([], [])).2) (by first | omega | exact hl | exact hm | exact hlx | exact hmx | exact hxl | exact hxv | exact hav | exact hlenl | exact hmeml | exact hmem3l | exact hmem6l | exact hgm | (rw [hinv.2]; exact hM1) | (rw [hinv.2]; exact hM2) | exact hM2 | decide)) ⟨rfl, trivial⟩ rfl (trivial) (fun _ => ?_)
      refine jo_pure rfl (pr_idx_row (i := i) rfl (.head _) rfl Tryz.underlying23 ty_35 (by omega)) ?_
      refine jo_pure rfl (pr_fieldAddr_row (i := i) rfl (.head _) Tryz.underlying35 rfl ty_9 rfl rfl (by omega)) ?_
      refine jo_store_off_row (i := i) (o := 1) (dd := ([], [])) (((m.getD i ([], [])).1, lower ((m.getD i ([], [])).2))) rfl rfl ty_9 rfl rfl rfl (by omega) (by decide) rfl ?_
      refine jo_nil (jq_in_normal (jq_then (jc_region (jo_pure rfl (pr_move rfl) (jo_pure rfl (pr_addN (m := i) (n := 1) rfl rfl (by omega)) ?_)))))
      refine jo_pure rfl (pr_assign rfl) (jo_nil (j_pull2 (j_pull2 (j_pull2 ?_))))
      refine jq_round' ((i + 1), (m.set i ((m.getD i ([], [])).1, lower ((m.getD i ([], [])).2)))) (by (try dsimp only); exact (⟨by omega, by rw [List.length_set]; omega, low_hit h2l hinv.2.2 h2⟩)) (by (try dsimp only); exact (by omega)) ⟨rfl, rfl, rfl, rfl, rfl, trivial⟩ (fun _ h => h)
     ·have h2 := (fun q => of_decide_eq_true (bf_not q)) h2b
      refine jc_skip (jq_in_normal (jq_then (jc_region (jo_pure rfl (pr_move rfl) (jo_pure rfl (pr_addN (m := i) (n := 1) rfl rfl (by omega)) ?_)))))
      refine jo_pure rfl (pr_assign rfl) (jo_nil (j_pull2 (j_pull2 (j_pull2 ?_))))
      refine jq_round' ((i + 1), m) (by (try dsimp only); exact (⟨by omega, hinv.2.1, low_miss h2l hinv.2.2 (by simpa using h2)⟩)) (by (try dsimp only); exact (by omega)) ⟨rfl, rfl, rfl, rfl, rfl, trivial⟩ (fun _ h => h)
    ·have h1 := of_decide_eq_false h1b
     have hme := low_end (by omega) hinv.2.2
     have hM2 : ∀ z ∈ m, z.1.length ≤ 20000 ∧ z.2.length ≤ 20000 := by rw [hinv.2.2]; exact low_len hmeml
     refine jc_exit ?_
     refine jq_then_exit ?_
     refine jq_then_exit ?_
     refine jq_in_hit ?_
     refine jq_then (jc_seq (jc_region (jo_pure rfl (pr_move rfl) (jo_pure rfl (pr_move rfl) (jo_pure rfl (pr_move rfl) ?_)))))
     refine jo_pure rfl (pr_move rfl) (j_pub_row ?_)
     refine jo_callp cal_19 (c_class_Same x xv l lv m v1 strict (by first | omega | exact hl | exact hm | exact hlx | exact hmx | exact hxl | exact hxv | exact hav | exact hlenl | exact hmeml | exact hmem3l | exact hmem6l | exact hgm | (rw [hinv.2]; exact hM1) | (rw [hinv.2]; exact hM2) | exact hM2 | decide) (by first | omega | exact hl | exact hm | exact hlx | exact hmx | exact hxl | exact hxv | exact hav | exact hlenl | exact hmeml | exact hmem3l | exact hmem6l | exact hgm | (rw [hinv.2]; exact hM1) | (rw [hinv.2]; exact hM2) | exact hM2 | decide) (by first | omega | exact hl | exact hm | exact hlx | exact hmx | exact hxl | exact hxv | exact hav | exact hlenl | exact hmeml | exact hmem3l | exact hmem6l | exact hgm | (rw [hinv.2]; exact hM1) | (rw [hinv.2]; exact hM2) | exact hM2 | decide) (by first | omega | exact hl | exact hm | exact hlx | exact hmx | exact hxl | exact hxv | exact hav | exact hlenl | exact hmeml | exact hmem3l | exact hmem6l | exact hgm | (rw [hinv.2]; exact hM1) | (rw [hinv.2]; exact hM2) | exact hM2 | decide) (by first | omega | exact hl | exact hm | exact hlx | exact hmx | exact hxl | exact hxv | exact hav | exact hlenl | exact hmeml | exact hmem3l | exact hmem6l | exact hgm | (rw [hinv.2]; exact hM1) | (rw [hinv.2]; exact hM2) | exact hM2 | decide) (by first | omega | exact hl | exact hm | exact hlx | exact hmx | exact hxl | exact hxv | exact hav | exact hlenl | exact hmeml | exact hmem3l | exact hmem6l | exact hgm | (rw [hinv.2]; exact hM1) | (rw [hinv.2]; exact hM2) | exact hM2 | decide)) ⟨rfl, rfl, rfl, rfl, trivial⟩ rfl (⟨⟨rfl, .tail _ (.head _)⟩, ⟨⟨rfl, .tail _ (.tail _ (.head _))⟩, ⟨⟨rfl, .head _⟩, trivial⟩⟩⟩) (fun _ => ?_)
     refine jo_pure rfl (pr_move rfl) (jo_gcall (j := 5) (want := true) rfl rfl rfl cal_21 (fun hg => c_law18_awake) (fun hg => trivial) rfl (fun _ => trivial) ?_)
     refine jo_pure rfl (pr_pick_and rfl rfl rfl) ?_
     refine jo_pure rfl (pr_assign rfl) (jo_nil (jq_then (jc_ret (j_drop (j_drop ?_)))))
     refine j_drop ?_
     exact jq_ret1 rfl () rfl (show (.bool (true) : Value) = (.bool ((sameC x l m strict && true))) from congrArg Value.bool (by rw [hme, low_class hv]; rfl)) (fun _ h => h)
   ·skip
    refine jc_region (jo_pure rfl (pr_move rfl) ?_)
    refine jo_callp cal_15 (c_keep_Axes x xv (by first | omega | exact hl | exact hm | exact hlx | exact hmx | exact hxl | exact hxv | exact hav | exact hlenl | exact hmeml | exact hmem3l | exact hmem6l | exact hgm | (rw [hinv.2]; exact hM1) | (rw [hinv.2]; exact hM2) | exact hM2 | decide) (by first | omega | exact hl | exact hm | exact hlx | exact hmx | exact hxl | exact hxv | exact hav | exact hlenl | exact hmeml | exact hmem3l | exact hmem6l | exact hgm | (rw [hinv.2]; exact hM1) | (rw [hinv.2]; exact hM2) | exact hM2 | decide)) ⟨rfl, trivial⟩ rfl (⟨⟨rfl, .head _⟩, trivial⟩) (fun _ => ?_)
    refine jo_pure rfl (pr_not rfl) ?_
    refine jo_pure rfl (pr_move rfl) (jo_run (j := 3) (want := false) rfl rfl (by rw [hz]; rfl) ?_)
    refine jo_pure rfl (pr_move rfl) (jo_run (j := 3) (want := false) rfl rfl (by rw [hz]; rfl) ?_)
    refine jo_callp cal_22 (c_ref10_Valid x xv (by first | omega | exact hl | exact hm | exact hlx | exact hmx | exact hxl | exact hxv | exact hav | exact hlenl | exact hmeml | exact hmem3l | exact hmem6l | exact hgm | (rw [hinv.2]; exact hM1) | (rw [hinv.2]; exact hM2) | exact hM2 | decide) (by first | omega | exact hl | exact hm | exact hlx | exact hmx | exact hxl | exact hxv | exact hav | exact hlenl | exact hmeml | exact hmem3l | exact hmem6l | exact hgm | (rw [hinv.2]; exact hM1) | (rw [hinv.2]; exact hM2) | exact hM2 | decide)) ⟨rfl, trivial⟩ rfl (⟨⟨rfl, .head _⟩, trivial⟩) (fun _ => ?_)
    refine jo_run (j := 3) (want := false) rfl rfl (by rw [hz]; rfl) ?_
    refine jo_pure rfl (pr_not rfl) ?_
    refine jo_pure rfl (pr_pick_f rfl (by rw [hz]; rfl) rfl) ?_
    refine jo_pure rfl (pr_move rfl) (jo_run (j := 8) (want := false) rfl rfl (by rw [hv]; rfl) ?_)
    refine jo_pure rfl (pr_move rfl) (jo_run (j := 8) (want := false) rfl rfl (by rw [hv]; rfl) ?_)
    refine jo_callp cal_16 (c_keep_Fields l lv (by first | omega | exact hl | exact hm | exact hlx | exact hmx | exact hxl | exact hxv | exact hav | exact hlenl | exact hmeml | exact hmem3l | exact hmem6l | exact hgm | (rw [hinv.2]; exact hM1) | (rw [hinv.2]; exact hM2) | exact hM2 | decide)) ⟨rfl, trivial⟩ rfl (⟨⟨rfl, .tail _ (.head _)⟩, trivial⟩) (fun _ => ?_)
    refine jo_run (j := 8) (want := false) rfl rfl (by rw [hv]; rfl) ?_
    refine jo_pure rfl (pr_not rfl) ?_
    refine jo_pure rfl (pr_pick_f rfl (by rw [hv]; rfl) rfl) ?_
    refine jo_nil (jq_then (jc_true rfl (by simpa using hkl) ?_))
    refine jc_seq (jc_region (jo_pure rfl (pr_assign rfl) (jo_nil (jq_then (jc_ret ?_)))))
    refine jq_then_ret (j_drop (j_drop ?_))
    exact jq_ret1 rfl () rfl (show (.bool (true) : Value) = (.bool (true)) from rfl) (fun _ h => h)
  ·skip
   refine jc_region (jo_pure rfl (pr_move rfl) ?_)
   refine jo_callp cal_15 (c_keep_Axes x xv (by first | omega | exact hl | exact hm | exact hlx | exact hmx | exact hxl | exact hxv | exact hav | exact hlenl | exact hmeml | exact hmem3l | exact hmem6l | exact hgm | (rw [hinv.2]; exact hM1) | (rw [hinv.2]; exact hM2) | exact hM2 | decide) (by first | omega | exact hl | exact hm | exact hlx | exact hmx | exact hxl | exact hxv | exact hav | exact hlenl | exact hmeml | exact hmem3l | exact hmem6l | exact hgm | (rw [hinv.2]; exact hM1) | (rw [hinv.2]; exact hM2) | exact hM2 | decide)) ⟨rfl, trivial⟩ rfl (⟨⟨rfl, .head _⟩, trivial⟩) (fun _ => ?_)
   refine jo_pure rfl (pr_not rfl) ?_
   refine jo_pure rfl (pr_move rfl) (jo_run (j := 3) (want := false) rfl rfl (by rw [hz]; rfl) ?_)
   refine jo_pure rfl (pr_move rfl) (jo_run (j := 3) (want := false) rfl rfl (by rw [hz]; rfl) ?_)
   refine jo_callp cal_22 (c_ref10_Valid x xv (by first | omega | exact hl | exact hm | exact hlx | exact hmx | exact hxl | exact hxv | exact hav | exact hlenl | exact hmeml | exact hmem3l | exact hmem6l | exact hgm | (rw [hinv.2]; exact hM1) | (rw [hinv.2]; exact hM2) | exact hM2 | decide) (by first | omega | exact hl | exact hm | exact hlx | exact hmx | exact hxl | exact hxv | exact hav | exact hlenl | exact hmeml | exact hmem3l | exact hmem6l | exact hgm | (rw [hinv.2]; exact hM1) | (rw [hinv.2]; exact hM2) | exact hM2 | decide)) ⟨rfl, trivial⟩ rfl (⟨⟨rfl, .head _⟩, trivial⟩) (fun _ => ?_)
   refine jo_run (j := 3) (want := false) rfl rfl (by rw [hz]; rfl) ?_
   refine jo_pure rfl (pr_not rfl) ?_
   refine jo_pure rfl (pr_pick_f rfl (by rw [hz]; rfl) rfl) ?_
   refine jo_pure rfl (pr_move rfl) (jo_skipu (j := 8) (want := false) rfl rfl (by simpa using hv) rfl ?_)
   refine jo_skipu (j := 8) (want := false) rfl rfl (by simpa using hv) rfl ?_
   refine jo_skipu (j := 8) (want := false) rfl rfl (by simpa using hv) rfl ?_
   refine jo_pure rfl (pr_pick_t rfl (by simpa using hv) rfl) ?_
   refine jo_nil (jq_then (jc_true rfl (rfl) ?_))
   refine jc_seq (jc_region (jo_pure rfl (pr_assign rfl) (jo_nil (jq_then (jc_ret ?_)))))
   refine jq_then_ret (j_drop (j_drop ?_))
   exact jq_ret1 rfl () rfl (show (.bool (true) : Value) = (.bool (true)) from rfl) (fun _ h => h)
 ·skip
  refine jc_region (jo_pure rfl (pr_move rfl) ?_)
  refine jo_callp cal_15 (c_keep_Axes x xv (by first | omega | exact hl | exact hm | exact hlx | exact hmx | exact hxl | exact hxv | exact hav | exact hlenl | exact hmeml | exact hmem3l | exact hmem6l | exact hgm | (rw [hinv.2]; exact hM1) | (rw [hinv.2]; exact hM2) | exact hM2 | decide) (by first | omega | exact hl | exact hm | exact hlx | exact hmx | exact hxl | exact hxv | exact hav | exact hlenl | exact hmeml | exact hmem3l | exact hmem6l | exact hgm | (rw [hinv.2]; exact hM1) | (rw [hinv.2]; exact hM2) | exact hM2 | decide)) ⟨rfl, trivial⟩ rfl (⟨⟨rfl, .head _⟩, trivial⟩) (fun _ => ?_)
  refine jo_pure rfl (pr_not rfl) ?_
  refine jo_pure rfl (pr_move rfl) (jo_skipu (j := 3) (want := false) rfl rfl (by simpa using hz) rfl ?_)
  refine jo_skipu (j := 3) (want := false) rfl rfl (by simpa using hz) rfl ?_
  refine jo_skipu (j := 3) (want := false) rfl rfl (by simpa using hz) rfl ?_
  refine jo_pure rfl (pr_pick_t rfl (by simpa using hz) rfl) ?_
  refine jo_pure rfl (pr_move rfl) (jo_skipu (j := 8) (want := false) rfl rfl (rfl) rfl ?_)
  refine jo_skipu (j := 8) (want := false) rfl rfl (rfl) rfl ?_
  refine jo_skipu (j := 8) (want := false) rfl rfl (rfl) rfl ?_
  refine jo_pure rfl (pr_pick_t rfl (rfl) rfl) ?_
  refine jo_nil (jq_then (jc_true rfl (rfl) ?_))
  refine jc_seq (jc_region (jo_pure rfl (pr_assign rfl) (jo_nil (jq_then (jc_ret ?_)))))
  refine jq_then_ret (j_drop (j_drop ?_))
  exact jq_ret1 rfl () rfl (show (.bool (true) : Value) = (.bool (true)) from rfl) (fun _ h => h)

set_option maxHeartbeats 2000000 in
theorem c_law18_ClassLines (x : List ((List UInt8) × (List (List UInt8)))) (xv : Value) (l : List ((List UInt8) × (List UInt8))) (lv : Value) (azz : Int) (ax : List UInt8) (bx : List UInt8) (strict : Bool) (hlx : x.length ≤ 9223372036854775807) (hmx : ∀ a ∈ x, a.2.length ≤ 9223372036854775807) (hl : l.length ≤ 9223372036854775807) : Con Tryz.prog 4 #[xv, lv, .int .i64 (azz), str (ax), str (bx), .bool (strict)] [.imm (.list (.pair .str (.list .str))) (xv) (x), .imm (.list (.pair .str .str)) (lv) (l)] (fun _ : Unit => .bool (true)) (fun _ => []) := by
 refine con_of_J (args := [xv, lv, .int .i64 (azz), str (ax), str (bx), .bool (strict)]) (n := 106) Tryz.func4 rfl (Nat.le_of_ble_eq_true rfl) rfl (fun w0 I0 m0 => ?_)
 show J _ [(0, xv), (1, lv), (2, .int .i64 (azz)), (3, str (ax)), (4, str (bx)), (5, .bool (strict))] [.imm (.list (.pair .str (.list .str))) (xv) (x), .imm (.list (.pair .str .str)) (lv) (l)] _
 refine jc_seq (jc_region (jo_pure rfl (pr_assign rfl) (jo_nil (jq_then (jc_seq ?_)))))
 refine jc_seq ?_
 by_cases hz : keepA x = true
 ·skip
  have hxl : x.length ≤ 1000 := by have := keepA_len (hz); omega
  have hxv : ∀ a ∈ x, a.1.length ≤ 1000000 ∧ (∀ z ∈ a.2, z.length ≤ 300000) ∧ a.2.length ≤ 9223372036854775807 := fun a ha => by have h9 := keepA_mem (hz) a ha; exact ⟨by omega, fun z hz => Nat.le_trans (h9.2.2 z hz) (by omega), by omega⟩
  have hav : ∀ a ∈ x, a.1.length ≤ 300 ∧ a.2.length ≤ 1000 ∧ ∀ z ∈ a.2, z.length ≤ 300 := fun a ha => by have h9 := keepA_mem hz a ha; exact ⟨by omega, by omega, fun z hz => Nat.le_trans (h9.2.2 z hz) (by omega)⟩
  have hav1 : ∀ a ∈ x, a.1.length ≤ 100 := fun a ha => (keepA_mem hz a ha).1
  by_cases hv : validL x = true
  ·skip
   have hv4 := validL_len hv
   by_cases hkl : keepF l = true
   ·skip
    have hlenl : l.length ≤ 1000000 := by have := keepF_len (hkl); omega
    have hmeml : ∀ z ∈ l, z.1.length ≤ 20000 ∧ z.2.length ≤ 20000 := fun z hz => by have := keepF_mem (hkl) z hz; omega
    have hmem3l : ∀ z ∈ l, z.1.length ≤ 300000 ∧ z.2.length ≤ 300000 := fun z hz => by have := keepF_mem (hkl) z hz; omega
    have hmem6l : ∀ z ∈ l, z.1.length ≤ 1000000 ∧ z.2.length ≤ 1000000 := fun z hz => by have := hmeml z hz; omega
    by_cases hc1 : 0 ≤ azz
    ·skip
     rw [show (azz : Int) = ((azz.toNat : Nat) : Int) from (Int.toNat_of_nonneg hc1).symm]
     by_cases hc2 : azz.toNat < x.length
     ·skip
      by_cases hc3 : ax.length ≤ 200
      ·skip
       by_cases hc4 : bx.length ≤ 200
       ·skip
        refine jc_region (jo_pure rfl (pr_move rfl) ?_)
        refine jo_callp cal_15 (c_keep_Axes x xv (by first | omega | exact hl | exact hm | exact hlx | exact hmx | exact hxl | exact hxv | exact hav | exact hlenl | exact hmeml | exact hmem3l | exact hmem6l | exact hnl | exact hPm | exact hQm | exact hQm2 | exact hPl | exact hQl | exact hQl2 | (simp only [List.length_append, List.length_cons, List.length_nil]; omega) | (rw [List.length_set]; exact hQl) | decide) (by first | omega | exact hl | exact hm | exact hlx | exact hmx | exact hxl | exact hxv | exact hav | exact hlenl | exact hmeml | exact hmem3l | exact hmem6l | exact hnl | exact hPm | exact hQm | exact hQm2 | exact hPl | exact hQl | exact hQl2 | (simp only [List.length_append, List.length_cons, List.length_nil]; omega) | (rw [List.length_set]; exact hQl) | decide)) ⟨rfl, trivial⟩ rfl (⟨⟨rfl, .head _⟩, trivial⟩) (fun _ => ?_)
        refine jo_pure rfl (pr_not rfl) ?_
        refine jo_pure rfl (pr_move rfl) (jo_run (j := 3) (want := false) rfl rfl (by rw [hz]; rfl) ?_)
        refine jo_pure rfl (pr_move rfl) (jo_run (j := 3) (want := false) rfl rfl (by rw [hz]; rfl) ?_)
        refine jo_callp cal_22 (c_ref10_Valid x xv (by first | omega | exact hl | exact hm | exact hlx | exact hmx | exact hxl | exact hxv | exact hav | exact hlenl | exact hmeml | exact hmem3l | exact hmem6l | exact hnl | exact hPm | exact hQm | exact hQm2 | exact hPl | exact hQl | exact hQl2 | (simp only [List.length_append, List.length_cons, List.length_nil]; omega) | (rw [List.length_set]; exact hQl) | decide) (by first | omega | exact hl | exact hm | exact hlx | exact hmx | exact hxl | exact hxv | exact hav | exact hlenl | exact hmeml | exact hmem3l | exact hmem6l | exact hnl | exact hPm | exact hQm | exact hQm2 | exact hPl | exact hQl | exact hQl2 | (simp only [List.length_append, List.length_cons, List.length_nil]; omega) | (rw [List.length_set]; exact hQl) | decide)) ⟨rfl, trivial⟩ rfl (⟨⟨rfl, .head _⟩, trivial⟩) (fun _ => ?_)
        refine jo_run (j := 3) (want := false) rfl rfl (by rw [hz]; rfl) ?_
        refine jo_pure rfl (pr_not rfl) ?_
        refine jo_pure rfl (pr_pick_f rfl (by rw [hz]; rfl) rfl) ?_
        refine jo_pure rfl (pr_move rfl) (jo_run (j := 8) (want := false) rfl rfl (by rw [hv]; rfl) ?_)
        refine jo_pure rfl (pr_move rfl) (jo_run (j := 8) (want := false) rfl rfl (by rw [hv]; rfl) ?_)
        refine jo_callp cal_16 (c_keep_Fields l lv (by first | omega | exact hl | exact hm | exact hlx | exact hmx | exact hxl | exact hxv | exact hav | exact hlenl | exact hmeml | exact hmem3l | exact hmem6l | exact hnl | exact hPm | exact hQm | exact hQm2 | exact hPl | exact hQl | exact hQl2 | (simp only [List.length_append, List.length_cons, List.length_nil]; omega) | (rw [List.length_set]; exact hQl) | decide)) ⟨rfl, trivial⟩ rfl (⟨⟨rfl, .tail _ (.head _)⟩, trivial⟩) (fun _ => ?_)
        refine jo_run (j := 8) (want := false) rfl rfl (by rw [hv]; rfl) ?_
        refine jo_pure rfl (pr_not rfl) ?_
        refine jo_pure rfl (pr_pick_f rfl (by rw [hv]; rfl) rfl) ?_
        refine jo_pure rfl (pr_move rfl) (jo_run (j := 13) (want := false) rfl rfl (by rw [hkl]; rfl) ?_)
        refine jo_pure rfl (pr_move rfl) (jo_run (j := 13) (want := false) rfl rfl (by rw [hkl]; rfl) ?_)
        refine jo_pure rfl (pr_lssN (m := azz.toNat) (n := 0) rfl rfl) ?_
        refine jo_pure rfl (pr_pick_f rfl (by rw [hkl]; rfl) rfl) ?_
        refine jo_pure rfl (pr_move rfl) (jo_run (j := 17) (want := false) rfl rfl (by simp) ?_)
        refine jo_pure rfl (pr_move rfl) (jo_run (j := 17) (want := false) rfl rfl (by simp) ?_)
        refine jo_pure rfl (pr_move rfl) (jo_run (j := 17) (want := false) rfl rfl (by simp) ?_)
        refine jo_pure rfl (pr_len_imm rfl (.head _) Tryz.underlying22) ?_
        refine jo_run (j := 17) (want := false) rfl rfl (by simp) ?_
        refine jo_pure rfl (pr_geqN (m := azz.toNat) (n := x.length) rfl rfl) ?_
        refine jo_pure rfl (pr_pick_f rfl (by simp) rfl) ?_
        refine jo_pure rfl (pr_move rfl) (jo_run (j := 23) (want := false) rfl rfl (decide_eq_false (by omega)) ?_)
        refine jo_pure rfl (pr_move rfl) (jo_run (j := 23) (want := false) rfl rfl (decide_eq_false (by omega)) ?_)
        refine jo_pure rfl (pr_slen rfl Tryz.underlying9) ?_
        refine jo_run (j := 23) (want := false) rfl rfl (decide_eq_false (by omega)) ?_
        refine jo_pure rfl (pr_gtrN (m := ax.length) (n := 200) rfl rfl) ?_
        refine jo_pure rfl (pr_pick_f rfl (decide_eq_false (by omega)) rfl) ?_
        refine jo_pure rfl (pr_move rfl) (jo_run (j := 28) (want := false) rfl rfl (decide_eq_false (by omega)) ?_)
        refine jo_pure rfl (pr_move rfl) (jo_run (j := 28) (want := false) rfl rfl (decide_eq_false (by omega)) ?_)
        refine jo_pure rfl (pr_slen rfl Tryz.underlying9) ?_
        refine jo_run (j := 28) (want := false) rfl rfl (decide_eq_false (by omega)) ?_
        refine jo_pure rfl (pr_gtrN (m := bx.length) (n := 200) rfl rfl) ?_
        refine jo_pure rfl (pr_pick_f rfl (decide_eq_false (by omega)) rfl) ?_
        refine jo_pure rfl (pr_move rfl) (jo_run (j := 33) (want := false) rfl rfl (decide_eq_false (by omega)) ?_)
        refine jo_pure rfl (pr_move rfl) (jo_run (j := 33) (want := false) rfl rfl (decide_eq_false (by omega)) ?_)
        refine jo_pure rfl (pr_sadd rfl rfl (by have := nameK_length (kindF (x.getD azz.toNat ([], [])).1); simp only [List.length_append, List.length_cons, List.length_nil]; omega)) ?_
        refine jo_run (j := 33) (want := false) rfl rfl (decide_eq_false (by omega)) ?_
        refine jo_callp cal_23 (c_ref01_Split (ax ++ [44, 120]) (by first | omega | exact hl | exact hm | exact hlx | exact hmx | exact hxl | exact hxv | exact hav | exact hlenl | exact hmeml | exact hmem3l | exact hmem6l | exact hnl | exact hPm | exact hQm | exact hQm2 | exact hPl | exact hQl | exact hQl2 | (simp only [List.length_append, List.length_cons, List.length_nil]; omega) | (rw [List.length_set]; exact hQl) | decide)) ⟨rfl, trivial⟩ rfl (trivial) (fun r1 => ?_)
        show J _ _ [.row (r1) 9 .str (splitF (ax ++ [44, 120])), .imm (.list (.pair .str (.list .str))) (xv) (x), .imm (.list (.pair .str .str)) (lv) (l)] _
        refine jo_run (j := 33) (want := false) rfl rfl (decide_eq_false (by omega)) ?_
        refine jo_pure rfl (pr_len_row rfl (.head _) Tryz.underlying29) ?_
        refine jo_run (j := 33) (want := false) rfl rfl (decide_eq_false (by omega)) ?_
        refine jo_pure rfl (pr_move rfl) (jo_run (j := 33) (want := false) rfl rfl (decide_eq_false (by omega)) ?_)
        refine jo_callp cal_23 (c_ref01_Split ax (by first | omega | exact hl | exact hm | exact hlx | exact hmx | exact hxl | exact hxv | exact hav | exact hlenl | exact hmeml | exact hmem3l | exact hmem6l | exact hnl | exact hPm | exact hQm | exact hQm2 | exact hPl | exact hQl | exact hQl2 | (simp only [List.length_append, List.length_cons, List.length_nil]; omega) | (rw [List.length_set]; exact hQl) | decide)) ⟨rfl, trivial⟩ rfl (trivial) (fun r2 => ?_)
        show J _ _ [.row (r2) 9 .str (splitF ax), .row (r1) 9 .str (splitF (ax ++ [44, 120])), .imm (.list (.pair .str (.list .str))) (xv) (x), .imm (.list (.pair .str .str)) (lv) (l)] _
        refine jo_run (j := 33) (want := false) rfl rfl (decide_eq_false (by omega)) ?_
        refine jo_pure rfl (pr_len_row rfl (.head _) Tryz.underlying29) ?_
        refine jo_run (j := 33) (want := false) rfl rfl (decide_eq_false (by omega)) ?_
        refine jo_pure rfl (pr_addN (m := (splitF ax).length) (n := 1) rfl rfl (by have := splitF_length ax; omega)) ?_
        refine jo_run (j := 33) (want := false) rfl rfl (decide_eq_false (by omega)) ?_
        refine jo_pure rfl (pr_neqN (m := (splitF (ax ++ [44, 120])).length) (n := ((splitF ax).length) + 1) rfl rfl) ?_
        refine jo_pure rfl (pr_pick_f rfl (decide_eq_false (by omega)) rfl) ?_
        refine jo_nil (jq_then ?_)
        refine jc_cond rfl (fun h1b => ?_) (fun h1b => ?_)
        ·have h1 := (fun q => of_decide_eq_false (bt_not q)) h1b
         refine jc_seq (jc_region (jo_pure rfl (pr_assign rfl) (jo_nil (jq_then (jc_ret ?_)))))
         refine jq_then_ret (j_drop (j_drop (j_drop (j_drop ?_))))
         exact jq_ret1 rfl () rfl (show (.bool (true) : Value) = (.bool (true)) from rfl) (fun _ h => h)
        ·have h1 := (fun q => of_decide_eq_true (bf_not q)) h1b
         have hsp : (splitF (ax ++ [44, 120])).length = (splitF ax).length + 1 := by simpa using h1
         have hnl : (x.getD azz.toNat ([], [])).1.length ≤ 1000000 := by have := hav1 _ (getD_mem (dd := ([], [])) hc2); omega
         have hn1 := hav1 _ (getD_mem (dd := ([], [])) hc2)
         have hkn := nameK_length (kindF (x.getD azz.toNat ([], [])).1)
         have hPl : (([] ++ (removeF l (x.getD azz.toNat ([], [])).1)) ++ [((x.getD azz.toNat ([], [])).1, ax), ((x.getD azz.toNat ([], [])).1, bx)]).length ≤ 1000000 := by have := keepF_len hkl; have := removeF_length l (x.getD azz.toNat ([], [])).1; simp only [List.length_append, List.length_cons, List.length_nil]; omega
         have hQl : ([(nameK (kindF (x.getD azz.toNat ([], [])).1), ((([9] ++ ax) ++ [32, 44, 32]) ++ bx ++ [32]))] ++ (removeF l (x.getD azz.toNat ([], [])).1)).length ≤ 1000000 := by have := keepF_len hkl; have := removeF_length l (x.getD azz.toNat ([], [])).1; simp only [List.length_append, List.length_cons, List.length_nil]; omega
         have hQl2 : (([(nameK (kindF (x.getD azz.toNat ([], [])).1), ((([9] ++ ax) ++ [32, 44, 32]) ++ bx ++ [32]))] ++ (removeF l (x.getD azz.toNat ([], [])).1)).set 0 ((x.getD azz.toNat ([], [])).1, (([(nameK (kindF (x.getD azz.toNat ([], [])).1), ((([9] ++ ax) ++ [32, 44, 32]) ++ bx ++ [32]))] ++ (removeF l (x.getD azz.toNat ([], [])).1)).getD 0 ([], [])).2)).length ≤ 1000000 := by rw [List.length_set]; exact hQl
         have hPm := lines_mem1 (n := (x.getD azz.toNat ([], [])).1) (a := ax) (b := bx) (P := fun z : List UInt8 × List UInt8 => z.1.length ≤ 20000 ∧ z.2.length ≤ 20000) (removeF_mem (p := fun z => z.1.length ≤ 20000 ∧ z.2.length ≤ 20000) (name := (x.getD azz.toNat ([], [])).1) hmeml) (by simp only; omega) (by simp only; omega)
         have hQm := lines_mem2 (u := (nameK (kindF (x.getD azz.toNat ([], [])).1), ((([9] ++ ax) ++ [32, 44, 32]) ++ bx ++ [32]))) (P := fun z : List UInt8 × List UInt8 => z.1.length ≤ 20000 ∧ z.2.length ≤ 20000) (removeF_mem (p := fun z => z.1.length ≤ 20000 ∧ z.2.length ≤ 20000) (name := (x.getD azz.toNat ([], [])).1) hmeml) (by simp only [List.length_append, List.length_cons, List.length_nil]; omega)
         have hQm2 := lines_mem2 (u := ((x.getD azz.toNat ([], [])).1, ((([9] ++ ax) ++ [32, 44, 32]) ++ bx ++ [32]))) (P := fun z : List UInt8 × List UInt8 => z.1.length ≤ 20000 ∧ z.2.length ≤ 20000) (removeF_mem (p := fun z => z.1.length ≤ 20000 ∧ z.2.length ≤ 20000) (name := (x.getD azz.toNat ([], [])).1) hmeml) (by simp only [List.length_append, List.length_cons, List.length_nil]; omega)
         have hfin := lines_class (l := l) (b := bx) (strict := strict) hv hc2 hsp
         refine jc_skip (jq_then (jc_seq (jc_region (jo_pure rfl (pr_move rfl) (jo_pure rfl (pr_move rfl) ?_)))))
         refine j_open_elem (t := (.pair .str (.list .str))) (i := azz.toNat) ([], []) (.tail _ (.tail _ (.head _))) (by first | omega | (simp only [List.length_append, List.length_cons, List.length_nil]; omega)) (fun ⟨_, e1⟩ => ?_)
         show J _ _ (.imm (.list .str) (e1) (((x.getD azz.toNat ([], []))).2) :: .fact (fun w_ I_ => ElemAt w_ I_ (xv) (azz.toNat) 2 [str (((x.getD azz.toNat ([], []))).1), e1]) :: _) _
         refine jo_pure rfl (pr_idx_imm (i := azz.toNat) rfl (.tail _ (.tail _ (.tail _ (.tail _ (.head _))))) rfl Tryz.underlying22 ty_32 (by first | omega | (simp only [List.length_append, List.length_cons, List.length_nil]; omega))) ?_
         refine jo_pure rfl (pr_fieldAddr_imm (i := azz.toNat) rfl (.tail _ (.tail _ (.tail _ (.tail _ (.head _))))) Tryz.underlying32 rfl ty_9 rfl rfl (by first | omega | (simp only [List.length_append, List.length_cons, List.length_nil]; omega))) ?_
         refine jo_pure rfl (pr_load_off_at (o := 0) (str (((x.getD azz.toNat ([], []))).1)) rfl (.tail _ (.head _)) ty_9 (by decide) rfl rfl) ?_
         refine jo_pure rfl (pr_assign rfl) (jo_nil (jq_then (jc_seq (jc_region (jo_pure rfl (pr_move rfl) ?_)))))
         refine jo_pure rfl (pr_move rfl) ?_
         refine jo_callp cal_24 (c_ref01_Remove l lv (((x.getD azz.toNat ([], []))).1) (by first | omega | exact hl | exact hm | exact hlx | exact hmx | exact hxl | exact hxv | exact hav | exact hlenl | exact hmeml | exact hmem3l | exact hmem6l | exact hnl | exact hPm | exact hQm | exact hQm2 | exact hPl | exact hQl | exact hQl2 | (simp only [List.length_append, List.length_cons, List.length_nil]; omega) | (rw [List.length_set]; exact hQl) | decide) (by first | omega | exact hl | exact hm | exact hlx | exact hmx | exact hxl | exact hxv | exact hav | exact hlenl | exact hmeml | exact hmem3l | exact hmem6l | exact hnl | exact hPm | exact hQm | exact hQm2 | exact hPl | exact hQl | exact hQl2 | (simp only [List.length_append, List.length_cons, List.length_nil]; omega) | (rw [List.length_set]; exact hQl) | decide) (by first | omega | exact hl | exact hm | exact hlx | exact hmx | exact hxl | exact hxv | exact hav | exact hlenl | exact hmeml | exact hmem3l | exact hmem6l | exact hnl | exact hPm | exact hQm | exact hQm2 | exact hPl | exact hQl | exact hQl2 | (simp only [List.length_append, List.length_cons, List.length_nil]; omega) | (rw [List.length_set]; exact hQl) | decide)) ⟨rfl, rfl, trivial⟩ rfl (⟨⟨rfl, .tail _ (.tail _ (.tail _ (.tail _ (.tail _ (.head _)))))⟩, trivial⟩) (fun r3 => ?_)
         show J _ _ [.row (r3) 35 (.pair .str .str) (removeF l (((x.getD azz.toNat ([], []))).1)), .imm (.list .str) (e1) (((x.getD azz.toNat ([], []))).2), .fact (fun w_ I_ => ElemAt w_ I_ (xv) (azz.toNat) 2 [str (((x.getD azz.toNat ([], []))).1), e1]), .row (r2) 9 .str (splitF ax), .row (r1) 9 .str (splitF (ax ++ [44, 120])), .imm (.list (.pair .str (.list .str))) (xv) (x), .imm (.list (.pair .str .str)) (lv) (l)] _
         refine jo_pure rfl (pr_assign rfl) (jo_nil (jq_then (jc_seq (jc_region (jo_pure rfl (pr_move rfl) ?_)))))
         refine j_nil_row 35 (.pair .str .str) ?_
         refine j_pull1 (j_pub_row (j_pull1 ?_))
         refine jo_append_imm rfl rfl (.head _) Tryz.underlying23 ty_35 rfl (by have := keepF_len hkl; have := removeF_length l (x.getD azz.toNat ([], [])).1; simp only [List.length_append, List.length_cons, List.length_nil, maxLen]; omega) (by have := keepF_len hkl; have := removeF_length l (x.getD azz.toNat ([], [])).1; simp only [List.length_append, List.length_cons, List.length_nil]; omega) rfl (fun v1 => ?_)
         refine jo_pure rfl (pr_move rfl) (jo_pure rfl (pr_move rfl) (jo_pure rfl (pr_build [(0, str (((x.getD azz.toNat ([], []))).1)), (1, str (ax))] [str (((x.getD azz.toNat ([], []))).1), str (ax)] (fun a hf => by simp only [List.map_toArray, List.map_cons, List.map_nil, hf.ev (show ev _ (.tmp 70) = some (str (((x.getD azz.toNat ([], []))).1)) from rfl), hf.ev (show ev _ (.tmp 71) = some (str (ax)) from rfl)]) (by kernel_rfl)) ?_))
         refine jo_pure rfl (pr_move rfl) (jo_pure rfl (pr_move rfl) (jo_pure rfl (pr_build [(0, str (((x.getD azz.toNat ([], []))).1)), (1, str (bx))] [str (((x.getD azz.toNat ([], []))).1), str (bx)] (fun a hf => by simp only [List.map_toArray, List.map_cons, List.map_nil, hf.ev (show ev _ (.tmp 73) = some (str (((x.getD azz.toNat ([], []))).1)) from rfl), hf.ev (show ev _ (.tmp 74) = some (str (bx)) from rfl)]) (by kernel_rfl)) ?_))
         refine jo_buildSlice (t := (.pair .str .str)) [(((x.getD azz.toNat ([], []))).1, ax), (((x.getD azz.toNat ([], []))).1, bx)] [.agg #[str (((x.getD azz.toNat ([], []))).1), str (ax)], .agg #[str (((x.getD azz.toNat ([], []))).1), str (bx)]] (fun a hf => by simp only [List.zipIdx_cons, List.zipIdx_nil, List.map_toArray, List.map_cons, List.map_nil, hf.ev (show ev _ (.tmp 72) = some (.agg #[str (((x.getD azz.toNat ([], []))).1), str (ax)]) from rfl), hf.ev (show ev _ (.tmp 75) = some (.agg #[str (((x.getD azz.toNat ([], []))).1), str (bx)]) from rfl)] <;> rfl) rfl Tryz.underlying23 ty_35 rfl rfl rfl rfl rfl (fun g1 => ?_)
         refine j_pull1 ?_
         refine jo_append rfl rfl Tryz.underlying23 ty_35 rfl (by have := keepF_len hkl; have := removeF_length l (x.getD azz.toNat ([], [])).1; simp only [List.length_append, List.length_cons, List.length_nil, maxLen]; omega) (by have := keepF_len hkl; have := removeF_length l (x.getD azz.toNat ([], [])).1; simp only [List.length_append, List.length_cons, List.length_nil]; omega) rfl (fun v2 => ?_)
         refine jo_pure rfl (pr_assign rfl) (jo_nil (jq_then (jc_seq (jc_region (jo_pure rfl (pr_move rfl) ?_)))))
         refine jo_callp cal_26 (c_ref10_Kind (((x.getD azz.toNat ([], []))).1) (by first | omega | exact hl | exact hm | exact hlx | exact hmx | exact hxl | exact hxv | exact hav | exact hlenl | exact hmeml | exact hmem3l | exact hmem6l | exact hnl | exact hPm | exact hQm | exact hQm2 | exact hPl | exact hQl | exact hQl2 | (simp only [List.length_append, List.length_cons, List.length_nil]; omega) | (rw [List.length_set]; exact hQl) | decide)) ⟨rfl, trivial⟩ rfl (trivial) (fun _ => ?_)
         refine jo_callp cal_25 (c_ref10_Name (kindF (((x.getD azz.toNat ([], []))).1))) ⟨rfl, trivial⟩ rfl (trivial) (fun _ => ?_)
         refine jo_pure rfl (pr_move rfl) (jo_pure rfl (pr_sadd rfl rfl (by have := nameK_length (kindF (x.getD azz.toNat ([], [])).1); simp only [List.length_append, List.length_cons, List.length_nil]; omega)) ?_)
         refine jo_pure rfl (pr_sadd rfl rfl (by have := nameK_length (kindF (x.getD azz.toNat ([], [])).1); simp only [List.length_append, List.length_cons, List.length_nil]; omega)) ?_
         refine jo_pure rfl (pr_move rfl) (jo_pure rfl (pr_sadd rfl rfl (by have := nameK_length (kindF (x.getD azz.toNat ([], [])).1); simp only [List.length_append, List.length_cons, List.length_nil]; omega)) ?_)
         refine jo_pure rfl (pr_sadd rfl rfl (by have := nameK_length (kindF (x.getD azz.toNat ([], [])).1); simp only [List.length_append, List.length_cons, List.length_nil]; omega)) ?_
         refine jo_pure rfl (pr_build [(0, str (nameK (kindF (((x.getD azz.toNat ([], []))).1)))), (1, str (((([9] ++ ax) ++ [32, 44, 32]) ++ bx) ++ [32]))] [str (nameK (kindF (((x.getD azz.toNat ([], []))).1))), str (((([9] ++ ax) ++ [32, 44, 32]) ++ bx) ++ [32])] (fun a hf => by simp only [List.map_toArray, List.map_cons, List.map_nil, hf.ev (show ev _ (.tmp 80) = some (str (nameK (kindF (((x.getD azz.toNat ([], []))).1)))) from rfl), hf.ev (show ev _ (.tmp 86) = some (str (((([9] ++ ax) ++ [32, 44, 32]) ++ bx) ++ [32])) from rfl)]) (by kernel_rfl)) ?_
         refine jo_buildSlice (t := (.pair .str .str)) [(nameK (kindF (((x.getD azz.toNat ([], []))).1)), ((([9] ++ ax) ++ [32, 44, 32]) ++ bx) ++ [32])] [.agg #[str (nameK (kindF (((x.getD azz.toNat ([], []))).1))), str (((([9] ++ ax) ++ [32, 44, 32]) ++ bx) ++ [32])]] (fun a hf => by simp only [List.zipIdx_cons, List.zipIdx_nil, List.map_toArray, List.map_cons, List.map_nil, hf.ev (show ev _ (.tmp 87) = some (.agg #[str (nameK (kindF (((x.getD azz.toNat ([], []))).1))), str (((([9] ++ ax) ++ [32, 44, 32]) ++ bx) ++ [32])]) from rfl)] <;> rfl) rfl Tryz.underlying23 ty_35 rfl rfl rfl rfl rfl (fun g2 => ?_)
         refine jo_pure rfl (pr_move rfl) (j_row_of_rowg ?_)
         refine jo_append_imm rfl rfl (.tail _ (.head _)) Tryz.underlying23 ty_35 rfl (by have := keepF_len hkl; have := removeF_length l (x.getD azz.toNat ([], [])).1; simp only [List.length_append, List.length_cons, List.length_nil, maxLen]; omega) (by have := keepF_len hkl; have := removeF_length l (x.getD azz.toNat ([], [])).1; simp only [List.length_append, List.length_cons, List.length_nil]; omega) rfl (fun v3 => ?_)
         refine jo_pure rfl (pr_assign rfl) (jo_nil (jq_then (jc_seq (jc_seq (jc_region ?_)))))
         refine jo_pure rfl (pr_move rfl) ?_
         refine jo_callp cal_26 (c_ref10_Kind (((x.getD azz.toNat ([], []))).1) (by first | omega | exact hl | exact hm | exact hlx | exact hmx | exact hxl | exact hxv | exact hav | exact hlenl | exact hmeml | exact hmem3l | exact hmem6l | exact hnl | exact hPm | exact hQm | exact hQm2 | exact hPl | exact hQl | exact hQl2 | (simp only [List.length_append, List.length_cons, List.length_nil]; omega) | (rw [List.length_set]; exact hQl) | decide)) ⟨rfl, trivial⟩ rfl (trivial) (fun _ => ?_)
         refine jo_pure rfl (pr_eql (n := 0) rfl rfl) ?_
         refine jo_nil (jq_then ?_)
         refine jc_cond rfl (fun h2b => ?_) (fun h2b => ?_)
         ·have h2 := of_decide_eq_true h2b
          refine jc_region (jo_pure rfl (pr_move rfl) (jo_pure rfl (pr_move rfl) (jo_pure rfl (pr_idx_row (i := 0) rfl (.head _) rfl Tryz.underlying23 ty_35 (by first | omega | (simp only [List.length_append, List.length_cons, List.length_nil]; omega))) ?_)))
          refine jo_pure rfl (pr_fieldAddr_row (i := 0) rfl (.head _) Tryz.underlying35 rfl ty_9 rfl rfl (by first | omega | (simp only [List.length_append, List.length_cons, List.length_nil]; omega))) ?_
          refine jo_store_off_row (i := 0) (o := 0) (dd := ([], [])) ((((x.getD azz.toNat ([], []))).1, (([(nameK (kindF (((x.getD azz.toNat ([], []))).1)), ((([9] ++ ax) ++ [32, 44, 32]) ++ bx) ++ [32])] ++ (removeF l (((x.getD azz.toNat ([], []))).1))).getD 0 ([], [])).2)) rfl rfl ty_9 rfl rfl rfl (by simp only [List.length_append, List.length_cons, List.length_nil]; omega) (by decide) rfl ?_
          refine jo_nil (jq_then (jc_seq (jc_region (jo_pure rfl (pr_move rfl) (jo_pure rfl (pr_move rfl) ?_)))))
          refine jo_pure rfl (pr_move rfl) (jo_pure rfl (pr_move rfl) (j_pull1 (j_pub_row (j_pull1 (j_pub_row ?_)))))
          refine jo_callp cal_19 (c_class_Same x xv (([] ++ (removeF l (((x.getD azz.toNat ([], []))).1))) ++ [(((x.getD azz.toNat ([], []))).1, ax), (((x.getD azz.toNat ([], []))).1, bx)]) v2 (([(nameK (kindF (((x.getD azz.toNat ([], []))).1)), ((([9] ++ ax) ++ [32, 44, 32]) ++ bx) ++ [32])] ++ (removeF l (((x.getD azz.toNat ([], []))).1))).set 0 (((x.getD azz.toNat ([], []))).1, (([(nameK (kindF (((x.getD azz.toNat ([], []))).1)), ((([9] ++ ax) ++ [32, 44, 32]) ++ bx) ++ [32])] ++ (removeF l (((x.getD azz.toNat ([], []))).1))).getD 0 ([], [])).2)) v3 strict (by first | omega | exact hl | exact hm | exact hlx | exact hmx | exact hxl | exact hxv | exact hav | exact hlenl | exact hmeml | exact hmem3l | exact hmem6l | exact hnl | exact hPm | exact hQm | exact hQm2 | exact hPl | exact hQl | exact hQl2 | (simp only [List.length_append, List.length_cons, List.length_nil]; omega) | (rw [List.length_set]; exact hQl) | decide) (by first | omega | exact hl | exact hm | exact hlx | exact hmx | exact hxl | exact hxv | exact hav | exact hlenl | exact hmeml | exact hmem3l | exact hmem6l | exact hnl | exact hPm | exact hQm | exact hQm2 | exact hPl | exact hQl | exact hQl2 | (simp only [List.length_append, List.length_cons, List.length_nil]; omega) | (rw [List.length_set]; exact hQl) | decide) (by first | omega | exact hl | exact hm | exact hlx | exact hmx | exact hxl | exact hxv | exact hav | exact hlenl | exact hmeml | exact hmem3l | exact hmem6l | exact hnl | exact hPm | exact hQm | exact hQm2 | exact hPl | exact hQl | exact hQl2 | (simp only [List.length_append, List.length_cons, List.length_nil]; omega) | (rw [List.length_set]; exact hQl) | decide) (by first | omega | exact hl | exact hm | exact hlx | exact hmx | exact hxl | exact hxv | exact hav | exact hlenl | exact hmeml | exact hmem3l | exact hmem6l | exact hnl | exact hPm | exact hQm | exact hQm2 | exact hPl | exact hQl | exact hQl2 | (simp only [List.length_append, List.length_cons, List.length_nil]; omega) | (rw [List.length_set]; exact hQl) | decide) (by first | omega | exact hl | exact hm | exact hlx | exact hmx | exact hxl | exact hxv | exact hav | exact hlenl | exact hmeml | exact hmem3l | exact hmem6l | exact hnl | exact hPm | exact hQm | exact hQm2 | exact hPl | exact hQl | exact hQl2 | (simp only [List.length_append, List.length_cons, List.length_nil]; omega) | (rw [List.length_set]; exact hQl) | decide) (by first | omega | exact hl | exact hm | exact hlx | exact hmx | exact hxl | exact hxv | exact hav | exact hlenl | exact hmeml | exact hmem3l | exact hmem6l | exact hnl | exact hPm | exact hQm | exact hQm2 | exact hPl | exact hQl | exact hQl2 | (simp only [List.length_append, List.length_cons, List.length_nil]; omega) | (rw [List.length_set]; exact hQl) | decide)) ⟨rfl, rfl, rfl, rfl, trivial⟩ rfl (⟨⟨rfl, .tail _ (.tail _ (.tail _ (.tail _ (.tail _ (.tail _ (.tail _ (.head _)))))))⟩, ⟨⟨rfl, .tail _ (.head _)⟩, ⟨⟨rfl, .head _⟩, trivial⟩⟩⟩) (fun _ => ?_)
          refine jo_pure rfl (pr_move rfl) (jo_gcall (j := 5) (want := true) rfl rfl rfl cal_21 (fun hg => c_law18_awake) (fun hg => trivial) rfl (fun _ => trivial) ?_)
          refine jo_pure rfl (pr_pick_and rfl rfl rfl) ?_
          refine jo_pure rfl (pr_assign rfl) (jo_nil (jq_then (jc_ret (j_drop (j_drop ?_)))))
          refine j_drop (j_drop (j_drop (j_drop (j_drop (j_drop ?_)))))
          refine j_drop ?_
          refine jq_ret1 rfl () rfl ?_ (fun _ h => h)
          exact congrArg Value.bool (by have h9 := hfin; rw [lineName, if_pos h2] at h9; rw [lines_eq1, lines_eq2, h9]; rfl)
         ·have h2 := of_decide_eq_false h2b
          refine jc_skip (jq_then (jc_seq (jc_region (jo_pure rfl (pr_move rfl) (jo_pure rfl (pr_move rfl) ?_)))))
          refine jo_pure rfl (pr_move rfl) (jo_pure rfl (pr_move rfl) (j_pull1 (j_pub_row (j_pull1 (j_pub_row ?_)))))
          refine jo_callp cal_19 (c_class_Same x xv (([] ++ (removeF l (((x.getD azz.toNat ([], []))).1))) ++ [(((x.getD azz.toNat ([], []))).1, ax), (((x.getD azz.toNat ([], []))).1, bx)]) v2 ([(nameK (kindF (((x.getD azz.toNat ([], []))).1)), ((([9] ++ ax) ++ [32, 44, 32]) ++ bx) ++ [32])] ++ (removeF l (((x.getD azz.toNat ([], []))).1))) v3 strict (by first | omega | exact hl | exact hm | exact hlx | exact hmx | exact hxl | exact hxv | exact hav | exact hlenl | exact hmeml | exact hmem3l | exact hmem6l | exact hnl | exact hPm | exact hQm | exact hQm2 | exact hPl | exact hQl | exact hQl2 | (simp only [List.length_append, List.length_cons, List.length_nil]; omega) | (rw [List.length_set]; exact hQl) | decide) (by first | omega | exact hl | exact hm | exact hlx | exact hmx | exact hxl | exact hxv | exact hav | exact hlenl | exact hmeml | exact hmem3l | exact hmem6l | exact hnl | exact hPm | exact hQm | exact hQm2 | exact hPl | exact hQl | exact hQl2 | (simp only [List.length_append, List.length_cons, List.length_nil]; omega) | (rw [List.length_set]; exact hQl) | decide) (by first | omega | exact hl | exact hm | exact hlx | exact hmx | exact hxl | exact hxv | exact hav | exact hlenl | exact hmeml | exact hmem3l | exact hmem6l | exact hnl | exact hPm | exact hQm | exact hQm2 | exact hPl | exact hQl | exact hQl2 | (simp only [List.length_append, List.length_cons, List.length_nil]; omega) | (rw [List.length_set]; exact hQl) | decide) (by first | omega | exact hl | exact hm | exact hlx | exact hmx | exact hxl | exact hxv | exact hav | exact hlenl | exact hmeml | exact hmem3l | exact hmem6l | exact hnl | exact hPm | exact hQm | exact hQm2 | exact hPl | exact hQl | exact hQl2 | (simp only [List.length_append, List.length_cons, List.length_nil]; omega) | (rw [List.length_set]; exact hQl) | decide) (by first | omega | exact hl | exact hm | exact hlx | exact hmx | exact hxl | exact hxv | exact hav | exact hlenl | exact hmeml | exact hmem3l | exact hmem6l | exact hnl | exact hPm | exact hQm | exact hQm2 | exact hPl | exact hQl | exact hQl2 | (simp only [List.length_append, List.length_cons, List.length_nil]; omega) | (rw [List.length_set]; exact hQl) | decide) (by first | omega | exact hl | exact hm | exact hlx | exact hmx | exact hxl | exact hxv | exact hav | exact hlenl | exact hmeml | exact hmem3l | exact hmem6l | exact hnl | exact hPm | exact hQm | exact hQm2 | exact hPl | exact hQl | exact hQl2 | (simp only [List.length_append, List.length_cons, List.length_nil]; omega) | (rw [List.length_set]; exact hQl) | decide)) ⟨rfl, rfl, rfl, rfl, trivial⟩ rfl (⟨⟨rfl, .tail _ (.tail _ (.tail _ (.tail _ (.tail _ (.tail _ (.tail _ (.head _)))))))⟩, ⟨⟨rfl, .tail _ (.head _)⟩, ⟨⟨rfl, .head _⟩, trivial⟩⟩⟩) (fun _ => ?_)
          refine jo_pure rfl (pr_move rfl) (jo_gcall (j := 5) (want := true) rfl rfl rfl cal_21 (fun hg => c_law18_awake) (fun hg => trivial) rfl (fun _ => trivial) ?_)
          refine jo_pure rfl (pr_pick_and rfl rfl rfl) ?_
          refine jo_pure rfl (pr_assign rfl) (jo_nil (jq_then (jc_ret (j_drop (j_drop ?_)))))
          refine j_drop (j_drop (j_drop (j_drop (j_drop (j_drop ?_)))))
          refine j_drop ?_
          refine jq_ret1 rfl () rfl ?_ (fun _ h => h)
          exact congrArg Value.bool (by have h9 := hfin; rw [lineName, if_neg h2] at h9; rw [lines_eq1, h9]; rfl)
       ·skip
        refine jc_region (jo_pure rfl (pr_move rfl) ?_)
        refine jo_callp cal_15 (c_keep_Axes x xv (by first | omega | exact hl | exact hm | exact hlx | exact hmx | exact hxl | exact hxv | exact hav | exact hlenl | exact hmeml | exact hmem3l | exact hmem6l | exact hnl | exact hPm | exact hQm | exact hQm2 | exact hPl | exact hQl | exact hQl2 | (simp only [List.length_append, List.length_cons, List.length_nil]; omega) | (rw [List.length_set]; exact hQl) | decide) (by first | omega | exact hl | exact hm | exact hlx | exact hmx | exact hxl | exact hxv | exact hav | exact hlenl | exact hmeml | exact hmem3l | exact hmem6l | exact hnl | exact hPm | exact hQm | exact hQm2 | exact hPl | exact hQl | exact hQl2 | (simp only [List.length_append, List.length_cons, List.length_nil]; omega) | (rw [List.length_set]; exact hQl) | decide)) ⟨rfl, trivial⟩ rfl (⟨⟨rfl, .head _⟩, trivial⟩) (fun _ => ?_)
        refine jo_pure rfl (pr_not rfl) ?_
        refine jo_pure rfl (pr_move rfl) (jo_run (j := 3) (want := false) rfl rfl (by rw [hz]; rfl) ?_)
        refine jo_pure rfl (pr_move rfl) (jo_run (j := 3) (want := false) rfl rfl (by rw [hz]; rfl) ?_)
        refine jo_callp cal_22 (c_ref10_Valid x xv (by first | omega | exact hl | exact hm | exact hlx | exact hmx | exact hxl | exact hxv | exact hav | exact hlenl | exact hmeml | exact hmem3l | exact hmem6l | exact hnl | exact hPm | exact hQm | exact hQm2 | exact hPl | exact hQl | exact hQl2 | (simp only [List.length_append, List.length_cons, List.length_nil]; omega) | (rw [List.length_set]; exact hQl) | decide) (by first | omega | exact hl | exact hm | exact hlx | exact hmx | exact hxl | exact hxv | exact hav | exact hlenl | exact hmeml | exact hmem3l | exact hmem6l | exact hnl | exact hPm | exact hQm | exact hQm2 | exact hPl | exact hQl | exact hQl2 | (simp only [List.length_append, List.length_cons, List.length_nil]; omega) | (rw [List.length_set]; exact hQl) | decide)) ⟨rfl, trivial⟩ rfl (⟨⟨rfl, .head _⟩, trivial⟩) (fun _ => ?_)
        refine jo_run (j := 3) (want := false) rfl rfl (by rw [hz]; rfl) ?_
        refine jo_pure rfl (pr_not rfl) ?_
        refine jo_pure rfl (pr_pick_f rfl (by rw [hz]; rfl) rfl) ?_
        refine jo_pure rfl (pr_move rfl) (jo_run (j := 8) (want := false) rfl rfl (by rw [hv]; rfl) ?_)
        refine jo_pure rfl (pr_move rfl) (jo_run (j := 8) (want := false) rfl rfl (by rw [hv]; rfl) ?_)
        refine jo_callp cal_16 (c_keep_Fields l lv (by first | omega | exact hl | exact hm | exact hlx | exact hmx | exact hxl | exact hxv | exact hav | exact hlenl | exact hmeml | exact hmem3l | exact hmem6l | exact hnl | exact hPm | exact hQm | exact hQm2 | exact hPl | exact hQl | exact hQl2 | (simp only [List.length_append, List.length_cons, List.length_nil]; omega) | (rw [List.length_set]; exact hQl) | decide)) ⟨rfl, trivial⟩ rfl (⟨⟨rfl, .tail _ (.head _)⟩, trivial⟩) (fun _ => ?_)
        refine jo_run (j := 8) (want := false) rfl rfl (by rw [hv]; rfl) ?_
        refine jo_pure rfl (pr_not rfl) ?_
        refine jo_pure rfl (pr_pick_f rfl (by rw [hv]; rfl) rfl) ?_
        refine jo_pure rfl (pr_move rfl) (jo_run (j := 13) (want := false) rfl rfl (by rw [hkl]; rfl) ?_)
        refine jo_pure rfl (pr_move rfl) (jo_run (j := 13) (want := false) rfl rfl (by rw [hkl]; rfl) ?_)
        refine jo_pure rfl (pr_lssN (m := azz.toNat) (n := 0) rfl rfl) ?_
        refine jo_pure rfl (pr_pick_f rfl (by rw [hkl]; rfl) rfl) ?_
        refine jo_pure rfl (pr_move rfl) (jo_run (j := 17) (want := false) rfl rfl (by simp) ?_)
        refine jo_pure rfl (pr_move rfl) (jo_run (j := 17) (want := false) rfl rfl (by simp) ?_)
        refine jo_pure rfl (pr_move rfl) (jo_run (j := 17) (want := false) rfl rfl (by simp) ?_)
        refine jo_pure rfl (pr_len_imm rfl (.head _) Tryz.underlying22) ?_
        refine jo_run (j := 17) (want := false) rfl rfl (by simp) ?_
        refine jo_pure rfl (pr_geqN (m := azz.toNat) (n := x.length) rfl rfl) ?_
        refine jo_pure rfl (pr_pick_f rfl (by simp) rfl) ?_
        refine jo_pure rfl (pr_move rfl) (jo_run (j := 23) (want := false) rfl rfl (decide_eq_false (by omega)) ?_)
        refine jo_pure rfl (pr_move rfl) (jo_run (j := 23) (want := false) rfl rfl (decide_eq_false (by omega)) ?_)
        refine jo_pure rfl (pr_slen rfl Tryz.underlying9) ?_
        refine jo_run (j := 23) (want := false) rfl rfl (decide_eq_false (by omega)) ?_
        refine jo_pure rfl (pr_gtrN (m := ax.length) (n := 200) rfl rfl) ?_
        refine jo_pure rfl (pr_pick_f rfl (decide_eq_false (by omega)) rfl) ?_
        refine jo_pure rfl (pr_move rfl) (jo_run (j := 28) (want := false) rfl rfl (decide_eq_false (by omega)) ?_)
        refine jo_pure rfl (pr_move rfl) (jo_run (j := 28) (want := false) rfl rfl (decide_eq_false (by omega)) ?_)
        refine jo_pure rfl (pr_slen rfl Tryz.underlying9) ?_
        refine jo_run (j := 28) (want := false) rfl rfl (decide_eq_false (by omega)) ?_
        refine jo_pure rfl (pr_gtrN (m := bx.length) (n := 200) rfl rfl) ?_
        refine jo_pure rfl (pr_pick_f rfl (decide_eq_false (by omega)) rfl) ?_
        refine jo_pure rfl (pr_move rfl) (jo_skipu (j := 33) (want := false) rfl rfl (decide_eq_true (by omega)) rfl ?_)
        refine jo_skipu (j := 33) (want := false) rfl rfl (decide_eq_true (by omega)) rfl ?_
        refine jo_skipu (j := 33) (want := false) rfl rfl (decide_eq_true (by omega)) rfl ?_
        refine jo_skipu (j := 33) (want := false) rfl rfl (decide_eq_true (by omega)) rfl ?_
        refine jo_skipu (j := 33) (want := false) rfl rfl (decide_eq_true (by omega)) rfl ?_
        refine jo_skipu (j := 33) (want := false) rfl rfl (decide_eq_true (by omega)) rfl ?_
        refine jo_skipu (j := 33) (want := false) rfl rfl (decide_eq_true (by omega)) rfl ?_
        refine jo_skipu (j := 33) (want := false) rfl rfl (decide_eq_true (by omega)) rfl ?_
        refine jo_skipu (j := 33) (want := false) rfl rfl (decide_eq_true (by omega)) rfl ?_
        refine jo_pure rfl (pr_pick_t rfl (decide_eq_true (by omega)) rfl) ?_
        refine jo_nil (jq_then (jc_true rfl (rfl) ?_))
        refine jc_seq (jc_region (jo_pure rfl (pr_assign rfl) (jo_nil (jq_then (jc_ret ?_)))))
        refine jq_then_ret (j_drop (j_drop ?_))
        exact jq_ret1 rfl () rfl (show (.bool (true) : Value) = (.bool (true)) from rfl) (fun _ h => h)
      ·skip
       refine jc_region (jo_pure rfl (pr_move rfl) ?_)
       refine jo_callp cal_15 (c_keep_Axes x xv (by first | omega | exact hl | exact hm | exact hlx | exact hmx | exact hxl | exact hxv | exact hav | exact hlenl | exact hmeml | exact hmem3l | exact hmem6l | exact hnl | exact hPm | exact hQm | exact hQm2 | exact hPl | exact hQl | exact hQl2 | (simp only [List.length_append, List.length_cons, List.length_nil]; omega) | (rw [List.length_set]; exact hQl) | decide) (by first | omega | exact hl | exact hm | exact hlx | exact hmx | exact hxl | exact hxv | exact hav | exact hlenl | exact hmeml | exact hmem3l | exact hmem6l | exact hnl | exact hPm | exact hQm | exact hQm2 | exact hPl | exact hQl | exact hQl2 | (simp only [List.length_append, List.length_cons, List.length_nil]; omega) | (rw [List.length_set]; exact hQl) | decide)) ⟨rfl, trivial⟩ rfl (⟨⟨rfl, .head _⟩, trivial⟩) (fun _ => ?_)
       refine jo_pure rfl (pr_not rfl) ?_
       refine jo_pure rfl (pr_move rfl) (jo_run (j := 3) (want := false) rfl rfl (by rw [hz]; rfl) ?_)
       refine jo_pure rfl (pr_move rfl) (jo_run (j := 3) (want := false) rfl rfl (by rw [hz]; rfl) ?_)
       refine jo_callp cal_22 (c_ref10_Valid x xv (by first | omega | exact hl | exact hm | exact hlx | exact hmx | exact hxl | exact hxv | exact hav | exact hlenl | exact hmeml | exact hmem3l | exact hmem6l | exact hnl | exact hPm | exact hQm | exact hQm2 | exact hPl | exact hQl | exact hQl2 | (simp only [List.length_append, List.length_cons, List.length_nil]; omega) | (rw [List.length_set]; exact hQl) | decide) (by first | omega | exact hl | exact hm | exact hlx | exact hmx | exact hxl | exact hxv | exact hav | exact hlenl | exact hmeml | exact hmem3l | exact hmem6l | exact hnl | exact hPm | exact hQm | exact hQm2 | exact hPl | exact hQl | exact hQl2 | (simp only [List.length_append, List.length_cons, List.length_nil]; omega) | (rw [List.length_set]; exact hQl) | decide)) ⟨rfl, trivial⟩ rfl (⟨⟨rfl, .head _⟩, trivial⟩) (fun _ => ?_)
       refine jo_run (j := 3) (want := false) rfl rfl (by rw [hz]; rfl) ?_
       refine jo_pure rfl (pr_not rfl) ?_
       refine jo_pure rfl (pr_pick_f rfl (by rw [hz]; rfl) rfl) ?_
       refine jo_pure rfl (pr_move rfl) (jo_run (j := 8) (want := false) rfl rfl (by rw [hv]; rfl) ?_)
       refine jo_pure rfl (pr_move rfl) (jo_run (j := 8) (want := false) rfl rfl (by rw [hv]; rfl) ?_)
       refine jo_callp cal_16 (c_keep_Fields l lv (by first | omega | exact hl | exact hm | exact hlx | exact hmx | exact hxl | exact hxv | exact hav | exact hlenl | exact hmeml | exact hmem3l | exact hmem6l | exact hnl | exact hPm | exact hQm | exact hQm2 | exact hPl | exact hQl | exact hQl2 | (simp only [List.length_append, List.length_cons, List.length_nil]; omega) | (rw [List.length_set]; exact hQl) | decide)) ⟨rfl, trivial⟩ rfl (⟨⟨rfl, .tail _ (.head _)⟩, trivial⟩) (fun _ => ?_)
       refine jo_run (j := 8) (want := false) rfl rfl (by rw [hv]; rfl) ?_
       refine jo_pure rfl (pr_not rfl) ?_
       refine jo_pure rfl (pr_pick_f rfl (by rw [hv]; rfl) rfl) ?_
       refine jo_pure rfl (pr_move rfl) (jo_run (j := 13) (want := false) rfl rfl (by rw [hkl]; rfl) ?_)
       refine jo_pure rfl (pr_move rfl) (jo_run (j := 13) (want := false) rfl rfl (by rw [hkl]; rfl) ?_)
       refine jo_pure rfl (pr_lssN (m := azz.toNat) (n := 0) rfl rfl) ?_
       refine jo_pure rfl (pr_pick_f rfl (by rw [hkl]; rfl) rfl) ?_
       refine jo_pure rfl (pr_move rfl) (jo_run (j := 17) (want := false) rfl rfl (by simp) ?_)
       refine jo_pure rfl (pr_move rfl) (jo_run (j := 17) (want := false) rfl rfl (by simp) ?_)
       refine jo_pure rfl (pr_move rfl) (jo_run (j := 17) (want := false) rfl rfl (by simp) ?_)
       refine jo_pure rfl (pr_len_imm rfl (.head _) Tryz.underlying22) ?_
       refine jo_run (j := 17) (want := false) rfl rfl (by simp) ?_
       refine jo_pure rfl (pr_geqN (m := azz.toNat) (n := x.length) rfl rfl) ?_
       refine jo_pure rfl (pr_pick_f rfl (by simp) rfl) ?_
       refine jo_pure rfl (pr_move rfl) (jo_run (j := 23) (want := false) rfl rfl (decide_eq_false (by omega)) ?_)
       refine jo_pure rfl (pr_move rfl) (jo_run (j := 23) (want := false) rfl rfl (decide_eq_false (by omega)) ?_)
       refine jo_pure rfl (pr_slen rfl Tryz.underlying9) ?_
       refine jo_run (j := 23) (want := false) rfl rfl (decide_eq_false (by omega)) ?_
       refine jo_pure rfl (pr_gtrN (m := ax.length) (n := 200) rfl rfl) ?_
       refine jo_pure rfl (pr_pick_f rfl (decide_eq_false (by omega)) rfl) ?_
       refine jo_pure rfl (pr_move rfl) (jo_skipu (j := 28) (want := false) rfl rfl (decide_eq_true (by omega)) rfl ?_)
       refine jo_skipu (j := 28) (want := false) rfl rfl (decide_eq_true (by omega)) rfl ?_
       refine jo_skipu (j := 28) (want := false) rfl rfl (decide_eq_true (by omega)) rfl ?_
       refine jo_pure rfl (pr_pick_t rfl (decide_eq_true (by omega)) rfl) ?_
       refine jo_pure rfl (pr_move rfl) (jo_skipu (j := 33) (want := false) rfl rfl (rfl) rfl ?_)
       refine jo_skipu (j := 33) (want := false) rfl rfl (rfl) rfl ?_
       refine jo_skipu (j := 33) (want := false) rfl rfl (rfl) rfl ?_
       refine jo_skipu (j := 33) (want := false) rfl rfl (rfl) rfl ?_
       refine jo_skipu (j := 33) (want := false) rfl rfl (rfl) rfl ?_
       refine jo_skipu (j := 33) (want := false) rfl rfl (rfl) rfl ?_
       refine jo_skipu (j := 33) (want := false) rfl rfl (rfl) rfl ?_
       refine jo_skipu (j := 33) (want := false) rfl rfl (rfl) rfl ?_
       refine jo_skipu (j := 33) (want := false) rfl rfl (rfl) rfl ?_
       refine jo_pure rfl (pr_pick_t rfl (rfl) rfl) ?_
       refine jo_nil (jq_then (jc_true rfl (rfl) ?_))
       refine jc_seq (jc_region (jo_pure rfl (pr_assign rfl) (jo_nil (jq_then (jc_ret ?_)))))
       refine jq_then_ret (j_drop (j_drop ?_))
       exact jq_ret1 rfl () rfl (show (.bool (true) : Value) = (.bool (true)) from rfl) (fun _ h => h)
     ·skip
      refine jc_region (jo_pure rfl (pr_move rfl) ?_)
      refine jo_callp cal_15 (c_keep_Axes x xv (by first | omega | exact hl | exact hm | exact hlx | exact hmx | exact hxl | exact hxv | exact hav | exact hlenl | exact hmeml | exact hmem3l | exact hmem6l | exact hnl | exact hPm | exact hQm | exact hQm2 | exact hPl | exact hQl | exact hQl2 | (simp only [List.length_append, List.length_cons, List.length_nil]; omega) | (rw [List.length_set]; exact hQl) | decide) (by first | omega | exact hl | exact hm | exact hlx | exact hmx | exact hxl | exact hxv | exact hav | exact hlenl | exact hmeml | exact hmem3l | exact hmem6l | exact hnl | exact hPm | exact hQm | exact hQm2 | exact hPl | exact hQl | exact hQl2 | (simp only [List.length_append, List.length_cons, List.length_nil]; omega) | (rw [List.length_set]; exact hQl) | decide)) ⟨rfl, trivial⟩ rfl (⟨⟨rfl, .head _⟩, trivial⟩) (fun _ => ?_)
      refine jo_pure rfl (pr_not rfl) ?_
      refine jo_pure rfl (pr_move rfl) (jo_run (j := 3) (want := false) rfl rfl (by rw [hz]; rfl) ?_)
      refine jo_pure rfl (pr_move rfl) (jo_run (j := 3) (want := false) rfl rfl (by rw [hz]; rfl) ?_)
      refine jo_callp cal_22 (c_ref10_Valid x xv (by first | omega | exact hl | exact hm | exact hlx | exact hmx | exact hxl | exact hxv | exact hav | exact hlenl | exact hmeml | exact hmem3l | exact hmem6l | exact hnl | exact hPm | exact hQm | exact hQm2 | exact hPl | exact hQl | exact hQl2 | (simp only [List.length_append, List.length_cons, List.length_nil]; omega) | (rw [List.length_set]; exact hQl) | decide) (by first | omega | exact hl | exact hm | exact hlx | exact hmx | exact hxl | exact hxv | exact hav | exact hlenl | exact hmeml | exact hmem3l | exact hmem6l | exact hnl | exact hPm | exact hQm | exact hQm2 | exact hPl | exact hQl | exact hQl2 | (simp only [List.length_append, List.length_cons, List.length_nil]; omega) | (rw [List.length_set]; exact hQl) | decide)) ⟨rfl, trivial⟩ rfl (⟨⟨rfl, .head _⟩, trivial⟩) (fun _ => ?_)
      refine jo_run (j := 3) (want := false) rfl rfl (by rw [hz]; rfl) ?_
      refine jo_pure rfl (pr_not rfl) ?_
      refine jo_pure rfl (pr_pick_f rfl (by rw [hz]; rfl) rfl) ?_
      refine jo_pure rfl (pr_move rfl) (jo_run (j := 8) (want := false) rfl rfl (by rw [hv]; rfl) ?_)
      refine jo_pure rfl (pr_move rfl) (jo_run (j := 8) (want := false) rfl rfl (by rw [hv]; rfl) ?_)
      refine jo_callp cal_16 (c_keep_Fields l lv (by first | omega | exact hl | exact hm | exact hlx | exact hmx | exact hxl | exact hxv | exact hav | exact hlenl | exact hmeml | exact hmem3l | exact hmem6l | exact hnl | exact hPm | exact hQm | exact hQm2 | exact hPl | exact hQl | exact hQl2 | (simp only [List.length_append, List.length_cons, List.length_nil]; omega) | (rw [List.length_set]; exact hQl) | decide)) ⟨rfl, trivial⟩ rfl (⟨⟨rfl, .tail _ (.head _)⟩, trivial⟩) (fun _ => ?_)
      refine jo_run (j := 8) (want := false) rfl rfl (by rw [hv]; rfl) ?_
      refine jo_pure rfl (pr_not rfl) ?_
      refine jo_pure rfl (pr_pick_f rfl (by rw [hv]; rfl) rfl) ?_
      refine jo_pure rfl (pr_move rfl) (jo_run (j := 13) (want := false) rfl rfl (by rw [hkl]; rfl) ?_)
      refine jo_pure rfl (pr_move rfl) (jo_run (j := 13) (want := false) rfl rfl (by rw [hkl]; rfl) ?_)
      refine jo_pure rfl (pr_lssN (m := azz.toNat) (n := 0) rfl rfl) ?_
      refine jo_pure rfl (pr_pick_f rfl (by rw [hkl]; rfl) rfl) ?_
      refine jo_pure rfl (pr_move rfl) (jo_run (j := 17) (want := false) rfl rfl (by simp) ?_)
      refine jo_pure rfl (pr_move rfl) (jo_run (j := 17) (want := false) rfl rfl (by simp) ?_)
      refine jo_pure rfl (pr_move rfl) (jo_run (j := 17) (want := false) rfl rfl (by simp) ?_)
      refine jo_pure rfl (pr_len_imm rfl (.head _) Tryz.underlying22) ?_
      refine jo_run (j := 17) (want := false) rfl rfl (by simp) ?_
      refine jo_pure rfl (pr_geqN (m := azz.toNat) (n := x.length) rfl rfl) ?_
      refine jo_pure rfl (pr_pick_f rfl (by simp) rfl) ?_
      refine jo_pure rfl (pr_move rfl) (jo_skipu (j := 23) (want := false) rfl rfl (decide_eq_true (by omega)) rfl ?_)
      refine jo_skipu (j := 23) (want := false) rfl rfl (decide_eq_true (by omega)) rfl ?_
      refine jo_skipu (j := 23) (want := false) rfl rfl (decide_eq_true (by omega)) rfl ?_
      refine jo_pure rfl (pr_pick_t rfl (decide_eq_true (by omega)) rfl) ?_
      refine jo_pure rfl (pr_move rfl) (jo_skipu (j := 28) (want := false) rfl rfl (rfl) rfl ?_)
      refine jo_skipu (j := 28) (want := false) rfl rfl (rfl) rfl ?_
      refine jo_skipu (j := 28) (want := false) rfl rfl (rfl) rfl ?_
      refine jo_pure rfl (pr_pick_t rfl (rfl) rfl) ?_
      refine jo_pure rfl (pr_move rfl) (jo_skipu (j := 33) (want := false) rfl rfl (rfl) rfl ?_)
      refine jo_skipu (j := 33) (want := false) rfl rfl (rfl) rfl ?_
      refine jo_skipu (j := 33) (want := false) rfl rfl (rfl) rfl ?_
      refine jo_skipu (j := 33) (want := false) rfl rfl (rfl) rfl ?_
      refine jo_skipu (j := 33) (want := false) rfl rfl (rfl) rfl ?_
      refine jo_skipu (j := 33) (want := false) rfl rfl (rfl) rfl ?_
      refine jo_skipu (j := 33) (want := false) rfl rfl (rfl) rfl ?_
      refine jo_skipu (j := 33) (want := false) rfl rfl (rfl) rfl ?_
      refine jo_skipu (j := 33) (want := false) rfl rfl (rfl) rfl ?_
      refine jo_pure rfl (pr_pick_t rfl (rfl) rfl) ?_
      refine jo_nil (jq_then (jc_true rfl (rfl) ?_))
      refine jc_seq (jc_region (jo_pure rfl (pr_assign rfl) (jo_nil (jq_then (jc_ret ?_)))))
      refine jq_then_ret (j_drop (j_drop ?_))
      exact jq_ret1 rfl () rfl (show (.bool (true) : Value) = (.bool (true)) from rfl) (fun _ h => h)
    ·skip
     refine jc_region (jo_pure rfl (pr_move rfl) ?_)
     refine jo_callp cal_15 (c_keep_Axes x xv (by first | omega | exact hl | exact hm | exact hlx | exact hmx | exact hxl | exact hxv | exact hav | exact hlenl | exact hmeml | exact hmem3l | exact hmem6l | exact hnl | exact hPm | exact hQm | exact hQm2 | exact hPl | exact hQl | exact hQl2 | (simp only [List.length_append, List.length_cons, List.length_nil]; omega) | (rw [List.length_set]; exact hQl) | decide) (by first | omega | exact hl | exact hm | exact hlx | exact hmx | exact hxl | exact hxv | exact hav | exact hlenl | exact hmeml | exact hmem3l | exact hmem6l | exact hnl | exact hPm | exact hQm | exact hQm2 | exact hPl | exact hQl | exact hQl2 | (simp only [List.length_append, List.length_cons, List.length_nil]; omega) | (rw [List.length_set]; exact hQl) | decide)) ⟨rfl, trivial⟩ rfl (⟨⟨rfl, .head _⟩, trivial⟩) (fun _ => ?_)
     refine jo_pure rfl (pr_not rfl) ?_
     refine jo_pure rfl (pr_move rfl) (jo_run (j := 3) (want := false) rfl rfl (by rw [hz]; rfl) ?_)
     refine jo_pure rfl (pr_move rfl) (jo_run (j := 3) (want := false) rfl rfl (by rw [hz]; rfl) ?_)
     refine jo_callp cal_22 (c_ref10_Valid x xv (by first | omega | exact hl | exact hm | exact hlx | exact hmx | exact hxl | exact hxv | exact hav | exact hlenl | exact hmeml | exact hmem3l | exact hmem6l | exact hnl | exact hPm | exact hQm | exact hQm2 | exact hPl | exact hQl | exact hQl2 | (simp only [List.length_append, List.length_cons, List.length_nil]; omega) | (rw [List.length_set]; exact hQl) | decide) (by first | omega | exact hl | exact hm | exact hlx | exact hmx | exact hxl | exact hxv | exact hav | exact hlenl | exact hmeml | exact hmem3l | exact hmem6l | exact hnl | exact hPm | exact hQm | exact hQm2 | exact hPl | exact hQl | exact hQl2 | (simp only [List.length_append, List.length_cons, List.length_nil]; omega) | (rw [List.length_set]; exact hQl) | decide)) ⟨rfl, trivial⟩ rfl (⟨⟨rfl, .head _⟩, trivial⟩) (fun _ => ?_)
     refine jo_run (j := 3) (want := false) rfl rfl (by rw [hz]; rfl) ?_
     refine jo_pure rfl (pr_not rfl) ?_
     refine jo_pure rfl (pr_pick_f rfl (by rw [hz]; rfl) rfl) ?_
     refine jo_pure rfl (pr_move rfl) (jo_run (j := 8) (want := false) rfl rfl (by rw [hv]; rfl) ?_)
     refine jo_pure rfl (pr_move rfl) (jo_run (j := 8) (want := false) rfl rfl (by rw [hv]; rfl) ?_)
     refine jo_callp cal_16 (c_keep_Fields l lv (by first | omega | exact hl | exact hm | exact hlx | exact hmx | exact hxl | exact hxv | exact hav | exact hlenl | exact hmeml | exact hmem3l | exact hmem6l | exact hnl | exact hPm | exact hQm | exact hQm2 | exact hPl | exact hQl | exact hQl2 | (simp only [List.length_append, List.length_cons, List.length_nil]; omega) | (rw [List.length_set]; exact hQl) | decide)) ⟨rfl, trivial⟩ rfl (⟨⟨rfl, .tail _ (.head _)⟩, trivial⟩) (fun _ => ?_)
     refine jo_run (j := 8) (want := false) rfl rfl (by rw [hv]; rfl) ?_
     refine jo_pure rfl (pr_not rfl) ?_
     refine jo_pure rfl (pr_pick_f rfl (by rw [hv]; rfl) rfl) ?_
     refine jo_pure rfl (pr_move rfl) (jo_run (j := 13) (want := false) rfl rfl (by rw [hkl]; rfl) ?_)
     refine jo_pure rfl (pr_move rfl) (jo_run (j := 13) (want := false) rfl rfl (by rw [hkl]; rfl) ?_)
     refine jo_pure rfl (pr_lss (n := 0) rfl rfl) ?_
     refine jo_pure rfl (pr_pick_f rfl (by rw [hkl]; rfl) rfl) ?_
     refine jo_pure rfl (pr_move rfl) (jo_skipu (j := 17) (want := false) rfl rfl (decide_eq_true (by omega)) rfl ?_)
     refine jo_skipu (j := 17) (want := false) rfl rfl (decide_eq_true (by omega)) rfl ?_
     refine jo_skipu (j := 17) (want := false) rfl rfl (decide_eq_true (by omega)) rfl ?_
     refine jo_skipu (j := 17) (want := false) rfl rfl (decide_eq_true (by omega)) rfl ?_
     refine jo_pure rfl (pr_pick_t rfl (decide_eq_true (by omega)) rfl) ?_
     refine jo_pure rfl (pr_move rfl) (jo_skipu (j := 23) (want := false) rfl rfl (rfl) rfl ?_)
     refine jo_skipu (j := 23) (want := false) rfl rfl (rfl) rfl ?_
     refine jo_skipu (j := 23) (want := false) rfl rfl (rfl) rfl ?_
     refine jo_pure rfl (pr_pick_t rfl (rfl) rfl) ?_
     refine jo_pure rfl (pr_move rfl) (jo_skipu (j := 28) (want := false) rfl rfl (rfl) rfl ?_)
     refine jo_skipu (j := 28) (want := false) rfl rfl (rfl) rfl ?_
     refine jo_skipu (j := 28) (want := false) rfl rfl (rfl) rfl ?_
     refine jo_pure rfl (pr_pick_t rfl (rfl) rfl) ?_
     refine jo_pure rfl (pr_move rfl) (jo_skipu (j := 33) (want := false) rfl rfl (rfl) rfl ?_)
     refine jo_skipu (j := 33) (want := false) rfl rfl (rfl) rfl ?_
     refine jo_skipu (j := 33) (want := false) rfl rfl (rfl) rfl ?_
     refine jo_skipu (j := 33) (want := false) rfl rfl (rfl) rfl ?_
     refine jo_skipu (j := 33) (want := false) rfl rfl (rfl) rfl ?_
     refine jo_skipu (j := 33) (want := false) rfl rfl (rfl) rfl ?_
     refine jo_skipu (j := 33) (want := false) rfl rfl (rfl) rfl ?_
     refine jo_skipu (j := 33) (want := false) rfl rfl (rfl) rfl ?_
     refine jo_skipu (j := 33) (want := false) rfl rfl (rfl) rfl ?_
     refine jo_pure rfl (pr_pick_t rfl (rfl) rfl) ?_
     refine jo_nil (jq_then (jc_true rfl (rfl) ?_))
     refine jc_seq (jc_region (jo_pure rfl (pr_assign rfl) (jo_nil (jq_then (jc_ret ?_)))))
     refine jq_then_ret (j_drop (j_drop ?_))
     exact jq_ret1 rfl () rfl (show (.bool (true) : Value) = (.bool (true)) from rfl) (fun _ h => h)
   ·skip
    refine jc_region (jo_pure rfl (pr_move rfl) ?_)
    refine jo_callp cal_15 (c_keep_Axes x xv (by first | omega | exact hl | exact hm | exact hlx | exact hmx | exact hxl | exact hxv | exact hav | exact hlenl | exact hmeml | exact hmem3l | exact hmem6l | exact hnl | exact hPm | exact hQm | exact hQm2 | exact hPl | exact hQl | exact hQl2 | (simp only [List.length_append, List.length_cons, List.length_nil]; omega) | (rw [List.length_set]; exact hQl) | decide) (by first | omega | exact hl | exact hm | exact hlx | exact hmx | exact hxl | exact hxv | exact hav | exact hlenl | exact hmeml | exact hmem3l | exact hmem6l | exact hnl | exact hPm | exact hQm | exact hQm2 | exact hPl | exact hQl | exact hQl2 | (simp only [List.length_append, List.length_cons, List.length_nil]; omega) | (rw [List.length_set]; exact hQl) | decide)) ⟨rfl, trivial⟩ rfl (⟨⟨rfl, .head _⟩, trivial⟩) (fun _ => ?_)
    refine jo_pure rfl (pr_not rfl) ?_
    refine jo_pure rfl (pr_move rfl) (jo_run (j := 3) (want := false) rfl rfl (by rw [hz]; rfl) ?_)
    refine jo_pure rfl (pr_move rfl) (jo_run (j := 3) (want := false) rfl rfl (by rw [hz]; rfl) ?_)
    refine jo_callp cal_22 (c_ref10_Valid x xv (by first | omega | exact hl | exact hm | exact hlx | exact hmx | exact hxl | exact hxv | exact hav | exact hlenl | exact hmeml | exact hmem3l | exact hmem6l | exact hnl | exact hPm | exact hQm | exact hQm2 | exact hPl | exact hQl | exact hQl2 | (simp only [List.length_append, List.length_cons, List.length_nil]; omega) | (rw [List.length_set]; exact hQl) | decide) (by first | omega | exact hl | exact hm | exact hlx | exact hmx | exact hxl | exact hxv | exact hav | exact hlenl | exact hmeml | exact hmem3l | exact hmem6l | exact hnl | exact hPm | exact hQm | exact hQm2 | exact hPl | exact hQl | exact hQl2 | (simp only [List.length_append, List.length_cons, List.length_nil]; omega) | (rw [List.length_set]; exact hQl) | decide)) ⟨rfl, trivial⟩ rfl (⟨⟨rfl, .head _⟩, trivial⟩) (fun _ => ?_)
    refine jo_run (j := 3) (want := false) rfl rfl (by rw [hz]; rfl) ?_
    refine jo_pure rfl (pr_not rfl) ?_
    refine jo_pure rfl (pr_pick_f rfl (by rw [hz]; rfl) rfl) ?_
    refine jo_pure rfl (pr_move rfl) (jo_run (j := 8) (want := false) rfl rfl (by rw [hv]; rfl) ?_)
    refine jo_pure rfl (pr_move rfl) (jo_run (j := 8) (want := false) rfl rfl (by rw [hv]; rfl) ?_)
    refine jo_callp cal_16 (c_keep_Fields l lv (by first | omega | exact hl | exact hm | exact hlx | exact hmx | exact hxl | exact hxv | exact hav | exact hlenl | exact hmeml | exact hmem3l | exact hmem6l | exact hnl | exact hPm | exact hQm | exact hQm2 | exact hPl | exact hQl | exact hQl2 | (simp only [List.length_append, List.length_cons, List.length_nil]; omega) | (rw [List.length_set]; exact hQl) | decide)) ⟨rfl, trivial⟩ rfl (⟨⟨rfl, .tail _ (.head _)⟩, trivial⟩) (fun _ => ?_)
    refine jo_run (j := 8) (want := false) rfl rfl (by rw [hv]; rfl) ?_
    refine jo_pure rfl (pr_not rfl) ?_
    refine jo_pure rfl (pr_pick_f rfl (by rw [hv]; rfl) rfl) ?_
    refine jo_pure rfl (pr_move rfl) (jo_skipu (j := 13) (want := false) rfl rfl (by simpa using hkl) rfl ?_)
    refine jo_skipu (j := 13) (want := false) rfl rfl (by simpa using hkl) rfl ?_
    refine jo_pure rfl (pr_pick_t rfl (by simpa using hkl) rfl) ?_
    refine jo_pure rfl (pr_move rfl) (jo_skipu (j := 17) (want := false) rfl rfl (rfl) rfl ?_)
    refine jo_skipu (j := 17) (want := false) rfl rfl (rfl) rfl ?_
    refine jo_skipu (j := 17) (want := false) rfl rfl (rfl) rfl ?_
    refine jo_skipu (j := 17) (want := false) rfl rfl (rfl) rfl ?_
    refine jo_pure rfl (pr_pick_t rfl (rfl) rfl) ?_
    refine jo_pure rfl (pr_move rfl) (jo_skipu (j := 23) (want := false) rfl rfl (rfl) rfl ?_)
    refine jo_skipu (j := 23) (want := false) rfl rfl (rfl) rfl ?_
    refine jo_skipu (j := 23) (want := false) rfl rfl (rfl) rfl ?_
    refine jo_pure rfl (pr_pick_t rfl (rfl) rfl) ?_
    refine jo_pure rfl (pr_move rfl) (jo_skipu (j := 28) (want := false) rfl rfl (rfl) rfl ?_)
    refine jo_skipu (j := 28) (want := false) rfl rfl (rfl) rfl ?_
    refine jo_skipu (j := 28) (want := false) rfl rfl (rfl) rfl ?_
    refine jo_pure rfl (pr_pick_t rfl (rfl) rfl) ?_
    refine jo_pure rfl (pr_move rfl) (jo_skipu (j := 33) (want := false) rfl rfl (rfl) rfl ?_)
    refine jo_skipu (j := 33) (want := false) rfl rfl (rfl) rfl ?_
    refine jo_skipu (j := 33) (want := false) rfl rfl (rfl) rfl ?_
    refine jo_skipu (j := 33) (want := false) rfl rfl (rfl) rfl ?_
    refine jo_skipu (j := 33) (want := false) rfl rfl (rfl) rfl ?_
    refine jo_skipu (j := 33) (want := false) rfl rfl (rfl) rfl ?_
    refine jo_skipu (j := 33) (want := false) rfl rfl (rfl) rfl ?_
    refine jo_skipu (j := 33) (want := false) rfl rfl (rfl) rfl ?_
    refine jo_skipu (j := 33) (want := false) rfl rfl (rfl) rfl ?_
    refine jo_pure rfl (pr_pick_t rfl (rfl) rfl) ?_
    refine jo_nil (jq_then (jc_true rfl (rfl) ?_))
    refine jc_seq (jc_region (jo_pure rfl (pr_assign rfl) (jo_nil (jq_then (jc_ret ?_)))))
    refine jq_then_ret (j_drop (j_drop ?_))
    exact jq_ret1 rfl () rfl (show (.bool (true) : Value) = (.bool (true)) from rfl) (fun _ h => h)
  ·skip
   refine jc_region (jo_pure rfl (pr_move rfl) ?_)
   refine jo_callp cal_15 (c_keep_Axes x xv (by first | omega | exact hl | exact hm | exact hlx | exact hmx | exact hxl | exact hxv | exact hav | exact hlenl | exact hmeml | exact hmem3l | exact hmem6l | exact hnl | exact hPm | exact hQm | exact hQm2 | exact hPl | exact hQl | exact hQl2 | (simp only [List.length_append, List.length_cons, List.length_nil]; omega) | (rw [List.length_set]; exact hQl) | decide) (by first | omega | exact hl | exact hm | exact hlx | exact hmx | exact hxl | exact hxv | exact hav | exact hlenl | exact hmeml | exact hmem3l | exact hmem6l | exact hnl | exact hPm | exact hQm | exact hQm2 | exact hPl | exact hQl | exact hQl2 | (simp only [List.length_append, List.length_cons, List.length_nil]; omega) | (rw [List.length_set]; exact hQl) | decide)) ⟨rfl, trivial⟩ rfl (⟨⟨rfl, .head _⟩, trivial⟩) (fun _ => ?_)
   refine jo_pure rfl (pr_not rfl) ?_
   refine jo_pure rfl (pr_move rfl) (jo_run (j := 3) (want := false) rfl rfl (by rw [hz]; rfl) ?_)
   refine jo_pure rfl (pr_move rfl) (jo_run (j := 3) (want := false) rfl rfl (by rw [hz]; rfl) ?_)
   refine jo_callp cal_22 (c_ref10_Valid x xv (by first | omega | exact hl | exact hm | exact hlx | exact hmx | exact hxl | exact hxv | exact hav | exact hlenl | exact hmeml | exact hmem3l | exact hmem6l | exact hnl | exact hPm | exact hQm | exact hQm2 | exact hPl | exact hQl | exact hQl2 | (simp only [List.length_append, List.length_cons, List.length_nil]; omega) | (rw [List.length_set]; exact hQl) | decide) (by first | omega | exact hl | exact hm | exact hlx | exact hmx | exact hxl | exact hxv | exact hav | exact hlenl | exact hmeml | exact hmem3l | exact hmem6l | exact hnl | exact hPm | exact hQm | exact hQm2 | exact hPl | exact hQl | exact hQl2 | (simp only [List.length_append, List.length_cons, List.length_nil]; omega) | (rw [List.length_set]; exact hQl) | decide)) ⟨rfl, trivial⟩ rfl (⟨⟨rfl, .head _⟩, trivial⟩) (fun _ => ?_)
   refine jo_run (j := 3) (want := false) rfl rfl (by rw [hz]; rfl) ?_
   refine jo_pure rfl (pr_not rfl) ?_
   refine jo_pure rfl (pr_pick_f rfl (by rw [hz]; rfl) rfl) ?_
   refine jo_pure rfl (pr_move rfl) (jo_skipu (j := 8) (want := false) rfl rfl (by simpa using hv) rfl ?_)
   refine jo_skipu (j := 8) (want := false) rfl rfl (by simpa using hv) rfl ?_
   refine jo_skipu (j := 8) (want := false) rfl rfl (by simpa using hv) rfl ?_
   refine jo_pure rfl (pr_pick_t rfl (by simpa using hv) rfl) ?_
   refine jo_pure rfl (pr_move rfl) (jo_skipu (j := 13) (want := false) rfl rfl (rfl) rfl ?_)
   refine jo_skipu (j := 13) (want := false) rfl rfl (rfl) rfl ?_
   refine jo_pure rfl (pr_pick_t rfl (rfl) rfl) ?_
   refine jo_pure rfl (pr_move rfl) (jo_skipu (j := 17) (want := false) rfl rfl (rfl) rfl ?_)
   refine jo_skipu (j := 17) (want := false) rfl rfl (rfl) rfl ?_
   refine jo_skipu (j := 17) (want := false) rfl rfl (rfl) rfl ?_
   refine jo_skipu (j := 17) (want := false) rfl rfl (rfl) rfl ?_
   refine jo_pure rfl (pr_pick_t rfl (rfl) rfl) ?_
   refine jo_pure rfl (pr_move rfl) (jo_skipu (j := 23) (want := false) rfl rfl (rfl) rfl ?_)
   refine jo_skipu (j := 23) (want := false) rfl rfl (rfl) rfl ?_
   refine jo_skipu (j := 23) (want := false) rfl rfl (rfl) rfl ?_
   refine jo_pure rfl (pr_pick_t rfl (rfl) rfl) ?_
   refine jo_pure rfl (pr_move rfl) (jo_skipu (j := 28) (want := false) rfl rfl (rfl) rfl ?_)
   refine jo_skipu (j := 28) (want := false) rfl rfl (rfl) rfl ?_
   refine jo_skipu (j := 28) (want := false) rfl rfl (rfl) rfl ?_
   refine jo_pure rfl (pr_pick_t rfl (rfl) rfl) ?_
   refine jo_pure rfl (pr_move rfl) (jo_skipu (j := 33) (want := false) rfl rfl (rfl) rfl ?_)
   refine jo_skipu (j := 33) (want := false) rfl rfl (rfl) rfl ?_
   refine jo_skipu (j := 33) (want := false) rfl rfl (rfl) rfl ?_
   refine jo_skipu (j := 33) (want := false) rfl rfl (rfl) rfl ?_
   refine jo_skipu (j := 33) (want := false) rfl rfl (rfl) rfl ?_
   refine jo_skipu (j := 33) (want := false) rfl rfl (rfl) rfl ?_
   refine jo_skipu (j := 33) (want := false) rfl rfl (rfl) rfl ?_
   refine jo_skipu (j := 33) (want := false) rfl rfl (rfl) rfl ?_
   refine jo_skipu (j := 33) (want := false) rfl rfl (rfl) rfl ?_
   refine jo_pure rfl (pr_pick_t rfl (rfl) rfl) ?_
   refine jo_nil (jq_then (jc_true rfl (rfl) ?_))
   refine jc_seq (jc_region (jo_pure rfl (pr_assign rfl) (jo_nil (jq_then (jc_ret ?_)))))
   refine jq_then_ret (j_drop (j_drop ?_))
   exact jq_ret1 rfl () rfl (show (.bool (true) : Value) = (.bool (true)) from rfl) (fun _ h => h)
 ·skip
  refine jc_region (jo_pure rfl (pr_move rfl) ?_)
  refine jo_callp cal_15 (c_keep_Axes x xv (by first | omega | exact hl | exact hm | exact hlx | exact hmx | exact hxl | exact hxv | exact hav | exact hlenl | exact hmeml | exact hmem3l | exact hmem6l | exact hnl | exact hPm | exact hQm | exact hQm2 | exact hPl | exact hQl | exact hQl2 | (simp only [List.length_append, List.length_cons, List.length_nil]; omega) | (rw [List.length_set]; exact hQl) | decide) (by first | omega | exact hl | exact hm | exact hlx | exact hmx | exact hxl | exact hxv | exact hav | exact hlenl | exact hmeml | exact hmem3l | exact hmem6l | exact hnl | exact hPm | exact hQm | exact hQm2 | exact hPl | exact hQl | exact hQl2 | (simp only [List.length_append, List.length_cons, List.length_nil]; omega) | (rw [List.length_set]; exact hQl) | decide)) ⟨rfl, trivial⟩ rfl (⟨⟨rfl, .head _⟩, trivial⟩) (fun _ => ?_)
  refine jo_pure rfl (pr_not rfl) ?_
  refine jo_pure rfl (pr_move rfl) (jo_skipu (j := 3) (want := false) rfl rfl (by simpa using hz) rfl ?_)
  refine jo_skipu (j := 3) (want := false) rfl rfl (by simpa using hz) rfl ?_
  refine jo_skipu (j := 3) (want := false) rfl rfl (by simpa using hz) rfl ?_
  refine jo_pure rfl (pr_pick_t rfl (by simpa using hz) rfl) ?_
  refine jo_pure rfl (pr_move rfl) (jo_skipu (j := 8) (want := false) rfl rfl (rfl) rfl ?_)
  refine jo_skipu (j := 8) (want := false) rfl rfl (rfl) rfl ?_
  refine jo_skipu (j := 8) (want := false) rfl rfl (rfl) rfl ?_
  refine jo_pure rfl (pr_pick_t rfl (rfl) rfl) ?_
  refine jo_pure rfl (pr_move rfl) (jo_skipu (j := 13) (want := false) rfl rfl (rfl) rfl ?_)
  refine jo_skipu (j := 13) (want := false) rfl rfl (rfl) rfl ?_
  refine jo_pure rfl (pr_pick_t rfl (rfl) rfl) ?_
  refine jo_pure rfl (pr_move rfl) (jo_skipu (j := 17) (want := false) rfl rfl (rfl) rfl ?_)
  refine jo_skipu (j := 17) (want := false) rfl rfl (rfl) rfl ?_
  refine jo_skipu (j := 17) (want := false) rfl rfl (rfl) rfl ?_
  refine jo_skipu (j := 17) (want := false) rfl rfl (rfl) rfl ?_
  refine jo_pure rfl (pr_pick_t rfl (rfl) rfl) ?_
  refine jo_pure rfl (pr_move rfl) (jo_skipu (j := 23) (want := false) rfl rfl (rfl) rfl ?_)
  refine jo_skipu (j := 23) (want := false) rfl rfl (rfl) rfl ?_
  refine jo_skipu (j := 23) (want := false) rfl rfl (rfl) rfl ?_
  refine jo_pure rfl (pr_pick_t rfl (rfl) rfl) ?_
  refine jo_pure rfl (pr_move rfl) (jo_skipu (j := 28) (want := false) rfl rfl (rfl) rfl ?_)
  refine jo_skipu (j := 28) (want := false) rfl rfl (rfl) rfl ?_
  refine jo_skipu (j := 28) (want := false) rfl rfl (rfl) rfl ?_
  refine jo_pure rfl (pr_pick_t rfl (rfl) rfl) ?_
  refine jo_pure rfl (pr_move rfl) (jo_skipu (j := 33) (want := false) rfl rfl (rfl) rfl ?_)
  refine jo_skipu (j := 33) (want := false) rfl rfl (rfl) rfl ?_
  refine jo_skipu (j := 33) (want := false) rfl rfl (rfl) rfl ?_
  refine jo_skipu (j := 33) (want := false) rfl rfl (rfl) rfl ?_
  refine jo_skipu (j := 33) (want := false) rfl rfl (rfl) rfl ?_
  refine jo_skipu (j := 33) (want := false) rfl rfl (rfl) rfl ?_
  refine jo_skipu (j := 33) (want := false) rfl rfl (rfl) rfl ?_
  refine jo_skipu (j := 33) (want := false) rfl rfl (rfl) rfl ?_
  refine jo_skipu (j := 33) (want := false) rfl rfl (rfl) rfl ?_
  refine jo_pure rfl (pr_pick_t rfl (rfl) rfl) ?_
  refine jo_nil (jq_then (jc_true rfl (rfl) ?_))
  refine jc_seq (jc_region (jo_pure rfl (pr_assign rfl) (jo_nil (jq_then (jc_ret ?_)))))
  refine jq_then_ret (j_drop (j_drop ?_))
  exact jq_ret1 rfl () rfl (show (.bool (true) : Value) = (.bool (true)) from rfl) (fun _ h => h)

end Go.Proofs.YtjbcomdljmfgjaaGreatDoor
