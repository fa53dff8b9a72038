/-
  Contracts of functions of the program: each returns what a plain function says, for every input within the bounds named. Conditions: the bounds.
-/
import Derived.Test.YtgahnjchpomcfaaGreatDoorRows
import Derived.Test.YtgahnjchpomcfaaGreatDoorYK6
namespace Go.Proofs.YtgahnjchpomcfaaGreatDoor
open Go Go.Sep
set_option linter.unusedSimpArgs false
set_option linter.unusedVariables false

open Go.Plain

theorem cal_14 : Cal Tryz.prog 14 := cal_of Tryz.func14 (by kernel_rfl) rfl
theorem cal_15 : Cal Tryz.prog 15 := cal_of Tryz.func15 (by kernel_rfl) rfl
theorem cal_16 : Cal Tryz.prog 16 := cal_of Tryz.func16 (by kernel_rfl) rfl
theorem cal_17 : Cal Tryz.prog 17 := cal_of Tryz.func17 (by kernel_rfl) rfl
theorem cal_33 : Cal Tryz.prog 33 := cal_of Tryz.func33 (by kernel_rfl) rfl
theorem cal_34 : Cal Tryz.prog 34 := cal_of Tryz.func34 (by kernel_rfl) rfl
theorem cal_35 : Cal Tryz.prog 35 := cal_of Tryz.func35 (by kernel_rfl) rfl
theorem cal_37 : Cal Tryz.prog 37 := cal_of Tryz.func37 (by kernel_rfl) rfl
theorem cal_38 : Cal Tryz.prog 38 := cal_of Tryz.func38 (by kernel_rfl) rfl
theorem cal_39 : Cal Tryz.prog 39 := cal_of Tryz.func39 (by kernel_rfl) rfl
theorem cal_49 : Cal Tryz.prog 49 := cal_of Tryz.func49 (by kernel_rfl) rfl
theorem ty_46 : TyF Tryz.prog 46 false 1 24 (some (.slice none 0 0)) := ⟨by kernel_rfl, by kernel_rfl⟩

theorem c_law16_axes   : Con Tryz.prog 49 #[] [] (fun r1 : Value => r1) (fun r1 => [.imm (.list (.pair .str (.list .str))) r1 ([([97, 99, 99, 101, 112, 116, 45, 108, 97, 110, 103, 117, 97, 103, 101], [[101, 110], [102, 114]]), ([97, 99, 99, 101, 112, 116, 45, 101, 110, 99, 111, 100, 105, 110, 103], [[103, 122, 105, 112], [105, 100, 101, 110, 116, 105, 116, 121]])])]) := by
  refine con_of_J (args := []) (n := 6) Tryz.func49 rfl (Nat.le_of_ble_eq_true rfl) rfl (fun w0 I0 m0 => ?_)
  show J _ [] [] _
  refine jc_seq ?_
  refine jc_region ?_
  refine jo_pure rfl (pr_assign rfl) ?_
  refine jo_nil ?_
  refine jq_then ?_
  refine jc_seq ?_
  refine jc_region ?_
  refine jo_buildSlice (t := .str) [[101, 110], [102, 114]] [str ([101, 110]), str ([102, 114])] (fun a hf => by simp only [List.zipIdx_cons, List.zipIdx_nil, List.map_toArray, List.map_cons, List.map_nil] <;> rfl) rfl Tryz.underlying45 ty_9 rfl rfl rfl rfl rfl (fun g1 => ?_)
  refine jo_pure rfl (pr_build [(0, str ([97, 99, 99, 101, 112, 116, 45, 108, 97, 110, 103, 117, 97, 103, 101])), (1, .slice (some ⟨g1, 0, none⟩) (([[101, 110], [102, 114]]).length) (([[101, 110], [102, 114]]).length))] [str ([97, 99, 99, 101, 112, 116, 45, 108, 97, 110, 103, 117, 97, 103, 101]), .slice (some ⟨g1, 0, none⟩) (([[101, 110], [102, 114]]).length) (([[101, 110], [102, 114]]).length)] (fun a hf => by simp only [List.map_toArray, List.map_cons, List.map_nil, hf.ev (show ev _ (.tmp 1) = some (.slice (some ⟨g1, 0, none⟩) (([[101, 110], [102, 114]]).length) (([[101, 110], [102, 114]]).length)) from rfl)] <;> rfl) (by kernel_rfl)) ?_
  refine jo_buildSlice (t := .str) [[103, 122, 105, 112], [105, 100, 101, 110, 116, 105, 116, 121]] [str ([103, 122, 105, 112]), str ([105, 100, 101, 110, 116, 105, 116, 121])] (fun a hf => by simp only [List.zipIdx_cons, List.zipIdx_nil, List.map_toArray, List.map_cons, List.map_nil] <;> rfl) rfl Tryz.underlying45 ty_9 rfl rfl rfl rfl rfl (fun g2 => ?_)
  refine jo_pure rfl (pr_build [(0, str ([97, 99, 99, 101, 112, 116, 45, 101, 110, 99, 111, 100, 105, 110, 103])), (1, .slice (some ⟨g2, 0, none⟩) (([[103, 122, 105, 112], [105, 100, 101, 110, 116, 105, 116, 121]]).length) (([[103, 122, 105, 112], [105, 100, 101, 110, 116, 105, 116, 121]]).length))] [str ([97, 99, 99, 101, 112, 116, 45, 101, 110, 99, 111, 100, 105, 110, 103]), .slice (some ⟨g2, 0, none⟩) (([[103, 122, 105, 112], [105, 100, 101, 110, 116, 105, 116, 121]]).length) (([[103, 122, 105, 112], [105, 100, 101, 110, 116, 105, 116, 121]]).length)] (fun a hf => by simp only [List.map_toArray, List.map_cons, List.map_nil, hf.ev (show ev _ (.tmp 3) = some (.slice (some ⟨g2, 0, none⟩) (([[103, 122, 105, 112], [105, 100, 101, 110, 116, 105, 116, 121]]).length) (([[103, 122, 105, 112], [105, 100, 101, 110, 116, 105, 116, 121]]).length)) from rfl)] <;> rfl) (by kernel_rfl)) ?_
  refine j_pull1 ?_
  refine j_pub_rowg ?_
  refine j_pull1 ?_
  refine j_pub_rowg ?_
  refine jo_buildSliceL (t := (.pair .str (.list .str))) [([97, 99, 99, 101, 112, 116, 45, 108, 97, 110, 103, 117, 97, 103, 101], [[101, 110], [102, 114]]), ([97, 99, 99, 101, 112, 116, 45, 101, 110, 99, 111, 100, 105, 110, 103], [[103, 122, 105, 112], [105, 100, 101, 110, 116, 105, 116, 121]])] [.agg #[str ([97, 99, 99, 101, 112, 116, 45, 108, 97, 110, 103, 117, 97, 103, 101]), .slice (some ⟨g1, 0, none⟩) ([[101, 110], [102, 114]]).length (([[101, 110], [102, 114]]).length)], .agg #[str ([97, 99, 99, 101, 112, 116, 45, 101, 110, 99, 111, 100, 105, 110, 103]), .slice (some ⟨g2, 0, none⟩) ([[103, 122, 105, 112], [105, 100, 101, 110, 116, 105, 116, 121]]).length (([[103, 122, 105, 112], [105, 100, 101, 110, 116, 105, 116, 121]]).length)]] [[str ([97, 99, 99, 101, 112, 116, 45, 108, 97, 110, 103, 117, 97, 103, 101]), .slice (some ⟨g1, 0, none⟩) ([[101, 110], [102, 114]]).length (([[101, 110], [102, 114]]).length)], [str ([97, 99, 99, 101, 112, 116, 45, 101, 110, 99, 111, 100, 105, 110, 103]), .slice (some ⟨g2, 0, none⟩) ([[103, 122, 105, 112], [105, 100, 101, 110, 116, 105, 116, 121]]).length (([[103, 122, 105, 112], [105, 100, 101, 110, 116, 105, 116, 121]]).length)]] (fun a hf => by simp only [List.zipIdx_cons, List.zipIdx_nil, List.map_toArray, List.map_cons, List.map_nil, hf.ev (show ev _ (.tmp 2) = some (.agg #[str ([97, 99, 99, 101, 112, 116, 45, 108, 97, 110, 103, 117, 97, 103, 101]), .slice (some ⟨g1, 0, none⟩) ([[101, 110], [102, 114]]).length (([[101, 110], [102, 114]]).length)]) from rfl), hf.ev (show ev _ (.tmp 4) = some (.agg #[str ([97, 99, 99, 101, 112, 116, 45, 101, 110, 99, 111, 100, 105, 110, 103]), .slice (some ⟨g2, 0, none⟩) ([[103, 122, 105, 112], [105, 100, 101, 110, 116, 105, 116, 121]]).length (([[103, 122, 105, 112], [105, 100, 101, 110, 116, 105, 116, 121]]).length)]) from rfl)] <;> rfl) rfl ⟨⟨[str ([97, 99, 99, 101, 112, 116, 45, 108, 97, 110, 103, 117, 97, 103, 101])], [.slice (some ⟨g1, 0, none⟩) ([[101, 110], [102, 114]]).length (([[101, 110], [102, 114]]).length)], rfl, rfl, ⟨(.slice (some ⟨g1, 0, none⟩) ([[101, 110], [102, 114]]).length (([[101, 110], [102, 114]]).length)), rfl, .tail _ (.head _)⟩⟩, ⟨⟨[str ([97, 99, 99, 101, 112, 116, 45, 101, 110, 99, 111, 100, 105, 110, 103])], [.slice (some ⟨g2, 0, none⟩) ([[103, 122, 105, 112], [105, 100, 101, 110, 116, 105, 116, 121]]).length (([[103, 122, 105, 112], [105, 100, 101, 110, 116, 105, 116, 121]]).length)], rfl, rfl, ⟨(.slice (some ⟨g2, 0, none⟩) ([[103, 122, 105, 112], [105, 100, 101, 110, 116, 105, 116, 121]]).length (([[103, 122, 105, 112], [105, 100, 101, 110, 116, 105, 116, 121]]).length)), rfl, .head _⟩⟩, trivial⟩⟩ Tryz.underlying23 ty_48 rfl rfl rfl rfl (fun g3 => ?_)
  refine jo_pure rfl (pr_assign rfl) ?_
  refine jo_nil ?_
  refine jq_then ?_
  refine jc_ret ?_
  refine j_row_of_rowg ?_
  refine j_pub_row ?_
  refine j_pull1 ?_
  refine j_drop ?_
  refine j_pull1 ?_
  refine j_drop ?_
  exact jq_ret1 rfl (.slice (some ⟨g3, 0, none⟩) ([([97, 99, 99, 101, 112, 116, 45, 108, 97, 110, 103, 117, 97, 103, 101], [[101, 110], [102, 114]]), ([97, 99, 99, 101, 112, 116, 45, 101, 110, 99, 111, 100, 105, 110, 103], [[103, 122, 105, 112], [105, 100, 101, 110, 116, 105, 116, 121]])]).length (([([97, 99, 99, 101, 112, 116, 45, 108, 97, 110, 103, 117, 97, 103, 101], [[101, 110], [102, 114]]), ([97, 99, 99, 101, 112, 116, 45, 101, 110, 99, 111, 100, 105, 110, 103], [[103, 122, 105, 112], [105, 100, 101, 110, 116, 105, 116, 121]])]).length)) rfl (show (.slice (some ⟨g3, 0, none⟩) ([([97, 99, 99, 101, 112, 116, 45, 108, 97, 110, 103, 117, 97, 103, 101], [[101, 110], [102, 114]]), ([97, 99, 99, 101, 112, 116, 45, 101, 110, 99, 111, 100, 105, 110, 103], [[103, 122, 105, 112], [105, 100, 101, 110, 116, 105, 116, 121]])]).length (([([97, 99, 99, 101, 112, 116, 45, 108, 97, 110, 103, 117, 97, 103, 101], [[101, 110], [102, 114]]), ([97, 99, 99, 101, 112, 116, 45, 101, 110, 99, 111, 100, 105, 110, 103], [[103, 122, 105, 112], [105, 100, 101, 110, 116, 105, 116, 121]])]).length) : Value) = (.slice (some ⟨g3, 0, none⟩) ([([97, 99, 99, 101, 112, 116, 45, 108, 97, 110, 103, 117, 97, 103, 101], [[101, 110], [102, 114]]), ([97, 99, 99, 101, 112, 116, 45, 101, 110, 99, 111, 100, 105, 110, 103], [[103, 122, 105, 112], [105, 100, 101, 110, 116, 105, 116, 121]])]).length (([([97, 99, 99, 101, 112, 116, 45, 108, 97, 110, 103, 117, 97, 103, 101], [[101, 110], [102, 114]]), ([97, 99, 99, 101, 112, 116, 45, 101, 110, 99, 111, 100, 105, 110, 103], [[103, 122, 105, 112], [105, 100, 101, 110, 116, 105, 116, 121]])]).length)) from rfl) (fun _ h => h)

theorem c_law16_awake   : Con Tryz.prog 17 #[] [] (fun _ : Unit => .bool (true)) (fun _ => []) := by
  refine con_of_J (args := []) (n := 19) Tryz.func17 rfl (Nat.le_of_ble_eq_true rfl) rfl (fun w0 I0 m0 => ?_)
  show J _ [] [] _
  refine jc_seq ?_
  refine jc_region ?_
  refine jo_pure rfl (pr_assign rfl) ?_
  refine jo_nil ?_
  refine jq_then ?_
  refine jc_seq ?_
  refine jc_region ?_
  refine jo_pure rfl (pr_build [(0, str ([86, 97, 114, 105, 97, 110, 116, 45, 75, 101, 121])), (1, str ([40, 70, 82, 32, 103, 122, 105, 112, 41, 44, 32, 40, 101, 110, 32, 103, 122, 105, 112, 41, 44, 32, 40, 102, 114, 32, 71, 90, 73, 80, 41]))] [str ([86, 97, 114, 105, 97, 110, 116, 45, 75, 101, 121]), str ([40, 70, 82, 32, 103, 122, 105, 112, 41, 44, 32, 40, 101, 110, 32, 103, 122, 105, 112, 41, 44, 32, 40, 102, 114, 32, 71, 90, 73, 80, 41])] (fun a hf => by simp only [List.map_toArray, List.map_cons, List.map_nil] <;> rfl) (by kernel_rfl)) ?_
  refine jo_buildSlice (t := (.pair .str .str)) [([86, 97, 114, 105, 97, 110, 116, 45, 75, 101, 121], [40, 70, 82, 32, 103, 122, 105, 112, 41, 44, 32, 40, 101, 110, 32, 103, 122, 105, 112, 41, 44, 32, 40, 102, 114, 32, 71, 90, 73, 80, 41])] [.agg #[str ([86, 97, 114, 105, 97, 110, 116, 45, 75, 101, 121]), str ([40, 70, 82, 32, 103, 122, 105, 112, 41, 44, 32, 40, 101, 110, 32, 103, 122, 105, 112, 41, 44, 32, 40, 102, 114, 32, 71, 90, 73, 80, 41])]] (fun a hf => by simp only [List.zipIdx_cons, List.zipIdx_nil, List.map_toArray, List.map_cons, List.map_nil, hf.ev (show ev _ (.tmp 4) = some (.agg #[str ([86, 97, 114, 105, 97, 110, 116, 45, 75, 101, 121]), str ([40, 70, 82, 32, 103, 122, 105, 112, 41, 44, 32, 40, 101, 110, 32, 103, 122, 105, 112, 41, 44, 32, 40, 102, 114, 32, 71, 90, 73, 80, 41])]) from rfl)] <;> rfl) rfl Tryz.underlying22 ty_38 rfl rfl rfl rfl rfl (fun g1 => ?_)
  refine jo_callp cal_49 (c_law16_axes) trivial rfl (trivial) (fun r1 => ?_)
  show J _ _ [.imm (.list (.pair .str (.list .str))) (r1) ([([97, 99, 99, 101, 112, 116, 45, 108, 97, 110, 103, 117, 97, 103, 101], [[101, 110], [102, 114]]), ([97, 99, 99, 101, 112, 116, 45, 101, 110, 99, 111, 100, 105, 110, 103], [[103, 122, 105, 112], [105, 100, 101, 110, 116, 105, 116, 121]])]), .rowg g1 (([([86, 97, 114, 105, 97, 110, 116, 45, 75, 101, 121], [40, 70, 82, 32, 103, 122, 105, 112, 41, 44, 32, 40, 101, 110, 32, 103, 122, 105, 112, 41, 44, 32, 40, 102, 114, 32, 71, 90, 73, 80, 41])]).length) 38 (.pair .str .str) ([([86, 97, 114, 105, 97, 110, 116, 45, 75, 101, 121], [40, 70, 82, 32, 103, 122, 105, 112, 41, 44, 32, 40, 101, 110, 32, 103, 122, 105, 112, 41, 44, 32, 40, 102, 114, 32, 71, 90, 73, 80, 41])])] _
  refine j_pull1 ?_
  refine j_pub_rowg ?_
  refine jo_callp cal_14 (c_variantkey_Parse [([86, 97, 114, 105, 97, 110, 116, 45, 75, 101, 121], [40, 70, 82, 32, 103, 122, 105, 112, 41, 44, 32, 40, 101, 110, 32, 103, 122, 105, 112, 41, 44, 32, 40, 102, 114, 32, 71, 90, 73, 80, 41])] (.slice (some ⟨g1, 0, none⟩) ([([86, 97, 114, 105, 97, 110, 116, 45, 75, 101, 121], [40, 70, 82, 32, 103, 122, 105, 112, 41, 44, 32, 40, 101, 110, 32, 103, 122, 105, 112, 41, 44, 32, 40, 102, 114, 32, 71, 90, 73, 80, 41])]).length (([([86, 97, 114, 105, 97, 110, 116, 45, 75, 101, 121], [40, 70, 82, 32, 103, 122, 105, 112, 41, 44, 32, 40, 101, 110, 32, 103, 122, 105, 112, 41, 44, 32, 40, 102, 114, 32, 71, 90, 73, 80, 41])]).length)) [([97, 99, 99, 101, 112, 116, 45, 108, 97, 110, 103, 117, 97, 103, 101], [[101, 110], [102, 114]]), ([97, 99, 99, 101, 112, 116, 45, 101, 110, 99, 111, 100, 105, 110, 103], [[103, 122, 105, 112], [105, 100, 101, 110, 116, 105, 116, 121]])] r1 (by decide +kernel) (by decide +kernel) (by decide +kernel) (by decide +kernel)) ⟨rfl, rfl, trivial⟩ rfl (⟨⟨rfl, .head _⟩, ⟨⟨rfl, .tail _ (.head _)⟩, trivial⟩⟩) (fun r2 => ?_)
  show J _ _ [.imm (.list (.list .str)) (r2) ((parseK [([86, 97, 114, 105, 97, 110, 116, 45, 75, 101, 121], [40, 70, 82, 32, 103, 122, 105, 112, 41, 44, 32, 40, 101, 110, 32, 103, 122, 105, 112, 41, 44, 32, 40, 102, 114, 32, 71, 90, 73, 80, 41])] [([97, 99, 99, 101, 112, 116, 45, 108, 97, 110, 103, 117, 97, 103, 101], [[101, 110], [102, 114]]), ([97, 99, 99, 101, 112, 116, 45, 101, 110, 99, 111, 100, 105, 110, 103], [[103, 122, 105, 112], [105, 100, 101, 110, 116, 105, 116, 121]])]).1), .imm (.list (.pair .str .str)) (.slice (some ⟨g1, 0, none⟩) ([([86, 97, 114, 105, 97, 110, 116, 45, 75, 101, 121], [40, 70, 82, 32, 103, 122, 105, 112, 41, 44, 32, 40, 101, 110, 32, 103, 122, 105, 112, 41, 44, 32, 40, 102, 114, 32, 71, 90, 73, 80, 41])]).length (([([86, 97, 114, 105, 97, 110, 116, 45, 75, 101, 121], [40, 70, 82, 32, 103, 122, 105, 112, 41, 44, 32, 40, 101, 110, 32, 103, 122, 105, 112, 41, 44, 32, 40, 102, 114, 32, 71, 90, 73, 80, 41])]).length)) ([([86, 97, 114, 105, 97, 110, 116, 45, 75, 101, 121], [40, 70, 82, 32, 103, 122, 105, 112, 41, 44, 32, 40, 101, 110, 32, 103, 122, 105, 112, 41, 44, 32, 40, 102, 114, 32, 71, 90, 73, 80, 41])]), .imm (.list (.pair .str (.list .str))) (r1) ([([97, 99, 99, 101, 112, 116, 45, 108, 97, 110, 103, 117, 97, 103, 101], [[101, 110], [102, 114]]), ([97, 99, 99, 101, 112, 116, 45, 101, 110, 99, 111, 100, 105, 110, 103], [[103, 122, 105, 112], [105, 100, 101, 110, 116, 105, 116, 121]])])] _
  refine jo_pure rfl (pr_move rfl) ?_
  refine jo_pure rfl (pr_extract rfl rfl) ?_
  refine jo_pure rfl (pr_extract rfl rfl) ?_
  refine jo_pure rfl (pr_assign rfl) ?_
  refine jo_pure rfl (pr_assign rfl) ?_
  refine jo_nil ?_
  refine jq_then ?_
  refine jc_seq ?_
  refine jc_region ?_
  refine jo_pure rfl (pr_move rfl) ?_
  refine jo_pure rfl (pr_eql (n := 0) rfl rfl) ?_
  refine jo_pure rfl (pr_move rfl) ?_
  have ht1 : (decide (((parseK [([86, 97, 114, 105, 97, 110, 116, 45, 75, 101, 121], [40, 70, 82, 32, 103, 122, 105, 112, 41, 44, 32, 40, 101, 110, 32, 103, 122, 105, 112, 41, 44, 32, 40, 102, 114, 32, 71, 90, 73, 80, 41])] [([97, 99, 99, 101, 112, 116, 45, 108, 97, 110, 103, 117, 97, 103, 101], [[101, 110], [102, 114]]), ([97, 99, 99, 101, 112, 116, 45, 101, 110, 99, 111, 100, 105, 110, 103], [[103, 122, 105, 112], [105, 100, 101, 110, 116, 105, 116, 121]])]).2 : Int) = 0)) = true := by decide +kernel
  refine jo_run (j := 2) (want := true) rfl rfl (ht1) ?_
  refine jo_pure rfl (pr_move rfl) ?_
  refine jo_run (j := 2) (want := true) rfl rfl (ht1) ?_
  refine jo_buildSlice (t := .str) [[102, 114], [103, 122, 105, 112]] [str ([102, 114]), str ([103, 122, 105, 112])] (fun a hf => by simp only [List.zipIdx_cons, List.zipIdx_nil, List.map_toArray, List.map_cons, List.map_nil] <;> rfl) rfl Tryz.underlying45 ty_9 rfl rfl rfl rfl rfl (fun g2 => ?_)
  refine jo_run (j := 2) (want := true) rfl rfl (ht1) ?_
  refine jo_buildSlice (t := .str) [[101, 110], [103, 122, 105, 112]] [str ([101, 110]), str ([103, 122, 105, 112])] (fun a hf => by simp only [List.zipIdx_cons, List.zipIdx_nil, List.map_toArray, List.map_cons, List.map_nil] <;> rfl) rfl Tryz.underlying45 ty_9 rfl rfl rfl rfl rfl (fun g3 => ?_)
  refine jo_run (j := 2) (want := true) rfl rfl (ht1) ?_
  refine j_pull1 ?_
  refine j_pub_rowg ?_
  refine j_pull1 ?_
  refine j_pub_rowg ?_
  refine jo_buildSliceL (t := (.list .str)) [[[102, 114], [103, 122, 105, 112]], [[101, 110], [103, 122, 105, 112]]] [.slice (some ⟨g2, 0, none⟩) ([[102, 114], [103, 122, 105, 112]]).length (([[102, 114], [103, 122, 105, 112]]).length), .slice (some ⟨g3, 0, none⟩) ([[101, 110], [103, 122, 105, 112]]).length (([[101, 110], [103, 122, 105, 112]]).length)] [[.slice (some ⟨g2, 0, none⟩) ([[102, 114], [103, 122, 105, 112]]).length (([[102, 114], [103, 122, 105, 112]]).length)], [.slice (some ⟨g3, 0, none⟩) ([[101, 110], [103, 122, 105, 112]]).length (([[101, 110], [103, 122, 105, 112]]).length)]] (fun a hf => by simp only [List.zipIdx_cons, List.zipIdx_nil, List.map_toArray, List.map_cons, List.map_nil, hf.ev (show ev _ (.tmp 14) = some (.slice (some ⟨g2, 0, none⟩) ([[102, 114], [103, 122, 105, 112]]).length (([[102, 114], [103, 122, 105, 112]]).length)) from rfl), hf.ev (show ev _ (.tmp 15) = some (.slice (some ⟨g3, 0, none⟩) ([[101, 110], [103, 122, 105, 112]]).length (([[101, 110], [103, 122, 105, 112]]).length)) from rfl)] <;> rfl) rfl ⟨⟨(.slice (some ⟨g2, 0, none⟩) ([[102, 114], [103, 122, 105, 112]]).length (([[102, 114], [103, 122, 105, 112]]).length)), rfl, .tail _ (.head _)⟩, ⟨⟨(.slice (some ⟨g3, 0, none⟩) ([[101, 110], [103, 122, 105, 112]]).length (([[101, 110], [103, 122, 105, 112]]).length)), rfl, .head _⟩, trivial⟩⟩ Tryz.underlying26 ty_45 rfl rfl rfl rfl (fun g4 => ?_)
  refine jo_run (j := 2) (want := true) rfl rfl (ht1) ?_
  refine j_pub_rowg ?_
  refine jo_callp cal_16 (c_ref26_SameKeys ((parseK [([86, 97, 114, 105, 97, 110, 116, 45, 75, 101, 121], [40, 70, 82, 32, 103, 122, 105, 112, 41, 44, 32, 40, 101, 110, 32, 103, 122, 105, 112, 41, 44, 32, 40, 102, 114, 32, 71, 90, 73, 80, 41])] [([97, 99, 99, 101, 112, 116, 45, 108, 97, 110, 103, 117, 97, 103, 101], [[101, 110], [102, 114]]), ([97, 99, 99, 101, 112, 116, 45, 101, 110, 99, 111, 100, 105, 110, 103], [[103, 122, 105, 112], [105, 100, 101, 110, 116, 105, 116, 121]])]).1) r2 [[[102, 114], [103, 122, 105, 112]], [[101, 110], [103, 122, 105, 112]]] (.slice (some ⟨g4, 0, none⟩) ([[[102, 114], [103, 122, 105, 112]], [[101, 110], [103, 122, 105, 112]]]).length (([[[102, 114], [103, 122, 105, 112]], [[101, 110], [103, 122, 105, 112]]]).length)) (by decide +kernel) (by decide +kernel)) ⟨rfl, rfl, trivial⟩ rfl (⟨⟨rfl, .tail _ (.tail _ (.tail _ (.head _)))⟩, ⟨⟨rfl, .head _⟩, trivial⟩⟩) (fun _ => ?_)
  refine jo_pure rfl (pr_pick_t rfl (ht1) rfl) ?_
  refine jo_pure rfl (pr_assign rfl) ?_
  refine jo_nil ?_
  refine jq_then ?_
  refine jc_ret ?_
  refine j_drop ?_
  refine j_drop ?_
  refine j_drop ?_
  refine j_drop ?_
  refine j_drop ?_
  refine j_drop ?_
  exact jq_ret1 rfl () rfl (show (.bool (true) : Value) = (.bool (decide (((parseK [([86, 97, 114, 105, 97, 110, 116, 45, 75, 101, 121], [40, 70, 82, 32, 103, 122, 105, 112, 41, 44, 32, 40, 101, 110, 32, 103, 122, 105, 112, 41, 44, 32, 40, 102, 114, 32, 71, 90, 73, 80, 41])] [([97, 99, 99, 101, 112, 116, 45, 108, 97, 110, 103, 117, 97, 103, 101], [[101, 110], [102, 114]]), ([97, 99, 99, 101, 112, 116, 45, 101, 110, 99, 111, 100, 105, 110, 103], [[103, 122, 105, 112], [105, 100, 101, 110, 116, 105, 116, 121]])]).1) = [[[102, 114], [103, 122, 105, 112]], [[101, 110], [103, 122, 105, 112]]]))) from congrArg Value.bool (by decide +kernel)) (fun _ h => h)

theorem c_law16_VariantkeyParses (l : List ((List UInt8) × (List UInt8))) (lv : Value) (x : List ((List UInt8) × (List (List UInt8)))) (xv : Value) (hl : l.length ≤ 9223372036854775807) (hlx : x.length ≤ 9223372036854775807) (hmx : ∀ a ∈ x, a.2.length ≤ 9223372036854775807) : Con Tryz.prog 3 #[lv, xv] [.imm (.list (.pair .str .str)) (lv) (l), .imm (.list (.pair .str (.list .str))) (xv) (x)] (fun _ : Unit => .bool (true)) (fun _ => []) := by
  refine con_of_J (args := [lv, xv]) (n := 40) Tryz.func3 rfl (Nat.le_of_ble_eq_true rfl) rfl (fun w0 I0 m0 => ?_)
  show J _ [(0, lv), (1, xv)] [.imm (.list (.pair .str .str)) (lv) (l), .imm (.list (.pair .str (.list .str))) (xv) (x)] _
  refine jc_seq ?_
  refine jc_region ?_
  refine jo_pure rfl (pr_assign rfl) ?_
  refine jo_nil ?_
  refine jq_then ?_
  refine jc_seq ?_
  refine jc_seq ?_
  refine jc_region ?_
  refine jo_pure rfl (pr_move rfl) ?_
  refine jo_callp cal_12 (c_keep_Fields l lv (by first | omega | exact hl | exact hlx | exact hmx | exact hlen | exact hmem | exact hxm | exact hpl | exact hpm | decide)) ⟨rfl, trivial⟩ rfl (⟨⟨rfl, .head _⟩, trivial⟩) (fun _ => ?_)
  refine jo_pure rfl (pr_not rfl) ?_
  refine jo_pure rfl (pr_move rfl) ?_
  refine jo_gpure (j := 3) (want := false) rfl rfl rfl rfl (fun hg => pr_move rfl) ?_
  refine jo_gcall (j := 3) (want := false) rfl rfl rfl cal_13 (fun hg => c_keep_Axes x xv (by first | omega | exact hl | exact hlx | exact hmx | exact hlen | exact hmem | exact hxm | exact hpl | exact hpm | decide) (by first | omega | exact hl | exact hlx | exact hmx | exact hlen | exact hmem | exact hxm | exact hpl | exact hpm | decide)) (fun hg => ⟨evg rfl hg, trivial⟩) rfl (fun _ => ⟨⟨rfl, .tail _ (.head _)⟩, trivial⟩) ?_
  refine jo_gpure (j := 3) (want := false) rfl rfl rfl rfl (fun hg => pr_not (evg rfl hg)) ?_
  refine jo_pure rfl (pr_pick_or rfl rfl rfl) ?_
  refine jo_nil ?_
  refine jq_then ?_
  refine jc_cond rfl (fun h1b => ?_) (fun h1b => ?_)
  · have h1 := (fun q => Or.imp (fun q => id (bt_not q)) (fun q => id (bt_not q)) (bt_or q)) h1b
    refine jc_seq ?_
    refine jc_region ?_
    refine jo_pure rfl (pr_assign rfl) ?_
    refine jo_nil ?_
    refine jq_then ?_
    refine jc_ret ?_
    refine jq_then_ret ?_
    refine j_drop ?_
    refine j_drop ?_
    exact jq_ret1 rfl () rfl (show (.bool (true) : Value) = (.bool (true)) from rfl) (fun _ h => h)
  · have h1 := (fun q => And.imp (fun q => id (bf_not q)) (fun q => id (bf_not q)) (bf_or q)) h1b
    have hkeep : keepF l = true ∧ keepA x = true := by simpa using h1
    have hxl : x.length ≤ 1000 := by have := keepA_len (hkeep.2); omega
    have hxm : ∀ a ∈ x, a.1.length ≤ 1000000 ∧ a.2.length ≤ 1000000 ∧ ∀ z ∈ a.2, z.length ≤ 300000 := fun a ha => by have h9 := keepA_mem (hkeep.2) a ha; exact ⟨by omega, by omega, fun z hz => Nat.le_trans (h9.2.2 z hz) (by omega)⟩
    have hlen : l.length ≤ 1000000 := by have := keepF_len (hkeep.1); omega
    have hmem : ∀ z ∈ l, z.1.length ≤ 300000 ∧ z.2.length ≤ 300000 := fun z hz => by have := keepF_mem (hkeep.1) z hz; omega
    have hpf := parseK_fin l x
    have hpl : (parseK l x).1.length ≤ 9223372036854775807 := by omega
    have hpm : ∀ k ∈ (parseK l x).1, k.length ≤ 9223372036854775807 := fun k hk => by rw [hpf.2 k hk]; omega
    refine jc_skip ?_
    refine jq_then ?_
    refine jc_seq ?_
    refine jc_region ?_
    refine jo_pure rfl (pr_move rfl) ?_
    refine jo_pure rfl (pr_move rfl) ?_
    refine jo_callp cal_14 (c_variantkey_Parse l lv x xv (by first | omega | exact hl | exact hlx | exact hmx | exact hlen | exact hmem | exact hxm | exact hpl | exact hpm | decide) (by first | omega | exact hl | exact hlx | exact hmx | exact hlen | exact hmem | exact hxm | exact hpl | exact hpm | decide) (by first | omega | exact hl | exact hlx | exact hmx | exact hlen | exact hmem | exact hxm | exact hpl | exact hpm | decide) (by first | omega | exact hl | exact hlx | exact hmx | exact hlen | exact hmem | exact hxm | exact hpl | exact hpm | decide)) ⟨rfl, rfl, trivial⟩ rfl (⟨⟨rfl, .head _⟩, ⟨⟨rfl, .tail _ (.head _)⟩, trivial⟩⟩) (fun r1 => ?_)
    show J _ _ [.imm (.list (.list .str)) (r1) ((parseK l x).1), .imm (.list (.pair .str .str)) (lv) (l), .imm (.list (.pair .str (.list .str))) (xv) (x)] _
    refine jo_pure rfl (pr_move rfl) ?_
    refine jo_pure rfl (pr_extract rfl rfl) ?_
    refine jo_pure rfl (pr_extract rfl rfl) ?_
    refine jo_pure rfl (pr_assign rfl) ?_
    refine jo_pure rfl (pr_assign rfl) ?_
    refine jo_nil ?_
    refine jq_then ?_
    refine jc_seq ?_
    refine jc_region ?_
    refine jo_pure rfl (pr_move rfl) ?_
    refine jo_pure rfl (pr_move rfl) ?_
    refine jo_callp cal_15 (c_ref10_ParseKeys l lv x xv (by first | omega | exact hl | exact hlx | exact hmx | exact hlen | exact hmem | exact hxm | exact hpl | exact hpm | decide) (by first | omega | exact hl | exact hlx | exact hmx | exact hlen | exact hmem | exact hxm | exact hpl | exact hpm | decide) (by first | omega | exact hl | exact hlx | exact hmx | exact hlen | exact hmem | exact hxm | exact hpl | exact hpm | decide) (by first | omega | exact hl | exact hlx | exact hmx | exact hlen | exact hmem | exact hxm | exact hpl | exact hpm | decide)) ⟨rfl, rfl, trivial⟩ rfl (⟨⟨rfl, .tail _ (.head _)⟩, ⟨⟨rfl, .tail _ (.tail _ (.head _))⟩, trivial⟩⟩) (fun r2 => ?_)
    show J _ _ [.imm (.list (.list .str)) (r2) ((parseK l x).1), .imm (.list (.list .str)) (r1) ((parseK l x).1), .imm (.list (.pair .str .str)) (lv) (l), .imm (.list (.pair .str (.list .str))) (xv) (x)] _
    refine jo_pure rfl (pr_move rfl) ?_
    refine jo_pure rfl (pr_extract rfl rfl) ?_
    refine jo_pure rfl (pr_extract rfl rfl) ?_
    refine jo_pure rfl (pr_assign rfl) ?_
    refine jo_pure rfl (pr_assign rfl) ?_
    refine jo_nil ?_
    refine jq_then ?_
    refine jc_seq ?_
    refine jc_region ?_
    refine jo_pure rfl (pr_move rfl) ?_
    refine jo_pure rfl (pr_move rfl) ?_
    refine jo_callp cal_16 (c_ref26_SameKeys ((parseK l x).1) r1 ((parseK l x).1) r2 (by first | omega | exact hl | exact hlx | exact hmx | exact hlen | exact hmem | exact hxm | exact hpl | exact hpm | decide) (by first | omega | exact hl | exact hlx | exact hmx | exact hlen | exact hmem | exact hxm | exact hpl | exact hpm | decide)) ⟨rfl, rfl, trivial⟩ rfl (⟨⟨rfl, .tail _ (.head _)⟩, ⟨⟨rfl, .head _⟩, trivial⟩⟩) (fun _ => ?_)
    refine jo_pure rfl (pr_move rfl) ?_
    refine jo_gpure (j := 3) (want := true) rfl rfl rfl rfl (fun hg => pr_move rfl) ?_
    refine jo_gpure (j := 3) (want := true) rfl rfl rfl rfl (fun hg => pr_move rfl) ?_
    refine jo_gpure (j := 3) (want := true) rfl rfl rfl rfl (fun hg => pr_eql (evg rfl hg) (evg rfl hg)) ?_
    refine jo_pure rfl (pr_pick_and rfl rfl rfl) ?_
    refine jo_pure rfl (pr_move rfl) ?_
    refine jo_gcall (j := 8) (want := true) rfl rfl rfl cal_17 (fun hg => c_law16_awake) (fun hg => trivial) rfl (fun _ => trivial) ?_
    refine jo_pure rfl (pr_pick_and rfl rfl rfl) ?_
    refine jo_pure rfl (pr_assign rfl) ?_
    refine jo_nil ?_
    refine jq_then ?_
    refine jc_ret ?_
    refine j_drop ?_
    refine j_drop ?_
    refine j_drop ?_
    refine j_drop ?_
    exact jq_ret1 rfl () rfl (show (.bool (true) : Value) = (.bool (((decide (((parseK l x).1) = ((parseK l x).1)) && decide (((parseK l x).2 : Int) = (parseK l x).2)) && true))) from by simp) (fun _ h => h)

theorem c_law16_VariantkeyFormats (keys : List (List (List UInt8))) (keysv : Value) (x : List ((List UInt8) × (List (List UInt8)))) (xv : Value) (p : List (List UInt8)) (pv : Value) (q : List (List UInt8)) (qv : Value) (hl : keys.length ≤ 9223372036854775807) (hm : ∀ k ∈ keys, k.length ≤ 9223372036854775807) (hlx : x.length ≤ 9223372036854775807) (hmx : ∀ a ∈ x, a.2.length ≤ 9223372036854775807) (hlp : p.length ≤ 9223372036854775807) (hlq : q.length ≤ 9223372036854775807) : Con Tryz.prog 11 #[keysv, xv, pv, qv] [.imm (.list (.list .str)) (keysv) (keys), .imm (.list (.pair .str (.list .str))) (xv) (x), .imm (.list .str) (pv) (p), .imm (.list .str) (qv) (q)] (fun _ : Unit => .bool (true)) (fun _ => []) := by
  refine con_of_J (args := [keysv, xv, pv, qv]) (n := 46) Tryz.func11 rfl (Nat.le_of_ble_eq_true rfl) rfl (fun w0 I0 m0 => ?_)
  show J _ [(0, keysv), (1, xv), (2, pv), (3, qv)] [.imm (.list (.list .str)) (keysv) (keys), .imm (.list (.pair .str (.list .str))) (xv) (x), .imm (.list .str) (pv) (p), .imm (.list .str) (qv) (q)] _
  refine jc_seq ?_
  refine jc_region ?_
  refine jo_pure rfl (pr_assign rfl) ?_
  refine jo_nil ?_
  refine jq_then ?_
  refine jc_seq ?_
  refine jc_seq ?_
  refine jc_region ?_
  refine jo_pure rfl (pr_move rfl) ?_
  refine jo_callp cal_35 (c_keep_Keys keys keysv (by first | omega | exact hl | exact hm | exact hlx | exact hmx | exact hlp | exact hlq | exact hkm | exact hx1 | exact hpm | exact hqm | decide) (by first | omega | exact hl | exact hm | exact hlx | exact hmx | exact hlp | exact hlq | exact hkm | exact hx1 | exact hpm | exact hqm | decide)) ⟨rfl, trivial⟩ rfl (⟨⟨rfl, .head _⟩, trivial⟩) (fun _ => ?_)
  refine jo_pure rfl (pr_not rfl) ?_
  refine jo_pure rfl (pr_move rfl) ?_
  refine jo_gpure (j := 3) (want := false) rfl rfl rfl rfl (fun hg => pr_move rfl) ?_
  refine jo_gcall (j := 3) (want := false) rfl rfl rfl cal_13 (fun hg => c_keep_Axes x xv (by first | omega | exact hl | exact hm | exact hlx | exact hmx | exact hlp | exact hlq | exact hkm | exact hx1 | exact hpm | exact hqm | decide) (by first | omega | exact hl | exact hm | exact hlx | exact hmx | exact hlp | exact hlq | exact hkm | exact hx1 | exact hpm | exact hqm | decide)) (fun hg => ⟨evg rfl hg, trivial⟩) rfl (fun _ => ⟨⟨rfl, .tail _ (.head _)⟩, trivial⟩) ?_
  refine jo_gpure (j := 3) (want := false) rfl rfl rfl rfl (fun hg => pr_not (evg rfl hg)) ?_
  refine jo_pure rfl (pr_pick_or rfl rfl rfl) ?_
  refine jo_pure rfl (pr_move rfl) ?_
  refine jo_gpure (j := 8) (want := false) rfl rfl rfl rfl (fun hg => pr_move rfl) ?_
  refine jo_gcall (j := 8) (want := false) rfl rfl rfl cal_36 (fun hg => c_keep_Strings p pv (by first | omega | exact hl | exact hm | exact hlx | exact hmx | exact hlp | exact hlq | exact hkm | exact hx1 | exact hpm | exact hqm | decide)) (fun hg => ⟨evg rfl hg, trivial⟩) rfl (fun _ => ⟨⟨rfl, .tail _ (.tail _ (.head _))⟩, trivial⟩) ?_
  refine jo_gpure (j := 8) (want := false) rfl rfl rfl rfl (fun hg => pr_not (evg rfl hg)) ?_
  refine jo_pure rfl (pr_pick_or rfl rfl rfl) ?_
  refine jo_pure rfl (pr_move rfl) ?_
  refine jo_gpure (j := 13) (want := false) rfl rfl rfl rfl (fun hg => pr_move rfl) ?_
  refine jo_gcall (j := 13) (want := false) rfl rfl rfl cal_36 (fun hg => c_keep_Strings q qv (by first | omega | exact hl | exact hm | exact hlx | exact hmx | exact hlp | exact hlq | exact hkm | exact hx1 | exact hpm | exact hqm | decide)) (fun hg => ⟨evg rfl hg, trivial⟩) rfl (fun _ => ⟨⟨rfl, .tail _ (.tail _ (.tail _ (.head _)))⟩, trivial⟩) ?_
  refine jo_gpure (j := 13) (want := false) rfl rfl rfl rfl (fun hg => pr_not (evg rfl hg)) ?_
  refine jo_pure rfl (pr_pick_or rfl rfl rfl) ?_
  refine jo_nil ?_
  refine jq_then ?_
  refine jc_cond rfl (fun h1b => ?_) (fun h1b => ?_)
  · have h1 := (fun q => Or.imp (fun q => Or.imp (fun q => Or.imp (fun q => id (bt_not q)) (fun q => id (bt_not q)) (bt_or q)) (fun q => id (bt_not q)) (bt_or q)) (fun q => id (bt_not q)) (bt_or q)) h1b
    refine jc_seq ?_
    refine jc_region ?_
    refine jo_pure rfl (pr_assign rfl) ?_
    refine jo_nil ?_
    refine jq_then ?_
    refine jc_ret ?_
    refine jq_then_ret ?_
    refine j_drop ?_
    refine j_drop ?_
    refine j_drop ?_
    refine j_drop ?_
    exact jq_ret1 rfl () rfl (show (.bool (true) : Value) = (.bool (true)) from rfl) (fun _ h => h)
  · have h1 := (fun q => And.imp (fun q => And.imp (fun q => And.imp (fun q => id (bf_not q)) (fun q => id (bf_not q)) (bf_or q)) (fun q => id (bf_not q)) (bf_or q)) (fun q => id (bf_not q)) (bf_or q)) h1b
    have hkeep : ((keepK keys = true ∧ keepA x = true) ∧ keepS p = true) ∧ keepS q = true := by simpa [and_assoc] using h1
    have hkl := keepK_len hkeep.1.1.1
    have hkm := keepK_mem hkeep.1.1.1
    have hxl : x.length ≤ 1000 := by have := keepA_len (hkeep.1.1.2); omega
    have hxm : ∀ a ∈ x, a.1.length ≤ 1000000 ∧ a.2.length ≤ 1000000 ∧ ∀ z ∈ a.2, z.length ≤ 300000 := fun a ha => by have h9 := keepA_mem (hkeep.1.1.2) a ha; exact ⟨by omega, by omega, fun z hz => Nat.le_trans (h9.2.2 z hz) (by omega)⟩
    have hx1 : ∀ a ∈ x, a.1.length ≤ 1000000 := fun a ha => (hxm a ha).1
    have hpm : ∀ z ∈ p, z.length ≤ 300000 := fun z hz => Nat.le_trans (keepS_mem hkeep.1.2 z hz) (by omega)
    have hqm : ∀ z ∈ q, z.length ≤ 300000 := fun z hz => Nat.le_trans (keepS_mem hkeep.2 z hz) (by omega)
    refine jc_skip ?_
    refine jq_then ?_
    refine jc_seq ?_
    refine jc_region ?_
    refine jo_pure rfl (pr_move rfl) ?_
    refine jo_callp cal_34 (c_variantkey_Format keys keysv (by first | omega | exact hl | exact hm | exact hlx | exact hmx | exact hlp | exact hlq | exact hkm | exact hx1 | exact hpm | exact hqm | decide) (by first | omega | exact hl | exact hm | exact hlx | exact hmx | exact hlp | exact hlq | exact hkm | exact hx1 | exact hpm | exact hqm | decide)) ⟨rfl, trivial⟩ rfl (⟨⟨rfl, .head _⟩, trivial⟩) (fun _ => ?_)
    refine jo_pure rfl (pr_move rfl) ?_
    refine jo_callp cal_37 (c_ref10_FormatKeys keys keysv (by first | omega | exact hl | exact hm | exact hlx | exact hmx | exact hlp | exact hlq | exact hkm | exact hx1 | exact hpm | exact hqm | decide) (by first | omega | exact hl | exact hm | exact hlx | exact hmx | exact hlp | exact hlq | exact hkm | exact hx1 | exact hpm | exact hqm | decide)) ⟨rfl, trivial⟩ rfl (⟨⟨rfl, .head _⟩, trivial⟩) (fun _ => ?_)
    refine jo_pure rfl (pr_seql rfl rfl) ?_
    refine jo_pure rfl (pr_move rfl) ?_
    refine jo_gpure (j := 5) (want := true) rfl rfl rfl rfl (fun hg => pr_move rfl) ?_
    refine jo_gpure (j := 5) (want := true) rfl rfl rfl rfl (fun hg => pr_move rfl) ?_
    refine jo_gpure (j := 5) (want := true) rfl rfl rfl rfl (fun hg => pr_move rfl) ?_
    refine jo_gcall (j := 5) (want := true) rfl rfl rfl cal_38 (fun hg => c_variantkey_Same x xv p pv q qv (by first | omega | exact hl | exact hm | exact hlx | exact hmx | exact hlp | exact hlq | exact hkm | exact hx1 | exact hpm | exact hqm | decide) (by first | omega | exact hl | exact hm | exact hlx | exact hmx | exact hlp | exact hlq | exact hkm | exact hx1 | exact hpm | exact hqm | decide) (by first | omega | exact hl | exact hm | exact hlx | exact hmx | exact hlp | exact hlq | exact hkm | exact hx1 | exact hpm | exact hqm | decide) (by first | omega | exact hl | exact hm | exact hlx | exact hmx | exact hlp | exact hlq | exact hkm | exact hx1 | exact hpm | exact hqm | decide)) (fun hg => ⟨evg rfl hg, evg rfl hg, evg rfl hg, trivial⟩) rfl (fun _ => ⟨⟨rfl, .tail _ (.head _)⟩, ⟨⟨rfl, .tail _ (.tail _ (.head _))⟩, ⟨⟨rfl, .tail _ (.tail _ (.tail _ (.head _)))⟩, trivial⟩⟩⟩) ?_
    refine jo_gpure (j := 5) (want := true) rfl rfl rfl rfl (fun hg => pr_move rfl) ?_
    refine jo_gpure (j := 5) (want := true) rfl rfl rfl rfl (fun hg => pr_move rfl) ?_
    refine jo_gpure (j := 5) (want := true) rfl rfl rfl rfl (fun hg => pr_move rfl) ?_
    refine jo_gcall (j := 5) (want := true) rfl rfl rfl cal_39 (fun hg => c_ref10_SameKey x xv p pv q qv (by first | omega | exact hl | exact hm | exact hlx | exact hmx | exact hlp | exact hlq | exact hkm | exact hx1 | exact hpm | exact hqm | decide) (by first | omega | exact hl | exact hm | exact hlx | exact hmx | exact hlp | exact hlq | exact hkm | exact hx1 | exact hpm | exact hqm | decide) (by first | omega | exact hl | exact hm | exact hlx | exact hmx | exact hlp | exact hlq | exact hkm | exact hx1 | exact hpm | exact hqm | decide) (by first | omega | exact hl | exact hm | exact hlx | exact hmx | exact hlp | exact hlq | exact hkm | exact hx1 | exact hpm | exact hqm | decide)) (fun hg => ⟨evg rfl hg, evg rfl hg, evg rfl hg, trivial⟩) rfl (fun _ => ⟨⟨rfl, .tail _ (.head _)⟩, ⟨⟨rfl, .tail _ (.tail _ (.head _))⟩, ⟨⟨rfl, .tail _ (.tail _ (.tail _ (.head _)))⟩, trivial⟩⟩⟩) ?_
    refine jo_gpure (j := 5) (want := true) rfl rfl rfl rfl (fun hg => pr_eqlb (evg rfl hg) (evg rfl hg) Tryz.underlying4) ?_
    refine jo_pure rfl (pr_pick_and rfl rfl rfl) ?_
    refine jo_pure rfl (pr_move rfl) ?_
    refine jo_gcall (j := 16) (want := true) rfl rfl rfl cal_17 (fun hg => c_law16_awake) (fun hg => trivial) rfl (fun _ => trivial) ?_
    refine jo_pure rfl (pr_pick_and rfl rfl rfl) ?_
    refine jo_pure rfl (pr_assign rfl) ?_
    refine jo_nil ?_
    refine jq_then ?_
    refine jc_ret ?_
    refine j_drop ?_
    refine j_drop ?_
    refine j_drop ?_
    refine j_drop ?_
    exact jq_ret1 rfl () rfl (show (.bool (true) : Value) = (.bool (((decide ((keysT keys : List UInt8) = keysT keys) && (sameK x p q == sameK x p q)) && true))) from by simp) (fun _ h => h)

theorem c_law16_VariantkeyBack (x : List ((List UInt8) × (List (List UInt8)))) (xv : Value) (picks : List (List (Int))) (picksv : Value) (hlx : x.length ≤ 9223372036854775807) (hmx : ∀ a ∈ x, a.2.length ≤ 9223372036854775807) (hlp : picks.length ≤ 9223372036854775807) (hmp : ∀ p ∈ picks, p.length ≤ 9223372036854775807) : Con Tryz.prog 10 #[xv, picksv] [.imm (.list (.pair .str (.list .str))) (xv) (x), .imm (.list (.list (.int .i64))) (picksv) (picks)] (fun _ : Unit => .bool (true)) (fun _ => []) := by
  refine con_of_J (args := [xv, picksv]) (n := 135) Tryz.func10 rfl (Nat.le_of_ble_eq_true rfl) rfl (fun w0 I0 m0 => ?_)
  show J _ [(0, xv), (1, picksv)] [.imm (.list (.pair .str (.list .str))) (xv) (x), .imm (.list (.list (.int .i64))) (picksv) (picks)] _
  refine jc_seq ?_
  refine jc_region ?_
  refine jo_pure rfl (pr_assign rfl) ?_
  refine jo_nil ?_
  refine jq_then ?_
  refine jc_seq ?_
  refine jc_seq ?_
  by_cases hz : keepA x = true
  · skip
    have hxl : x.length ≤ 1000 := by have := keepA_len (hz); omega
    have hxm : ∀ a ∈ x, a.1.length ≤ 1000000 ∧ a.2.length ≤ 1000000 ∧ ∀ z ∈ a.2, z.length ≤ 300000 := fun a ha => by have h9 := keepA_mem (hz) a ha; exact ⟨by omega, by omega, fun z hz => Nat.le_trans (h9.2.2 z hz) (by omega)⟩
    have hxv : ∀ a ∈ x, a.1.length ≤ 1000000 ∧ (∀ z ∈ a.2, z.length ≤ 300000) ∧ a.2.length ≤ 9223372036854775807 := fun a ha => by have := hxm a ha; exact ⟨by omega, this.2.2, by omega⟩
    refine jc_region ?_
    refine jo_pure rfl (pr_move rfl) ?_
    refine jo_callp cal_13 (c_keep_Axes x xv (by first | omega | exact hlx | exact hmx | exact hxv | exact hxm | (rw [hkeyE]; simp only [pickK, List.length_map, List.length_range]; omega) | exact hwm _ (getD_mem (dd := []) h5) | exact hkm | exact hfm | (rw [hbk]; exact hdl) | (rw [hbk]; exact hdm) | (simp only [List.length_cons, List.length_nil]; omega) | decide) (by first | omega | exact hlx | exact hmx | exact hxv | exact hxm | (rw [hkeyE]; simp only [pickK, List.length_map, List.length_range]; omega) | exact hwm _ (getD_mem (dd := []) h5) | exact hkm | exact hfm | (rw [hbk]; exact hdl) | (rw [hbk]; exact hdm) | (simp only [List.length_cons, List.length_nil]; omega) | decide)) ⟨rfl, trivial⟩ rfl (⟨⟨rfl, .head _⟩, trivial⟩) (fun _ => ?_)
    refine jo_pure rfl (pr_not rfl) ?_
    refine jo_pure rfl (pr_move rfl) ?_
    refine jo_run (j := 3) (want := false) rfl rfl (by rw [hz]; rfl) ?_
    refine jo_pure rfl (pr_move rfl) ?_
    refine jo_run (j := 3) (want := false) rfl rfl (by rw [hz]; rfl) ?_
    refine jo_callp cal_19 (c_ref10_Valid x xv (by first | omega | exact hlx | exact hmx | exact hxv | exact hxm | (rw [hkeyE]; simp only [pickK, List.length_map, List.length_range]; omega) | exact hwm _ (getD_mem (dd := []) h5) | exact hkm | exact hfm | (rw [hbk]; exact hdl) | (rw [hbk]; exact hdm) | (simp only [List.length_cons, List.length_nil]; omega) | decide) (by first | omega | exact hlx | exact hmx | exact hxv | exact hxm | (rw [hkeyE]; simp only [pickK, List.length_map, List.length_range]; omega) | exact hwm _ (getD_mem (dd := []) h5) | exact hkm | exact hfm | (rw [hbk]; exact hdl) | (rw [hbk]; exact hdm) | (simp only [List.length_cons, List.length_nil]; omega) | decide)) ⟨rfl, trivial⟩ rfl (⟨⟨rfl, .head _⟩, trivial⟩) (fun _ => ?_)
    refine jo_run (j := 3) (want := false) rfl rfl (by rw [hz]; rfl) ?_
    refine jo_pure rfl (pr_not rfl) ?_
    refine jo_pure rfl (pr_pick_f rfl (by rw [hz]; rfl) rfl) ?_
    refine jo_pure rfl (pr_move rfl) ?_
    refine jo_gpure (j := 8) (want := false) rfl rfl rfl rfl (fun hg => pr_move rfl) ?_
    refine jo_gpure (j := 8) (want := false) rfl rfl rfl rfl (fun hg => pr_len_imm (evg rfl hg) (.tail _ (.head _)) Tryz.underlying44) ?_
    refine jo_gpure (j := 8) (want := false) rfl rfl rfl rfl (fun hg => pr_lssN (m := picks.length) (n := 1) (evg rfl hg) rfl) ?_
    refine jo_pure rfl (pr_pick_or rfl rfl rfl) ?_
    refine jo_pure rfl (pr_move rfl) ?_
    refine jo_gpure (j := 13) (want := false) rfl rfl rfl rfl (fun hg => pr_move rfl) ?_
    refine jo_gpure (j := 13) (want := false) rfl rfl rfl rfl (fun hg => pr_len_imm (evg rfl hg) (.tail _ (.head _)) Tryz.underlying44) ?_
    refine jo_gpure (j := 13) (want := false) rfl rfl rfl rfl (fun hg => pr_gtrN (m := picks.length) (n := 20) (evg rfl hg) rfl) ?_
    refine jo_pure rfl (pr_pick_or rfl rfl rfl) ?_
    refine jo_nil ?_
    refine jq_then ?_
    refine jc_cond rfl (fun h1b => ?_) (fun h1b => ?_)
    · have h1 := (fun q => Or.imp (fun q => Or.imp (fun q => id (bt_not q)) of_decide_eq_true (bt_or q)) of_decide_eq_true (bt_or q)) h1b
      refine jc_seq ?_
      refine jc_region ?_
      refine jo_pure rfl (pr_assign rfl) ?_
      refine jo_nil ?_
      refine jq_then ?_
      refine jc_ret ?_
      refine jq_then_ret ?_
      refine j_drop ?_
      refine j_drop ?_
      exact jq_ret1 rfl () rfl (show (.bool (true) : Value) = (.bool (true)) from rfl) (fun _ h => h)
    · have h1 := (fun q => And.imp (fun q => And.imp (fun q => id (bf_not q)) of_decide_eq_false (bf_or q)) of_decide_eq_false (bf_or q)) h1b
      have hall : (validL x = true ∧ 1 ≤ picks.length) ∧ picks.length ≤ 20 := ⟨⟨by have h9 := h1.1.1; simpa using h9, by have := h1.1.2; omega⟩, by have := h1.2; omega⟩
      have hv := hall.1.1
      have hv4 := validL_len hv
      have hx100 : ∀ a ∈ x, ∀ z ∈ a.2, z.length ≤ 100 := fun a ha => (keepA_mem hz a ha).2.2
      refine jc_skip ?_
      refine jq_then ?_
      refine jc_seq ?_
      refine jc_region ?_
      refine jo_pure rfl (pr_assign rfl) ?_
      refine jo_pure rfl (pr_assign rfl) ?_
      refine jo_nil ?_
      refine jq_then ?_
      refine jc_seq ?_
      refine jc_seq ?_
      refine jc_region ?_
      refine jo_pure rfl (pr_assign rfl) ?_
      refine jo_nil ?_
      refine jq_then ?_
      refine jc_block ?_
      refine j_nil_row 45 (.list .str) ?_
      refine j_nil_row 45 (.list .str) ?_
      refine jc_loop5 (fun (i : Nat) (kw : Value) (keys : List (List (List UInt8))) (ww : Value) (want : List (List (List UInt8))) => [(0, xv), (1, picksv), (5, kw), (6, ww), (7, .int .i64 ((i : Nat) : Int))]) (fun (i : Nat) (kw : Value) (keys : List (List (List UInt8))) (ww : Value) (want : List (List (List UInt8))) => [.row (ww) 45 (.list .str) (want), .row (kw) 45 (.list .str) (keys), .imm (.list (.pair .str (.list .str))) (xv) (x), .imm (.list (.list (.int .i64))) (picksv) (picks)]) (fun (i : Nat) (kw : Value) (keys : List (List (List UInt8))) (ww : Value) (want : List (List (List UInt8))) => i ≤ picks.length ∧ keys = (picks.take i).map (pickK x) ∧ want = dedK keys) (fun (i : Nat) (kw : Value) (keys : List (List (List UInt8))) (ww : Value) (want : List (List (List UInt8))) => picks.length - i) 0 (.slice none 0 0) [] (.slice none 0 0) [] (⟨Nat.zero_le _, rfl, rfl⟩) (⟨rfl, rfl, rfl, rfl, rfl, trivial⟩) (fun _ h => h) (fun i kw keys ww want hinv => ?_)
      have hkl0 : keys.length ≤ 20 := by rw [hinv.2.1, List.length_map, List.length_take]; omega
      have hwl : want.length ≤ 20 := by rw [hinv.2.2]; have := ded_len keys; omega
      have hwm : ∀ k ∈ want, k.length ≤ 9223372036854775807 := fun k hk => by rw [hinv.2.2] at hk; refine ded_mem (P := fun k => k.length ≤ 9223372036854775807) keys (fun z hz => ?_) k hk; rw [hinv.2.1] at hz; obtain ⟨p, _, rfl⟩ := List.mem_map.1 hz; simp only [pickK, List.length_map, List.length_range]; omega
      refine jc_seq ?_
      refine jc_seq ?_
      refine jc_region ?_
      refine jo_pure rfl (pr_move rfl) ?_
      refine jo_pure rfl (pr_move rfl) ?_
      refine jo_pure rfl (pr_len_imm rfl (.tail _ (.tail _ (.tail _ (.head _)))) Tryz.underlying44) ?_
      refine jo_pure rfl (pr_lssN (m := i) (n := picks.length) rfl rfl) ?_
      refine jo_nil ?_
      refine jq_then ?_
      refine jc_cond rfl (fun h2b => ?_) (fun h2b => ?_)
      · have h2 := of_decide_eq_true h2b
        refine jc_skip ?_
        refine jq_then ?_
        refine jc_seq ?_
        refine jc_block ?_
        refine jc_seq ?_
        refine jc_region ?_
        refine jo_pure rfl (pr_assign rfl) ?_
        refine jo_nil ?_
        refine jq_then ?_
        refine jc_seq ?_
        refine jc_seq ?_
        refine jc_region ?_
        refine jo_pure rfl (pr_assign rfl) ?_
        refine jo_nil ?_
        refine jq_then ?_
        refine jc_block ?_
        refine j_nil_row 9 .str ?_
        refine jc_loop3 (fun (k : Nat) (kv : Value) (key : List (List UInt8)) => [(0, xv), (1, picksv), (5, kw), (6, ww), (7, .int .i64 ((i : Nat) : Int)), (8, kv), (9, .int .i64 ((k : Nat) : Int))]) (fun (k : Nat) (kv : Value) (key : List (List UInt8)) => [.row (kv) 9 .str (key), .row (ww) 45 (.list .str) (want), .row (kw) 45 (.list .str) (keys), .imm (.list (.pair .str (.list .str))) (xv) (x), .imm (.list (.list (.int .i64))) (picksv) (picks)]) (fun (k : Nat) (kv : Value) (key : List (List UInt8)) => k ≤ x.length ∧ key = (List.range k).map (pickV x (picks.getD i []))) (fun (k : Nat) (kv : Value) (key : List (List UInt8)) => x.length - k) 0 (.slice none 0 0) [] (⟨Nat.zero_le _, rfl⟩) (⟨rfl, rfl, rfl, rfl, rfl, rfl, rfl, trivial⟩) (fun _ h => h) (fun k kv key hinK => ?_)
        have hkyl : key.length ≤ 4 := by rw [hinK.2, List.length_map, List.length_range]; omega
        refine jc_seq ?_
        refine jc_seq ?_
        refine jc_region ?_
        refine jo_pure rfl (pr_move rfl) ?_
        refine jo_pure rfl (pr_move rfl) ?_
        refine jo_pure rfl (pr_len_imm rfl (.tail _ (.tail _ (.tail _ (.head _)))) Tryz.underlying23) ?_
        refine jo_pure rfl (pr_lssN (m := k) (n := x.length) rfl rfl) ?_
        refine jo_nil ?_
        refine jq_then ?_
        refine jc_cond rfl (fun h3b => ?_) (fun h3b => ?_)
        · have h3 := of_decide_eq_true h3b
          have hxk := valid_values hv h3
          refine jc_skip ?_
          refine jq_then ?_
          refine jc_seq ?_
          refine jc_block ?_
          refine jc_seq ?_
          refine jc_region ?_
          refine jo_pure rfl (pr_assign rfl) ?_
          refine jo_nil ?_
          refine jq_then ?_
          refine jc_join1 (fun (atzz : Int) => [(0, xv), (1, picksv), (5, kw), (6, ww), (7, .int .i64 ((i : Nat) : Int)), (8, kv), (9, .int .i64 ((k : Nat) : Int)), (10, .int .i64 (atzz))]) (fun (atzz : Int) => [.row (kv) 9 .str (key), .row (ww) 45 (.list .str) (want), .row (kw) 45 (.list .str) (keys), .imm (.list (.pair .str (.list .str))) (xv) (x), .imm (.list (.list (.int .i64))) (picksv) (picks)]) (fun (atzz : Int) => atzz = ((pickAt x (picks.getD i []) k : Nat) : Int)) ?_ (fun atzz hj => ?_)
          · skip
            refine jc_seq ?_
            refine jc_region ?_
            refine jo_pure rfl (pr_move rfl) ?_
            refine jo_pure rfl (pr_move rfl) ?_
            refine jo_pure rfl (pr_move rfl) ?_
            refine j_open_elem (t := (.list (.int .i64))) (i := i) [] (.tail _ (.tail _ (.tail _ (.tail _ (.head _))))) (by first | omega | exact pick_lt hxk.1) (fun e1 => ?_)
            show J _ _ (.imm (.list (.int .i64)) (e1) ((picks.getD i [])) :: .fact (fun w_ I_ => ElemAt w_ I_ (picksv) (i) 1 [e1]) :: _) _
            refine jo_pure rfl (pr_idx_imm (i := i) rfl (.tail _ (.tail _ (.tail _ (.tail _ (.tail _ (.tail _ (.head _))))))) rfl Tryz.underlying44 ty_46 (by first | omega | exact pick_lt hxk.1)) ?_
            refine jo_pure rfl (pr_load_at (e1) rfl (.tail _ (.head _)) ty_46 (by decide) rfl) ?_
            refine jo_pure rfl (pr_len_imm rfl (.head _) Tryz.underlying46) ?_
            refine jo_pure rfl (pr_lssN (m := k) (n := (picks.getD i []).length) rfl rfl) ?_
            refine jo_nil ?_
            refine jq_then ?_
            refine jc_cond rfl (fun h4b => ?_) (fun h4b => ?_)
            · have h4 := of_decide_eq_true h4b
              refine j_open_elem (t := (.pair .str (.list .str))) (i := k) ([], []) (.tail _ (.tail _ (.tail _ (.tail _ (.tail _ (.head _)))))) (by first | omega | exact pick_lt hxk.1) (fun ⟨_, e2⟩ => ?_)
              show J _ _ (.imm (.list .str) (e2) (((x.getD k ([], []))).2) :: .fact (fun w_ I_ => ElemAt w_ I_ (xv) (k) 2 [str (((x.getD k ([], []))).1), e2]) :: _) _
              refine jc_draws mixed (by kernel_rfl) ?_
              refine jd_pure rfl (pr_move rfl) ?_
              refine jd_pure rfl (pr_move rfl) ?_
              refine jd_pure rfl (pr_idx_imm (i := i) rfl (.tail _ (.tail _ (.tail _ (.tail _ (.tail _ (.tail _ (.tail _ (.tail _ (.head _))))))))) rfl Tryz.underlying44 ty_46 (by first | omega | exact pick_lt hxk.1)) ?_
              refine jd_pure rfl (pr_load_at (e1) rfl (.tail _ (.tail _ (.tail _ (.head _)))) ty_46 (by decide) rfl) ?_
              refine jd_pure rfl (pr_move rfl) ?_
              refine jd_pure rfl (pr_idx_imm (i := k) rfl (.tail _ (.tail _ (.head _))) rfl Tryz.underlying46 ty_3 (by first | omega | exact pick_lt hxk.1)) ?_
              refine jd_pure rfl (pr_load_elem_imm (i := k) (.int .i64 ((picks.getD i []).getD k 0)) rfl (.tail _ (.tail _ (.head _))) ty_3 rfl rfl (by first | omega | exact pick_lt hxk.1) rfl) ?_
              refine jd_pure rfl (pr_move rfl) ?_
              refine jd_pure rfl (pr_move rfl) ?_
              refine jd_pure rfl (pr_idx_imm (i := k) rfl (.tail _ (.tail _ (.tail _ (.tail _ (.tail _ (.tail _ (.tail _ (.head _)))))))) rfl Tryz.underlying23 ty_48 (by first | omega | exact pick_lt hxk.1)) ?_
              refine jd_pure rfl (pr_fieldAddr_imm (i := k) rfl (.tail _ (.tail _ (.tail _ (.tail _ (.tail _ (.tail _ (.tail _ (.head _)))))))) Tryz.underlying48 rfl ty_45 rfl rfl (by first | omega | exact pick_lt hxk.1)) ?_
              refine jd_pure rfl (pr_load_off_at (o := 1) (e2) rfl (.tail _ (.head _)) ty_45 (by decide) rfl rfl) ?_
              refine jd_pure rfl (pr_len_imm rfl (.head _) Tryz.underlying45) ?_
              refine jd_pure rfl (pr_remT (m := ((picks.getD i []).getD k 0)) (n := (((((x.getD k ([], []))).2).length : Nat) : Int)) rfl rfl (by have := hxk.1; omega)) ?_
              refine jd_pure rfl (pr_move rfl) ?_
              refine jd_pure rfl (pr_move rfl) ?_
              refine jd_pure rfl (pr_idx_imm (i := k) rfl (.tail _ (.tail _ (.tail _ (.tail _ (.tail _ (.tail _ (.tail _ (.head _)))))))) rfl Tryz.underlying23 ty_48 (by first | omega | exact pick_lt hxk.1)) ?_
              refine jd_pure rfl (pr_fieldAddr_imm (i := k) rfl (.tail _ (.tail _ (.tail _ (.tail _ (.tail _ (.tail _ (.tail _ (.head _)))))))) Tryz.underlying48 rfl ty_45 rfl rfl (by first | omega | exact pick_lt hxk.1)) ?_
              refine jd_pure rfl (pr_load_off_at (o := 1) (e2) rfl (.tail _ (.head _)) ty_45 (by decide) rfl rfl) ?_
              refine jd_pure rfl (pr_len_imm rfl (.head _) Tryz.underlying45) ?_
              refine jd_pure rfl (pr_add (m := (Int.tmod ((picks.getD i []).getD k 0) (((((x.getD k ([], []))).2).length : Nat) : Int))) (n := (((((x.getD k ([], []))).2).length : Nat) : Int)) rfl rfl (by first | omega | (have := tmod_lo ((picks.getD i []).getD k 0) hxk.1; omega))) ?_
              refine jd_pure rfl (pr_move rfl) ?_
              refine jd_pure rfl (pr_move rfl) ?_
              refine jd_pure rfl (pr_idx_imm (i := k) rfl (.tail _ (.tail _ (.tail _ (.tail _ (.tail _ (.tail _ (.tail _ (.head _)))))))) rfl Tryz.underlying23 ty_48 (by first | omega | exact pick_lt hxk.1)) ?_
              refine jd_pure rfl (pr_fieldAddr_imm (i := k) rfl (.tail _ (.tail _ (.tail _ (.tail _ (.tail _ (.tail _ (.tail _ (.head _)))))))) Tryz.underlying48 rfl ty_45 rfl rfl (by first | omega | exact pick_lt hxk.1)) ?_
              refine jd_pure rfl (pr_load_off_at (o := 1) (e2) rfl (.tail _ (.head _)) ty_45 (by decide) rfl rfl) ?_
              refine jd_pure rfl (pr_len_imm rfl (.head _) Tryz.underlying45) ?_
              refine jd_pure rfl (pr_remT (m := ((Int.tmod ((picks.getD i []).getD k 0) (((((x.getD k ([], []))).2).length : Nat) : Int)) + (((((x.getD k ([], []))).2).length : Nat) : Int))) (n := (((((x.getD k ([], []))).2).length : Nat) : Int)) rfl rfl (by have := hxk.1; omega)) ?_
              refine jd_pure rfl (pr_assign rfl) ?_
              refine jd_nil ?_
              refine j_drop ?_
              refine j_drop ?_
              refine j_drop ?_
              refine j_drop ?_
              refine j_pull4 ?_
              refine j_pull4 ?_
              refine j_pull4 ?_
              refine j_pull4 ?_
              refine j_pull4 ?_
              refine jq_join (Int.tmod ((Int.tmod ((picks.getD i []).getD k 0) (((((x.getD k ([], []))).2).length : Nat) : Int)) + (((((x.getD k ([], []))).2).length : Nat) : Int)) (((((x.getD k ([], []))).2).length : Nat) : Int)) (by (try dsimp only); exact (pick_int h4 hxk.1)) ⟨rfl, rfl, rfl, rfl, rfl, rfl, rfl, rfl, trivial⟩ (fun _ h => h)
            · have h4 := of_decide_eq_false h4b
              refine jc_skip ?_
              refine j_drop ?_
              refine j_drop ?_
              refine j_pull4 ?_
              refine j_pull4 ?_
              refine j_pull4 ?_
              refine j_pull4 ?_
              refine j_pull4 ?_
              refine jq_join ((0 : Nat) : Int) (by (try dsimp only); exact (by rw [pick_none h4])) ⟨rfl, rfl, rfl, rfl, rfl, rfl, rfl, rfl, trivial⟩ (fun _ h => h)
          · skip
            by_cases ht : True
            · skip
              rw [show (atzz : Int) = ((pickAt x (picks.getD i []) k : Nat) : Int) from hj]
              refine jc_region ?_
              refine jo_pure rfl (pr_move rfl) ?_
              refine jo_pure rfl (pr_move rfl) ?_
              refine jo_pure rfl (pr_move rfl) ?_
              refine j_open_elem (t := (.pair .str (.list .str))) (i := k) ([], []) (.tail _ (.tail _ (.tail _ (.head _)))) (by first | omega | exact pick_lt hxk.1) (fun ⟨_, e3⟩ => ?_)
              show J _ _ (.imm (.list .str) (e3) (((x.getD k ([], []))).2) :: .fact (fun w_ I_ => ElemAt w_ I_ (xv) (k) 2 [str (((x.getD k ([], []))).1), e3]) :: _) _
              refine jo_pure rfl (pr_idx_imm (i := k) rfl (.tail _ (.tail _ (.tail _ (.tail _ (.tail _ (.head _)))))) rfl Tryz.underlying23 ty_48 (by first | omega | exact pick_lt hxk.1)) ?_
              refine jo_pure rfl (pr_fieldAddr_imm (i := k) rfl (.tail _ (.tail _ (.tail _ (.tail _ (.tail _ (.head _)))))) Tryz.underlying48 rfl ty_45 rfl rfl (by first | omega | exact pick_lt hxk.1)) ?_
              refine jo_pure rfl (pr_load_off_at (o := 1) (e3) rfl (.tail _ (.head _)) ty_45 (by decide) rfl rfl) ?_
              refine jo_pure rfl (pr_move rfl) ?_
              refine jo_pure rfl (pr_idx_imm (i := pickAt x (picks.getD i []) k) rfl (.head _) rfl Tryz.underlying45 ty_9 (by first | omega | exact pick_lt hxk.1)) ?_
              refine jo_pure rfl (pr_load_elem_imm (i := pickAt x (picks.getD i []) k) (str ((((x.getD k ([], []))).2).getD (pickAt x (picks.getD i []) k) [])) rfl (.head _) ty_9 rfl rfl (by first | omega | exact pick_lt hxk.1) rfl) ?_
              refine jo_buildSlice (t := .str) [(((x.getD k ([], []))).2).getD (pickAt x (picks.getD i []) k) []] [str ((((x.getD k ([], []))).2).getD (pickAt x (picks.getD i []) k) [])] (fun a hf => by simp only [List.zipIdx_cons, List.zipIdx_nil, List.map_toArray, List.map_cons, List.map_nil, hf.ev (show ev _ (.tmp 88) = some (str ((((x.getD k ([], []))).2).getD (pickAt x (picks.getD i []) k) [])) from rfl)] <;> rfl) rfl Tryz.underlying45 ty_9 rfl rfl rfl rfl rfl (fun g1 => ?_)
              refine j_pull3 ?_
              refine jo_append rfl rfl Tryz.underlying45 ty_9 rfl (by simp only [List.length_append, List.length_cons, List.length_nil, maxLen]; omega) (by simp only [List.length_append, List.length_cons, List.length_nil]; omega) rfl (fun v1 => ?_)
              refine jo_pure rfl (pr_assign rfl) ?_
              refine jo_nil ?_
              refine jq_in_normal ?_
              refine jq_then ?_
              refine jc_region ?_
              refine jo_pure rfl (pr_move rfl) ?_
              refine jo_pure rfl (pr_addN (m := k) (n := 1) rfl rfl (by first | omega | (have := tmod_lo ((picks.getD i []).getD k 0) hxk.1; omega))) ?_
              refine jo_pure rfl (pr_assign rfl) ?_
              refine jo_nil ?_
              refine j_pull1 ?_
              refine j_drop ?_
              refine j_pull1 ?_
              refine j_drop ?_
              refine j_pull4 ?_
              refine j_pull4 ?_
              refine j_pull4 ?_
              refine j_pull4 ?_
              refine j_pull4 ?_
              refine jq_round' ((k + 1), v1, (key ++ [(((x.getD k ([], []))).2).getD (pickAt x (picks.getD i []) k) []])) (by (try dsimp only); exact (⟨by omega, by rw [range_map, ← hinK.2]; rfl⟩)) (by (try dsimp only); exact (by omega)) ⟨rfl, rfl, rfl, rfl, rfl, rfl, rfl, trivial⟩ (fun _ h => h)
            · skip
              exact absurd trivial ht
        · have h3 := of_decide_eq_false h3b
          have hkeyE : key = pickK x (picks.getD i []) := by rw [hinK.2, show k = x.length by omega]; rfl
          refine jc_exit ?_
          refine jq_then_exit ?_
          refine jq_then_exit ?_
          refine jq_in_hit ?_
          refine jq_then ?_
          refine jc_seq ?_
          refine j_pub_row ?_
          refine jc_region ?_
          refine jo_pure rfl (pr_assign rfl) ?_
          refine jo_nil ?_
          refine jq_then ?_
          refine jc_seq ?_
          refine jc_seq ?_
          refine jc_region ?_
          refine jo_pure rfl (pr_assign rfl) ?_
          refine jo_nil ?_
          refine jq_then ?_
          refine jc_block ?_
          refine jc_loop2 (fun (n : Nat) (kn : Bool) => [(0, xv), (1, picksv), (5, kw), (6, ww), (7, .int .i64 ((i : Nat) : Int)), (8, kv), (11, .bool (kn)), (12, .int .i64 ((n : Nat) : Int))]) (fun (n : Nat) (kn : Bool) => [.imm (.list .str) (kv) (key), .row (ww) 45 (.list .str) (want), .row (kw) 45 (.list .str) (keys), .imm (.list (.pair .str (.list .str))) (xv) (x), .imm (.list (.list (.int .i64))) (picksv) (picks)]) (fun (n : Nat) (kn : Bool) => n ≤ want.length ∧ kn = (want.take n).any (fun z => decide (z = key))) (fun (n : Nat) (kn : Bool) => want.length - n) 0 false (⟨Nat.zero_le _, rfl⟩) (⟨rfl, rfl, rfl, rfl, rfl, rfl, rfl, rfl, trivial⟩) (fun _ h => h) (fun n kn hinN => ?_)
          refine jc_seq ?_
          refine jc_seq ?_
          refine jc_region ?_
          refine jo_pure rfl (pr_move rfl) ?_
          refine jo_pure rfl (pr_move rfl) ?_
          refine jo_pure rfl (pr_len_row rfl (.tail _ (.head _)) Tryz.underlying26) ?_
          refine jo_pure rfl (pr_lssN (m := n) (n := want.length) rfl rfl) ?_
          refine jo_nil ?_
          refine jq_then ?_
          refine jc_cond rfl (fun h5b => ?_) (fun h5b => ?_)
          · have h5 := of_decide_eq_true h5b
            refine jc_skip ?_
            refine jq_then ?_
            refine jc_seq ?_
            refine jc_block ?_
            by_cases hkn : kn = true
            · skip
              refine jc_region ?_
              refine jo_pure rfl (pr_move rfl) ?_
              refine jo_pure rfl (pr_move rfl) ?_
              refine jo_skipu (j := 1) (want := false) rfl rfl (hkn) rfl ?_
              refine jo_skipu (j := 1) (want := false) rfl rfl (hkn) rfl ?_
              refine jo_skipu (j := 1) (want := false) rfl rfl (hkn) rfl ?_
              refine jo_skipu (j := 1) (want := false) rfl rfl (hkn) rfl ?_
              refine jo_skipu (j := 1) (want := false) rfl rfl (hkn) rfl ?_
              refine jo_skipu (j := 1) (want := false) rfl rfl (hkn) rfl ?_
              refine jo_pure rfl (pr_pick_t rfl (hkn) rfl) ?_
              refine jo_pure rfl (pr_assign rfl) ?_
              refine jo_nil ?_
              refine jq_in_normal ?_
              refine jq_then ?_
              refine jc_region ?_
              refine jo_pure rfl (pr_move rfl) ?_
              refine jo_pure rfl (pr_addN (m := n) (n := 1) rfl rfl (by first | omega | (have := tmod_lo ((picks.getD i []).getD k 0) hxk.1; omega))) ?_
              refine jo_pure rfl (pr_assign rfl) ?_
              refine jo_nil ?_
              refine j_pull4 ?_
              refine j_pull4 ?_
              refine j_pull4 ?_
              refine j_pull4 ?_
              refine j_pull4 ?_
              refine jq_round' ((n + 1), true) (by (try dsimp only); exact (⟨by omega, by rw [any_next (dd := []) h5, ← hinN.2, hkn]; rfl⟩)) (by (try dsimp only); exact (by omega)) ⟨rfl, rfl, rfl, rfl, rfl, rfl, rfl, rfl, trivial⟩ (fun _ h => h)
            · skip
              refine jc_region ?_
              refine jo_pure rfl (pr_move rfl) ?_
              refine jo_pure rfl (pr_move rfl) ?_
              refine jo_run (j := 1) (want := false) rfl rfl (by simpa using hkn) ?_
              refine jo_pure rfl (pr_move rfl) ?_
              refine jo_run (j := 1) (want := false) rfl rfl (by simpa using hkn) ?_
              refine jo_pure rfl (pr_move rfl) ?_
              refine jo_run (j := 1) (want := false) rfl rfl (by simpa using hkn) ?_
              refine jo_pure rfl (pr_idx_row (i := n) rfl (.tail _ (.head _)) rfl Tryz.underlying26 ty_45 (by first | omega | exact pick_lt hxk.1)) ?_
              refine jo_run (j := 1) (want := false) rfl rfl (by simpa using hkn) ?_
              refine jo_loadRowL (i := n) rfl ty_45 (.tail _ (.head _)) (by first | omega | exact pick_lt hxk.1) rfl (fun r1 => ?_)
              refine jo_run (j := 1) (want := false) rfl rfl (by simpa using hkn) ?_
              refine jo_pure rfl (pr_move rfl) ?_
              refine jo_run (j := 1) (want := false) rfl rfl (by simpa using hkn) ?_
              refine jo_callp cal_33 (c_keep_SameStrings (want.getD n []) r1 key kv (by first | omega | exact hlx | exact hmx | exact hxv | exact hxm | (rw [hkeyE]; simp only [pickK, List.length_map, List.length_range]; omega) | exact hwm _ (getD_mem (dd := []) h5) | exact hkm | exact hfm | (rw [hbk]; exact hdl) | (rw [hbk]; exact hdm) | (simp only [List.length_cons, List.length_nil]; omega) | decide)) ⟨rfl, rfl, trivial⟩ rfl (⟨⟨rfl, .head _⟩, ⟨⟨rfl, .tail _ (.head _)⟩, trivial⟩⟩) (fun _ => ?_)
              refine jo_pure rfl (pr_pick_f rfl (by simpa using hkn) rfl) ?_
              refine jo_pure rfl (pr_assign rfl) ?_
              refine jo_nil ?_
              refine jq_in_normal ?_
              refine jq_then ?_
              refine jc_region ?_
              refine jo_pure rfl (pr_move rfl) ?_
              refine jo_pure rfl (pr_addN (m := n) (n := 1) rfl rfl (by first | omega | (have := tmod_lo ((picks.getD i []).getD k 0) hxk.1; omega))) ?_
              refine jo_pure rfl (pr_assign rfl) ?_
              refine jo_nil ?_
              refine j_drop ?_
              refine j_pull4 ?_
              refine j_pull4 ?_
              refine j_pull4 ?_
              refine j_pull4 ?_
              refine j_pull4 ?_
              refine jq_round' ((n + 1), (decide ((want.getD n []) = key))) (by (try dsimp only); exact (⟨by omega, by rw [any_next (dd := []) h5, ← hinN.2, show kn = false by simpa using hkn]; rfl⟩)) (by (try dsimp only); exact (by omega)) ⟨rfl, rfl, rfl, rfl, rfl, rfl, rfl, rfl, trivial⟩ (fun _ h => h)
          · have h5 := of_decide_eq_false h5b
            refine jc_exit ?_
            refine jq_then_exit ?_
            refine jq_then_exit ?_
            refine jq_in_hit ?_
            refine jq_then ?_
            refine jc_seq ?_
            refine jc_seq ?_
            refine jc_region ?_
            refine jo_pure rfl (pr_move rfl) ?_
            refine jo_pure rfl (pr_not rfl) ?_
            refine jo_nil ?_
            refine jq_then ?_
            refine jc_cond rfl (fun h6b => ?_) (fun h6b => ?_)
            · have h6 := (fun q => id (bt_not q)) h6b
              refine jc_region ?_
              refine jo_pure rfl (pr_move rfl) ?_
              refine jo_pure rfl (pr_move rfl) ?_
              refine jo_buildSliceLV (t := (.list .str)) [key] [kv] [[kv]] (fun a hf => by simp only [List.zipIdx_cons, List.zipIdx_nil, List.map_toArray, List.map_cons, List.map_nil, hf.ev (show ev _ (.tmp 109) = some (kv) from rfl)] <;> rfl) (fun w I m hs => by obtain ⟨_, _, _, e0⟩ := imm_slice (.head _) hs; rw [e0]; rfl) ⟨⟨kv, rfl, .head _⟩, trivial⟩ Tryz.underlying26 ty_45 rfl rfl rfl rfl (fun g2 => ?_)
              refine j_pull2 ?_
              refine jo_append rfl rfl Tryz.underlying26 ty_45 rfl (by simp only [List.length_append, List.length_cons, List.length_nil, maxLen]; omega) (by simp only [List.length_append, List.length_cons, List.length_nil]; omega) rfl (fun v2 => ?_)
              refine jo_pure rfl (pr_assign rfl) ?_
              refine jo_nil ?_
              refine jq_then ?_
              refine jc_region ?_
              refine jo_pure rfl (pr_move rfl) ?_
              refine jo_pure rfl (pr_move rfl) ?_
              refine jo_buildSliceLV (t := (.list .str)) [key] [kv] [[kv]] (fun a hf => by simp only [List.zipIdx_cons, List.zipIdx_nil, List.map_toArray, List.map_cons, List.map_nil, hf.ev (show ev _ (.tmp 113) = some (kv) from rfl)] <;> rfl) (fun w I m hs => by obtain ⟨_, _, _, e0⟩ := imm_slice (.tail _ (.head _)) hs; rw [e0]; rfl) ⟨⟨kv, rfl, .tail _ (.head _)⟩, trivial⟩ Tryz.underlying26 ty_45 rfl rfl rfl rfl (fun g3 => ?_)
              refine j_pull3 ?_
              refine jo_append rfl rfl Tryz.underlying26 ty_45 rfl (by simp only [List.length_append, List.length_cons, List.length_nil, maxLen]; omega) (by simp only [List.length_append, List.length_cons, List.length_nil]; omega) rfl (fun v3 => ?_)
              refine jo_pure rfl (pr_assign rfl) ?_
              refine jo_nil ?_
              refine jq_in_normal ?_
              refine jq_then ?_
              refine jc_region ?_
              refine jo_pure rfl (pr_move rfl) ?_
              refine jo_pure rfl (pr_addN (m := i) (n := 1) rfl rfl (by first | omega | (have := tmod_lo ((picks.getD i []).getD k 0) hxk.1; omega))) ?_
              refine jo_pure rfl (pr_assign rfl) ?_
              refine jo_nil ?_
              refine j_pull2 ?_
              refine j_drop ?_
              refine j_pull3 ?_
              refine j_pull3 ?_
              refine j_pull2 ?_
              refine j_pull3 ?_
              refine jq_round' ((i + 1), v3, (keys ++ [key]), v2, (want ++ [key])) (by (try dsimp only); exact (⟨by omega, by rw [picks_step h2, ← hinv.2.1, hkeyE], by rw [ded_snoc, ← hinv.2.2, add_new (by have h9 := h6; rw [hinN.2, take_over (by omega)] at h9; simpa using h9)]⟩)) (by (try dsimp only); exact (by omega)) ⟨rfl, rfl, rfl, rfl, rfl, trivial⟩ (fun _ h => h)
            · have h6 := (fun q => id (bf_not q)) h6b
              refine jc_skip ?_
              refine jq_then ?_
              refine jc_region ?_
              refine jo_pure rfl (pr_move rfl) ?_
              refine jo_pure rfl (pr_move rfl) ?_
              refine jo_buildSliceLV (t := (.list .str)) [key] [kv] [[kv]] (fun a hf => by simp only [List.zipIdx_cons, List.zipIdx_nil, List.map_toArray, List.map_cons, List.map_nil, hf.ev (show ev _ (.tmp 113) = some (kv) from rfl)] <;> rfl) (fun w I m hs => by obtain ⟨_, _, _, e0⟩ := imm_slice (.head _) hs; rw [e0]; rfl) ⟨⟨kv, rfl, .head _⟩, trivial⟩ Tryz.underlying26 ty_45 rfl rfl rfl rfl (fun g4 => ?_)
              refine j_pull3 ?_
              refine jo_append rfl rfl Tryz.underlying26 ty_45 rfl (by simp only [List.length_append, List.length_cons, List.length_nil, maxLen]; omega) (by simp only [List.length_append, List.length_cons, List.length_nil]; omega) rfl (fun v4 => ?_)
              refine jo_pure rfl (pr_assign rfl) ?_
              refine jo_nil ?_
              refine jq_in_normal ?_
              refine jq_then ?_
              refine jc_region ?_
              refine jo_pure rfl (pr_move rfl) ?_
              refine jo_pure rfl (pr_addN (m := i) (n := 1) rfl rfl (by first | omega | (have := tmod_lo ((picks.getD i []).getD k 0) hxk.1; omega))) ?_
              refine jo_pure rfl (pr_assign rfl) ?_
              refine jo_nil ?_
              refine j_pull1 ?_
              refine j_drop ?_
              refine j_pull3 ?_
              refine j_pull3 ?_
              refine j_pull2 ?_
              refine j_pull3 ?_
              refine jq_round' ((i + 1), v4, (keys ++ [key]), ww, want) (by (try dsimp only); exact (⟨by omega, by rw [picks_step h2, ← hinv.2.1, hkeyE], by rw [ded_snoc, ← hinv.2.2, add_old (by have h9 := h6; rw [hinN.2, take_over (by omega)] at h9; simpa using h9)]⟩)) (by (try dsimp only); exact (by omega)) ⟨rfl, rfl, rfl, rfl, rfl, trivial⟩ (fun _ h => h)
      · have h2 := of_decide_eq_false h2b
        have hkeys : keys = picks.map (pickK x) := by rw [hinv.2.1, take_over (by omega)]
        have hkl : keys.length ≤ 20 := by rw [hkeys, List.length_map]; omega
        have hkm : ∀ k ∈ keys, k.length ≤ 20 ∧ ∀ z ∈ k, z.length ≤ 100 := fun k hk => by rw [hkeys] at hk; obtain ⟨p, _, rfl⟩ := List.mem_map.1 hk; exact keep_key hv hx100 p
        have hbk := keys_back (keys := keys) (nm := [118, 97, 114, 105, 97, 110, 116, 45, 107, 101, 121]) (by decide) hv (fun k hk => by rw [hkeys] at hk; obtain ⟨p, _, rfl⟩ := List.mem_map.1 hk; exact pick_of hv p) (by rw [hkeys, List.length_map]; omega) (by omega)
        have hTl := keysT_length (by omega) hkm
        have hfm : ∀ z ∈ [(([118, 97, 114, 105, 97, 110, 116, 45, 107, 101, 121] : List UInt8), keysT keys)], z.1.length ≤ 300000 ∧ z.2.length ≤ 300000 := fun z hz => by obtain rfl := List.mem_singleton.1 hz; exact ⟨by simp, hTl⟩
        have hdl : (dedK keys).length ≤ 9223372036854775807 := by have := ded_len keys; omega
        have hdm : ∀ k ∈ dedK keys, k.length ≤ 9223372036854775807 := ded_mem (P := fun k => k.length ≤ 9223372036854775807) keys (fun k hk => by have := (hkm k hk).1; omega)
        refine jc_exit ?_
        refine jq_then_exit ?_
        refine jq_then_exit ?_
        refine jq_in_hit ?_
        refine jq_then ?_
        refine jc_seq ?_
        refine jc_region ?_
        refine jo_pure rfl (pr_move rfl) ?_
        refine j_pull1 ?_
        refine j_pub_row ?_
        refine jo_callp cal_34 (c_variantkey_Format keys kw (by first | omega | exact hlx | exact hmx | exact hxv | exact hxm | (rw [hkeyE]; simp only [pickK, List.length_map, List.length_range]; omega) | exact hwm _ (getD_mem (dd := []) h5) | exact hkm | exact hfm | (rw [hbk]; exact hdl) | (rw [hbk]; exact hdm) | (simp only [List.length_cons, List.length_nil]; omega) | decide) (by first | omega | exact hlx | exact hmx | exact hxv | exact hxm | (rw [hkeyE]; simp only [pickK, List.length_map, List.length_range]; omega) | exact hwm _ (getD_mem (dd := []) h5) | exact hkm | exact hfm | (rw [hbk]; exact hdl) | (rw [hbk]; exact hdm) | (simp only [List.length_cons, List.length_nil]; omega) | decide)) ⟨rfl, trivial⟩ rfl (⟨⟨rfl, .head _⟩, trivial⟩) (fun _ => ?_)
        refine jo_pure rfl (pr_build [(0, str ([118, 97, 114, 105, 97, 110, 116, 45, 107, 101, 121])), (1, str (keysT keys))] [str ([118, 97, 114, 105, 97, 110, 116, 45, 107, 101, 121]), str (keysT keys)] (fun a hf => by simp only [List.map_toArray, List.map_cons, List.map_nil, hf.ev (show ev _ (.tmp 118) = some (str (keysT keys)) from rfl)] <;> rfl) (by kernel_rfl)) ?_
        refine jo_buildSlice (t := (.pair .str .str)) [([118, 97, 114, 105, 97, 110, 116, 45, 107, 101, 121], keysT keys)] [.agg #[str ([118, 97, 114, 105, 97, 110, 116, 45, 107, 101, 121]), str (keysT keys)]] (fun a hf => by simp only [List.zipIdx_cons, List.zipIdx_nil, List.map_toArray, List.map_cons, List.map_nil, hf.ev (show ev _ (.tmp 119) = some (.agg #[str ([118, 97, 114, 105, 97, 110, 116, 45, 107, 101, 121]), str (keysT keys)]) from rfl)] <;> rfl) rfl Tryz.underlying22 ty_38 rfl rfl rfl rfl rfl (fun g5 => ?_)
        refine jo_pure rfl (pr_move rfl) ?_
        refine j_pub_rowg ?_
        refine jo_callp cal_14 (c_variantkey_Parse [([118, 97, 114, 105, 97, 110, 116, 45, 107, 101, 121], keysT keys)] (.slice (some ⟨g5, 0, none⟩) ([([118, 97, 114, 105, 97, 110, 116, 45, 107, 101, 121], keysT keys)]).length (([([118, 97, 114, 105, 97, 110, 116, 45, 107, 101, 121], keysT keys)]).length)) x xv (by first | omega | exact hlx | exact hmx | exact hxv | exact hxm | (rw [hkeyE]; simp only [pickK, List.length_map, List.length_range]; omega) | exact hwm _ (getD_mem (dd := []) h5) | exact hkm | exact hfm | (rw [hbk]; exact hdl) | (rw [hbk]; exact hdm) | (simp only [List.length_cons, List.length_nil]; omega) | decide) (by first | omega | exact hlx | exact hmx | exact hxv | exact hxm | (rw [hkeyE]; simp only [pickK, List.length_map, List.length_range]; omega) | exact hwm _ (getD_mem (dd := []) h5) | exact hkm | exact hfm | (rw [hbk]; exact hdl) | (rw [hbk]; exact hdm) | (simp only [List.length_cons, List.length_nil]; omega) | decide) (by first | omega | exact hlx | exact hmx | exact hxv | exact hxm | (rw [hkeyE]; simp only [pickK, List.length_map, List.length_range]; omega) | exact hwm _ (getD_mem (dd := []) h5) | exact hkm | exact hfm | (rw [hbk]; exact hdl) | (rw [hbk]; exact hdm) | (simp only [List.length_cons, List.length_nil]; omega) | decide) (by first | omega | exact hlx | exact hmx | exact hxv | exact hxm | (rw [hkeyE]; simp only [pickK, List.length_map, List.length_range]; omega) | exact hwm _ (getD_mem (dd := []) h5) | exact hkm | exact hfm | (rw [hbk]; exact hdl) | (rw [hbk]; exact hdm) | (simp only [List.length_cons, List.length_nil]; omega) | decide)) ⟨rfl, rfl, trivial⟩ rfl (⟨⟨rfl, .head _⟩, ⟨⟨rfl, .tail _ (.tail _ (.tail _ (.head _)))⟩, trivial⟩⟩) (fun r2 => ?_)
        show J _ _ [.imm (.list (.list .str)) (r2) ((parseK [([118, 97, 114, 105, 97, 110, 116, 45, 107, 101, 121], keysT keys)] x).1), .imm (.list (.pair .str .str)) (.slice (some ⟨g5, 0, none⟩) ([([118, 97, 114, 105, 97, 110, 116, 45, 107, 101, 121], keysT keys)]).length (([([118, 97, 114, 105, 97, 110, 116, 45, 107, 101, 121], keysT keys)]).length)) ([([118, 97, 114, 105, 97, 110, 116, 45, 107, 101, 121], keysT keys)]), .imm (.list (.list .str)) (kw) (keys), .row (ww) 45 (.list .str) (want), .imm (.list (.pair .str (.list .str))) (xv) (x), .imm (.list (.list (.int .i64))) (picksv) (picks)] _
        refine jo_pure rfl (pr_move rfl) ?_
        refine jo_pure rfl (pr_extract rfl rfl) ?_
        refine jo_pure rfl (pr_extract rfl rfl) ?_
        refine jo_pure rfl (pr_assign rfl) ?_
        refine jo_pure rfl (pr_assign rfl) ?_
        refine jo_nil ?_
        refine jq_then ?_
        refine jc_seq ?_
        refine jc_region ?_
        refine jo_pure rfl (pr_move rfl) ?_
        refine jo_pure rfl (pr_eql (n := 0) rfl rfl) ?_
        refine jo_pure rfl (pr_move rfl) ?_
        refine jo_gpure (j := 2) (want := true) rfl rfl rfl rfl (fun hg => pr_move rfl) ?_
        refine jo_gpure (j := 2) (want := true) rfl rfl rfl rfl (fun hg => pr_move rfl) ?_
        refine j_pull3 ?_
        refine j_pub_row ?_
        refine jo_gcall (j := 2) (want := true) rfl rfl rfl cal_16 (fun hg => c_ref26_SameKeys ((parseK [([118, 97, 114, 105, 97, 110, 116, 45, 107, 101, 121], keysT keys)] x).1) r2 want ww (by first | omega | exact hlx | exact hmx | exact hxv | exact hxm | (rw [hkeyE]; simp only [pickK, List.length_map, List.length_range]; omega) | exact hwm _ (getD_mem (dd := []) h5) | exact hkm | exact hfm | (rw [hbk]; exact hdl) | (rw [hbk]; exact hdm) | (simp only [List.length_cons, List.length_nil]; omega) | decide) (by first | omega | exact hlx | exact hmx | exact hxv | exact hxm | (rw [hkeyE]; simp only [pickK, List.length_map, List.length_range]; omega) | exact hwm _ (getD_mem (dd := []) h5) | exact hkm | exact hfm | (rw [hbk]; exact hdl) | (rw [hbk]; exact hdm) | (simp only [List.length_cons, List.length_nil]; omega) | decide)) (fun hg => ⟨evg rfl hg, evg rfl hg, trivial⟩) rfl (fun _ => ⟨⟨rfl, .tail _ (.head _)⟩, ⟨⟨rfl, .head _⟩, trivial⟩⟩) ?_
        refine jo_pure rfl (pr_pick_and rfl rfl rfl) ?_
        refine jo_pure rfl (pr_move rfl) ?_
        refine jo_gcall (j := 7) (want := true) rfl rfl rfl cal_17 (fun hg => c_law16_awake) (fun hg => trivial) rfl (fun _ => trivial) ?_
        refine jo_pure rfl (pr_pick_and rfl rfl rfl) ?_
        refine jo_pure rfl (pr_assign rfl) ?_
        refine jo_nil ?_
        refine jq_then ?_
        refine jc_ret ?_
        refine j_drop ?_
        refine j_drop ?_
        refine j_drop ?_
        refine j_drop ?_
        refine j_drop ?_
        refine j_drop ?_
        exact jq_ret1 rfl () rfl (show (.bool (true) : Value) = (.bool (((decide (((parseK [([118, 97, 114, 105, 97, 110, 116, 45, 107, 101, 121], keysT keys)] x).2 : Int) = 0) && decide (((parseK [([118, 97, 114, 105, 97, 110, 116, 45, 107, 101, 121], keysT keys)] x).1) = want)) && true))) from congrArg Value.bool (by rw [hbk, hinv.2.2]; simp)) (fun _ h => h)
  · skip
    refine jc_region ?_
    refine jo_pure rfl (pr_move rfl) ?_
    refine jo_callp cal_13 (c_keep_Axes x xv (by first | omega | exact hlx | exact hmx | exact hxv | exact hxm | (rw [hkeyE]; simp only [pickK, List.length_map, List.length_range]; omega) | exact hwm _ (getD_mem (dd := []) h5) | exact hkm | exact hfm | (rw [hbk]; exact hdl) | (rw [hbk]; exact hdm) | (simp only [List.length_cons, List.length_nil]; omega) | decide) (by first | omega | exact hlx | exact hmx | exact hxv | exact hxm | (rw [hkeyE]; simp only [pickK, List.length_map, List.length_range]; omega) | exact hwm _ (getD_mem (dd := []) h5) | exact hkm | exact hfm | (rw [hbk]; exact hdl) | (rw [hbk]; exact hdm) | (simp only [List.length_cons, List.length_nil]; omega) | decide)) ⟨rfl, trivial⟩ rfl (⟨⟨rfl, .head _⟩, trivial⟩) (fun _ => ?_)
    refine jo_pure rfl (pr_not rfl) ?_
    refine jo_pure rfl (pr_move rfl) ?_
    refine jo_skipu (j := 3) (want := false) rfl rfl (by simpa using hz) rfl ?_
    refine jo_skipu (j := 3) (want := false) rfl rfl (by simpa using hz) rfl ?_
    refine jo_skipu (j := 3) (want := false) rfl rfl (by simpa using hz) rfl ?_
    refine jo_pure rfl (pr_pick_t rfl (by simpa using hz) rfl) ?_
    refine jo_pure rfl (pr_move rfl) ?_
    refine jo_skipu (j := 8) (want := false) rfl rfl (rfl) rfl ?_
    refine jo_skipu (j := 8) (want := false) rfl rfl (rfl) rfl ?_
    refine jo_skipu (j := 8) (want := false) rfl rfl (rfl) rfl ?_
    refine jo_pure rfl (pr_pick_t rfl (rfl) rfl) ?_
    refine jo_pure rfl (pr_move rfl) ?_
    refine jo_skipu (j := 13) (want := false) rfl rfl (rfl) rfl ?_
    refine jo_skipu (j := 13) (want := false) rfl rfl (rfl) rfl ?_
    refine jo_skipu (j := 13) (want := false) rfl rfl (rfl) rfl ?_
    refine jo_pure rfl (pr_pick_t rfl (rfl) rfl) ?_
    refine jo_nil ?_
    refine jq_then ?_
    refine jc_true rfl (rfl) ?_
    refine jc_seq ?_
    refine jc_region ?_
    refine jo_pure rfl (pr_assign rfl) ?_
    refine jo_nil ?_
    refine jq_then ?_
    refine jc_ret ?_
    refine jq_then_ret ?_
    refine j_drop ?_
    refine j_drop ?_
    exact jq_ret1 rfl () rfl (show (.bool (true) : Value) = (.bool (true)) from rfl) (fun _ h => h)
end Go.Proofs.YtgahnjchpomcfaaGreatDoor
