/-
 Contracts of functions of the program: each returns what a plain function says, for every input within the bounds named. Conditions: the bounds.
-/
import Derived.Test.YtjbcomdljmfgjaaGreatDoorRows
import Derived.Test.YtjbcomdljmfgjaaGreatDoorSK5
namespace Go.Proofs.YtjbcomdljmfgjaaGreatDoor
open Go Go.Sep
set_option linter.unusedSimpArgs false
set_option linter.unusedVariables false

open Go.Plain

theorem cal_15 : Cal Tryz.prog 15 := cal_of Tryz.func15 (by kernel_rfl) rfl
theorem cal_16 : Cal Tryz.prog 16 := cal_of Tryz.func16 (by kernel_rfl) rfl
theorem cal_22 : Cal Tryz.prog 22 := cal_of Tryz.func22 (by kernel_rfl) rfl
theorem cal_31 : Cal Tryz.prog 31 := cal_of Tryz.func31 (by kernel_rfl) rfl
theorem cal_33 : Cal Tryz.prog 33 := cal_of Tryz.func33 (by kernel_rfl) rfl
theorem cal_36 : Cal Tryz.prog 36 := cal_of Tryz.func36 (by kernel_rfl) rfl
theorem cal_37 : Cal Tryz.prog 37 := cal_of Tryz.func37 (by kernel_rfl) rfl
theorem cal_39 : Cal Tryz.prog 39 := cal_of Tryz.func39 (by kernel_rfl) rfl
theorem cal_40 : Cal Tryz.prog 40 := cal_of Tryz.func40 (by kernel_rfl) rfl
theorem cal_75 : Cal Tryz.prog 75 := cal_of Tryz.func75 (by kernel_rfl) rfl

theorem c_law17_axes   : Con Tryz.prog 75 #[] [] (fun r1 : Value => r1) (fun r1 => [.imm (.list (.pair .str (.list .str))) r1 ([([97, 99, 99, 101, 112, 116, 45, 108, 97, 110, 103, 117, 97, 103, 101], [[101, 110], [102, 114]]), ([97, 99, 99, 101, 112, 116, 45, 101, 110, 99, 111, 100, 105, 110, 103], [[103, 122, 105, 112], [105, 100, 101, 110, 116, 105, 116, 121]])])]) := by
 refine con_of_J (args := []) (n := 6) Tryz.func75 rfl (Nat.le_of_ble_eq_true rfl) rfl (fun w0 I0 m0 => ?_)
 show J _ [] [] _
 refine jc_seq (jc_region (jo_pure rfl (pr_assign rfl) (jo_nil (jq_then (jc_seq ?_)))))
 refine jc_region ?_
 refine jo_buildSlice (t := .str) [[101, 110], [102, 114]] [str ([101, 110]), str ([102, 114])] (fun a hf => by simp only [List.zipIdx_cons, List.zipIdx_nil, List.map_toArray, List.map_cons, List.map_nil] <;> rfl) rfl Tryz.underlying29 ty_9 rfl rfl rfl rfl rfl (fun g1 => ?_)
 refine jo_pure rfl (pr_build [(0, str ([97, 99, 99, 101, 112, 116, 45, 108, 97, 110, 103, 117, 97, 103, 101])), (1, .slice (some ⟨g1, 0, none⟩) (([[101, 110], [102, 114]]).length) (([[101, 110], [102, 114]]).length))] [str ([97, 99, 99, 101, 112, 116, 45, 108, 97, 110, 103, 117, 97, 103, 101]), .slice (some ⟨g1, 0, none⟩) (([[101, 110], [102, 114]]).length) (([[101, 110], [102, 114]]).length)] (fun a hf => by simp only [List.map_toArray, List.map_cons, List.map_nil, hf.ev (show ev _ (.tmp 1) = some (.slice (some ⟨g1, 0, none⟩) (([[101, 110], [102, 114]]).length) (([[101, 110], [102, 114]]).length)) from rfl)] <;> rfl) (by kernel_rfl)) ?_
 refine jo_buildSlice (t := .str) [[103, 122, 105, 112], [105, 100, 101, 110, 116, 105, 116, 121]] [str ([103, 122, 105, 112]), str ([105, 100, 101, 110, 116, 105, 116, 121])] (fun a hf => by simp only [List.zipIdx_cons, List.zipIdx_nil, List.map_toArray, List.map_cons, List.map_nil] <;> rfl) rfl Tryz.underlying29 ty_9 rfl rfl rfl rfl rfl (fun g2 => ?_)
 refine jo_pure rfl (pr_build [(0, str ([97, 99, 99, 101, 112, 116, 45, 101, 110, 99, 111, 100, 105, 110, 103])), (1, .slice (some ⟨g2, 0, none⟩) (([[103, 122, 105, 112], [105, 100, 101, 110, 116, 105, 116, 121]]).length) (([[103, 122, 105, 112], [105, 100, 101, 110, 116, 105, 116, 121]]).length))] [str ([97, 99, 99, 101, 112, 116, 45, 101, 110, 99, 111, 100, 105, 110, 103]), .slice (some ⟨g2, 0, none⟩) (([[103, 122, 105, 112], [105, 100, 101, 110, 116, 105, 116, 121]]).length) (([[103, 122, 105, 112], [105, 100, 101, 110, 116, 105, 116, 121]]).length)] (fun a hf => by simp only [List.map_toArray, List.map_cons, List.map_nil, hf.ev (show ev _ (.tmp 3) = some (.slice (some ⟨g2, 0, none⟩) (([[103, 122, 105, 112], [105, 100, 101, 110, 116, 105, 116, 121]]).length) (([[103, 122, 105, 112], [105, 100, 101, 110, 116, 105, 116, 121]]).length)) from rfl)] <;> rfl) (by kernel_rfl)) ?_
 refine j_pull1 (j_pub_rowg (j_pull1 (j_pub_rowg ?_)))
 refine jo_buildSliceL (t := (.pair .str (.list .str))) [([97, 99, 99, 101, 112, 116, 45, 108, 97, 110, 103, 117, 97, 103, 101], [[101, 110], [102, 114]]), ([97, 99, 99, 101, 112, 116, 45, 101, 110, 99, 111, 100, 105, 110, 103], [[103, 122, 105, 112], [105, 100, 101, 110, 116, 105, 116, 121]])] [.agg #[str ([97, 99, 99, 101, 112, 116, 45, 108, 97, 110, 103, 117, 97, 103, 101]), .slice (some ⟨g1, 0, none⟩) ([[101, 110], [102, 114]]).length (([[101, 110], [102, 114]]).length)], .agg #[str ([97, 99, 99, 101, 112, 116, 45, 101, 110, 99, 111, 100, 105, 110, 103]), .slice (some ⟨g2, 0, none⟩) ([[103, 122, 105, 112], [105, 100, 101, 110, 116, 105, 116, 121]]).length (([[103, 122, 105, 112], [105, 100, 101, 110, 116, 105, 116, 121]]).length)]] [[str ([97, 99, 99, 101, 112, 116, 45, 108, 97, 110, 103, 117, 97, 103, 101]), .slice (some ⟨g1, 0, none⟩) ([[101, 110], [102, 114]]).length (([[101, 110], [102, 114]]).length)], [str ([97, 99, 99, 101, 112, 116, 45, 101, 110, 99, 111, 100, 105, 110, 103]), .slice (some ⟨g2, 0, none⟩) ([[103, 122, 105, 112], [105, 100, 101, 110, 116, 105, 116, 121]]).length (([[103, 122, 105, 112], [105, 100, 101, 110, 116, 105, 116, 121]]).length)]] (fun a hf => by simp only [List.zipIdx_cons, List.zipIdx_nil, List.map_toArray, List.map_cons, List.map_nil, hf.ev (show ev _ (.tmp 2) = some (.agg #[str ([97, 99, 99, 101, 112, 116, 45, 108, 97, 110, 103, 117, 97, 103, 101]), .slice (some ⟨g1, 0, none⟩) ([[101, 110], [102, 114]]).length (([[101, 110], [102, 114]]).length)]) from rfl), hf.ev (show ev _ (.tmp 4) = some (.agg #[str ([97, 99, 99, 101, 112, 116, 45, 101, 110, 99, 111, 100, 105, 110, 103]), .slice (some ⟨g2, 0, none⟩) ([[103, 122, 105, 112], [105, 100, 101, 110, 116, 105, 116, 121]]).length (([[103, 122, 105, 112], [105, 100, 101, 110, 116, 105, 116, 121]]).length)]) from rfl)] <;> rfl) rfl ⟨⟨[str ([97, 99, 99, 101, 112, 116, 45, 108, 97, 110, 103, 117, 97, 103, 101])], [.slice (some ⟨g1, 0, none⟩) ([[101, 110], [102, 114]]).length (([[101, 110], [102, 114]]).length)], rfl, rfl, ⟨(.slice (some ⟨g1, 0, none⟩) ([[101, 110], [102, 114]]).length (([[101, 110], [102, 114]]).length)), rfl, .tail _ (.head _)⟩⟩, ⟨⟨[str ([97, 99, 99, 101, 112, 116, 45, 101, 110, 99, 111, 100, 105, 110, 103])], [.slice (some ⟨g2, 0, none⟩) ([[103, 122, 105, 112], [105, 100, 101, 110, 116, 105, 116, 121]]).length (([[103, 122, 105, 112], [105, 100, 101, 110, 116, 105, 116, 121]]).length)], rfl, rfl, ⟨(.slice (some ⟨g2, 0, none⟩) ([[103, 122, 105, 112], [105, 100, 101, 110, 116, 105, 116, 121]]).length (([[103, 122, 105, 112], [105, 100, 101, 110, 116, 105, 116, 121]]).length)), rfl, .head _⟩⟩, trivial⟩⟩ Tryz.underlying22 ty_32 rfl rfl rfl rfl (fun g3 => ?_)
 refine jo_pure rfl (pr_assign rfl) (jo_nil (jq_then (jc_ret (j_row_of_rowg ?_))))
 refine j_pub_row (j_pull1 (j_drop (j_pull1 (j_drop ?_))))
 exact jq_ret1 rfl (.slice (some ⟨g3, 0, none⟩) ([([97, 99, 99, 101, 112, 116, 45, 108, 97, 110, 103, 117, 97, 103, 101], [[101, 110], [102, 114]]), ([97, 99, 99, 101, 112, 116, 45, 101, 110, 99, 111, 100, 105, 110, 103], [[103, 122, 105, 112], [105, 100, 101, 110, 116, 105, 116, 121]])]).length (([([97, 99, 99, 101, 112, 116, 45, 108, 97, 110, 103, 117, 97, 103, 101], [[101, 110], [102, 114]]), ([97, 99, 99, 101, 112, 116, 45, 101, 110, 99, 111, 100, 105, 110, 103], [[103, 122, 105, 112], [105, 100, 101, 110, 116, 105, 116, 121]])]).length)) rfl (show (.slice (some ⟨g3, 0, none⟩) ([([97, 99, 99, 101, 112, 116, 45, 108, 97, 110, 103, 117, 97, 103, 101], [[101, 110], [102, 114]]), ([97, 99, 99, 101, 112, 116, 45, 101, 110, 99, 111, 100, 105, 110, 103], [[103, 122, 105, 112], [105, 100, 101, 110, 116, 105, 116, 121]])]).length (([([97, 99, 99, 101, 112, 116, 45, 108, 97, 110, 103, 117, 97, 103, 101], [[101, 110], [102, 114]]), ([97, 99, 99, 101, 112, 116, 45, 101, 110, 99, 111, 100, 105, 110, 103], [[103, 122, 105, 112], [105, 100, 101, 110, 116, 105, 116, 121]])]).length) : Value) = (.slice (some ⟨g3, 0, none⟩) ([([97, 99, 99, 101, 112, 116, 45, 108, 97, 110, 103, 117, 97, 103, 101], [[101, 110], [102, 114]]), ([97, 99, 99, 101, 112, 116, 45, 101, 110, 99, 111, 100, 105, 110, 103], [[103, 122, 105, 112], [105, 100, 101, 110, 116, 105, 116, 121]])]).length (([([97, 99, 99, 101, 112, 116, 45, 108, 97, 110, 103, 117, 97, 103, 101], [[101, 110], [102, 114]]), ([97, 99, 99, 101, 112, 116, 45, 101, 110, 99, 111, 100, 105, 110, 103], [[103, 122, 105, 112], [105, 100, 101, 110, 116, 105, 116, 121]])]).length)) from rfl) (fun _ h => h)

theorem c_law17_awake   : Con Tryz.prog 36 #[] [] (fun _ : Unit => .bool (true)) (fun _ => []) := by
 refine con_of_J (args := []) (n := 13) Tryz.func36 rfl (Nat.le_of_ble_eq_true rfl) rfl (fun w0 I0 m0 => ?_)
 show J _ [] [] _
 refine jc_seq (jc_region (jo_pure rfl (pr_assign rfl) (jo_nil (jq_then (jc_seq ?_)))))
 refine jc_region ?_
 refine jo_callp cal_75 (c_law17_axes) trivial rfl (trivial) (fun r1 => ?_)
 show J _ _ [.imm (.list (.pair .str (.list .str))) (r1) ([([97, 99, 99, 101, 112, 116, 45, 108, 97, 110, 103, 117, 97, 103, 101], [[101, 110], [102, 114]]), ([97, 99, 99, 101, 112, 116, 45, 101, 110, 99, 111, 100, 105, 110, 103], [[103, 122, 105, 112], [105, 100, 101, 110, 116, 105, 116, 121]])])] _
 refine jo_pure rfl (pr_build [(0, str ([65, 99, 99, 101, 112, 116, 45, 76, 97, 110, 103, 117, 97, 103, 101])), (1, str ([102, 114, 59, 113, 61, 48, 46, 53, 44, 32, 101, 110]))] [str ([65, 99, 99, 101, 112, 116, 45, 76, 97, 110, 103, 117, 97, 103, 101]), str ([102, 114, 59, 113, 61, 48, 46, 53, 44, 32, 101, 110])] (fun a hf => by simp only [List.map_toArray, List.map_cons, List.map_nil] <;> rfl) (by kernel_rfl)) ?_
 refine jo_buildSlice (t := (.pair .str .str)) [([65, 99, 99, 101, 112, 116, 45, 76, 97, 110, 103, 117, 97, 103, 101], [102, 114, 59, 113, 61, 48, 46, 53, 44, 32, 101, 110])] [.agg #[str ([65, 99, 99, 101, 112, 116, 45, 76, 97, 110, 103, 117, 97, 103, 101]), str ([102, 114, 59, 113, 61, 48, 46, 53, 44, 32, 101, 110])]] (fun a hf => by simp only [List.zipIdx_cons, List.zipIdx_nil, List.map_toArray, List.map_cons, List.map_nil, hf.ev (show ev _ (.tmp 3) = some (.agg #[str ([65, 99, 99, 101, 112, 116, 45, 76, 97, 110, 103, 117, 97, 103, 101]), str ([102, 114, 59, 113, 61, 48, 46, 53, 44, 32, 101, 110])]) from rfl)] <;> rfl) rfl Tryz.underlying23 ty_35 rfl rfl rfl rfl rfl (fun g1 => ?_)
 refine j_pub_rowg ?_
 refine jo_callp cal_37 (c_selection_Keys [([97, 99, 99, 101, 112, 116, 45, 108, 97, 110, 103, 117, 97, 103, 101], [[101, 110], [102, 114]]), ([97, 99, 99, 101, 112, 116, 45, 101, 110, 99, 111, 100, 105, 110, 103], [[103, 122, 105, 112], [105, 100, 101, 110, 116, 105, 116, 121]])] r1 [([65, 99, 99, 101, 112, 116, 45, 76, 97, 110, 103, 117, 97, 103, 101], [102, 114, 59, 113, 61, 48, 46, 53, 44, 32, 101, 110])] (.slice (some ⟨g1, 0, none⟩) ([([65, 99, 99, 101, 112, 116, 45, 76, 97, 110, 103, 117, 97, 103, 101], [102, 114, 59, 113, 61, 48, 46, 53, 44, 32, 101, 110])]).length (([([65, 99, 99, 101, 112, 116, 45, 76, 97, 110, 103, 117, 97, 103, 101], [102, 114, 59, 113, 61, 48, 46, 53, 44, 32, 101, 110])]).length)) false (by decide +kernel) (by decide +kernel) (by decide +kernel) (by decide +kernel)) ⟨rfl, rfl, rfl, trivial⟩ rfl (⟨⟨rfl, .tail _ (.head _)⟩, ⟨⟨rfl, .head _⟩, trivial⟩⟩) (fun r2 => ?_)
 show J _ _ [.imm (.list (.list .str)) (r2) (keysF [([97, 99, 99, 101, 112, 116, 45, 108, 97, 110, 103, 117, 97, 103, 101], [[101, 110], [102, 114]]), ([97, 99, 99, 101, 112, 116, 45, 101, 110, 99, 111, 100, 105, 110, 103], [[103, 122, 105, 112], [105, 100, 101, 110, 116, 105, 116, 121]])] [([65, 99, 99, 101, 112, 116, 45, 76, 97, 110, 103, 117, 97, 103, 101], [102, 114, 59, 113, 61, 48, 46, 53, 44, 32, 101, 110])] false 64), .imm (.list (.pair .str .str)) (.slice (some ⟨g1, 0, none⟩) ([([65, 99, 99, 101, 112, 116, 45, 76, 97, 110, 103, 117, 97, 103, 101], [102, 114, 59, 113, 61, 48, 46, 53, 44, 32, 101, 110])]).length (([([65, 99, 99, 101, 112, 116, 45, 76, 97, 110, 103, 117, 97, 103, 101], [102, 114, 59, 113, 61, 48, 46, 53, 44, 32, 101, 110])]).length)) ([([65, 99, 99, 101, 112, 116, 45, 76, 97, 110, 103, 117, 97, 103, 101], [102, 114, 59, 113, 61, 48, 46, 53, 44, 32, 101, 110])]), .imm (.list (.pair .str (.list .str))) (r1) ([([97, 99, 99, 101, 112, 116, 45, 108, 97, 110, 103, 117, 97, 103, 101], [[101, 110], [102, 114]]), ([97, 99, 99, 101, 112, 116, 45, 101, 110, 99, 111, 100, 105, 110, 103], [[103, 122, 105, 112], [105, 100, 101, 110, 116, 105, 116, 121]])])] _
 refine jo_pure rfl (pr_assign rfl) (jo_nil (jq_then (jc_seq (jc_region (jo_pure rfl (pr_move rfl) ?_)))))
 refine jo_buildSlice (t := .str) [[101, 110], [103, 122, 105, 112]] [str ([101, 110]), str ([103, 122, 105, 112])] (fun a hf => by simp only [List.zipIdx_cons, List.zipIdx_nil, List.map_toArray, List.map_cons, List.map_nil] <;> rfl) rfl Tryz.underlying29 ty_9 rfl rfl rfl rfl rfl (fun g2 => ?_)
 refine jo_buildSlice (t := .str) [[101, 110], [105, 100, 101, 110, 116, 105, 116, 121]] [str ([101, 110]), str ([105, 100, 101, 110, 116, 105, 116, 121])] (fun a hf => by simp only [List.zipIdx_cons, List.zipIdx_nil, List.map_toArray, List.map_cons, List.map_nil] <;> rfl) rfl Tryz.underlying29 ty_9 rfl rfl rfl rfl rfl (fun g3 => ?_)
 refine jo_buildSlice (t := .str) [[102, 114], [103, 122, 105, 112]] [str ([102, 114]), str ([103, 122, 105, 112])] (fun a hf => by simp only [List.zipIdx_cons, List.zipIdx_nil, List.map_toArray, List.map_cons, List.map_nil] <;> rfl) rfl Tryz.underlying29 ty_9 rfl rfl rfl rfl rfl (fun g4 => ?_)
 refine jo_buildSlice (t := .str) [[102, 114], [105, 100, 101, 110, 116, 105, 116, 121]] [str ([102, 114]), str ([105, 100, 101, 110, 116, 105, 116, 121])] (fun a hf => by simp only [List.zipIdx_cons, List.zipIdx_nil, List.map_toArray, List.map_cons, List.map_nil] <;> rfl) rfl Tryz.underlying29 ty_9 rfl rfl rfl rfl rfl (fun g5 => ?_)
 refine j_pull3 (j_pub_rowg (j_pull3 (j_pub_rowg (j_pull3 (j_pub_rowg ?_)))))
 refine j_pull3 (j_pub_rowg ?_)
 refine jo_buildSliceL (t := (.list .str)) [[[101, 110], [103, 122, 105, 112]], [[101, 110], [105, 100, 101, 110, 116, 105, 116, 121]], [[102, 114], [103, 122, 105, 112]], [[102, 114], [105, 100, 101, 110, 116, 105, 116, 121]]] [.slice (some ⟨g2, 0, none⟩) ([[101, 110], [103, 122, 105, 112]]).length (([[101, 110], [103, 122, 105, 112]]).length), .slice (some ⟨g3, 0, none⟩) ([[101, 110], [105, 100, 101, 110, 116, 105, 116, 121]]).length (([[101, 110], [105, 100, 101, 110, 116, 105, 116, 121]]).length), .slice (some ⟨g4, 0, none⟩) ([[102, 114], [103, 122, 105, 112]]).length (([[102, 114], [103, 122, 105, 112]]).length), .slice (some ⟨g5, 0, none⟩) ([[102, 114], [105, 100, 101, 110, 116, 105, 116, 121]]).length (([[102, 114], [105, 100, 101, 110, 116, 105, 116, 121]]).length)] [[.slice (some ⟨g2, 0, none⟩) ([[101, 110], [103, 122, 105, 112]]).length (([[101, 110], [103, 122, 105, 112]]).length)], [.slice (some ⟨g3, 0, none⟩) ([[101, 110], [105, 100, 101, 110, 116, 105, 116, 121]]).length (([[101, 110], [105, 100, 101, 110, 116, 105, 116, 121]]).length)], [.slice (some ⟨g4, 0, none⟩) ([[102, 114], [103, 122, 105, 112]]).length (([[102, 114], [103, 122, 105, 112]]).length)], [.slice (some ⟨g5, 0, none⟩) ([[102, 114], [105, 100, 101, 110, 116, 105, 116, 121]]).length (([[102, 114], [105, 100, 101, 110, 116, 105, 116, 121]]).length)]] (fun a hf => by simp only [List.zipIdx_cons, List.zipIdx_nil, List.map_toArray, List.map_cons, List.map_nil, hf.ev (show ev _ (.tmp 10) = some (.slice (some ⟨g5, 0, none⟩) ([[102, 114], [105, 100, 101, 110, 116, 105, 116, 121]]).length (([[102, 114], [105, 100, 101, 110, 116, 105, 116, 121]]).length)) from rfl), hf.ev (show ev _ (.tmp 7) = some (.slice (some ⟨g2, 0, none⟩) ([[101, 110], [103, 122, 105, 112]]).length (([[101, 110], [103, 122, 105, 112]]).length)) from rfl), hf.ev (show ev _ (.tmp 8) = some (.slice (some ⟨g3, 0, none⟩) ([[101, 110], [105, 100, 101, 110, 116, 105, 116, 121]]).length (([[101, 110], [105, 100, 101, 110, 116, 105, 116, 121]]).length)) from rfl), hf.ev (show ev _ (.tmp 9) = some (.slice (some ⟨g4, 0, none⟩) ([[102, 114], [103, 122, 105, 112]]).length (([[102, 114], [103, 122, 105, 112]]).length)) from rfl)] <;> rfl) rfl ⟨⟨(.slice (some ⟨g2, 0, none⟩) ([[101, 110], [103, 122, 105, 112]]).length (([[101, 110], [103, 122, 105, 112]]).length)), rfl, .tail _ (.tail _ (.tail _ (.head _)))⟩, ⟨⟨(.slice (some ⟨g3, 0, none⟩) ([[101, 110], [105, 100, 101, 110, 116, 105, 116, 121]]).length (([[101, 110], [105, 100, 101, 110, 116, 105, 116, 121]]).length)), rfl, .tail _ (.tail _ (.head _))⟩, ⟨⟨(.slice (some ⟨g4, 0, none⟩) ([[102, 114], [103, 122, 105, 112]]).length (([[102, 114], [103, 122, 105, 112]]).length)), rfl, .tail _ (.head _)⟩, ⟨⟨(.slice (some ⟨g5, 0, none⟩) ([[102, 114], [105, 100, 101, 110, 116, 105, 116, 121]]).length (([[102, 114], [105, 100, 101, 110, 116, 105, 116, 121]]).length)), rfl, .head _⟩, trivial⟩⟩⟩⟩ Tryz.underlying53 ty_29 rfl rfl rfl rfl (fun g6 => ?_)
 refine j_pub_rowg ?_
 refine jo_callp cal_39 (c_ref26_SameKeys (keysF [([97, 99, 99, 101, 112, 116, 45, 108, 97, 110, 103, 117, 97, 103, 101], [[101, 110], [102, 114]]), ([97, 99, 99, 101, 112, 116, 45, 101, 110, 99, 111, 100, 105, 110, 103], [[103, 122, 105, 112], [105, 100, 101, 110, 116, 105, 116, 121]])] [([65, 99, 99, 101, 112, 116, 45, 76, 97, 110, 103, 117, 97, 103, 101], [102, 114, 59, 113, 61, 48, 46, 53, 44, 32, 101, 110])] false 64) r2 [[[101, 110], [103, 122, 105, 112]], [[101, 110], [105, 100, 101, 110, 116, 105, 116, 121]], [[102, 114], [103, 122, 105, 112]], [[102, 114], [105, 100, 101, 110, 116, 105, 116, 121]]] (.slice (some ⟨g6, 0, none⟩) ([[[101, 110], [103, 122, 105, 112]], [[101, 110], [105, 100, 101, 110, 116, 105, 116, 121]], [[102, 114], [103, 122, 105, 112]], [[102, 114], [105, 100, 101, 110, 116, 105, 116, 121]]]).length (([[[101, 110], [103, 122, 105, 112]], [[101, 110], [105, 100, 101, 110, 116, 105, 116, 121]], [[102, 114], [103, 122, 105, 112]], [[102, 114], [105, 100, 101, 110, 116, 105, 116, 121]]]).length)) (by decide +kernel) (by decide +kernel)) ⟨rfl, rfl, trivial⟩ rfl (⟨⟨rfl, .tail _ (.tail _ (.tail _ (.tail _ (.tail _ (.head _)))))⟩, ⟨⟨rfl, .head _⟩, trivial⟩⟩) (fun _ => ?_)
 refine jo_pure rfl (pr_assign rfl) (jo_nil (jq_then (jc_ret (j_drop (j_drop ?_)))))
 refine j_drop (j_drop (j_drop (j_drop (j_drop (j_drop ?_)))))
 exact jq_ret1 rfl () rfl (show (.bool (true) : Value) = (.bool (decide ((keysF [([97, 99, 99, 101, 112, 116, 45, 108, 97, 110, 103, 117, 97, 103, 101], [[101, 110], [102, 114]]), ([97, 99, 99, 101, 112, 116, 45, 101, 110, 99, 111, 100, 105, 110, 103], [[103, 122, 105, 112], [105, 100, 101, 110, 116, 105, 116, 121]])] [([65, 99, 99, 101, 112, 116, 45, 76, 97, 110, 103, 117, 97, 103, 101], [102, 114, 59, 113, 61, 48, 46, 53, 44, 32, 101, 110])] false 64) = [[[101, 110], [103, 122, 105, 112]], [[101, 110], [105, 100, 101, 110, 116, 105, 116, 121]], [[102, 114], [103, 122, 105, 112]], [[102, 114], [105, 100, 101, 110, 116, 105, 116, 121]]]))) from congrArg Value.bool (by decide +kernel)) (fun _ h => h)

theorem c_law17_SelectionProduct (x : List ((List UInt8) × (List (List UInt8)))) (xv : Value) (l : List ((List UInt8) × (List UInt8))) (lv : Value) (strict : Bool) (hlx : x.length ≤ 9223372036854775807) (hmx : ∀ a ∈ x, a.2.length ≤ 9223372036854775807) (hl : l.length ≤ 9223372036854775807) : Con Tryz.prog 8 #[xv, lv, .bool (strict)] [.imm (.list (.pair .str (.list .str))) (xv) (x), .imm (.list (.pair .str .str)) (lv) (l)] (fun _ : Unit => .bool (true)) (fun _ => []) := by
 refine con_of_J (args := [xv, lv, .bool (strict)]) (n := 73) Tryz.func8 rfl (Nat.le_of_ble_eq_true rfl) rfl (fun w0 I0 m0 => ?_)
 show J _ [(0, xv), (1, lv), (2, .bool (strict))] [.imm (.list (.pair .str (.list .str))) (xv) (x), .imm (.list (.pair .str .str)) (lv) (l)] _
 refine jc_seq (jc_region (jo_pure rfl (pr_assign rfl) (jo_nil (jq_then (jc_seq ?_)))))
 refine jc_seq ?_
 by_cases hz : keepA x = true
 ·skip
  have hxl : x.length ≤ 1000 := by have := keepA_len (hz); omega
  have hxv : ∀ a ∈ x, a.1.length ≤ 1000000 ∧ (∀ z ∈ a.2, z.length ≤ 300000) ∧ a.2.length ≤ 9223372036854775807 := fun a ha => by have h9 := keepA_mem (hz) a ha; exact ⟨by omega, fun z hz => Nat.le_trans (h9.2.2 z hz) (by omega), by omega⟩
  refine jc_region (jo_pure rfl (pr_move rfl) ?_)
  refine jo_callp cal_15 (c_keep_Axes x xv (by first | omega | exact hl | exact hlx | exact hmx | exact hlen | exact hmem | exact hmem3 | exact hxl | exact hxv | exact hA.1 | exact hA.2.1 | exact hA.2.2 | (rw [keys_mem _ (getD_mem (dd := []) h3)]; omega) | decide) (by first | omega | exact hl | exact hlx | exact hmx | exact hlen | exact hmem | exact hmem3 | exact hxl | exact hxv | exact hA.1 | exact hA.2.1 | exact hA.2.2 | (rw [keys_mem _ (getD_mem (dd := []) h3)]; omega) | decide)) ⟨rfl, trivial⟩ rfl (⟨⟨rfl, .head _⟩, trivial⟩) (fun _ => ?_)
  refine jo_pure rfl (pr_not rfl) ?_
  refine jo_pure rfl (pr_move rfl) (jo_run (j := 3) (want := false) rfl rfl (by rw [hz]; rfl) ?_)
  refine jo_pure rfl (pr_move rfl) (jo_run (j := 3) (want := false) rfl rfl (by rw [hz]; rfl) ?_)
  refine jo_callp cal_16 (c_keep_Fields l lv (by first | omega | exact hl | exact hlx | exact hmx | exact hlen | exact hmem | exact hmem3 | exact hxl | exact hxv | exact hA.1 | exact hA.2.1 | exact hA.2.2 | (rw [keys_mem _ (getD_mem (dd := []) h3)]; omega) | decide)) ⟨rfl, trivial⟩ rfl (⟨⟨rfl, .tail _ (.head _)⟩, trivial⟩) (fun _ => ?_)
  refine jo_run (j := 3) (want := false) rfl rfl (by rw [hz]; rfl) ?_
  refine jo_pure rfl (pr_not rfl) ?_
  refine jo_pure rfl (pr_pick_f rfl (by rw [hz]; rfl) rfl) ?_
  refine jo_pure rfl (pr_move rfl) (jo_gpure (j := 8) (want := false) rfl rfl rfl rfl (fun hg => pr_move rfl) ?_)
  refine jo_gcall (j := 8) (want := false) rfl rfl rfl cal_22 (fun hg => c_ref10_Valid x xv (by first | omega | exact hl | exact hlx | exact hmx | exact hlen | exact hmem | exact hmem3 | exact hxl | exact hxv | exact hA.1 | exact hA.2.1 | exact hA.2.2 | (rw [keys_mem _ (getD_mem (dd := []) h3)]; omega) | decide) (by first | omega | exact hl | exact hlx | exact hmx | exact hlen | exact hmem | exact hmem3 | exact hxl | exact hxv | exact hA.1 | exact hA.2.1 | exact hA.2.2 | (rw [keys_mem _ (getD_mem (dd := []) h3)]; omega) | decide)) (fun hg => ⟨evg rfl hg, trivial⟩) rfl (fun _ => ⟨⟨rfl, .head _⟩, trivial⟩) ?_
  refine jo_gpure (j := 8) (want := false) rfl rfl rfl rfl (fun hg => pr_not (evg rfl hg)) ?_
  refine jo_pure rfl (pr_pick_or rfl rfl rfl) ?_
  refine jo_nil (jq_then ?_)
  refine jc_cond rfl (fun h1b => ?_) (fun h1b => ?_)
  ·have h1 := (fun q => Or.imp (fun q => id (bt_not q)) (fun q => id (bt_not q)) (bt_or q)) h1b
   refine jc_seq (jc_region (jo_pure rfl (pr_assign rfl) (jo_nil (jq_then (jc_ret ?_)))))
   refine jq_then_ret (j_drop (j_drop ?_))
   exact jq_ret1 rfl () rfl (show (.bool (true) : Value) = (.bool (true)) from rfl) (fun _ h => h)
  ·have h1 := (fun q => And.imp (fun q => id (bf_not q)) (fun q => id (bf_not q)) (bf_or q)) h1b
   have hkv : keepF l = true ∧ validL x = true := by simpa using h1
   have hv := hkv.2
   have hv4 := validL_len hv
   have hlen : l.length ≤ 1000000 := by have := keepF_len (hkv.1); omega
   have hmem : ∀ z ∈ l, z.1.length ≤ 20000 ∧ z.2.length ≤ 20000 := fun z hz => by have := keepF_mem (hkv.1) z hz; omega
   have hmem3 : ∀ z ∈ l, z.1.length ≤ 300000 ∧ z.2.length ≤ 300000 := fun z hz => by have := keepF_mem (hkv.1) z hz; omega
   refine jc_skip (jq_then (jc_seq (jc_region (jo_pure rfl (pr_assign rfl) (jo_nil ?_)))))
   refine jq_then (jc_seq (jc_seq (jc_region (jo_pure rfl (pr_assign rfl) (jo_nil ?_)))))
   refine jq_then (jc_block ?_)
   refine jc_loop2 (fun (i : Nat) (n : Nat) => [(0, xv), (1, lv), (2, .bool (strict)), (7, .int .i64 ((n : Nat) : Int)), (8, .int .i64 ((i : Nat) : Int))]) (fun (i : Nat) (n : Nat) => [.imm (.list (.pair .str (.list .str))) (xv) (x), .imm (.list (.pair .str .str)) (lv) (l)]) (fun (i : Nat) (n : Nat) => i ≤ x.length ∧ n = (prodL (rankL (x.take i) l strict)).length ∧ n ≤ 65536) (fun (i : Nat) (n : Nat) => x.length - i) 0 1 (⟨Nat.zero_le _, rfl, by decide⟩) (⟨rfl, rfl, rfl, rfl, rfl, trivial⟩) (fun _ h => h) (fun i n hinv => ?_)
   refine jc_seq (jc_seq (jc_region (jo_pure rfl (pr_move rfl) (jo_pure rfl (pr_move rfl) (jo_pure rfl (pr_len_imm rfl (.head _) Tryz.underlying22) ?_)))))
   refine jo_pure rfl (pr_lssN (m := i) (n := x.length) rfl rfl) ?_
   refine jo_nil (jq_then ?_)
   refine jc_cond rfl (fun h2b => ?_) (fun h2b => ?_)
   ·have h2 := of_decide_eq_true h2b
    have hA := hxv _ (getD_mem (dd := ([], [])) h2)
    have hp9 := product_le (axes := x.take (i + 1)) (l := l) (strict := strict) (by rw [List.length_take]; omega)
    rw [rankL_step h2, prod_snoc_len, ← hinv.2.1] at hp9
    refine jc_skip (jq_then (jc_seq (jc_block (jc_region (jo_pure rfl (pr_move rfl) ?_)))))
    refine jo_pure rfl (pr_move rfl) (jo_pure rfl (pr_move rfl) ?_)
    refine j_open_elem (t := (.pair .str (.list .str))) (i := i) ([], []) (.head _) (by omega) (fun ⟨_, e1⟩ => ?_)
    show J _ _ (.imm (.list .str) (e1) (((x.getD i ([], []))).2) :: .fact (fun w_ I_ => ElemAt w_ I_ (xv) (i) 2 [str (((x.getD i ([], []))).1), e1]) :: _) _
    refine jo_pure rfl (pr_idx_imm (i := i) rfl (.tail _ (.tail _ (.head _))) rfl Tryz.underlying22 ty_32 (by omega)) ?_
    refine jo_pure rfl (pr_load_at (.agg #[str (((x.getD i ([], []))).1), e1]) rfl (.tail _ (.head _)) ty_32 (by decide) rfl) ?_
    refine jo_pure rfl (pr_move rfl) (jo_pure rfl (pr_move rfl) ?_)
    have con1 := c_selection_Ranked ((x.getD i ([], []))) e1 l lv strict (by first | omega | exact hl | exact hlx | exact hmx | exact hlen | exact hmem | exact hmem3 | exact hxl | exact hxv | exact hA.1 | exact hA.2.1 | exact hA.2.2 | (rw [keys_mem _ (getD_mem (dd := []) h3)]; omega) | decide) (by first | omega | exact hl | exact hlx | exact hmx | exact hlen | exact hmem | exact hmem3 | exact hxl | exact hxv | exact hA.1 | exact hA.2.1 | exact hA.2.2 | (rw [keys_mem _ (getD_mem (dd := []) h3)]; omega) | decide) (by first | omega | exact hl | exact hlx | exact hmx | exact hlen | exact hmem | exact hmem3 | exact hxl | exact hxv | exact hA.1 | exact hA.2.1 | exact hA.2.2 | (rw [keys_mem _ (getD_mem (dd := []) h3)]; omega) | decide) (by first | omega | exact hl | exact hlx | exact hmx | exact hlen | exact hmem | exact hmem3 | exact hxl | exact hxv | exact hA.1 | exact hA.2.1 | exact hA.2.2 | (rw [keys_mem _ (getD_mem (dd := []) h3)]; omega) | decide) (by first | omega | exact hl | exact hlx | exact hmx | exact hlen | exact hmem | exact hmem3 | exact hxl | exact hxv | exact hA.1 | exact hA.2.1 | exact hA.2.2 | (rw [keys_mem _ (getD_mem (dd := []) h3)]; omega) | decide)
    refine jo_callp cal_34 con1 (by exact ⟨rfl, rfl, rfl, trivial⟩) rfl (by exact ⟨⟨rfl, .head _⟩, ⟨⟨rfl, .tail _ (.tail _ (.tail _ (.head _)))⟩, trivial⟩⟩) (fun r1 => ?_)
    clear con1
    show J _ _ [.imm (.list .str) (r1) (rankA ((x.getD i ([], []))) l strict), .imm (.list .str) (e1) (((x.getD i ([], []))).2), .fact (fun w_ I_ => ElemAt w_ I_ (xv) (i) 2 [str (((x.getD i ([], []))).1), e1]), .imm (.list (.pair .str (.list .str))) (xv) (x), .imm (.list (.pair .str .str)) (lv) (l)] _
    refine jo_pure rfl (pr_len_imm rfl (.head _) Tryz.underlying29) ?_
    refine jo_pure rfl (pr_mulN (m := n) (n := (rankA ((x.getD i ([], []))) l strict).length) rfl rfl (by omega)) ?_
    refine jo_pure rfl (pr_assign rfl) (jo_nil (jq_in_normal (jq_then (jc_region (jo_pure rfl (pr_move rfl) ?_)))))
    refine jo_pure rfl (pr_addN (m := i) (n := 1) rfl rfl (by omega)) ?_
    refine jo_pure rfl (pr_assign rfl) (jo_nil (j_drop (j_drop (j_drop (j_pull1 ?_)))))
    refine j_pull1 ?_
    refine jq_round' ((i + 1), (n * ((rankA ((x.getD i ([], []))) l strict).length))) (by (try dsimp only); exact (⟨by omega, by rw [rankL_step h2, prod_snoc_len, ← hinv.2.1], hp9⟩)) (by (try dsimp only); exact (by omega)) ⟨rfl, rfl, rfl, rfl, rfl, trivial⟩ (fun _ h => h)
   ·have h2 := of_decide_eq_false h2b
    have hk64 : (keysF x l strict 64).length ≤ 64 := keys_le
    refine jc_exit ?_
    refine jq_then_exit ?_
    refine jq_then_exit ?_
    refine jq_in_hit ?_
    refine jq_then (jc_seq (jc_region (jo_pure rfl (pr_move rfl) (jo_pure rfl (pr_move rfl) (jo_pure rfl (pr_move rfl) ?_)))))
    refine jo_callp cal_37 (c_selection_Keys x xv l lv strict (by first | omega | exact hl | exact hlx | exact hmx | exact hlen | exact hmem | exact hmem3 | exact hxl | exact hxv | exact hA.1 | exact hA.2.1 | exact hA.2.2 | (rw [keys_mem _ (getD_mem (dd := []) h3)]; omega) | decide) (by first | omega | exact hl | exact hlx | exact hmx | exact hlen | exact hmem | exact hmem3 | exact hxl | exact hxv | exact hA.1 | exact hA.2.1 | exact hA.2.2 | (rw [keys_mem _ (getD_mem (dd := []) h3)]; omega) | decide) (by first | omega | exact hl | exact hlx | exact hmx | exact hlen | exact hmem | exact hmem3 | exact hxl | exact hxv | exact hA.1 | exact hA.2.1 | exact hA.2.2 | (rw [keys_mem _ (getD_mem (dd := []) h3)]; omega) | decide) (by first | omega | exact hl | exact hlx | exact hmx | exact hlen | exact hmem | exact hmem3 | exact hxl | exact hxv | exact hA.1 | exact hA.2.1 | exact hA.2.2 | (rw [keys_mem _ (getD_mem (dd := []) h3)]; omega) | decide)) ⟨rfl, rfl, rfl, trivial⟩ rfl (⟨⟨rfl, .head _⟩, ⟨⟨rfl, .tail _ (.head _)⟩, trivial⟩⟩) (fun r2 => ?_)
    show J _ _ [.imm (.list (.list .str)) (r2) (keysF x l strict 64), .imm (.list (.pair .str (.list .str))) (xv) (x), .imm (.list (.pair .str .str)) (lv) (l)] _
    refine jo_pure rfl (pr_assign rfl) (jo_nil (jq_then (jc_seq (jc_seq (jc_region ?_)))))
    refine jo_pure rfl (pr_assign rfl) (jo_nil (jq_then (jc_block ?_)))
    refine jc_loop (fun (u : Nat) => [(7, .int .i64 ((n : Nat) : Int)), (9, r2), (10, .int .i64 ((u : Nat) : Int))]) (fun (u : Nat) => [.imm (.list (.list .str)) (r2) (keysF x l strict 64), .imm (.list (.pair .str (.list .str))) (xv) (x), .imm (.list (.pair .str .str)) (lv) (l)]) (fun (u : Nat) => u ≤ (keysF x l strict 64).length) (fun (u : Nat) => (keysF x l strict 64).length - u) 0 (Nat.zero_le _) (⟨rfl, rfl, rfl, trivial⟩) (fun _ h => h) (fun u hinU => ?_)
    refine jc_seq (jc_seq (jc_region (jo_pure rfl (pr_move rfl) (jo_pure rfl (pr_move rfl) (jo_pure rfl (pr_len_imm rfl (.head _) Tryz.underlying53) ?_)))))
    refine jo_pure rfl (pr_lssN (m := u) (n := (keysF x l strict 64).length) rfl rfl) ?_
    refine jo_nil (jq_then ?_)
    refine jc_cond rfl (fun h3b => ?_) (fun h3b => ?_)
    ·have h3 := of_decide_eq_true h3b
     refine jc_skip (jq_then (jc_seq (jc_block (jc_seq (jc_region ?_)))))
     refine jo_pure rfl (pr_assign rfl) (jo_nil (jq_then (jc_block ?_)))
     refine jc_loop (fun (w : Nat) => [(7, .int .i64 ((n : Nat) : Int)), (9, r2), (10, .int .i64 ((u : Nat) : Int)), (11, .int .i64 ((w : Nat) : Int))]) (fun (w : Nat) => [.imm (.list (.list .str)) (r2) (keysF x l strict 64), .imm (.list (.pair .str (.list .str))) (xv) (x), .imm (.list (.pair .str .str)) (lv) (l)]) (fun (w : Nat) => w ≤ u) (fun (w : Nat) => u - w) 0 (Nat.zero_le _) (⟨rfl, rfl, rfl, rfl, trivial⟩) (fun _ h => h) (fun w hinW => ?_)
     refine jc_seq (jc_seq (jc_region (jo_pure rfl (pr_move rfl) (jo_pure rfl (pr_move rfl) (jo_pure rfl (pr_lssN (m := w) (n := u) rfl rfl) ?_)))))
     refine jo_nil (jq_then ?_)
     refine jc_cond rfl (fun h4b => ?_) (fun h4b => ?_)
     ·have h4 := of_decide_eq_true h4b
      refine jc_skip (jq_then (jc_seq (jc_block (jc_seq ?_))))
      refine j_open_elem (t := (.list .str)) (i := u) [] (.head _) (by omega) (fun e2 => ?_)
      show J _ _ (.imm (.list .str) (e2) (((keysF x l strict 64).getD u [])) :: .fact (fun w_ I_ => ElemAt w_ I_ (r2) (u) 1 [e2]) :: _) _
      refine j_open_elem (t := (.list .str)) (i := w) [] (.tail _ (.tail _ (.head _))) (by omega) (fun e3 => ?_)
      show J _ _ (.imm (.list .str) (e3) (((keysF x l strict 64).getD w [])) :: .fact (fun w_ I_ => ElemAt w_ I_ (r2) (w) 1 [e3]) :: _) _
      refine jc_draws mixed (by kernel_rfl) (jd_pure rfl (pr_move rfl) ?_)
      refine jd_pure rfl (pr_move rfl) ?_
      refine jd_pure rfl (pr_idx_imm (i := u) rfl (.tail _ (.tail _ (.tail _ (.tail _ (.head _))))) rfl Tryz.underlying53 ty_29 (by omega)) ?_
      refine jd_pure rfl (pr_load_at (e2) rfl (.tail _ (.tail _ (.tail _ (.head _)))) ty_29 (by decide) rfl) ?_
      refine jd_pure rfl (pr_move rfl) ?_
      refine jd_pure rfl (pr_move rfl) ?_
      refine jd_pure rfl (pr_idx_imm (i := w) rfl (.tail _ (.tail _ (.tail _ (.tail _ (.head _))))) rfl Tryz.underlying53 ty_29 (by omega)) ?_
      refine jd_pure rfl (pr_load_at (e3) rfl (.tail _ (.head _)) ty_29 (by decide) rfl) ?_
      refine jd_callp cal_33 (c_keep_SameStrings ((keysF x l strict 64).getD u []) e2 ((keysF x l strict 64).getD w []) e3 (by first | omega | exact hl | exact hlx | exact hmx | exact hlen | exact hmem | exact hmem3 | exact hxl | exact hxv | exact hA.1 | exact hA.2.1 | exact hA.2.2 | (rw [keys_mem _ (getD_mem (dd := []) h3)]; omega) | decide)) ⟨rfl, rfl, trivial⟩ rfl (⟨⟨rfl, .tail _ (.tail _ (.head _))⟩, ⟨⟨rfl, .head _⟩, trivial⟩⟩) ?_
      refine jd_nil ?_
      refine jq_then ?_
      refine jc_cond rfl (fun h5b => ?_) (fun h5b => ?_)
      ·have h5 := id h5b
       exact absurd h5b (by rw [decide_eq_true_eq]; exact keys_distinct h3 h4)
      ·have h5 := id h5b
       refine jc_skip (jq_in_normal (jq_then (jc_region (jo_pure rfl (pr_move rfl) (jo_pure rfl (pr_addN (m := w) (n := 1) rfl rfl (by omega)) ?_)))))
       refine jo_pure rfl (pr_assign rfl) (jo_nil (j_drop (j_drop (j_drop (j_drop ?_)))))
       refine j_pull2 (j_pull2 (j_pull2 ?_))
       refine jq_round' (w + 1) (by (try dsimp only); exact (by omega)) (by (try dsimp only); exact (by omega)) ⟨rfl, rfl, rfl, rfl, trivial⟩ (fun _ h => h)
     ·have h4 := of_decide_eq_false h4b
      refine jc_exit ?_
      refine jq_then_exit ?_
      refine jq_then_exit ?_
      refine jq_in_hit ?_
      refine jq_in_normal (jq_then (jc_region (jo_pure rfl (pr_move rfl) (jo_pure rfl (pr_addN (m := u) (n := 1) rfl rfl (by omega)) ?_))))
      refine jo_pure rfl (pr_assign rfl) (jo_nil (j_pull2 (j_pull2 (j_pull2 ?_))))
      refine jq_round' (u + 1) (by (try dsimp only); exact (by omega)) (by (try dsimp only); exact (by omega)) ⟨rfl, rfl, rfl, trivial⟩ (fun _ h => h)
    ·have h3 := of_decide_eq_false h3b
     refine jc_exit ?_
     refine jq_then_exit ?_
     refine jq_then_exit ?_
     refine jq_in_hit ?_
     refine jq_then (jc_seq (jc_region (jo_pure rfl (pr_move rfl) (jo_pure rfl (pr_len_imm rfl (.head _) Tryz.underlying53) ?_))))
     refine jo_pure rfl (pr_move rfl) (jo_pure rfl (pr_minN (m := n) (n := 64) rfl rfl) ?_)
     refine jo_pure rfl (pr_eqlN (m := (keysF x l strict 64).length) (n := min n 64) rfl rfl) ?_
     refine jo_pure rfl (pr_move rfl) (jo_gcall (j := 5) (want := true) rfl rfl rfl cal_36 (fun hg => c_law17_awake) (fun hg => trivial) rfl (fun _ => trivial) ?_)
     refine jo_pure rfl (pr_pick_and rfl rfl rfl) ?_
     refine jo_pure rfl (pr_assign rfl) (jo_nil (jq_then (jc_ret (j_drop (j_drop ?_)))))
     refine j_drop ?_
     exact jq_ret1 rfl () rfl (show (.bool (true) : Value) = (.bool ((decide (((keysF x l strict 64).length : Nat) = min n 64) && true))) from congrArg Value.bool (by rw [keys_length hv, hinv.2.1, take_over (s := x) (i := i) (by omega)]; simp)) (fun _ h => h)
 ·skip
  refine jc_region (jo_pure rfl (pr_move rfl) ?_)
  refine jo_callp cal_15 (c_keep_Axes x xv (by first | omega | exact hl | exact hlx | exact hmx | exact hlen | exact hmem | exact hmem3 | exact hxl | exact hxv | exact hA.1 | exact hA.2.1 | exact hA.2.2 | (rw [keys_mem _ (getD_mem (dd := []) h3)]; omega) | decide) (by first | omega | exact hl | exact hlx | exact hmx | exact hlen | exact hmem | exact hmem3 | exact hxl | exact hxv | exact hA.1 | exact hA.2.1 | exact hA.2.2 | (rw [keys_mem _ (getD_mem (dd := []) h3)]; omega) | decide)) ⟨rfl, trivial⟩ rfl (⟨⟨rfl, .head _⟩, trivial⟩) (fun _ => ?_)
  refine jo_pure rfl (pr_not rfl) ?_
  refine jo_pure rfl (pr_move rfl) (jo_skipu (j := 3) (want := false) rfl rfl (by simpa using hz) rfl ?_)
  refine jo_skipu (j := 3) (want := false) rfl rfl (by simpa using hz) rfl ?_
  refine jo_skipu (j := 3) (want := false) rfl rfl (by simpa using hz) rfl ?_
  refine jo_pure rfl (pr_pick_t rfl (by simpa using hz) rfl) ?_
  refine jo_pure rfl (pr_move rfl) (jo_skipu (j := 8) (want := false) rfl rfl (rfl) rfl ?_)
  refine jo_skipu (j := 8) (want := false) rfl rfl (rfl) rfl ?_
  refine jo_skipu (j := 8) (want := false) rfl rfl (rfl) rfl ?_
  refine jo_pure rfl (pr_pick_t rfl (rfl) rfl) ?_
  refine jo_nil (jq_then (jc_true rfl (rfl) ?_))
  refine jc_seq (jc_region (jo_pure rfl (pr_assign rfl) (jo_nil (jq_then (jc_ret ?_)))))
  refine jq_then_ret (j_drop (j_drop ?_))
  exact jq_ret1 rfl () rfl (show (.bool (true) : Value) = (.bool (true)) from rfl) (fun _ h => h)

theorem c_law17_SelectionDefaults (x : List ((List UInt8) × (List (List UInt8)))) (xv : Value) (l : List ((List UInt8) × (List UInt8))) (lv : Value) (hlx : x.length ≤ 9223372036854775807) (hmx : ∀ a ∈ x, a.2.length ≤ 9223372036854775807) (hl : l.length ≤ 9223372036854775807) : Con Tryz.prog 11 #[xv, lv] [.imm (.list (.pair .str (.list .str))) (xv) (x), .imm (.list (.pair .str .str)) (lv) (l)] (fun _ : Unit => .bool (true)) (fun _ => []) := by
 refine con_of_J (args := [xv, lv]) (n := 62) Tryz.func11 rfl (Nat.le_of_ble_eq_true rfl) rfl (fun w0 I0 m0 => ?_)
 show J _ [(0, xv), (1, lv)] [.imm (.list (.pair .str (.list .str))) (xv) (x), .imm (.list (.pair .str .str)) (lv) (l)] _
 refine jc_seq (jc_region (jo_pure rfl (pr_assign rfl) (jo_nil (jq_then (jc_seq ?_)))))
 refine jc_seq ?_
 by_cases hz : keepA x = true
 ·skip
  have hxl : x.length ≤ 1000 := by have := keepA_len (hz); omega
  have hxv : ∀ a ∈ x, a.1.length ≤ 1000000 ∧ (∀ z ∈ a.2, z.length ≤ 300000) ∧ a.2.length ≤ 9223372036854775807 := fun a ha => by have h9 := keepA_mem (hz) a ha; exact ⟨by omega, fun z hz => Nat.le_trans (h9.2.2 z hz) (by omega), by omega⟩
  refine jc_region (jo_pure rfl (pr_move rfl) ?_)
  refine jo_callp cal_15 (c_keep_Axes x xv (by first | omega | exact hl | exact hlx | exact hmx | exact hlen | exact hmem | exact hmem3 | exact hxl | exact hxv | exact hA.1 | exact hA.2.1 | exact hA.2.2 | decide) (by first | omega | exact hl | exact hlx | exact hmx | exact hlen | exact hmem | exact hmem3 | exact hxl | exact hxv | exact hA.1 | exact hA.2.1 | exact hA.2.2 | decide)) ⟨rfl, trivial⟩ rfl (⟨⟨rfl, .head _⟩, trivial⟩) (fun _ => ?_)
  refine jo_pure rfl (pr_not rfl) ?_
  refine jo_pure rfl (pr_move rfl) (jo_run (j := 3) (want := false) rfl rfl (by rw [hz]; rfl) ?_)
  refine jo_pure rfl (pr_move rfl) (jo_run (j := 3) (want := false) rfl rfl (by rw [hz]; rfl) ?_)
  refine jo_callp cal_16 (c_keep_Fields l lv (by first | omega | exact hl | exact hlx | exact hmx | exact hlen | exact hmem | exact hmem3 | exact hxl | exact hxv | exact hA.1 | exact hA.2.1 | exact hA.2.2 | decide)) ⟨rfl, trivial⟩ rfl (⟨⟨rfl, .tail _ (.head _)⟩, trivial⟩) (fun _ => ?_)
  refine jo_run (j := 3) (want := false) rfl rfl (by rw [hz]; rfl) ?_
  refine jo_pure rfl (pr_not rfl) ?_
  refine jo_pure rfl (pr_pick_f rfl (by rw [hz]; rfl) rfl) ?_
  refine jo_pure rfl (pr_move rfl) (jo_gpure (j := 8) (want := false) rfl rfl rfl rfl (fun hg => pr_move rfl) ?_)
  refine jo_gcall (j := 8) (want := false) rfl rfl rfl cal_22 (fun hg => c_ref10_Valid x xv (by first | omega | exact hl | exact hlx | exact hmx | exact hlen | exact hmem | exact hmem3 | exact hxl | exact hxv | exact hA.1 | exact hA.2.1 | exact hA.2.2 | decide) (by first | omega | exact hl | exact hlx | exact hmx | exact hlen | exact hmem | exact hmem3 | exact hxl | exact hxv | exact hA.1 | exact hA.2.1 | exact hA.2.2 | decide)) (fun hg => ⟨evg rfl hg, trivial⟩) rfl (fun _ => ⟨⟨rfl, .head _⟩, trivial⟩) ?_
  refine jo_gpure (j := 8) (want := false) rfl rfl rfl rfl (fun hg => pr_not (evg rfl hg)) ?_
  refine jo_pure rfl (pr_pick_or rfl rfl rfl) ?_
  refine jo_nil (jq_then ?_)
  refine jc_cond rfl (fun h1b => ?_) (fun h1b => ?_)
  ·have h1 := (fun q => Or.imp (fun q => id (bt_not q)) (fun q => id (bt_not q)) (bt_or q)) h1b
   refine jc_seq (jc_region (jo_pure rfl (pr_assign rfl) (jo_nil (jq_then (jc_ret ?_)))))
   refine jq_then_ret (j_drop (j_drop ?_))
   exact jq_ret1 rfl () rfl (show (.bool (true) : Value) = (.bool (true)) from rfl) (fun _ h => h)
  ·have h1 := (fun q => And.imp (fun q => id (bf_not q)) (fun q => id (bf_not q)) (bf_or q)) h1b
   have hkv : keepF l = true ∧ validL x = true := by simpa using h1
   have hv := hkv.2
   have hv4 := validL_len hv
   have hlen : l.length ≤ 1000000 := by have := keepF_len (hkv.1); omega
   have hmem : ∀ z ∈ l, z.1.length ≤ 20000 ∧ z.2.length ≤ 20000 := fun z hz => by have := keepF_mem (hkv.1) z hz; omega
   have hmem3 : ∀ z ∈ l, z.1.length ≤ 300000 ∧ z.2.length ≤ 300000 := fun z hz => by have := keepF_mem (hkv.1) z hz; omega
   refine jc_skip (jq_then (jc_seq (jc_region (jo_pure rfl (pr_move rfl) (jo_pure rfl (pr_move rfl) ?_)))))
   refine jo_callp cal_40 (c_selection_Best x xv l lv false (by first | omega | exact hl | exact hlx | exact hmx | exact hlen | exact hmem | exact hmem3 | exact hxl | exact hxv | exact hA.1 | exact hA.2.1 | exact hA.2.2 | decide) (by first | omega | exact hl | exact hlx | exact hmx | exact hlen | exact hmem | exact hmem3 | exact hxl | exact hxv | exact hA.1 | exact hA.2.1 | exact hA.2.2 | decide) (by first | omega | exact hl | exact hlx | exact hmx | exact hlen | exact hmem | exact hmem3 | exact hxl | exact hxv | exact hA.1 | exact hA.2.1 | exact hA.2.2 | decide) (by first | omega | exact hl | exact hlx | exact hmx | exact hlen | exact hmem | exact hmem3 | exact hxl | exact hxv | exact hA.1 | exact hA.2.1 | exact hA.2.2 | decide)) ⟨rfl, rfl, rfl, trivial⟩ rfl (⟨⟨rfl, .head _⟩, ⟨⟨rfl, .tail _ (.head _)⟩, trivial⟩⟩) (fun r1 => ?_)
   show J _ _ [.imm (.list .str) (r1) (bestK x l false), .imm (.list (.pair .str (.list .str))) (xv) (x), .imm (.list (.pair .str .str)) (lv) (l)] _
   refine jo_pure rfl (pr_move rfl) (jo_pure rfl (pr_extract rfl rfl) ?_)
   refine jo_pure rfl (pr_extract rfl rfl) ?_
   refine jo_pure rfl (pr_assign rfl) (jo_pure rfl (pr_assign rfl) (jo_nil (jq_then (jc_seq (jc_region ?_)))))
   refine jo_pure rfl (pr_move rfl) (jo_pure rfl (pr_move rfl) ?_)
   refine jo_callp cal_40 (c_selection_Best x xv l lv true (by first | omega | exact hl | exact hlx | exact hmx | exact hlen | exact hmem | exact hmem3 | exact hxl | exact hxv | exact hA.1 | exact hA.2.1 | exact hA.2.2 | decide) (by first | omega | exact hl | exact hlx | exact hmx | exact hlen | exact hmem | exact hmem3 | exact hxl | exact hxv | exact hA.1 | exact hA.2.1 | exact hA.2.2 | decide) (by first | omega | exact hl | exact hlx | exact hmx | exact hlen | exact hmem | exact hmem3 | exact hxl | exact hxv | exact hA.1 | exact hA.2.1 | exact hA.2.2 | decide) (by first | omega | exact hl | exact hlx | exact hmx | exact hlen | exact hmem | exact hmem3 | exact hxl | exact hxv | exact hA.1 | exact hA.2.1 | exact hA.2.2 | decide)) ⟨rfl, rfl, rfl, trivial⟩ rfl (⟨⟨rfl, .tail _ (.head _)⟩, ⟨⟨rfl, .tail _ (.tail _ (.head _))⟩, trivial⟩⟩) (fun r2 => ?_)
   show J _ _ [.imm (.list .str) (r2) (bestK x l true), .imm (.list .str) (r1) (bestK x l false), .imm (.list (.pair .str (.list .str))) (xv) (x), .imm (.list (.pair .str .str)) (lv) (l)] _
   refine jo_pure rfl (pr_move rfl) (jo_pure rfl (pr_extract rfl rfl) ?_)
   refine jo_pure rfl (pr_extract rfl rfl) ?_
   refine jo_pure rfl (pr_assign rfl) (jo_pure rfl (pr_assign rfl) (jo_nil (jq_then (jc_seq (jc_region ?_)))))
   refine jo_pure rfl (pr_assign rfl) (jo_nil (jq_then (jc_seq (jc_seq (jc_region ?_)))))
   refine jo_pure rfl (pr_assign rfl) (jo_nil (jq_then (jc_block ?_)))
   refine jc_loop2 (fun (i : Nat) (al : Bool) => [(0, xv), (1, lv), (6, .bool (bestB x l false)), (8, .bool (bestB x l true)), (9, .bool (al)), (10, .int .i64 ((i : Nat) : Int))]) (fun (i : Nat) (al : Bool) => [.imm (.list .str) (r2) (bestK x l true), .imm (.list .str) (r1) (bestK x l false), .imm (.list (.pair .str (.list .str))) (xv) (x), .imm (.list (.pair .str .str)) (lv) (l)]) (fun (i : Nat) (al : Bool) => i ≤ x.length ∧ al = (x.take i).all (fun a => decide (0 < (rankA a l true).length))) (fun (i : Nat) (al : Bool) => x.length - i) 0 true (⟨Nat.zero_le _, rfl⟩) (⟨rfl, rfl, rfl, rfl, rfl, rfl, trivial⟩) (fun _ h => h) (fun i al hinv => ?_)
   refine jc_seq (jc_seq (jc_region (jo_pure rfl (pr_move rfl) (jo_pure rfl (pr_move rfl) (jo_pure rfl (pr_len_imm rfl (.tail _ (.tail _ (.head _))) Tryz.underlying22) ?_)))))
   refine jo_pure rfl (pr_lssN (m := i) (n := x.length) rfl rfl) ?_
   refine jo_nil (jq_then ?_)
   refine jc_cond rfl (fun h2b => ?_) (fun h2b => ?_)
   ·have h2 := of_decide_eq_true h2b
    have hA := hxv _ (getD_mem (dd := ([], [])) h2)
    refine jc_skip (jq_then (jc_seq (jc_block ?_)))
    by_cases hkn : al = true
    ·skip
     refine jc_region (jo_pure rfl (pr_move rfl) (jo_pure rfl (pr_move rfl) (jo_run (j := 1) (want := true) rfl rfl (hkn) ?_)))
     refine jo_pure rfl (pr_move rfl) (jo_run (j := 1) (want := true) rfl rfl (hkn) ?_)
     refine jo_pure rfl (pr_move rfl) (jo_run (j := 1) (want := true) rfl rfl (hkn) ?_)
     refine j_open_elem (t := (.pair .str (.list .str))) (i := i) ([], []) (.tail _ (.tail _ (.head _))) (by omega) (fun ⟨_, e1⟩ => ?_)
     show J _ _ (.imm (.list .str) (e1) (((x.getD i ([], []))).2) :: .fact (fun w_ I_ => ElemAt w_ I_ (xv) (i) 2 [str (((x.getD i ([], []))).1), e1]) :: _) _
     refine jo_pure rfl (pr_idx_imm (i := i) rfl (.tail _ (.tail _ (.tail _ (.tail _ (.head _))))) rfl Tryz.underlying22 ty_32 (by omega)) ?_
     refine jo_run (j := 1) (want := true) rfl rfl (hkn) ?_
     refine jo_pure rfl (pr_load_at (.agg #[str (((x.getD i ([], []))).1), e1]) rfl (.tail _ (.head _)) ty_32 (by decide) rfl) ?_
     refine jo_run (j := 1) (want := true) rfl rfl (hkn) ?_
     refine jo_pure rfl (pr_move rfl) (jo_run (j := 1) (want := true) rfl rfl (hkn) ?_)
     have con1 := c_selection_Ranked ((x.getD i ([], []))) e1 l lv true (by first | omega | exact hl | exact hlx | exact hmx | exact hlen | exact hmem | exact hmem3 | exact hxl | exact hxv | exact hA.1 | exact hA.2.1 | exact hA.2.2 | decide) (by first | omega | exact hl | exact hlx | exact hmx | exact hlen | exact hmem | exact hmem3 | exact hxl | exact hxv | exact hA.1 | exact hA.2.1 | exact hA.2.2 | decide) (by first | omega | exact hl | exact hlx | exact hmx | exact hlen | exact hmem | exact hmem3 | exact hxl | exact hxv | exact hA.1 | exact hA.2.1 | exact hA.2.2 | decide) (by first | omega | exact hl | exact hlx | exact hmx | exact hlen | exact hmem | exact hmem3 | exact hxl | exact hxv | exact hA.1 | exact hA.2.1 | exact hA.2.2 | decide) (by first | omega | exact hl | exact hlx | exact hmx | exact hlen | exact hmem | exact hmem3 | exact hxl | exact hxv | exact hA.1 | exact hA.2.1 | exact hA.2.2 | decide)
     refine jo_callp cal_34 con1 (by exact ⟨rfl, rfl, rfl, trivial⟩) rfl (by exact ⟨⟨rfl, .head _⟩, ⟨⟨rfl, .tail _ (.tail _ (.tail _ (.tail _ (.tail _ (.head _)))))⟩, trivial⟩⟩) (fun r3 => ?_)
     clear con1
     show J _ _ [.imm (.list .str) (r3) (rankA ((x.getD i ([], []))) l true), .imm (.list .str) (e1) (((x.getD i ([], []))).2), .fact (fun w_ I_ => ElemAt w_ I_ (xv) (i) 2 [str (((x.getD i ([], []))).1), e1]), .imm (.list .str) (r2) (bestK x l true), .imm (.list .str) (r1) (bestK x l false), .imm (.list (.pair .str (.list .str))) (xv) (x), .imm (.list (.pair .str .str)) (lv) (l)] _
     refine jo_run (j := 1) (want := true) rfl rfl (hkn) ?_
     refine jo_pure rfl (pr_len_imm rfl (.head _) Tryz.underlying29) ?_
     refine jo_run (j := 1) (want := true) rfl rfl (hkn) ?_
     refine jo_pure rfl (pr_gtrN (m := (rankA ((x.getD i ([], []))) l true).length) (n := 0) rfl rfl) ?_
     refine jo_pure rfl (pr_pick_t rfl (hkn) rfl) ?_
     refine jo_pure rfl (pr_assign rfl) (jo_nil (jq_in_normal (jq_then (jc_region (jo_pure rfl (pr_move rfl) ?_)))))
     refine jo_pure rfl (pr_addN (m := i) (n := 1) rfl rfl (by omega)) ?_
     refine jo_pure rfl (pr_assign rfl) (jo_nil (j_drop (j_drop (j_drop (j_pull3 ?_)))))
     refine j_pull3 (j_pull3 (j_pull3 ?_))
     refine jq_round' ((i + 1), (decide ((0 : Nat) < (rankA ((x.getD i ([], []))) l true).length))) (by (try dsimp only); exact (⟨by omega, by rw [all_nextG (dd := ([], [])) h2, ← hinv.2, hkn]; rfl⟩)) (by (try dsimp only); exact (by omega)) ⟨rfl, rfl, rfl, rfl, rfl, rfl, trivial⟩ (fun _ h => h)
    ·skip
     refine jc_region (jo_pure rfl (pr_move rfl) (jo_pure rfl (pr_move rfl) (jo_skipu (j := 1) (want := true) rfl rfl (by simpa using hkn) rfl ?_)))
     refine jo_skipu (j := 1) (want := true) rfl rfl (by simpa using hkn) rfl ?_
     refine jo_skipu (j := 1) (want := true) rfl rfl (by simpa using hkn) rfl ?_
     refine jo_skipu (j := 1) (want := true) rfl rfl (by simpa using hkn) rfl ?_
     refine jo_skipu (j := 1) (want := true) rfl rfl (by simpa using hkn) rfl ?_
     refine jo_skipu (j := 1) (want := true) rfl rfl (by simpa using hkn) rfl ?_
     refine jo_skipu (j := 1) (want := true) rfl rfl (by simpa using hkn) rfl ?_
     refine jo_skipu (j := 1) (want := true) rfl rfl (by simpa using hkn) rfl ?_
     refine jo_pure rfl (pr_pick_f rfl (by simpa using hkn) rfl) ?_
     refine jo_pure rfl (pr_assign rfl) (jo_nil (jq_in_normal (jq_then (jc_region (jo_pure rfl (pr_move rfl) ?_)))))
     refine jo_pure rfl (pr_addN (m := i) (n := 1) rfl rfl (by omega)) ?_
     refine jo_pure rfl (pr_assign rfl) (jo_nil (j_pull3 (j_pull3 (j_pull3 (j_pull3 ?_)))))
     refine jq_round' ((i + 1), false) (by (try dsimp only); exact (⟨by omega, by rw [all_nextG (dd := ([], [])) h2, ← hinv.2, show al = false by simpa using hkn]; rfl⟩)) (by (try dsimp only); exact (by omega)) ⟨rfl, rfl, rfl, rfl, rfl, rfl, trivial⟩ (fun _ h => h)
   ·have h2 := of_decide_eq_false h2b
    refine jc_exit ?_
    refine jq_then_exit ?_
    refine jq_then_exit ?_
    refine jq_in_hit ?_
    refine jq_then (jc_seq (jc_region (jo_pure rfl (pr_move rfl) (jo_pure rfl (pr_move rfl) (jo_gpure (j := 1) (want := true) rfl rfl rfl rfl (fun hg => pr_move rfl) ?_)))))
    refine jo_gpure (j := 1) (want := true) rfl rfl rfl rfl (fun hg => pr_move rfl) ?_
    refine jo_gpure (j := 1) (want := true) rfl rfl rfl rfl (fun hg => pr_eqlb (evg rfl hg) (evg rfl hg) Tryz.underlying4) ?_
    refine jo_pure rfl (pr_pick_and rfl rfl rfl) ?_
    refine jo_pure rfl (pr_move rfl) (jo_gcall (j := 6) (want := true) rfl rfl rfl cal_36 (fun hg => c_law17_awake) (fun hg => trivial) rfl (fun _ => trivial) ?_)
    refine jo_pure rfl (pr_pick_and rfl rfl rfl) ?_
    refine jo_pure rfl (pr_assign rfl) (jo_nil (jq_then (jc_ret (j_drop (j_drop ?_)))))
    refine j_drop (j_drop ?_)
    exact jq_ret1 rfl () rfl (show (.bool (true) : Value) = (.bool (((bestB x l false && (bestB x l true == al)) && true))) from congrArg Value.bool (by rw [best_default hv, best_all hv, hinv.2, take_over (s := x) (i := i) (by omega)]; simp)) (fun _ h => h)
 ·skip
  refine jc_region (jo_pure rfl (pr_move rfl) ?_)
  refine jo_callp cal_15 (c_keep_Axes x xv (by first | omega | exact hl | exact hlx | exact hmx | exact hlen | exact hmem | exact hmem3 | exact hxl | exact hxv | exact hA.1 | exact hA.2.1 | exact hA.2.2 | decide) (by first | omega | exact hl | exact hlx | exact hmx | exact hlen | exact hmem | exact hmem3 | exact hxl | exact hxv | exact hA.1 | exact hA.2.1 | exact hA.2.2 | decide)) ⟨rfl, trivial⟩ rfl (⟨⟨rfl, .head _⟩, trivial⟩) (fun _ => ?_)
  refine jo_pure rfl (pr_not rfl) ?_
  refine jo_pure rfl (pr_move rfl) (jo_skipu (j := 3) (want := false) rfl rfl (by simpa using hz) rfl ?_)
  refine jo_skipu (j := 3) (want := false) rfl rfl (by simpa using hz) rfl ?_
  refine jo_skipu (j := 3) (want := false) rfl rfl (by simpa using hz) rfl ?_
  refine jo_pure rfl (pr_pick_t rfl (by simpa using hz) rfl) ?_
  refine jo_pure rfl (pr_move rfl) (jo_skipu (j := 8) (want := false) rfl rfl (rfl) rfl ?_)
  refine jo_skipu (j := 8) (want := false) rfl rfl (rfl) rfl ?_
  refine jo_skipu (j := 8) (want := false) rfl rfl (rfl) rfl ?_
  refine jo_pure rfl (pr_pick_t rfl (rfl) rfl) ?_
  refine jo_nil (jq_then (jc_true rfl (rfl) ?_))
  refine jc_seq (jc_region (jo_pure rfl (pr_assign rfl) (jo_nil (jq_then (jc_ret ?_)))))
  refine jq_then_ret (j_drop (j_drop ?_))
  exact jq_ret1 rfl () rfl (show (.bool (true) : Value) = (.bool (true)) from rfl) (fun _ h => h)

theorem c_law17_SelectionAcceptable (x : List ((List UInt8) × (List (List UInt8)))) (xv : Value) (l : List ((List UInt8) × (List UInt8))) (lv : Value) (hlx : x.length ≤ 9223372036854775807) (hmx : ∀ a ∈ x, a.2.length ≤ 9223372036854775807) (hl : l.length ≤ 9223372036854775807) : Con Tryz.prog 12 #[xv, lv] [.imm (.list (.pair .str (.list .str))) (xv) (x), .imm (.list (.pair .str .str)) (lv) (l)] (fun _ : Unit => .bool (true)) (fun _ => []) := by
 refine con_of_J (args := [xv, lv]) (n := 100) Tryz.func12 rfl (Nat.le_of_ble_eq_true rfl) rfl (fun w0 I0 m0 => ?_)
 show J _ [(0, xv), (1, lv)] [.imm (.list (.pair .str (.list .str))) (xv) (x), .imm (.list (.pair .str .str)) (lv) (l)] _
 refine jc_seq (jc_region (jo_pure rfl (pr_assign rfl) (jo_nil (jq_then (jc_seq ?_)))))
 refine jc_seq ?_
 by_cases hz : keepA x = true
 ·skip
  have hxl : x.length ≤ 1000 := by have := keepA_len (hz); omega
  have hxv : ∀ a ∈ x, a.1.length ≤ 1000000 ∧ (∀ z ∈ a.2, z.length ≤ 300000) ∧ a.2.length ≤ 9223372036854775807 := fun a ha => by have h9 := keepA_mem (hz) a ha; exact ⟨by omega, fun z hz => Nat.le_trans (h9.2.2 z hz) (by omega), by omega⟩
  refine jc_region (jo_pure rfl (pr_move rfl) ?_)
  refine jo_callp cal_15 (c_keep_Axes x xv (by first | omega | exact hl | exact hlx | exact hmx | exact hlen | exact hmem | exact hmem3 | exact hxl | exact hxv | exact hA.1 | exact hps | (have := hA.2.1 _ (getD_mem (dd := []) h7); omega) | decide) (by first | omega | exact hl | exact hlx | exact hmx | exact hlen | exact hmem | exact hmem3 | exact hxl | exact hxv | exact hA.1 | exact hps | (have := hA.2.1 _ (getD_mem (dd := []) h7); omega) | decide)) ⟨rfl, trivial⟩ rfl (⟨⟨rfl, .head _⟩, trivial⟩) (fun _ => ?_)
  refine jo_pure rfl (pr_not rfl) ?_
  refine jo_pure rfl (pr_move rfl) (jo_run (j := 3) (want := false) rfl rfl (by rw [hz]; rfl) ?_)
  refine jo_pure rfl (pr_move rfl) (jo_run (j := 3) (want := false) rfl rfl (by rw [hz]; rfl) ?_)
  refine jo_callp cal_16 (c_keep_Fields l lv (by first | omega | exact hl | exact hlx | exact hmx | exact hlen | exact hmem | exact hmem3 | exact hxl | exact hxv | exact hA.1 | exact hps | (have := hA.2.1 _ (getD_mem (dd := []) h7); omega) | decide)) ⟨rfl, trivial⟩ rfl (⟨⟨rfl, .tail _ (.head _)⟩, trivial⟩) (fun _ => ?_)
  refine jo_run (j := 3) (want := false) rfl rfl (by rw [hz]; rfl) ?_
  refine jo_pure rfl (pr_not rfl) ?_
  refine jo_pure rfl (pr_pick_f rfl (by rw [hz]; rfl) rfl) ?_
  refine jo_pure rfl (pr_move rfl) (jo_gpure (j := 8) (want := false) rfl rfl rfl rfl (fun hg => pr_move rfl) ?_)
  refine jo_gcall (j := 8) (want := false) rfl rfl rfl cal_22 (fun hg => c_ref10_Valid x xv (by first | omega | exact hl | exact hlx | exact hmx | exact hlen | exact hmem | exact hmem3 | exact hxl | exact hxv | exact hA.1 | exact hps | (have := hA.2.1 _ (getD_mem (dd := []) h7); omega) | decide) (by first | omega | exact hl | exact hlx | exact hmx | exact hlen | exact hmem | exact hmem3 | exact hxl | exact hxv | exact hA.1 | exact hps | (have := hA.2.1 _ (getD_mem (dd := []) h7); omega) | decide)) (fun hg => ⟨evg rfl hg, trivial⟩) rfl (fun _ => ⟨⟨rfl, .head _⟩, trivial⟩) ?_
  refine jo_gpure (j := 8) (want := false) rfl rfl rfl rfl (fun hg => pr_not (evg rfl hg)) ?_
  refine jo_pure rfl (pr_pick_or rfl rfl rfl) ?_
  refine jo_nil (jq_then ?_)
  refine jc_cond rfl (fun h1b => ?_) (fun h1b => ?_)
  ·have h1 := (fun q => Or.imp (fun q => id (bt_not q)) (fun q => id (bt_not q)) (bt_or q)) h1b
   refine jc_seq (jc_region (jo_pure rfl (pr_assign rfl) (jo_nil (jq_then (jc_ret ?_)))))
   refine jq_then_ret (j_drop (j_drop ?_))
   exact jq_ret1 rfl () rfl (show (.bool (true) : Value) = (.bool (true)) from rfl) (fun _ h => h)
  ·have h1 := (fun q => And.imp (fun q => id (bf_not q)) (fun q => id (bf_not q)) (bf_or q)) h1b
   have hkv : keepF l = true ∧ validL x = true := by simpa using h1
   have hv := hkv.2
   have hv4 := validL_len hv
   have hlen : l.length ≤ 1000000 := by have := keepF_len (hkv.1); omega
   have hmem : ∀ z ∈ l, z.1.length ≤ 20000 ∧ z.2.length ≤ 20000 := fun z hz => by have := keepF_mem (hkv.1) z hz; omega
   have hmem3 : ∀ z ∈ l, z.1.length ≤ 300000 ∧ z.2.length ≤ 300000 := fun z hz => by have := keepF_mem (hkv.1) z hz; omega
   refine jc_skip (jq_then (jc_seq (jc_region (jo_pure rfl (pr_move rfl) (jo_pure rfl (pr_move rfl) ?_)))))
   refine jo_callp cal_40 (c_selection_Best x xv l lv true (by first | omega | exact hl | exact hlx | exact hmx | exact hlen | exact hmem | exact hmem3 | exact hxl | exact hxv | exact hA.1 | exact hps | (have := hA.2.1 _ (getD_mem (dd := []) h7); omega) | decide) (by first | omega | exact hl | exact hlx | exact hmx | exact hlen | exact hmem | exact hmem3 | exact hxl | exact hxv | exact hA.1 | exact hps | (have := hA.2.1 _ (getD_mem (dd := []) h7); omega) | decide) (by first | omega | exact hl | exact hlx | exact hmx | exact hlen | exact hmem | exact hmem3 | exact hxl | exact hxv | exact hA.1 | exact hps | (have := hA.2.1 _ (getD_mem (dd := []) h7); omega) | decide) (by first | omega | exact hl | exact hlx | exact hmx | exact hlen | exact hmem | exact hmem3 | exact hxl | exact hxv | exact hA.1 | exact hps | (have := hA.2.1 _ (getD_mem (dd := []) h7); omega) | decide)) ⟨rfl, rfl, rfl, trivial⟩ rfl (⟨⟨rfl, .head _⟩, ⟨⟨rfl, .tail _ (.head _)⟩, trivial⟩⟩) (fun r1 => ?_)
   show J _ _ [.imm (.list .str) (r1) (bestK x l true), .imm (.list (.pair .str (.list .str))) (xv) (x), .imm (.list (.pair .str .str)) (lv) (l)] _
   refine jo_pure rfl (pr_move rfl) (jo_pure rfl (pr_extract rfl rfl) ?_)
   refine jo_pure rfl (pr_extract rfl rfl) ?_
   refine jo_pure rfl (pr_assign rfl) (jo_pure rfl (pr_assign rfl) (jo_nil (jq_then (jc_seq (jc_seq ?_)))))
   refine jc_region (jo_pure rfl (pr_move rfl) (jo_pure rfl (pr_not rfl) ?_))
   refine jo_nil (jq_then ?_)
   refine jc_cond rfl (fun h2b => ?_) (fun h2b => ?_)
   ·have h2 := (fun q => id (bt_not q)) h2b
    refine jc_seq (jc_region (jo_pure rfl (pr_move rfl) (jo_pure rfl (pr_len_imm rfl (.head _) Tryz.underlying29) ?_)))
    refine jo_pure rfl (pr_eqlN (m := (bestK x l true).length) (n := 0) rfl rfl) ?_
    refine jo_pure rfl (pr_move rfl) (jo_gcall (j := 3) (want := true) rfl rfl rfl cal_36 (fun hg => c_law17_awake) (fun hg => trivial) rfl (fun _ => trivial) ?_)
    refine jo_pure rfl (pr_pick_and rfl rfl rfl) ?_
    refine jo_pure rfl (pr_assign rfl) (jo_nil (jq_then (jc_ret (jq_then_ret (j_drop ?_)))))
    refine j_drop (j_drop ?_)
    exact jq_ret1 rfl () rfl (show (.bool (true) : Value) = (.bool ((decide (((bestK x l true).length : Nat) = 0) && true))) from congrArg Value.bool (by rw [bestK_no (by simpa using h2)]; rfl)) (fun _ h => h)
   ·have h2 := (fun q => id (bf_not q)) h2b
    have hbkl := bestK_length h2
    refine jc_skip (jq_then (jc_seq (jc_seq (jc_region (jo_pure rfl (pr_move rfl) ?_)))))
    refine jo_pure rfl (pr_len_imm rfl (.head _) Tryz.underlying29) ?_
    refine jo_pure rfl (pr_move rfl) (jo_pure rfl (pr_len_imm rfl (.tail _ (.head _)) Tryz.underlying22) ?_)
    refine jo_pure rfl (pr_neqN (m := (bestK x l true).length) (n := x.length) rfl rfl) ?_
    refine jo_nil (jq_then ?_)
    refine jc_cond rfl (fun h3b => ?_) (fun h3b => ?_)
    ·have h3 := (fun q => of_decide_eq_false (bt_not q)) h3b
     exact absurd hbkl h3
    ·have h3 := (fun q => of_decide_eq_true (bf_not q)) h3b
     refine jc_skip (jq_then (jc_seq (jc_seq (jc_region (jo_pure rfl (pr_assign rfl) ?_)))))
     refine jo_nil (jq_then (jc_block ?_))
     refine jc_loop (fun (i : Nat) => [(0, xv), (1, lv), (5, r1), (7, .int .i64 ((i : Nat) : Int))]) (fun (i : Nat) => [.imm (.list .str) (r1) (bestK x l true), .imm (.list (.pair .str (.list .str))) (xv) (x), .imm (.list (.pair .str .str)) (lv) (l)]) (fun (i : Nat) => i ≤ x.length) (fun (i : Nat) => x.length - i) 0 (Nat.zero_le _) (⟨rfl, rfl, rfl, rfl, trivial⟩) (fun _ h => h) (fun i hinv => ?_)
     refine jc_seq (jc_seq (jc_region (jo_pure rfl (pr_move rfl) (jo_pure rfl (pr_move rfl) (jo_pure rfl (pr_len_imm rfl (.tail _ (.head _)) Tryz.underlying22) ?_)))))
     refine jo_pure rfl (pr_lssN (m := i) (n := x.length) rfl rfl) ?_
     refine jo_nil (jq_then ?_)
     refine jc_cond rfl (fun h4b => ?_) (fun h4b => ?_)
     ·have h4 := of_decide_eq_true h4b
      have hA := hxv _ (getD_mem (dd := ([], [])) h4)
      have hbm := best_mem hv h2 h4
      have hbl := hA.2.1 _ hbm
      have hpl := prefsF_length (kindF (x.getD i ([], [])).1) l
      have hps : ∀ z ∈ (prefsF (kindF (x.getD i ([], [])).1) l).1, z.1.length ≤ 1000000 := fun z hz => by have := prefsF_short (kind := (kindF (x.getD i ([], [])).1)) (n := 20000) hmem z hz; omega
      refine jc_skip (jq_then (jc_seq (jc_block (jc_seq (jc_region ?_)))))
      refine jo_pure rfl (pr_move rfl) (jo_pure rfl (pr_move rfl) ?_)
      refine j_open_elem (t := (.pair .str (.list .str))) (i := i) ([], []) (.tail _ (.head _)) (by first | omega | (rw [hbkl]; omega)) (fun ⟨_, e1⟩ => ?_)
      show J _ _ (.imm (.list .str) (e1) (((x.getD i ([], []))).2) :: .fact (fun w_ I_ => ElemAt w_ I_ (xv) (i) 2 [str (((x.getD i ([], []))).1), e1]) :: _) _
      refine jo_pure rfl (pr_idx_imm (i := i) rfl (.tail _ (.tail _ (.tail _ (.head _)))) rfl Tryz.underlying22 ty_32 (by first | omega | (rw [hbkl]; omega))) ?_
      refine jo_pure rfl (pr_fieldAddr_imm (i := i) rfl (.tail _ (.tail _ (.tail _ (.head _)))) Tryz.underlying32 rfl ty_9 rfl rfl (by first | omega | (rw [hbkl]; omega))) ?_
      refine jo_pure rfl (pr_load_off_at (o := 0) (str (((x.getD i ([], []))).1)) rfl (.tail _ (.head _)) ty_9 (by decide) rfl rfl) ?_
      refine jo_callp cal_26 (c_ref10_Kind (((x.getD i ([], []))).1) (by first | omega | exact hl | exact hlx | exact hmx | exact hlen | exact hmem | exact hmem3 | exact hxl | exact hxv | exact hA.1 | exact hps | (have := hA.2.1 _ (getD_mem (dd := []) h7); omega) | decide)) ⟨rfl, trivial⟩ rfl (trivial) (fun _ => ?_)
      refine jo_pure rfl (pr_assign rfl) (jo_nil (jq_then (jc_seq (jc_seq (jc_region ?_)))))
      refine jo_pure rfl (pr_move rfl) (jo_pure rfl (pr_eql (n := 0) rfl rfl) ?_)
      refine jo_nil (jq_then ?_)
      refine jc_cond rfl (fun h5b => ?_) (fun h5b => ?_)
      ·have h5 := of_decide_eq_true h5b
       refine jc_exit ?_
       refine jq_then_exit ?_
       refine jq_in_hit ?_
       refine jq_then (jc_region (jo_pure rfl (pr_move rfl) (jo_pure rfl (pr_addN (m := i) (n := 1) rfl rfl (by omega)) ?_)))
       refine jo_pure rfl (pr_assign rfl) (jo_nil (j_drop (j_drop (j_pull2 (j_pull2 ?_)))))
       refine j_pull2 ?_
       refine jq_round' (i + 1) (by (try dsimp only); exact (by omega)) (by (try dsimp only); exact (by omega)) ⟨rfl, rfl, rfl, rfl, trivial⟩ (fun _ h => h)
      ·have h5 := of_decide_eq_false h5b
       have hat := best_at hv h2 h4 h5
       refine jc_skip (jq_then (jc_seq (jc_region (jo_pure rfl (pr_move rfl) (jo_pure rfl (pr_move rfl) ?_)))))
       refine jo_callp cal_31 (c_ref10_Prefs (kindF (((x.getD i ([], []))).1)) l lv (by first | omega | exact hl | exact hlx | exact hmx | exact hlen | exact hmem | exact hmem3 | exact hxl | exact hxv | exact hA.1 | exact hps | (have := hA.2.1 _ (getD_mem (dd := []) h7); omega) | decide) (by first | omega | exact hl | exact hlx | exact hmx | exact hlen | exact hmem | exact hmem3 | exact hxl | exact hxv | exact hA.1 | exact hps | (have := hA.2.1 _ (getD_mem (dd := []) h7); omega) | decide)) ⟨rfl, rfl, trivial⟩ rfl (⟨⟨rfl, .tail _ (.tail _ (.tail _ (.tail _ (.head _))))⟩, trivial⟩) (fun r2 => ?_)
       show J _ _ [.row (r2) 48 (.pair .str (.int .i64)) ((prefsF (kindF (((x.getD i ([], []))).1)) l).1), .imm (.list .str) (e1) (((x.getD i ([], []))).2), .fact (fun w_ I_ => ElemAt w_ I_ (xv) (i) 2 [str (((x.getD i ([], []))).1), e1]), .imm (.list .str) (r1) (bestK x l true), .imm (.list (.pair .str (.list .str))) (xv) (x), .imm (.list (.pair .str .str)) (lv) (l)] _
       refine jo_pure rfl (pr_move rfl) (jo_pure rfl (pr_extract rfl rfl) ?_)
       refine jo_pure rfl (pr_extract rfl rfl) ?_
       refine jo_pure rfl (pr_assign rfl) (jo_pure rfl (pr_assign rfl) (jo_nil (jq_then (jc_seq (jc_region ?_)))))
       refine jo_pure rfl (pr_move rfl) (jo_pure rfl (pr_move rfl) (jo_pure rfl (pr_move rfl) (jo_pure rfl (pr_move rfl) (jo_pure rfl (pr_move rfl) (jo_pure rfl (pr_idx_imm (i := i) rfl (.tail _ (.tail _ (.tail _ (.head _)))) rfl Tryz.underlying29 ty_9 (by first | omega | (rw [hbkl]; omega))) ?_)))))
       refine jo_pure rfl (pr_load_elem_imm (i := i) (str ((bestK x l true).getD i [])) rfl (.tail _ (.tail _ (.tail _ (.head _)))) ty_9 rfl rfl (by first | omega | (rw [hbkl]; omega)) rfl) ?_
       refine j_pub_row ?_
       refine jo_callp cal_43 (c_rank_Quality (kindF (((x.getD i ([], []))).1)) ((prefsF (kindF (((x.getD i ([], []))).1)) l).1) r2 ((prefsF (kindF (((x.getD i ([], []))).1)) l).2) ((bestK x l true).getD i []) (by first | omega | exact hl | exact hlx | exact hmx | exact hlen | exact hmem | exact hmem3 | exact hxl | exact hxv | exact hA.1 | exact hps | (have := hA.2.1 _ (getD_mem (dd := []) h7); omega) | decide) (by first | omega | exact hl | exact hlx | exact hmx | exact hlen | exact hmem | exact hmem3 | exact hxl | exact hxv | exact hA.1 | exact hps | (have := hA.2.1 _ (getD_mem (dd := []) h7); omega) | decide) (by first | omega | exact hl | exact hlx | exact hmx | exact hlen | exact hmem | exact hmem3 | exact hxl | exact hxv | exact hA.1 | exact hps | (have := hA.2.1 _ (getD_mem (dd := []) h7); omega) | decide)) ⟨rfl, rfl, rfl, rfl, trivial⟩ rfl (⟨⟨rfl, .head _⟩, trivial⟩) (fun _ => ?_)
       refine jo_pure rfl (pr_assign rfl) (jo_nil (jq_then (jc_seq (jc_seq (jc_region ?_)))))
       refine jo_pure rfl (pr_move rfl) (jo_pure rfl (pr_leq (n := 0) rfl rfl) ?_)
       refine jo_nil (jq_then ?_)
       refine jc_cond rfl (fun h6b => ?_) (fun h6b => ?_)
       ·have h6 := of_decide_eq_true h6b
        exact absurd hat.1 (by omega)
       ·have h6 := of_decide_eq_false h6b
        refine jc_skip (jq_then (jc_seq (jc_region (jo_pure rfl (pr_assign rfl) (jo_nil ?_)))))
        refine jq_then (jc_block ?_)
        refine jc_loop (fun (k : Nat) => [(0, xv), (1, lv), (5, r1), (7, .int .i64 ((i : Nat) : Int)), (8, .int .i64 (kindF (((x.getD i ([], []))).1))), (9, r2), (10, .bool ((prefsF (kindF (((x.getD i ([], []))).1)) l).2)), (11, .int .i64 (qualF (kindF (((x.getD i ([], []))).1)) ((prefsF (kindF (((x.getD i ([], []))).1)) l).1) ((prefsF (kindF (((x.getD i ([], []))).1)) l).2) ((bestK x l true).getD i []))), (12, .int .i64 ((k : Nat) : Int))]) (fun (k : Nat) => [.imm (.list (.pair .str (.int .i64))) (r2) ((prefsF (kindF (((x.getD i ([], []))).1)) l).1), .imm (.list .str) (e1) (((x.getD i ([], []))).2), .fact (fun w_ I_ => ElemAt w_ I_ (xv) (i) 2 [str (((x.getD i ([], []))).1), e1]), .imm (.list .str) (r1) (bestK x l true), .imm (.list (.pair .str (.list .str))) (xv) (x), .imm (.list (.pair .str .str)) (lv) (l)]) (fun (k : Nat) => k ≤ (x.getD i ([], [])).2.length) (fun (k : Nat) => (x.getD i ([], [])).2.length - k) 0 (Nat.zero_le _) (⟨rfl, rfl, rfl, rfl, rfl, rfl, rfl, rfl, rfl, trivial⟩) (fun _ h => h) (fun k hinK => ?_)
        refine jc_seq (jc_seq (jc_region (jo_pure rfl (pr_move rfl) (jo_pure rfl (pr_move rfl) (jo_pure rfl (pr_move rfl) ?_)))))
        refine jo_pure rfl (pr_idx_imm (i := i) rfl (.tail _ (.tail _ (.tail _ (.tail _ (.head _))))) rfl Tryz.underlying22 ty_32 (by first | omega | (rw [hbkl]; omega))) ?_
        refine jo_pure rfl (pr_fieldAddr_imm (i := i) rfl (.tail _ (.tail _ (.tail _ (.tail _ (.head _))))) Tryz.underlying32 rfl ty_29 rfl rfl (by first | omega | (rw [hbkl]; omega))) ?_
        refine jo_pure rfl (pr_load_off_at (o := 1) (e1) rfl (.tail _ (.tail _ (.head _))) ty_29 (by decide) rfl rfl) ?_
        refine jo_pure rfl (pr_len_imm rfl (.tail _ (.head _)) Tryz.underlying29) ?_
        refine jo_pure rfl (pr_lssN (m := k) (n := (((x.getD i ([], []))).2).length) rfl rfl) ?_
        refine jo_nil (jq_then ?_)
        refine jc_cond rfl (fun h7b => ?_) (fun h7b => ?_)
        ·have h7 := of_decide_eq_true h7b
         refine jc_skip (jq_then (jc_seq (jc_block (jc_seq (jc_region ?_)))))
         refine jo_pure rfl (pr_move rfl) (jo_pure rfl (pr_move rfl) (jo_pure rfl (pr_move rfl) (jo_pure rfl (pr_move rfl) (jo_pure rfl (pr_move rfl) (jo_pure rfl (pr_idx_imm (i := i) rfl (.tail _ (.tail _ (.tail _ (.tail _ (.head _))))) rfl Tryz.underlying22 ty_32 (by first | omega | (rw [hbkl]; omega))) ?_)))))
         refine jo_pure rfl (pr_fieldAddr_imm (i := i) rfl (.tail _ (.tail _ (.tail _ (.tail _ (.head _))))) Tryz.underlying32 rfl ty_29 rfl rfl (by first | omega | (rw [hbkl]; omega))) ?_
         refine jo_pure rfl (pr_load_off_at (o := 1) (e1) rfl (.tail _ (.tail _ (.head _))) ty_29 (by decide) rfl rfl) ?_
         refine jo_pure rfl (pr_move rfl) (jo_pure rfl (pr_idx_imm (i := k) rfl (.tail _ (.head _)) rfl Tryz.underlying29 ty_9 (by first | omega | (rw [hbkl]; omega))) ?_)
         refine jo_pure rfl (pr_load_elem_imm (i := k) (str ((((x.getD i ([], []))).2).getD k [])) rfl (.tail _ (.head _)) ty_9 rfl rfl (by first | omega | (rw [hbkl]; omega)) rfl) ?_
         refine jo_callp cal_43 (c_rank_Quality (kindF (((x.getD i ([], []))).1)) ((prefsF (kindF (((x.getD i ([], []))).1)) l).1) r2 ((prefsF (kindF (((x.getD i ([], []))).1)) l).2) ((((x.getD i ([], []))).2).getD k []) (by first | omega | exact hl | exact hlx | exact hmx | exact hlen | exact hmem | exact hmem3 | exact hxl | exact hxv | exact hA.1 | exact hps | (have := hA.2.1 _ (getD_mem (dd := []) h7); omega) | decide) (by first | omega | exact hl | exact hlx | exact hmx | exact hlen | exact hmem | exact hmem3 | exact hxl | exact hxv | exact hA.1 | exact hps | (have := hA.2.1 _ (getD_mem (dd := []) h7); omega) | decide) (by first | omega | exact hl | exact hlx | exact hmx | exact hlen | exact hmem | exact hmem3 | exact hxl | exact hxv | exact hA.1 | exact hps | (have := hA.2.1 _ (getD_mem (dd := []) h7); omega) | decide)) ⟨rfl, rfl, rfl, rfl, trivial⟩ rfl (⟨⟨rfl, .head _⟩, trivial⟩) (fun _ => ?_)
         refine jo_pure rfl (pr_move rfl) (jo_pure rfl (pr_gtr rfl rfl) ?_)
         refine jo_nil (jq_then ?_)
         refine jc_cond rfl (fun h8b => ?_) (fun h8b => ?_)
         ·have h8 := of_decide_eq_true h8b
          exact absurd (hat.2 _ (getD_mem (dd := []) h7)) (by omega)
         ·have h8 := of_decide_eq_false h8b
          refine jc_skip (jq_in_normal (jq_then (jc_region (jo_pure rfl (pr_move rfl) (jo_pure rfl (pr_addN (m := k) (n := 1) rfl rfl (by omega)) ?_)))))
          refine jo_pure rfl (pr_assign rfl) (jo_nil (j_pull5 ?_))
          refine j_pull5 ?_
          refine j_pull5 ?_
          refine j_pull5 ?_
          refine j_pull5 ?_
          refine j_pull5 ?_
          refine jq_round' (k + 1) (by (try dsimp only); exact (by omega)) (by (try dsimp only); exact (by omega)) ⟨rfl, rfl, rfl, rfl, rfl, rfl, rfl, rfl, rfl, trivial⟩ (fun _ h => h)
        ·have h7 := of_decide_eq_false h7b
         refine jc_exit ?_
         refine jq_then_exit ?_
         refine jq_then_exit ?_
         refine jq_in_hit ?_
         refine jq_in_normal (jq_then (jc_region (jo_pure rfl (pr_move rfl) (jo_pure rfl (pr_addN (m := i) (n := 1) rfl rfl (by omega)) ?_))))
         refine jo_pure rfl (pr_assign rfl) (jo_nil (j_drop (j_drop (j_drop (j_pull2 ?_)))))
         refine j_pull2 (j_pull2 ?_)
         refine jq_round' (i + 1) (by (try dsimp only); exact (by omega)) (by (try dsimp only); exact (by omega)) ⟨rfl, rfl, rfl, rfl, trivial⟩ (fun _ h => h)
     ·have h4 := of_decide_eq_false h4b
      refine jc_exit ?_
      refine jq_then_exit ?_
      refine jq_then_exit ?_
      refine jq_in_hit ?_
      refine jq_then (jc_seq (jc_region ?_))
      refine jo_callp cal_36 (c_law17_awake) trivial rfl (trivial) (fun _ => ?_)
      refine jo_pure rfl (pr_assign rfl) (jo_nil (jq_then (jc_ret (j_drop (j_drop ?_)))))
      refine j_drop ?_
      exact jq_ret1 rfl () rfl (show (.bool (true) : Value) = (.bool (true)) from rfl) (fun _ h => h)
 ·skip
  refine jc_region (jo_pure rfl (pr_move rfl) ?_)
  refine jo_callp cal_15 (c_keep_Axes x xv (by first | omega | exact hl | exact hlx | exact hmx | exact hlen | exact hmem | exact hmem3 | exact hxl | exact hxv | exact hA.1 | exact hps | (have := hA.2.1 _ (getD_mem (dd := []) h7); omega) | decide) (by first | omega | exact hl | exact hlx | exact hmx | exact hlen | exact hmem | exact hmem3 | exact hxl | exact hxv | exact hA.1 | exact hps | (have := hA.2.1 _ (getD_mem (dd := []) h7); omega) | decide)) ⟨rfl, trivial⟩ rfl (⟨⟨rfl, .head _⟩, trivial⟩) (fun _ => ?_)
  refine jo_pure rfl (pr_not rfl) ?_
  refine jo_pure rfl (pr_move rfl) (jo_skipu (j := 3) (want := false) rfl rfl (by simpa using hz) rfl ?_)
  refine jo_skipu (j := 3) (want := false) rfl rfl (by simpa using hz) rfl ?_
  refine jo_skipu (j := 3) (want := false) rfl rfl (by simpa using hz) rfl ?_
  refine jo_pure rfl (pr_pick_t rfl (by simpa using hz) rfl) ?_
  refine jo_pure rfl (pr_move rfl) (jo_skipu (j := 8) (want := false) rfl rfl (rfl) rfl ?_)
  refine jo_skipu (j := 8) (want := false) rfl rfl (rfl) rfl ?_
  refine jo_skipu (j := 8) (want := false) rfl rfl (rfl) rfl ?_
  refine jo_pure rfl (pr_pick_t rfl (rfl) rfl) ?_
  refine jo_nil (jq_then (jc_true rfl (rfl) ?_))
  refine jc_seq (jc_region (jo_pure rfl (pr_assign rfl) (jo_nil (jq_then (jc_ret ?_)))))
  refine jq_then_ret (j_drop (j_drop ?_))
  exact jq_ret1 rfl () rfl (show (.bool (true) : Value) = (.bool (true)) from rfl) (fun _ h => h)

theorem c_law17_SelectionIgnores (x : List ((List UInt8) × (List (List UInt8)))) (xv : Value) (l : List ((List UInt8) × (List UInt8))) (lv : Value) (f : (List UInt8) × (List UInt8)) (azz : Int) (strict : Bool) (hlx : x.length ≤ 9223372036854775807) (hmx : ∀ a ∈ x, a.2.length ≤ 9223372036854775807) (hl : l.length ≤ 9223372036854775807) : Con Tryz.prog 9 #[xv, lv, .agg #[str (f.1), str (f.2)], .int .i64 (azz), .bool (strict)] [.imm (.list (.pair .str (.list .str))) (xv) (x), .imm (.list (.pair .str .str)) (lv) (l)] (fun _ : Unit => .bool (true)) (fun _ => []) := by
 refine con_of_J (args := [xv, lv, .agg #[str (f.1), str (f.2)], .int .i64 (azz), .bool (strict)]) (n := 81) Tryz.func9 rfl (Nat.le_of_ble_eq_true rfl) rfl (fun w0 I0 m0 => ?_)
 show J _ [(0, xv), (1, lv), (2, .agg #[str (f.1), str (f.2)]), (3, .int .i64 (azz)), (4, .bool (strict))] [.imm (.list (.pair .str (.list .str))) (xv) (x), .imm (.list (.pair .str .str)) (lv) (l)] _
 refine jc_seq (jc_region ?_)
 refine jo_box rfl [str (f.1), str (f.2)] rfl rfl (fun b1 => ?_)
 refine jo_pure rfl (pr_assign rfl) (jo_nil (jq_then (jc_seq (jc_seq ?_))))
 by_cases hz : keepA x = true
 ·skip
  have hxl : x.length ≤ 1000 := by have := keepA_len (hz); omega
  have hxv : ∀ a ∈ x, a.1.length ≤ 1000000 ∧ (∀ z ∈ a.2, z.length ≤ 300000) ∧ a.2.length ≤ 9223372036854775807 := fun a ha => by have h9 := keepA_mem (hz) a ha; exact ⟨by omega, fun z hz => Nat.le_trans (h9.2.2 z hz) (by omega), by omega⟩
  refine jc_region (jo_pure rfl (pr_move rfl) ?_)
  refine jo_callp cal_15 (c_keep_Axes x xv (by first | omega | exact hl | exact hlx | exact hmx | exact hlen | exact hmem | exact hmem3 | exact hxl | exact hxv | exact hA.1 | exact hml | exact hmm | (have := keys_mem _ hk; omega) | exact hkl | exact hkm | decide) (by first | omega | exact hl | exact hlx | exact hmx | exact hlen | exact hmem | exact hmem3 | exact hxl | exact hxv | exact hA.1 | exact hml | exact hmm | (have := keys_mem _ hk; omega) | exact hkl | exact hkm | decide)) ⟨rfl, trivial⟩ rfl (⟨⟨rfl, .tail _ (.head _)⟩, trivial⟩) (fun _ => ?_)
  refine jo_pure rfl (pr_not rfl) ?_
  refine jo_pure rfl (pr_move rfl) (jo_run (j := 3) (want := false) rfl rfl (by rw [hz]; rfl) ?_)
  refine jo_pure rfl (pr_move rfl) (jo_run (j := 3) (want := false) rfl rfl (by rw [hz]; rfl) ?_)
  refine jo_callp cal_16 (c_keep_Fields l lv (by first | omega | exact hl | exact hlx | exact hmx | exact hlen | exact hmem | exact hmem3 | exact hxl | exact hxv | exact hA.1 | exact hml | exact hmm | (have := keys_mem _ hk; omega) | exact hkl | exact hkm | decide)) ⟨rfl, trivial⟩ rfl (⟨⟨rfl, .tail _ (.tail _ (.head _))⟩, trivial⟩) (fun _ => ?_)
  refine jo_run (j := 3) (want := false) rfl rfl (by rw [hz]; rfl) ?_
  refine jo_pure rfl (pr_not rfl) ?_
  refine jo_pure rfl (pr_pick_f rfl (by rw [hz]; rfl) rfl) ?_
  refine jo_pure rfl (pr_move rfl) (jo_gpure (j := 8) (want := false) rfl rfl rfl rfl (fun hg => pr_fieldAddr 0 rfl Tryz.underlying35 rfl ty_9 rfl rfl) ?_)
  refine jo_gpure (j := 8) (want := false) rfl rfl rfl rfl (fun hg => pr_load_box (str (f.1)) (evg rfl hg) ty_9 (.head _) rfl (by decide) rfl) ?_
  refine jo_gpure (j := 8) (want := false) rfl rfl rfl rfl (fun hg => pr_slen (evg rfl hg) Tryz.underlying9) ?_
  refine jo_gpure (j := 8) (want := false) rfl rfl rfl rfl (fun hg => pr_gtrN (m := f.1.length) (n := 100) (evg rfl hg) rfl) ?_
  refine jo_pure rfl (pr_pick_or rfl rfl rfl) ?_
  refine jo_pure rfl (pr_move rfl) (jo_gpure (j := 14) (want := false) rfl rfl rfl rfl (fun hg => pr_fieldAddr 1 rfl Tryz.underlying35 rfl ty_9 rfl rfl) ?_)
  refine jo_gpure (j := 14) (want := false) rfl rfl rfl rfl (fun hg => pr_load_box (str (f.2)) (evg rfl hg) ty_9 (.head _) rfl (by decide) rfl) ?_
  refine jo_gpure (j := 14) (want := false) rfl rfl rfl rfl (fun hg => pr_slen (evg rfl hg) Tryz.underlying9) ?_
  refine jo_gpure (j := 14) (want := false) rfl rfl rfl rfl (fun hg => pr_gtrN (m := f.2.length) (n := 100) (evg rfl hg) rfl) ?_
  refine jo_pure rfl (pr_pick_or rfl rfl rfl) ?_
  refine jo_pure rfl (pr_move rfl) (jo_gpure (j := 20) (want := false) rfl rfl rfl rfl (fun hg => pr_move rfl) ?_)
  refine jo_gpure (j := 20) (want := false) rfl rfl rfl rfl (fun hg => pr_lss (n := 0) (evg rfl hg) rfl) ?_
  refine jo_pure rfl (pr_pick_or rfl rfl rfl) ?_
  refine jo_pure rfl (pr_move rfl) (jo_gpure (j := 24) (want := false) rfl rfl rfl rfl (fun hg => pr_move rfl) ?_)
  refine jo_gpure (j := 24) (want := false) rfl rfl rfl rfl (fun hg => pr_move rfl) ?_
  refine jo_gpure (j := 24) (want := false) rfl rfl rfl rfl (fun hg => pr_len_imm (evg rfl hg) (.tail _ (.tail _ (.head _))) Tryz.underlying23) ?_
  refine jo_gpure (j := 24) (want := false) rfl rfl rfl rfl (fun hg => pr_gtr (n := ((l.length : Nat) : Int)) (evg rfl hg) (evg rfl hg)) ?_
  refine jo_pure rfl (pr_pick_or rfl rfl rfl) ?_
  refine jo_nil (jq_then ?_)
  refine jc_cond rfl (fun h1b => ?_) (fun h1b => ?_)
  ·have h1 := (fun q => Or.imp (fun q => Or.imp (fun q => Or.imp (fun q => Or.imp (fun q => id (bt_not q)) of_decide_eq_true (bt_or q)) of_decide_eq_true (bt_or q)) of_decide_eq_true (bt_or q)) of_decide_eq_true (bt_or q)) h1b
   refine jc_seq (jc_region (jo_pure rfl (pr_assign rfl) (jo_nil (jq_then (jc_ret ?_)))))
   refine jq_then_ret (j_drop (j_drop (j_drop ?_)))
   exact jq_ret1 rfl () rfl (show (.bool (true) : Value) = (.bool (true)) from rfl) (fun _ h => h)
  ·have h1 := (fun q => And.imp (fun q => And.imp (fun q => And.imp (fun q => And.imp (fun q => id (bf_not q)) of_decide_eq_false (bf_or q)) of_decide_eq_false (bf_or q)) of_decide_eq_false (bf_or q)) of_decide_eq_false (bf_or q)) h1b
   have hkf : keepF l = true := by have h9 := h1; simp [and_assoc] at h9; exact h9.1
   have hff : f.1.length ≤ 100 ∧ f.2.length ≤ 100 ∧ 0 ≤ azz ∧ azz.toNat ≤ l.length := by have h9 := h1; simp at h9; omega
   have hlen : l.length ≤ 1000000 := by have := keepF_len (hkf); omega
   have hmem : ∀ z ∈ l, z.1.length ≤ 20000 ∧ z.2.length ≤ 20000 := fun z hz => by have := keepF_mem (hkf) z hz; omega
   have hmem3 : ∀ z ∈ l, z.1.length ≤ 300000 ∧ z.2.length ≤ 300000 := fun z hz => by have := keepF_mem (hkf) z hz; omega
   rw [show (azz : Int) = ((azz.toNat : Nat) : Int) from (Int.toNat_of_nonneg hff.2.2.1).symm]
   refine jc_skip (jq_then (jc_seq (jc_seq (jc_region (jo_pure rfl (pr_assign rfl) ?_)))))
   refine jo_nil (jq_then (jc_block ?_))
   refine jc_loop (fun (i : Nat) => [(0, xv), (1, lv), (3, .int .i64 ((azz.toNat : Nat) : Int)), (4, .bool (strict)), (7, .pointer (some ⟨b1, 0, none⟩)), (11, .int .i64 ((i : Nat) : Int))]) (fun (i : Nat) => [.box b1 35 [str (f.1), str (f.2)], .imm (.list (.pair .str (.list .str))) (xv) (x), .imm (.list (.pair .str .str)) (lv) (l)]) (fun (i : Nat) => i ≤ x.length ∧ (x.take i).all (fun a => !fold a.1 f.1) = true) (fun (i : Nat) => x.length - i) 0 (⟨Nat.zero_le _, rfl⟩) (⟨rfl, rfl, rfl, rfl, rfl, rfl, trivial⟩) (fun _ h => h) (fun i hinv => ?_)
   refine jc_seq (jc_seq (jc_region (jo_pure rfl (pr_move rfl) (jo_pure rfl (pr_move rfl) (jo_pure rfl (pr_len_imm rfl (.tail _ (.head _)) Tryz.underlying22) ?_)))))
   refine jo_pure rfl (pr_lssN (m := i) (n := x.length) rfl rfl) ?_
   refine jo_nil (jq_then ?_)
   refine jc_cond rfl (fun h2b => ?_) (fun h2b => ?_)
   ·have h2 := of_decide_eq_true h2b
    have hA := hxv _ (getD_mem (dd := ([], [])) h2)
    refine jc_skip (jq_then (jc_seq (jc_block (jc_seq ?_))))
    refine j_open_elem (t := (.pair .str (.list .str))) (i := i) ([], []) (.tail _ (.head _)) (by omega) (fun ⟨_, e1⟩ => ?_)
    show J _ _ (.imm (.list .str) (e1) (((x.getD i ([], []))).2) :: .fact (fun w_ I_ => ElemAt w_ I_ (xv) (i) 2 [str (((x.getD i ([], []))).1), e1]) :: _) _
    refine jc_draws mixed (by kernel_rfl) (jd_pure rfl (pr_move rfl) ?_)
    refine jd_pure rfl (pr_move rfl) ?_
    refine jd_pure rfl (pr_idx_imm (i := i) rfl (.tail _ (.tail _ (.tail _ (.head _)))) rfl Tryz.underlying22 ty_32 (by omega)) ?_
    refine jd_pure rfl (pr_fieldAddr_imm (i := i) rfl (.tail _ (.tail _ (.tail _ (.head _)))) Tryz.underlying32 rfl ty_9 rfl rfl (by omega)) ?_
    refine jd_pure rfl (pr_load_off_at (o := 0) (str (((x.getD i ([], []))).1)) rfl (.tail _ (.head _)) ty_9 (by decide) rfl rfl) ?_
    refine jd_pure rfl (pr_fieldAddr 0 rfl Tryz.underlying35 rfl ty_9 rfl rfl) ?_
    refine jd_pure rfl (pr_load_box (str (f.1)) rfl ty_9 (.tail _ (.tail _ (.head _))) rfl (by decide) rfl) ?_
    refine jd_callp cal_38 (c_ref01_Fold (((x.getD i ([], []))).1) f.1 (by first | omega | exact hl | exact hlx | exact hmx | exact hlen | exact hmem | exact hmem3 | exact hxl | exact hxv | exact hA.1 | exact hml | exact hmm | (have := keys_mem _ hk; omega) | exact hkl | exact hkm | decide) (by first | omega | exact hl | exact hlx | exact hmx | exact hlen | exact hmem | exact hmem3 | exact hxl | exact hxv | exact hA.1 | exact hml | exact hmm | (have := keys_mem _ hk; omega) | exact hkl | exact hkm | decide)) ⟨rfl, rfl, trivial⟩ rfl (trivial) ?_
    refine jd_nil ?_
    refine jq_then ?_
    refine jc_cond rfl (fun h3b => ?_) (fun h3b => ?_)
    ·have h3 := id h3b
     refine jc_seq (jc_region (jo_pure rfl (pr_assign rfl) (jo_nil (jq_then (jc_ret ?_)))))
     refine jq_in_ret ?_
     refine jq_then_ret (jq_then_ret (jq_in_ret ?_))
     refine jq_then_ret (j_drop (j_drop (j_drop (j_drop (j_drop ?_)))))
     exact jq_ret1 rfl () rfl (show (.bool (true) : Value) = (.bool (true)) from rfl) (fun _ h => h)
    ·have h3 := id h3b
     refine jc_skip (jq_in_normal (jq_then (jc_region (jo_pure rfl (pr_move rfl) (jo_pure rfl (pr_addN (m := i) (n := 1) rfl rfl (by omega)) ?_)))))
     refine jo_pure rfl (pr_assign rfl) (jo_nil (j_drop (j_drop (j_pull2 (j_pull2 ?_)))))
     refine j_pull2 ?_
     refine jq_round' (i + 1) (by (try dsimp only); exact (⟨by omega, all_step (dd := ([], [])) h2 hinv.2 (by rw [h3b]; rfl)⟩)) (by (try dsimp only); exact (by omega)) ⟨rfl, rfl, rfl, rfl, rfl, rfl, trivial⟩ (fun _ h => h)
   ·have h2 := of_decide_eq_false h2b
    have hml : (([] ++ (l.take azz.toNat).drop 0 ++ [f]) ++ (l.take l.length).drop azz.toNat).length ≤ 1000000 := by have := keepF_len hkf; simp only [List.length_append, List.length_cons, List.length_nil, List.length_take, List.length_drop]; omega
    have hmm := ins_mem (n := azz.toNat) (P := fun z => z.1.length ≤ 20000 ∧ z.2.length ≤ 20000) hmem (f := f) (by omega)
    have hkl : (keysF x l strict 64).length ≤ 9223372036854775807 := by have := keys_le (axes := x) (l := l) (strict := strict) (most := 64); omega
    have hkm : ∀ k ∈ keysF x l strict 64, k.length ≤ 9223372036854775807 := fun k hk => by rw [keys_mem k hk]; omega
    have hig : keysF x (([] ++ (l.take azz.toNat).drop 0 ++ [f]) ++ (l.take l.length).drop azz.toNat) strict 64 = keysF x l strict 64 := by have h9 := ignores (axes := x) (l := l) (f := f) (i := azz.toNat) (strict := strict) (most := 64) (all_end (by omega) hinv.2); rw [show (([] ++ (l.take azz.toNat).drop 0 ++ [f]) ++ (l.take l.length).drop azz.toNat) = ((l.take azz.toNat ++ [f]) ++ l.drop azz.toNat) from by rw [List.nil_append, List.drop_zero, List.take_length]]; exact h9
    refine jc_exit ?_
    refine jq_then_exit ?_
    refine jq_then_exit ?_
    refine jq_in_hit ?_
    refine jq_then (jc_seq ?_)
    refine jc_held (fun (v2 : Value) => [(0, xv), (1, lv), (3, .int .i64 ((azz.toNat : Nat) : Int)), (4, .bool (strict)), (12, v2)]) (fun v2 => [.row (v2) 35 (.pair .str .str) (([] ++ ((l.take azz.toNat).drop 0)) ++ [f]), .box b1 35 [str (f.1), str (f.2)], .imm (.list (.pair .str (.list .str))) (xv) (x), .imm (.list (.pair .str .str)) (lv) (l)]) [.box b1 35 [str (f.1), str (f.2)], .imm (.list (.pair .str (.list .str))) (xv) (x), .imm (.list (.pair .str .str)) (lv) (l)] mixed (fun lst hlst => ?_) (fun v2 => ?_)
    ·subst hlst
     refine jh_take (listed' := #[true, false, false, false, false, false, false, false]) 0 rfl (by kernel_rfl) (by kernel_rfl) (by kernel_rfl) rfl (pr_move rfl) (fun _ h => h) rfl ?_
     refine jh_take (listed' := #[true, true, false, false, false, false, false, false]) 1 rfl (by kernel_rfl) (by kernel_rfl) (by kernel_rfl) rfl (pr_move rfl) (fun _ h => h) rfl ?_
     refine jh_take (listed' := #[true, true, false, false, true, false, false, false]) 4 rfl (by kernel_rfl) (by kernel_rfl) (by kernel_rfl) rfl (pr_load_box (.agg #[str (f.1), str (f.2)]) rfl ty_35 (.head _) rfl (by decide) rfl) (fun _ h => h) rfl ?_
     refine jh_all [2, 5] (by kernel_rfl) (by simp) (fun i hi => ?_)
     simp only [List.mem_cons, List.not_mem_nil, or_false] at hi
     rcases hi with rfl | rfl
     ·refine jh_op rfl ?_
      refine j_resl (l := 0) (h := azz.toNat) (.tail _ (.tail _ (.head _))) (by omega) (by omega) ?_
      show J _ _ (.imm (.list (.pair .str .str)) (resl (lv) (0) (azz.toNat) 2) ((l.take azz.toNat).drop 0) :: _) _
      refine jo_pure rfl (pr_slice_imm (l := 0) (h := azz.toNat) rfl (.tail _ (.tail _ (.tail _ (.head _)))) Tryz.underlying23 ty_35 rfl ⟨_, rfl⟩ (by omega) (by omega)) ?_
      refine jh_in (listed' := #[true, true, true, false, true, false, false, false]) (fun _ h => Mem.drop1 (h)) rfl ?_
      refine jh_all [3, 5] (by kernel_rfl) (by simp) (fun i hi => ?_)
      simp only [List.mem_cons, List.not_mem_nil, or_false] at hi
      rcases hi with rfl | rfl
      ·refine jh_op rfl ?_
       refine j_nil_row 35 (.pair .str .str) ?_
       refine jo_append_imm rfl rfl (.head _) Tryz.underlying23 ty_35 rfl (by simp only [List.length_append, List.length_cons, List.length_nil, List.length_take, List.length_drop, maxLen]; omega) (by simp only [List.length_append, List.length_cons, List.length_nil, List.length_take, List.length_drop]; omega) rfl (fun v1 => ?_)
       refine jh_in (listed' := #[true, true, true, true, true, false, false, false]) (fun _ h => Mem.drop1 (Mem.drop1 (h))) rfl ?_
       refine jh_all [5] (by kernel_rfl) (by simp) (fun i hi => ?_)
       simp only [List.mem_cons, List.not_mem_nil, or_false] at hi
       subst hi
       ·refine jh_op rfl ?_
        refine jo_buildSlice (t := (.pair .str .str)) [f] [.agg #[str (f.1), str (f.2)]] (fun a hf => by simp only [List.zipIdx_cons, List.zipIdx_nil, List.map_toArray, List.map_cons, List.map_nil, hf.ev (show ev _ (.tmp 61) = some (.agg #[str (f.1), str (f.2)]) from rfl)] <;> rfl) rfl Tryz.underlying23 ty_35 rfl rfl rfl rfl rfl (fun g1 => ?_)
        refine jh_in (listed' := #[true, true, true, true, true, true, false, false]) (fun _ h => Mem.drop1 (Mem.drop1 (Mem.drop1 (h)))) rfl ?_
        refine jh_all [6] (by kernel_rfl) (by simp) (fun i hi => ?_)
        simp only [List.mem_cons, List.not_mem_nil, or_false] at hi
        subst hi
        ·refine jh_op rfl ?_
         refine j_pull1 ?_
         refine jo_append rfl rfl Tryz.underlying23 ty_35 rfl (by simp only [List.length_append, List.length_cons, List.length_nil, List.length_take, List.length_drop, maxLen]; omega) (by simp only [List.length_append, List.length_cons, List.length_nil, List.length_take, List.length_drop]; omega) rfl (fun v2 => ?_)
         refine jh_in (listed' := #[true, true, true, true, true, true, true, false]) (fun _ h => Mem.drop1 (Mem.drop1 (h))) rfl ?_
         refine jh_take (listed' := #[true, true, true, true, true, true, true, true]) 7 rfl (by kernel_rfl) (by kernel_rfl) (by kernel_rfl) rfl (pr_assign rfl) (fun _ h => Mem.drop1 (Mem.drop1 (h))) rfl ?_
         show J _ _ _ _
         refine j_pull1 (j_drop (j_pull3 (j_pull3 (j_pull3 (j_pull3 ?_)))))
         show JH _ _ _ _ _ _ _ _
         exact jh_done v2 (by kernel_rfl) ⟨rfl, rfl, rfl, rfl, rfl, trivial⟩ (fun _ h => h)
      ·refine jh_op rfl ?_
       refine jo_buildSlice (t := (.pair .str .str)) [f] [.agg #[str (f.1), str (f.2)]] (fun a hf => by simp only [List.zipIdx_cons, List.zipIdx_nil, List.map_toArray, List.map_cons, List.map_nil, hf.ev (show ev _ (.tmp 61) = some (.agg #[str (f.1), str (f.2)]) from rfl)] <;> rfl) rfl Tryz.underlying23 ty_35 rfl rfl rfl rfl rfl (fun g2 => ?_)
       refine jh_in (listed' := #[true, true, true, false, true, true, false, false]) (fun _ h => Mem.drop1 (Mem.drop1 (h))) rfl ?_
       refine jh_all [3] (by kernel_rfl) (by simp) (fun i hi => ?_)
       simp only [List.mem_cons, List.not_mem_nil, or_false] at hi
       subst hi
       ·refine jh_op rfl ?_
        refine j_nil_row 35 (.pair .str .str) ?_
        refine jo_append_imm rfl rfl (.tail _ (.head _)) Tryz.underlying23 ty_35 rfl (by simp only [List.length_append, List.length_cons, List.length_nil, List.length_take, List.length_drop, maxLen]; omega) (by simp only [List.length_append, List.length_cons, List.length_nil, List.length_take, List.length_drop]; omega) rfl (fun v3 => ?_)
        refine jh_in (listed' := #[true, true, true, true, true, true, false, false]) (fun _ h => Mem.drop1 (Mem.drop1 (Mem.drop1 (h)))) rfl ?_
        refine jh_all [6] (by kernel_rfl) (by simp) (fun i hi => ?_)
        simp only [List.mem_cons, List.not_mem_nil, or_false] at hi
        subst hi
        ·refine jh_op rfl ?_
         refine j_pull1 (j_pull1 ?_)
         refine jo_append rfl rfl Tryz.underlying23 ty_35 rfl (by simp only [List.length_append, List.length_cons, List.length_nil, List.length_take, List.length_drop, maxLen]; omega) (by simp only [List.length_append, List.length_cons, List.length_nil, List.length_take, List.length_drop]; omega) rfl (fun v4 => ?_)
         refine jh_in (listed' := #[true, true, true, true, true, true, true, false]) (fun _ h => Mem.drop1 (Mem.drop1 (h))) rfl ?_
         refine jh_take (listed' := #[true, true, true, true, true, true, true, true]) 7 rfl (by kernel_rfl) (by kernel_rfl) (by kernel_rfl) rfl (pr_assign rfl) (fun _ h => Mem.drop1 (Mem.drop1 (h))) rfl ?_
         show J _ _ _ _
         refine j_pull1 (j_drop (j_pull3 (j_pull3 (j_pull3 (j_pull3 ?_)))))
         show JH _ _ _ _ _ _ _ _
         exact jh_done v4 (by kernel_rfl) ⟨rfl, rfl, rfl, rfl, rfl, trivial⟩ (fun _ h => h)
     ·refine jh_op rfl ?_
      refine jo_buildSlice (t := (.pair .str .str)) [f] [.agg #[str (f.1), str (f.2)]] (fun a hf => by simp only [List.zipIdx_cons, List.zipIdx_nil, List.map_toArray, List.map_cons, List.map_nil, hf.ev (show ev _ (.tmp 61) = some (.agg #[str (f.1), str (f.2)]) from rfl)] <;> rfl) rfl Tryz.underlying23 ty_35 rfl rfl rfl rfl rfl (fun g3 => ?_)
      refine jh_in (listed' := #[true, true, false, false, true, true, false, false]) (fun _ h => Mem.drop1 (h)) rfl ?_
      refine jh_all [2] (by kernel_rfl) (by simp) (fun i hi => ?_)
      simp only [List.mem_cons, List.not_mem_nil, or_false] at hi
      subst hi
      ·refine jh_op rfl ?_
       refine j_resl (l := 0) (h := azz.toNat) (.tail _ (.tail _ (.tail _ (.head _)))) (by omega) (by omega) ?_
       show J _ _ (.imm (.list (.pair .str .str)) (resl (lv) (0) (azz.toNat) 2) ((l.take azz.toNat).drop 0) :: _) _
       refine jo_pure rfl (pr_slice_imm (l := 0) (h := azz.toNat) rfl (.tail _ (.tail _ (.tail _ (.tail _ (.head _))))) Tryz.underlying23 ty_35 rfl ⟨_, rfl⟩ (by omega) (by omega)) ?_
       refine jh_in (listed' := #[true, true, true, false, true, true, false, false]) (fun _ h => Mem.drop1 (Mem.drop1 (h))) rfl ?_
       refine jh_all [3] (by kernel_rfl) (by simp) (fun i hi => ?_)
       simp only [List.mem_cons, List.not_mem_nil, or_false] at hi
       subst hi
       ·refine jh_op rfl ?_
        refine j_nil_row 35 (.pair .str .str) ?_
        refine jo_append_imm rfl rfl (.head _) Tryz.underlying23 ty_35 rfl (by simp only [List.length_append, List.length_cons, List.length_nil, List.length_take, List.length_drop, maxLen]; omega) (by simp only [List.length_append, List.length_cons, List.length_nil, List.length_take, List.length_drop]; omega) rfl (fun v5 => ?_)
        refine jh_in (listed' := #[true, true, true, true, true, true, false, false]) (fun _ h => Mem.drop1 (Mem.drop1 (Mem.drop1 (h)))) rfl ?_
        refine jh_all [6] (by kernel_rfl) (by simp) (fun i hi => ?_)
        simp only [List.mem_cons, List.not_mem_nil, or_false] at hi
        subst hi
        ·refine jh_op rfl ?_
         refine j_pull2 (j_pull1 ?_)
         refine jo_append rfl rfl Tryz.underlying23 ty_35 rfl (by simp only [List.length_append, List.length_cons, List.length_nil, List.length_take, List.length_drop, maxLen]; omega) (by simp only [List.length_append, List.length_cons, List.length_nil, List.length_take, List.length_drop]; omega) rfl (fun v6 => ?_)
         refine jh_in (listed' := #[true, true, true, true, true, true, true, false]) (fun _ h => Mem.drop1 (Mem.drop1 (h))) rfl ?_
         refine jh_take (listed' := #[true, true, true, true, true, true, true, true]) 7 rfl (by kernel_rfl) (by kernel_rfl) (by kernel_rfl) rfl (pr_assign rfl) (fun _ h => Mem.drop1 (Mem.drop1 (h))) rfl ?_
         show J _ _ _ _
         refine j_pull1 (j_drop (j_pull3 (j_pull3 (j_pull3 (j_pull3 ?_)))))
         show JH _ _ _ _ _ _ _ _
         exact jh_done v6 (by kernel_rfl) ⟨rfl, rfl, rfl, rfl, rfl, trivial⟩ (fun _ h => h)
    ·skip
     refine jq_then (jc_seq (jc_region (jo_pure rfl (pr_move rfl) (jo_pure rfl (pr_move rfl) (jo_pure rfl (pr_move rfl) ?_)))))
     refine j_resl (l := azz.toNat) (h := l.length) (.tail _ (.tail _ (.tail _ (.head _)))) (by omega) (by omega) ?_
     show J _ _ (.imm (.list (.pair .str .str)) (resl (lv) (azz.toNat) (l.length) 2) ((l.take l.length).drop azz.toNat) :: _) _
     refine jo_pure rfl (pr_slice_imm (l := azz.toNat) (h := l.length) rfl (.tail _ (.tail _ (.tail _ (.tail _ (.head _))))) Tryz.underlying23 ty_35 ⟨_, rfl⟩ rfl (by omega) (by omega)) ?_
     refine j_pull1 ?_
     refine jo_append_imm rfl rfl (.head _) Tryz.underlying23 ty_35 rfl (by simp only [List.length_append, List.length_cons, List.length_nil, List.length_take, List.length_drop, maxLen]; omega) (by simp only [List.length_append, List.length_cons, List.length_nil, List.length_take, List.length_drop]; omega) rfl (fun v7 => ?_)
     refine jo_pure rfl (pr_assign rfl) (jo_nil (jq_then (jc_seq (jc_region (jo_pure rfl (pr_move rfl) ?_)))))
     refine jo_pure rfl (pr_move rfl) (jo_pure rfl (pr_move rfl) ?_)
     refine jo_callp cal_37 (c_selection_Keys x xv l lv strict (by first | omega | exact hl | exact hlx | exact hmx | exact hlen | exact hmem | exact hmem3 | exact hxl | exact hxv | exact hA.1 | exact hml | exact hmm | (have := keys_mem _ hk; omega) | exact hkl | exact hkm | decide) (by first | omega | exact hl | exact hlx | exact hmx | exact hlen | exact hmem | exact hmem3 | exact hxl | exact hxv | exact hA.1 | exact hml | exact hmm | (have := keys_mem _ hk; omega) | exact hkl | exact hkm | decide) (by first | omega | exact hl | exact hlx | exact hmx | exact hlen | exact hmem | exact hmem3 | exact hxl | exact hxv | exact hA.1 | exact hml | exact hmm | (have := keys_mem _ hk; omega) | exact hkl | exact hkm | decide) (by first | omega | exact hl | exact hlx | exact hmx | exact hlen | exact hmem | exact hmem3 | exact hxl | exact hxv | exact hA.1 | exact hml | exact hmm | (have := keys_mem _ hk; omega) | exact hkl | exact hkm | decide)) ⟨rfl, rfl, rfl, trivial⟩ rfl (⟨⟨rfl, .tail _ (.tail _ (.tail _ (.head _)))⟩, ⟨⟨rfl, .tail _ (.tail _ (.tail _ (.tail _ (.head _))))⟩, trivial⟩⟩) (fun r1 => ?_)
     show J _ _ [.imm (.list (.list .str)) (r1) (keysF x l strict 64), .row (v7) 35 (.pair .str .str) ((([] ++ ((l.take azz.toNat).drop 0)) ++ [f]) ++ ((l.take l.length).drop azz.toNat)), .imm (.list (.pair .str .str)) (resl (lv) (azz.toNat) (l.length) 2) ((l.take l.length).drop azz.toNat), .box b1 35 [str (f.1), str (f.2)], .imm (.list (.pair .str (.list .str))) (xv) (x), .imm (.list (.pair .str .str)) (lv) (l)] _
     refine jo_pure rfl (pr_move rfl) (jo_pure rfl (pr_move rfl) (jo_pure rfl (pr_move rfl) (j_pull1 (j_pub_row ?_))))
     refine jo_callp cal_37 (c_selection_Keys x xv ((([] ++ ((l.take azz.toNat).drop 0)) ++ [f]) ++ ((l.take l.length).drop azz.toNat)) v7 strict (by first | omega | exact hl | exact hlx | exact hmx | exact hlen | exact hmem | exact hmem3 | exact hxl | exact hxv | exact hA.1 | exact hml | exact hmm | (have := keys_mem _ hk; omega) | exact hkl | exact hkm | decide) (by first | omega | exact hl | exact hlx | exact hmx | exact hlen | exact hmem | exact hmem3 | exact hxl | exact hxv | exact hA.1 | exact hml | exact hmm | (have := keys_mem _ hk; omega) | exact hkl | exact hkm | decide) (by first | omega | exact hl | exact hlx | exact hmx | exact hlen | exact hmem | exact hmem3 | exact hxl | exact hxv | exact hA.1 | exact hml | exact hmm | (have := keys_mem _ hk; omega) | exact hkl | exact hkm | decide) (by first | omega | exact hl | exact hlx | exact hmx | exact hlen | exact hmem | exact hmem3 | exact hxl | exact hxv | exact hA.1 | exact hml | exact hmm | (have := keys_mem _ hk; omega) | exact hkl | exact hkm | decide)) ⟨rfl, rfl, rfl, trivial⟩ rfl (⟨⟨rfl, .tail _ (.tail _ (.tail _ (.tail _ (.head _))))⟩, ⟨⟨rfl, .head _⟩, trivial⟩⟩) (fun r2 => ?_)
     show J _ _ [.imm (.list (.list .str)) (r2) (keysF x ((([] ++ ((l.take azz.toNat).drop 0)) ++ [f]) ++ ((l.take l.length).drop azz.toNat)) strict 64), .imm (.list (.pair .str .str)) (v7) ((([] ++ ((l.take azz.toNat).drop 0)) ++ [f]) ++ ((l.take l.length).drop azz.toNat)), .imm (.list (.list .str)) (r1) (keysF x l strict 64), .imm (.list (.pair .str .str)) (resl (lv) (azz.toNat) (l.length) 2) ((l.take l.length).drop azz.toNat), .box b1 35 [str (f.1), str (f.2)], .imm (.list (.pair .str (.list .str))) (xv) (x), .imm (.list (.pair .str .str)) (lv) (l)] _
     refine jo_callp cal_39 (c_ref26_SameKeys (keysF x l strict 64) r1 (keysF x ((([] ++ ((l.take azz.toNat).drop 0)) ++ [f]) ++ ((l.take l.length).drop azz.toNat)) strict 64) r2 (by first | omega | exact hl | exact hlx | exact hmx | exact hlen | exact hmem | exact hmem3 | exact hxl | exact hxv | exact hA.1 | exact hml | exact hmm | (have := keys_mem _ hk; omega) | exact hkl | exact hkm | decide) (by first | omega | exact hl | exact hlx | exact hmx | exact hlen | exact hmem | exact hmem3 | exact hxl | exact hxv | exact hA.1 | exact hml | exact hmm | (have := keys_mem _ hk; omega) | exact hkl | exact hkm | decide)) ⟨rfl, rfl, trivial⟩ rfl (⟨⟨rfl, .tail _ (.tail _ (.head _))⟩, ⟨⟨rfl, .head _⟩, trivial⟩⟩) (fun _ => ?_)
     refine jo_pure rfl (pr_move rfl) (jo_gcall (j := 9) (want := true) rfl rfl rfl cal_36 (fun hg => c_law17_awake) (fun hg => trivial) rfl (fun _ => trivial) ?_)
     refine jo_pure rfl (pr_pick_and rfl rfl rfl) ?_
     refine jo_pure rfl (pr_assign rfl) (jo_nil (jq_then (jc_ret (j_drop (j_drop ?_)))))
     refine j_drop (j_drop (j_drop (j_drop (j_drop ?_))))
     exact jq_ret1 rfl () rfl (show (.bool (true) : Value) = (.bool ((decide ((keysF x l strict 64) = (keysF x ((([] ++ ((l.take azz.toNat).drop 0)) ++ [f]) ++ ((l.take l.length).drop azz.toNat)) strict 64)) && true))) from congrArg Value.bool (by rw [hig]; simp)) (fun _ h => h)
 ·skip
  refine jc_region (jo_pure rfl (pr_move rfl) ?_)
  refine jo_callp cal_15 (c_keep_Axes x xv (by first | omega | exact hl | exact hlx | exact hmx | exact hlen | exact hmem | exact hmem3 | exact hxl | exact hxv | exact hA.1 | exact hml | exact hmm | (have := keys_mem _ hk; omega) | exact hkl | exact hkm | decide) (by first | omega | exact hl | exact hlx | exact hmx | exact hlen | exact hmem | exact hmem3 | exact hxl | exact hxv | exact hA.1 | exact hml | exact hmm | (have := keys_mem _ hk; omega) | exact hkl | exact hkm | decide)) ⟨rfl, trivial⟩ rfl (⟨⟨rfl, .tail _ (.head _)⟩, trivial⟩) (fun _ => ?_)
  refine jo_pure rfl (pr_not rfl) ?_
  refine jo_pure rfl (pr_move rfl) (jo_skipu (j := 3) (want := false) rfl rfl (by simpa using hz) rfl ?_)
  refine jo_skipu (j := 3) (want := false) rfl rfl (by simpa using hz) rfl ?_
  refine jo_skipu (j := 3) (want := false) rfl rfl (by simpa using hz) rfl ?_
  refine jo_pure rfl (pr_pick_t rfl (by simpa using hz) rfl) ?_
  refine jo_pure rfl (pr_move rfl) (jo_skipu (j := 8) (want := false) rfl rfl (rfl) rfl ?_)
  refine jo_skipu (j := 8) (want := false) rfl rfl (rfl) rfl ?_
  refine jo_skipu (j := 8) (want := false) rfl rfl (rfl) rfl ?_
  refine jo_skipu (j := 8) (want := false) rfl rfl (rfl) rfl ?_
  refine jo_pure rfl (pr_pick_t rfl (rfl) rfl) ?_
  refine jo_pure rfl (pr_move rfl) (jo_skipu (j := 14) (want := false) rfl rfl (rfl) rfl ?_)
  refine jo_skipu (j := 14) (want := false) rfl rfl (rfl) rfl ?_
  refine jo_skipu (j := 14) (want := false) rfl rfl (rfl) rfl ?_
  refine jo_skipu (j := 14) (want := false) rfl rfl (rfl) rfl ?_
  refine jo_pure rfl (pr_pick_t rfl (rfl) rfl) ?_
  refine jo_pure rfl (pr_move rfl) (jo_skipu (j := 20) (want := false) rfl rfl (rfl) rfl ?_)
  refine jo_skipu (j := 20) (want := false) rfl rfl (rfl) rfl ?_
  refine jo_pure rfl (pr_pick_t rfl (rfl) rfl) ?_
  refine jo_pure rfl (pr_move rfl) (jo_skipu (j := 24) (want := false) rfl rfl (rfl) rfl ?_)
  refine jo_skipu (j := 24) (want := false) rfl rfl (rfl) rfl ?_
  refine jo_skipu (j := 24) (want := false) rfl rfl (rfl) rfl ?_
  refine jo_skipu (j := 24) (want := false) rfl rfl (rfl) rfl ?_
  refine jo_pure rfl (pr_pick_t rfl (rfl) rfl) ?_
  refine jo_nil (jq_then (jc_true rfl (rfl) ?_))
  refine jc_seq (jc_region (jo_pure rfl (pr_assign rfl) (jo_nil (jq_then (jc_ret ?_)))))
  refine jq_then_ret (j_drop (j_drop (j_drop ?_)))
  exact jq_ret1 rfl () rfl (show (.bool (true) : Value) = (.bool (true)) from rfl) (fun _ h => h)
end Go.Proofs.YtjbcomdljmfgjaaGreatDoor
