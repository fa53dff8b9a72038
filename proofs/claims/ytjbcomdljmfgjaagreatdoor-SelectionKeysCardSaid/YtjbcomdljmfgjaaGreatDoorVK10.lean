/-
 Contracts of functions of the program: each returns what a plain function says, for every input within the bounds named. Conditions: the bounds.
-/
import Derived.Test.YtjbcomdljmfgjaaGreatDoorRows
import Derived.Test.YtjbcomdljmfgjaaGreatDoorVK9
namespace Go.Proofs.YtjbcomdljmfgjaaGreatDoor
open Go Go.Sep
set_option linter.unusedSimpArgs false
set_option linter.unusedVariables false

open Go.Plain

theorem cal_41 : Cal Tryz.prog 41 := cal_of Tryz.func41 (by kernel_rfl) rfl
theorem c_law17_SelectionKeys (x : List ((List UInt8) × (List (List UInt8)))) (xv : Value) (l : List ((List UInt8) × (List UInt8))) (lv : Value) (strict : Bool) (hlx : x.length ≤ 9223372036854775807) (hmx : ∀ a ∈ x, a.2.length ≤ 9223372036854775807) (hl : l.length ≤ 9223372036854775807) : Con Tryz.prog 10 #[xv, lv, .bool (strict)] [.imm (.list (.pair .str (.list .str))) (xv) (x), .imm (.list (.pair .str .str)) (lv) (l)] (fun _ : Unit => .bool (true)) (fun _ => []) := by
 refine con_of_J (args := [xv, lv, .bool (strict)]) (n := 55) Tryz.func10 rfl (Nat.le_of_ble_eq_true rfl) rfl (fun w0 I0 m0 => ?_)
 show J _ [(0, xv), (1, lv), (2, .bool (strict))] [.imm (.list (.pair .str (.list .str))) (xv) (x), .imm (.list (.pair .str .str)) (lv) (l)] _
 refine jc_seq (jc_region (jo_pure rfl (pr_assign rfl) (jo_nil (jq_then (jc_seq ?_)))))
 refine jc_seq ?_
 by_cases hz : keepA x = true
 ·skip
  have hxl : x.length ≤ 1000 := by have := keepA_len (hz); omega
  have hxv : ∀ a ∈ x, a.1.length ≤ 1000000 ∧ (∀ z ∈ a.2, z.length ≤ 300000) ∧ a.2.length ≤ 9223372036854775807 := fun a ha => by have h9 := keepA_mem (hz) a ha; exact ⟨by omega, fun z hz => Nat.le_trans (h9.2.2 z hz) (by omega), by omega⟩
  refine jc_region (jo_pure rfl (pr_move rfl) ?_)
  refine jo_callp cal_15 (c_keep_Axes x xv (by first | omega | exact hl | exact hlx | exact hmx | exact hlen | exact hmem | exact hmem3 | exact hxl | exact hxv | exact hkl | exact hkm | (have := bestK_le (axes := x) (l := l) (strict := strict); omega) | decide) (by first | omega | exact hl | exact hlx | exact hmx | exact hlen | exact hmem | exact hmem3 | exact hxl | exact hxv | exact hkl | exact hkm | (have := bestK_le (axes := x) (l := l) (strict := strict); omega) | decide)) ⟨rfl, trivial⟩ rfl (⟨⟨rfl, .head _⟩, trivial⟩) (fun _ => ?_)
  refine jo_pure rfl (pr_not rfl) ?_
  refine jo_pure rfl (pr_move rfl) (jo_run (j := 3) (want := false) rfl rfl (by rw [hz]; rfl) ?_)
  refine jo_pure rfl (pr_move rfl) (jo_run (j := 3) (want := false) rfl rfl (by rw [hz]; rfl) ?_)
  refine jo_callp cal_16 (c_keep_Fields l lv (by first | omega | exact hl | exact hlx | exact hmx | exact hlen | exact hmem | exact hmem3 | exact hxl | exact hxv | exact hkl | exact hkm | (have := bestK_le (axes := x) (l := l) (strict := strict); omega) | decide)) ⟨rfl, trivial⟩ rfl (⟨⟨rfl, .tail _ (.head _)⟩, trivial⟩) (fun _ => ?_)
  refine jo_run (j := 3) (want := false) rfl rfl (by rw [hz]; rfl) ?_
  refine jo_pure rfl (pr_not rfl) ?_
  refine jo_pure rfl (pr_pick_f rfl (by rw [hz]; rfl) rfl) ?_
  refine jo_nil (jq_then ?_)
  refine jc_cond rfl (fun h1b => ?_) (fun h1b => ?_)
  ·have h1 := (fun q => id (bt_not q)) h1b
   refine jc_seq (jc_region (jo_pure rfl (pr_assign rfl) (jo_nil (jq_then (jc_ret ?_)))))
   refine jq_then_ret (j_drop (j_drop ?_))
   exact jq_ret1 rfl () rfl (show (.bool (true) : Value) = (.bool (true)) from rfl) (fun _ h => h)
  ·have h1 := (fun q => id (bf_not q)) h1b
   have hlen : l.length ≤ 1000000 := by have := keepF_len (by simpa using h1); omega
   have hmem : ∀ z ∈ l, z.1.length ≤ 20000 ∧ z.2.length ≤ 20000 := fun z hz => by have := keepF_mem (by simpa using h1) z hz; omega
   have hmem3 : ∀ z ∈ l, z.1.length ≤ 300000 ∧ z.2.length ≤ 300000 := fun z hz => by have := keepF_mem (by simpa using h1) z hz; omega
   have hkl : (keysF x l strict 64).length ≤ 9223372036854775807 := by have := keys_le (axes := x) (l := l) (strict := strict) (most := 64); omega
   have hkm : ∀ k ∈ keysF x l strict 64, k.length ≤ 9223372036854775807 := fun k hk => by rw [keys_mem k hk]; omega
   refine jc_skip (jq_then (jc_seq (jc_region (jo_pure rfl (pr_move rfl) (jo_pure rfl (pr_move rfl) ?_)))))
   refine jo_pure rfl (pr_move rfl) ?_
   refine jo_callp cal_40 (c_selection_Best x xv l lv strict (by first | omega | exact hl | exact hlx | exact hmx | exact hlen | exact hmem | exact hmem3 | exact hxl | exact hxv | exact hkl | exact hkm | (have := bestK_le (axes := x) (l := l) (strict := strict); omega) | decide) (by first | omega | exact hl | exact hlx | exact hmx | exact hlen | exact hmem | exact hmem3 | exact hxl | exact hxv | exact hkl | exact hkm | (have := bestK_le (axes := x) (l := l) (strict := strict); omega) | decide) (by first | omega | exact hl | exact hlx | exact hmx | exact hlen | exact hmem | exact hmem3 | exact hxl | exact hxv | exact hkl | exact hkm | (have := bestK_le (axes := x) (l := l) (strict := strict); omega) | decide) (by first | omega | exact hl | exact hlx | exact hmx | exact hlen | exact hmem | exact hmem3 | exact hxl | exact hxv | exact hkl | exact hkm | (have := bestK_le (axes := x) (l := l) (strict := strict); omega) | decide)) ⟨rfl, rfl, rfl, trivial⟩ rfl (⟨⟨rfl, .head _⟩, ⟨⟨rfl, .tail _ (.head _)⟩, trivial⟩⟩) (fun r1 => ?_)
   show J _ _ [.imm (.list .str) (r1) (bestK x l strict), .imm (.list (.pair .str (.list .str))) (xv) (x), .imm (.list (.pair .str .str)) (lv) (l)] _
   refine jo_pure rfl (pr_move rfl) (jo_pure rfl (pr_extract rfl rfl) ?_)
   refine jo_pure rfl (pr_extract rfl rfl) ?_
   refine jo_pure rfl (pr_assign rfl) (jo_pure rfl (pr_assign rfl) (jo_nil (jq_then (jc_seq (jc_region ?_)))))
   refine jo_pure rfl (pr_move rfl) (jo_pure rfl (pr_move rfl) (jo_pure rfl (pr_move rfl) ?_))
   refine jo_callp cal_41 (c_ref10_Best x xv l lv strict (by first | omega | exact hl | exact hlx | exact hmx | exact hlen | exact hmem | exact hmem3 | exact hxl | exact hxv | exact hkl | exact hkm | (have := bestK_le (axes := x) (l := l) (strict := strict); omega) | decide) (by first | omega | exact hl | exact hlx | exact hmx | exact hlen | exact hmem | exact hmem3 | exact hxl | exact hxv | exact hkl | exact hkm | (have := bestK_le (axes := x) (l := l) (strict := strict); omega) | decide) (by first | omega | exact hl | exact hlx | exact hmx | exact hlen | exact hmem | exact hmem3 | exact hxl | exact hxv | exact hkl | exact hkm | (have := bestK_le (axes := x) (l := l) (strict := strict); omega) | decide) (by first | omega | exact hl | exact hlx | exact hmx | exact hlen | exact hmem | exact hmem3 | exact hxl | exact hxv | exact hkl | exact hkm | (have := bestK_le (axes := x) (l := l) (strict := strict); omega) | decide)) ⟨rfl, rfl, rfl, trivial⟩ rfl (⟨⟨rfl, .tail _ (.head _)⟩, ⟨⟨rfl, .tail _ (.tail _ (.head _))⟩, trivial⟩⟩) (fun r2 => ?_)
   show J _ _ [.imm (.list .str) (r2) (bestK x l strict), .imm (.list .str) (r1) (bestK x l strict), .imm (.list (.pair .str (.list .str))) (xv) (x), .imm (.list (.pair .str .str)) (lv) (l)] _
   refine jo_pure rfl (pr_move rfl) (jo_pure rfl (pr_extract rfl rfl) ?_)
   refine jo_pure rfl (pr_extract rfl rfl) ?_
   refine jo_pure rfl (pr_assign rfl) (jo_pure rfl (pr_assign rfl) (jo_nil (jq_then (jc_seq (jc_region ?_)))))
   refine jo_pure rfl (pr_move rfl) (jo_pure rfl (pr_move rfl) (jo_pure rfl (pr_move rfl) ?_))
   refine jo_callp cal_37 (c_selection_Keys x xv l lv strict (by first | omega | exact hl | exact hlx | exact hmx | exact hlen | exact hmem | exact hmem3 | exact hxl | exact hxv | exact hkl | exact hkm | (have := bestK_le (axes := x) (l := l) (strict := strict); omega) | decide) (by first | omega | exact hl | exact hlx | exact hmx | exact hlen | exact hmem | exact hmem3 | exact hxl | exact hxv | exact hkl | exact hkm | (have := bestK_le (axes := x) (l := l) (strict := strict); omega) | decide) (by first | omega | exact hl | exact hlx | exact hmx | exact hlen | exact hmem | exact hmem3 | exact hxl | exact hxv | exact hkl | exact hkm | (have := bestK_le (axes := x) (l := l) (strict := strict); omega) | decide) (by first | omega | exact hl | exact hlx | exact hmx | exact hlen | exact hmem | exact hmem3 | exact hxl | exact hxv | exact hkl | exact hkm | (have := bestK_le (axes := x) (l := l) (strict := strict); omega) | decide)) ⟨rfl, rfl, rfl, trivial⟩ rfl (⟨⟨rfl, .tail _ (.tail _ (.head _))⟩, ⟨⟨rfl, .tail _ (.tail _ (.tail _ (.head _)))⟩, trivial⟩⟩) (fun r3 => ?_)
   show J _ _ [.imm (.list (.list .str)) (r3) (keysF x l strict 64), .imm (.list .str) (r2) (bestK x l strict), .imm (.list .str) (r1) (bestK x l strict), .imm (.list (.pair .str (.list .str))) (xv) (x), .imm (.list (.pair .str .str)) (lv) (l)] _
   refine jo_pure rfl (pr_move rfl) (jo_pure rfl (pr_move rfl) (jo_pure rfl (pr_move rfl) ?_))
   refine jo_callp cal_42 (c_ref10_Keys x xv l lv strict (by first | omega | exact hl | exact hlx | exact hmx | exact hlen | exact hmem | exact hmem3 | exact hxl | exact hxv | exact hkl | exact hkm | (have := bestK_le (axes := x) (l := l) (strict := strict); omega) | decide) (by first | omega | exact hl | exact hlx | exact hmx | exact hlen | exact hmem | exact hmem3 | exact hxl | exact hxv | exact hkl | exact hkm | (have := bestK_le (axes := x) (l := l) (strict := strict); omega) | decide) (by first | omega | exact hl | exact hlx | exact hmx | exact hlen | exact hmem | exact hmem3 | exact hxl | exact hxv | exact hkl | exact hkm | (have := bestK_le (axes := x) (l := l) (strict := strict); omega) | decide) (by first | omega | exact hl | exact hlx | exact hmx | exact hlen | exact hmem | exact hmem3 | exact hxl | exact hxv | exact hkl | exact hkm | (have := bestK_le (axes := x) (l := l) (strict := strict); omega) | decide)) ⟨rfl, rfl, rfl, trivial⟩ rfl (⟨⟨rfl, .tail _ (.tail _ (.tail _ (.head _)))⟩, ⟨⟨rfl, .tail _ (.tail _ (.tail _ (.tail _ (.head _))))⟩, trivial⟩⟩) (fun r4 => ?_)
   show J _ _ [.imm (.list (.list .str)) (r4) (keysF x l strict 64), .imm (.list (.list .str)) (r3) (keysF x l strict 64), .imm (.list .str) (r2) (bestK x l strict), .imm (.list .str) (r1) (bestK x l strict), .imm (.list (.pair .str (.list .str))) (xv) (x), .imm (.list (.pair .str .str)) (lv) (l)] _
   refine jo_callp cal_39 (c_ref26_SameKeys (keysF x l strict 64) r3 (keysF x l strict 64) r4 (by first | omega | exact hl | exact hlx | exact hmx | exact hlen | exact hmem | exact hmem3 | exact hxl | exact hxv | exact hkl | exact hkm | (have := bestK_le (axes := x) (l := l) (strict := strict); omega) | decide) (by first | omega | exact hl | exact hlx | exact hmx | exact hlen | exact hmem | exact hmem3 | exact hxl | exact hxv | exact hkl | exact hkm | (have := bestK_le (axes := x) (l := l) (strict := strict); omega) | decide)) ⟨rfl, rfl, trivial⟩ rfl (⟨⟨rfl, .tail _ (.head _)⟩, ⟨⟨rfl, .head _⟩, trivial⟩⟩) (fun _ => ?_)
   refine jo_pure rfl (pr_move rfl) (jo_gpure (j := 9) (want := true) rfl rfl rfl rfl (fun hg => pr_move rfl) ?_)
   refine jo_gpure (j := 9) (want := true) rfl rfl rfl rfl (fun hg => pr_move rfl) ?_
   refine jo_gcall (j := 9) (want := true) rfl rfl rfl cal_33 (fun hg => c_keep_SameStrings (bestK x l strict) r1 (bestK x l strict) r2 (by first | omega | exact hl | exact hlx | exact hmx | exact hlen | exact hmem | exact hmem3 | exact hxl | exact hxv | exact hkl | exact hkm | (have := bestK_le (axes := x) (l := l) (strict := strict); omega) | decide)) (fun hg => ⟨evg rfl hg, evg rfl hg, trivial⟩) rfl (fun _ => ⟨⟨rfl, .tail _ (.tail _ (.tail _ (.head _)))⟩, ⟨⟨rfl, .tail _ (.tail _ (.head _))⟩, trivial⟩⟩) ?_
   refine jo_pure rfl (pr_pick_and rfl rfl rfl) ?_
   refine jo_pure rfl (pr_move rfl) (jo_gpure (j := 14) (want := true) rfl rfl rfl rfl (fun hg => pr_move rfl) ?_)
   refine jo_gpure (j := 14) (want := true) rfl rfl rfl rfl (fun hg => pr_move rfl) ?_
   refine jo_gpure (j := 14) (want := true) rfl rfl rfl rfl (fun hg => pr_eqlb (evg rfl hg) (evg rfl hg) Tryz.underlying4) ?_
   refine jo_pure rfl (pr_pick_and rfl rfl rfl) ?_
   refine jo_pure rfl (pr_move rfl) (jo_gcall (j := 19) (want := true) rfl rfl rfl cal_36 (fun hg => c_law17_awake) (fun hg => trivial) rfl (fun _ => trivial) ?_)
   refine jo_pure rfl (pr_pick_and rfl rfl rfl) ?_
   refine jo_pure rfl (pr_assign rfl) (jo_nil (jq_then (jc_ret (j_drop (j_drop ?_)))))
   refine j_drop (j_drop (j_drop (j_drop ?_)))
   exact jq_ret1 rfl () rfl (show (.bool (true) : Value) = (.bool ((((decide ((keysF x l strict 64) = (keysF x l strict 64)) && decide ((bestK x l strict) = (bestK x l strict))) && (bestB x l strict == bestB x l strict)) && true))) from congrArg Value.bool (by simp)) (fun _ h => h)
 ·skip
  refine jc_region (jo_pure rfl (pr_move rfl) ?_)
  refine jo_callp cal_15 (c_keep_Axes x xv (by first | omega | exact hl | exact hlx | exact hmx | exact hlen | exact hmem | exact hmem3 | exact hxl | exact hxv | exact hkl | exact hkm | (have := bestK_le (axes := x) (l := l) (strict := strict); omega) | decide) (by first | omega | exact hl | exact hlx | exact hmx | exact hlen | exact hmem | exact hmem3 | exact hxl | exact hxv | exact hkl | exact hkm | (have := bestK_le (axes := x) (l := l) (strict := strict); omega) | decide)) ⟨rfl, trivial⟩ rfl (⟨⟨rfl, .head _⟩, trivial⟩) (fun _ => ?_)
  refine jo_pure rfl (pr_not rfl) ?_
  refine jo_pure rfl (pr_move rfl) (jo_skipu (j := 3) (want := false) rfl rfl (by simpa using hz) rfl ?_)
  refine jo_skipu (j := 3) (want := false) rfl rfl (by simpa using hz) rfl ?_
  refine jo_skipu (j := 3) (want := false) rfl rfl (by simpa using hz) rfl ?_
  refine jo_pure rfl (pr_pick_t rfl (by simpa using hz) rfl) ?_
  refine jo_nil (jq_then (jc_true rfl (rfl) ?_))
  refine jc_seq (jc_region (jo_pure rfl (pr_assign rfl) (jo_nil (jq_then (jc_ret ?_)))))
  refine jq_then_ret (j_drop (j_drop ?_))
  exact jq_ret1 rfl () rfl (show (.bool (true) : Value) = (.bool (true)) from rfl) (fun _ h => h)

theorem c_law17_SelectionRanks (xx : (List UInt8) × (List (List UInt8))) (xxv : Value) (l : List ((List UInt8) × (List UInt8))) (lv : Value) (strict : Bool) (hx2 : xx.2.length ≤ 9223372036854775807) (hl : l.length ≤ 9223372036854775807) : Con Tryz.prog 7 #[.agg #[str (xx.1), xxv], lv, .bool (strict)] [.imm (.list .str) (xxv) (xx.2), .imm (.list (.pair .str .str)) (lv) (l)] (fun _ : Unit => .bool (true)) (fun _ => []) := by
 refine con_of_J (args := [.agg #[str (xx.1), xxv], lv, .bool (strict)]) (n := 28) Tryz.func7 rfl (Nat.le_of_ble_eq_true rfl) rfl (fun w0 I0 m0 => ?_)
 show J _ [(0, .agg #[str (xx.1), xxv]), (1, lv), (2, .bool (strict))] [.imm (.list .str) (xxv) (xx.2), .imm (.list (.pair .str .str)) (lv) (l)] _
 have hone : ∀ a ∈ [xx], a.2.length ≤ 9223372036854775807 := fun a ha => by obtain rfl := List.mem_singleton.1 ha; exact hx2
 refine jc_seq (jc_region ?_)
 refine jo_box rfl [str (xx.1), xxv] rfl rfl (fun b1 => ?_)
 refine jo_pure rfl (pr_assign rfl) (jo_nil (jq_then (jc_seq (jc_seq (jc_region ?_)))))
 refine jo_pure rfl (pr_load_box (.agg #[str (xx.1), xxv]) rfl ty_32 (.head _) rfl (by decide) rfl) ?_
 refine jo_buildSliceL (t := (.pair .str (.list .str))) [xx] [.agg #[str (xx.1), xxv]] [[str (xx.1), xxv]] (fun a hf => by simp only [List.zipIdx_cons, List.zipIdx_nil, List.map_toArray, List.map_cons, List.map_nil, hf.ev (show ev _ (.tmp 7) = some (.agg #[str (xx.1), xxv]) from rfl)] <;> rfl) rfl ⟨⟨[str (xx.1)], [xxv], rfl, rfl, ⟨xxv, rfl, .tail _ (.head _)⟩⟩, trivial⟩ Tryz.underlying22 ty_32 rfl rfl rfl rfl (fun g1 => ?_)
 refine j_pub_rowg ?_
 refine jo_callp cal_15 (c_keep_Axes [xx] (.slice (some ⟨g1, 0, none⟩) ([xx]).length (([xx]).length)) (by first | omega | exact hl | exact hone | exact hlen | exact hmem | exact hx.1 | exact hx.2.1 | exact hx.2.2 | (have := rankA_length (a := xx) (l := l) (strict := strict); omega) | (simp only [List.length_cons, List.length_nil]; omega) | decide) (by first | omega | exact hl | exact hone | exact hlen | exact hmem | exact hx.1 | exact hx.2.1 | exact hx.2.2 | (have := rankA_length (a := xx) (l := l) (strict := strict); omega) | (simp only [List.length_cons, List.length_nil]; omega) | decide)) ⟨rfl, trivial⟩ rfl (⟨⟨rfl, .head _⟩, trivial⟩) (fun _ => ?_)
 refine jo_pure rfl (pr_not rfl) ?_
 refine jo_pure rfl (pr_move rfl) (jo_gpure (j := 4) (want := false) rfl rfl rfl rfl (fun hg => pr_move rfl) ?_)
 refine jo_gcall (j := 4) (want := false) rfl rfl rfl cal_16 (fun hg => c_keep_Fields l lv (by first | omega | exact hl | exact hone | exact hlen | exact hmem | exact hx.1 | exact hx.2.1 | exact hx.2.2 | (have := rankA_length (a := xx) (l := l) (strict := strict); omega) | (simp only [List.length_cons, List.length_nil]; omega) | decide)) (fun hg => ⟨evg rfl hg, trivial⟩) rfl (fun _ => ⟨⟨rfl, .tail _ (.tail _ (.tail _ (.head _)))⟩, trivial⟩) ?_
 refine jo_gpure (j := 4) (want := false) rfl rfl rfl rfl (fun hg => pr_not (evg rfl hg)) ?_
 refine jo_pure rfl (pr_pick_or rfl rfl rfl) ?_
 refine jo_nil (jq_then ?_)
 refine jc_cond rfl (fun h1b => ?_) (fun h1b => ?_)
 ·have h1 := (fun q => Or.imp (fun q => id (bt_not q)) (fun q => id (bt_not q)) (bt_or q)) h1b
  refine jc_seq (jc_region (jo_pure rfl (pr_assign rfl) (jo_nil (jq_then (jc_ret ?_)))))
  refine jq_then_ret (j_drop (j_drop (j_drop (j_drop ?_))))
  exact jq_ret1 rfl () rfl (show (.bool (true) : Value) = (.bool (true)) from rfl) (fun _ h => h)
 ·have h1 := (fun q => And.imp (fun q => id (bf_not q)) (fun q => id (bf_not q)) (bf_or q)) h1b
  have hkk : keepA [xx] = true ∧ keepF l = true := by simpa using h1
  have hlen : l.length ≤ 1000000 := by have := keepF_len (hkk.2); omega
  have hmem : ∀ z ∈ l, z.1.length ≤ 20000 ∧ z.2.length ≤ 20000 := fun z hz => by have := keepF_mem (hkk.2) z hz; omega
  have hmem3 : ∀ z ∈ l, z.1.length ≤ 300000 ∧ z.2.length ≤ 300000 := fun z hz => by have := keepF_mem (hkk.2) z hz; omega
  have hx : xx.1.length ≤ 1000000 ∧ (∀ z ∈ xx.2, z.length ≤ 300000) ∧ xx.2.length ≤ 9223372036854775807 := by have h9 := keepA_mem hkk.1 xx (by simp); exact ⟨by omega, fun z hz => Nat.le_trans (h9.2.2 z hz) (by omega), by omega⟩
  refine jc_skip (jq_then (jc_seq ?_))
  by_cases ht : True
  ·skip
   refine jc_held (fun (iq : Value × Value) => [(6, .bool (true))]) (fun iq => [.imm (.list .str) (iq.1) (rankA xx l strict), .imm (.list .str) (iq.2) (rankA xx l strict), .imm (.list (.pair .str (.list .str))) (.slice (some ⟨g1, 0, none⟩) ([xx]).length (([xx]).length)) ([xx]), .box b1 32 [str (xx.1), xxv], .imm (.list .str) (xxv) (xx.2), .imm (.list (.pair .str .str)) (lv) (l)]) [.imm (.list (.pair .str (.list .str))) (.slice (some ⟨g1, 0, none⟩) ([xx]).length (([xx]).length)) ([xx]), .box b1 32 [str (xx.1), xxv], .imm (.list .str) (xxv) (xx.2), .imm (.list (.pair .str .str)) (lv) (l)] mixed (fun lst hlst => ?_) (fun ⟨r2, r1⟩ => ?_)
   ·subst hlst
    refine jh_take (listed' := #[true, false, false, false, false, false, false, false, false, false, false, false, false]) 0 rfl (by kernel_rfl) (by kernel_rfl) (by kernel_rfl) rfl (pr_load_box (.agg #[str (xx.1), xxv]) rfl ty_32 (.tail _ (.head _)) rfl (by decide) rfl) (fun _ h => h) rfl ?_
    refine jh_take (listed' := #[true, true, false, false, false, false, false, false, false, false, false, false, false]) 1 rfl (by kernel_rfl) (by kernel_rfl) (by kernel_rfl) rfl (pr_move rfl) (fun _ h => h) rfl ?_
    refine jh_take (listed' := #[true, true, true, false, false, false, false, false, false, false, false, false, false]) 2 rfl (by kernel_rfl) (by kernel_rfl) (by kernel_rfl) rfl (pr_move rfl) (fun _ h => h) rfl ?_
    refine jh_take (listed' := #[true, true, true, false, true, false, false, false, false, false, false, false, false]) 4 rfl (by kernel_rfl) (by kernel_rfl) (by kernel_rfl) rfl (pr_load_box (.agg #[str (xx.1), xxv]) rfl ty_32 (.tail _ (.head _)) rfl (by decide) rfl) (fun _ h => h) rfl ?_
    refine jh_take (listed' := #[true, true, true, false, true, true, false, false, false, false, false, false, false]) 5 rfl (by kernel_rfl) (by kernel_rfl) (by kernel_rfl) rfl (pr_move rfl) (fun _ h => h) rfl ?_
    refine jh_take (listed' := #[true, true, true, false, true, true, true, false, false, false, false, false, false]) 6 rfl (by kernel_rfl) (by kernel_rfl) (by kernel_rfl) rfl (pr_move rfl) (fun _ h => h) rfl ?_
    refine jh_all [3] (by kernel_rfl) (by simp) (fun i hi => ?_)
    simp only [List.mem_cons, List.not_mem_nil, or_false] at hi
    subst hi
    ·refine jh_op rfl ?_
     have con1 := c_selection_Ranked xx xxv l lv strict (by first | omega | exact hl | exact hone | exact hlen | exact hmem | exact hx.1 | exact hx.2.1 | exact hx.2.2 | (have := rankA_length (a := xx) (l := l) (strict := strict); omega) | (simp only [List.length_cons, List.length_nil]; omega) | decide) (by first | omega | exact hl | exact hone | exact hlen | exact hmem | exact hx.1 | exact hx.2.1 | exact hx.2.2 | (have := rankA_length (a := xx) (l := l) (strict := strict); omega) | (simp only [List.length_cons, List.length_nil]; omega) | decide) (by first | omega | exact hl | exact hone | exact hlen | exact hmem | exact hx.1 | exact hx.2.1 | exact hx.2.2 | (have := rankA_length (a := xx) (l := l) (strict := strict); omega) | (simp only [List.length_cons, List.length_nil]; omega) | decide) (by first | omega | exact hl | exact hone | exact hlen | exact hmem | exact hx.1 | exact hx.2.1 | exact hx.2.2 | (have := rankA_length (a := xx) (l := l) (strict := strict); omega) | (simp only [List.length_cons, List.length_nil]; omega) | decide) (by first | omega | exact hl | exact hone | exact hlen | exact hmem | exact hx.1 | exact hx.2.1 | exact hx.2.2 | (have := rankA_length (a := xx) (l := l) (strict := strict); omega) | (simp only [List.length_cons, List.length_nil]; omega) | decide)
     refine jo_callp cal_34 con1 (by exact ⟨rfl, rfl, rfl, trivial⟩) rfl (by exact ⟨⟨rfl, .tail _ (.tail _ (.head _))⟩, ⟨⟨rfl, .tail _ (.tail _ (.tail _ (.head _)))⟩, trivial⟩⟩) (fun r1 => ?_)
     clear con1
     show J _ _ [.imm (.list .str) (r1) (rankA xx l strict), .imm (.list (.pair .str (.list .str))) (.slice (some ⟨g1, 0, none⟩) ([xx]).length (([xx]).length)) ([xx]), .box b1 32 [str (xx.1), xxv], .imm (.list .str) (xxv) (xx.2), .imm (.list (.pair .str .str)) (lv) (l)] _
     refine jh_in (listed' := #[true, true, true, true, true, true, true, false, false, false, false, false, false]) (fun _ h => Mem.drop1 (h)) rfl ?_
     refine jh_all [7] (by kernel_rfl) (by simp) (fun i hi => ?_)
     simp only [List.mem_cons, List.not_mem_nil, or_false] at hi
     subst hi
     ·refine jh_op rfl ?_
      have con2 := c_ref10_Ranked xx xxv l lv strict (by first | omega | exact hl | exact hone | exact hlen | exact hmem | exact hx.1 | exact hx.2.1 | exact hx.2.2 | (have := rankA_length (a := xx) (l := l) (strict := strict); omega) | (simp only [List.length_cons, List.length_nil]; omega) | decide) (by first | omega | exact hl | exact hone | exact hlen | exact hmem | exact hx.1 | exact hx.2.1 | exact hx.2.2 | (have := rankA_length (a := xx) (l := l) (strict := strict); omega) | (simp only [List.length_cons, List.length_nil]; omega) | decide) (by first | omega | exact hl | exact hone | exact hlen | exact hmem | exact hx.1 | exact hx.2.1 | exact hx.2.2 | (have := rankA_length (a := xx) (l := l) (strict := strict); omega) | (simp only [List.length_cons, List.length_nil]; omega) | decide) (by first | omega | exact hl | exact hone | exact hlen | exact hmem | exact hx.1 | exact hx.2.1 | exact hx.2.2 | (have := rankA_length (a := xx) (l := l) (strict := strict); omega) | (simp only [List.length_cons, List.length_nil]; omega) | decide) (by first | omega | exact hl | exact hone | exact hlen | exact hmem | exact hx.1 | exact hx.2.1 | exact hx.2.2 | (have := rankA_length (a := xx) (l := l) (strict := strict); omega) | (simp only [List.length_cons, List.length_nil]; omega) | decide)
      refine jo_callp cal_35 con2 (by exact ⟨rfl, rfl, rfl, trivial⟩) rfl (by exact ⟨⟨rfl, .tail _ (.tail _ (.tail _ (.head _)))⟩, ⟨⟨rfl, .tail _ (.tail _ (.tail _ (.tail _ (.head _))))⟩, trivial⟩⟩) (fun r2 => ?_)
      clear con2
      show J _ _ [.imm (.list .str) (r2) (rankA xx l strict), .imm (.list .str) (r1) (rankA xx l strict), .imm (.list (.pair .str (.list .str))) (.slice (some ⟨g1, 0, none⟩) ([xx]).length (([xx]).length)) ([xx]), .box b1 32 [str (xx.1), xxv], .imm (.list .str) (xxv) (xx.2), .imm (.list (.pair .str .str)) (lv) (l)] _
      refine jh_in (listed' := #[true, true, true, true, true, true, true, true, false, false, false, false, false]) (fun _ h => Mem.drop1 (Mem.drop1 (h))) rfl ?_
      refine jh_all [8] (by kernel_rfl) (by simp) (fun i hi => ?_)
      simp only [List.mem_cons, List.not_mem_nil, or_false] at hi
      subst hi
      ·refine jh_op rfl ?_
       refine jo_callp cal_33 (c_keep_SameStrings (rankA xx l strict) r1 (rankA xx l strict) r2 (by first | omega | exact hl | exact hone | exact hlen | exact hmem | exact hx.1 | exact hx.2.1 | exact hx.2.2 | (have := rankA_length (a := xx) (l := l) (strict := strict); omega) | (simp only [List.length_cons, List.length_nil]; omega) | decide)) ⟨rfl, rfl, trivial⟩ rfl (⟨⟨rfl, .tail _ (.head _)⟩, ⟨⟨rfl, .head _⟩, trivial⟩⟩) (fun _ => ?_)
       refine jh_in (listed' := #[true, true, true, true, true, true, true, true, true, false, false, false, false]) (fun _ h => Mem.drop1 (Mem.drop1 (h))) rfl ?_
       refine jh_take (listed' := #[true, true, true, true, true, true, true, true, true, true, false, false, false]) 9 rfl (by kernel_rfl) (by kernel_rfl) (by kernel_rfl) rfl (pr_move rfl) (fun _ h => Mem.drop1 (Mem.drop1 (h))) rfl ?_
       refine jh_all [10] (by kernel_rfl) (by simp) (fun i hi => ?_)
       simp only [List.mem_cons, List.not_mem_nil, or_false] at hi
       subst hi
       ·refine jh_op rfl ?_
        refine jo_run (j := 9) (want := true) rfl rfl (decide_eq_true rfl) ?_
        refine jo_callp cal_36 (c_law17_awake) trivial rfl (trivial) (fun _ => ?_)
        refine jh_in (listed' := #[true, true, true, true, true, true, true, true, true, true, true, false, false]) (fun _ h => Mem.drop1 (Mem.drop1 (h))) rfl ?_
        refine jh_take (listed' := #[true, true, true, true, true, true, true, true, true, true, true, true, false]) 11 rfl (by kernel_rfl) (by kernel_rfl) (by kernel_rfl) rfl (pr_pick_t rfl (decide_eq_true rfl) rfl) (fun _ h => Mem.drop1 (Mem.drop1 (h))) rfl ?_
        refine jh_take (listed' := #[true, true, true, true, true, true, true, true, true, true, true, true, true]) 12 rfl (by kernel_rfl) (by kernel_rfl) (by kernel_rfl) rfl (pr_assign rfl) (fun _ h => Mem.drop1 (Mem.drop1 (h))) rfl ?_
        show J _ _ _ _
        refine j_pull5 ?_
        refine j_pull5 ?_
        refine j_pull5 ?_
        refine j_pull5 ?_
        refine j_pull5 ?_
        refine j_pull5 ?_
        show JH _ _ _ _ _ _ _ _
        exact jh_done ⟨r2, r1⟩ (by kernel_rfl) ⟨rfl, trivial⟩ (fun _ h => h)
   ·skip
    show J _ [(6, .bool (true))] [.imm (.list .str) (r2) (rankA xx l strict), .imm (.list .str) (r1) (rankA xx l strict), .imm (.list (.pair .str (.list .str))) (.slice (some ⟨g1, 0, none⟩) ([xx]).length (([xx]).length)) ([xx]), .box b1 32 [str (xx.1), xxv], .imm (.list .str) (xxv) (xx.2), .imm (.list (.pair .str .str)) (lv) (l)] _
    refine jq_then (jc_ret (j_drop (j_drop (j_drop (j_drop ?_)))))
    refine j_drop (j_drop ?_)
    exact jq_ret1 rfl () rfl (show (.bool (true) : Value) = (.bool (true)) from congrArg Value.bool (by simp)) (fun _ h => h)
  ·skip
   exact absurd trivial ht

end Go.Proofs.YtjbcomdljmfgjaaGreatDoor
