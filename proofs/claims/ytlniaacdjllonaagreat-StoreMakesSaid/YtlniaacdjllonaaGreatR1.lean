/-
  StoreMakes: for every input the law returns true, and each argument reads behind the call as it read before. No conditions.
-/
import Derived.Test.YtlniaacdjllonaaGreatRows
import Derived.Test.YtlniaacdjllonaaGreatXK13
import Derived.Test.YtlniaacdjllonaaGreatFacts
import Derived.WalkKit
import Derived.ProofKit
import Derived.OpenShut
import Derived.ShutString
namespace Go.Proofs.YtlniaacdjllonaaGreat
namespace storeMakes
open Go.ChangeShapes Go.WideShapes Go.ChangeAt Go.RowKit
open Go.ChangeMaps (open_string shut_string)
open Go.Sep
set_option linter.unusedVariables false
set_option linter.unusedSimpArgs false
theorem own : ownKnob Tryz.prog.godebug = none := by kernel_rfl
set_option maxRecDepth 100000 in
theorem lifted (os : Os) (started : os.Started) (H : Type) (enc : TypeId × Value → H) :
    ReturnsInHanded {} Tryz.checked os 3 .any (Rows.storeMakesSpec.pre6 enc Tryz.prog Tryz.f3 Rows.storeMakesRow.domain false) (Rows.storeMakesSpec.post enc Tryz.prog Tryz.f3 false true false false) := by
  refine returnsInHanded_of_change (C := Tryz.checked) own started (by kernel_rfl) Tryz.func3
    (ChangeSpec.witness6 (enc := enc) (C := Tryz.checked) false ⟨#[], #[.int .i64 0, .int .i64 0, .int .i64 0], []⟩ 8 (by kernel_rfl) (by kernel_rfl) (by kernel_rfl) (by kernel_rfl)) ?_
  intro W base args ds gs before hval0 hW hcnd _
  have hval : ∀ (j : Nat) t v, Tryz.f3.params[j]? = some t → args[j]? = some v → Value.okWide Tryz.prog W .any base t v := hval0
  have hW' := hW
  obtain ⟨p, q, hA0, hV, rfl, hfz, hnd⟩ := hW
  have hA : DataW.TrodAll enc Tryz.prog W 0 (fun _ => true) true Tryz.f3.params.toList args.toList ds p := hA0
  rw [Tryz.params3] at hA hval
  obtain ⟨v0, vs0, d0, ds0, p0, q0, hargs, rfl, rfl, h0, r0⟩ := trodAll_cons hA
  obtain ⟨v1, vs1, d1, ds1, p1, q1, rfl, rfl, rfl, h1, r1⟩ := trodAll_cons r0
  obtain ⟨v2, vs2, d2, ds2, p2, q2, rfl, rfl, rfl, h2, r2⟩ := trodAll_cons r1
  obtain ⟨rfl, rfl, rfl⟩ := trodAll_nil r2
  obtain rfl : args = #[v0, v1, v2] := by cases args; simp_all
  obtain ⟨rfl, rfl⟩ := trodVars_none hV
  obtain ⟨a0, rfl, rfl, rfl, w0⟩ := open_int Tryz.underlying3 (hval 0 3 v0 rfl rfl) h0
  obtain ⟨a1, rfl, rfl, rfl, w1⟩ := open_int Tryz.underlying3 (hval 1 3 v1 rfl rfl) h1
  obtain ⟨a2, rfl, rfl, rfl, w2⟩ := open_int Tryz.underlying3 (hval 2 3 v2 rfl rfl) h2
  clear hA0 hval0
  simp only [List.append_nil] at hW'
  have hcall := c_law28_StoreMakes a0 a1 a2  W (Old W) [] ⟨fun _ h => h, List.nodup_nil, fun _ h => (List.not_mem_nil h).elim, fun _ h => (List.not_mem_nil h).elim⟩ rfl
  refine hcall.mono fun e W' hE => ?_
  obtain ⟨_, I', m', rfl, hE, _⟩ := hE
  have bel : Below W.heap.size W W' := ⟨hE.os, hE.tape, hE.output, hE.size, fun k hk => hE.block k hk List.not_mem_nil⟩
  exact ⟨_, rfl, _, _, _, [], _, [], hW', trodAll_mk1 (shut_bool Tryz.underlying4 _), (trodAll_cons_mk (shut_int Tryz.underlying3 w0) (trodAll_cons_mk (shut_int Tryz.underlying3 w1) (trodAll_cons_mk (shut_int Tryz.underlying3 w2) trodAll_mk0))), rfl, bel.frame _, fun h => by cases h⟩
end storeMakes
theorem storeMakes_f_inPlace : (Rows.storeMakesRow.inPlace == Tryz.prog.inPlace 3) = true := by kernel_rfl
theorem storeMakes_f_unfollowed : (Rows.storeMakesRow.unfollowed == Tryz.prog.unfollowed 3) = true := by kernel_rfl
theorem storeMakes_f_recurses : (Rows.storeMakesRow.recurses == Tryz.prog.recurses 3) = true := by kernel_rfl
theorem storeMakes_f_named : (Rows.storeMakesRow.named == Tryz.prog.varsNamed 3) = true := by kernel_rfl
theorem storeMakes_closed : joinedFacts Tryz.prog 3 Tryz.f3 Rows.storeMakesSpec Rows.storeMakesRow = true := by
  unfold joinedFacts
  rw [pf_laid, pf_maps, pf_stops, pf_knobs, pf_keys, pf_heard, pf_enter, pf_lifts, storeMakes_f_inPlace, storeMakes_f_unfollowed, storeMakes_f_recurses, storeMakes_f_named]
  kernel_rfl
theorem storeMakes_named : Tryz.pinned.checked.prog.funcNamed Rows.storeMakesRow.func = some 3 := by kernel_rfl
theorem storeMakes_inst : Tryz.f3.isInstance Tryz.pinned.checked.prog Rows.storeMakesRow.origin Rows.storeMakesRow.targs := of_decide_eq_true (by kernel_rfl)
theorem storeMakes_wrap : Tryz.f3.isWrapper Tryz.pinned.checked.prog Rows.storeMakesRow.wrapper Rows.storeMakesRow.mainSum := by unfold Func.isWrapper; first | (rw [if_pos (by decide +kernel)]; kernel_rfl) | (rw [if_neg (by decide +kernel)]; exact ⟨rfl, rfl⟩)
theorem storeMakes_over : Rows.storeMakesRow.holds Tryz.pinned (OpenSpec.ofChange Rows.storeMakesSpec) :=
  OpenClaim.holds_of_wide 3 Tryz.f3 rfl rfl rfl rfl rfl rfl rfl ⟨rfl, rfl, rfl, rfl, rfl⟩ rfl rfl rfl rfl rfl storeMakes_named Tryz.func3 storeMakes_closed
    storeMakes_inst storeMakes_wrap
    (fun os started H enc _ => storeMakes.lifted os started H enc)
theorem storeMakes_holds : Rows.StoreMakesSaid := storeMakes_over
#print axioms storeMakes_holds
end Go.Proofs.YtlniaacdjllonaaGreat
