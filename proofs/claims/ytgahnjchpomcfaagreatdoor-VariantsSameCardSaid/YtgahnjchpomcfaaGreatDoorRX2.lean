/-
  VariantsSame: for every input the law returns true, and each argument reads behind the call as it read before. No conditions.
-/
import Derived.Test.YtgahnjchpomcfaaGreatDoorRows
import Derived.Test.YtgahnjchpomcfaaGreatDoorXK4
import Derived.Test.YtgahnjchpomcfaaGreatDoorFacts
import Derived.Test.YtgahnjchpomcfaaGreatDoorWit
import Derived.Test.YtgahnjchpomcfaaGreatDoorCards
import Derived.Test.YtgahnjchpomcfaaGreatDoorTie
import Derived.WalkKit
import Derived.ProofKit
import Derived.OpenShut
import Derived.ShutString
import Derived.LaidMore
import Derived.Lay
import Derived.SevenTiedAt
import Derived.Stop.Joined
namespace Go.Proofs.YtgahnjchpomcfaaGreatDoor
namespace variantsSame
open Go.ChangeShapes Go.WideShapes Go.ChangeAt Go.RowKit
open Go.ChangeMaps (open_string shut_string)
open Go.Sep
set_option linter.unusedVariables false
set_option linter.unusedSimpArgs false
theorem own : ownKnob Tryz.prog.godebug = none := by kernel_rfl
set_option maxRecDepth 100000 in
theorem lifted (os : Os) (started : os.Started) (H : Type) (enc : TypeId × Value → H) :
    ReturnsInHanded {} Tryz.checked os 9 .any (fun w args => (Rows.variantsSameSpec.pre enc Tryz.prog Tryz.f9 Rows.variantsSameRow.domain false w args ∧ laidMetH Tryz.prog Rows.variantsSameRow.laid w) ∧ sizedMet enc Tryz.prog Tryz.f9 (OpenSpec.ofChange Rows.variantsSameSpec) false w args) (Rows.variantsSameSpec.post enc Tryz.prog Tryz.f9 false true false false) := by
  refine returnsInHanded_of_change_and (C := Tryz.checked) (X := fun w _ => laidMetH Tryz.prog Rows.variantsSameRow.laid w) (fun _ _ _ hh h => h.of_heap hh) own started (by kernel_rfl) Tryz.func9
    (ChangeSpec.witness_shaped (enc := enc) (C := Tryz.checked) (os := os) (X := fun w _ => laidMetH Tryz.prog Rows.variantsSameRow.laid w) false (World.laidAll Tryz.prog os Rows.variantsSameRow.laid) #[.string ByteArray.empty, .string ByteArray.empty, .string ByteArray.empty, .string ByteArray.empty] 8 (World.laidAll_os _ _ _)
      (wit_shaped os _) (by kernel_rfl) (by kernel_rfl) (by kernel_rfl)
      (wit_met os _)) ?_
  intro W base args ds gs before hval0 hW hcnd _ hL _
  have hval : ∀ (j : Nat) t v, Tryz.f9.params[j]? = some t → args[j]? = some v → Value.okWide Tryz.prog W .any base t v := hval0
  have hW' := hW
  obtain ⟨p, q, hA0, hV, rfl, hfz, hnd⟩ := hW
  have hA : DataW.TrodAll enc Tryz.prog W 0 (fun _ => true) true Tryz.f9.params.toList args.toList ds p := hA0
  rw [Tryz.params9] at hA hval
  obtain ⟨v0, vs0, d0, ds0, p0, q0, hargs, rfl, rfl, h0, r0⟩ := trodAll_cons hA
  obtain ⟨v1, vs1, d1, ds1, p1, q1, rfl, rfl, rfl, h1, r1⟩ := trodAll_cons r0
  obtain ⟨v2, vs2, d2, ds2, p2, q2, rfl, rfl, rfl, h2, r2⟩ := trodAll_cons r1
  obtain ⟨v3, vs3, d3, ds3, p3, q3, rfl, rfl, rfl, h3, r3⟩ := trodAll_cons r2
  obtain ⟨rfl, rfl, rfl⟩ := trodAll_nil r3
  obtain rfl : args = #[v0, v1, v2, v3] := by cases args; simp_all
  obtain ⟨rfl, rfl⟩ := trodVars_none hV
  obtain ⟨a0, rfl, rfl, rfl, w0⟩ := open_string Tryz.underlying9 (hval 0 9 v0 rfl rfl) h0
  obtain ⟨a1, rfl, rfl, rfl, w1⟩ := open_string Tryz.underlying9 (hval 1 9 v1 rfl rfl) h1
  obtain ⟨a2, rfl, rfl, rfl, w2⟩ := open_string Tryz.underlying9 (hval 2 9 v2 rfl rfl) h2
  obtain ⟨a3, rfl, rfl, rfl, w3⟩ := open_string Tryz.underlying9 (hval 3 9 v3 rfl rfl) h3
  clear hA0 hval0
  simp only [List.append_nil] at hW'
  have hcall := c_law15_VariantsSame a0.data.toList a1.data.toList a2.data.toList a3.data.toList  W (Old W) [] ⟨fun _ h => h, List.nodup_nil, fun _ h => (List.not_mem_nil h).elim, fun _ h => (List.not_mem_nil h).elim⟩ rfl
  simp only [str_data] at hcall
  refine hcall.mono fun e W' hE => ?_
  obtain ⟨_, I', m', rfl, hE, _⟩ := hE
  have bel : Below W.heap.size W W' := ⟨hE.os, hE.tape, hE.output, hE.size, fun k hk => hE.block k hk List.not_mem_nil⟩
  exact ⟨_, rfl, _, _, _, [], _, [], hW', trodAll_mk1 (shut_bool Tryz.underlying4 _), (trodAll_cons_mk (shut_string Tryz.underlying9 w0) (trodAll_cons_mk (shut_string Tryz.underlying9 w1) (trodAll_cons_mk (shut_string Tryz.underlying9 w2) (trodAll_cons_mk (shut_string Tryz.underlying9 w3) trodAll_mk0)))), rfl, bel.frame _, fun h => by cases h⟩
end variantsSame
theorem variantsSame_f_inPlace : (Rows.variantsSameRow.inPlace == Tryz.prog.inPlace 9) = true := by kernel_rfl
theorem variantsSame_f_unfollowed : (Rows.variantsSameRow.unfollowed == Tryz.prog.unfollowed 9) = true := by kernel_rfl
theorem variantsSame_f_recurses : (Rows.variantsSameRow.recurses == Tryz.prog.recurses 9) = true := by kernel_rfl
theorem variantsSame_f_named : (Rows.variantsSameRow.named == Tryz.prog.varsNamed 9) = true := by kernel_rfl
theorem variantsSame_closed : joinedFacts Tryz.prog 9 Tryz.f9 Rows.variantsSameSpec Rows.variantsSameRow = true := by
  unfold joinedFacts
  rw [pf_laid, pf_maps, pf_stops, pf_knobs, pf_keys, pf_heard, pf_enter, pf_lifts, variantsSame_f_inPlace, variantsSame_f_unfollowed, variantsSame_f_recurses, variantsSame_f_named]
  kernel_rfl
theorem variantsSame_named : Tryz.pinned.checked.prog.funcNamed Rows.variantsSameRow.func = some 9 := by kernel_rfl
theorem variantsSame_inst : Tryz.f9.isInstance Tryz.pinned.checked.prog Rows.variantsSameRow.origin Rows.variantsSameRow.targs := of_decide_eq_true (by kernel_rfl)
theorem variantsSame_wrap : Tryz.f9.isWrapper Tryz.pinned.checked.prog Rows.variantsSameRow.wrapper Rows.variantsSameRow.mainSum := by unfold Func.isWrapper; first | (rw [if_pos (by decide +kernel)]; kernel_rfl) | (rw [if_neg (by decide +kernel)]; exact ⟨rfl, rfl⟩)
theorem variantsSame_over : Rows.variantsSameRow.holds Tryz.pinned (OpenSpec.ofChange Rows.variantsSameSpec) :=
  OpenClaim.holds_of_wide 9 Tryz.f9 rfl rfl rfl rfl rfl rfl rfl ⟨rfl, rfl, rfl, rfl, rfl⟩ rfl rfl rfl rfl rfl variantsSame_named Tryz.func9 variantsSame_closed
    variantsSame_inst variantsSame_wrap
    (fun os started H enc _ => variantsSame.lifted os started H enc)
theorem variantsSame_holds : Rows.VariantsSameSaid := variantsSame_over
#print axioms variantsSame_holds
theorem variantsSame_text : Rows.variantsSameRow.wfByText (OpenSpec.ofChange Rows.variantsSameSpec) = true := by kernel_rfl
theorem variantsSame_goes : false = Rows.variantsSameRow.goesBy Tryz.pinned.checked.prog := by kernel_rfl
theorem variantsSame_fn : Tryz.prog.funcNamed "variantproxy/variantproxylaw15.VariantsSame" = some 9 := by kernel_rfl
theorem variantsSame_stand : ([9, 9, 9, 9].all fun u => !Tryz.prog.wantsStandIn u) = true := by kernel_rfl
theorem variantsSame_card : Rows.VariantsSameCardSaid :=
  Claim7.holds_tied_plain_at .later [] [.data, .pinned] true (true, "a8ffd41a00bfd6e662060ee4e23947f233d01c4ad4195a33699820dd701ea048") false variantsSame_over (fun _ h => by cases h) variantsSame_text (fun _ h => by cases h) variantsSame_row_tie rfl ⟨rfl, rfl⟩ pf_main rfl
    (fun f fn hf hfn => by
      obtain rfl : f = 9 := Option.some.inj (variantsSame_fn.symm.trans hf) |>.symm
      obtain rfl : fn = Tryz.f9 := (Option.some.inj (Tryz.func9.symm.trans hfn)).symm
      exact ⟨pf_looks, fun j t ht => by
        rw [Tryz.params9] at ht
        have hm : t ∈ [9, 9, 9, 9] := by have := Array.mem_of_getElem? ht; simpa using this
        exact (show Tryz.prog.wantsStandIn t = false by simpa using List.all_eq_true.1 variantsSame_stand t hm)⟩)
    variantsSame_goes
#print axioms variantsSame_card
end Go.Proofs.YtgahnjchpomcfaaGreatDoor
