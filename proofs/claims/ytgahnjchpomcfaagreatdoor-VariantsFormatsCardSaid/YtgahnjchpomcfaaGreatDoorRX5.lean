/-
  VariantsFormats: for every input the law returns true, and each argument reads behind the call as it read before. No conditions.
-/
import Derived.Test.YtgahnjchpomcfaaGreatDoorRows
import Derived.Test.YtgahnjchpomcfaaGreatDoorXK4
import Derived.Test.YtgahnjchpomcfaaGreatDoorFacts
import Derived.Test.YtgahnjchpomcfaaGreatDoorWit
import Derived.Test.YtgahnjchpomcfaaGreatDoorCards
import Derived.Test.YtgahnjchpomcfaaGreatDoorTie
import Derived.WalkKit
import Derived.ProofKit
import Derived.OpenShut
import Derived.ShutString
import Derived.LaidMore
import Derived.Lay
import Derived.SevenTiedAt
import Derived.Stop.Joined
namespace Go.Proofs.YtgahnjchpomcfaaGreatDoor
namespace variantsFormats
open Go.ChangeShapes Go.WideShapes Go.ChangeAt Go.RowKit
open Go.ChangeMaps (open_string shut_string)
open Go.Sep
set_option linter.unusedVariables false
set_option linter.unusedSimpArgs false
theorem own : ownKnob Tryz.prog.godebug = none := by kernel_rfl
set_option maxRecDepth 100000 in
theorem lifted (os : Os) (started : os.Started) (H : Type) (enc : TypeId × Value → H) :
    ReturnsInHanded {} Tryz.checked os 6 .any (fun w args => (Rows.variantsFormatsSpec.pre enc Tryz.prog Tryz.f6 Rows.variantsFormatsRow.domain false w args ∧ laidMetH Tryz.prog Rows.variantsFormatsRow.laid w) ∧ sizedMet enc Tryz.prog Tryz.f6 (OpenSpec.ofChange Rows.variantsFormatsSpec) false w args) (Rows.variantsFormatsSpec.post enc Tryz.prog Tryz.f6 false true false false) := by
  refine returnsInHanded_of_change_and (C := Tryz.checked) (X := fun w _ => laidMetH Tryz.prog Rows.variantsFormatsRow.laid w) (fun _ _ _ hh h => h.of_heap hh) own started (by kernel_rfl) Tryz.func6
    (ChangeSpec.witness_shaped (enc := enc) (C := Tryz.checked) (os := os) (X := fun w _ => laidMetH Tryz.prog Rows.variantsFormatsRow.laid w) false (World.laidAll Tryz.prog os Rows.variantsFormatsRow.laid) #[.slice none 0 0] 8 (World.laidAll_os _ _ _)
      (wit_shaped os _) (by kernel_rfl) (by kernel_rfl) (by kernel_rfl)
      (wit_met os _)) ?_
  intro W base args ds gs before hval0 hW hcnd _ hL _
  have hval : ∀ (j : Nat) t v, Tryz.f6.params[j]? = some t → args[j]? = some v → Value.okWide Tryz.prog W .any base t v := hval0
  have hW' := hW
  obtain ⟨p, q, hA0, hV, rfl, hfz, hnd⟩ := hW
  have hA : DataW.TrodAll enc Tryz.prog W 0 (fun _ => true) true Tryz.f6.params.toList args.toList ds p := hA0
  rw [Tryz.params6] at hA hval
  obtain ⟨v0, vs0, d0, ds0, p0, q0, hargs, rfl, rfl, h0, r0⟩ := trodAll_cons hA
  obtain ⟨rfl, rfl, rfl⟩ := trodAll_nil r0
  obtain rfl : args = #[v0] := by cases args; simp_all
  obtain ⟨rfl, rfl⟩ := trodVars_none hV
  obtain ⟨a0, b0, m0, f0⟩ := open_list (opens_list Tryz.underlying23 (by kernel_rfl) (opens_struct Tryz.underlying48 (by kernel_rfl) (opensF_cons rfl (by kernel_rfl) (opens_str Tryz.underlying9) rfl (opensF_one rfl (by kernel_rfl) (opens_list Tryz.underlying45 (by kernel_rfl) (opens_str Tryz.underlying9)))))) Tryz.underlying23 (hval 0 23 v0 rfl rfl) h0
  clear hA0 hval0
  simp only [List.append_nil] at hW'
  have hcall := c_law15_VariantsFormats a0 v0 (by have := m0; simp only [maxLen] at this; omega) (fun a ha => by have := (f0.2 a ha).2.1; simp only [maxLen] at this; omega)  W (Old W) [] ⟨fun _ h => h, List.nodup_nil, fun _ h => (List.not_mem_nil h).elim, fun _ h => (List.not_mem_nil h).elim⟩ (Sats.nil_append (As := [.imm (.list (.pair .str (.list .str))) v0 a0]) ⟨[], [], rfl, ⟨rfl, b0⟩, rfl⟩ rfl)
  refine hcall.mono fun e W' hE => ?_
  obtain ⟨_, I', m', rfl, hE, _⟩ := hE
  have bel : Below W.heap.size W W' := ⟨hE.os, hE.tape, hE.output, hE.size, fun k hk => hE.block k hk List.not_mem_nil⟩
  exact ⟨_, rfl, _, _, _, [], _, [], hW', trodAll_mk1 (shut_bool Tryz.underlying4 _), (trodAll_cons_mk (Below.trod pf_laid (by kernel_rfl) (of_decide_eq_true (by kernel_rfl)) h0 bel (fun x hx => hW'.lt x (by simp [hx]))) trodAll_mk0), rfl, bel.frame _, fun h => by cases h⟩
end variantsFormats
theorem variantsFormats_f_inPlace : (Rows.variantsFormatsRow.inPlace == Tryz.prog.inPlace 6) = true := by kernel_rfl
theorem variantsFormats_f_unfollowed : (Rows.variantsFormatsRow.unfollowed == Tryz.prog.unfollowed 6) = true := by kernel_rfl
theorem variantsFormats_f_recurses : (Rows.variantsFormatsRow.recurses == Tryz.prog.recurses 6) = true := by kernel_rfl
theorem variantsFormats_f_named : (Rows.variantsFormatsRow.named == Tryz.prog.varsNamed 6) = true := by kernel_rfl
theorem variantsFormats_closed : joinedFacts Tryz.prog 6 Tryz.f6 Rows.variantsFormatsSpec Rows.variantsFormatsRow = true := by
  unfold joinedFacts
  rw [pf_laid, pf_maps, pf_stops, pf_knobs, pf_keys, pf_heard, pf_enter, pf_lifts, variantsFormats_f_inPlace, variantsFormats_f_unfollowed, variantsFormats_f_recurses, variantsFormats_f_named]
  kernel_rfl
theorem variantsFormats_named : Tryz.pinned.checked.prog.funcNamed Rows.variantsFormatsRow.func = some 6 := by kernel_rfl
theorem variantsFormats_inst : Tryz.f6.isInstance Tryz.pinned.checked.prog Rows.variantsFormatsRow.origin Rows.variantsFormatsRow.targs := of_decide_eq_true (by kernel_rfl)
theorem variantsFormats_wrap : Tryz.f6.isWrapper Tryz.pinned.checked.prog Rows.variantsFormatsRow.wrapper Rows.variantsFormatsRow.mainSum := by unfold Func.isWrapper; first | (rw [if_pos (by decide +kernel)]; kernel_rfl) | (rw [if_neg (by decide +kernel)]; exact ⟨rfl, rfl⟩)
theorem variantsFormats_over : Rows.variantsFormatsRow.holds Tryz.pinned (OpenSpec.ofChange Rows.variantsFormatsSpec) :=
  OpenClaim.holds_of_wide 6 Tryz.f6 rfl rfl rfl rfl rfl rfl rfl ⟨rfl, rfl, rfl, rfl, rfl⟩ rfl rfl rfl rfl rfl variantsFormats_named Tryz.func6 variantsFormats_closed
    variantsFormats_inst variantsFormats_wrap
    (fun os started H enc _ => variantsFormats.lifted os started H enc)
theorem variantsFormats_holds : Rows.VariantsFormatsSaid := variantsFormats_over
#print axioms variantsFormats_holds
theorem variantsFormats_text : Rows.variantsFormatsRow.wfByText (OpenSpec.ofChange Rows.variantsFormatsSpec) = true := by kernel_rfl
theorem variantsFormats_goes : false = Rows.variantsFormatsRow.goesBy Tryz.pinned.checked.prog := by kernel_rfl
theorem variantsFormats_fn : Tryz.prog.funcNamed "variantproxy/variantproxylaw15.VariantsFormats" = some 6 := by kernel_rfl
theorem variantsFormats_stand : ([23].all fun u => !Tryz.prog.wantsStandIn u) = true := by kernel_rfl
theorem variantsFormats_card : Rows.VariantsFormatsCardSaid :=
  Claim7.holds_tied_plain_at .later [] [.data, .pinned] true (true, "a8ffd41a00bfd6e662060ee4e23947f233d01c4ad4195a33699820dd701ea048") false variantsFormats_over (fun _ h => by cases h) variantsFormats_text (fun _ h => by cases h) variantsFormats_row_tie rfl ⟨rfl, rfl⟩ pf_main rfl
    (fun f fn hf hfn => by
      obtain rfl : f = 6 := Option.some.inj (variantsFormats_fn.symm.trans hf) |>.symm
      obtain rfl : fn = Tryz.f6 := (Option.some.inj (Tryz.func6.symm.trans hfn)).symm
      exact ⟨pf_looks, fun j t ht => by
        rw [Tryz.params6] at ht
        have hm : t ∈ [23] := by have := Array.mem_of_getElem? ht; simpa using this
        exact (show Tryz.prog.wantsStandIn t = false by simpa using List.all_eq_true.1 variantsFormats_stand t hm)⟩)
    variantsFormats_goes
#print axioms variantsFormats_card
end Go.Proofs.YtgahnjchpomcfaaGreatDoor
