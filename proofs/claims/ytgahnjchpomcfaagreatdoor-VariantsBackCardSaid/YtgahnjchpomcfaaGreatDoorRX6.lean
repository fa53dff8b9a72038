/-
  VariantsBack: for every input the law returns true, and each argument reads behind the call as it read before. No conditions.
-/
import Derived.Test.YtgahnjchpomcfaaGreatDoorRows
import Derived.Test.YtgahnjchpomcfaaGreatDoorXK4
import Derived.Test.YtgahnjchpomcfaaGreatDoorFacts
import Derived.Test.YtgahnjchpomcfaaGreatDoorWit
import Derived.Test.YtgahnjchpomcfaaGreatDoorCards
import Derived.Test.YtgahnjchpomcfaaGreatDoorTie
import Derived.WalkKit
import Derived.ProofKit
import Derived.OpenShut
import Derived.ShutString
import Derived.LaidMore
import Derived.Lay
import Derived.SevenTiedAt
import Derived.Stop.Joined
namespace Go.Proofs.YtgahnjchpomcfaaGreatDoor
namespace variantsBack
open Go.ChangeShapes Go.WideShapes Go.ChangeAt Go.RowKit
open Go.ChangeMaps (open_string shut_string)
open Go.Sep
set_option linter.unusedVariables false
set_option linter.unusedSimpArgs false
theorem own : ownKnob Tryz.prog.godebug = none := by kernel_rfl
set_option maxRecDepth 100000 in
theorem lifted (os : Os) (started : os.Started) (H : Type) (enc : TypeId × Value → H) :
    ReturnsInHanded {} Tryz.checked os 7 .any (fun w args => (Rows.variantsBackSpec.pre enc Tryz.prog Tryz.f7 Rows.variantsBackRow.domain false w args ∧ laidMetH Tryz.prog Rows.variantsBackRow.laid w) ∧ sizedMet enc Tryz.prog Tryz.f7 (OpenSpec.ofChange Rows.variantsBackSpec) false w args) (Rows.variantsBackSpec.post enc Tryz.prog Tryz.f7 false true false false) := by
  refine returnsInHanded_of_change_and (C := Tryz.checked) (X := fun w _ => laidMetH Tryz.prog Rows.variantsBackRow.laid w) (fun _ _ _ hh h => h.of_heap hh) own started (by kernel_rfl) Tryz.func7
    (ChangeSpec.witness_shaped (enc := enc) (C := Tryz.checked) (os := os) (X := fun w _ => laidMetH Tryz.prog Rows.variantsBackRow.laid w) false (World.laidAll Tryz.prog os Rows.variantsBackRow.laid) #[.slice none 0 0] 8 (World.laidAll_os _ _ _)
      (wit_shaped os _) (by kernel_rfl) (by kernel_rfl) (by kernel_rfl)
      (wit_met os _)) ?_
  intro W base args ds gs before hval0 hW hcnd _ hL _
  have hval : ∀ (j : Nat) t v, Tryz.f7.params[j]? = some t → args[j]? = some v → Value.okWide Tryz.prog W .any base t v := hval0
  have hW' := hW
  obtain ⟨p, q, hA0, hV, rfl, hfz, hnd⟩ := hW
  have hA : DataW.TrodAll enc Tryz.prog W 0 (fun _ => true) true Tryz.f7.params.toList args.toList ds p := hA0
  rw [Tryz.params7] at hA hval
  obtain ⟨v0, vs0, d0, ds0, p0, q0, hargs, rfl, rfl, h0, r0⟩ := trodAll_cons hA
  obtain ⟨rfl, rfl, rfl⟩ := trodAll_nil r0
  obtain rfl : args = #[v0] := by cases args; simp_all
  obtain ⟨rfl, rfl⟩ := trodVars_none hV
  obtain ⟨a0, b0, m0, f0⟩ := open_list (opens_list Tryz.underlying23 (by kernel_rfl) (opens_struct Tryz.underlying48 (by kernel_rfl) (opensF_cons rfl (by kernel_rfl) (opens_str Tryz.underlying9) rfl (opensF_one rfl (by kernel_rfl) (opens_list Tryz.underlying45 (by kernel_rfl) (opens_str Tryz.underlying9)))))) Tryz.underlying23 (hval 0 23 v0 rfl rfl) h0
  clear hA0 hval0
  simp only [List.append_nil] at hW'
  have hcall := c_law15_VariantsBack a0 v0 (by have := m0; simp only [maxLen] at this; omega) (fun a ha => by have := (f0.2 a ha).2.1; simp only [maxLen] at this; omega)  W (Old W) [] ⟨fun _ h => h, List.nodup_nil, fun _ h => (List.not_mem_nil h).elim, fun _ h => (List.not_mem_nil h).elim⟩ (Sats.nil_append (As := [.imm (.list (.pair .str (.list .str))) v0 a0]) ⟨[], [], rfl, ⟨rfl, b0⟩, rfl⟩ rfl)
  refine hcall.mono fun e W' hE => ?_
  obtain ⟨_, I', m', rfl, hE, _⟩ := hE
  have bel : Below W.heap.size W W' := ⟨hE.os, hE.tape, hE.output, hE.size, fun k hk => hE.block k hk List.not_mem_nil⟩
  exact ⟨_, rfl, _, _, _, [], _, [], hW', trodAll_mk1 (shut_bool Tryz.underlying4 _), (trodAll_cons_mk (Below.trod pf_laid (by kernel_rfl) (of_decide_eq_true (by kernel_rfl)) h0 bel (fun x hx => hW'.lt x (by simp [hx]))) trodAll_mk0), rfl, bel.frame _, fun h => by cases h⟩
end variantsBack
theorem variantsBack_f_inPlace : (Rows.variantsBackRow.inPlace == Tryz.prog.inPlace 7) = true := by kernel_rfl
theorem variantsBack_f_unfollowed : (Rows.variantsBackRow.unfollowed == Tryz.prog.unfollowed 7) = true := by kernel_rfl
theorem variantsBack_f_recurses : (Rows.variantsBackRow.recurses == Tryz.prog.recurses 7) = true := by kernel_rfl
theorem variantsBack_f_named : (Rows.variantsBackRow.named == Tryz.prog.varsNamed 7) = true := by kernel_rfl
theorem variantsBack_closed : joinedFacts Tryz.prog 7 Tryz.f7 Rows.variantsBackSpec Rows.variantsBackRow = true := by
  unfold joinedFacts
  rw [pf_laid, pf_maps, pf_stops, pf_knobs, pf_keys, pf_heard, pf_enter, pf_lifts, variantsBack_f_inPlace, variantsBack_f_unfollowed, variantsBack_f_recurses, variantsBack_f_named]
  kernel_rfl
theorem variantsBack_named : Tryz.pinned.checked.prog.funcNamed Rows.variantsBackRow.func = some 7 := by kernel_rfl
theorem variantsBack_inst : Tryz.f7.isInstance Tryz.pinned.checked.prog Rows.variantsBackRow.origin Rows.variantsBackRow.targs := of_decide_eq_true (by kernel_rfl)
theorem variantsBack_wrap : Tryz.f7.isWrapper Tryz.pinned.checked.prog Rows.variantsBackRow.wrapper Rows.variantsBackRow.mainSum := by unfold Func.isWrapper; first | (rw [if_pos (by decide +kernel)]; kernel_rfl) | (rw [if_neg (by decide +kernel)]; exact ⟨rfl, rfl⟩)
theorem variantsBack_over : Rows.variantsBackRow.holds Tryz.pinned (OpenSpec.ofChange Rows.variantsBackSpec) :=
  OpenClaim.holds_of_wide 7 Tryz.f7 rfl rfl rfl rfl rfl rfl rfl ⟨rfl, rfl, rfl, rfl, rfl⟩ rfl rfl rfl rfl rfl variantsBack_named Tryz.func7 variantsBack_closed
    variantsBack_inst variantsBack_wrap
    (fun os started H enc _ => variantsBack.lifted os started H enc)
theorem variantsBack_holds : Rows.VariantsBackSaid := variantsBack_over
#print axioms variantsBack_holds
theorem variantsBack_text : Rows.variantsBackRow.wfByText (OpenSpec.ofChange Rows.variantsBackSpec) = true := by kernel_rfl
theorem variantsBack_goes : false = Rows.variantsBackRow.goesBy Tryz.pinned.checked.prog := by kernel_rfl
theorem variantsBack_fn : Tryz.prog.funcNamed "variantproxy/variantproxylaw15.VariantsBack" = some 7 := by kernel_rfl
theorem variantsBack_stand : ([23].all fun u => !Tryz.prog.wantsStandIn u) = true := by kernel_rfl
theorem variantsBack_card : Rows.VariantsBackCardSaid :=
  Claim7.holds_tied_plain_at .later [] [.data, .pinned] true (true, "a8ffd41a00bfd6e662060ee4e23947f233d01c4ad4195a33699820dd701ea048") false variantsBack_over (fun _ h => by cases h) variantsBack_text (fun _ h => by cases h) variantsBack_row_tie rfl ⟨rfl, rfl⟩ pf_main rfl
    (fun f fn hf hfn => by
      obtain rfl : f = 7 := Option.some.inj (variantsBack_fn.symm.trans hf) |>.symm
      obtain rfl : fn = Tryz.f7 := (Option.some.inj (Tryz.func7.symm.trans hfn)).symm
      exact ⟨pf_looks, fun j t ht => by
        rw [Tryz.params7] at ht
        have hm : t ∈ [23] := by have := Array.mem_of_getElem? ht; simpa using this
        exact (show Tryz.prog.wantsStandIn t = false by simpa using List.all_eq_true.1 variantsBack_stand t hm)⟩)
    variantsBack_goes
#print axioms variantsBack_card
end Go.Proofs.YtgahnjchpomcfaaGreatDoor
