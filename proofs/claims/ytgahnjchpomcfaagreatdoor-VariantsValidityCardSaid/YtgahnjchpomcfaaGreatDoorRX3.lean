/-
  VariantsValidity: for every input the law returns true, and each argument reads behind the call as it read before. No conditions.
-/
import Derived.Test.YtgahnjchpomcfaaGreatDoorRows
import Derived.Test.YtgahnjchpomcfaaGreatDoorXK4
import Derived.Test.YtgahnjchpomcfaaGreatDoorFacts
import Derived.Test.YtgahnjchpomcfaaGreatDoorWit
import Derived.Test.YtgahnjchpomcfaaGreatDoorCards
import Derived.Test.YtgahnjchpomcfaaGreatDoorTie
import Derived.WalkKit
import Derived.ProofKit
import Derived.OpenShut
import Derived.ShutString
import Derived.LaidMore
import Derived.Lay
import Derived.SevenTiedAt
import Derived.Stop.Joined
namespace Go.Proofs.YtgahnjchpomcfaaGreatDoor
namespace variantsValidity
open Go.ChangeShapes Go.WideShapes Go.ChangeAt Go.RowKit
open Go.ChangeMaps (open_string shut_string)
open Go.Sep
set_option linter.unusedVariables false
set_option linter.unusedSimpArgs false
theorem own : ownKnob Tryz.prog.godebug = none := by kernel_rfl
set_option maxRecDepth 100000 in
theorem lifted (os : Os) (started : os.Started) (H : Type) (enc : TypeId × Value → H) :
    ReturnsInHanded {} Tryz.checked os 4 .any (fun w args => (Rows.variantsValiditySpec.pre enc Tryz.prog Tryz.f4 Rows.variantsValidityRow.domain false w args ∧ laidMetH Tryz.prog Rows.variantsValidityRow.laid w) ∧ sizedMet enc Tryz.prog Tryz.f4 (OpenSpec.ofChange Rows.variantsValiditySpec) false w args) (Rows.variantsValiditySpec.post enc Tryz.prog Tryz.f4 false true false false) := by
  refine returnsInHanded_of_change_and (C := Tryz.checked) (X := fun w _ => laidMetH Tryz.prog Rows.variantsValidityRow.laid w) (fun _ _ _ hh h => h.of_heap hh) own started (by kernel_rfl) Tryz.func4
    (ChangeSpec.witness_shaped (enc := enc) (C := Tryz.checked) (os := os) (X := fun w _ => laidMetH Tryz.prog Rows.variantsValidityRow.laid w) false (World.laidAll Tryz.prog os Rows.variantsValidityRow.laid) #[.slice none 0 0, .slice none 0 0] 8 (World.laidAll_os _ _ _)
      (wit_shaped os _) (by kernel_rfl) (by kernel_rfl) (by kernel_rfl)
      (wit_met os _)) ?_
  intro W base args ds gs before hval0 hW hcnd _ hL _
  have hval : ∀ (j : Nat) t v, Tryz.f4.params[j]? = some t → args[j]? = some v → Value.okWide Tryz.prog W .any base t v := hval0
  have hW' := hW
  obtain ⟨p, q, hA0, hV, rfl, hfz, hnd⟩ := hW
  have hA : DataW.TrodAll enc Tryz.prog W 0 (fun _ => true) true Tryz.f4.params.toList args.toList ds p := hA0
  rw [Tryz.params4] at hA hval
  obtain ⟨v0, vs0, d0, ds0, p0, q0, hargs, rfl, rfl, h0, r0⟩ := trodAll_cons hA
  obtain ⟨v1, vs1, d1, ds1, p1, q1, rfl, rfl, rfl, h1, r1⟩ := trodAll_cons r0
  obtain ⟨rfl, rfl, rfl⟩ := trodAll_nil r1
  obtain rfl : args = #[v0, v1] := by cases args; simp_all
  obtain ⟨rfl, rfl⟩ := trodVars_none hV
  obtain ⟨a0, b0, m0, f0⟩ := open_list (opens_list Tryz.underlying23 (by kernel_rfl) (opens_struct Tryz.underlying48 (by kernel_rfl) (opensF_cons rfl (by kernel_rfl) (opens_str Tryz.underlying9) rfl (opensF_one rfl (by kernel_rfl) (opens_list Tryz.underlying45 (by kernel_rfl) (opens_str Tryz.underlying9)))))) Tryz.underlying23 (hval 0 23 v0 rfl rfl) h0
  obtain ⟨a1, b1, m1, f1⟩ := open_list (opens_list Tryz.underlying23 (by kernel_rfl) (opens_struct Tryz.underlying48 (by kernel_rfl) (opensF_cons rfl (by kernel_rfl) (opens_str Tryz.underlying9) rfl (opensF_one rfl (by kernel_rfl) (opens_list Tryz.underlying45 (by kernel_rfl) (opens_str Tryz.underlying9)))))) Tryz.underlying23 (hval 1 23 v1 rfl rfl) h1
  clear hA0 hval0
  simp only [List.append_nil] at hW'
  have hcall := c_law15_VariantsValidity a0 v0 a1 v1 (by have := m0; simp only [maxLen] at this; omega) (by have := m1; simp only [maxLen] at this; omega) (fun a ha => by have := (f0.2 a ha).2.1; simp only [maxLen] at this; omega) (fun a ha => by have := (f1.2 a ha).2.1; simp only [maxLen] at this; omega)  W (Old W) [] ⟨fun _ h => h, List.nodup_nil, fun _ h => (List.not_mem_nil h).elim, fun _ h => (List.not_mem_nil h).elim⟩ (Sats.nil_append (As := [.imm (.list (.pair .str (.list .str))) v0 a0]) ⟨[], [], rfl, ⟨rfl, b0⟩, rfl⟩ (Sats.nil_append (As := [.imm (.list (.pair .str (.list .str))) v1 a1]) ⟨[], [], rfl, ⟨rfl, b1⟩, rfl⟩ rfl))
  refine hcall.mono fun e W' hE => ?_
  obtain ⟨_, I', m', rfl, hE, _⟩ := hE
  have bel : Below W.heap.size W W' := ⟨hE.os, hE.tape, hE.output, hE.size, fun k hk => hE.block k hk List.not_mem_nil⟩
  exact ⟨_, rfl, _, _, _, [], _, [], hW', trodAll_mk1 (shut_bool Tryz.underlying4 _), (trodAll_cons_mk (Below.trod pf_laid (by kernel_rfl) (of_decide_eq_true (by kernel_rfl)) h0 bel (fun x hx => hW'.lt x (by simp [hx]))) (trodAll_cons_mk (Below.trod pf_laid (by kernel_rfl) (of_decide_eq_true (by kernel_rfl)) h1 bel (fun x hx => hW'.lt x (by simp [hx]))) trodAll_mk0)), rfl, bel.frame _, fun h => by cases h⟩
end variantsValidity
theorem variantsValidity_f_inPlace : (Rows.variantsValidityRow.inPlace == Tryz.prog.inPlace 4) = true := by kernel_rfl
theorem variantsValidity_f_unfollowed : (Rows.variantsValidityRow.unfollowed == Tryz.prog.unfollowed 4) = true := by kernel_rfl
theorem variantsValidity_f_recurses : (Rows.variantsValidityRow.recurses == Tryz.prog.recurses 4) = true := by kernel_rfl
theorem variantsValidity_f_named : (Rows.variantsValidityRow.named == Tryz.prog.varsNamed 4) = true := by kernel_rfl
theorem variantsValidity_closed : joinedFacts Tryz.prog 4 Tryz.f4 Rows.variantsValiditySpec Rows.variantsValidityRow = true := by
  unfold joinedFacts
  rw [pf_laid, pf_maps, pf_stops, pf_knobs, pf_keys, pf_heard, pf_enter, pf_lifts, variantsValidity_f_inPlace, variantsValidity_f_unfollowed, variantsValidity_f_recurses, variantsValidity_f_named]
  kernel_rfl
theorem variantsValidity_named : Tryz.pinned.checked.prog.funcNamed Rows.variantsValidityRow.func = some 4 := by kernel_rfl
theorem variantsValidity_inst : Tryz.f4.isInstance Tryz.pinned.checked.prog Rows.variantsValidityRow.origin Rows.variantsValidityRow.targs := of_decide_eq_true (by kernel_rfl)
theorem variantsValidity_wrap : Tryz.f4.isWrapper Tryz.pinned.checked.prog Rows.variantsValidityRow.wrapper Rows.variantsValidityRow.mainSum := by unfold Func.isWrapper; first | (rw [if_pos (by decide +kernel)]; kernel_rfl) | (rw [if_neg (by decide +kernel)]; exact ⟨rfl, rfl⟩)
theorem variantsValidity_over : Rows.variantsValidityRow.holds Tryz.pinned (OpenSpec.ofChange Rows.variantsValiditySpec) :=
  OpenClaim.holds_of_wide 4 Tryz.f4 rfl rfl rfl rfl rfl rfl rfl ⟨rfl, rfl, rfl, rfl, rfl⟩ rfl rfl rfl rfl rfl variantsValidity_named Tryz.func4 variantsValidity_closed
    variantsValidity_inst variantsValidity_wrap
    (fun os started H enc _ => variantsValidity.lifted os started H enc)
theorem variantsValidity_holds : Rows.VariantsValiditySaid := variantsValidity_over
#print axioms variantsValidity_holds
theorem variantsValidity_text : Rows.variantsValidityRow.wfByText (OpenSpec.ofChange Rows.variantsValiditySpec) = true := by kernel_rfl
theorem variantsValidity_goes : false = Rows.variantsValidityRow.goesBy Tryz.pinned.checked.prog := by kernel_rfl
theorem variantsValidity_fn : Tryz.prog.funcNamed "variantproxy/variantproxylaw15.VariantsValidity" = some 4 := by kernel_rfl
theorem variantsValidity_stand : ([23, 23].all fun u => !Tryz.prog.wantsStandIn u) = true := by kernel_rfl
theorem variantsValidity_card : Rows.VariantsValidityCardSaid :=
  Claim7.holds_tied_plain_at .later [] [.data, .pinned] true (true, "a8ffd41a00bfd6e662060ee4e23947f233d01c4ad4195a33699820dd701ea048") false variantsValidity_over (fun _ h => by cases h) variantsValidity_text (fun _ h => by cases h) variantsValidity_row_tie rfl ⟨rfl, rfl⟩ pf_main rfl
    (fun f fn hf hfn => by
      obtain rfl : f = 4 := Option.some.inj (variantsValidity_fn.symm.trans hf) |>.symm
      obtain rfl : fn = Tryz.f4 := (Option.some.inj (Tryz.func4.symm.trans hfn)).symm
      exact ⟨pf_looks, fun j t ht => by
        rw [Tryz.params4] at ht
        have hm : t ∈ [23, 23] := by have := Array.mem_of_getElem? ht; simpa using this
        exact (show Tryz.prog.wantsStandIn t = false by simpa using List.all_eq_true.1 variantsValidity_stand t hm)⟩)
    variantsValidity_goes
#print axioms variantsValidity_card
end Go.Proofs.YtgahnjchpomcfaaGreatDoor
