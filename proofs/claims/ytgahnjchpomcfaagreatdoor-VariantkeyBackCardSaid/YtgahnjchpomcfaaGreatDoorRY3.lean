/-
  VariantkeyBack: for every input the law returns true, and each argument reads behind the call as it read before. No conditions.
-/
import Derived.Test.YtgahnjchpomcfaaGreatDoorRows
import Derived.Test.YtgahnjchpomcfaaGreatDoorYK7
import Derived.Test.YtgahnjchpomcfaaGreatDoorFacts
import Derived.Test.YtgahnjchpomcfaaGreatDoorWit
import Derived.Test.YtgahnjchpomcfaaGreatDoorCards
import Derived.Test.YtgahnjchpomcfaaGreatDoorTie
import Derived.WalkKit
import Derived.ProofKit
import Derived.OpenShut
import Derived.ShutString
import Derived.LaidMore
import Derived.Lay
import Derived.SevenTiedAt
import Derived.Stop.Joined
namespace Go.Proofs.YtgahnjchpomcfaaGreatDoor
namespace variantkeyBack
open Go.ChangeShapes Go.WideShapes Go.ChangeAt Go.RowKit
open Go.ChangeMaps (open_string shut_string)
open Go.Sep
set_option linter.unusedVariables false
set_option linter.unusedSimpArgs false
theorem own : ownKnob Tryz.prog.godebug = none := by kernel_rfl
set_option maxRecDepth 100000 in
theorem lifted (os : Os) (started : os.Started) (H : Type) (enc : TypeId × Value → H) :
    ReturnsInHanded {} Tryz.checked os 10 .any (fun w args => (Rows.variantkeyBackSpec.pre enc Tryz.prog Tryz.f10 Rows.variantkeyBackRow.domain false w args ∧ laidMetH Tryz.prog Rows.variantkeyBackRow.laid w) ∧ sizedMet enc Tryz.prog Tryz.f10 (OpenSpec.ofChange Rows.variantkeyBackSpec) false w args) (Rows.variantkeyBackSpec.post enc Tryz.prog Tryz.f10 false true false false) := by
  refine returnsInHanded_of_change_and (C := Tryz.checked) (X := fun w _ => laidMetH Tryz.prog Rows.variantkeyBackRow.laid w) (fun _ _ _ hh h => h.of_heap hh) own started (by kernel_rfl) Tryz.func10
    (ChangeSpec.witness_shaped (enc := enc) (C := Tryz.checked) (os := os) (X := fun w _ => laidMetH Tryz.prog Rows.variantkeyBackRow.laid w) false (World.laidAll Tryz.prog os Rows.variantkeyBackRow.laid) #[.slice none 0 0, .slice none 0 0] 8 (World.laidAll_os _ _ _)
      (wit_shaped os _) (by kernel_rfl) (by kernel_rfl) (by kernel_rfl)
      (wit_met os _)) ?_
  intro W base args ds gs before hval0 hW hcnd _ hL _
  have hval : ∀ (j : Nat) t v, Tryz.f10.params[j]? = some t → args[j]? = some v → Value.okWide Tryz.prog W .any base t v := hval0
  have hW' := hW
  obtain ⟨p, q, hA0, hV, rfl, hfz, hnd⟩ := hW
  have hA : DataW.TrodAll enc Tryz.prog W 0 (fun _ => true) true Tryz.f10.params.toList args.toList ds p := hA0
  rw [Tryz.params10] at hA hval
  obtain ⟨v0, vs0, d0, ds0, p0, q0, hargs, rfl, rfl, h0, r0⟩ := trodAll_cons hA
  obtain ⟨v1, vs1, d1, ds1, p1, q1, rfl, rfl, rfl, h1, r1⟩ := trodAll_cons r0
  obtain ⟨rfl, rfl, rfl⟩ := trodAll_nil r1
  obtain rfl : args = #[v0, v1] := by cases args; simp_all
  obtain ⟨rfl, rfl⟩ := trodVars_none hV
  obtain ⟨a0, b0, m0, f0⟩ := open_list (opens_list Tryz.underlying23 (by kernel_rfl) (opens_struct Tryz.underlying48 (by kernel_rfl) (opensF_cons rfl (by kernel_rfl) (opens_str Tryz.underlying9) rfl (opensF_one rfl (by kernel_rfl) (opens_list Tryz.underlying45 (by kernel_rfl) (opens_str Tryz.underlying9)))))) Tryz.underlying23 (hval 0 23 v0 rfl rfl) h0
  obtain ⟨a1, b1, m1, f1⟩ := open_list (opens_list Tryz.underlying44 (by kernel_rfl) (opens_list Tryz.underlying46 (by kernel_rfl) (opens_int Tryz.underlying3))) Tryz.underlying44 (hval 1 44 v1 rfl rfl) h1
  clear hA0 hval0
  simp only [List.append_nil] at hW'
  have hcall := c_law16_VariantkeyBack a0 v0 a1 v1 (by have := m0; simp only [maxLen] at this; omega) (fun a ha => by have := (f0.2 a ha).2.1; simp only [maxLen] at this; omega) (by have := m1; simp only [maxLen] at this; omega) (fun a ha => by have := (f1.2 a ha).1; simp only [maxLen] at this; omega)  W (Old W) [] ⟨fun _ h => h, List.nodup_nil, fun _ h => (List.not_mem_nil h).elim, fun _ h => (List.not_mem_nil h).elim⟩ (Sats.nil_append (As := [.imm (.list (.pair .str (.list .str))) v0 a0]) ⟨[], [], rfl, ⟨rfl, b0⟩, rfl⟩ (Sats.nil_append (As := [.imm (.list (.list (.int .i64))) v1 a1]) ⟨[], [], rfl, ⟨rfl, b1⟩, rfl⟩ rfl))
  refine hcall.mono fun e W' hE => ?_
  obtain ⟨_, I', m', rfl, hE, _⟩ := hE
  have bel : Below W.heap.size W W' := ⟨hE.os, hE.tape, hE.output, hE.size, fun k hk => hE.block k hk List.not_mem_nil⟩
  exact ⟨_, rfl, _, _, _, [], _, [], hW', trodAll_mk1 (shut_bool Tryz.underlying4 _), (trodAll_cons_mk (Below.trod pf_laid (by kernel_rfl) (of_decide_eq_true (by kernel_rfl)) h0 bel (fun x hx => hW'.lt x (by simp [hx]))) (trodAll_cons_mk (Below.trod pf_laid (by kernel_rfl) (of_decide_eq_true (by kernel_rfl)) h1 bel (fun x hx => hW'.lt x (by simp [hx]))) trodAll_mk0)), rfl, bel.frame _, fun h => by cases h⟩
end variantkeyBack
theorem variantkeyBack_f_inPlace : (Rows.variantkeyBackRow.inPlace == Tryz.prog.inPlace 10) = true := by kernel_rfl
theorem variantkeyBack_f_unfollowed : (Rows.variantkeyBackRow.unfollowed == Tryz.prog.unfollowed 10) = true := by kernel_rfl
theorem variantkeyBack_f_recurses : (Rows.variantkeyBackRow.recurses == Tryz.prog.recurses 10) = true := by kernel_rfl
theorem variantkeyBack_f_named : (Rows.variantkeyBackRow.named == Tryz.prog.varsNamed 10) = true := by kernel_rfl
theorem variantkeyBack_closed : joinedFacts Tryz.prog 10 Tryz.f10 Rows.variantkeyBackSpec Rows.variantkeyBackRow = true := by
  unfold joinedFacts
  rw [pf_laid, pf_maps, pf_stops, pf_knobs, pf_keys, pf_heard, pf_enter, pf_lifts, variantkeyBack_f_inPlace, variantkeyBack_f_unfollowed, variantkeyBack_f_recurses, variantkeyBack_f_named]
  kernel_rfl
theorem variantkeyBack_named : Tryz.pinned.checked.prog.funcNamed Rows.variantkeyBackRow.func = some 10 := by kernel_rfl
theorem variantkeyBack_inst : Tryz.f10.isInstance Tryz.pinned.checked.prog Rows.variantkeyBackRow.origin Rows.variantkeyBackRow.targs := of_decide_eq_true (by kernel_rfl)
theorem variantkeyBack_wrap : Tryz.f10.isWrapper Tryz.pinned.checked.prog Rows.variantkeyBackRow.wrapper Rows.variantkeyBackRow.mainSum := by unfold Func.isWrapper; first | (rw [if_pos (by decide +kernel)]; kernel_rfl) | (rw [if_neg (by decide +kernel)]; exact ⟨rfl, rfl⟩)
theorem variantkeyBack_over : Rows.variantkeyBackRow.holds Tryz.pinned (OpenSpec.ofChange Rows.variantkeyBackSpec) :=
  OpenClaim.holds_of_wide 10 Tryz.f10 rfl rfl rfl rfl rfl rfl rfl ⟨rfl, rfl, rfl, rfl, rfl⟩ rfl rfl rfl rfl rfl variantkeyBack_named Tryz.func10 variantkeyBack_closed
    variantkeyBack_inst variantkeyBack_wrap
    (fun os started H enc _ => variantkeyBack.lifted os started H enc)
theorem variantkeyBack_holds : Rows.VariantkeyBackSaid := variantkeyBack_over
#print axioms variantkeyBack_holds
theorem variantkeyBack_text : Rows.variantkeyBackRow.wfByText (OpenSpec.ofChange Rows.variantkeyBackSpec) = true := by kernel_rfl
theorem variantkeyBack_goes : false = Rows.variantkeyBackRow.goesBy Tryz.pinned.checked.prog := by kernel_rfl
theorem variantkeyBack_fn : Tryz.prog.funcNamed "variantproxy/variantproxylaw16.VariantkeyBack" = some 10 := by kernel_rfl
theorem variantkeyBack_stand : ([23, 44].all fun u => !Tryz.prog.wantsStandIn u) = true := by kernel_rfl
theorem variantkeyBack_card : Rows.VariantkeyBackCardSaid :=
  Claim7.holds_tied_plain_at .later [] [.data, .pinned] true (true, "a8ffd41a00bfd6e662060ee4e23947f233d01c4ad4195a33699820dd701ea048") false variantkeyBack_over (fun _ h => by cases h) variantkeyBack_text (fun _ h => by cases h) variantkeyBack_row_tie rfl ⟨rfl, rfl⟩ pf_main rfl
    (fun f fn hf hfn => by
      obtain rfl : f = 10 := Option.some.inj (variantkeyBack_fn.symm.trans hf) |>.symm
      obtain rfl : fn = Tryz.f10 := (Option.some.inj (Tryz.func10.symm.trans hfn)).symm
      exact ⟨pf_looks, fun j t ht => by
        rw [Tryz.params10] at ht
        have hm : t ∈ [23, 44] := by have := Array.mem_of_getElem? ht; simpa using this
        exact (show Tryz.prog.wantsStandIn t = false by simpa using List.all_eq_true.1 variantkeyBack_stand t hm)⟩)
    variantkeyBack_goes
#print axioms variantkeyBack_card
end Go.Proofs.YtgahnjchpomcfaaGreatDoor
