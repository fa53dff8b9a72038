/-
  VariantkeyKnown: for every input the law returns true, and each argument reads behind the call as it read before. No conditions.
-/
import Derived.Test.YtgahnjchpomcfaaDoorRows
import Derived.Test.YtgahnjchpomcfaaDoorSK5
import Derived.Test.YtgahnjchpomcfaaDoorFacts
import Derived.Test.YtgahnjchpomcfaaDoorWit
import Derived.Test.YtgahnjchpomcfaaDoorCards
import Derived.Test.YtgahnjchpomcfaaDoorTie
import Derived.WalkKit
import Derived.ProofKit
import Derived.OpenShut
import Derived.ShutString
import Derived.LaidMore
import Derived.Lay
import Derived.SevenTiedAt
import Derived.Stop.Joined
namespace Go.Proofs.YtgahnjchpomcfaaDoor
namespace variantkeyKnown
open Go.ChangeShapes Go.WideShapes Go.ChangeAt Go.RowKit
open Go.ChangeMaps (open_string shut_string)
open Go.Sep
set_option linter.unusedVariables false
set_option linter.unusedSimpArgs false
theorem own : ownKnob Tryd.prog.godebug = none := by kernel_rfl
set_option maxRecDepth 100000 in
theorem lifted (os : Os) (started : os.Started) (H : Type) (enc : TypeId × Value → H) :
    ReturnsInHanded {} Tryd.checked os 3 .any (fun w args => (Rows.variantkeyKnownSpec.pre enc Tryd.prog Tryd.f3 Rows.variantkeyKnownRow.domain false w args ∧ laidMetH Tryd.prog Rows.variantkeyKnownRow.laid w) ∧ sizedMet enc Tryd.prog Tryd.f3 (OpenSpec.ofChange Rows.variantkeyKnownSpec) false w args) (Rows.variantkeyKnownSpec.post enc Tryd.prog Tryd.f3 false true false false) := by
  refine returnsInHanded_of_change_and (C := Tryd.checked) (X := fun w _ => laidMetH Tryd.prog Rows.variantkeyKnownRow.laid w) (fun _ _ _ hh h => h.of_heap hh) own started (by kernel_rfl) Tryd.func3
    (ChangeSpec.witness_shaped (enc := enc) (C := Tryd.checked) (os := os) (X := fun w _ => laidMetH Tryd.prog Rows.variantkeyKnownRow.laid w) false (World.laidAll Tryd.prog os Rows.variantkeyKnownRow.laid) #[.slice none 0 0, .slice none 0 0] 8 (World.laidAll_os _ _ _)
      (wit_shaped os _) (by kernel_rfl) (by kernel_rfl) (by kernel_rfl)
      (wit_met os _)) ?_
  intro W base args ds gs before hval0 hW hcnd _ hL _
  have hval : ∀ (j : Nat) t v, Tryd.f3.params[j]? = some t → args[j]? = some v → Value.okWide Tryd.prog W .any base t v := hval0
  have hW' := hW
  obtain ⟨p, q, hA0, hV, rfl, hfz, hnd⟩ := hW
  have hA : DataW.TrodAll enc Tryd.prog W 0 (fun _ => true) true Tryd.f3.params.toList args.toList ds p := hA0
  rw [Tryd.params3] at hA hval
  obtain ⟨v0, vs0, d0, ds0, p0, q0, hargs, rfl, rfl, h0, r0⟩ := trodAll_cons hA
  obtain ⟨v1, vs1, d1, ds1, p1, q1, rfl, rfl, rfl, h1, r1⟩ := trodAll_cons r0
  obtain ⟨rfl, rfl, rfl⟩ := trodAll_nil r1
  obtain rfl : args = #[v0, v1] := by cases args; simp_all
  obtain ⟨rfl, rfl⟩ := trodVars_none hV
  obtain ⟨a0, b0, m0, f0⟩ := open_list (opens_list Tryd.underlying22 (by kernel_rfl) (opens_struct Tryd.underlying37 (by kernel_rfl) (opensF_cons rfl (by kernel_rfl) (opens_str Tryd.underlying9) rfl (opensF_one rfl (by kernel_rfl) (opens_str Tryd.underlying9))))) Tryd.underlying22 (hval 0 22 v0 rfl rfl) h0
  obtain ⟨a1, b1, m1, f1⟩ := open_list (opens_list Tryd.underlying23 (by kernel_rfl) (opens_struct Tryd.underlying33 (by kernel_rfl) (opensF_cons rfl (by kernel_rfl) (opens_str Tryd.underlying9) rfl (opensF_one rfl (by kernel_rfl) (opens_list Tryd.underlying31 (by kernel_rfl) (opens_str Tryd.underlying9)))))) Tryd.underlying23 (hval 1 23 v1 rfl rfl) h1
  clear hA0 hval0
  simp only [List.append_nil] at hW'
  have hcall := c_law16_VariantkeyKnown a0 v0 a1 v1 (by have := m0; simp only [maxLen] at this; omega) (by have := m1; simp only [maxLen] at this; omega) (fun a ha => by have := (f1.2 a ha).2.1; simp only [maxLen] at this; omega)  W (Old W) [] ⟨fun _ h => h, List.nodup_nil, fun _ h => (List.not_mem_nil h).elim, fun _ h => (List.not_mem_nil h).elim⟩ (Sats.nil_append (As := [.imm (.list (.pair .str .str)) v0 a0]) ⟨[], [], rfl, ⟨rfl, b0⟩, rfl⟩ (Sats.nil_append (As := [.imm (.list (.pair .str (.list .str))) v1 a1]) ⟨[], [], rfl, ⟨rfl, b1⟩, rfl⟩ rfl))
  refine hcall.mono fun e W' hE => ?_
  obtain ⟨_, I', m', rfl, hE, _⟩ := hE
  have bel : Below W.heap.size W W' := ⟨hE.os, hE.tape, hE.output, hE.size, fun k hk => hE.block k hk List.not_mem_nil⟩
  exact ⟨_, rfl, _, _, _, [], _, [], hW', trodAll_mk1 (shut_bool Tryd.underlying4 _), (trodAll_cons_mk (Below.trod pf_laid (by kernel_rfl) (of_decide_eq_true (by kernel_rfl)) h0 bel (fun x hx => hW'.lt x (by simp [hx]))) (trodAll_cons_mk (Below.trod pf_laid (by kernel_rfl) (of_decide_eq_true (by kernel_rfl)) h1 bel (fun x hx => hW'.lt x (by simp [hx]))) trodAll_mk0)), rfl, bel.frame _, fun h => by cases h⟩
end variantkeyKnown
theorem variantkeyKnown_f_inPlace : (Rows.variantkeyKnownRow.inPlace == Tryd.prog.inPlace 3) = true := by kernel_rfl
theorem variantkeyKnown_f_unfollowed : (Rows.variantkeyKnownRow.unfollowed == Tryd.prog.unfollowed 3) = true := by kernel_rfl
theorem variantkeyKnown_f_recurses : (Rows.variantkeyKnownRow.recurses == Tryd.prog.recurses 3) = true := by kernel_rfl
theorem variantkeyKnown_f_named : (Rows.variantkeyKnownRow.named == Tryd.prog.varsNamed 3) = true := by kernel_rfl
theorem variantkeyKnown_closed : joinedFacts Tryd.prog 3 Tryd.f3 Rows.variantkeyKnownSpec Rows.variantkeyKnownRow = true := by
  unfold joinedFacts
  rw [pf_laid, pf_maps, pf_stops, pf_knobs, pf_keys, pf_heard, pf_enter, pf_lifts, variantkeyKnown_f_inPlace, variantkeyKnown_f_unfollowed, variantkeyKnown_f_recurses, variantkeyKnown_f_named]
  kernel_rfl
theorem variantkeyKnown_named : Tryd.pinned.checked.prog.funcNamed Rows.variantkeyKnownRow.func = some 3 := by kernel_rfl
theorem variantkeyKnown_inst : Tryd.f3.isInstance Tryd.pinned.checked.prog Rows.variantkeyKnownRow.origin Rows.variantkeyKnownRow.targs := of_decide_eq_true (by kernel_rfl)
theorem variantkeyKnown_wrap : Tryd.f3.isWrapper Tryd.pinned.checked.prog Rows.variantkeyKnownRow.wrapper Rows.variantkeyKnownRow.mainSum := by unfold Func.isWrapper; first | (rw [if_pos (by decide +kernel)]; kernel_rfl) | (rw [if_neg (by decide +kernel)]; exact ⟨rfl, rfl⟩)
theorem variantkeyKnown_over : Rows.variantkeyKnownRow.holds Tryd.pinned (OpenSpec.ofChange Rows.variantkeyKnownSpec) :=
  OpenClaim.holds_of_wide 3 Tryd.f3 rfl rfl rfl rfl rfl rfl rfl ⟨rfl, rfl, rfl, rfl, rfl⟩ rfl rfl rfl rfl rfl variantkeyKnown_named Tryd.func3 variantkeyKnown_closed
    variantkeyKnown_inst variantkeyKnown_wrap
    (fun os started H enc _ => variantkeyKnown.lifted os started H enc)
theorem variantkeyKnown_holds : Rows.VariantkeyKnownSaid := variantkeyKnown_over
#print axioms variantkeyKnown_holds
theorem variantkeyKnown_text : Rows.variantkeyKnownRow.wfByText (OpenSpec.ofChange Rows.variantkeyKnownSpec) = true := by kernel_rfl
theorem variantkeyKnown_goes : false = Rows.variantkeyKnownRow.goesBy Tryd.pinned.checked.prog := by kernel_rfl
theorem variantkeyKnown_fn : Tryd.prog.funcNamed "variantproxy/variantproxylaw16.VariantkeyKnown" = some 3 := by kernel_rfl
theorem variantkeyKnown_stand : ([22, 23].all fun u => !Tryd.prog.wantsStandIn u) = true := by kernel_rfl
theorem variantkeyKnown_card : Rows.VariantkeyKnownCardSaid :=
  Claim7.holds_tied_plain_at .later [] [.data, .pinned] true (true, "a6be9dc4b421275a427c902f677a669f003e36d7970a5244775afdffd81e0c04") false variantkeyKnown_over (fun _ h => by cases h) variantkeyKnown_text (fun _ h => by cases h) variantkeyKnown_row_tie rfl ⟨rfl, rfl⟩ pf_main rfl
    (fun f fn hf hfn => by
      obtain rfl : f = 3 := Option.some.inj (variantkeyKnown_fn.symm.trans hf) |>.symm
      obtain rfl : fn = Tryd.f3 := (Option.some.inj (Tryd.func3.symm.trans hfn)).symm
      exact ⟨pf_looks, fun j t ht => by
        rw [Tryd.params3] at ht
        have hm : t ∈ [22, 23] := by have := Array.mem_of_getElem? ht; simpa using this
        exact (show Tryd.prog.wantsStandIn t = false by simpa using List.all_eq_true.1 variantkeyKnown_stand t hm)⟩)
    variantkeyKnown_goes
#print axioms variantkeyKnown_card
end Go.Proofs.YtgahnjchpomcfaaDoor
