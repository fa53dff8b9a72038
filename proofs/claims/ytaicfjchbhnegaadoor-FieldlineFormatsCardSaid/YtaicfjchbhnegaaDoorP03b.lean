/-
  FieldlineFormats: for every input the law returns true, and each argument reads behind the call as it read before. No conditions.
-/
import Derived.Test.YtaicfjchbhnegaaDoorRows
import Derived.Test.YtaicfjchbhnegaaDoorC4
import Derived.Test.YtaicfjchbhnegaaDoorOpens
import Derived.Test.YtaicfjchbhnegaaDoorFacts
import Derived.Test.YtaicfjchbhnegaaDoorCards
import Derived.Test.YtaicfjchbhnegaaDoorTie
import Derived.WalkKit
import Derived.ProofKit
import Derived.OpenShut
import Derived.ShutString
import Derived.LaidMore
import Derived.Lay
import Derived.SevenTiedAt
import Derived.Stop.Joined
namespace Go.Proofs.YtaicfjchbhnegaaDoor
namespace fieldlineFormats
open Go.ChangeShapes Go.WideShapes Go.ChangeAt Go.RowKit
open Go.ChangeMaps (open_string shut_string)
open Go.Sep
set_option linter.unusedVariables false
set_option linter.unusedSimpArgs false
theorem own : ownKnob Tryd.prog.godebug = none := by kernel_rfl
set_option maxRecDepth 100000 in
theorem lifted (os : Os) (started : os.Started) (H : Type) (enc : TypeId × Value → H) :
    ReturnsInHanded {} Tryd.checked os 4 .any (fun w args => (Rows.fieldlineFormatsSpec.pre enc Tryd.prog Tryd.f4 Rows.fieldlineFormatsRow.domain false w args ∧ laidMetH Tryd.prog Rows.fieldlineFormatsRow.laid w) ∧ sizedMet enc Tryd.prog Tryd.f4 (OpenSpec.ofChange Rows.fieldlineFormatsSpec) false w args) (Rows.fieldlineFormatsSpec.post enc Tryd.prog Tryd.f4 false true false false) := by
  refine returnsInHanded_of_change_and (C := Tryd.checked) (X := fun w _ => laidMetH Tryd.prog Rows.fieldlineFormatsRow.laid w) (fun _ _ _ hh h => h.of_heap hh) own started (by kernel_rfl) Tryd.func4
    (ChangeSpec.witness_shaped (enc := enc) (C := Tryd.checked) (os := os) (X := fun w _ => laidMetH Tryd.prog Rows.fieldlineFormatsRow.laid w) false (World.laidAll Tryd.prog os Rows.fieldlineFormatsRow.laid) #[.agg #[.string ByteArray.empty, .string ByteArray.empty]] 8 (World.laidAll_os _ _ _)
      (World.shaped_of_ZipB (by kernel_rfl) (by kernel_rfl)) (by kernel_rfl) (by kernel_rfl) (by kernel_rfl)
      (by rw [MakeChecks.laidMetH_plain _ _ _ (by kernel_rfl)]; exact laidMet_laidAll _ (by kernel_rfl) (by kernel_rfl))) ?_
  intro W base args ds gs before hval0 hW hcnd _ hL _
  have hval : ∀ (j : Nat) t v, Tryd.f4.params[j]? = some t → args[j]? = some v → Value.okWide Tryd.prog W .any base t v := hval0
  have hW' := hW
  obtain ⟨p, q, hA0, hV, rfl, hfz, hnd⟩ := hW
  have hA : DataW.TrodAll enc Tryd.prog W 0 (fun _ => true) true Tryd.f4.params.toList args.toList ds p := hA0
  rw [Tryd.params4] at hA hval
  obtain ⟨v0, vs0, d0, ds0, p0, q0, hargs, rfl, rfl, h0, r0⟩ := trodAll_cons hA
  obtain ⟨rfl, rfl, rfl⟩ := trodAll_nil r0
  obtain rfl : args = #[v0] := by cases args; simp_all
  obtain ⟨rfl, rfl⟩ := trodVars_none hV
  obtain ⟨a0, b0⟩ := open_agg (t := (.pair .str .str)) (opens_struct Tryd.underlying23 (by kernel_rfl) (opensF_cons rfl (by kernel_rfl) (opens_str Tryd.underlying9) rfl (opensF_one rfl (by kernel_rfl) (opens_str Tryd.underlying9)))) rfl Tryd.underlying23 (hval 0 23 v0 rfl rfl) h0
  obtain ⟨c0, e0, k0⟩ := b0
  obtain rfl : v0 = .agg #[str (a0.1), str (a0.2)] := by rw [e0, (repC_flat rfl).1 k0]; rfl
  clear hA0 hval0
  simp only [List.append_nil] at hW'
  have hcall := c_law03_FieldlineFormats a0  W (Old W) [] ⟨fun _ h => h, List.nodup_nil, fun _ h => (List.not_mem_nil h).elim, fun _ h => (List.not_mem_nil h).elim⟩ rfl
  refine hcall.mono fun e W' hE => ?_
  obtain ⟨_, I', m', rfl, hE, _⟩ := hE
  have bel : Below W.heap.size W W' := ⟨hE.os, hE.tape, hE.output, hE.size, fun k hk => hE.block k hk List.not_mem_nil⟩
  exact ⟨_, rfl, _, _, _, [], _, [], hW', trodAll_mk1 (shut_bool Tryd.underlying4 _), (trodAll_cons_mk (Below.trod pf_laid (by kernel_rfl) (of_decide_eq_true (by kernel_rfl)) h0 bel (fun x hx => hW'.lt x (by simp [hx]))) trodAll_mk0), rfl, bel.frame _, fun h => by cases h⟩
end fieldlineFormats
theorem fieldlineFormats_closed : joinedFacts Tryd.prog 4 Tryd.f4 Rows.fieldlineFormatsSpec Rows.fieldlineFormatsRow = true := by
  unfold joinedFacts
  rw [pf_laid, pf_maps, pf_stops, pf_knobs, pf_keys, pf_heard, pf_enter, pf_lifts]
  kernel_rfl
theorem fieldlineFormats_named : Tryd.pinned.checked.prog.funcNamed Rows.fieldlineFormatsRow.func = some 4 := by kernel_rfl
theorem fieldlineFormats_inst : Tryd.f4.isInstance Tryd.pinned.checked.prog Rows.fieldlineFormatsRow.origin Rows.fieldlineFormatsRow.targs := of_decide_eq_true (by kernel_rfl)
theorem fieldlineFormats_wrap : Tryd.f4.isWrapper Tryd.pinned.checked.prog Rows.fieldlineFormatsRow.wrapper Rows.fieldlineFormatsRow.mainSum := by unfold Func.isWrapper; first | (rw [if_pos (by decide +kernel)]; kernel_rfl) | (rw [if_neg (by decide +kernel)]; exact ⟨rfl, rfl⟩)
theorem fieldlineFormats_over : Rows.fieldlineFormatsRow.holds Tryd.pinned (OpenSpec.ofChange Rows.fieldlineFormatsSpec) :=
  OpenClaim.holds_of_wide 4 Tryd.f4 rfl rfl rfl rfl rfl rfl rfl ⟨rfl, rfl, rfl, rfl, rfl⟩ rfl rfl rfl rfl rfl fieldlineFormats_named Tryd.func4 fieldlineFormats_closed
    fieldlineFormats_inst fieldlineFormats_wrap
    (fun os started H enc _ => fieldlineFormats.lifted os started H enc)
theorem fieldlineFormats_holds : Rows.FieldlineFormatsSaid := fieldlineFormats_over
#print axioms fieldlineFormats_holds
theorem fieldlineFormats_card : Rows.FieldlineFormatsCardSaid :=
  Claim7.holds_tied_plain_at .later [] [.data, .pinned] true (true, "c9b1eb8fba350dd1439d07572b500f5884dfc217dbd421dc6546bbe65816ef19") false fieldlineFormats_over (fun _ h => by cases h) (by kernel_rfl) (fun _ h => by cases h) fieldlineFormats_row_tie rfl ⟨rfl, rfl⟩ (by kernel_rfl) rfl
    (fun f fn hf hfn => by
      obtain rfl : f = 4 := Option.some.inj ((show Tryd.prog.funcNamed "variantproxy/variantproxylaw03.FieldlineFormats" = some 4 by kernel_rfl).symm.trans hf) |>.symm
      obtain rfl : fn = Tryd.f4 := (Option.some.inj (Tryd.func4.symm.trans hfn)).symm
      exact ⟨by kernel_rfl, fun j t ht => by
        rw [Tryd.params4] at ht
        have hm : t ∈ [23] := by have := Array.mem_of_getElem? ht; simpa using this
        have hall : ([23].all fun u => !Tryd.prog.wantsStandIn u) = true := by kernel_rfl
        exact (show Tryd.prog.wantsStandIn t = false by simpa using List.all_eq_true.1 hall t hm)⟩)
    (by kernel_rfl)
#print axioms fieldlineFormats_card
end Go.Proofs.YtaicfjchbhnegaaDoor
