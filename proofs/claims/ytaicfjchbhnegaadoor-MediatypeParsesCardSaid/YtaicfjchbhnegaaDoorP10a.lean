/-
  MediatypeParses: for every input the law returns true, and each argument reads behind the call as it read before. No conditions.
-/
import Derived.Test.YtaicfjchbhnegaaDoorRows
import Derived.Test.YtaicfjchbhnegaaDoorC9
import Derived.Test.YtaicfjchbhnegaaDoorOpens
import Derived.Test.YtaicfjchbhnegaaDoorFacts
import Derived.Test.YtaicfjchbhnegaaDoorWit
import Derived.Test.YtaicfjchbhnegaaDoorCards
import Derived.Test.YtaicfjchbhnegaaDoorTie
import Derived.WalkKit
import Derived.ProofKit
import Derived.OpenShut
import Derived.ShutString
import Derived.LaidMore
import Derived.Lay
import Derived.SevenTiedAt
import Derived.Stop.Joined
namespace Go.Proofs.YtaicfjchbhnegaaDoor
namespace mediatypeParses
open Go.ChangeShapes Go.WideShapes Go.ChangeAt Go.RowKit
open Go.ChangeMaps (open_string shut_string)
open Go.Sep
set_option linter.unusedVariables false
set_option linter.unusedSimpArgs false
theorem own : ownKnob Tryd.prog.godebug = none := by kernel_rfl
set_option maxRecDepth 100000 in
theorem lifted (os : Os) (started : os.Started) (H : Type) (enc : TypeId × Value → H) :
    ReturnsInHanded {} Tryd.checked os 12 .any (fun w args => (Rows.mediatypeParsesSpec.pre enc Tryd.prog Tryd.f12 Rows.mediatypeParsesRow.domain false w args ∧ laidMetH Tryd.prog Rows.mediatypeParsesRow.laid w) ∧ sizedMet enc Tryd.prog Tryd.f12 (OpenSpec.ofChange Rows.mediatypeParsesSpec) false w args) (Rows.mediatypeParsesSpec.post enc Tryd.prog Tryd.f12 false true false false) := by
  refine returnsInHanded_of_change_and (C := Tryd.checked) (X := fun w _ => laidMetH Tryd.prog Rows.mediatypeParsesRow.laid w) (fun _ _ _ hh h => h.of_heap hh) own started (by kernel_rfl) Tryd.func12
    (ChangeSpec.witness_shaped (enc := enc) (C := Tryd.checked) (os := os) (X := fun w _ => laidMetH Tryd.prog Rows.mediatypeParsesRow.laid w) false (World.laidAll Tryd.prog os Rows.mediatypeParsesRow.laid) #[.string ByteArray.empty] 8 (World.laidAll_os _ _ _)
      (wit_shaped os _) (by kernel_rfl) (by kernel_rfl) (by kernel_rfl)
      (wit_met os _)) ?_
  intro W base args ds gs before hval0 hW hcnd _ hL _
  have hval : ∀ (j : Nat) t v, Tryd.f12.params[j]? = some t → args[j]? = some v → Value.okWide Tryd.prog W .any base t v := hval0
  have hW' := hW
  obtain ⟨p, q, hA0, hV, rfl, hfz, hnd⟩ := hW
  have hA : DataW.TrodAll enc Tryd.prog W 0 (fun _ => true) true Tryd.f12.params.toList args.toList ds p := hA0
  rw [Tryd.params12] at hA hval
  obtain ⟨v0, vs0, d0, ds0, p0, q0, hargs, rfl, rfl, h0, r0⟩ := trodAll_cons hA
  obtain ⟨rfl, rfl, rfl⟩ := trodAll_nil r0
  obtain rfl : args = #[v0] := by cases args; simp_all
  obtain ⟨rfl, rfl⟩ := trodVars_none hV
  obtain ⟨a0, rfl, rfl, rfl, w0⟩ := open_string Tryd.underlying9 (hval 0 9 v0 rfl rfl) h0
  clear hA0 hval0
  simp only [List.append_nil] at hW'
  have hcall := c_law10_MediatypeParses a0.data.toList  W (Old W) [] ⟨fun _ h => h, List.nodup_nil, fun _ h => (List.not_mem_nil h).elim, fun _ h => (List.not_mem_nil h).elim⟩ rfl
  simp only [str_data] at hcall
  refine hcall.mono fun e W' hE => ?_
  obtain ⟨_, I', m', rfl, hE, _⟩ := hE
  have bel : Below W.heap.size W W' := ⟨hE.os, hE.tape, hE.output, hE.size, fun k hk => hE.block k hk List.not_mem_nil⟩
  exact ⟨_, rfl, _, _, _, [], _, [], hW', trodAll_mk1 (shut_bool Tryd.underlying4 _), (trodAll_cons_mk (shut_string Tryd.underlying9 w0) trodAll_mk0), rfl, bel.frame _, fun h => by cases h⟩
end mediatypeParses
theorem mediatypeParses_f_inPlace : (Rows.mediatypeParsesRow.inPlace == Tryd.prog.inPlace 12) = true := by kernel_rfl
theorem mediatypeParses_f_unfollowed : (Rows.mediatypeParsesRow.unfollowed == Tryd.prog.unfollowed 12) = true := by kernel_rfl
theorem mediatypeParses_f_recurses : (Rows.mediatypeParsesRow.recurses == Tryd.prog.recurses 12) = true := by kernel_rfl
theorem mediatypeParses_f_named : (Rows.mediatypeParsesRow.named == Tryd.prog.varsNamed 12) = true := by kernel_rfl
theorem mediatypeParses_closed : joinedFacts Tryd.prog 12 Tryd.f12 Rows.mediatypeParsesSpec Rows.mediatypeParsesRow = true := by
  unfold joinedFacts
  rw [pf_laid, pf_maps, pf_stops, pf_knobs, pf_keys, pf_heard, pf_enter, pf_lifts, mediatypeParses_f_inPlace, mediatypeParses_f_unfollowed, mediatypeParses_f_recurses, mediatypeParses_f_named]
  kernel_rfl
theorem mediatypeParses_named : Tryd.pinned.checked.prog.funcNamed Rows.mediatypeParsesRow.func = some 12 := by kernel_rfl
theorem mediatypeParses_inst : Tryd.f12.isInstance Tryd.pinned.checked.prog Rows.mediatypeParsesRow.origin Rows.mediatypeParsesRow.targs := of_decide_eq_true (by kernel_rfl)
theorem mediatypeParses_wrap : Tryd.f12.isWrapper Tryd.pinned.checked.prog Rows.mediatypeParsesRow.wrapper Rows.mediatypeParsesRow.mainSum := by unfold Func.isWrapper; first | (rw [if_pos (by decide +kernel)]; kernel_rfl) | (rw [if_neg (by decide +kernel)]; exact ⟨rfl, rfl⟩)
theorem mediatypeParses_over : Rows.mediatypeParsesRow.holds Tryd.pinned (OpenSpec.ofChange Rows.mediatypeParsesSpec) :=
  OpenClaim.holds_of_wide 12 Tryd.f12 rfl rfl rfl rfl rfl rfl rfl ⟨rfl, rfl, rfl, rfl, rfl⟩ rfl rfl rfl rfl rfl mediatypeParses_named Tryd.func12 mediatypeParses_closed
    mediatypeParses_inst mediatypeParses_wrap
    (fun os started H enc _ => mediatypeParses.lifted os started H enc)
theorem mediatypeParses_holds : Rows.MediatypeParsesSaid := mediatypeParses_over
#print axioms mediatypeParses_holds
theorem mediatypeParses_text : Rows.mediatypeParsesRow.wfByText (OpenSpec.ofChange Rows.mediatypeParsesSpec) = true := by kernel_rfl
theorem mediatypeParses_goes : false = Rows.mediatypeParsesRow.goesBy Tryd.pinned.checked.prog := by kernel_rfl
theorem mediatypeParses_fn : Tryd.prog.funcNamed "variantproxy/variantproxylaw10.MediatypeParses" = some 12 := by kernel_rfl
theorem mediatypeParses_stand : ([9].all fun u => !Tryd.prog.wantsStandIn u) = true := by kernel_rfl
theorem mediatypeParses_card : Rows.MediatypeParsesCardSaid :=
  Claim7.holds_tied_plain_at .later [] [.data, .pinned] true (true, "c9b1eb8fba350dd1439d07572b500f5884dfc217dbd421dc6546bbe65816ef19") false mediatypeParses_over (fun _ h => by cases h) mediatypeParses_text (fun _ h => by cases h) mediatypeParses_row_tie rfl ⟨rfl, rfl⟩ pf_main rfl
    (fun f fn hf hfn => by
      obtain rfl : f = 12 := Option.some.inj (mediatypeParses_fn.symm.trans hf) |>.symm
      obtain rfl : fn = Tryd.f12 := (Option.some.inj (Tryd.func12.symm.trans hfn)).symm
      exact ⟨pf_looks, fun j t ht => by
        rw [Tryd.params12] at ht
        have hm : t ∈ [9] := by have := Array.mem_of_getElem? ht; simpa using this
        exact (show Tryd.prog.wantsStandIn t = false by simpa using List.all_eq_true.1 mediatypeParses_stand t hm)⟩)
    mediatypeParses_goes
#print axioms mediatypeParses_card
end Go.Proofs.YtaicfjchbhnegaaDoor
