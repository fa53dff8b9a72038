/-
  MediatypeBack: for every input the law returns true, and each argument reads behind the call as it read before. No conditions.
-/
import Derived.Test.YtaicfjchbhnegaaDoorRows
import Derived.Test.YtaicfjchbhnegaaDoorC10
import Derived.Test.YtaicfjchbhnegaaDoorOpens
import Derived.Test.YtaicfjchbhnegaaDoorFacts
import Derived.Test.YtaicfjchbhnegaaDoorWit
import Derived.Test.YtaicfjchbhnegaaDoorCards
import Derived.Test.YtaicfjchbhnegaaDoorTie
import Derived.WalkKit
import Derived.ProofKit
import Derived.OpenShut
import Derived.ShutString
import Derived.LaidMore
import Derived.Lay
import Derived.SevenTiedAt
import Derived.Stop.Joined
namespace Go.Proofs.YtaicfjchbhnegaaDoor
namespace mediatypeBack
open Go.ChangeShapes Go.WideShapes Go.ChangeAt Go.RowKit
open Go.ChangeMaps (open_string shut_string)
open Go.Sep
set_option linter.unusedVariables false
set_option linter.unusedSimpArgs false
theorem own : ownKnob Tryd.prog.godebug = none := by kernel_rfl
set_option maxRecDepth 100000 in
theorem lifted (os : Os) (started : os.Started) (H : Type) (enc : TypeId × Value → H) :
    ReturnsInHanded {} Tryd.checked os 16 .any (fun w args => (Rows.mediatypeBackSpec.pre enc Tryd.prog Tryd.f16 Rows.mediatypeBackRow.domain false w args ∧ laidMetH Tryd.prog Rows.mediatypeBackRow.laid w) ∧ sizedMet enc Tryd.prog Tryd.f16 (OpenSpec.ofChange Rows.mediatypeBackSpec) false w args) (Rows.mediatypeBackSpec.post enc Tryd.prog Tryd.f16 false true false false) := by
  refine returnsInHanded_of_change_and (C := Tryd.checked) (X := fun w _ => laidMetH Tryd.prog Rows.mediatypeBackRow.laid w) (fun _ _ _ hh h => h.of_heap hh) own started (by kernel_rfl) Tryd.func16
    (ChangeSpec.witness_shaped (enc := enc) (C := Tryd.checked) (os := os) (X := fun w _ => laidMetH Tryd.prog Rows.mediatypeBackRow.laid w) false (World.laidAll Tryd.prog os Rows.mediatypeBackRow.laid) #[.string ByteArray.empty] 8 (World.laidAll_os _ _ _)
      (wit_shaped os _) (by kernel_rfl) (by kernel_rfl) (by kernel_rfl)
      (wit_met os _)) ?_
  intro W base args ds gs before hval0 hW hcnd _ hL _
  have hval : ∀ (j : Nat) t v, Tryd.f16.params[j]? = some t → args[j]? = some v → Value.okWide Tryd.prog W .any base t v := hval0
  have hW' := hW
  obtain ⟨p, q, hA0, hV, rfl, hfz, hnd⟩ := hW
  have hA : DataW.TrodAll enc Tryd.prog W 0 (fun _ => true) true Tryd.f16.params.toList args.toList ds p := hA0
  rw [Tryd.params16] at hA hval
  obtain ⟨v0, vs0, d0, ds0, p0, q0, hargs, rfl, rfl, h0, r0⟩ := trodAll_cons hA
  obtain ⟨rfl, rfl, rfl⟩ := trodAll_nil r0
  obtain rfl : args = #[v0] := by cases args; simp_all
  obtain ⟨rfl, rfl⟩ := trodVars_none hV
  obtain ⟨a0, rfl, rfl, rfl, w0⟩ := open_string Tryd.underlying9 (hval 0 9 v0 rfl rfl) h0
  clear hA0 hval0
  simp only [List.append_nil] at hW'
  have hcall := c_law10_MediatypeBack a0.data.toList  W (Old W) [] ⟨fun _ h => h, List.nodup_nil, fun _ h => (List.not_mem_nil h).elim, fun _ h => (List.not_mem_nil h).elim⟩ rfl
  simp only [str_data] at hcall
  refine hcall.mono fun e W' hE => ?_
  obtain ⟨_, I', m', rfl, hE, _⟩ := hE
  have bel : Below W.heap.size W W' := ⟨hE.os, hE.tape, hE.output, hE.size, fun k hk => hE.block k hk List.not_mem_nil⟩
  exact ⟨_, rfl, _, _, _, [], _, [], hW', trodAll_mk1 (shut_bool Tryd.underlying4 _), (trodAll_cons_mk (shut_string Tryd.underlying9 w0) trodAll_mk0), rfl, bel.frame _, fun h => by cases h⟩
end mediatypeBack
theorem mediatypeBack_f_inPlace : (Rows.mediatypeBackRow.inPlace == Tryd.prog.inPlace 16) = true := by kernel_rfl
theorem mediatypeBack_f_unfollowed : (Rows.mediatypeBackRow.unfollowed == Tryd.prog.unfollowed 16) = true := by kernel_rfl
theorem mediatypeBack_f_recurses : (Rows.mediatypeBackRow.recurses == Tryd.prog.recurses 16) = true := by kernel_rfl
theorem mediatypeBack_f_named : (Rows.mediatypeBackRow.named == Tryd.prog.varsNamed 16) = true := by kernel_rfl
theorem mediatypeBack_closed : joinedFacts Tryd.prog 16 Tryd.f16 Rows.mediatypeBackSpec Rows.mediatypeBackRow = true := by
  unfold joinedFacts
  rw [pf_laid, pf_maps, pf_stops, pf_knobs, pf_keys, pf_heard, pf_enter, pf_lifts, mediatypeBack_f_inPlace, mediatypeBack_f_unfollowed, mediatypeBack_f_recurses, mediatypeBack_f_named]
  kernel_rfl
theorem mediatypeBack_named : Tryd.pinned.checked.prog.funcNamed Rows.mediatypeBackRow.func = some 16 := by kernel_rfl
theorem mediatypeBack_inst : Tryd.f16.isInstance Tryd.pinned.checked.prog Rows.mediatypeBackRow.origin Rows.mediatypeBackRow.targs := of_decide_eq_true (by kernel_rfl)
theorem mediatypeBack_wrap : Tryd.f16.isWrapper Tryd.pinned.checked.prog Rows.mediatypeBackRow.wrapper Rows.mediatypeBackRow.mainSum := by unfold Func.isWrapper; first | (rw [if_pos (by decide +kernel)]; kernel_rfl) | (rw [if_neg (by decide +kernel)]; exact ⟨rfl, rfl⟩)
theorem mediatypeBack_over : Rows.mediatypeBackRow.holds Tryd.pinned (OpenSpec.ofChange Rows.mediatypeBackSpec) :=
  OpenClaim.holds_of_wide 16 Tryd.f16 rfl rfl rfl rfl rfl rfl rfl ⟨rfl, rfl, rfl, rfl, rfl⟩ rfl rfl rfl rfl rfl mediatypeBack_named Tryd.func16 mediatypeBack_closed
    mediatypeBack_inst mediatypeBack_wrap
    (fun os started H enc _ => mediatypeBack.lifted os started H enc)
theorem mediatypeBack_holds : Rows.MediatypeBackSaid := mediatypeBack_over
#print axioms mediatypeBack_holds
theorem mediatypeBack_text : Rows.mediatypeBackRow.wfByText (OpenSpec.ofChange Rows.mediatypeBackSpec) = true := by kernel_rfl
theorem mediatypeBack_goes : false = Rows.mediatypeBackRow.goesBy Tryd.pinned.checked.prog := by kernel_rfl
theorem mediatypeBack_fn : Tryd.prog.funcNamed "variantproxy/variantproxylaw10.MediatypeBack" = some 16 := by kernel_rfl
theorem mediatypeBack_stand : ([9].all fun u => !Tryd.prog.wantsStandIn u) = true := by kernel_rfl
theorem mediatypeBack_card : Rows.MediatypeBackCardSaid :=
  Claim7.holds_tied_plain_at .later [] [.data, .pinned] true (true, "c9b1eb8fba350dd1439d07572b500f5884dfc217dbd421dc6546bbe65816ef19") false mediatypeBack_over (fun _ h => by cases h) mediatypeBack_text (fun _ h => by cases h) mediatypeBack_row_tie rfl ⟨rfl, rfl⟩ pf_main rfl
    (fun f fn hf hfn => by
      obtain rfl : f = 16 := Option.some.inj (mediatypeBack_fn.symm.trans hf) |>.symm
      obtain rfl : fn = Tryd.f16 := (Option.some.inj (Tryd.func16.symm.trans hfn)).symm
      exact ⟨pf_looks, fun j t ht => by
        rw [Tryd.params16] at ht
        have hm : t ∈ [9] := by have := Array.mem_of_getElem? ht; simpa using this
        exact (show Tryd.prog.wantsStandIn t = false by simpa using List.all_eq_true.1 mediatypeBack_stand t hm)⟩)
    mediatypeBack_goes
#print axioms mediatypeBack_card
end Go.Proofs.YtaicfjchbhnegaaDoor
