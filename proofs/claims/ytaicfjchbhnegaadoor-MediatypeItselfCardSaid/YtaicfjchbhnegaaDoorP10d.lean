/-
  MediatypeItself: for every input the law returns true, and each argument reads behind the call as it read before. No conditions.
-/
import Derived.Test.YtaicfjchbhnegaaDoorRows
import Derived.Test.YtaicfjchbhnegaaDoorC10
import Derived.Test.YtaicfjchbhnegaaDoorOpens
import Derived.Test.YtaicfjchbhnegaaDoorFacts
import Derived.Test.YtaicfjchbhnegaaDoorWit
import Derived.Test.YtaicfjchbhnegaaDoorCards
import Derived.Test.YtaicfjchbhnegaaDoorTie
import Derived.WalkKit
import Derived.ProofKit
import Derived.OpenShut
import Derived.ShutString
import Derived.LaidMore
import Derived.Lay
import Derived.SevenTiedAt
import Derived.Stop.Joined
namespace Go.Proofs.YtaicfjchbhnegaaDoor
namespace mediatypeItself
open Go.ChangeShapes Go.WideShapes Go.ChangeAt Go.RowKit
open Go.ChangeMaps (open_string shut_string)
open Go.Sep
set_option linter.unusedVariables false
set_option linter.unusedSimpArgs false
theorem own : ownKnob Tryd.prog.godebug = none := by kernel_rfl
set_option maxRecDepth 100000 in
theorem lifted (os : Os) (started : os.Started) (H : Type) (enc : TypeId × Value → H) :
    ReturnsInHanded {} Tryd.checked os 13 .any (fun w args => (Rows.mediatypeItselfSpec.pre enc Tryd.prog Tryd.f13 Rows.mediatypeItselfRow.domain false w args ∧ laidMetH Tryd.prog Rows.mediatypeItselfRow.laid w) ∧ sizedMet enc Tryd.prog Tryd.f13 (OpenSpec.ofChange Rows.mediatypeItselfSpec) false w args) (Rows.mediatypeItselfSpec.post enc Tryd.prog Tryd.f13 false true false false) := by
  refine returnsInHanded_of_change_and (C := Tryd.checked) (X := fun w _ => laidMetH Tryd.prog Rows.mediatypeItselfRow.laid w) (fun _ _ _ hh h => h.of_heap hh) own started (by kernel_rfl) Tryd.func13
    (ChangeSpec.witness_shaped (enc := enc) (C := Tryd.checked) (os := os) (X := fun w _ => laidMetH Tryd.prog Rows.mediatypeItselfRow.laid w) false (World.laidAll Tryd.prog os Rows.mediatypeItselfRow.laid) #[.string ByteArray.empty, .string ByteArray.empty] 8 (World.laidAll_os _ _ _)
      (wit_shaped os _) (by kernel_rfl) (by kernel_rfl) (by kernel_rfl)
      (wit_met os _)) ?_
  intro W base args ds gs before hval0 hW hcnd _ hL _
  have hval : ∀ (j : Nat) t v, Tryd.f13.params[j]? = some t → args[j]? = some v → Value.okWide Tryd.prog W .any base t v := hval0
  have hW' := hW
  obtain ⟨p, q, hA0, hV, rfl, hfz, hnd⟩ := hW
  have hA : DataW.TrodAll enc Tryd.prog W 0 (fun _ => true) true Tryd.f13.params.toList args.toList ds p := hA0
  rw [Tryd.params13] at hA hval
  obtain ⟨v0, vs0, d0, ds0, p0, q0, hargs, rfl, rfl, h0, r0⟩ := trodAll_cons hA
  obtain ⟨v1, vs1, d1, ds1, p1, q1, rfl, rfl, rfl, h1, r1⟩ := trodAll_cons r0
  obtain ⟨rfl, rfl, rfl⟩ := trodAll_nil r1
  obtain rfl : args = #[v0, v1] := by cases args; simp_all
  obtain ⟨rfl, rfl⟩ := trodVars_none hV
  obtain ⟨a0, rfl, rfl, rfl, w0⟩ := open_string Tryd.underlying9 (hval 0 9 v0 rfl rfl) h0
  obtain ⟨a1, rfl, rfl, rfl, w1⟩ := open_string Tryd.underlying9 (hval 1 9 v1 rfl rfl) h1
  clear hA0 hval0
  simp only [List.append_nil] at hW'
  have hcall := c_law10_MediatypeItself a0.data.toList a1.data.toList  W (Old W) [] ⟨fun _ h => h, List.nodup_nil, fun _ h => (List.not_mem_nil h).elim, fun _ h => (List.not_mem_nil h).elim⟩ rfl
  simp only [str_data] at hcall
  refine hcall.mono fun e W' hE => ?_
  obtain ⟨_, I', m', rfl, hE, _⟩ := hE
  have bel : Below W.heap.size W W' := ⟨hE.os, hE.tape, hE.output, hE.size, fun k hk => hE.block k hk List.not_mem_nil⟩
  exact ⟨_, rfl, _, _, _, [], _, [], hW', trodAll_mk1 (shut_bool Tryd.underlying4 _), (trodAll_cons_mk (shut_string Tryd.underlying9 w0) (trodAll_cons_mk (shut_string Tryd.underlying9 w1) trodAll_mk0)), rfl, bel.frame _, fun h => by cases h⟩
end mediatypeItself
theorem mediatypeItself_f_inPlace : (Rows.mediatypeItselfRow.inPlace == Tryd.prog.inPlace 13) = true := by kernel_rfl
theorem mediatypeItself_f_unfollowed : (Rows.mediatypeItselfRow.unfollowed == Tryd.prog.unfollowed 13) = true := by kernel_rfl
theorem mediatypeItself_f_recurses : (Rows.mediatypeItselfRow.recurses == Tryd.prog.recurses 13) = true := by kernel_rfl
theorem mediatypeItself_f_named : (Rows.mediatypeItselfRow.named == Tryd.prog.varsNamed 13) = true := by kernel_rfl
theorem mediatypeItself_closed : joinedFacts Tryd.prog 13 Tryd.f13 Rows.mediatypeItselfSpec Rows.mediatypeItselfRow = true := by
  unfold joinedFacts
  rw [pf_laid, pf_maps, pf_stops, pf_knobs, pf_keys, pf_heard, pf_enter, pf_lifts, mediatypeItself_f_inPlace, mediatypeItself_f_unfollowed, mediatypeItself_f_recurses, mediatypeItself_f_named]
  kernel_rfl
theorem mediatypeItself_named : Tryd.pinned.checked.prog.funcNamed Rows.mediatypeItselfRow.func = some 13 := by kernel_rfl
theorem mediatypeItself_inst : Tryd.f13.isInstance Tryd.pinned.checked.prog Rows.mediatypeItselfRow.origin Rows.mediatypeItselfRow.targs := of_decide_eq_true (by kernel_rfl)
theorem mediatypeItself_wrap : Tryd.f13.isWrapper Tryd.pinned.checked.prog Rows.mediatypeItselfRow.wrapper Rows.mediatypeItselfRow.mainSum := by unfold Func.isWrapper; first | (rw [if_pos (by decide +kernel)]; kernel_rfl) | (rw [if_neg (by decide +kernel)]; exact ⟨rfl, rfl⟩)
theorem mediatypeItself_over : Rows.mediatypeItselfRow.holds Tryd.pinned (OpenSpec.ofChange Rows.mediatypeItselfSpec) :=
  OpenClaim.holds_of_wide 13 Tryd.f13 rfl rfl rfl rfl rfl rfl rfl ⟨rfl, rfl, rfl, rfl, rfl⟩ rfl rfl rfl rfl rfl mediatypeItself_named Tryd.func13 mediatypeItself_closed
    mediatypeItself_inst mediatypeItself_wrap
    (fun os started H enc _ => mediatypeItself.lifted os started H enc)
theorem mediatypeItself_holds : Rows.MediatypeItselfSaid := mediatypeItself_over
#print axioms mediatypeItself_holds
theorem mediatypeItself_text : Rows.mediatypeItselfRow.wfByText (OpenSpec.ofChange Rows.mediatypeItselfSpec) = true := by kernel_rfl
theorem mediatypeItself_goes : false = Rows.mediatypeItselfRow.goesBy Tryd.pinned.checked.prog := by kernel_rfl
theorem mediatypeItself_fn : Tryd.prog.funcNamed "variantproxy/variantproxylaw10.MediatypeItself" = some 13 := by kernel_rfl
theorem mediatypeItself_stand : ([9, 9].all fun u => !Tryd.prog.wantsStandIn u) = true := by kernel_rfl
theorem mediatypeItself_card : Rows.MediatypeItselfCardSaid :=
  Claim7.holds_tied_plain_at .later [] [.data, .pinned] true (true, "c9b1eb8fba350dd1439d07572b500f5884dfc217dbd421dc6546bbe65816ef19") false mediatypeItself_over (fun _ h => by cases h) mediatypeItself_text (fun _ h => by cases h) mediatypeItself_row_tie rfl ⟨rfl, rfl⟩ pf_main rfl
    (fun f fn hf hfn => by
      obtain rfl : f = 13 := Option.some.inj (mediatypeItself_fn.symm.trans hf) |>.symm
      obtain rfl : fn = Tryd.f13 := (Option.some.inj (Tryd.func13.symm.trans hfn)).symm
      exact ⟨pf_looks, fun j t ht => by
        rw [Tryd.params13] at ht
        have hm : t ∈ [9, 9] := by have := Array.mem_of_getElem? ht; simpa using this
        exact (show Tryd.prog.wantsStandIn t = false by simpa using List.all_eq_true.1 mediatypeItself_stand t hm)⟩)
    mediatypeItself_goes
#print axioms mediatypeItself_card
end Go.Proofs.YtaicfjchbhnegaaDoor
