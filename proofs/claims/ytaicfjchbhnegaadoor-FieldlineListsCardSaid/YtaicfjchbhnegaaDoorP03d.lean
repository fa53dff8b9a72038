/-
  FieldlineLists: for every input the law returns true, and each argument reads behind the call as it read before. No conditions.
-/
import Derived.Test.YtaicfjchbhnegaaDoorRows
import Derived.Test.YtaicfjchbhnegaaDoorC5
import Derived.Test.YtaicfjchbhnegaaDoorOpens
import Derived.Test.YtaicfjchbhnegaaDoorFacts
import Derived.Test.YtaicfjchbhnegaaDoorWit
import Derived.Test.YtaicfjchbhnegaaDoorCards
import Derived.Test.YtaicfjchbhnegaaDoorTie
import Derived.WalkKit
import Derived.ProofKit
import Derived.OpenShut
import Derived.ShutString
import Derived.LaidMore
import Derived.Lay
import Derived.SevenTiedAt
import Derived.Stop.Joined
namespace Go.Proofs.YtaicfjchbhnegaaDoor
namespace fieldlineLists
open Go.ChangeShapes Go.WideShapes Go.ChangeAt Go.RowKit
open Go.ChangeMaps (open_string shut_string)
open Go.Sep
set_option linter.unusedVariables false
set_option linter.unusedSimpArgs false
theorem own : ownKnob Tryd.prog.godebug = none := by kernel_rfl
set_option maxRecDepth 100000 in
theorem lifted (os : Os) (started : os.Started) (H : Type) (enc : TypeId × Value → H) :
    ReturnsInHanded {} Tryd.checked os 6 .any (fun w args => (Rows.fieldlineListsSpec.pre enc Tryd.prog Tryd.f6 Rows.fieldlineListsRow.domain false w args ∧ laidMetH Tryd.prog Rows.fieldlineListsRow.laid w) ∧ sizedMet enc Tryd.prog Tryd.f6 (OpenSpec.ofChange Rows.fieldlineListsSpec) false w args) (Rows.fieldlineListsSpec.post enc Tryd.prog Tryd.f6 false true false false) := by
  refine returnsInHanded_of_change_and (C := Tryd.checked) (X := fun w _ => laidMetH Tryd.prog Rows.fieldlineListsRow.laid w) (fun _ _ _ hh h => h.of_heap hh) own started (by kernel_rfl) Tryd.func6
    (ChangeSpec.witness_shaped (enc := enc) (C := Tryd.checked) (os := os) (X := fun w _ => laidMetH Tryd.prog Rows.fieldlineListsRow.laid w) false (World.laidAll Tryd.prog os Rows.fieldlineListsRow.laid) #[.slice none 0 0, .string ByteArray.empty] 8 (World.laidAll_os _ _ _)
      (wit_shaped os _) (by kernel_rfl) (by kernel_rfl) (by kernel_rfl)
      (wit_met os _)) ?_
  intro W base args ds gs before hval0 hW hcnd _ hL _
  have hval : ∀ (j : Nat) t v, Tryd.f6.params[j]? = some t → args[j]? = some v → Value.okWide Tryd.prog W .any base t v := hval0
  have hW' := hW
  obtain ⟨p, q, hA0, hV, rfl, hfz, hnd⟩ := hW
  have hA : DataW.TrodAll enc Tryd.prog W 0 (fun _ => true) true Tryd.f6.params.toList args.toList ds p := hA0
  rw [Tryd.params6] at hA hval
  obtain ⟨v0, vs0, d0, ds0, p0, q0, hargs, rfl, rfl, h0, r0⟩ := trodAll_cons hA
  obtain ⟨v1, vs1, d1, ds1, p1, q1, rfl, rfl, rfl, h1, r1⟩ := trodAll_cons r0
  obtain ⟨rfl, rfl, rfl⟩ := trodAll_nil r1
  obtain rfl : args = #[v0, v1] := by cases args; simp_all
  obtain ⟨rfl, rfl⟩ := trodVars_none hV
  obtain ⟨a0, b0, m0⟩ := open_list (opens_list Tryd.underlying31 (by kernel_rfl) (opens_struct Tryd.underlying23 (by kernel_rfl) (opensF_cons rfl (by kernel_rfl) (opens_str Tryd.underlying9) rfl (opensF_one rfl (by kernel_rfl) (opens_str Tryd.underlying9))))) Tryd.underlying31 (hval 0 31 v0 rfl rfl) h0
  obtain ⟨a1, rfl, rfl, rfl, w1⟩ := open_string Tryd.underlying9 (hval 1 9 v1 rfl rfl) h1
  clear hA0 hval0
  simp only [List.append_nil] at hW'
  have hcall := c_law03_FieldlineLists a0 v0 a1.data.toList (by have := m0; simp only [maxLen] at this; omega) W (Old W) [] ⟨fun _ h => h, List.nodup_nil, fun _ h => (List.not_mem_nil h).elim, fun _ h => (List.not_mem_nil h).elim⟩ ⟨[], [], rfl, ⟨rfl, b0⟩, rfl⟩
  simp only [str_data] at hcall
  refine hcall.mono fun e W' hE => ?_
  obtain ⟨_, I', m', rfl, hE, _⟩ := hE
  have bel : Below W.heap.size W W' := ⟨hE.os, hE.tape, hE.output, hE.size, fun k hk => hE.block k hk List.not_mem_nil⟩
  exact ⟨_, rfl, _, _, _, [], _, [], hW', trodAll_mk1 (shut_bool Tryd.underlying4 _), (trodAll_cons_mk (Below.trod pf_laid (by kernel_rfl) (of_decide_eq_true (by kernel_rfl)) h0 bel (fun x hx => hW'.lt x (by simp [hx]))) (trodAll_cons_mk (shut_string Tryd.underlying9 w1) trodAll_mk0)), rfl, bel.frame _, fun h => by cases h⟩
end fieldlineLists
theorem fieldlineLists_f_inPlace : (Rows.fieldlineListsRow.inPlace == Tryd.prog.inPlace 6) = true := by kernel_rfl
theorem fieldlineLists_f_unfollowed : (Rows.fieldlineListsRow.unfollowed == Tryd.prog.unfollowed 6) = true := by kernel_rfl
theorem fieldlineLists_f_recurses : (Rows.fieldlineListsRow.recurses == Tryd.prog.recurses 6) = true := by kernel_rfl
theorem fieldlineLists_f_named : (Rows.fieldlineListsRow.named == Tryd.prog.varsNamed 6) = true := by kernel_rfl
theorem fieldlineLists_closed : joinedFacts Tryd.prog 6 Tryd.f6 Rows.fieldlineListsSpec Rows.fieldlineListsRow = true := by
  unfold joinedFacts
  rw [pf_laid, pf_maps, pf_stops, pf_knobs, pf_keys, pf_heard, pf_enter, pf_lifts, fieldlineLists_f_inPlace, fieldlineLists_f_unfollowed, fieldlineLists_f_recurses, fieldlineLists_f_named]
  kernel_rfl
theorem fieldlineLists_named : Tryd.pinned.checked.prog.funcNamed Rows.fieldlineListsRow.func = some 6 := by kernel_rfl
theorem fieldlineLists_inst : Tryd.f6.isInstance Tryd.pinned.checked.prog Rows.fieldlineListsRow.origin Rows.fieldlineListsRow.targs := of_decide_eq_true (by kernel_rfl)
theorem fieldlineLists_wrap : Tryd.f6.isWrapper Tryd.pinned.checked.prog Rows.fieldlineListsRow.wrapper Rows.fieldlineListsRow.mainSum := by unfold Func.isWrapper; first | (rw [if_pos (by decide +kernel)]; kernel_rfl) | (rw [if_neg (by decide +kernel)]; exact ⟨rfl, rfl⟩)
theorem fieldlineLists_over : Rows.fieldlineListsRow.holds Tryd.pinned (OpenSpec.ofChange Rows.fieldlineListsSpec) :=
  OpenClaim.holds_of_wide 6 Tryd.f6 rfl rfl rfl rfl rfl rfl rfl ⟨rfl, rfl, rfl, rfl, rfl⟩ rfl rfl rfl rfl rfl fieldlineLists_named Tryd.func6 fieldlineLists_closed
    fieldlineLists_inst fieldlineLists_wrap
    (fun os started H enc _ => fieldlineLists.lifted os started H enc)
theorem fieldlineLists_holds : Rows.FieldlineListsSaid := fieldlineLists_over
#print axioms fieldlineLists_holds
theorem fieldlineLists_text : Rows.fieldlineListsRow.wfByText (OpenSpec.ofChange Rows.fieldlineListsSpec) = true := by kernel_rfl
theorem fieldlineLists_goes : false = Rows.fieldlineListsRow.goesBy Tryd.pinned.checked.prog := by kernel_rfl
theorem fieldlineLists_fn : Tryd.prog.funcNamed "variantproxy/variantproxylaw03.FieldlineLists" = some 6 := by kernel_rfl
theorem fieldlineLists_stand : ([31, 9].all fun u => !Tryd.prog.wantsStandIn u) = true := by kernel_rfl
theorem fieldlineLists_card : Rows.FieldlineListsCardSaid :=
  Claim7.holds_tied_plain_at .later [] [.data, .pinned] true (true, "c9b1eb8fba350dd1439d07572b500f5884dfc217dbd421dc6546bbe65816ef19") false fieldlineLists_over (fun _ h => by cases h) fieldlineLists_text (fun _ h => by cases h) fieldlineLists_row_tie rfl ⟨rfl, rfl⟩ pf_main rfl
    (fun f fn hf hfn => by
      obtain rfl : f = 6 := Option.some.inj (fieldlineLists_fn.symm.trans hf) |>.symm
      obtain rfl : fn = Tryd.f6 := (Option.some.inj (Tryd.func6.symm.trans hfn)).symm
      exact ⟨pf_looks, fun j t ht => by
        rw [Tryd.params6] at ht
        have hm : t ∈ [31, 9] := by have := Array.mem_of_getElem? ht; simpa using this
        exact (show Tryd.prog.wantsStandIn t = false by simpa using List.all_eq_true.1 fieldlineLists_stand t hm)⟩)
    fieldlineLists_goes
#print axioms fieldlineLists_card
end Go.Proofs.YtaicfjchbhnegaaDoor
