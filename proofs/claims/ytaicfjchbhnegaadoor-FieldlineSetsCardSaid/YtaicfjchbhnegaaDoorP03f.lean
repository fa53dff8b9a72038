/-
  FieldlineSets: for every input the law returns true, and each argument reads behind the call as it read before. No conditions.
-/
import Derived.Test.YtaicfjchbhnegaaDoorRows
import Derived.Test.YtaicfjchbhnegaaDoorC6
import Derived.Test.YtaicfjchbhnegaaDoorOpens
import Derived.Test.YtaicfjchbhnegaaDoorFacts
import Derived.Test.YtaicfjchbhnegaaDoorWit
import Derived.Test.YtaicfjchbhnegaaDoorCards
import Derived.Test.YtaicfjchbhnegaaDoorTie
import Derived.WalkKit
import Derived.ProofKit
import Derived.OpenShut
import Derived.ShutString
import Derived.LaidMore
import Derived.Lay
import Derived.SevenTiedAt
import Derived.Stop.Joined
namespace Go.Proofs.YtaicfjchbhnegaaDoor
namespace fieldlineSets
open Go.ChangeShapes Go.WideShapes Go.ChangeAt Go.RowKit
open Go.ChangeMaps (open_string shut_string)
open Go.Sep
set_option linter.unusedVariables false
set_option linter.unusedSimpArgs false
theorem own : ownKnob Tryd.prog.godebug = none := by kernel_rfl
set_option maxRecDepth 100000 in
theorem lifted (os : Os) (started : os.Started) (H : Type) (enc : TypeId × Value → H) :
    ReturnsInHanded {} Tryd.checked os 8 .any (fun w args => (Rows.fieldlineSetsSpec.pre enc Tryd.prog Tryd.f8 Rows.fieldlineSetsRow.domain false w args ∧ laidMetH Tryd.prog Rows.fieldlineSetsRow.laid w) ∧ sizedMet enc Tryd.prog Tryd.f8 (OpenSpec.ofChange Rows.fieldlineSetsSpec) false w args) (Rows.fieldlineSetsSpec.post enc Tryd.prog Tryd.f8 false true false false) := by
  refine returnsInHanded_of_change_and (C := Tryd.checked) (X := fun w _ => laidMetH Tryd.prog Rows.fieldlineSetsRow.laid w) (fun _ _ _ hh h => h.of_heap hh) own started (by kernel_rfl) Tryd.func8
    (ChangeSpec.witness_shaped (enc := enc) (C := Tryd.checked) (os := os) (X := fun w _ => laidMetH Tryd.prog Rows.fieldlineSetsRow.laid w) false (World.laidAll Tryd.prog os Rows.fieldlineSetsRow.laid) #[.slice none 0 0, .string ByteArray.empty, .string ByteArray.empty, .string ByteArray.empty] 8 (World.laidAll_os _ _ _)
      (wit_shaped os _) (by kernel_rfl) (by kernel_rfl) (by kernel_rfl)
      (wit_met os _)) ?_
  intro W base args ds gs before hval0 hW hcnd _ hL _
  have hval : ∀ (j : Nat) t v, Tryd.f8.params[j]? = some t → args[j]? = some v → Value.okWide Tryd.prog W .any base t v := hval0
  have hW' := hW
  obtain ⟨p, q, hA0, hV, rfl, hfz, hnd⟩ := hW
  have hA : DataW.TrodAll enc Tryd.prog W 0 (fun _ => true) true Tryd.f8.params.toList args.toList ds p := hA0
  rw [Tryd.params8] at hA hval
  obtain ⟨v0, vs0, d0, ds0, p0, q0, hargs, rfl, rfl, h0, r0⟩ := trodAll_cons hA
  obtain ⟨v1, vs1, d1, ds1, p1, q1, rfl, rfl, rfl, h1, r1⟩ := trodAll_cons r0
  obtain ⟨v2, vs2, d2, ds2, p2, q2, rfl, rfl, rfl, h2, r2⟩ := trodAll_cons r1
  obtain ⟨v3, vs3, d3, ds3, p3, q3, rfl, rfl, rfl, h3, r3⟩ := trodAll_cons r2
  obtain ⟨rfl, rfl, rfl⟩ := trodAll_nil r3
  obtain rfl : args = #[v0, v1, v2, v3] := by cases args; simp_all
  obtain ⟨rfl, rfl⟩ := trodVars_none hV
  obtain ⟨a0, b0, m0⟩ := open_list (opens_list Tryd.underlying31 (by kernel_rfl) (opens_struct Tryd.underlying23 (by kernel_rfl) (opensF_cons rfl (by kernel_rfl) (opens_str Tryd.underlying9) rfl (opensF_one rfl (by kernel_rfl) (opens_str Tryd.underlying9))))) Tryd.underlying31 (hval 0 31 v0 rfl rfl) h0
  obtain ⟨a1, rfl, rfl, rfl, w1⟩ := open_string Tryd.underlying9 (hval 1 9 v1 rfl rfl) h1
  obtain ⟨a2, rfl, rfl, rfl, w2⟩ := open_string Tryd.underlying9 (hval 2 9 v2 rfl rfl) h2
  obtain ⟨a3, rfl, rfl, rfl, w3⟩ := open_string Tryd.underlying9 (hval 3 9 v3 rfl rfl) h3
  clear hA0 hval0
  simp only [List.append_nil] at hW'
  have hcall := c_law03_FieldlineSets a0 v0 a1.data.toList a2.data.toList a3.data.toList (by have := m0; simp only [maxLen] at this; omega) W (Old W) [] ⟨fun _ h => h, List.nodup_nil, fun _ h => (List.not_mem_nil h).elim, fun _ h => (List.not_mem_nil h).elim⟩ ⟨[], [], rfl, ⟨rfl, b0⟩, rfl⟩
  simp only [str_data] at hcall
  refine hcall.mono fun e W' hE => ?_
  obtain ⟨_, I', m', rfl, hE, _⟩ := hE
  have bel : Below W.heap.size W W' := ⟨hE.os, hE.tape, hE.output, hE.size, fun k hk => hE.block k hk List.not_mem_nil⟩
  exact ⟨_, rfl, _, _, _, [], _, [], hW', trodAll_mk1 (shut_bool Tryd.underlying4 _), (trodAll_cons_mk (Below.trod pf_laid (by kernel_rfl) (of_decide_eq_true (by kernel_rfl)) h0 bel (fun x hx => hW'.lt x (by simp [hx]))) (trodAll_cons_mk (shut_string Tryd.underlying9 w1) (trodAll_cons_mk (shut_string Tryd.underlying9 w2) (trodAll_cons_mk (shut_string Tryd.underlying9 w3) trodAll_mk0)))), rfl, bel.frame _, fun h => by cases h⟩
end fieldlineSets
theorem fieldlineSets_f_inPlace : (Rows.fieldlineSetsRow.inPlace == Tryd.prog.inPlace 8) = true := by kernel_rfl
theorem fieldlineSets_f_unfollowed : (Rows.fieldlineSetsRow.unfollowed == Tryd.prog.unfollowed 8) = true := by kernel_rfl
theorem fieldlineSets_f_recurses : (Rows.fieldlineSetsRow.recurses == Tryd.prog.recurses 8) = true := by kernel_rfl
theorem fieldlineSets_f_named : (Rows.fieldlineSetsRow.named == Tryd.prog.varsNamed 8) = true := by kernel_rfl
theorem fieldlineSets_closed : joinedFacts Tryd.prog 8 Tryd.f8 Rows.fieldlineSetsSpec Rows.fieldlineSetsRow = true := by
  unfold joinedFacts
  rw [pf_laid, pf_maps, pf_stops, pf_knobs, pf_keys, pf_heard, pf_enter, pf_lifts, fieldlineSets_f_inPlace, fieldlineSets_f_unfollowed, fieldlineSets_f_recurses, fieldlineSets_f_named]
  kernel_rfl
theorem fieldlineSets_named : Tryd.pinned.checked.prog.funcNamed Rows.fieldlineSetsRow.func = some 8 := by kernel_rfl
theorem fieldlineSets_inst : Tryd.f8.isInstance Tryd.pinned.checked.prog Rows.fieldlineSetsRow.origin Rows.fieldlineSetsRow.targs := of_decide_eq_true (by kernel_rfl)
theorem fieldlineSets_wrap : Tryd.f8.isWrapper Tryd.pinned.checked.prog Rows.fieldlineSetsRow.wrapper Rows.fieldlineSetsRow.mainSum := by unfold Func.isWrapper; first | (rw [if_pos (by decide +kernel)]; kernel_rfl) | (rw [if_neg (by decide +kernel)]; exact ⟨rfl, rfl⟩)
theorem fieldlineSets_over : Rows.fieldlineSetsRow.holds Tryd.pinned (OpenSpec.ofChange Rows.fieldlineSetsSpec) :=
  OpenClaim.holds_of_wide 8 Tryd.f8 rfl rfl rfl rfl rfl rfl rfl ⟨rfl, rfl, rfl, rfl, rfl⟩ rfl rfl rfl rfl rfl fieldlineSets_named Tryd.func8 fieldlineSets_closed
    fieldlineSets_inst fieldlineSets_wrap
    (fun os started H enc _ => fieldlineSets.lifted os started H enc)
theorem fieldlineSets_holds : Rows.FieldlineSetsSaid := fieldlineSets_over
#print axioms fieldlineSets_holds
theorem fieldlineSets_text : Rows.fieldlineSetsRow.wfByText (OpenSpec.ofChange Rows.fieldlineSetsSpec) = true := by kernel_rfl
theorem fieldlineSets_goes : false = Rows.fieldlineSetsRow.goesBy Tryd.pinned.checked.prog := by kernel_rfl
theorem fieldlineSets_fn : Tryd.prog.funcNamed "variantproxy/variantproxylaw03.FieldlineSets" = some 8 := by kernel_rfl
theorem fieldlineSets_stand : ([31, 9, 9, 9].all fun u => !Tryd.prog.wantsStandIn u) = true := by kernel_rfl
theorem fieldlineSets_card : Rows.FieldlineSetsCardSaid :=
  Claim7.holds_tied_plain_at .later [] [.data, .pinned] true (true, "c9b1eb8fba350dd1439d07572b500f5884dfc217dbd421dc6546bbe65816ef19") false fieldlineSets_over (fun _ h => by cases h) fieldlineSets_text (fun _ h => by cases h) fieldlineSets_row_tie rfl ⟨rfl, rfl⟩ pf_main rfl
    (fun f fn hf hfn => by
      obtain rfl : f = 8 := Option.some.inj (fieldlineSets_fn.symm.trans hf) |>.symm
      obtain rfl : fn = Tryd.f8 := (Option.some.inj (Tryd.func8.symm.trans hfn)).symm
      exact ⟨pf_looks, fun j t ht => by
        rw [Tryd.params8] at ht
        have hm : t ∈ [31, 9, 9, 9] := by have := Array.mem_of_getElem? ht; simpa using this
        exact (show Tryd.prog.wantsStandIn t = false by simpa using List.all_eq_true.1 fieldlineSets_stand t hm)⟩)
    fieldlineSets_goes
#print axioms fieldlineSets_card
end Go.Proofs.YtaicfjchbhnegaaDoor
