/-
  ParamBlanks: for every input the law returns true, and each argument reads behind the call as it read before. No conditions.
-/
import Derived.Test.YtaicfjchbhnegaaDoorRows
import Derived.Test.YtaicfjchbhnegaaDoorC10
import Derived.Test.YtaicfjchbhnegaaDoorOpens
import Derived.Test.YtaicfjchbhnegaaDoorFacts
import Derived.Test.YtaicfjchbhnegaaDoorWit
import Derived.Test.YtaicfjchbhnegaaDoorCards
import Derived.Test.YtaicfjchbhnegaaDoorTie
import Derived.WalkKit
import Derived.ProofKit
import Derived.OpenShut
import Derived.ShutString
import Derived.LaidMore
import Derived.Lay
import Derived.SevenTiedAt
import Derived.Stop.Joined
namespace Go.Proofs.YtaicfjchbhnegaaDoor
namespace paramBlanks
open Go.ChangeShapes Go.WideShapes Go.ChangeAt Go.RowKit
open Go.ChangeMaps (open_string shut_string)
open Go.Sep
set_option linter.unusedVariables false
set_option linter.unusedSimpArgs false
theorem own : ownKnob Tryd.prog.godebug = none := by kernel_rfl
set_option maxRecDepth 100000 in
theorem lifted (os : Os) (started : os.Started) (H : Type) (enc : TypeId × Value → H) :
    ReturnsInHanded {} Tryd.checked os 10 .any (fun w args => (Rows.paramBlanksSpec.pre enc Tryd.prog Tryd.f10 Rows.paramBlanksRow.domain false w args ∧ laidMetH Tryd.prog Rows.paramBlanksRow.laid w) ∧ sizedMet enc Tryd.prog Tryd.f10 (OpenSpec.ofChange Rows.paramBlanksSpec) false w args) (Rows.paramBlanksSpec.post enc Tryd.prog Tryd.f10 false true false false) := by
  refine returnsInHanded_of_change_and (C := Tryd.checked) (X := fun w _ => laidMetH Tryd.prog Rows.paramBlanksRow.laid w) (fun _ _ _ hh h => h.of_heap hh) own started (by kernel_rfl) Tryd.func10
    (ChangeSpec.witness_shaped (enc := enc) (C := Tryd.checked) (os := os) (X := fun w _ => laidMetH Tryd.prog Rows.paramBlanksRow.laid w) false (World.laidAll Tryd.prog os Rows.paramBlanksRow.laid) #[.string ByteArray.empty, .string ByteArray.empty, .string ByteArray.empty] 8 (World.laidAll_os _ _ _)
      (wit_shaped os _) (by kernel_rfl) (by kernel_rfl) (by kernel_rfl)
      (wit_met os _)) ?_
  intro W base args ds gs before hval0 hW hcnd _ hL _
  have hval : ∀ (j : Nat) t v, Tryd.f10.params[j]? = some t → args[j]? = some v → Value.okWide Tryd.prog W .any base t v := hval0
  have hW' := hW
  obtain ⟨p, q, hA0, hV, rfl, hfz, hnd⟩ := hW
  have hA : DataW.TrodAll enc Tryd.prog W 0 (fun _ => true) true Tryd.f10.params.toList args.toList ds p := hA0
  rw [Tryd.params10] at hA hval
  obtain ⟨v0, vs0, d0, ds0, p0, q0, hargs, rfl, rfl, h0, r0⟩ := trodAll_cons hA
  obtain ⟨v1, vs1, d1, ds1, p1, q1, rfl, rfl, rfl, h1, r1⟩ := trodAll_cons r0
  obtain ⟨v2, vs2, d2, ds2, p2, q2, rfl, rfl, rfl, h2, r2⟩ := trodAll_cons r1
  obtain ⟨rfl, rfl, rfl⟩ := trodAll_nil r2
  obtain rfl : args = #[v0, v1, v2] := by cases args; simp_all
  obtain ⟨rfl, rfl⟩ := trodVars_none hV
  obtain ⟨a0, rfl, rfl, rfl, w0⟩ := open_string Tryd.underlying9 (hval 0 9 v0 rfl rfl) h0
  obtain ⟨a1, rfl, rfl, rfl, w1⟩ := open_string Tryd.underlying9 (hval 1 9 v1 rfl rfl) h1
  obtain ⟨a2, rfl, rfl, rfl, w2⟩ := open_string Tryd.underlying9 (hval 2 9 v2 rfl rfl) h2
  clear hA0 hval0
  simp only [List.append_nil] at hW'
  have hcall := c_law09_ParamBlanks a0.data.toList a1.data.toList a2.data.toList  W (Old W) [] ⟨fun _ h => h, List.nodup_nil, fun _ h => (List.not_mem_nil h).elim, fun _ h => (List.not_mem_nil h).elim⟩ rfl
  simp only [str_data] at hcall
  refine hcall.mono fun e W' hE => ?_
  obtain ⟨_, I', m', rfl, hE, _⟩ := hE
  have bel : Below W.heap.size W W' := ⟨hE.os, hE.tape, hE.output, hE.size, fun k hk => hE.block k hk List.not_mem_nil⟩
  exact ⟨_, rfl, _, _, _, [], _, [], hW', trodAll_mk1 (shut_bool Tryd.underlying4 _), (trodAll_cons_mk (shut_string Tryd.underlying9 w0) (trodAll_cons_mk (shut_string Tryd.underlying9 w1) (trodAll_cons_mk (shut_string Tryd.underlying9 w2) trodAll_mk0))), rfl, bel.frame _, fun h => by cases h⟩
end paramBlanks
theorem paramBlanks_f_inPlace : (Rows.paramBlanksRow.inPlace == Tryd.prog.inPlace 10) = true := by kernel_rfl
theorem paramBlanks_f_unfollowed : (Rows.paramBlanksRow.unfollowed == Tryd.prog.unfollowed 10) = true := by kernel_rfl
theorem paramBlanks_f_recurses : (Rows.paramBlanksRow.recurses == Tryd.prog.recurses 10) = true := by kernel_rfl
theorem paramBlanks_f_named : (Rows.paramBlanksRow.named == Tryd.prog.varsNamed 10) = true := by kernel_rfl
theorem paramBlanks_closed : joinedFacts Tryd.prog 10 Tryd.f10 Rows.paramBlanksSpec Rows.paramBlanksRow = true := by
  unfold joinedFacts
  rw [pf_laid, pf_maps, pf_stops, pf_knobs, pf_keys, pf_heard, pf_enter, pf_lifts, paramBlanks_f_inPlace, paramBlanks_f_unfollowed, paramBlanks_f_recurses, paramBlanks_f_named]
  kernel_rfl
theorem paramBlanks_named : Tryd.pinned.checked.prog.funcNamed Rows.paramBlanksRow.func = some 10 := by kernel_rfl
theorem paramBlanks_inst : Tryd.f10.isInstance Tryd.pinned.checked.prog Rows.paramBlanksRow.origin Rows.paramBlanksRow.targs := of_decide_eq_true (by kernel_rfl)
theorem paramBlanks_wrap : Tryd.f10.isWrapper Tryd.pinned.checked.prog Rows.paramBlanksRow.wrapper Rows.paramBlanksRow.mainSum := by unfold Func.isWrapper; first | (rw [if_pos (by decide +kernel)]; kernel_rfl) | (rw [if_neg (by decide +kernel)]; exact ⟨rfl, rfl⟩)
theorem paramBlanks_over : Rows.paramBlanksRow.holds Tryd.pinned (OpenSpec.ofChange Rows.paramBlanksSpec) :=
  OpenClaim.holds_of_wide 10 Tryd.f10 rfl rfl rfl rfl rfl rfl rfl ⟨rfl, rfl, rfl, rfl, rfl⟩ rfl rfl rfl rfl rfl paramBlanks_named Tryd.func10 paramBlanks_closed
    paramBlanks_inst paramBlanks_wrap
    (fun os started H enc _ => paramBlanks.lifted os started H enc)
theorem paramBlanks_holds : Rows.ParamBlanksSaid := paramBlanks_over
#print axioms paramBlanks_holds
theorem paramBlanks_text : Rows.paramBlanksRow.wfByText (OpenSpec.ofChange Rows.paramBlanksSpec) = true := by kernel_rfl
theorem paramBlanks_goes : false = Rows.paramBlanksRow.goesBy Tryd.pinned.checked.prog := by kernel_rfl
theorem paramBlanks_fn : Tryd.prog.funcNamed "variantproxy/variantproxylaw09.ParamBlanks" = some 10 := by kernel_rfl
theorem paramBlanks_stand : ([9, 9, 9].all fun u => !Tryd.prog.wantsStandIn u) = true := by kernel_rfl
theorem paramBlanks_card : Rows.ParamBlanksCardSaid :=
  Claim7.holds_tied_plain_at .later [] [.data, .pinned] true (true, "c9b1eb8fba350dd1439d07572b500f5884dfc217dbd421dc6546bbe65816ef19") false paramBlanks_over (fun _ h => by cases h) paramBlanks_text (fun _ h => by cases h) paramBlanks_row_tie rfl ⟨rfl, rfl⟩ pf_main rfl
    (fun f fn hf hfn => by
      obtain rfl : f = 10 := Option.some.inj (paramBlanks_fn.symm.trans hf) |>.symm
      obtain rfl : fn = Tryd.f10 := (Option.some.inj (Tryd.func10.symm.trans hfn)).symm
      exact ⟨pf_looks, fun j t ht => by
        rw [Tryd.params10] at ht
        have hm : t ∈ [9, 9, 9] := by have := Array.mem_of_getElem? ht; simpa using this
        exact (show Tryd.prog.wantsStandIn t = false by simpa using List.all_eq_true.1 paramBlanks_stand t hm)⟩)
    paramBlanks_goes
#print axioms paramBlanks_card
end Go.Proofs.YtaicfjchbhnegaaDoor
