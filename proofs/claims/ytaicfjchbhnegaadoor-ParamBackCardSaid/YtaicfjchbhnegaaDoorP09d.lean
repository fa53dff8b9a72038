/-
  ParamBack: for every input the law returns true, and each argument reads behind the call as it read before. No conditions.
-/
import Derived.Test.YtaicfjchbhnegaaDoorRows
import Derived.Test.YtaicfjchbhnegaaDoorC10
import Derived.Test.YtaicfjchbhnegaaDoorOpens
import Derived.Test.YtaicfjchbhnegaaDoorFacts
import Derived.Test.YtaicfjchbhnegaaDoorWit
import Derived.Test.YtaicfjchbhnegaaDoorCards
import Derived.Test.YtaicfjchbhnegaaDoorTie
import Derived.WalkKit
import Derived.ProofKit
import Derived.OpenShut
import Derived.ShutString
import Derived.LaidMore
import Derived.Lay
import Derived.SevenTiedAt
import Derived.Stop.Joined
namespace Go.Proofs.YtaicfjchbhnegaaDoor
namespace paramBack
open Go.ChangeShapes Go.WideShapes Go.ChangeAt Go.RowKit
open Go.ChangeMaps (open_string shut_string)
open Go.Sep
set_option linter.unusedVariables false
set_option linter.unusedSimpArgs false
theorem own : ownKnob Tryd.prog.godebug = none := by kernel_rfl
set_option maxRecDepth 100000 in
theorem lifted (os : Os) (started : os.Started) (H : Type) (enc : TypeId × Value → H) :
    ReturnsInHanded {} Tryd.checked os 11 .any (fun w args => (Rows.paramBackSpec.pre enc Tryd.prog Tryd.f11 Rows.paramBackRow.domain false w args ∧ laidMetH Tryd.prog Rows.paramBackRow.laid w) ∧ sizedMet enc Tryd.prog Tryd.f11 (OpenSpec.ofChange Rows.paramBackSpec) false w args) (Rows.paramBackSpec.post enc Tryd.prog Tryd.f11 false true false false) := by
  refine returnsInHanded_of_change_and (C := Tryd.checked) (X := fun w _ => laidMetH Tryd.prog Rows.paramBackRow.laid w) (fun _ _ _ hh h => h.of_heap hh) own started (by kernel_rfl) Tryd.func11
    (ChangeSpec.witness_shaped (enc := enc) (C := Tryd.checked) (os := os) (X := fun w _ => laidMetH Tryd.prog Rows.paramBackRow.laid w) false (World.laidAll Tryd.prog os Rows.paramBackRow.laid) #[.string ByteArray.empty, .slice none 0 0] 8 (World.laidAll_os _ _ _)
      (wit_shaped os _) (by kernel_rfl) (by kernel_rfl) (by kernel_rfl)
      (wit_met os _)) ?_
  intro W base args ds gs before hval0 hW hcnd _ hL _
  have hval : ∀ (j : Nat) t v, Tryd.f11.params[j]? = some t → args[j]? = some v → Value.okWide Tryd.prog W .any base t v := hval0
  have hW' := hW
  obtain ⟨p, q, hA0, hV, rfl, hfz, hnd⟩ := hW
  have hA : DataW.TrodAll enc Tryd.prog W 0 (fun _ => true) true Tryd.f11.params.toList args.toList ds p := hA0
  rw [Tryd.params11] at hA hval
  obtain ⟨v0, vs0, d0, ds0, p0, q0, hargs, rfl, rfl, h0, r0⟩ := trodAll_cons hA
  obtain ⟨v1, vs1, d1, ds1, p1, q1, rfl, rfl, rfl, h1, r1⟩ := trodAll_cons r0
  obtain ⟨rfl, rfl, rfl⟩ := trodAll_nil r1
  obtain rfl : args = #[v0, v1] := by cases args; simp_all
  obtain ⟨rfl, rfl⟩ := trodVars_none hV
  obtain ⟨a0, rfl, rfl, rfl, w0⟩ := open_string Tryd.underlying9 (hval 0 9 v0 rfl rfl) h0
  obtain ⟨a1, b1, m1, f1⟩ := open_list (opens_list Tryd.underlying45 (by kernel_rfl) (opens_struct Tryd.underlying52 (by kernel_rfl) (opensF_cons rfl (by kernel_rfl) (opens_str Tryd.underlying9) rfl (opensF_one rfl (by kernel_rfl) (opens_str Tryd.underlying9))))) Tryd.underlying45 (hval 1 45 v1 rfl rfl) h1
  clear hA0 hval0
  simp only [List.append_nil] at hW'
  have hcall := c_law09_ParamBack a0.data.toList a1 v1 (by have := m1; simp only [maxLen] at this; omega) W (Old W) [] ⟨fun _ h => h, List.nodup_nil, fun _ h => (List.not_mem_nil h).elim, fun _ h => (List.not_mem_nil h).elim⟩ (Sats.nil_append (As := [.imm (.list (.pair .str .str)) v1 a1]) ⟨[], [], rfl, ⟨rfl, b1⟩, rfl⟩ rfl)
  simp only [str_data] at hcall
  refine hcall.mono fun e W' hE => ?_
  obtain ⟨_, I', m', rfl, hE, _⟩ := hE
  have bel : Below W.heap.size W W' := ⟨hE.os, hE.tape, hE.output, hE.size, fun k hk => hE.block k hk List.not_mem_nil⟩
  exact ⟨_, rfl, _, _, _, [], _, [], hW', trodAll_mk1 (shut_bool Tryd.underlying4 _), (trodAll_cons_mk (shut_string Tryd.underlying9 w0) (trodAll_cons_mk (Below.trod pf_laid (by kernel_rfl) (of_decide_eq_true (by kernel_rfl)) h1 bel (fun x hx => hW'.lt x (by simp [hx]))) trodAll_mk0)), rfl, bel.frame _, fun h => by cases h⟩
end paramBack
theorem paramBack_f_inPlace : (Rows.paramBackRow.inPlace == Tryd.prog.inPlace 11) = true := by kernel_rfl
theorem paramBack_f_unfollowed : (Rows.paramBackRow.unfollowed == Tryd.prog.unfollowed 11) = true := by kernel_rfl
theorem paramBack_f_recurses : (Rows.paramBackRow.recurses == Tryd.prog.recurses 11) = true := by kernel_rfl
theorem paramBack_f_named : (Rows.paramBackRow.named == Tryd.prog.varsNamed 11) = true := by kernel_rfl
theorem paramBack_closed : joinedFacts Tryd.prog 11 Tryd.f11 Rows.paramBackSpec Rows.paramBackRow = true := by
  unfold joinedFacts
  rw [pf_laid, pf_maps, pf_stops, pf_knobs, pf_keys, pf_heard, pf_enter, pf_lifts, paramBack_f_inPlace, paramBack_f_unfollowed, paramBack_f_recurses, paramBack_f_named]
  kernel_rfl
theorem paramBack_named : Tryd.pinned.checked.prog.funcNamed Rows.paramBackRow.func = some 11 := by kernel_rfl
theorem paramBack_inst : Tryd.f11.isInstance Tryd.pinned.checked.prog Rows.paramBackRow.origin Rows.paramBackRow.targs := of_decide_eq_true (by kernel_rfl)
theorem paramBack_wrap : Tryd.f11.isWrapper Tryd.pinned.checked.prog Rows.paramBackRow.wrapper Rows.paramBackRow.mainSum := by unfold Func.isWrapper; first | (rw [if_pos (by decide +kernel)]; kernel_rfl) | (rw [if_neg (by decide +kernel)]; exact ⟨rfl, rfl⟩)
theorem paramBack_over : Rows.paramBackRow.holds Tryd.pinned (OpenSpec.ofChange Rows.paramBackSpec) :=
  OpenClaim.holds_of_wide 11 Tryd.f11 rfl rfl rfl rfl rfl rfl rfl ⟨rfl, rfl, rfl, rfl, rfl⟩ rfl rfl rfl rfl rfl paramBack_named Tryd.func11 paramBack_closed
    paramBack_inst paramBack_wrap
    (fun os started H enc _ => paramBack.lifted os started H enc)
theorem paramBack_holds : Rows.ParamBackSaid := paramBack_over
#print axioms paramBack_holds
theorem paramBack_text : Rows.paramBackRow.wfByText (OpenSpec.ofChange Rows.paramBackSpec) = true := by kernel_rfl
theorem paramBack_goes : false = Rows.paramBackRow.goesBy Tryd.pinned.checked.prog := by kernel_rfl
theorem paramBack_fn : Tryd.prog.funcNamed "variantproxy/variantproxylaw09.ParamBack" = some 11 := by kernel_rfl
theorem paramBack_stand : ([9, 45].all fun u => !Tryd.prog.wantsStandIn u) = true := by kernel_rfl
theorem paramBack_card : Rows.ParamBackCardSaid :=
  Claim7.holds_tied_plain_at .later [] [.data, .pinned] true (true, "c9b1eb8fba350dd1439d07572b500f5884dfc217dbd421dc6546bbe65816ef19") false paramBack_over (fun _ h => by cases h) paramBack_text (fun _ h => by cases h) paramBack_row_tie rfl ⟨rfl, rfl⟩ pf_main rfl
    (fun f fn hf hfn => by
      obtain rfl : f = 11 := Option.some.inj (paramBack_fn.symm.trans hf) |>.symm
      obtain rfl : fn = Tryd.f11 := (Option.some.inj (Tryd.func11.symm.trans hfn)).symm
      exact ⟨pf_looks, fun j t ht => by
        rw [Tryd.params11] at ht
        have hm : t ∈ [9, 45] := by have := Array.mem_of_getElem? ht; simpa using this
        exact (show Tryd.prog.wantsStandIn t = false by simpa using List.all_eq_true.1 paramBack_stand t hm)⟩)
    paramBack_goes
#print axioms paramBack_card
end Go.Proofs.YtaicfjchbhnegaaDoor
