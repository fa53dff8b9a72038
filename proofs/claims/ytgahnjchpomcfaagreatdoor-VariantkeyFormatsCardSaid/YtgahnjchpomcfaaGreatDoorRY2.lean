/-
  VariantkeyFormats: for every input the law returns true, and each argument reads behind the call as it read before. No conditions.
-/
import Derived.Test.YtgahnjchpomcfaaGreatDoorRows
import Derived.Test.YtgahnjchpomcfaaGreatDoorYK7
import Derived.Test.YtgahnjchpomcfaaGreatDoorFacts
import Derived.Test.YtgahnjchpomcfaaGreatDoorWit
import Derived.Test.YtgahnjchpomcfaaGreatDoorCards
import Derived.Test.YtgahnjchpomcfaaGreatDoorTie
import Derived.WalkKit
import Derived.ProofKit
import Derived.OpenShut
import Derived.ShutString
import Derived.LaidMore
import Derived.Lay
import Derived.SevenTiedAt
import Derived.Stop.Joined
namespace Go.Proofs.YtgahnjchpomcfaaGreatDoor
namespace variantkeyFormats
open Go.ChangeShapes Go.WideShapes Go.ChangeAt Go.RowKit
open Go.ChangeMaps (open_string shut_string)
open Go.Sep
set_option linter.unusedVariables false
set_option linter.unusedSimpArgs false
theorem own : ownKnob Tryz.prog.godebug = none := by kernel_rfl
set_option maxRecDepth 100000 in
theorem lifted (os : Os) (started : os.Started) (H : Type) (enc : TypeId × Value → H) :
    ReturnsInHanded {} Tryz.checked os 11 .any (fun w args => (Rows.variantkeyFormatsSpec.pre enc Tryz.prog Tryz.f11 Rows.variantkeyFormatsRow.domain false w args ∧ laidMetH Tryz.prog Rows.variantkeyFormatsRow.laid w) ∧ sizedMet enc Tryz.prog Tryz.f11 (OpenSpec.ofChange Rows.variantkeyFormatsSpec) false w args) (Rows.variantkeyFormatsSpec.post enc Tryz.prog Tryz.f11 false true false false) := by
  refine returnsInHanded_of_change_and (C := Tryz.checked) (X := fun w _ => laidMetH Tryz.prog Rows.variantkeyFormatsRow.laid w) (fun _ _ _ hh h => h.of_heap hh) own started (by kernel_rfl) Tryz.func11
    (ChangeSpec.witness_shaped (enc := enc) (C := Tryz.checked) (os := os) (X := fun w _ => laidMetH Tryz.prog Rows.variantkeyFormatsRow.laid w) false (World.laidAll Tryz.prog os Rows.variantkeyFormatsRow.laid) #[.slice none 0 0, .slice none 0 0, .slice none 0 0, .slice none 0 0] 8 (World.laidAll_os _ _ _)
      (wit_shaped os _) (by kernel_rfl) (by kernel_rfl) (by kernel_rfl)
      (wit_met os _)) ?_
  intro W base args ds gs before hval0 hW hcnd _ hL _
  have hval : ∀ (j : Nat) t v, Tryz.f11.params[j]? = some t → args[j]? = some v → Value.okWide Tryz.prog W .any base t v := hval0
  have hW' := hW
  obtain ⟨p, q, hA0, hV, rfl, hfz, hnd⟩ := hW
  have hA : DataW.TrodAll enc Tryz.prog W 0 (fun _ => true) true Tryz.f11.params.toList args.toList ds p := hA0
  rw [Tryz.params11] at hA hval
  obtain ⟨v0, vs0, d0, ds0, p0, q0, hargs, rfl, rfl, h0, r0⟩ := trodAll_cons hA
  obtain ⟨v1, vs1, d1, ds1, p1, q1, rfl, rfl, rfl, h1, r1⟩ := trodAll_cons r0
  obtain ⟨v2, vs2, d2, ds2, p2, q2, rfl, rfl, rfl, h2, r2⟩ := trodAll_cons r1
  obtain ⟨v3, vs3, d3, ds3, p3, q3, rfl, rfl, rfl, h3, r3⟩ := trodAll_cons r2
  obtain ⟨rfl, rfl, rfl⟩ := trodAll_nil r3
  obtain rfl : args = #[v0, v1, v2, v3] := by cases args; simp_all
  obtain ⟨rfl, rfl⟩ := trodVars_none hV
  obtain ⟨a0, b0, m0, f0⟩ := open_list (opens_list Tryz.underlying26 (by kernel_rfl) (opens_list Tryz.underlying45 (by kernel_rfl) (opens_str Tryz.underlying9))) Tryz.underlying26 (hval 0 26 v0 rfl rfl) h0
  obtain ⟨a1, b1, m1, f1⟩ := open_list (opens_list Tryz.underlying23 (by kernel_rfl) (opens_struct Tryz.underlying48 (by kernel_rfl) (opensF_cons rfl (by kernel_rfl) (opens_str Tryz.underlying9) rfl (opensF_one rfl (by kernel_rfl) (opens_list Tryz.underlying45 (by kernel_rfl) (opens_str Tryz.underlying9)))))) Tryz.underlying23 (hval 1 23 v1 rfl rfl) h1
  obtain ⟨a2, b2, m2, f2⟩ := open_list (opens_list Tryz.underlying45 (by kernel_rfl) (opens_str Tryz.underlying9)) Tryz.underlying45 (hval 2 45 v2 rfl rfl) h2
  obtain ⟨a3, b3, m3, f3⟩ := open_list (opens_list Tryz.underlying45 (by kernel_rfl) (opens_str Tryz.underlying9)) Tryz.underlying45 (hval 3 45 v3 rfl rfl) h3
  clear hA0 hval0
  simp only [List.append_nil] at hW'
  have hcall := c_law16_VariantkeyFormats a0 v0 a1 v1 a2 v2 a3 v3 (by have := m0; simp only [maxLen] at this; omega) (fun a ha => by have := (f0.2 a ha).1; simp only [maxLen] at this; omega) (by have := m1; simp only [maxLen] at this; omega) (fun a ha => by have := (f1.2 a ha).2.1; simp only [maxLen] at this; omega) (by have := m2; simp only [maxLen] at this; omega) (by have := m3; simp only [maxLen] at this; omega)  W (Old W) [] ⟨fun _ h => h, List.nodup_nil, fun _ h => (List.not_mem_nil h).elim, fun _ h => (List.not_mem_nil h).elim⟩ (Sats.nil_append (As := [.imm (.list (.list .str)) v0 a0]) ⟨[], [], rfl, ⟨rfl, b0⟩, rfl⟩ (Sats.nil_append (As := [.imm (.list (.pair .str (.list .str))) v1 a1]) ⟨[], [], rfl, ⟨rfl, b1⟩, rfl⟩ (Sats.nil_append (As := [.imm (.list .str) v2 a2]) ⟨[], [], rfl, ⟨rfl, b2⟩, rfl⟩ (Sats.nil_append (As := [.imm (.list .str) v3 a3]) ⟨[], [], rfl, ⟨rfl, b3⟩, rfl⟩ rfl))))
  refine hcall.mono fun e W' hE => ?_
  obtain ⟨_, I', m', rfl, hE, _⟩ := hE
  have bel : Below W.heap.size W W' := ⟨hE.os, hE.tape, hE.output, hE.size, fun k hk => hE.block k hk List.not_mem_nil⟩
  exact ⟨_, rfl, _, _, _, [], _, [], hW', trodAll_mk1 (shut_bool Tryz.underlying4 _), (trodAll_cons_mk (Below.trod pf_laid (by kernel_rfl) (of_decide_eq_true (by kernel_rfl)) h0 bel (fun x hx => hW'.lt x (by simp [hx]))) (trodAll_cons_mk (Below.trod pf_laid (by kernel_rfl) (of_decide_eq_true (by kernel_rfl)) h1 bel (fun x hx => hW'.lt x (by simp [hx]))) (trodAll_cons_mk (Below.trod pf_laid (by kernel_rfl) (of_decide_eq_true (by kernel_rfl)) h2 bel (fun x hx => hW'.lt x (by simp [hx]))) (trodAll_cons_mk (Below.trod pf_laid (by kernel_rfl) (of_decide_eq_true (by kernel_rfl)) h3 bel (fun x hx => hW'.lt x (by simp [hx]))) trodAll_mk0)))), rfl, bel.frame _, fun h => by cases h⟩
end variantkeyFormats
theorem variantkeyFormats_f_inPlace : (Rows.variantkeyFormatsRow.inPlace == Tryz.prog.inPlace 11) = true := by kernel_rfl
theorem variantkeyFormats_f_unfollowed : (Rows.variantkeyFormatsRow.unfollowed == Tryz.prog.unfollowed 11) = true := by kernel_rfl
theorem variantkeyFormats_f_recurses : (Rows.variantkeyFormatsRow.recurses == Tryz.prog.recurses 11) = true := by kernel_rfl
theorem variantkeyFormats_f_named : (Rows.variantkeyFormatsRow.named == Tryz.prog.varsNamed 11) = true := by kernel_rfl
theorem variantkeyFormats_closed : joinedFacts Tryz.prog 11 Tryz.f11 Rows.variantkeyFormatsSpec Rows.variantkeyFormatsRow = true := by
  unfold joinedFacts
  rw [pf_laid, pf_maps, pf_stops, pf_knobs, pf_keys, pf_heard, pf_enter, pf_lifts, variantkeyFormats_f_inPlace, variantkeyFormats_f_unfollowed, variantkeyFormats_f_recurses, variantkeyFormats_f_named]
  kernel_rfl
theorem variantkeyFormats_named : Tryz.pinned.checked.prog.funcNamed Rows.variantkeyFormatsRow.func = some 11 := by kernel_rfl
theorem variantkeyFormats_inst : Tryz.f11.isInstance Tryz.pinned.checked.prog Rows.variantkeyFormatsRow.origin Rows.variantkeyFormatsRow.targs := of_decide_eq_true (by kernel_rfl)
theorem variantkeyFormats_wrap : Tryz.f11.isWrapper Tryz.pinned.checked.prog Rows.variantkeyFormatsRow.wrapper Rows.variantkeyFormatsRow.mainSum := by unfold Func.isWrapper; first | (rw [if_pos (by decide +kernel)]; kernel_rfl) | (rw [if_neg (by decide +kernel)]; exact ⟨rfl, rfl⟩)
theorem variantkeyFormats_over : Rows.variantkeyFormatsRow.holds Tryz.pinned (OpenSpec.ofChange Rows.variantkeyFormatsSpec) :=
  OpenClaim.holds_of_wide 11 Tryz.f11 rfl rfl rfl rfl rfl rfl rfl ⟨rfl, rfl, rfl, rfl, rfl⟩ rfl rfl rfl rfl rfl variantkeyFormats_named Tryz.func11 variantkeyFormats_closed
    variantkeyFormats_inst variantkeyFormats_wrap
    (fun os started H enc _ => variantkeyFormats.lifted os started H enc)
theorem variantkeyFormats_holds : Rows.VariantkeyFormatsSaid := variantkeyFormats_over
#print axioms variantkeyFormats_holds
theorem variantkeyFormats_text : Rows.variantkeyFormatsRow.wfByText (OpenSpec.ofChange Rows.variantkeyFormatsSpec) = true := by kernel_rfl
theorem variantkeyFormats_goes : false = Rows.variantkeyFormatsRow.goesBy Tryz.pinned.checked.prog := by kernel_rfl
theorem variantkeyFormats_fn : Tryz.prog.funcNamed "variantproxy/variantproxylaw16.VariantkeyFormats" = some 11 := by kernel_rfl
theorem variantkeyFormats_stand : ([26, 23, 45, 45].all fun u => !Tryz.prog.wantsStandIn u) = true := by kernel_rfl
theorem variantkeyFormats_card : Rows.VariantkeyFormatsCardSaid :=
  Claim7.holds_tied_plain_at .later [] [.data, .pinned] true (true, "a8ffd41a00bfd6e662060ee4e23947f233d01c4ad4195a33699820dd701ea048") false variantkeyFormats_over (fun _ h => by cases h) variantkeyFormats_text (fun _ h => by cases h) variantkeyFormats_row_tie rfl ⟨rfl, rfl⟩ pf_main rfl
    (fun f fn hf hfn => by
      obtain rfl : f = 11 := Option.some.inj (variantkeyFormats_fn.symm.trans hf) |>.symm
      obtain rfl : fn = Tryz.f11 := (Option.some.inj (Tryz.func11.symm.trans hfn)).symm
      exact ⟨pf_looks, fun j t ht => by
        rw [Tryz.params11] at ht
        have hm : t ∈ [26, 23, 45, 45] := by have := Array.mem_of_getElem? ht; simpa using this
        exact (show Tryz.prog.wantsStandIn t = false by simpa using List.all_eq_true.1 variantkeyFormats_stand t hm)⟩)
    variantkeyFormats_goes
#print axioms variantkeyFormats_card
end Go.Proofs.YtgahnjchpomcfaaGreatDoor
