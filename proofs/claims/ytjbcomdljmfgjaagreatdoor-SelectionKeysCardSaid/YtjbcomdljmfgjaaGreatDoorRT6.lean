/-
  SelectionKeys: for every input the law returns true, and each argument reads behind the call as it read before. No conditions.
-/
import Derived.Test.YtjbcomdljmfgjaaGreatDoorRows
import Derived.Test.YtjbcomdljmfgjaaGreatDoorVK10
import Derived.Test.YtjbcomdljmfgjaaGreatDoorFacts
import Derived.Test.YtjbcomdljmfgjaaGreatDoorWit
import Derived.Test.YtjbcomdljmfgjaaGreatDoorCards
import Derived.Test.YtjbcomdljmfgjaaGreatDoorTie
import Derived.WalkKit
import Derived.ProofKit
import Derived.OpenShut
import Derived.ShutString
import Derived.LaidMore
import Derived.Lay
import Derived.SevenTiedAt
import Derived.Stop.Joined
namespace Go.Proofs.YtjbcomdljmfgjaaGreatDoor
namespace selectionKeys
open Go.ChangeShapes Go.WideShapes Go.ChangeAt Go.RowKit
open Go.ChangeMaps (open_string shut_string)
open Go.Sep
set_option linter.unusedVariables false
set_option linter.unusedSimpArgs false
theorem own : ownKnob Tryz.prog.godebug = none := by kernel_rfl
set_option maxRecDepth 100000 in
theorem lifted (os : Os) (started : os.Started) (H : Type) (enc : TypeId × Value → H) :
    ReturnsInHanded {} Tryz.checked os 10 .any (fun w args => (Rows.selectionKeysSpec.pre enc Tryz.prog Tryz.f10 Rows.selectionKeysRow.domain false w args ∧ laidMetH Tryz.prog Rows.selectionKeysRow.laid w) ∧ sizedMet enc Tryz.prog Tryz.f10 (OpenSpec.ofChange Rows.selectionKeysSpec) false w args) (Rows.selectionKeysSpec.post enc Tryz.prog Tryz.f10 false true false false) := by
  refine returnsInHanded_of_change_and (C := Tryz.checked) (X := fun w _ => laidMetH Tryz.prog Rows.selectionKeysRow.laid w) (fun _ _ _ hh h => h.of_heap hh) own started (by kernel_rfl) Tryz.func10
    (ChangeSpec.witness_shaped (enc := enc) (C := Tryz.checked) (os := os) (X := fun w _ => laidMetH Tryz.prog Rows.selectionKeysRow.laid w) false (World.laidAll Tryz.prog os Rows.selectionKeysRow.laid) #[.slice none 0 0, .slice none 0 0, .bool false] 8 (World.laidAll_os _ _ _)
      (wit_shaped os _) (by kernel_rfl) (by kernel_rfl) (by kernel_rfl)
      (wit_met os _)) ?_
  intro W base args ds gs before hval0 hW hcnd _ hL _
  have hval : ∀ (j : Nat) t v, Tryz.f10.params[j]? = some t → args[j]? = some v → Value.okWide Tryz.prog W .any base t v := hval0
  have hW' := hW
  obtain ⟨p, q, hA0, hV, rfl, hfz, hnd⟩ := hW
  have hA : DataW.TrodAll enc Tryz.prog W 0 (fun _ => true) true Tryz.f10.params.toList args.toList ds p := hA0
  rw [Tryz.params10] at hA hval
  obtain ⟨v0, vs0, d0, ds0, p0, q0, hargs, rfl, rfl, h0, r0⟩ := trodAll_cons hA
  obtain ⟨v1, vs1, d1, ds1, p1, q1, rfl, rfl, rfl, h1, r1⟩ := trodAll_cons r0
  obtain ⟨v2, vs2, d2, ds2, p2, q2, rfl, rfl, rfl, h2, r2⟩ := trodAll_cons r1
  obtain ⟨rfl, rfl, rfl⟩ := trodAll_nil r2
  obtain rfl : args = #[v0, v1, v2] := by cases args; simp_all
  obtain ⟨rfl, rfl⟩ := trodVars_none hV
  obtain ⟨a0, b0, m0, f0⟩ := open_list (opens_list Tryz.underlying22 (by kernel_rfl) (opens_struct Tryz.underlying32 (by kernel_rfl) (opensF_cons rfl (by kernel_rfl) (opens_str Tryz.underlying9) rfl (opensF_one rfl (by kernel_rfl) (opens_list Tryz.underlying29 (by kernel_rfl) (opens_str Tryz.underlying9)))))) Tryz.underlying22 (hval 0 22 v0 rfl rfl) h0
  obtain ⟨a1, b1, m1, f1⟩ := open_list (opens_list Tryz.underlying23 (by kernel_rfl) (opens_struct Tryz.underlying35 (by kernel_rfl) (opensF_cons rfl (by kernel_rfl) (opens_str Tryz.underlying9) rfl (opensF_one rfl (by kernel_rfl) (opens_str Tryz.underlying9))))) Tryz.underlying23 (hval 1 23 v1 rfl rfl) h1
  obtain ⟨a2, rfl, rfl, rfl⟩ := open_bool Tryz.underlying4 (hval 2 4 v2 rfl rfl) h2
  clear hA0 hval0
  simp only [List.append_nil] at hW'
  have hcall := c_law17_SelectionKeys a0 v0 a1 v1 a2 (by have := m0; simp only [maxLen] at this; omega) (fun a ha => by have := (f0.2 a ha).2.1; simp only [maxLen] at this; omega) (by have := m1; simp only [maxLen] at this; omega)  W (Old W) [] ⟨fun _ h => h, List.nodup_nil, fun _ h => (List.not_mem_nil h).elim, fun _ h => (List.not_mem_nil h).elim⟩ (Sats.nil_append (As := [.imm (.list (.pair .str (.list .str))) v0 a0]) ⟨[], [], rfl, ⟨rfl, b0⟩, rfl⟩ (Sats.nil_append (As := [.imm (.list (.pair .str .str)) v1 a1]) ⟨[], [], rfl, ⟨rfl, b1⟩, rfl⟩ rfl))
  refine hcall.mono fun e W' hE => ?_
  obtain ⟨_, I', m', rfl, hE, _⟩ := hE
  have bel : Below W.heap.size W W' := ⟨hE.os, hE.tape, hE.output, hE.size, fun k hk => hE.block k hk List.not_mem_nil⟩
  exact ⟨_, rfl, _, _, _, [], _, [], hW', trodAll_mk1 (shut_bool Tryz.underlying4 _), (trodAll_cons_mk (Below.trod pf_laid (by kernel_rfl) (of_decide_eq_true (by kernel_rfl)) h0 bel (fun x hx => hW'.lt x (by simp [hx]))) (trodAll_cons_mk (Below.trod pf_laid (by kernel_rfl) (of_decide_eq_true (by kernel_rfl)) h1 bel (fun x hx => hW'.lt x (by simp [hx]))) (trodAll_cons_mk (shut_bool Tryz.underlying4 a2) trodAll_mk0))), rfl, bel.frame _, fun h => by cases h⟩
end selectionKeys
theorem selectionKeys_f_inPlace : (Rows.selectionKeysRow.inPlace == Tryz.prog.inPlace 10) = true := by kernel_rfl
theorem selectionKeys_f_unfollowed : (Rows.selectionKeysRow.unfollowed == Tryz.prog.unfollowed 10) = true := by kernel_rfl
theorem selectionKeys_f_recurses : (Rows.selectionKeysRow.recurses == Tryz.prog.recurses 10) = true := by kernel_rfl
theorem selectionKeys_f_named : (Rows.selectionKeysRow.named == Tryz.prog.varsNamed 10) = true := by kernel_rfl
theorem selectionKeys_closed : joinedFacts Tryz.prog 10 Tryz.f10 Rows.selectionKeysSpec Rows.selectionKeysRow = true := by
  unfold joinedFacts
  rw [pf_laid, pf_maps, pf_stops, pf_knobs, pf_keys, pf_heard, pf_enter, pf_lifts, selectionKeys_f_inPlace, selectionKeys_f_unfollowed, selectionKeys_f_recurses, selectionKeys_f_named]
  kernel_rfl
theorem selectionKeys_named : Tryz.pinned.checked.prog.funcNamed Rows.selectionKeysRow.func = some 10 := by kernel_rfl
theorem selectionKeys_inst : Tryz.f10.isInstance Tryz.pinned.checked.prog Rows.selectionKeysRow.origin Rows.selectionKeysRow.targs := of_decide_eq_true (by kernel_rfl)
theorem selectionKeys_wrap : Tryz.f10.isWrapper Tryz.pinned.checked.prog Rows.selectionKeysRow.wrapper Rows.selectionKeysRow.mainSum := by unfold Func.isWrapper; first | (rw [if_pos (by decide +kernel)]; kernel_rfl) | (rw [if_neg (by decide +kernel)]; exact ⟨rfl, rfl⟩)
theorem selectionKeys_over : Rows.selectionKeysRow.holds Tryz.pinned (OpenSpec.ofChange Rows.selectionKeysSpec) :=
  OpenClaim.holds_of_wide 10 Tryz.f10 rfl rfl rfl rfl rfl rfl rfl ⟨rfl, rfl, rfl, rfl, rfl⟩ rfl rfl rfl rfl rfl selectionKeys_named Tryz.func10 selectionKeys_closed
    selectionKeys_inst selectionKeys_wrap
    (fun os started H enc _ => selectionKeys.lifted os started H enc)
theorem selectionKeys_holds : Rows.SelectionKeysSaid := selectionKeys_over
#print axioms selectionKeys_holds
theorem selectionKeys_text : Rows.selectionKeysRow.wfByText (OpenSpec.ofChange Rows.selectionKeysSpec) = true := by kernel_rfl
theorem selectionKeys_goes : false = Rows.selectionKeysRow.goesBy Tryz.pinned.checked.prog := by kernel_rfl
theorem selectionKeys_fn : Tryz.prog.funcNamed "variantproxy/variantproxylaw17.SelectionKeys" = some 10 := by kernel_rfl
theorem selectionKeys_stand : ([22, 23, 4].all fun u => !Tryz.prog.wantsStandIn u) = true := by kernel_rfl
theorem selectionKeys_card : Rows.SelectionKeysCardSaid :=
  Claim7.holds_tied_plain_at .later [] [.data, .pinned] true (true, "fceadcfd570efa11c1a5376eef549bd14bf4e6d1853f1633a6d107b48340847f") false selectionKeys_over (fun _ h => by cases h) selectionKeys_text (fun _ h => by cases h) selectionKeys_row_tie rfl ⟨rfl, rfl⟩ pf_main rfl
    (fun f fn hf hfn => by
      obtain rfl : f = 10 := Option.some.inj (selectionKeys_fn.symm.trans hf) |>.symm
      obtain rfl : fn = Tryz.f10 := (Option.some.inj (Tryz.func10.symm.trans hfn)).symm
      exact ⟨pf_looks, fun j t ht => by
        rw [Tryz.params10] at ht
        have hm : t ∈ [22, 23, 4] := by have := Array.mem_of_getElem? ht; simpa using this
        exact (show Tryz.prog.wantsStandIn t = false by simpa using List.all_eq_true.1 selectionKeys_stand t hm)⟩)
    selectionKeys_goes
#print axioms selectionKeys_card
end Go.Proofs.YtjbcomdljmfgjaaGreatDoor
