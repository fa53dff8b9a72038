/-
  ClassClasses: for every input the law returns true, and each argument reads behind the call as it read before. No conditions.
-/
import Derived.Test.YtjbcomdljmfgjaaGreatDoorRows
import Derived.Test.YtjbcomdljmfgjaaGreatDoorWK10
import Derived.Test.YtjbcomdljmfgjaaGreatDoorFacts
import Derived.Test.YtjbcomdljmfgjaaGreatDoorWit
import Derived.Test.YtjbcomdljmfgjaaGreatDoorCards
import Derived.Test.YtjbcomdljmfgjaaGreatDoorTie
import Derived.WalkKit
import Derived.ProofKit
import Derived.OpenShut
import Derived.ShutString
import Derived.LaidMore
import Derived.Lay
import Derived.SevenTiedAt
import Derived.Stop.Joined
namespace Go.Proofs.YtjbcomdljmfgjaaGreatDoor
namespace classClasses
open Go.ChangeShapes Go.WideShapes Go.ChangeAt Go.RowKit
open Go.ChangeMaps (open_string shut_string)
open Go.Sep
set_option linter.unusedVariables false
set_option linter.unusedSimpArgs false
theorem own : ownKnob Tryz.prog.godebug = none := by kernel_rfl
set_option maxRecDepth 100000 in
theorem lifted (os : Os) (started : os.Started) (H : Type) (enc : TypeId × Value → H) :
    ReturnsInHanded {} Tryz.checked os 3 .any (fun w args => (Rows.classClassesSpec.pre enc Tryz.prog Tryz.f3 Rows.classClassesRow.domain false w args ∧ laidMetH Tryz.prog Rows.classClassesRow.laid w) ∧ sizedMet enc Tryz.prog Tryz.f3 (OpenSpec.ofChange Rows.classClassesSpec) false w args) (Rows.classClassesSpec.post enc Tryz.prog Tryz.f3 false true false false) := by
  refine returnsInHanded_of_change_and (C := Tryz.checked) (X := fun w _ => laidMetH Tryz.prog Rows.classClassesRow.laid w) (fun _ _ _ hh h => h.of_heap hh) own started (by kernel_rfl) Tryz.func3
    (ChangeSpec.witness_shaped (enc := enc) (C := Tryz.checked) (os := os) (X := fun w _ => laidMetH Tryz.prog Rows.classClassesRow.laid w) false (World.laidAll Tryz.prog os Rows.classClassesRow.laid) #[.slice none 0 0, .slice none 0 0, .slice none 0 0, .bool false] 8 (World.laidAll_os _ _ _)
      (wit_shaped os _) (by kernel_rfl) (by kernel_rfl) (by kernel_rfl)
      (wit_met os _)) ?_
  intro W base args ds gs before hval0 hW hcnd _ hL _
  have hval : ∀ (j : Nat) t v, Tryz.f3.params[j]? = some t → args[j]? = some v → Value.okWide Tryz.prog W .any base t v := hval0
  have hW' := hW
  obtain ⟨p, q, hA0, hV, rfl, hfz, hnd⟩ := hW
  have hA : DataW.TrodAll enc Tryz.prog W 0 (fun _ => true) true Tryz.f3.params.toList args.toList ds p := hA0
  rw [Tryz.params3] at hA hval
  obtain ⟨v0, vs0, d0, ds0, p0, q0, hargs, rfl, rfl, h0, r0⟩ := trodAll_cons hA
  obtain ⟨v1, vs1, d1, ds1, p1, q1, rfl, rfl, rfl, h1, r1⟩ := trodAll_cons r0
  obtain ⟨v2, vs2, d2, ds2, p2, q2, rfl, rfl, rfl, h2, r2⟩ := trodAll_cons r1
  obtain ⟨v3, vs3, d3, ds3, p3, q3, rfl, rfl, rfl, h3, r3⟩ := trodAll_cons r2
  obtain ⟨rfl, rfl, rfl⟩ := trodAll_nil r3
  obtain rfl : args = #[v0, v1, v2, v3] := by cases args; simp_all
  obtain ⟨rfl, rfl⟩ := trodVars_none hV
  obtain ⟨a0, b0, m0, f0⟩ := open_list (opens_list Tryz.underlying22 (by kernel_rfl) (opens_struct Tryz.underlying32 (by kernel_rfl) (opensF_cons rfl (by kernel_rfl) (opens_str Tryz.underlying9) rfl (opensF_one rfl (by kernel_rfl) (opens_list Tryz.underlying29 (by kernel_rfl) (opens_str Tryz.underlying9)))))) Tryz.underlying22 (hval 0 22 v0 rfl rfl) h0
  obtain ⟨a1, b1, m1, f1⟩ := open_list (opens_list Tryz.underlying23 (by kernel_rfl) (opens_struct Tryz.underlying35 (by kernel_rfl) (opensF_cons rfl (by kernel_rfl) (opens_str Tryz.underlying9) rfl (opensF_one rfl (by kernel_rfl) (opens_str Tryz.underlying9))))) Tryz.underlying23 (hval 1 23 v1 rfl rfl) h1
  obtain ⟨a2, b2, m2, f2⟩ := open_list (opens_list Tryz.underlying23 (by kernel_rfl) (opens_struct Tryz.underlying35 (by kernel_rfl) (opensF_cons rfl (by kernel_rfl) (opens_str Tryz.underlying9) rfl (opensF_one rfl (by kernel_rfl) (opens_str Tryz.underlying9))))) Tryz.underlying23 (hval 2 23 v2 rfl rfl) h2
  obtain ⟨a3, rfl, rfl, rfl⟩ := open_bool Tryz.underlying4 (hval 3 4 v3 rfl rfl) h3
  clear hA0 hval0
  simp only [List.append_nil] at hW'
  have hcall := c_law18_ClassClasses a0 v0 a1 v1 a2 v2 a3 (by have := m0; simp only [maxLen] at this; omega) (fun a ha => by have := (f0.2 a ha).2.1; simp only [maxLen] at this; omega) (by have := m1; simp only [maxLen] at this; omega) (by have := m2; simp only [maxLen] at this; omega)  W (Old W) [] ⟨fun _ h => h, List.nodup_nil, fun _ h => (List.not_mem_nil h).elim, fun _ h => (List.not_mem_nil h).elim⟩ (Sats.nil_append (As := [.imm (.list (.pair .str (.list .str))) v0 a0]) ⟨[], [], rfl, ⟨rfl, b0⟩, rfl⟩ (Sats.nil_append (As := [.imm (.list (.pair .str .str)) v1 a1]) ⟨[], [], rfl, ⟨rfl, b1⟩, rfl⟩ (Sats.nil_append (As := [.imm (.list (.pair .str .str)) v2 a2]) ⟨[], [], rfl, ⟨rfl, b2⟩, rfl⟩ rfl)))
  refine hcall.mono fun e W' hE => ?_
  obtain ⟨_, I', m', rfl, hE, _⟩ := hE
  have bel : Below W.heap.size W W' := ⟨hE.os, hE.tape, hE.output, hE.size, fun k hk => hE.block k hk List.not_mem_nil⟩
  exact ⟨_, rfl, _, _, _, [], _, [], hW', trodAll_mk1 (shut_bool Tryz.underlying4 _), (trodAll_cons_mk (Below.trod pf_laid (by kernel_rfl) (of_decide_eq_true (by kernel_rfl)) h0 bel (fun x hx => hW'.lt x (by simp [hx]))) (trodAll_cons_mk (Below.trod pf_laid (by kernel_rfl) (of_decide_eq_true (by kernel_rfl)) h1 bel (fun x hx => hW'.lt x (by simp [hx]))) (trodAll_cons_mk (Below.trod pf_laid (by kernel_rfl) (of_decide_eq_true (by kernel_rfl)) h2 bel (fun x hx => hW'.lt x (by simp [hx]))) (trodAll_cons_mk (shut_bool Tryz.underlying4 a3) trodAll_mk0)))), rfl, bel.frame _, fun h => by cases h⟩
end classClasses
theorem classClasses_f_inPlace : (Rows.classClassesRow.inPlace == Tryz.prog.inPlace 3) = true := by kernel_rfl
theorem classClasses_f_unfollowed : (Rows.classClassesRow.unfollowed == Tryz.prog.unfollowed 3) = true := by kernel_rfl
theorem classClasses_f_recurses : (Rows.classClassesRow.recurses == Tryz.prog.recurses 3) = true := by kernel_rfl
theorem classClasses_f_named : (Rows.classClassesRow.named == Tryz.prog.varsNamed 3) = true := by kernel_rfl
theorem classClasses_closed : joinedFacts Tryz.prog 3 Tryz.f3 Rows.classClassesSpec Rows.classClassesRow = true := by
  unfold joinedFacts
  rw [pf_laid, pf_maps, pf_stops, pf_knobs, pf_keys, pf_heard, pf_enter, pf_lifts, classClasses_f_inPlace, classClasses_f_unfollowed, classClasses_f_recurses, classClasses_f_named]
  kernel_rfl
theorem classClasses_named : Tryz.pinned.checked.prog.funcNamed Rows.classClassesRow.func = some 3 := by kernel_rfl
theorem classClasses_inst : Tryz.f3.isInstance Tryz.pinned.checked.prog Rows.classClassesRow.origin Rows.classClassesRow.targs := of_decide_eq_true (by kernel_rfl)
theorem classClasses_wrap : Tryz.f3.isWrapper Tryz.pinned.checked.prog Rows.classClassesRow.wrapper Rows.classClassesRow.mainSum := by unfold Func.isWrapper; first | (rw [if_pos (by decide +kernel)]; kernel_rfl) | (rw [if_neg (by decide +kernel)]; exact ⟨rfl, rfl⟩)
theorem classClasses_over : Rows.classClassesRow.holds Tryz.pinned (OpenSpec.ofChange Rows.classClassesSpec) :=
  OpenClaim.holds_of_wide 3 Tryz.f3 rfl rfl rfl rfl rfl rfl rfl ⟨rfl, rfl, rfl, rfl, rfl⟩ rfl rfl rfl rfl rfl classClasses_named Tryz.func3 classClasses_closed
    classClasses_inst classClasses_wrap
    (fun os started H enc _ => classClasses.lifted os started H enc)
theorem classClasses_holds : Rows.ClassClassesSaid := classClasses_over
#print axioms classClasses_holds
theorem classClasses_text : Rows.classClassesRow.wfByText (OpenSpec.ofChange Rows.classClassesSpec) = true := by kernel_rfl
theorem classClasses_goes : false = Rows.classClassesRow.goesBy Tryz.pinned.checked.prog := by kernel_rfl
theorem classClasses_fn : Tryz.prog.funcNamed "variantproxy/variantproxylaw18.ClassClasses" = some 3 := by kernel_rfl
theorem classClasses_stand : ([22, 23, 23, 4].all fun u => !Tryz.prog.wantsStandIn u) = true := by kernel_rfl
theorem classClasses_card : Rows.ClassClassesCardSaid :=
  Claim7.holds_tied_plain_at .later [] [.data, .pinned] true (true, "fceadcfd570efa11c1a5376eef549bd14bf4e6d1853f1633a6d107b48340847f") false classClasses_over (fun _ h => by cases h) classClasses_text (fun _ h => by cases h) classClasses_row_tie rfl ⟨rfl, rfl⟩ pf_main rfl
    (fun f fn hf hfn => by
      obtain rfl : f = 3 := Option.some.inj (classClasses_fn.symm.trans hf) |>.symm
      obtain rfl : fn = Tryz.f3 := (Option.some.inj (Tryz.func3.symm.trans hfn)).symm
      exact ⟨pf_looks, fun j t ht => by
        rw [Tryz.params3] at ht
        have hm : t ∈ [22, 23, 23, 4] := by have := Array.mem_of_getElem? ht; simpa using this
        exact (show Tryz.prog.wantsStandIn t = false by simpa using List.all_eq_true.1 classClasses_stand t hm)⟩)
    classClasses_goes
#print axioms classClasses_card
end Go.Proofs.YtjbcomdljmfgjaaGreatDoor
