/-
  ClassNormalizes: for every input the law returns true, and each argument reads behind the call as it read before. No conditions.
-/
import Derived.Test.YtjbcomdljmfgjaaGreatDoorRows
import Derived.Test.YtjbcomdljmfgjaaGreatDoorXK11
import Derived.Test.YtjbcomdljmfgjaaGreatDoorFacts
import Derived.Test.YtjbcomdljmfgjaaGreatDoorWit
import Derived.Test.YtjbcomdljmfgjaaGreatDoorCards
import Derived.Test.YtjbcomdljmfgjaaGreatDoorTie
import Derived.WalkKit
import Derived.ProofKit
import Derived.OpenShut
import Derived.ShutString
import Derived.LaidMore
import Derived.Lay
import Derived.SevenTiedAt
import Derived.Stop.Joined
namespace Go.Proofs.YtjbcomdljmfgjaaGreatDoor
namespace classNormalizes
open Go.ChangeShapes Go.WideShapes Go.ChangeAt Go.RowKit
open Go.ChangeMaps (open_string shut_string)
open Go.Sep
set_option linter.unusedVariables false
set_option linter.unusedSimpArgs false
theorem own : ownKnob Tryz.prog.godebug = none := by kernel_rfl
set_option maxRecDepth 100000 in
theorem lifted (os : Os) (started : os.Started) (H : Type) (enc : TypeId × Value → H) :
    ReturnsInHanded {} Tryz.checked os 14 .any (fun w args => (Rows.classNormalizesSpec.pre enc Tryz.prog Tryz.f14 Rows.classNormalizesRow.domain false w args ∧ laidMetH Tryz.prog Rows.classNormalizesRow.laid w) ∧ sizedMet enc Tryz.prog Tryz.f14 (OpenSpec.ofChange Rows.classNormalizesSpec) false w args) (Rows.classNormalizesSpec.post enc Tryz.prog Tryz.f14 false true false false) := by
  refine returnsInHanded_of_change_and (C := Tryz.checked) (X := fun w _ => laidMetH Tryz.prog Rows.classNormalizesRow.laid w) (fun _ _ _ hh h => h.of_heap hh) own started (by kernel_rfl) Tryz.func14
    (ChangeSpec.witness_shaped (enc := enc) (C := Tryz.checked) (os := os) (X := fun w _ => laidMetH Tryz.prog Rows.classNormalizesRow.laid w) false (World.laidAll Tryz.prog os Rows.classNormalizesRow.laid) #[.int .i64 0, .slice none 0 0, .slice none 0 0] 8 (World.laidAll_os _ _ _)
      (wit_shaped os _) (by kernel_rfl) (by kernel_rfl) (by kernel_rfl)
      (wit_met os _)) ?_
  intro W base args ds gs before hval0 hW hcnd _ hL _
  have hval : ∀ (j : Nat) t v, Tryz.f14.params[j]? = some t → args[j]? = some v → Value.okWide Tryz.prog W .any base t v := hval0
  have hW' := hW
  obtain ⟨p, q, hA0, hV, rfl, hfz, hnd⟩ := hW
  have hA : DataW.TrodAll enc Tryz.prog W 0 (fun _ => true) true Tryz.f14.params.toList args.toList ds p := hA0
  rw [Tryz.params14] at hA hval
  obtain ⟨v0, vs0, d0, ds0, p0, q0, hargs, rfl, rfl, h0, r0⟩ := trodAll_cons hA
  obtain ⟨v1, vs1, d1, ds1, p1, q1, rfl, rfl, rfl, h1, r1⟩ := trodAll_cons r0
  obtain ⟨v2, vs2, d2, ds2, p2, q2, rfl, rfl, rfl, h2, r2⟩ := trodAll_cons r1
  obtain ⟨rfl, rfl, rfl⟩ := trodAll_nil r2
  obtain rfl : args = #[v0, v1, v2] := by cases args; simp_all
  obtain ⟨rfl, rfl⟩ := trodVars_none hV
  obtain ⟨a0, rfl, rfl, rfl, w0⟩ := open_int Tryz.underlying3 (hval 0 3 v0 rfl rfl) h0
  obtain ⟨a1, b1, m1, f1⟩ := open_list (opens_list Tryz.underlying23 (by kernel_rfl) (opens_struct Tryz.underlying35 (by kernel_rfl) (opensF_cons rfl (by kernel_rfl) (opens_str Tryz.underlying9) rfl (opensF_one rfl (by kernel_rfl) (opens_str Tryz.underlying9))))) Tryz.underlying23 (hval 1 23 v1 rfl rfl) h1
  obtain ⟨a2, b2, m2, f2⟩ := open_list (opens_list Tryz.underlying29 (by kernel_rfl) (opens_str Tryz.underlying9)) Tryz.underlying29 (hval 2 29 v2 rfl rfl) h2
  clear hA0 hval0
  simp only [List.append_nil] at hW'
  have hcall := c_law18_ClassNormalizes a0 a1 v1 a2 v2 (by have := m1; simp only [maxLen] at this; omega) (by have := m2; simp only [maxLen] at this; omega)  W (Old W) [] ⟨fun _ h => h, List.nodup_nil, fun _ h => (List.not_mem_nil h).elim, fun _ h => (List.not_mem_nil h).elim⟩ (Sats.nil_append (As := [.imm (.list (.pair .str .str)) v1 a1]) ⟨[], [], rfl, ⟨rfl, b1⟩, rfl⟩ (Sats.nil_append (As := [.imm (.list .str) v2 a2]) ⟨[], [], rfl, ⟨rfl, b2⟩, rfl⟩ rfl))
  refine hcall.mono fun e W' hE => ?_
  obtain ⟨_, I', m', rfl, hE, _⟩ := hE
  have bel : Below W.heap.size W W' := ⟨hE.os, hE.tape, hE.output, hE.size, fun k hk => hE.block k hk List.not_mem_nil⟩
  exact ⟨_, rfl, _, _, _, [], _, [], hW', trodAll_mk1 (shut_bool Tryz.underlying4 _), (trodAll_cons_mk (shut_int Tryz.underlying3 w0) (trodAll_cons_mk (Below.trod pf_laid (by kernel_rfl) (of_decide_eq_true (by kernel_rfl)) h1 bel (fun x hx => hW'.lt x (by simp [hx]))) (trodAll_cons_mk (Below.trod pf_laid (by kernel_rfl) (of_decide_eq_true (by kernel_rfl)) h2 bel (fun x hx => hW'.lt x (by simp [hx]))) trodAll_mk0))), rfl, bel.frame _, fun h => by cases h⟩
end classNormalizes
theorem classNormalizes_f_inPlace : (Rows.classNormalizesRow.inPlace == Tryz.prog.inPlace 14) = true := by kernel_rfl
theorem classNormalizes_f_unfollowed : (Rows.classNormalizesRow.unfollowed == Tryz.prog.unfollowed 14) = true := by kernel_rfl
theorem classNormalizes_f_recurses : (Rows.classNormalizesRow.recurses == Tryz.prog.recurses 14) = true := by kernel_rfl
theorem classNormalizes_f_named : (Rows.classNormalizesRow.named == Tryz.prog.varsNamed 14) = true := by kernel_rfl
theorem classNormalizes_closed : joinedFacts Tryz.prog 14 Tryz.f14 Rows.classNormalizesSpec Rows.classNormalizesRow = true := by
  unfold joinedFacts
  rw [pf_laid, pf_maps, pf_stops, pf_knobs, pf_keys, pf_heard, pf_enter, pf_lifts, classNormalizes_f_inPlace, classNormalizes_f_unfollowed, classNormalizes_f_recurses, classNormalizes_f_named]
  kernel_rfl
theorem classNormalizes_named : Tryz.pinned.checked.prog.funcNamed Rows.classNormalizesRow.func = some 14 := by kernel_rfl
theorem classNormalizes_inst : Tryz.f14.isInstance Tryz.pinned.checked.prog Rows.classNormalizesRow.origin Rows.classNormalizesRow.targs := of_decide_eq_true (by kernel_rfl)
theorem classNormalizes_wrap : Tryz.f14.isWrapper Tryz.pinned.checked.prog Rows.classNormalizesRow.wrapper Rows.classNormalizesRow.mainSum := by unfold Func.isWrapper; first | (rw [if_pos (by decide +kernel)]; kernel_rfl) | (rw [if_neg (by decide +kernel)]; exact ⟨rfl, rfl⟩)
theorem classNormalizes_over : Rows.classNormalizesRow.holds Tryz.pinned (OpenSpec.ofChange Rows.classNormalizesSpec) :=
  OpenClaim.holds_of_wide 14 Tryz.f14 rfl rfl rfl rfl rfl rfl rfl ⟨rfl, rfl, rfl, rfl, rfl⟩ rfl rfl rfl rfl rfl classNormalizes_named Tryz.func14 classNormalizes_closed
    classNormalizes_inst classNormalizes_wrap
    (fun os started H enc _ => classNormalizes.lifted os started H enc)
theorem classNormalizes_holds : Rows.ClassNormalizesSaid := classNormalizes_over
#print axioms classNormalizes_holds
theorem classNormalizes_text : Rows.classNormalizesRow.wfByText (OpenSpec.ofChange Rows.classNormalizesSpec) = true := by kernel_rfl
theorem classNormalizes_goes : false = Rows.classNormalizesRow.goesBy Tryz.pinned.checked.prog := by kernel_rfl
theorem classNormalizes_fn : Tryz.prog.funcNamed "variantproxy/variantproxylaw18.ClassNormalizes" = some 14 := by kernel_rfl
theorem classNormalizes_stand : ([3, 23, 29].all fun u => !Tryz.prog.wantsStandIn u) = true := by kernel_rfl
theorem classNormalizes_card : Rows.ClassNormalizesCardSaid :=
  Claim7.holds_tied_plain_at .later [] [.data, .pinned] true (true, "fceadcfd570efa11c1a5376eef549bd14bf4e6d1853f1633a6d107b48340847f") false classNormalizes_over (fun _ h => by cases h) classNormalizes_text (fun _ h => by cases h) classNormalizes_row_tie rfl ⟨rfl, rfl⟩ pf_main rfl
    (fun f fn hf hfn => by
      obtain rfl : f = 14 := Option.some.inj (classNormalizes_fn.symm.trans hf) |>.symm
      obtain rfl : fn = Tryz.f14 := (Option.some.inj (Tryz.func14.symm.trans hfn)).symm
      exact ⟨pf_looks, fun j t ht => by
        rw [Tryz.params14] at ht
        have hm : t ∈ [3, 23, 29] := by have := Array.mem_of_getElem? ht; simpa using this
        exact (show Tryz.prog.wantsStandIn t = false by simpa using List.all_eq_true.1 classNormalizes_stand t hm)⟩)
    classNormalizes_goes
#print axioms classNormalizes_card
end Go.Proofs.YtjbcomdljmfgjaaGreatDoor
