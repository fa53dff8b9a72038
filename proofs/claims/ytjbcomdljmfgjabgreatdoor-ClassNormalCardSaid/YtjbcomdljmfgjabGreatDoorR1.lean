/-
  ClassNormal: for every input the law returns true, and each argument reads behind the call as it read before. No conditions.
-/
import Derived.Test.YtjbcomdljmfgjabGreatDoorRows
import Derived.Test.YtjbcomdljmfgjabGreatDoorZK11
import Derived.Test.YtjbcomdljmfgjabGreatDoorFacts
import Derived.Test.YtjbcomdljmfgjabGreatDoorWit
import Derived.Test.YtjbcomdljmfgjabGreatDoorCards
import Derived.Test.YtjbcomdljmfgjabGreatDoorTie
import Derived.WalkKit
import Derived.ProofKit
import Derived.OpenShut
import Derived.ShutString
import Derived.LaidMore
import Derived.Lay
import Derived.SevenTiedAt
import Derived.Stop.Joined
namespace Go.Proofs.YtjbcomdljmfgjabGreatDoor
namespace classNormal
open Go.ChangeShapes Go.WideShapes Go.ChangeAt Go.RowKit
open Go.ChangeMaps (open_string shut_string)
open Go.Sep
set_option linter.unusedVariables false
set_option linter.unusedSimpArgs false
theorem own : ownKnob Tryz.prog.godebug = none := by kernel_rfl
set_option maxRecDepth 100000 in
theorem lifted (os : Os) (started : os.Started) (H : Type) (enc : TypeId × Value → H) :
    ReturnsInHanded {} Tryz.checked os 3 .any (fun w args => (Rows.classNormalSpec.pre enc Tryz.prog Tryz.f3 Rows.classNormalRow.domain false w args ∧ laidMetH Tryz.prog Rows.classNormalRow.laid w) ∧ sizedMet enc Tryz.prog Tryz.f3 (OpenSpec.ofChange Rows.classNormalSpec) false w args) (Rows.classNormalSpec.post enc Tryz.prog Tryz.f3 false true false false) := by
  refine returnsInHanded_of_change_and (C := Tryz.checked) (X := fun w _ => laidMetH Tryz.prog Rows.classNormalRow.laid w) (fun _ _ _ hh h => h.of_heap hh) own started (by kernel_rfl) Tryz.func3
    (ChangeSpec.witness_shaped (enc := enc) (C := Tryz.checked) (os := os) (X := fun w _ => laidMetH Tryz.prog Rows.classNormalRow.laid w) false (World.laidAll Tryz.prog os Rows.classNormalRow.laid) #[.slice none 0 0, .slice none 0 0, .int .i64 0, .bool false] 8 (World.laidAll_os _ _ _)
      (wit_shaped os _) (by kernel_rfl) (by kernel_rfl) (by kernel_rfl)
      (wit_met os _)) ?_
  intro W base args ds gs before hval0 hW hcnd _ hL _
  have hval : ∀ (j : Nat) t v, Tryz.f3.params[j]? = some t → args[j]? = some v → Value.okWide Tryz.prog W .any base t v := hval0
  have hW' := hW
  obtain ⟨p, q, hA0, hV, rfl, hfz, hnd⟩ := hW
  have hA : DataW.TrodAll enc Tryz.prog W 0 (fun _ => true) true Tryz.f3.params.toList args.toList ds p := hA0
  rw [Tryz.params3] at hA hval
  obtain ⟨v0, vs0, d0, ds0, p0, q0, hargs, rfl, rfl, h0, r0⟩ := trodAll_cons hA
  obtain ⟨v1, vs1, d1, ds1, p1, q1, rfl, rfl, rfl, h1, r1⟩ := trodAll_cons r0
  obtain ⟨v2, vs2, d2, ds2, p2, q2, rfl, rfl, rfl, h2, r2⟩ := trodAll_cons r1
  obtain ⟨v3, vs3, d3, ds3, p3, q3, rfl, rfl, rfl, h3, r3⟩ := trodAll_cons r2
  obtain ⟨rfl, rfl, rfl⟩ := trodAll_nil r3
  obtain rfl : args = #[v0, v1, v2, v3] := by cases args; simp_all
  obtain ⟨rfl, rfl⟩ := trodVars_none hV
  obtain ⟨a0, b0, m0, f0⟩ := open_list (opens_list Tryz.underlying22 (by kernel_rfl) (opens_struct Tryz.underlying30 (by kernel_rfl) (opensF_cons rfl (by kernel_rfl) (opens_str Tryz.underlying9) rfl (opensF_one rfl (by kernel_rfl) (opens_list Tryz.underlying28 (by kernel_rfl) (opens_str Tryz.underlying9)))))) Tryz.underlying22 (hval 0 22 v0 rfl rfl) h0
  obtain ⟨a1, b1, m1, f1⟩ := open_list (opens_list Tryz.underlying23 (by kernel_rfl) (opens_struct Tryz.underlying37 (by kernel_rfl) (opensF_cons rfl (by kernel_rfl) (opens_str Tryz.underlying9) rfl (opensF_one rfl (by kernel_rfl) (opens_str Tryz.underlying9))))) Tryz.underlying23 (hval 1 23 v1 rfl rfl) h1
  obtain ⟨a2, rfl, rfl, rfl, w2⟩ := open_int Tryz.underlying3 (hval 2 3 v2 rfl rfl) h2
  obtain ⟨a3, rfl, rfl, rfl⟩ := open_bool Tryz.underlying4 (hval 3 4 v3 rfl rfl) h3
  clear hA0 hval0
  simp only [List.append_nil] at hW'
  have hcall := c_law18_ClassNormal a0 v0 a1 v1 a2 a3 (by have := m0; simp only [maxLen] at this; omega) (fun a ha => by have := (f0.2 a ha).2.1; simp only [maxLen] at this; omega) (by have := m1; simp only [maxLen] at this; omega)  W (Old W) [] ⟨fun _ h => h, List.nodup_nil, fun _ h => (List.not_mem_nil h).elim, fun _ h => (List.not_mem_nil h).elim⟩ (Sats.nil_append (As := [.imm (.list (.pair .str (.list .str))) v0 a0]) ⟨[], [], rfl, ⟨rfl, b0⟩, rfl⟩ (Sats.nil_append (As := [.imm (.list (.pair .str .str)) v1 a1]) ⟨[], [], rfl, ⟨rfl, b1⟩, rfl⟩ rfl))
  refine hcall.mono fun e W' hE => ?_
  obtain ⟨_, I', m', rfl, hE, _⟩ := hE
  have bel : Below W.heap.size W W' := ⟨hE.os, hE.tape, hE.output, hE.size, fun k hk => hE.block k hk List.not_mem_nil⟩
  exact ⟨_, rfl, _, _, _, [], _, [], hW', trodAll_mk1 (shut_bool Tryz.underlying4 _), (trodAll_cons_mk (Below.trod pf_laid (by kernel_rfl) (of_decide_eq_true (by kernel_rfl)) h0 bel (fun x hx => hW'.lt x (by simp [hx]))) (trodAll_cons_mk (Below.trod pf_laid (by kernel_rfl) (of_decide_eq_true (by kernel_rfl)) h1 bel (fun x hx => hW'.lt x (by simp [hx]))) (trodAll_cons_mk (shut_int Tryz.underlying3 w2) (trodAll_cons_mk (shut_bool Tryz.underlying4 a3) trodAll_mk0)))), rfl, bel.frame _, fun h => by cases h⟩
end classNormal
theorem classNormal_f_inPlace : (Rows.classNormalRow.inPlace == Tryz.prog.inPlace 3) = true := by kernel_rfl
theorem classNormal_f_unfollowed : (Rows.classNormalRow.unfollowed == Tryz.prog.unfollowed 3) = true := by kernel_rfl
theorem classNormal_f_recurses : (Rows.classNormalRow.recurses == Tryz.prog.recurses 3) = true := by kernel_rfl
theorem classNormal_f_named : (Rows.classNormalRow.named == Tryz.prog.varsNamed 3) = true := by kernel_rfl
theorem classNormal_closed : joinedFacts Tryz.prog 3 Tryz.f3 Rows.classNormalSpec Rows.classNormalRow = true := by
  unfold joinedFacts
  rw [pf_laid, pf_maps, pf_stops, pf_knobs, pf_keys, pf_heard, pf_enter, pf_lifts, classNormal_f_inPlace, classNormal_f_unfollowed, classNormal_f_recurses, classNormal_f_named]
  kernel_rfl
theorem classNormal_named : Tryz.pinned.checked.prog.funcNamed Rows.classNormalRow.func = some 3 := by kernel_rfl
theorem classNormal_inst : Tryz.f3.isInstance Tryz.pinned.checked.prog Rows.classNormalRow.origin Rows.classNormalRow.targs := of_decide_eq_true (by kernel_rfl)
theorem classNormal_wrap : Tryz.f3.isWrapper Tryz.pinned.checked.prog Rows.classNormalRow.wrapper Rows.classNormalRow.mainSum := by unfold Func.isWrapper; first | (rw [if_pos (by decide +kernel)]; kernel_rfl) | (rw [if_neg (by decide +kernel)]; exact ⟨rfl, rfl⟩)
theorem classNormal_over : Rows.classNormalRow.holds Tryz.pinned (OpenSpec.ofChange Rows.classNormalSpec) :=
  OpenClaim.holds_of_wide 3 Tryz.f3 rfl rfl rfl rfl rfl rfl rfl ⟨rfl, rfl, rfl, rfl, rfl⟩ rfl rfl rfl rfl rfl classNormal_named Tryz.func3 classNormal_closed
    classNormal_inst classNormal_wrap
    (fun os started H enc _ => classNormal.lifted os started H enc)
theorem classNormal_holds : Rows.ClassNormalSaid := classNormal_over
#print axioms classNormal_holds
theorem classNormal_text : Rows.classNormalRow.wfByText (OpenSpec.ofChange Rows.classNormalSpec) = true := by kernel_rfl
theorem classNormal_goes : false = Rows.classNormalRow.goesBy Tryz.pinned.checked.prog := by kernel_rfl
theorem classNormal_fn : Tryz.prog.funcNamed "variantproxy/variantproxylaw18.ClassNormal" = some 3 := by kernel_rfl
theorem classNormal_stand : ([22, 23, 3, 4].all fun u => !Tryz.prog.wantsStandIn u) = true := by kernel_rfl
theorem classNormal_card : Rows.ClassNormalCardSaid :=
  Claim7.holds_tied_plain_at .later [] [.data, .pinned] true (true, "47c8d805d2aab3e1eb953368d66f49cff9ad7ef6c07401b44f01aa4b8448fe4b") false classNormal_over (fun _ h => by cases h) classNormal_text (fun _ h => by cases h) classNormal_row_tie rfl ⟨rfl, rfl⟩ pf_main rfl
    (fun f fn hf hfn => by
      obtain rfl : f = 3 := Option.some.inj (classNormal_fn.symm.trans hf) |>.symm
      obtain rfl : fn = Tryz.f3 := (Option.some.inj (Tryz.func3.symm.trans hfn)).symm
      exact ⟨pf_looks, fun j t ht => by
        rw [Tryz.params3] at ht
        have hm : t ∈ [22, 23, 3, 4] := by have := Array.mem_of_getElem? ht; simpa using this
        exact (show Tryz.prog.wantsStandIn t = false by simpa using List.all_eq_true.1 classNormal_stand t hm)⟩)
    classNormal_goes
#print axioms classNormal_card
end Go.Proofs.YtjbcomdljmfgjabGreatDoor
