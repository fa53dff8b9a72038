/-
  ClassUnavailable: for every input the law returns true, and each argument reads behind the call as it read before. No conditions.
-/
import Derived.Test.YtjbcomdljmfgjaaGreatDoorRows
import Derived.Test.YtjbcomdljmfgjaaGreatDoorUK10
import Derived.Test.YtjbcomdljmfgjaaGreatDoorFacts
import Derived.Test.YtjbcomdljmfgjaaGreatDoorWit
import Derived.Test.YtjbcomdljmfgjaaGreatDoorCards
import Derived.Test.YtjbcomdljmfgjaaGreatDoorTie
import Derived.WalkKit
import Derived.ProofKit
import Derived.OpenShut
import Derived.ShutString
import Derived.LaidMore
import Derived.Lay
import Derived.SevenTiedAt
import Derived.Stop.Joined
namespace Go.Proofs.YtjbcomdljmfgjaaGreatDoor
namespace classUnavailable
open Go.ChangeShapes Go.WideShapes Go.ChangeAt Go.RowKit
open Go.ChangeMaps (open_string shut_string)
open Go.Sep
set_option linter.unusedVariables false
set_option linter.unusedSimpArgs false
theorem own : ownKnob Tryz.prog.godebug = none := by kernel_rfl
set_option maxRecDepth 100000 in
theorem lifted (os : Os) (started : os.Started) (H : Type) (enc : TypeId × Value → H) :
    ReturnsInHanded {} Tryz.checked os 6 .any (fun w args => (Rows.classUnavailableSpec.pre enc Tryz.prog Tryz.f6 Rows.classUnavailableRow.domain false w args ∧ laidMetH Tryz.prog Rows.classUnavailableRow.laid w) ∧ sizedMet enc Tryz.prog Tryz.f6 (OpenSpec.ofChange Rows.classUnavailableSpec) false w args) (Rows.classUnavailableSpec.post enc Tryz.prog Tryz.f6 false true false false) := by
  refine returnsInHanded_of_change_and (C := Tryz.checked) (X := fun w _ => laidMetH Tryz.prog Rows.classUnavailableRow.laid w) (fun _ _ _ hh h => h.of_heap hh) own started (by kernel_rfl) Tryz.func6
    (ChangeSpec.witness_shaped (enc := enc) (C := Tryz.checked) (os := os) (X := fun w _ => laidMetH Tryz.prog Rows.classUnavailableRow.laid w) false (World.laidAll Tryz.prog os Rows.classUnavailableRow.laid) #[.slice none 0 0, .slice none 0 0, .int .i64 0, .string ByteArray.empty, .int .i64 0, .bool false, .bool false] 8 (World.laidAll_os _ _ _)
      (wit_shaped os _) (by kernel_rfl) (by kernel_rfl) (by kernel_rfl)
      (wit_met os _)) ?_
  intro W base args ds gs before hval0 hW hcnd _ hL _
  have hval : ∀ (j : Nat) t v, Tryz.f6.params[j]? = some t → args[j]? = some v → Value.okWide Tryz.prog W .any base t v := hval0
  have hW' := hW
  obtain ⟨p, q, hA0, hV, rfl, hfz, hnd⟩ := hW
  have hA : DataW.TrodAll enc Tryz.prog W 0 (fun _ => true) true Tryz.f6.params.toList args.toList ds p := hA0
  rw [Tryz.params6] at hA hval
  obtain ⟨v0, vs0, d0, ds0, p0, q0, hargs, rfl, rfl, h0, r0⟩ := trodAll_cons hA
  obtain ⟨v1, vs1, d1, ds1, p1, q1, rfl, rfl, rfl, h1, r1⟩ := trodAll_cons r0
  obtain ⟨v2, vs2, d2, ds2, p2, q2, rfl, rfl, rfl, h2, r2⟩ := trodAll_cons r1
  obtain ⟨v3, vs3, d3, ds3, p3, q3, rfl, rfl, rfl, h3, r3⟩ := trodAll_cons r2
  obtain ⟨v4, vs4, d4, ds4, p4, q4, rfl, rfl, rfl, h4, r4⟩ := trodAll_cons r3
  obtain ⟨v5, vs5, d5, ds5, p5, q5, rfl, rfl, rfl, h5, r5⟩ := trodAll_cons r4
  obtain ⟨v6, vs6, d6, ds6, p6, q6, rfl, rfl, rfl, h6, r6⟩ := trodAll_cons r5
  obtain ⟨rfl, rfl, rfl⟩ := trodAll_nil r6
  obtain rfl : args = #[v0, v1, v2, v3, v4, v5, v6] := by cases args; simp_all
  obtain ⟨rfl, rfl⟩ := trodVars_none hV
  obtain ⟨a0, b0, m0, f0⟩ := open_list (opens_list Tryz.underlying22 (by kernel_rfl) (opens_struct Tryz.underlying32 (by kernel_rfl) (opensF_cons rfl (by kernel_rfl) (opens_str Tryz.underlying9) rfl (opensF_one rfl (by kernel_rfl) (opens_list Tryz.underlying29 (by kernel_rfl) (opens_str Tryz.underlying9)))))) Tryz.underlying22 (hval 0 22 v0 rfl rfl) h0
  obtain ⟨a1, b1, m1, f1⟩ := open_list (opens_list Tryz.underlying23 (by kernel_rfl) (opens_struct Tryz.underlying35 (by kernel_rfl) (opensF_cons rfl (by kernel_rfl) (opens_str Tryz.underlying9) rfl (opensF_one rfl (by kernel_rfl) (opens_str Tryz.underlying9))))) Tryz.underlying23 (hval 1 23 v1 rfl rfl) h1
  obtain ⟨a2, rfl, rfl, rfl, w2⟩ := open_int Tryz.underlying3 (hval 2 3 v2 rfl rfl) h2
  obtain ⟨a3, rfl, rfl, rfl, w3⟩ := open_string Tryz.underlying9 (hval 3 9 v3 rfl rfl) h3
  obtain ⟨a4, rfl, rfl, rfl, w4⟩ := open_int Tryz.underlying3 (hval 4 3 v4 rfl rfl) h4
  obtain ⟨a5, rfl, rfl, rfl⟩ := open_bool Tryz.underlying4 (hval 5 4 v5 rfl rfl) h5
  obtain ⟨a6, rfl, rfl, rfl⟩ := open_bool Tryz.underlying4 (hval 6 4 v6 rfl rfl) h6
  clear hA0 hval0
  simp only [List.append_nil] at hW'
  have hcall := c_law18_ClassUnavailable a0 v0 a1 v1 a2 a3.data.toList a4 a5 a6 (by have := m0; simp only [maxLen] at this; omega) (fun a ha => by have := (f0.2 a ha).2.1; simp only [maxLen] at this; omega) (by have := m1; simp only [maxLen] at this; omega)  W (Old W) [] ⟨fun _ h => h, List.nodup_nil, fun _ h => (List.not_mem_nil h).elim, fun _ h => (List.not_mem_nil h).elim⟩ (Sats.nil_append (As := [.imm (.list (.pair .str (.list .str))) v0 a0]) ⟨[], [], rfl, ⟨rfl, b0⟩, rfl⟩ (Sats.nil_append (As := [.imm (.list (.pair .str .str)) v1 a1]) ⟨[], [], rfl, ⟨rfl, b1⟩, rfl⟩ rfl))
  simp only [str_data] at hcall
  refine hcall.mono fun e W' hE => ?_
  obtain ⟨_, I', m', rfl, hE, _⟩ := hE
  have bel : Below W.heap.size W W' := ⟨hE.os, hE.tape, hE.output, hE.size, fun k hk => hE.block k hk List.not_mem_nil⟩
  exact ⟨_, rfl, _, _, _, [], _, [], hW', trodAll_mk1 (shut_bool Tryz.underlying4 _), (trodAll_cons_mk (Below.trod pf_laid (by kernel_rfl) (of_decide_eq_true (by kernel_rfl)) h0 bel (fun x hx => hW'.lt x (by simp [hx]))) (trodAll_cons_mk (Below.trod pf_laid (by kernel_rfl) (of_decide_eq_true (by kernel_rfl)) h1 bel (fun x hx => hW'.lt x (by simp [hx]))) (trodAll_cons_mk (shut_int Tryz.underlying3 w2) (trodAll_cons_mk (shut_string Tryz.underlying9 w3) (trodAll_cons_mk (shut_int Tryz.underlying3 w4) (trodAll_cons_mk (shut_bool Tryz.underlying4 a5) (trodAll_cons_mk (shut_bool Tryz.underlying4 a6) trodAll_mk0))))))), rfl, bel.frame _, fun h => by cases h⟩
end classUnavailable
theorem classUnavailable_f_inPlace : (Rows.classUnavailableRow.inPlace == Tryz.prog.inPlace 6) = true := by kernel_rfl
theorem classUnavailable_f_unfollowed : (Rows.classUnavailableRow.unfollowed == Tryz.prog.unfollowed 6) = true := by kernel_rfl
theorem classUnavailable_f_recurses : (Rows.classUnavailableRow.recurses == Tryz.prog.recurses 6) = true := by kernel_rfl
theorem classUnavailable_f_named : (Rows.classUnavailableRow.named == Tryz.prog.varsNamed 6) = true := by kernel_rfl
theorem classUnavailable_closed : joinedFacts Tryz.prog 6 Tryz.f6 Rows.classUnavailableSpec Rows.classUnavailableRow = true := by
  unfold joinedFacts
  rw [pf_laid, pf_maps, pf_stops, pf_knobs, pf_keys, pf_heard, pf_enter, pf_lifts, classUnavailable_f_inPlace, classUnavailable_f_unfollowed, classUnavailable_f_recurses, classUnavailable_f_named]
  kernel_rfl
theorem classUnavailable_named : Tryz.pinned.checked.prog.funcNamed Rows.classUnavailableRow.func = some 6 := by kernel_rfl
theorem classUnavailable_inst : Tryz.f6.isInstance Tryz.pinned.checked.prog Rows.classUnavailableRow.origin Rows.classUnavailableRow.targs := of_decide_eq_true (by kernel_rfl)
theorem classUnavailable_wrap : Tryz.f6.isWrapper Tryz.pinned.checked.prog Rows.classUnavailableRow.wrapper Rows.classUnavailableRow.mainSum := by unfold Func.isWrapper; first | (rw [if_pos (by decide +kernel)]; kernel_rfl) | (rw [if_neg (by decide +kernel)]; exact ⟨rfl, rfl⟩)
theorem classUnavailable_over : Rows.classUnavailableRow.holds Tryz.pinned (OpenSpec.ofChange Rows.classUnavailableSpec) :=
  OpenClaim.holds_of_wide 6 Tryz.f6 rfl rfl rfl rfl rfl rfl rfl ⟨rfl, rfl, rfl, rfl, rfl⟩ rfl rfl rfl rfl rfl classUnavailable_named Tryz.func6 classUnavailable_closed
    classUnavailable_inst classUnavailable_wrap
    (fun os started H enc _ => classUnavailable.lifted os started H enc)
theorem classUnavailable_holds : Rows.ClassUnavailableSaid := classUnavailable_over
#print axioms classUnavailable_holds
theorem classUnavailable_text : Rows.classUnavailableRow.wfByText (OpenSpec.ofChange Rows.classUnavailableSpec) = true := by kernel_rfl
theorem classUnavailable_goes : false = Rows.classUnavailableRow.goesBy Tryz.pinned.checked.prog := by kernel_rfl
theorem classUnavailable_fn : Tryz.prog.funcNamed "variantproxy/variantproxylaw18.ClassUnavailable" = some 6 := by kernel_rfl
theorem classUnavailable_stand : ([22, 23, 3, 9, 3, 4, 4].all fun u => !Tryz.prog.wantsStandIn u) = true := by kernel_rfl
theorem classUnavailable_card : Rows.ClassUnavailableCardSaid :=
  Claim7.holds_tied_plain_at .later [] [.data, .pinned] true (true, "fceadcfd570efa11c1a5376eef549bd14bf4e6d1853f1633a6d107b48340847f") false classUnavailable_over (fun _ h => by cases h) classUnavailable_text (fun _ h => by cases h) classUnavailable_row_tie rfl ⟨rfl, rfl⟩ pf_main rfl
    (fun f fn hf hfn => by
      obtain rfl : f = 6 := Option.some.inj (classUnavailable_fn.symm.trans hf) |>.symm
      obtain rfl : fn = Tryz.f6 := (Option.some.inj (Tryz.func6.symm.trans hfn)).symm
      exact ⟨pf_looks, fun j t ht => by
        rw [Tryz.params6] at ht
        have hm : t ∈ [22, 23, 3, 9, 3, 4, 4] := by have := Array.mem_of_getElem? ht; simpa using this
        exact (show Tryz.prog.wantsStandIn t = false by simpa using List.all_eq_true.1 classUnavailable_stand t hm)⟩)
    classUnavailable_goes
#print axioms classUnavailable_card
end Go.Proofs.YtjbcomdljmfgjaaGreatDoor
