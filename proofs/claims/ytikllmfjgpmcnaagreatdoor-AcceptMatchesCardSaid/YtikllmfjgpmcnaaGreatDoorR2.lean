/-
  AcceptMatches: for every input the law returns true, and each argument reads behind the call as it read before. No conditions.
-/
import Derived.Test.YtikllmfjgpmcnaaGreatDoorRows
import Derived.Test.YtikllmfjgpmcnaaGreatDoorL15
import Derived.Test.YtikllmfjgpmcnaaGreatDoorOpens
import Derived.Test.YtikllmfjgpmcnaaGreatDoorFacts
import Derived.Test.YtikllmfjgpmcnaaGreatDoorWit
import Derived.Test.YtikllmfjgpmcnaaGreatDoorCards
import Derived.Test.YtikllmfjgpmcnaaGreatDoorTie
import Derived.WalkKit
import Derived.ProofKit
import Derived.OpenShut
import Derived.ShutString
import Derived.LaidMore
import Derived.Lay
import Derived.SevenTiedAt
import Derived.Stop.Joined
namespace Go.Proofs.YtikllmfjgpmcnaaGreatDoor
namespace acceptMatches
open Go.ChangeShapes Go.WideShapes Go.ChangeAt Go.RowKit
open Go.ChangeMaps (open_string shut_string)
open Go.Sep
set_option linter.unusedVariables false
set_option linter.unusedSimpArgs false
theorem own : ownKnob Tryz.prog.godebug = none := by kernel_rfl
set_option maxRecDepth 100000 in
theorem lifted (os : Os) (started : os.Started) (H : Type) (enc : TypeId × Value → H) :
    ReturnsInHanded {} Tryz.checked os 4 .any (fun w args => (Rows.acceptMatchesSpec.pre enc Tryz.prog Tryz.f4 Rows.acceptMatchesRow.domain false w args ∧ laidMetH Tryz.prog Rows.acceptMatchesRow.laid w) ∧ sizedMet enc Tryz.prog Tryz.f4 (OpenSpec.ofChange Rows.acceptMatchesSpec) false w args) (Rows.acceptMatchesSpec.post enc Tryz.prog Tryz.f4 false true false false) := by
  refine returnsInHanded_of_change_and (C := Tryz.checked) (X := fun w _ => laidMetH Tryz.prog Rows.acceptMatchesRow.laid w) (fun _ _ _ hh h => h.of_heap hh) own started (by kernel_rfl) Tryz.func4
    (ChangeSpec.witness_shaped (enc := enc) (C := Tryz.checked) (os := os) (X := fun w _ => laidMetH Tryz.prog Rows.acceptMatchesRow.laid w) false (World.laidAll Tryz.prog os Rows.acceptMatchesRow.laid) #[.int .i64 0, .string ByteArray.empty, .string ByteArray.empty, .slice none 0 0] 8 (World.laidAll_os _ _ _)
      (wit_shaped os _) (by kernel_rfl) (by kernel_rfl) (by kernel_rfl)
      (wit_met os _)) ?_
  intro W base args ds gs before hval0 hW hcnd _ hL _
  have hval : ∀ (j : Nat) t v, Tryz.f4.params[j]? = some t → args[j]? = some v → Value.okWide Tryz.prog W .any base t v := hval0
  have hW' := hW
  obtain ⟨p, q, hA0, hV, rfl, hfz, hnd⟩ := hW
  have hA : DataW.TrodAll enc Tryz.prog W 0 (fun _ => true) true Tryz.f4.params.toList args.toList ds p := hA0
  rw [Tryz.params4] at hA hval
  obtain ⟨v0, vs0, d0, ds0, p0, q0, hargs, rfl, rfl, h0, r0⟩ := trodAll_cons hA
  obtain ⟨v1, vs1, d1, ds1, p1, q1, rfl, rfl, rfl, h1, r1⟩ := trodAll_cons r0
  obtain ⟨v2, vs2, d2, ds2, p2, q2, rfl, rfl, rfl, h2, r2⟩ := trodAll_cons r1
  obtain ⟨v3, vs3, d3, ds3, p3, q3, rfl, rfl, rfl, h3, r3⟩ := trodAll_cons r2
  obtain ⟨rfl, rfl, rfl⟩ := trodAll_nil r3
  obtain rfl : args = #[v0, v1, v2, v3] := by cases args; simp_all
  obtain ⟨rfl, rfl⟩ := trodVars_none hV
  obtain ⟨a0, rfl, rfl, rfl, w0⟩ := open_int Tryz.underlying3 (hval 0 3 v0 rfl rfl) h0
  obtain ⟨a1, rfl, rfl, rfl, w1⟩ := open_string Tryz.underlying9 (hval 1 9 v1 rfl rfl) h1
  obtain ⟨a2, rfl, rfl, rfl, w2⟩ := open_string Tryz.underlying9 (hval 2 9 v2 rfl rfl) h2
  obtain ⟨a3, b3, m3, f3⟩ := open_list (opens_list Tryz.underlying24 (by kernel_rfl) (opens_struct Tryz.underlying41 (by kernel_rfl) (opensF_cons rfl (by kernel_rfl) (opens_str Tryz.underlying9) rfl (opensF_one rfl (by kernel_rfl) (opens_int Tryz.underlying3))))) Tryz.underlying24 (hval 3 24 v3 rfl rfl) h3
  clear hA0 hval0
  simp only [List.append_nil] at hW'
  have hcall := c_law13_AcceptMatches a0 a1.data.toList a2.data.toList a3 v3 (by have := m3; simp only [maxLen] at this; omega) W (Old W) [] ⟨fun _ h => h, List.nodup_nil, fun _ h => (List.not_mem_nil h).elim, fun _ h => (List.not_mem_nil h).elim⟩ (Sats.nil_append (As := [.imm (.list (.pair .str (.int .i64))) v3 a3]) ⟨[], [], rfl, ⟨rfl, b3⟩, rfl⟩ rfl)
  simp only [str_data] at hcall
  refine hcall.mono fun e W' hE => ?_
  obtain ⟨_, I', m', rfl, hE, _⟩ := hE
  have bel : Below W.heap.size W W' := ⟨hE.os, hE.tape, hE.output, hE.size, fun k hk => hE.block k hk List.not_mem_nil⟩
  exact ⟨_, rfl, _, _, _, [], _, [], hW', trodAll_mk1 (shut_bool Tryz.underlying4 _), (trodAll_cons_mk (shut_int Tryz.underlying3 w0) (trodAll_cons_mk (shut_string Tryz.underlying9 w1) (trodAll_cons_mk (shut_string Tryz.underlying9 w2) (trodAll_cons_mk (Below.trod pf_laid (by kernel_rfl) (of_decide_eq_true (by kernel_rfl)) h3 bel (fun x hx => hW'.lt x (by simp [hx]))) trodAll_mk0)))), rfl, bel.frame _, fun h => by cases h⟩
end acceptMatches
theorem acceptMatches_f_inPlace : (Rows.acceptMatchesRow.inPlace == Tryz.prog.inPlace 4) = true := by kernel_rfl
theorem acceptMatches_f_unfollowed : (Rows.acceptMatchesRow.unfollowed == Tryz.prog.unfollowed 4) = true := by kernel_rfl
theorem acceptMatches_f_recurses : (Rows.acceptMatchesRow.recurses == Tryz.prog.recurses 4) = true := by kernel_rfl
theorem acceptMatches_f_named : (Rows.acceptMatchesRow.named == Tryz.prog.varsNamed 4) = true := by kernel_rfl
theorem acceptMatches_closed : joinedFacts Tryz.prog 4 Tryz.f4 Rows.acceptMatchesSpec Rows.acceptMatchesRow = true := by
  unfold joinedFacts
  rw [pf_laid, pf_maps, pf_stops, pf_knobs, pf_keys, pf_heard, pf_enter, pf_lifts, acceptMatches_f_inPlace, acceptMatches_f_unfollowed, acceptMatches_f_recurses, acceptMatches_f_named]
  kernel_rfl
theorem acceptMatches_named : Tryz.pinned.checked.prog.funcNamed Rows.acceptMatchesRow.func = some 4 := by kernel_rfl
theorem acceptMatches_inst : Tryz.f4.isInstance Tryz.pinned.checked.prog Rows.acceptMatchesRow.origin Rows.acceptMatchesRow.targs := of_decide_eq_true (by kernel_rfl)
theorem acceptMatches_wrap : Tryz.f4.isWrapper Tryz.pinned.checked.prog Rows.acceptMatchesRow.wrapper Rows.acceptMatchesRow.mainSum := by unfold Func.isWrapper; first | (rw [if_pos (by decide +kernel)]; kernel_rfl) | (rw [if_neg (by decide +kernel)]; exact ⟨rfl, rfl⟩)
theorem acceptMatches_over : Rows.acceptMatchesRow.holds Tryz.pinned (OpenSpec.ofChange Rows.acceptMatchesSpec) :=
  OpenClaim.holds_of_wide 4 Tryz.f4 rfl rfl rfl rfl rfl rfl rfl ⟨rfl, rfl, rfl, rfl, rfl⟩ rfl rfl rfl rfl rfl acceptMatches_named Tryz.func4 acceptMatches_closed
    acceptMatches_inst acceptMatches_wrap
    (fun os started H enc _ => acceptMatches.lifted os started H enc)
theorem acceptMatches_holds : Rows.AcceptMatchesSaid := acceptMatches_over
#print axioms acceptMatches_holds
theorem acceptMatches_text : Rows.acceptMatchesRow.wfByText (OpenSpec.ofChange Rows.acceptMatchesSpec) = true := by kernel_rfl
theorem acceptMatches_goes : false = Rows.acceptMatchesRow.goesBy Tryz.pinned.checked.prog := by kernel_rfl
theorem acceptMatches_fn : Tryz.prog.funcNamed "variantproxy/variantproxylaw13.AcceptMatches" = some 4 := by kernel_rfl
theorem acceptMatches_stand : ([3, 9, 9, 24].all fun u => !Tryz.prog.wantsStandIn u) = true := by kernel_rfl
theorem acceptMatches_card : Rows.AcceptMatchesCardSaid :=
  Claim7.holds_tied_plain_at .later [] [.data, .pinned] true (true, "c6f816eb200eacf078da10b15f4e36bfcf48a11fa1caf13861db4cac41e79c6e") false acceptMatches_over (fun _ h => by cases h) acceptMatches_text (fun _ h => by cases h) acceptMatches_row_tie rfl ⟨rfl, rfl⟩ pf_main rfl
    (fun f fn hf hfn => by
      obtain rfl : f = 4 := Option.some.inj (acceptMatches_fn.symm.trans hf) |>.symm
      obtain rfl : fn = Tryz.f4 := (Option.some.inj (Tryz.func4.symm.trans hfn)).symm
      exact ⟨pf_looks, fun j t ht => by
        rw [Tryz.params4] at ht
        have hm : t ∈ [3, 9, 9, 24] := by have := Array.mem_of_getElem? ht; simpa using this
        exact (show Tryz.prog.wantsStandIn t = false by simpa using List.all_eq_true.1 acceptMatches_stand t hm)⟩)
    acceptMatches_goes
#print axioms acceptMatches_card
end Go.Proofs.YtikllmfjgpmcnaaGreatDoor
