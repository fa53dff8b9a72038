/-
  AcceptKinds: for every input the law returns true, and each argument reads behind the call as it read before. No conditions.
-/
import Derived.Test.YtikllmfjgpmcnaaDoorRows
import Derived.Test.YtikllmfjgpmcnaaDoorL10
import Derived.Test.YtikllmfjgpmcnaaDoorOpens
import Derived.Test.YtikllmfjgpmcnaaDoorFacts
import Derived.Test.YtikllmfjgpmcnaaDoorWit
import Derived.Test.YtikllmfjgpmcnaaDoorCards
import Derived.Test.YtikllmfjgpmcnaaDoorTie
import Derived.WalkKit
import Derived.ProofKit
import Derived.OpenShut
import Derived.ShutString
import Derived.LaidMore
import Derived.Lay
import Derived.SevenTiedAt
import Derived.Stop.Joined
namespace Go.Proofs.YtikllmfjgpmcnaaDoor
namespace acceptKinds
open Go.ChangeShapes Go.WideShapes Go.ChangeAt Go.RowKit
open Go.ChangeMaps (open_string shut_string)
open Go.Sep
set_option linter.unusedVariables false
set_option linter.unusedSimpArgs false
theorem own : ownKnob Tryd.prog.godebug = none := by kernel_rfl
set_option maxRecDepth 100000 in
theorem lifted (os : Os) (started : os.Started) (H : Type) (enc : TypeId × Value → H) :
    ReturnsInHanded {} Tryd.checked os 4 .any (fun w args => (Rows.acceptKindsSpec.pre enc Tryd.prog Tryd.f4 Rows.acceptKindsRow.domain false w args ∧ laidMetH Tryd.prog Rows.acceptKindsRow.laid w) ∧ sizedMet enc Tryd.prog Tryd.f4 (OpenSpec.ofChange Rows.acceptKindsSpec) false w args) (Rows.acceptKindsSpec.post enc Tryd.prog Tryd.f4 false true false false) := by
  refine returnsInHanded_of_change_and (C := Tryd.checked) (X := fun w _ => laidMetH Tryd.prog Rows.acceptKindsRow.laid w) (fun _ _ _ hh h => h.of_heap hh) own started (by kernel_rfl) Tryd.func4
    (ChangeSpec.witness_shaped (enc := enc) (C := Tryd.checked) (os := os) (X := fun w _ => laidMetH Tryd.prog Rows.acceptKindsRow.laid w) false (World.laidAll Tryd.prog os Rows.acceptKindsRow.laid) #[.string ByteArray.empty, .int .i64 0] 8 (World.laidAll_os _ _ _)
      (wit_shaped os _) (by kernel_rfl) (by kernel_rfl) (by kernel_rfl)
      (wit_met os _)) ?_
  intro W base args ds gs before hval0 hW hcnd _ hL _
  have hval : ∀ (j : Nat) t v, Tryd.f4.params[j]? = some t → args[j]? = some v → Value.okWide Tryd.prog W .any base t v := hval0
  have hW' := hW
  obtain ⟨p, q, hA0, hV, rfl, hfz, hnd⟩ := hW
  have hA : DataW.TrodAll enc Tryd.prog W 0 (fun _ => true) true Tryd.f4.params.toList args.toList ds p := hA0
  rw [Tryd.params4] at hA hval
  obtain ⟨v0, vs0, d0, ds0, p0, q0, hargs, rfl, rfl, h0, r0⟩ := trodAll_cons hA
  obtain ⟨v1, vs1, d1, ds1, p1, q1, rfl, rfl, rfl, h1, r1⟩ := trodAll_cons r0
  obtain ⟨rfl, rfl, rfl⟩ := trodAll_nil r1
  obtain rfl : args = #[v0, v1] := by cases args; simp_all
  obtain ⟨rfl, rfl⟩ := trodVars_none hV
  obtain ⟨a0, rfl, rfl, rfl, w0⟩ := open_string Tryd.underlying9 (hval 0 9 v0 rfl rfl) h0
  obtain ⟨a1, rfl, rfl, rfl, w1⟩ := open_int Tryd.underlying3 (hval 1 3 v1 rfl rfl) h1
  clear hA0 hval0
  simp only [List.append_nil] at hW'
  have hcall := c_law13_AcceptKinds a0.data.toList a1  W (Old W) [] ⟨fun _ h => h, List.nodup_nil, fun _ h => (List.not_mem_nil h).elim, fun _ h => (List.not_mem_nil h).elim⟩ rfl
  simp only [str_data] at hcall
  refine hcall.mono fun e W' hE => ?_
  obtain ⟨_, I', m', rfl, hE, _⟩ := hE
  have bel : Below W.heap.size W W' := ⟨hE.os, hE.tape, hE.output, hE.size, fun k hk => hE.block k hk List.not_mem_nil⟩
  exact ⟨_, rfl, _, _, _, [], _, [], hW', trodAll_mk1 (shut_bool Tryd.underlying4 _), (trodAll_cons_mk (shut_string Tryd.underlying9 w0) (trodAll_cons_mk (shut_int Tryd.underlying3 w1) trodAll_mk0)), rfl, bel.frame _, fun h => by cases h⟩
end acceptKinds
theorem acceptKinds_f_inPlace : (Rows.acceptKindsRow.inPlace == Tryd.prog.inPlace 4) = true := by kernel_rfl
theorem acceptKinds_f_unfollowed : (Rows.acceptKindsRow.unfollowed == Tryd.prog.unfollowed 4) = true := by kernel_rfl
theorem acceptKinds_f_recurses : (Rows.acceptKindsRow.recurses == Tryd.prog.recurses 4) = true := by kernel_rfl
theorem acceptKinds_f_named : (Rows.acceptKindsRow.named == Tryd.prog.varsNamed 4) = true := by kernel_rfl
theorem acceptKinds_closed : joinedFacts Tryd.prog 4 Tryd.f4 Rows.acceptKindsSpec Rows.acceptKindsRow = true := by
  unfold joinedFacts
  rw [pf_laid, pf_maps, pf_stops, pf_knobs, pf_keys, pf_heard, pf_enter, pf_lifts, acceptKinds_f_inPlace, acceptKinds_f_unfollowed, acceptKinds_f_recurses, acceptKinds_f_named]
  kernel_rfl
theorem acceptKinds_named : Tryd.pinned.checked.prog.funcNamed Rows.acceptKindsRow.func = some 4 := by kernel_rfl
theorem acceptKinds_inst : Tryd.f4.isInstance Tryd.pinned.checked.prog Rows.acceptKindsRow.origin Rows.acceptKindsRow.targs := of_decide_eq_true (by kernel_rfl)
theorem acceptKinds_wrap : Tryd.f4.isWrapper Tryd.pinned.checked.prog Rows.acceptKindsRow.wrapper Rows.acceptKindsRow.mainSum := by unfold Func.isWrapper; first | (rw [if_pos (by decide +kernel)]; kernel_rfl) | (rw [if_neg (by decide +kernel)]; exact ⟨rfl, rfl⟩)
theorem acceptKinds_over : Rows.acceptKindsRow.holds Tryd.pinned (OpenSpec.ofChange Rows.acceptKindsSpec) :=
  OpenClaim.holds_of_wide 4 Tryd.f4 rfl rfl rfl rfl rfl rfl rfl ⟨rfl, rfl, rfl, rfl, rfl⟩ rfl rfl rfl rfl rfl acceptKinds_named Tryd.func4 acceptKinds_closed
    acceptKinds_inst acceptKinds_wrap
    (fun os started H enc _ => acceptKinds.lifted os started H enc)
theorem acceptKinds_holds : Rows.AcceptKindsSaid := acceptKinds_over
#print axioms acceptKinds_holds
theorem acceptKinds_text : Rows.acceptKindsRow.wfByText (OpenSpec.ofChange Rows.acceptKindsSpec) = true := by kernel_rfl
theorem acceptKinds_goes : false = Rows.acceptKindsRow.goesBy Tryd.pinned.checked.prog := by kernel_rfl
theorem acceptKinds_fn : Tryd.prog.funcNamed "variantproxy/variantproxylaw13.AcceptKinds" = some 4 := by kernel_rfl
theorem acceptKinds_stand : ([9, 3].all fun u => !Tryd.prog.wantsStandIn u) = true := by kernel_rfl
theorem acceptKinds_card : Rows.AcceptKindsCardSaid :=
  Claim7.holds_tied_plain_at .later [] [.data, .pinned] true (true, "afe76c3eaaf1f6da5f234db97120ee7a851f0076f1417e3a9c9fc355ac6d38f8") false acceptKinds_over (fun _ h => by cases h) acceptKinds_text (fun _ h => by cases h) acceptKinds_row_tie rfl ⟨rfl, rfl⟩ pf_main rfl
    (fun f fn hf hfn => by
      obtain rfl : f = 4 := Option.some.inj (acceptKinds_fn.symm.trans hf) |>.symm
      obtain rfl : fn = Tryd.f4 := (Option.some.inj (Tryd.func4.symm.trans hfn)).symm
      exact ⟨pf_looks, fun j t ht => by
        rw [Tryd.params4] at ht
        have hm : t ∈ [9, 3] := by have := Array.mem_of_getElem? ht; simpa using this
        exact (show Tryd.prog.wantsStandIn t = false by simpa using List.all_eq_true.1 acceptKinds_stand t hm)⟩)
    acceptKinds_goes
#print axioms acceptKinds_card
end Go.Proofs.YtikllmfjgpmcnaaDoor
