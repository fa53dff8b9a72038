/-
  AcceptLines: for every input the law returns true, and each argument reads behind the call as it read before. No conditions.
-/
import Derived.Test.YtikllmfjgpmcnaaDoorRows
import Derived.Test.YtikllmfjgpmcnaaDoorL12
import Derived.Test.YtikllmfjgpmcnaaDoorOpens
import Derived.Test.YtikllmfjgpmcnaaDoorFacts
import Derived.Test.YtikllmfjgpmcnaaDoorWit
import Derived.Test.YtikllmfjgpmcnaaDoorCards
import Derived.Test.YtikllmfjgpmcnaaDoorTie
import Derived.WalkKit
import Derived.ProofKit
import Derived.OpenShut
import Derived.ShutString
import Derived.LaidMore
import Derived.Lay
import Derived.SevenTiedAt
import Derived.Stop.Joined
namespace Go.Proofs.YtikllmfjgpmcnaaDoor
namespace acceptLines
open Go.ChangeShapes Go.WideShapes Go.ChangeAt Go.RowKit
open Go.ChangeMaps (open_string shut_string)
open Go.Sep
set_option linter.unusedVariables false
set_option linter.unusedSimpArgs false
theorem own : ownKnob Tryd.prog.godebug = none := by kernel_rfl
set_option maxRecDepth 100000 in
theorem lifted (os : Os) (started : os.Started) (H : Type) (enc : TypeId × Value → H) :
    ReturnsInHanded {} Tryd.checked os 3 .any (fun w args => (Rows.acceptLinesSpec.pre enc Tryd.prog Tryd.f3 Rows.acceptLinesRow.domain false w args ∧ laidMetH Tryd.prog Rows.acceptLinesRow.laid w) ∧ sizedMet enc Tryd.prog Tryd.f3 (OpenSpec.ofChange Rows.acceptLinesSpec) false w args) (Rows.acceptLinesSpec.post enc Tryd.prog Tryd.f3 false true false false) := by
  refine returnsInHanded_of_change_and (C := Tryd.checked) (X := fun w _ => laidMetH Tryd.prog Rows.acceptLinesRow.laid w) (fun _ _ _ hh h => h.of_heap hh) own started (by kernel_rfl) Tryd.func3
    (ChangeSpec.witness_shaped (enc := enc) (C := Tryd.checked) (os := os) (X := fun w _ => laidMetH Tryd.prog Rows.acceptLinesRow.laid w) false (World.laidAll Tryd.prog os Rows.acceptLinesRow.laid) #[.int .i64 0, .string ByteArray.empty, .string ByteArray.empty] 8 (World.laidAll_os _ _ _)
      (wit_shaped os _) (by kernel_rfl) (by kernel_rfl) (by kernel_rfl)
      (wit_met os _)) ?_
  intro W base args ds gs before hval0 hW hcnd _ hL _
  have hval : ∀ (j : Nat) t v, Tryd.f3.params[j]? = some t → args[j]? = some v → Value.okWide Tryd.prog W .any base t v := hval0
  have hW' := hW
  obtain ⟨p, q, hA0, hV, rfl, hfz, hnd⟩ := hW
  have hA : DataW.TrodAll enc Tryd.prog W 0 (fun _ => true) true Tryd.f3.params.toList args.toList ds p := hA0
  rw [Tryd.params3] at hA hval
  obtain ⟨v0, vs0, d0, ds0, p0, q0, hargs, rfl, rfl, h0, r0⟩ := trodAll_cons hA
  obtain ⟨v1, vs1, d1, ds1, p1, q1, rfl, rfl, rfl, h1, r1⟩ := trodAll_cons r0
  obtain ⟨v2, vs2, d2, ds2, p2, q2, rfl, rfl, rfl, h2, r2⟩ := trodAll_cons r1
  obtain ⟨rfl, rfl, rfl⟩ := trodAll_nil r2
  obtain rfl : args = #[v0, v1, v2] := by cases args; simp_all
  obtain ⟨rfl, rfl⟩ := trodVars_none hV
  obtain ⟨a0, rfl, rfl, rfl, w0⟩ := open_int Tryd.underlying3 (hval 0 3 v0 rfl rfl) h0
  obtain ⟨a1, rfl, rfl, rfl, w1⟩ := open_string Tryd.underlying9 (hval 1 9 v1 rfl rfl) h1
  obtain ⟨a2, rfl, rfl, rfl, w2⟩ := open_string Tryd.underlying9 (hval 2 9 v2 rfl rfl) h2
  clear hA0 hval0
  simp only [List.append_nil] at hW'
  have hcall := c_law13_AcceptLines a0 a1.data.toList a2.data.toList  W (Old W) [] ⟨fun _ h => h, List.nodup_nil, fun _ h => (List.not_mem_nil h).elim, fun _ h => (List.not_mem_nil h).elim⟩ rfl
  simp only [str_data] at hcall
  refine hcall.mono fun e W' hE => ?_
  obtain ⟨_, I', m', rfl, hE, _⟩ := hE
  have bel : Below W.heap.size W W' := ⟨hE.os, hE.tape, hE.output, hE.size, fun k hk => hE.block k hk List.not_mem_nil⟩
  exact ⟨_, rfl, _, _, _, [], _, [], hW', trodAll_mk1 (shut_bool Tryd.underlying4 _), (trodAll_cons_mk (shut_int Tryd.underlying3 w0) (trodAll_cons_mk (shut_string Tryd.underlying9 w1) (trodAll_cons_mk (shut_string Tryd.underlying9 w2) trodAll_mk0))), rfl, bel.frame _, fun h => by cases h⟩
end acceptLines
theorem acceptLines_f_inPlace : (Rows.acceptLinesRow.inPlace == Tryd.prog.inPlace 3) = true := by kernel_rfl
theorem acceptLines_f_unfollowed : (Rows.acceptLinesRow.unfollowed == Tryd.prog.unfollowed 3) = true := by kernel_rfl
theorem acceptLines_f_recurses : (Rows.acceptLinesRow.recurses == Tryd.prog.recurses 3) = true := by kernel_rfl
theorem acceptLines_f_named : (Rows.acceptLinesRow.named == Tryd.prog.varsNamed 3) = true := by kernel_rfl
theorem acceptLines_closed : joinedFacts Tryd.prog 3 Tryd.f3 Rows.acceptLinesSpec Rows.acceptLinesRow = true := by
  unfold joinedFacts
  rw [pf_laid, pf_maps, pf_stops, pf_knobs, pf_keys, pf_heard, pf_enter, pf_lifts, acceptLines_f_inPlace, acceptLines_f_unfollowed, acceptLines_f_recurses, acceptLines_f_named]
  kernel_rfl
theorem acceptLines_named : Tryd.pinned.checked.prog.funcNamed Rows.acceptLinesRow.func = some 3 := by kernel_rfl
theorem acceptLines_inst : Tryd.f3.isInstance Tryd.pinned.checked.prog Rows.acceptLinesRow.origin Rows.acceptLinesRow.targs := of_decide_eq_true (by kernel_rfl)
theorem acceptLines_wrap : Tryd.f3.isWrapper Tryd.pinned.checked.prog Rows.acceptLinesRow.wrapper Rows.acceptLinesRow.mainSum := by unfold Func.isWrapper; first | (rw [if_pos (by decide +kernel)]; kernel_rfl) | (rw [if_neg (by decide +kernel)]; exact ⟨rfl, rfl⟩)
theorem acceptLines_over : Rows.acceptLinesRow.holds Tryd.pinned (OpenSpec.ofChange Rows.acceptLinesSpec) :=
  OpenClaim.holds_of_wide 3 Tryd.f3 rfl rfl rfl rfl rfl rfl rfl ⟨rfl, rfl, rfl, rfl, rfl⟩ rfl rfl rfl rfl rfl acceptLines_named Tryd.func3 acceptLines_closed
    acceptLines_inst acceptLines_wrap
    (fun os started H enc _ => acceptLines.lifted os started H enc)
theorem acceptLines_holds : Rows.AcceptLinesSaid := acceptLines_over
#print axioms acceptLines_holds
theorem acceptLines_text : Rows.acceptLinesRow.wfByText (OpenSpec.ofChange Rows.acceptLinesSpec) = true := by kernel_rfl
theorem acceptLines_goes : false = Rows.acceptLinesRow.goesBy Tryd.pinned.checked.prog := by kernel_rfl
theorem acceptLines_fn : Tryd.prog.funcNamed "variantproxy/variantproxylaw13.AcceptLines" = some 3 := by kernel_rfl
theorem acceptLines_stand : ([3, 9, 9].all fun u => !Tryd.prog.wantsStandIn u) = true := by kernel_rfl
theorem acceptLines_card : Rows.AcceptLinesCardSaid :=
  Claim7.holds_tied_plain_at .later [] [.data, .pinned] true (true, "afe76c3eaaf1f6da5f234db97120ee7a851f0076f1417e3a9c9fc355ac6d38f8") false acceptLines_over (fun _ h => by cases h) acceptLines_text (fun _ h => by cases h) acceptLines_row_tie rfl ⟨rfl, rfl⟩ pf_main rfl
    (fun f fn hf hfn => by
      obtain rfl : f = 3 := Option.some.inj (acceptLines_fn.symm.trans hf) |>.symm
      obtain rfl : fn = Tryd.f3 := (Option.some.inj (Tryd.func3.symm.trans hfn)).symm
      exact ⟨pf_looks, fun j t ht => by
        rw [Tryd.params3] at ht
        have hm : t ∈ [3, 9, 9] := by have := Array.mem_of_getElem? ht; simpa using this
        exact (show Tryd.prog.wantsStandIn t = false by simpa using List.all_eq_true.1 acceptLines_stand t hm)⟩)
    acceptLines_goes
#print axioms acceptLines_card
end Go.Proofs.YtikllmfjgpmcnaaDoor
