/-
  AcceptBack: for every input the law returns true, and each argument reads behind the call as it read before. No conditions.
-/
import Derived.Test.YtikllmfjgpmcnaaDoorRows
import Derived.Test.YtikllmfjgpmcnaaDoorL15
import Derived.Test.YtikllmfjgpmcnaaDoorOpens
import Derived.Test.YtikllmfjgpmcnaaDoorFacts
import Derived.Test.YtikllmfjgpmcnaaDoorWit
import Derived.Test.YtikllmfjgpmcnaaDoorCards
import Derived.Test.YtikllmfjgpmcnaaDoorTie
import Derived.WalkKit
import Derived.ProofKit
import Derived.OpenShut
import Derived.ShutString
import Derived.LaidMore
import Derived.Lay
import Derived.SevenTiedAt
import Derived.Stop.Joined
namespace Go.Proofs.YtikllmfjgpmcnaaDoor
namespace acceptBack
open Go.ChangeShapes Go.WideShapes Go.ChangeAt Go.RowKit
open Go.ChangeMaps (open_string shut_string)
open Go.Sep
set_option linter.unusedVariables false
set_option linter.unusedSimpArgs false
theorem own : ownKnob Tryd.prog.godebug = none := by kernel_rfl
set_option maxRecDepth 100000 in
theorem lifted (os : Os) (started : os.Started) (H : Type) (enc : TypeId × Value → H) :
    ReturnsInHanded {} Tryd.checked os 9 .any (fun w args => (Rows.acceptBackSpec.pre enc Tryd.prog Tryd.f9 Rows.acceptBackRow.domain false w args ∧ laidMetH Tryd.prog Rows.acceptBackRow.laid w) ∧ sizedMet enc Tryd.prog Tryd.f9 (OpenSpec.ofChange Rows.acceptBackSpec) false w args) (Rows.acceptBackSpec.post enc Tryd.prog Tryd.f9 false true false false) := by
  refine returnsInHanded_of_change_and (C := Tryd.checked) (X := fun w _ => laidMetH Tryd.prog Rows.acceptBackRow.laid w) (fun _ _ _ hh h => h.of_heap hh) own started (by kernel_rfl) Tryd.func9
    (ChangeSpec.witness_shaped (enc := enc) (C := Tryd.checked) (os := os) (X := fun w _ => laidMetH Tryd.prog Rows.acceptBackRow.laid w) false (World.laidAll Tryd.prog os Rows.acceptBackRow.laid) #[.int .i64 0, .slice none 0 0] 8 (World.laidAll_os _ _ _)
      (wit_shaped os _) (by kernel_rfl) (by kernel_rfl) (by kernel_rfl)
      (wit_met os _)) ?_
  intro W base args ds gs before hval0 hW hcnd _ hL _
  have hval : ∀ (j : Nat) t v, Tryd.f9.params[j]? = some t → args[j]? = some v → Value.okWide Tryd.prog W .any base t v := hval0
  have hW' := hW
  obtain ⟨p, q, hA0, hV, rfl, hfz, hnd⟩ := hW
  have hA : DataW.TrodAll enc Tryd.prog W 0 (fun _ => true) true Tryd.f9.params.toList args.toList ds p := hA0
  rw [Tryd.params9] at hA hval
  obtain ⟨v0, vs0, d0, ds0, p0, q0, hargs, rfl, rfl, h0, r0⟩ := trodAll_cons hA
  obtain ⟨v1, vs1, d1, ds1, p1, q1, rfl, rfl, rfl, h1, r1⟩ := trodAll_cons r0
  obtain ⟨rfl, rfl, rfl⟩ := trodAll_nil r1
  obtain rfl : args = #[v0, v1] := by cases args; simp_all
  obtain ⟨rfl, rfl⟩ := trodVars_none hV
  obtain ⟨a0, rfl, rfl, rfl, w0⟩ := open_int Tryd.underlying3 (hval 0 3 v0 rfl rfl) h0
  obtain ⟨a1, b1, m1, f1⟩ := open_list (opens_list Tryd.underlying31 (by kernel_rfl) (opens_struct Tryd.underlying29 (by kernel_rfl) (opensF_cons rfl (by kernel_rfl) (opens_str Tryd.underlying9) rfl (opensF_one rfl (by kernel_rfl) (opens_str Tryd.underlying9))))) Tryd.underlying31 (hval 1 31 v1 rfl rfl) h1
  clear hA0 hval0
  simp only [List.append_nil] at hW'
  have hcall := c_law13_AcceptBack a0 a1 v1 (by have := m1; simp only [maxLen] at this; omega) W (Old W) [] ⟨fun _ h => h, List.nodup_nil, fun _ h => (List.not_mem_nil h).elim, fun _ h => (List.not_mem_nil h).elim⟩ (Sats.nil_append (As := [.imm (.list (.pair .str .str)) v1 a1]) ⟨[], [], rfl, ⟨rfl, b1⟩, rfl⟩ rfl)
  refine hcall.mono fun e W' hE => ?_
  obtain ⟨_, I', m', rfl, hE, _⟩ := hE
  have bel : Below W.heap.size W W' := ⟨hE.os, hE.tape, hE.output, hE.size, fun k hk => hE.block k hk List.not_mem_nil⟩
  exact ⟨_, rfl, _, _, _, [], _, [], hW', trodAll_mk1 (shut_bool Tryd.underlying4 _), (trodAll_cons_mk (shut_int Tryd.underlying3 w0) (trodAll_cons_mk (Below.trod pf_laid (by kernel_rfl) (of_decide_eq_true (by kernel_rfl)) h1 bel (fun x hx => hW'.lt x (by simp [hx]))) trodAll_mk0)), rfl, bel.frame _, fun h => by cases h⟩
end acceptBack
theorem acceptBack_f_inPlace : (Rows.acceptBackRow.inPlace == Tryd.prog.inPlace 9) = true := by kernel_rfl
theorem acceptBack_f_unfollowed : (Rows.acceptBackRow.unfollowed == Tryd.prog.unfollowed 9) = true := by kernel_rfl
theorem acceptBack_f_recurses : (Rows.acceptBackRow.recurses == Tryd.prog.recurses 9) = true := by kernel_rfl
theorem acceptBack_f_named : (Rows.acceptBackRow.named == Tryd.prog.varsNamed 9) = true := by kernel_rfl
theorem acceptBack_closed : joinedFacts Tryd.prog 9 Tryd.f9 Rows.acceptBackSpec Rows.acceptBackRow = true := by
  unfold joinedFacts
  rw [pf_laid, pf_maps, pf_stops, pf_knobs, pf_keys, pf_heard, pf_enter, pf_lifts, acceptBack_f_inPlace, acceptBack_f_unfollowed, acceptBack_f_recurses, acceptBack_f_named]
  kernel_rfl
theorem acceptBack_named : Tryd.pinned.checked.prog.funcNamed Rows.acceptBackRow.func = some 9 := by kernel_rfl
theorem acceptBack_inst : Tryd.f9.isInstance Tryd.pinned.checked.prog Rows.acceptBackRow.origin Rows.acceptBackRow.targs := of_decide_eq_true (by kernel_rfl)
theorem acceptBack_wrap : Tryd.f9.isWrapper Tryd.pinned.checked.prog Rows.acceptBackRow.wrapper Rows.acceptBackRow.mainSum := by unfold Func.isWrapper; first | (rw [if_pos (by decide +kernel)]; kernel_rfl) | (rw [if_neg (by decide +kernel)]; exact ⟨rfl, rfl⟩)
theorem acceptBack_over : Rows.acceptBackRow.holds Tryd.pinned (OpenSpec.ofChange Rows.acceptBackSpec) :=
  OpenClaim.holds_of_wide 9 Tryd.f9 rfl rfl rfl rfl rfl rfl rfl ⟨rfl, rfl, rfl, rfl, rfl⟩ rfl rfl rfl rfl rfl acceptBack_named Tryd.func9 acceptBack_closed
    acceptBack_inst acceptBack_wrap
    (fun os started H enc _ => acceptBack.lifted os started H enc)
theorem acceptBack_holds : Rows.AcceptBackSaid := acceptBack_over
#print axioms acceptBack_holds
theorem acceptBack_text : Rows.acceptBackRow.wfByText (OpenSpec.ofChange Rows.acceptBackSpec) = true := by kernel_rfl
theorem acceptBack_goes : false = Rows.acceptBackRow.goesBy Tryd.pinned.checked.prog := by kernel_rfl
theorem acceptBack_fn : Tryd.prog.funcNamed "variantproxy/variantproxylaw13.AcceptBack" = some 9 := by kernel_rfl
theorem acceptBack_stand : ([3, 31].all fun u => !Tryd.prog.wantsStandIn u) = true := by kernel_rfl
theorem acceptBack_card : Rows.AcceptBackCardSaid :=
  Claim7.holds_tied_plain_at .later [] [.data, .pinned] true (true, "afe76c3eaaf1f6da5f234db97120ee7a851f0076f1417e3a9c9fc355ac6d38f8") false acceptBack_over (fun _ h => by cases h) acceptBack_text (fun _ h => by cases h) acceptBack_row_tie rfl ⟨rfl, rfl⟩ pf_main rfl
    (fun f fn hf hfn => by
      obtain rfl : f = 9 := Option.some.inj (acceptBack_fn.symm.trans hf) |>.symm
      obtain rfl : fn = Tryd.f9 := (Option.some.inj (Tryd.func9.symm.trans hfn)).symm
      exact ⟨pf_looks, fun j t ht => by
        rw [Tryd.params9] at ht
        have hm : t ∈ [3, 31] := by have := Array.mem_of_getElem? ht; simpa using this
        exact (show Tryd.prog.wantsStandIn t = false by simpa using List.all_eq_true.1 acceptBack_stand t hm)⟩)
    acceptBack_goes
#print axioms acceptBack_card
end Go.Proofs.YtikllmfjgpmcnaaDoor
