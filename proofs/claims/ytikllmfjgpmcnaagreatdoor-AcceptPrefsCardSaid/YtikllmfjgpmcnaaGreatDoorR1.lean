/-
  AcceptPrefs: for every input the law returns true, and each argument reads behind the call as it read before. No conditions.
-/
import Derived.Test.YtikllmfjgpmcnaaGreatDoorRows
import Derived.Test.YtikllmfjgpmcnaaGreatDoorL12
import Derived.Test.YtikllmfjgpmcnaaGreatDoorOpens
import Derived.Test.YtikllmfjgpmcnaaGreatDoorFacts
import Derived.Test.YtikllmfjgpmcnaaGreatDoorWit
import Derived.Test.YtikllmfjgpmcnaaGreatDoorCards
import Derived.Test.YtikllmfjgpmcnaaGreatDoorTie
import Derived.WalkKit
import Derived.ProofKit
import Derived.OpenShut
import Derived.ShutString
import Derived.LaidMore
import Derived.Lay
import Derived.SevenTiedAt
import Derived.Stop.Joined
namespace Go.Proofs.YtikllmfjgpmcnaaGreatDoor
namespace acceptPrefs
open Go.ChangeShapes Go.WideShapes Go.ChangeAt Go.RowKit
open Go.ChangeMaps (open_string shut_string)
open Go.Sep
set_option linter.unusedVariables false
set_option linter.unusedSimpArgs false
theorem own : ownKnob Tryz.prog.godebug = none := by kernel_rfl
set_option maxRecDepth 100000 in
theorem lifted (os : Os) (started : os.Started) (H : Type) (enc : TypeId × Value → H) :
    ReturnsInHanded {} Tryz.checked os 3 .any (fun w args => (Rows.acceptPrefsSpec.pre enc Tryz.prog Tryz.f3 Rows.acceptPrefsRow.domain false w args ∧ laidMetH Tryz.prog Rows.acceptPrefsRow.laid w) ∧ sizedMet enc Tryz.prog Tryz.f3 (OpenSpec.ofChange Rows.acceptPrefsSpec) false w args) (Rows.acceptPrefsSpec.post enc Tryz.prog Tryz.f3 false true false false) := by
  refine returnsInHanded_of_change_and (C := Tryz.checked) (X := fun w _ => laidMetH Tryz.prog Rows.acceptPrefsRow.laid w) (fun _ _ _ hh h => h.of_heap hh) own started (by kernel_rfl) Tryz.func3
    (ChangeSpec.witness_shaped (enc := enc) (C := Tryz.checked) (os := os) (X := fun w _ => laidMetH Tryz.prog Rows.acceptPrefsRow.laid w) false (World.laidAll Tryz.prog os Rows.acceptPrefsRow.laid) #[.int .i64 0, .slice none 0 0] 8 (World.laidAll_os _ _ _)
      (wit_shaped os _) (by kernel_rfl) (by kernel_rfl) (by kernel_rfl)
      (wit_met os _)) ?_
  intro W base args ds gs before hval0 hW hcnd _ hL _
  have hval : ∀ (j : Nat) t v, Tryz.f3.params[j]? = some t → args[j]? = some v → Value.okWide Tryz.prog W .any base t v := hval0
  have hW' := hW
  obtain ⟨p, q, hA0, hV, rfl, hfz, hnd⟩ := hW
  have hA : DataW.TrodAll enc Tryz.prog W 0 (fun _ => true) true Tryz.f3.params.toList args.toList ds p := hA0
  rw [Tryz.params3] at hA hval
  obtain ⟨v0, vs0, d0, ds0, p0, q0, hargs, rfl, rfl, h0, r0⟩ := trodAll_cons hA
  obtain ⟨v1, vs1, d1, ds1, p1, q1, rfl, rfl, rfl, h1, r1⟩ := trodAll_cons r0
  obtain ⟨rfl, rfl, rfl⟩ := trodAll_nil r1
  obtain rfl : args = #[v0, v1] := by cases args; simp_all
  obtain ⟨rfl, rfl⟩ := trodVars_none hV
  obtain ⟨a0, rfl, rfl, rfl, w0⟩ := open_int Tryz.underlying3 (hval 0 3 v0 rfl rfl) h0
  obtain ⟨a1, b1, m1, f1⟩ := open_list (opens_list Tryz.underlying22 (by kernel_rfl) (opens_struct Tryz.underlying35 (by kernel_rfl) (opensF_cons rfl (by kernel_rfl) (opens_str Tryz.underlying9) rfl (opensF_one rfl (by kernel_rfl) (opens_str Tryz.underlying9))))) Tryz.underlying22 (hval 1 22 v1 rfl rfl) h1
  clear hA0 hval0
  simp only [List.append_nil] at hW'
  have hcall := c_law13_AcceptPrefs a0 a1 v1 (by have := m1; simp only [maxLen] at this; omega) W (Old W) [] ⟨fun _ h => h, List.nodup_nil, fun _ h => (List.not_mem_nil h).elim, fun _ h => (List.not_mem_nil h).elim⟩ (Sats.nil_append (As := [.imm (.list (.pair .str .str)) v1 a1]) ⟨[], [], rfl, ⟨rfl, b1⟩, rfl⟩ rfl)
  refine hcall.mono fun e W' hE => ?_
  obtain ⟨_, I', m', rfl, hE, _⟩ := hE
  have bel : Below W.heap.size W W' := ⟨hE.os, hE.tape, hE.output, hE.size, fun k hk => hE.block k hk List.not_mem_nil⟩
  exact ⟨_, rfl, _, _, _, [], _, [], hW', trodAll_mk1 (shut_bool Tryz.underlying4 _), (trodAll_cons_mk (shut_int Tryz.underlying3 w0) (trodAll_cons_mk (Below.trod pf_laid (by kernel_rfl) (of_decide_eq_true (by kernel_rfl)) h1 bel (fun x hx => hW'.lt x (by simp [hx]))) trodAll_mk0)), rfl, bel.frame _, fun h => by cases h⟩
end acceptPrefs
theorem acceptPrefs_f_inPlace : (Rows.acceptPrefsRow.inPlace == Tryz.prog.inPlace 3) = true := by kernel_rfl
theorem acceptPrefs_f_unfollowed : (Rows.acceptPrefsRow.unfollowed == Tryz.prog.unfollowed 3) = true := by kernel_rfl
theorem acceptPrefs_f_recurses : (Rows.acceptPrefsRow.recurses == Tryz.prog.recurses 3) = true := by kernel_rfl
theorem acceptPrefs_f_named : (Rows.acceptPrefsRow.named == Tryz.prog.varsNamed 3) = true := by kernel_rfl
theorem acceptPrefs_closed : joinedFacts Tryz.prog 3 Tryz.f3 Rows.acceptPrefsSpec Rows.acceptPrefsRow = true := by
  unfold joinedFacts
  rw [pf_laid, pf_maps, pf_stops, pf_knobs, pf_keys, pf_heard, pf_enter, pf_lifts, acceptPrefs_f_inPlace, acceptPrefs_f_unfollowed, acceptPrefs_f_recurses, acceptPrefs_f_named]
  kernel_rfl
theorem acceptPrefs_named : Tryz.pinned.checked.prog.funcNamed Rows.acceptPrefsRow.func = some 3 := by kernel_rfl
theorem acceptPrefs_inst : Tryz.f3.isInstance Tryz.pinned.checked.prog Rows.acceptPrefsRow.origin Rows.acceptPrefsRow.targs := of_decide_eq_true (by kernel_rfl)
theorem acceptPrefs_wrap : Tryz.f3.isWrapper Tryz.pinned.checked.prog Rows.acceptPrefsRow.wrapper Rows.acceptPrefsRow.mainSum := by unfold Func.isWrapper; first | (rw [if_pos (by decide +kernel)]; kernel_rfl) | (rw [if_neg (by decide +kernel)]; exact ⟨rfl, rfl⟩)
theorem acceptPrefs_over : Rows.acceptPrefsRow.holds Tryz.pinned (OpenSpec.ofChange Rows.acceptPrefsSpec) :=
  OpenClaim.holds_of_wide 3 Tryz.f3 rfl rfl rfl rfl rfl rfl rfl ⟨rfl, rfl, rfl, rfl, rfl⟩ rfl rfl rfl rfl rfl acceptPrefs_named Tryz.func3 acceptPrefs_closed
    acceptPrefs_inst acceptPrefs_wrap
    (fun os started H enc _ => acceptPrefs.lifted os started H enc)
theorem acceptPrefs_holds : Rows.AcceptPrefsSaid := acceptPrefs_over
#print axioms acceptPrefs_holds
theorem acceptPrefs_text : Rows.acceptPrefsRow.wfByText (OpenSpec.ofChange Rows.acceptPrefsSpec) = true := by kernel_rfl
theorem acceptPrefs_goes : false = Rows.acceptPrefsRow.goesBy Tryz.pinned.checked.prog := by kernel_rfl
theorem acceptPrefs_fn : Tryz.prog.funcNamed "variantproxy/variantproxylaw13.AcceptPrefs" = some 3 := by kernel_rfl
theorem acceptPrefs_stand : ([3, 22].all fun u => !Tryz.prog.wantsStandIn u) = true := by kernel_rfl
theorem acceptPrefs_card : Rows.AcceptPrefsCardSaid :=
  Claim7.holds_tied_plain_at .later [] [.data, .pinned] true (true, "c6f816eb200eacf078da10b15f4e36bfcf48a11fa1caf13861db4cac41e79c6e") false acceptPrefs_over (fun _ h => by cases h) acceptPrefs_text (fun _ h => by cases h) acceptPrefs_row_tie rfl ⟨rfl, rfl⟩ pf_main rfl
    (fun f fn hf hfn => by
      obtain rfl : f = 3 := Option.some.inj (acceptPrefs_fn.symm.trans hf) |>.symm
      obtain rfl : fn = Tryz.f3 := (Option.some.inj (Tryz.func3.symm.trans hfn)).symm
      exact ⟨pf_looks, fun j t ht => by
        rw [Tryz.params3] at ht
        have hm : t ∈ [3, 22] := by have := Array.mem_of_getElem? ht; simpa using this
        exact (show Tryz.prog.wantsStandIn t = false by simpa using List.all_eq_true.1 acceptPrefs_stand t hm)⟩)
    acceptPrefs_goes
#print axioms acceptPrefs_card
end Go.Proofs.YtikllmfjgpmcnaaGreatDoor
