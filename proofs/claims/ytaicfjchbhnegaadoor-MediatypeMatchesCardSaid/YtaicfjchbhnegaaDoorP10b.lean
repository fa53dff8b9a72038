/-
  MediatypeMatches: for every input the law returns true, and each argument reads behind the call as it read before. No conditions.
-/
import Derived.Test.YtaicfjchbhnegaaDoorRows
import Derived.Test.YtaicfjchbhnegaaDoorC9
import Derived.Test.YtaicfjchbhnegaaDoorOpens
import Derived.Test.YtaicfjchbhnegaaDoorFacts
import Derived.Test.YtaicfjchbhnegaaDoorWit
import Derived.Test.YtaicfjchbhnegaaDoorCards
import Derived.Test.YtaicfjchbhnegaaDoorTie
import Derived.WalkKit
import Derived.ProofKit
import Derived.OpenShut
import Derived.ShutString
import Derived.LaidMore
import Derived.Lay
import Derived.SevenTiedAt
import Derived.Stop.Joined
namespace Go.Proofs.YtaicfjchbhnegaaDoor
namespace mediatypeMatches
open Go.ChangeShapes Go.WideShapes Go.ChangeAt Go.RowKit
open Go.ChangeMaps (open_string shut_string)
open Go.Sep
set_option linter.unusedVariables false
set_option linter.unusedSimpArgs false
theorem own : ownKnob Tryd.prog.godebug = none := by kernel_rfl
set_option maxRecDepth 100000 in
theorem lifted (os : Os) (started : os.Started) (H : Type) (enc : TypeId × Value → H) :
    ReturnsInHanded {} Tryd.checked os 15 .any (fun w args => (Rows.mediatypeMatchesSpec.pre enc Tryd.prog Tryd.f15 Rows.mediatypeMatchesRow.domain false w args ∧ laidMetH Tryd.prog Rows.mediatypeMatchesRow.laid w) ∧ sizedMet enc Tryd.prog Tryd.f15 (OpenSpec.ofChange Rows.mediatypeMatchesSpec) false w args) (Rows.mediatypeMatchesSpec.post enc Tryd.prog Tryd.f15 false true false false) := by
  refine returnsInHanded_of_change_and (C := Tryd.checked) (X := fun w _ => laidMetH Tryd.prog Rows.mediatypeMatchesRow.laid w) (fun _ _ _ hh h => h.of_heap hh) own started (by kernel_rfl) Tryd.func15
    (ChangeSpec.witness_shaped (enc := enc) (C := Tryd.checked) (os := os) (X := fun w _ => laidMetH Tryd.prog Rows.mediatypeMatchesRow.laid w) false (World.laidAll Tryd.prog os Rows.mediatypeMatchesRow.laid) #[.agg #[.string ByteArray.empty, .string ByteArray.empty, .slice none 0 0], .agg #[.string ByteArray.empty, .string ByteArray.empty, .slice none 0 0]] 8 (World.laidAll_os _ _ _)
      (wit_shaped os _) (by kernel_rfl) (by kernel_rfl) (by kernel_rfl)
      (wit_met os _)) ?_
  intro W base args ds gs before hval0 hW hcnd _ hL _
  have hval : ∀ (j : Nat) t v, Tryd.f15.params[j]? = some t → args[j]? = some v → Value.okWide Tryd.prog W .any base t v := hval0
  have hW' := hW
  obtain ⟨p, q, hA0, hV, rfl, hfz, hnd⟩ := hW
  have hA : DataW.TrodAll enc Tryd.prog W 0 (fun _ => true) true Tryd.f15.params.toList args.toList ds p := hA0
  rw [Tryd.params15] at hA hval
  obtain ⟨v0, vs0, d0, ds0, p0, q0, hargs, rfl, rfl, h0, r0⟩ := trodAll_cons hA
  obtain ⟨v1, vs1, d1, ds1, p1, q1, rfl, rfl, rfl, h1, r1⟩ := trodAll_cons r0
  obtain ⟨rfl, rfl, rfl⟩ := trodAll_nil r1
  obtain rfl : args = #[v0, v1] := by cases args; simp_all
  obtain ⟨rfl, rfl⟩ := trodVars_none hV
  obtain ⟨a0, b0, f0⟩ := open_agg (t := (.pair .str (.pair .str (.list (.pair .str .str))))) (opens_struct Tryd.underlying56 (by kernel_rfl) (opensF_cons rfl (by kernel_rfl) (opens_str Tryd.underlying9) rfl (opensF_cons rfl (by kernel_rfl) (opens_str Tryd.underlying9) rfl (opensF_one rfl (by kernel_rfl) (opens_list Tryd.underlying45 (by kernel_rfl) (opens_struct Tryd.underlying52 (by kernel_rfl) (opensF_cons rfl (by kernel_rfl) (opens_str Tryd.underlying9) rfl (opensF_one rfl (by kernel_rfl) (opens_str Tryd.underlying9))))))))) rfl Tryd.underlying56 (hval 0 56 v0 rfl rfl) h0
  obtain ⟨c0, e0, k0⟩ := b0
  obtain ⟨lv0, rfl, s0⟩ := repC_encL k0
  obtain rfl : v0 = .agg #[str (a0.1), str (a0.2.1), lv0.2.2] := e0
  obtain ⟨a1, b1, f1⟩ := open_agg (t := (.pair .str (.pair .str (.list (.pair .str .str))))) (opens_struct Tryd.underlying56 (by kernel_rfl) (opensF_cons rfl (by kernel_rfl) (opens_str Tryd.underlying9) rfl (opensF_cons rfl (by kernel_rfl) (opens_str Tryd.underlying9) rfl (opensF_one rfl (by kernel_rfl) (opens_list Tryd.underlying45 (by kernel_rfl) (opens_struct Tryd.underlying52 (by kernel_rfl) (opensF_cons rfl (by kernel_rfl) (opens_str Tryd.underlying9) rfl (opensF_one rfl (by kernel_rfl) (opens_str Tryd.underlying9))))))))) rfl Tryd.underlying56 (hval 1 56 v1 rfl rfl) h1
  obtain ⟨c1, e1, k1⟩ := b1
  obtain ⟨lv1, rfl, s1⟩ := repC_encL k1
  obtain rfl : v1 = .agg #[str (a1.1), str (a1.2.1), lv1.2.2] := e1
  clear hA0 hval0
  simp only [List.append_nil] at hW'
  have hcall := c_law10_MediatypeMatches a0 (lv0.2.2) a1 (lv1.2.2) (by have := f0.2.2.1; simp only [maxLen] at this; omega) (by have := f1.2.2.1; simp only [maxLen] at this; omega) W (Old W) [] ⟨fun _ h => h, List.nodup_nil, fun _ h => (List.not_mem_nil h).elim, fun _ h => (List.not_mem_nil h).elim⟩ (Sats.nil_append s0 (Sats.nil_append s1 rfl))
  refine hcall.mono fun e W' hE => ?_
  obtain ⟨_, I', m', rfl, hE, _⟩ := hE
  have bel : Below W.heap.size W W' := ⟨hE.os, hE.tape, hE.output, hE.size, fun k hk => hE.block k hk List.not_mem_nil⟩
  exact ⟨_, rfl, _, _, _, [], _, [], hW', trodAll_mk1 (shut_bool Tryd.underlying4 _), (trodAll_cons_mk (Below.trod pf_laid (by kernel_rfl) (of_decide_eq_true (by kernel_rfl)) h0 bel (fun x hx => hW'.lt x (by simp [hx]))) (trodAll_cons_mk (Below.trod pf_laid (by kernel_rfl) (of_decide_eq_true (by kernel_rfl)) h1 bel (fun x hx => hW'.lt x (by simp [hx]))) trodAll_mk0)), rfl, bel.frame _, fun h => by cases h⟩
end mediatypeMatches
theorem mediatypeMatches_f_inPlace : (Rows.mediatypeMatchesRow.inPlace == Tryd.prog.inPlace 15) = true := by kernel_rfl
theorem mediatypeMatches_f_unfollowed : (Rows.mediatypeMatchesRow.unfollowed == Tryd.prog.unfollowed 15) = true := by kernel_rfl
theorem mediatypeMatches_f_recurses : (Rows.mediatypeMatchesRow.recurses == Tryd.prog.recurses 15) = true := by kernel_rfl
theorem mediatypeMatches_f_named : (Rows.mediatypeMatchesRow.named == Tryd.prog.varsNamed 15) = true := by kernel_rfl
theorem mediatypeMatches_closed : joinedFacts Tryd.prog 15 Tryd.f15 Rows.mediatypeMatchesSpec Rows.mediatypeMatchesRow = true := by
  unfold joinedFacts
  rw [pf_laid, pf_maps, pf_stops, pf_knobs, pf_keys, pf_heard, pf_enter, pf_lifts, mediatypeMatches_f_inPlace, mediatypeMatches_f_unfollowed, mediatypeMatches_f_recurses, mediatypeMatches_f_named]
  kernel_rfl
theorem mediatypeMatches_named : Tryd.pinned.checked.prog.funcNamed Rows.mediatypeMatchesRow.func = some 15 := by kernel_rfl
theorem mediatypeMatches_inst : Tryd.f15.isInstance Tryd.pinned.checked.prog Rows.mediatypeMatchesRow.origin Rows.mediatypeMatchesRow.targs := of_decide_eq_true (by kernel_rfl)
theorem mediatypeMatches_wrap : Tryd.f15.isWrapper Tryd.pinned.checked.prog Rows.mediatypeMatchesRow.wrapper Rows.mediatypeMatchesRow.mainSum := by unfold Func.isWrapper; first | (rw [if_pos (by decide +kernel)]; kernel_rfl) | (rw [if_neg (by decide +kernel)]; exact ⟨rfl, rfl⟩)
theorem mediatypeMatches_over : Rows.mediatypeMatchesRow.holds Tryd.pinned (OpenSpec.ofChange Rows.mediatypeMatchesSpec) :=
  OpenClaim.holds_of_wide 15 Tryd.f15 rfl rfl rfl rfl rfl rfl rfl ⟨rfl, rfl, rfl, rfl, rfl⟩ rfl rfl rfl rfl rfl mediatypeMatches_named Tryd.func15 mediatypeMatches_closed
    mediatypeMatches_inst mediatypeMatches_wrap
    (fun os started H enc _ => mediatypeMatches.lifted os started H enc)
theorem mediatypeMatches_holds : Rows.MediatypeMatchesSaid := mediatypeMatches_over
#print axioms mediatypeMatches_holds
theorem mediatypeMatches_text : Rows.mediatypeMatchesRow.wfByText (OpenSpec.ofChange Rows.mediatypeMatchesSpec) = true := by kernel_rfl
theorem mediatypeMatches_goes : false = Rows.mediatypeMatchesRow.goesBy Tryd.pinned.checked.prog := by kernel_rfl
theorem mediatypeMatches_fn : Tryd.prog.funcNamed "variantproxy/variantproxylaw10.MediatypeMatches" = some 15 := by kernel_rfl
theorem mediatypeMatches_stand : ([56, 56].all fun u => !Tryd.prog.wantsStandIn u) = true := by kernel_rfl
theorem mediatypeMatches_card : Rows.MediatypeMatchesCardSaid :=
  Claim7.holds_tied_plain_at .later [] [.data, .pinned] true (true, "c9b1eb8fba350dd1439d07572b500f5884dfc217dbd421dc6546bbe65816ef19") false mediatypeMatches_over (fun _ h => by cases h) mediatypeMatches_text (fun _ h => by cases h) mediatypeMatches_row_tie rfl ⟨rfl, rfl⟩ pf_main rfl
    (fun f fn hf hfn => by
      obtain rfl : f = 15 := Option.some.inj (mediatypeMatches_fn.symm.trans hf) |>.symm
      obtain rfl : fn = Tryd.f15 := (Option.some.inj (Tryd.func15.symm.trans hfn)).symm
      exact ⟨pf_looks, fun j t ht => by
        rw [Tryd.params15] at ht
        have hm : t ∈ [56, 56] := by have := Array.mem_of_getElem? ht; simpa using this
        exact (show Tryd.prog.wantsStandIn t = false by simpa using List.all_eq_true.1 mediatypeMatches_stand t hm)⟩)
    mediatypeMatches_goes
#print axioms mediatypeMatches_card
end Go.Proofs.YtaicfjchbhnegaaDoor
