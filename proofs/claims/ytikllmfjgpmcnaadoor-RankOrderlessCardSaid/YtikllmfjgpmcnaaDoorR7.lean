/-
  RankOrderless: for every input the law returns true, and each argument reads behind the call as it read before. No conditions.
-/
import Derived.Test.YtikllmfjgpmcnaaDoorRows
import Derived.Test.YtikllmfjgpmcnaaDoorL19
import Derived.Test.YtikllmfjgpmcnaaDoorOpens
import Derived.Test.YtikllmfjgpmcnaaDoorFacts
import Derived.Test.YtikllmfjgpmcnaaDoorWit
import Derived.Test.YtikllmfjgpmcnaaDoorCards
import Derived.Test.YtikllmfjgpmcnaaDoorTie
import Derived.WalkKit
import Derived.ProofKit
import Derived.OpenShut
import Derived.ShutString
import Derived.LaidMore
import Derived.Lay
import Derived.SevenTiedAt
import Derived.Stop.Joined
namespace Go.Proofs.YtikllmfjgpmcnaaDoor
namespace rankOrderless
open Go.ChangeShapes Go.WideShapes Go.ChangeAt Go.RowKit
open Go.ChangeMaps (open_string shut_string)
open Go.Sep
set_option linter.unusedVariables false
set_option linter.unusedSimpArgs false
theorem own : ownKnob Tryd.prog.godebug = none := by kernel_rfl
set_option maxRecDepth 100000 in
theorem lifted (os : Os) (started : os.Started) (H : Type) (enc : TypeId × Value → H) :
    ReturnsInHanded {} Tryd.checked os 8 .any (fun w args => (Rows.rankOrderlessSpec.pre enc Tryd.prog Tryd.f8 Rows.rankOrderlessRow.domain false w args ∧ laidMetH Tryd.prog Rows.rankOrderlessRow.laid w) ∧ sizedMet enc Tryd.prog Tryd.f8 (OpenSpec.ofChange Rows.rankOrderlessSpec) false w args) (Rows.rankOrderlessSpec.post enc Tryd.prog Tryd.f8 false true false false) := by
  refine returnsInHanded_of_change_and (C := Tryd.checked) (X := fun w _ => laidMetH Tryd.prog Rows.rankOrderlessRow.laid w) (fun _ _ _ hh h => h.of_heap hh) own started (by kernel_rfl) Tryd.func8
    (ChangeSpec.witness_shaped (enc := enc) (C := Tryd.checked) (os := os) (X := fun w _ => laidMetH Tryd.prog Rows.rankOrderlessRow.laid w) false (World.laidAll Tryd.prog os Rows.rankOrderlessRow.laid) #[.int .i64 0, .slice none 0 0, .int .i64 0, .int .i64 0, .string ByteArray.empty] 8 (World.laidAll_os _ _ _)
      (wit_shaped os _) (by kernel_rfl) (by kernel_rfl) (by kernel_rfl)
      (wit_met os _)) ?_
  intro W base args ds gs before hval0 hW hcnd _ hL _
  have hval : ∀ (j : Nat) t v, Tryd.f8.params[j]? = some t → args[j]? = some v → Value.okWide Tryd.prog W .any base t v := hval0
  have hW' := hW
  obtain ⟨p, q, hA0, hV, rfl, hfz, hnd⟩ := hW
  have hA : DataW.TrodAll enc Tryd.prog W 0 (fun _ => true) true Tryd.f8.params.toList args.toList ds p := hA0
  rw [Tryd.params8] at hA hval
  obtain ⟨v0, vs0, d0, ds0, p0, q0, hargs, rfl, rfl, h0, r0⟩ := trodAll_cons hA
  obtain ⟨v1, vs1, d1, ds1, p1, q1, rfl, rfl, rfl, h1, r1⟩ := trodAll_cons r0
  obtain ⟨v2, vs2, d2, ds2, p2, q2, rfl, rfl, rfl, h2, r2⟩ := trodAll_cons r1
  obtain ⟨v3, vs3, d3, ds3, p3, q3, rfl, rfl, rfl, h3, r3⟩ := trodAll_cons r2
  obtain ⟨v4, vs4, d4, ds4, p4, q4, rfl, rfl, rfl, h4, r4⟩ := trodAll_cons r3
  obtain ⟨rfl, rfl, rfl⟩ := trodAll_nil r4
  obtain rfl : args = #[v0, v1, v2, v3, v4] := by cases args; simp_all
  obtain ⟨rfl, rfl⟩ := trodVars_none hV
  obtain ⟨a0, rfl, rfl, rfl, w0⟩ := open_int Tryd.underlying3 (hval 0 3 v0 rfl rfl) h0
  obtain ⟨a1, b1, m1, f1⟩ := open_list (opens_list Tryd.underlying25 (by kernel_rfl) (opens_struct Tryd.underlying45 (by kernel_rfl) (opensF_cons rfl (by kernel_rfl) (opens_str Tryd.underlying9) rfl (opensF_one rfl (by kernel_rfl) (opens_int Tryd.underlying3))))) Tryd.underlying25 (hval 1 25 v1 rfl rfl) h1
  obtain ⟨a2, rfl, rfl, rfl, w2⟩ := open_int Tryd.underlying3 (hval 2 3 v2 rfl rfl) h2
  obtain ⟨a3, rfl, rfl, rfl, w3⟩ := open_int Tryd.underlying3 (hval 3 3 v3 rfl rfl) h3
  obtain ⟨a4, rfl, rfl, rfl, w4⟩ := open_string Tryd.underlying9 (hval 4 9 v4 rfl rfl) h4
  clear hA0 hval0
  simp only [List.append_nil] at hW'
  have hcall := c_law14_RankOrderless a0 a1 v1 a2 a3 a4.data.toList (by have := m1; simp only [maxLen] at this; omega) W (Old W) [] ⟨fun _ h => h, List.nodup_nil, fun _ h => (List.not_mem_nil h).elim, fun _ h => (List.not_mem_nil h).elim⟩ (Sats.nil_append (As := [.imm (.list (.pair .str (.int .i64))) v1 a1]) ⟨[], [], rfl, ⟨rfl, b1⟩, rfl⟩ rfl)
  simp only [str_data] at hcall
  refine hcall.mono fun e W' hE => ?_
  obtain ⟨_, I', m', rfl, hE, _⟩ := hE
  have bel : Below W.heap.size W W' := ⟨hE.os, hE.tape, hE.output, hE.size, fun k hk => hE.block k hk List.not_mem_nil⟩
  exact ⟨_, rfl, _, _, _, [], _, [], hW', trodAll_mk1 (shut_bool Tryd.underlying4 _), (trodAll_cons_mk (shut_int Tryd.underlying3 w0) (trodAll_cons_mk (Below.trod pf_laid (by kernel_rfl) (of_decide_eq_true (by kernel_rfl)) h1 bel (fun x hx => hW'.lt x (by simp [hx]))) (trodAll_cons_mk (shut_int Tryd.underlying3 w2) (trodAll_cons_mk (shut_int Tryd.underlying3 w3) (trodAll_cons_mk (shut_string Tryd.underlying9 w4) trodAll_mk0))))), rfl, bel.frame _, fun h => by cases h⟩
end rankOrderless
theorem rankOrderless_f_inPlace : (Rows.rankOrderlessRow.inPlace == Tryd.prog.inPlace 8) = true := by kernel_rfl
theorem rankOrderless_f_unfollowed : (Rows.rankOrderlessRow.unfollowed == Tryd.prog.unfollowed 8) = true := by kernel_rfl
theorem rankOrderless_f_recurses : (Rows.rankOrderlessRow.recurses == Tryd.prog.recurses 8) = true := by kernel_rfl
theorem rankOrderless_f_named : (Rows.rankOrderlessRow.named == Tryd.prog.varsNamed 8) = true := by kernel_rfl
theorem rankOrderless_closed : joinedFacts Tryd.prog 8 Tryd.f8 Rows.rankOrderlessSpec Rows.rankOrderlessRow = true := by
  unfold joinedFacts
  rw [pf_laid, pf_maps, pf_stops, pf_knobs, pf_keys, pf_heard, pf_enter, pf_lifts, rankOrderless_f_inPlace, rankOrderless_f_unfollowed, rankOrderless_f_recurses, rankOrderless_f_named]
  kernel_rfl
theorem rankOrderless_named : Tryd.pinned.checked.prog.funcNamed Rows.rankOrderlessRow.func = some 8 := by kernel_rfl
theorem rankOrderless_inst : Tryd.f8.isInstance Tryd.pinned.checked.prog Rows.rankOrderlessRow.origin Rows.rankOrderlessRow.targs := of_decide_eq_true (by kernel_rfl)
theorem rankOrderless_wrap : Tryd.f8.isWrapper Tryd.pinned.checked.prog Rows.rankOrderlessRow.wrapper Rows.rankOrderlessRow.mainSum := by unfold Func.isWrapper; first | (rw [if_pos (by decide +kernel)]; kernel_rfl) | (rw [if_neg (by decide +kernel)]; exact ⟨rfl, rfl⟩)
theorem rankOrderless_over : Rows.rankOrderlessRow.holds Tryd.pinned (OpenSpec.ofChange Rows.rankOrderlessSpec) :=
  OpenClaim.holds_of_wide 8 Tryd.f8 rfl rfl rfl rfl rfl rfl rfl ⟨rfl, rfl, rfl, rfl, rfl⟩ rfl rfl rfl rfl rfl rankOrderless_named Tryd.func8 rankOrderless_closed
    rankOrderless_inst rankOrderless_wrap
    (fun os started H enc _ => rankOrderless.lifted os started H enc)
theorem rankOrderless_holds : Rows.RankOrderlessSaid := rankOrderless_over
#print axioms rankOrderless_holds
theorem rankOrderless_text : Rows.rankOrderlessRow.wfByText (OpenSpec.ofChange Rows.rankOrderlessSpec) = true := by kernel_rfl
theorem rankOrderless_goes : false = Rows.rankOrderlessRow.goesBy Tryd.pinned.checked.prog := by kernel_rfl
theorem rankOrderless_fn : Tryd.prog.funcNamed "variantproxy/variantproxylaw14.RankOrderless" = some 8 := by kernel_rfl
theorem rankOrderless_stand : ([3, 25, 3, 3, 9].all fun u => !Tryd.prog.wantsStandIn u) = true := by kernel_rfl
theorem rankOrderless_card : Rows.RankOrderlessCardSaid :=
  Claim7.holds_tied_plain_at .later [] [.data, .pinned] true (true, "afe76c3eaaf1f6da5f234db97120ee7a851f0076f1417e3a9c9fc355ac6d38f8") false rankOrderless_over (fun _ h => by cases h) rankOrderless_text (fun _ h => by cases h) rankOrderless_row_tie rfl ⟨rfl, rfl⟩ pf_main rfl
    (fun f fn hf hfn => by
      obtain rfl : f = 8 := Option.some.inj (rankOrderless_fn.symm.trans hf) |>.symm
      obtain rfl : fn = Tryd.f8 := (Option.some.inj (Tryd.func8.symm.trans hfn)).symm
      exact ⟨pf_looks, fun j t ht => by
        rw [Tryd.params8] at ht
        have hm : t ∈ [3, 25, 3, 3, 9] := by have := Array.mem_of_getElem? ht; simpa using this
        exact (show Tryd.prog.wantsStandIn t = false by simpa using List.all_eq_true.1 rankOrderless_stand t hm)⟩)
    rankOrderless_goes
#print axioms rankOrderless_card
end Go.Proofs.YtikllmfjgpmcnaaDoor
