/-
  LookupFresh: for every input the law returns true, and each argument reads behind the call as it read before. No conditions.
-/
import Derived.Test.YtfcidkjpebalkaaGreatDoorRows
import Derived.Test.YtfcidkjpebalkaaGreatDoorCK27
import Derived.Test.YtfcidkjpebalkaaGreatDoorFacts
import Derived.Test.YtfcidkjpebalkaaGreatDoorWit
import Derived.Test.YtfcidkjpebalkaaGreatDoorCards
import Derived.Test.YtfcidkjpebalkaaGreatDoorTie
import Derived.WalkKit
import Derived.ProofKit
import Derived.OpenShut
import Derived.ShutString
import Derived.LaidMore
import Derived.Lay
import Derived.SevenTiedAt
import Derived.Stop.Joined
namespace Go.Proofs.YtfcidkjpebalkaaGreatDoor
namespace lookupFresh
open Go.ChangeShapes Go.WideShapes Go.ChangeAt Go.RowKit
open Go.ChangeMaps (open_string shut_string)
open Go.Sep
set_option linter.unusedVariables false
set_option linter.unusedSimpArgs false
theorem own : ownKnob Tryz.prog.godebug = none := by kernel_rfl
set_option maxRecDepth 100000 in
theorem lifted (os : Os) (started : os.Started) (H : Type) (enc : TypeId × Value → H) :
    ReturnsInHanded {} Tryz.checked os 5 .any (fun w args => (Rows.lookupFreshSpec.pre enc Tryz.prog Tryz.f5 Rows.lookupFreshRow.domain false w args ∧ laidMetH Tryz.prog Rows.lookupFreshRow.laid w) ∧ sizedMet enc Tryz.prog Tryz.f5 (OpenSpec.ofChange Rows.lookupFreshSpec) false w args) (Rows.lookupFreshSpec.post enc Tryz.prog Tryz.f5 false true false false) := by
  refine returnsInHanded_of_change_and (C := Tryz.checked) (X := fun w _ => laidMetH Tryz.prog Rows.lookupFreshRow.laid w) (fun _ _ _ hh h => h.of_heap hh) own started (by kernel_rfl) Tryz.func5
    (ChangeSpec.witness_shaped (enc := enc) (C := Tryz.checked) (os := os) (X := fun w _ => laidMetH Tryz.prog Rows.lookupFreshRow.laid w) false (World.laidAll Tryz.prog os Rows.lookupFreshRow.laid) #[.agg #[.slice none 0 0, .slice none 0 0], .agg #[.string ByteArray.empty, .string ByteArray.empty, .int .i64 ((0 : Nat) : Int), .slice none 0 0, .string ByteArray.empty], .int .i64 0, .agg #[.string ByteArray.empty, .int .i64 ((0 : Nat) : Int), .int .i64 ((0 : Nat) : Int), .int .i64 ((0 : Nat) : Int), .bool (false), .bool (false)]] 8 (World.laidAll_os _ _ _)
      (wit_shaped os _) (by kernel_rfl) (by kernel_rfl) (by kernel_rfl)
      (wit_met os _)) ?_
  intro W base args ds gs before hval0 hW hcnd _ hL _
  have hval : ∀ (j : Nat) t v, Tryz.f5.params[j]? = some t → args[j]? = some v → Value.okWide Tryz.prog W .any base t v := hval0
  have hW' := hW
  obtain ⟨p, q, hA0, hV, rfl, hfz, hnd⟩ := hW
  have hA : DataW.TrodAll enc Tryz.prog W 0 (fun _ => true) true Tryz.f5.params.toList args.toList ds p := hA0
  rw [Tryz.params5] at hA hval
  obtain ⟨v0, vs0, d0, ds0, p0, q0, hargs, rfl, rfl, h0, r0⟩ := trodAll_cons hA
  obtain ⟨v1, vs1, d1, ds1, p1, q1, rfl, rfl, rfl, h1, r1⟩ := trodAll_cons r0
  obtain ⟨v2, vs2, d2, ds2, p2, q2, rfl, rfl, rfl, h2, r2⟩ := trodAll_cons r1
  obtain ⟨v3, vs3, d3, ds3, p3, q3, rfl, rfl, rfl, h3, r3⟩ := trodAll_cons r2
  obtain ⟨rfl, rfl, rfl⟩ := trodAll_nil r3
  obtain rfl : args = #[v0, v1, v2, v3] := by cases args; simp_all
  obtain ⟨rfl, rfl⟩ := trodVars_none hV
  obtain ⟨a0, b0, f0⟩ := open_agg (t := (.pair (.list (.pair .str (.list .str))) (.list (.pair (.list (.list .str)) (.pair (.list .str) (.pair (.list .str) (.pair .str (.pair (.list (.pair .str .str)) (.pair .str (.pair (.int .i64) (.int .i64))))))))))) (ZW Tryz.underlying25 (by kernel_rfl) (zI rfl (by kernel_rfl) (ZX Tryz.underlying22 (by kernel_rfl) (ZW Tryz.underlying77 (by kernel_rfl) (zI rfl (by kernel_rfl) (YO Tryz.underlying9) rfl (qJ rfl (by kernel_rfl) (ZX Tryz.underlying35 (by kernel_rfl) (YO Tryz.underlying9)))))) rfl (qJ rfl (by kernel_rfl) (ZX Tryz.underlying23 (by kernel_rfl) (ZW Tryz.underlying37 (by kernel_rfl) (zI rfl (by kernel_rfl) (ZX Tryz.underlying34 (by kernel_rfl) (ZX Tryz.underlying35 (by kernel_rfl) (YO Tryz.underlying9))) rfl (zI rfl (by kernel_rfl) (ZX Tryz.underlying35 (by kernel_rfl) (YO Tryz.underlying9)) rfl (zI rfl (by kernel_rfl) (ZX Tryz.underlying35 (by kernel_rfl) (YO Tryz.underlying9)) rfl (zI rfl (by kernel_rfl) (YO Tryz.underlying9) rfl (zI rfl (by kernel_rfl) (ZX Tryz.underlying26 (by kernel_rfl) (ZW Tryz.underlying57 (by kernel_rfl) (zI rfl (by kernel_rfl) (YO Tryz.underlying9) rfl (qJ rfl (by kernel_rfl) (YO Tryz.underlying9))))) rfl (zI rfl (by kernel_rfl) (YO Tryz.underlying9) rfl (zI rfl (by kernel_rfl) (Wf Tryz.underlying2) rfl (qJ rfl (by kernel_rfl) (Wf Tryz.underlying2)))))))))))))) rfl Tryz.underlying25 (hval 0 25 v0 rfl rfl) h0
  obtain ⟨c0, e0, k0⟩ := b0
  obtain ⟨lv0, rfl, s0⟩ := Wd k0
  obtain rfl : v0 = .agg #[lv0.1, lv0.2] := e0
  obtain ⟨a1, b1, f1⟩ := open_agg (t := (.pair .str (.pair .str (.pair (.int .i64) (.pair (.list (.pair .str .str)) .str))))) (ZW Tryz.underlying28 (by kernel_rfl) (zI rfl (by kernel_rfl) (YO Tryz.underlying9) rfl (zI rfl (by kernel_rfl) (YO Tryz.underlying9) rfl (zI rfl (by kernel_rfl) (Wf Tryz.underlying3) rfl (zI rfl (by kernel_rfl) (ZX Tryz.underlying26 (by kernel_rfl) (ZW Tryz.underlying57 (by kernel_rfl) (zI rfl (by kernel_rfl) (YO Tryz.underlying9) rfl (qJ rfl (by kernel_rfl) (YO Tryz.underlying9))))) rfl (qJ rfl (by kernel_rfl) (YO Tryz.underlying9))))))) rfl Tryz.underlying28 (hval 1 28 v1 rfl rfl) h1
  obtain ⟨c1, e1, k1⟩ := b1
  obtain ⟨lv1, rfl, s1⟩ := Wd k1
  obtain rfl : v1 = .agg #[str (a1.1), str (a1.2.1), .int .i64 (a1.2.2.1), lv1.2.2.2.1, str (a1.2.2.2.2)] := e1
  obtain ⟨a2, rfl, rfl, rfl, w2⟩ := open_int Tryz.underlying2 (hval 2 2 v2 rfl rfl) h2
  obtain ⟨a3, b3, f3⟩ := open_agg (t := (.pair .str (.pair (.int .i64) (.pair (.int .i64) (.pair (.int .i64) (.pair .bool .bool)))))) (ZW Tryz.underlying30 (by kernel_rfl) (zI rfl (by kernel_rfl) (YO Tryz.underlying9) rfl (zI rfl (by kernel_rfl) (Wf Tryz.underlying3) rfl (zI rfl (by kernel_rfl) (Wf Tryz.underlying3) rfl (zI rfl (by kernel_rfl) (Wf Tryz.underlying3) rfl (zI rfl (by kernel_rfl) (opens_bool Tryz.underlying4) rfl (qJ rfl (by kernel_rfl) (opens_bool Tryz.underlying4)))))))) rfl Tryz.underlying30 (hval 3 30 v3 rfl rfl) h3
  obtain ⟨c3, e3, k3⟩ := b3
  obtain rfl : v3 = .agg #[str (a3.1), .int .i64 (a3.2.1), .int .i64 (a3.2.2.1), .int .i64 (a3.2.2.2.1), .bool (a3.2.2.2.2.1), .bool (a3.2.2.2.2.2)] := by rw [e3, (Y4 rfl).1 k3]; rfl
  clear hA0 hval0
  simp only [List.append_nil] at hW'
  have hcall := c_law30_LookupFresh a0 (lv0.1) (lv0.2) a1 (lv1.2.2.2.1) a2 a3 (f0.2.1) (fun en hen => by have h := f0.2.2 en hen; exact ⟨h.1.1, fun k hk => (h.1.2 k hk).1, h.2.1.1, h.2.2.1.1, h.2.2.2.2.1.1⟩) (f0.1.1) (fun a ha => (f0.1.2 a ha).2.1) (f1.2.2.2.1.1) W (Old W) [] ⟨fun _ h => h, List.nodup_nil, fun _ h => (List.not_mem_nil h).elim, fun _ h => (List.not_mem_nil h).elim⟩ (Sats.nil_append s0 (Sats.nil_append s1 rfl))
  refine hcall.mono fun e W' hE => ?_
  obtain ⟨_, I', m', rfl, hE, _⟩ := hE
  have bel : Below W.heap.size W W' := ⟨hE.os, hE.tape, hE.output, hE.size, fun k hk => hE.block k hk List.not_mem_nil⟩
  exact ⟨_, rfl, _, _, _, [], _, [], hW', trodAll_mk1 (shut_bool Tryz.underlying4 _), (trodAll_cons_mk (Below.trod pf_laid (by kernel_rfl) (of_decide_eq_true (by kernel_rfl)) h0 bel (fun x hx => hW'.lt x (by simp [hx]))) (trodAll_cons_mk (Below.trod pf_laid (by kernel_rfl) (of_decide_eq_true (by kernel_rfl)) h1 bel (fun x hx => hW'.lt x (by simp [hx]))) (trodAll_cons_mk (shut_int Tryz.underlying2 w2) (trodAll_cons_mk (Below.trod pf_laid (by kernel_rfl) (of_decide_eq_true (by kernel_rfl)) h3 bel (fun x hx => hW'.lt x (by simp [hx]))) trodAll_mk0)))), rfl, bel.frame _, fun h => by cases h⟩
end lookupFresh
theorem lookupFresh_f_inPlace : (Rows.lookupFreshRow.inPlace == Tryz.prog.inPlace 5) = true := by kernel_rfl
theorem lookupFresh_f_unfollowed : (Rows.lookupFreshRow.unfollowed == Tryz.prog.unfollowed 5) = true := by kernel_rfl
theorem lookupFresh_f_recurses : (Rows.lookupFreshRow.recurses == Tryz.prog.recurses 5) = true := by kernel_rfl
theorem lookupFresh_f_named : (Rows.lookupFreshRow.named == Tryz.prog.varsNamed 5) = true := by kernel_rfl
theorem lookupFresh_closed : joinedFacts Tryz.prog 5 Tryz.f5 Rows.lookupFreshSpec Rows.lookupFreshRow = true := by
  unfold joinedFacts
  rw [pf_laid, pf_maps, pf_stops, pf_knobs, pf_keys, pf_heard, pf_enter, pf_lifts, lookupFresh_f_inPlace, lookupFresh_f_unfollowed, lookupFresh_f_recurses, lookupFresh_f_named]
  kernel_rfl
theorem lookupFresh_named : Tryz.pinned.checked.prog.funcNamed Rows.lookupFreshRow.func = some 5 := by kernel_rfl
theorem lookupFresh_inst : Tryz.f5.isInstance Tryz.pinned.checked.prog Rows.lookupFreshRow.origin Rows.lookupFreshRow.targs := of_decide_eq_true (by kernel_rfl)
theorem lookupFresh_wrap : Tryz.f5.isWrapper Tryz.pinned.checked.prog Rows.lookupFreshRow.wrapper Rows.lookupFreshRow.mainSum := by unfold Func.isWrapper; first | (rw [if_pos (by decide +kernel)]; kernel_rfl) | (rw [if_neg (by decide +kernel)]; exact ⟨rfl, rfl⟩)
theorem lookupFresh_over : Rows.lookupFreshRow.holds Tryz.pinned (OpenSpec.ofChange Rows.lookupFreshSpec) :=
  OpenClaim.holds_of_wide 5 Tryz.f5 rfl rfl rfl rfl rfl rfl rfl ⟨rfl, rfl, rfl, rfl, rfl⟩ rfl rfl rfl rfl rfl lookupFresh_named Tryz.func5 lookupFresh_closed
    lookupFresh_inst lookupFresh_wrap
    (fun os started H enc _ => lookupFresh.lifted os started H enc)
theorem lookupFresh_holds : Rows.LookupFreshSaid := lookupFresh_over
#print axioms lookupFresh_holds
theorem lookupFresh_text : Rows.lookupFreshRow.wfByText (OpenSpec.ofChange Rows.lookupFreshSpec) = true := by kernel_rfl
theorem lookupFresh_goes : false = Rows.lookupFreshRow.goesBy Tryz.pinned.checked.prog := by kernel_rfl
theorem lookupFresh_fn : Tryz.prog.funcNamed "variantproxy/variantproxylaw30.LookupFresh" = some 5 := by kernel_rfl
theorem lookupFresh_stand : ([25, 28, 2, 30].all fun u => !Tryz.prog.wantsStandIn u) = true := by kernel_rfl
theorem lookupFresh_card : Rows.LookupFreshCardSaid :=
  Claim7.holds_tied_plain_at .later [] [.data, .pinned] true (true, "6bf70af1dba189e8938b38a5d76dc23586737c5eca55d4435bd98339120c4aa1") false lookupFresh_over (fun _ h => by cases h) lookupFresh_text (fun _ h => by cases h) lookupFresh_row_tie rfl ⟨rfl, rfl⟩ pf_main rfl
    (fun f fn hf hfn => by
      obtain rfl : f = 5 := Option.some.inj (lookupFresh_fn.symm.trans hf) |>.symm
      obtain rfl : fn = Tryz.f5 := (Option.some.inj (Tryz.func5.symm.trans hfn)).symm
      exact ⟨pf_looks, fun j t ht => by
        rw [Tryz.params5] at ht
        have hm : t ∈ [25, 28, 2, 30] := by have := Array.mem_of_getElem? ht; simpa using this
        exact (show Tryz.prog.wantsStandIn t = false by simpa using List.all_eq_true.1 lookupFresh_stand t hm)⟩)
    lookupFresh_goes
#print axioms lookupFresh_card
end Go.Proofs.YtfcidkjpebalkaaGreatDoor
