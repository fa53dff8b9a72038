/-
  LookupDecides: for every input the law returns true, and each argument reads behind the call as it read before. No conditions.
-/
import Derived.Test.YtfcidkjpebalkaaGreatDoorRows
import Derived.Test.YtfcidkjpebalkaaGreatDoorAK27
import Derived.Test.YtfcidkjpebalkaaGreatDoorFacts
import Derived.Test.YtfcidkjpebalkaaGreatDoorWit
import Derived.Test.YtfcidkjpebalkaaGreatDoorCards
import Derived.Test.YtfcidkjpebalkaaGreatDoorTie
import Derived.WalkKit
import Derived.ProofKit
import Derived.OpenShut
import Derived.ShutString
import Derived.LaidMore
import Derived.Lay
import Derived.SevenTiedAt
import Derived.Stop.Joined
namespace Go.Proofs.YtfcidkjpebalkaaGreatDoor
namespace lookupDecides
open Go.ChangeShapes Go.WideShapes Go.ChangeAt Go.RowKit
open Go.ChangeMaps (open_string shut_string)
open Go.Sep
set_option linter.unusedVariables false
set_option linter.unusedSimpArgs false
theorem own : ownKnob Tryz.prog.godebug = none := by kernel_rfl
set_option maxRecDepth 100000 in
theorem lifted (os : Os) (started : os.Started) (H : Type) (enc : TypeId × Value → H) :
    ReturnsInHanded {} Tryz.checked os 3 .any (fun w args => (Rows.lookupDecidesSpec.pre enc Tryz.prog Tryz.f3 Rows.lookupDecidesRow.domain false w args ∧ laidMetH Tryz.prog Rows.lookupDecidesRow.laid w) ∧ sizedMet enc Tryz.prog Tryz.f3 (OpenSpec.ofChange Rows.lookupDecidesSpec) false w args) (Rows.lookupDecidesSpec.post enc Tryz.prog Tryz.f3 false true false false) := by
  refine returnsInHanded_of_change_and (C := Tryz.checked) (X := fun w _ => laidMetH Tryz.prog Rows.lookupDecidesRow.laid w) (fun _ _ _ hh h => h.of_heap hh) own started (by kernel_rfl) Tryz.func3
    (ChangeSpec.witness_shaped (enc := enc) (C := Tryz.checked) (os := os) (X := fun w _ => laidMetH Tryz.prog Rows.lookupDecidesRow.laid w) false (World.laidAll Tryz.prog os Rows.lookupDecidesRow.laid) #[.agg #[.slice none 0 0, .slice none 0 0], .agg #[.string ByteArray.empty, .string ByteArray.empty, .int .i64 ((0 : Nat) : Int), .slice none 0 0, .string ByteArray.empty], .int .i64 0, .agg #[.string ByteArray.empty, .int .i64 ((0 : Nat) : Int), .int .i64 ((0 : Nat) : Int), .int .i64 ((0 : Nat) : Int), .bool (false), .bool (false)]] 8 (World.laidAll_os _ _ _)
      (wit_shaped os _) (by kernel_rfl) (by kernel_rfl) (by kernel_rfl)
      (wit_met os _)) ?_
  intro W base args ds gs before hval0 hW hcnd _ hL _
  have hval : ∀ (j : Nat) t v, Tryz.f3.params[j]? = some t → args[j]? = some v → Value.okWide Tryz.prog W .any base t v := hval0
  have hW' := hW
  obtain ⟨p, q, hA0, hV, rfl, hfz, hnd⟩ := hW
  have hA : DataW.TrodAll enc Tryz.prog W 0 (fun _ => true) true Tryz.f3.params.toList args.toList ds p := hA0
  rw [Tryz.params3] at hA hval
  obtain ⟨v0, vs0, d0, ds0, p0, q0, hargs, rfl, rfl, h0, r0⟩ := trodAll_cons hA
  obtain ⟨v1, vs1, d1, ds1, p1, q1, rfl, rfl, rfl, h1, r1⟩ := trodAll_cons r0
  obtain ⟨v2, vs2, d2, ds2, p2, q2, rfl, rfl, rfl, h2, r2⟩ := trodAll_cons r1
  obtain ⟨v3, vs3, d3, ds3, p3, q3, rfl, rfl, rfl, h3, r3⟩ := trodAll_cons r2
  obtain ⟨rfl, rfl, rfl⟩ := trodAll_nil r3
  obtain rfl : args = #[v0, v1, v2, v3] := by cases args; simp_all
  obtain ⟨rfl, rfl⟩ := trodVars_none hV
  obtain ⟨a0, b0, f0⟩ := open_agg (t := (.pair (.list (.pair .str (.list .str))) (.list (.pair (.list (.list .str)) (.pair (.list .str) (.pair (.list .str) (.pair .str (.pair (.list (.pair .str .str)) (.pair .str (.pair (.int .i64) (.int .i64))))))))))) (qM Tryz.underlying25 (by kernel_rfl) (Yc rfl (by kernel_rfl) (qN Tryz.underlying22 (by kernel_rfl) (qM Tryz.underlying77 (by kernel_rfl) (Yc rfl (by kernel_rfl) (Zu Tryz.underlying9) rfl (wN rfl (by kernel_rfl) (qN Tryz.underlying35 (by kernel_rfl) (Zu Tryz.underlying9)))))) rfl (wN rfl (by kernel_rfl) (qN Tryz.underlying23 (by kernel_rfl) (qM Tryz.underlying37 (by kernel_rfl) (Yc rfl (by kernel_rfl) (qN Tryz.underlying34 (by kernel_rfl) (qN Tryz.underlying35 (by kernel_rfl) (Zu Tryz.underlying9))) rfl (Yc rfl (by kernel_rfl) (qN Tryz.underlying35 (by kernel_rfl) (Zu Tryz.underlying9)) rfl (Yc rfl (by kernel_rfl) (qN Tryz.underlying35 (by kernel_rfl) (Zu Tryz.underlying9)) rfl (Yc rfl (by kernel_rfl) (Zu Tryz.underlying9) rfl (Yc rfl (by kernel_rfl) (qN Tryz.underlying26 (by kernel_rfl) (qM Tryz.underlying57 (by kernel_rfl) (Yc rfl (by kernel_rfl) (Zu Tryz.underlying9) rfl (wN rfl (by kernel_rfl) (Zu Tryz.underlying9))))) rfl (Yc rfl (by kernel_rfl) (Zu Tryz.underlying9) rfl (Yc rfl (by kernel_rfl) (Qj Tryz.underlying2) rfl (wN rfl (by kernel_rfl) (Qj Tryz.underlying2)))))))))))))) rfl Tryz.underlying25 (hval 0 25 v0 rfl rfl) h0
  obtain ⟨c0, e0, k0⟩ := b0
  obtain ⟨lv0, rfl, s0⟩ := Qi k0
  obtain rfl : v0 = .agg #[lv0.1, lv0.2] := e0
  obtain ⟨a1, b1, f1⟩ := open_agg (t := (.pair .str (.pair .str (.pair (.int .i64) (.pair (.list (.pair .str .str)) .str))))) (qM Tryz.underlying28 (by kernel_rfl) (Yc rfl (by kernel_rfl) (Zu Tryz.underlying9) rfl (Yc rfl (by kernel_rfl) (Zu Tryz.underlying9) rfl (Yc rfl (by kernel_rfl) (Qj Tryz.underlying3) rfl (Yc rfl (by kernel_rfl) (qN Tryz.underlying26 (by kernel_rfl) (qM Tryz.underlying57 (by kernel_rfl) (Yc rfl (by kernel_rfl) (Zu Tryz.underlying9) rfl (wN rfl (by kernel_rfl) (Zu Tryz.underlying9))))) rfl (wN rfl (by kernel_rfl) (Zu Tryz.underlying9))))))) rfl Tryz.underlying28 (hval 1 28 v1 rfl rfl) h1
  obtain ⟨c1, e1, k1⟩ := b1
  obtain ⟨lv1, rfl, s1⟩ := Qi k1
  obtain rfl : v1 = .agg #[str (a1.1), str (a1.2.1), .int .i64 (a1.2.2.1), lv1.2.2.2.1, str (a1.2.2.2.2)] := e1
  obtain ⟨a2, rfl, rfl, rfl, w2⟩ := open_int Tryz.underlying2 (hval 2 2 v2 rfl rfl) h2
  obtain ⟨a3, b3, f3⟩ := open_agg (t := (.pair .str (.pair (.int .i64) (.pair (.int .i64) (.pair (.int .i64) (.pair .bool .bool)))))) (qM Tryz.underlying30 (by kernel_rfl) (Yc rfl (by kernel_rfl) (Zu Tryz.underlying9) rfl (Yc rfl (by kernel_rfl) (Qj Tryz.underlying3) rfl (Yc rfl (by kernel_rfl) (Qj Tryz.underlying3) rfl (Yc rfl (by kernel_rfl) (Qj Tryz.underlying3) rfl (Yc rfl (by kernel_rfl) (opens_bool Tryz.underlying4) rfl (wN rfl (by kernel_rfl) (opens_bool Tryz.underlying4)))))))) rfl Tryz.underlying30 (hval 3 30 v3 rfl rfl) h3
  obtain ⟨c3, e3, k3⟩ := b3
  obtain rfl : v3 = .agg #[str (a3.1), .int .i64 (a3.2.1), .int .i64 (a3.2.2.1), .int .i64 (a3.2.2.2.1), .bool (a3.2.2.2.2.1), .bool (a3.2.2.2.2.2)] := by rw [e3, (ZJ rfl).1 k3]; rfl
  clear hA0 hval0
  simp only [List.append_nil] at hW'
  have hcall := c_law30_LookupDecides a0 (lv0.1) (lv0.2) a1 (lv1.2.2.2.1) a2 a3 (f0.2.1) (fun en hen => by have h := f0.2.2 en hen; exact ⟨h.1.1, fun k hk => (h.1.2 k hk).1, h.2.1.1, h.2.2.1.1, h.2.2.2.2.1.1⟩) (f0.1.1) (fun a ha => (f0.1.2 a ha).2.1) (f1.2.2.2.1.1) W (Old W) [] ⟨fun _ h => h, List.nodup_nil, fun _ h => (List.not_mem_nil h).elim, fun _ h => (List.not_mem_nil h).elim⟩ (Sats.nil_append s0 (Sats.nil_append s1 rfl))
  refine hcall.mono fun e W' hE => ?_
  obtain ⟨_, I', m', rfl, hE, _⟩ := hE
  have bel : Below W.heap.size W W' := ⟨hE.os, hE.tape, hE.output, hE.size, fun k hk => hE.block k hk List.not_mem_nil⟩
  exact ⟨_, rfl, _, _, _, [], _, [], hW', trodAll_mk1 (shut_bool Tryz.underlying4 _), (trodAll_cons_mk (Below.trod pf_laid (by kernel_rfl) (of_decide_eq_true (by kernel_rfl)) h0 bel (fun x hx => hW'.lt x (by simp [hx]))) (trodAll_cons_mk (Below.trod pf_laid (by kernel_rfl) (of_decide_eq_true (by kernel_rfl)) h1 bel (fun x hx => hW'.lt x (by simp [hx]))) (trodAll_cons_mk (shut_int Tryz.underlying2 w2) (trodAll_cons_mk (Below.trod pf_laid (by kernel_rfl) (of_decide_eq_true (by kernel_rfl)) h3 bel (fun x hx => hW'.lt x (by simp [hx]))) trodAll_mk0)))), rfl, bel.frame _, fun h => by cases h⟩
end lookupDecides
theorem lookupDecides_f_inPlace : (Rows.lookupDecidesRow.inPlace == Tryz.prog.inPlace 3) = true := by kernel_rfl
theorem lookupDecides_f_unfollowed : (Rows.lookupDecidesRow.unfollowed == Tryz.prog.unfollowed 3) = true := by kernel_rfl
theorem lookupDecides_f_recurses : (Rows.lookupDecidesRow.recurses == Tryz.prog.recurses 3) = true := by kernel_rfl
theorem lookupDecides_f_named : (Rows.lookupDecidesRow.named == Tryz.prog.varsNamed 3) = true := by kernel_rfl
theorem lookupDecides_closed : joinedFacts Tryz.prog 3 Tryz.f3 Rows.lookupDecidesSpec Rows.lookupDecidesRow = true := by
  unfold joinedFacts
  rw [pf_laid, pf_maps, pf_stops, pf_knobs, pf_keys, pf_heard, pf_enter, pf_lifts, lookupDecides_f_inPlace, lookupDecides_f_unfollowed, lookupDecides_f_recurses, lookupDecides_f_named]
  kernel_rfl
theorem lookupDecides_named : Tryz.pinned.checked.prog.funcNamed Rows.lookupDecidesRow.func = some 3 := by kernel_rfl
theorem lookupDecides_inst : Tryz.f3.isInstance Tryz.pinned.checked.prog Rows.lookupDecidesRow.origin Rows.lookupDecidesRow.targs := of_decide_eq_true (by kernel_rfl)
theorem lookupDecides_wrap : Tryz.f3.isWrapper Tryz.pinned.checked.prog Rows.lookupDecidesRow.wrapper Rows.lookupDecidesRow.mainSum := by unfold Func.isWrapper; first | (rw [if_pos (by decide +kernel)]; kernel_rfl) | (rw [if_neg (by decide +kernel)]; exact ⟨rfl, rfl⟩)
theorem lookupDecides_over : Rows.lookupDecidesRow.holds Tryz.pinned (OpenSpec.ofChange Rows.lookupDecidesSpec) :=
  OpenClaim.holds_of_wide 3 Tryz.f3 rfl rfl rfl rfl rfl rfl rfl ⟨rfl, rfl, rfl, rfl, rfl⟩ rfl rfl rfl rfl rfl lookupDecides_named Tryz.func3 lookupDecides_closed
    lookupDecides_inst lookupDecides_wrap
    (fun os started H enc _ => lookupDecides.lifted os started H enc)
theorem lookupDecides_holds : Rows.LookupDecidesSaid := lookupDecides_over
#print axioms lookupDecides_holds
theorem lookupDecides_text : Rows.lookupDecidesRow.wfByText (OpenSpec.ofChange Rows.lookupDecidesSpec) = true := by kernel_rfl
theorem lookupDecides_goes : false = Rows.lookupDecidesRow.goesBy Tryz.pinned.checked.prog := by kernel_rfl
theorem lookupDecides_fn : Tryz.prog.funcNamed "variantproxy/variantproxylaw30.LookupDecides" = some 3 := by kernel_rfl
theorem lookupDecides_stand : ([25, 28, 2, 30].all fun u => !Tryz.prog.wantsStandIn u) = true := by kernel_rfl
theorem lookupDecides_card : Rows.LookupDecidesCardSaid :=
  Claim7.holds_tied_plain_at .later [] [.data, .pinned] true (true, "6bf70af1dba189e8938b38a5d76dc23586737c5eca55d4435bd98339120c4aa1") false lookupDecides_over (fun _ h => by cases h) lookupDecides_text (fun _ h => by cases h) lookupDecides_row_tie rfl ⟨rfl, rfl⟩ pf_main rfl
    (fun f fn hf hfn => by
      obtain rfl : f = 3 := Option.some.inj (lookupDecides_fn.symm.trans hf) |>.symm
      obtain rfl : fn = Tryz.f3 := (Option.some.inj (Tryz.func3.symm.trans hfn)).symm
      exact ⟨pf_looks, fun j t ht => by
        rw [Tryz.params3] at ht
        have hm : t ∈ [25, 28, 2, 30] := by have := Array.mem_of_getElem? ht; simpa using this
        exact (show Tryz.prog.wantsStandIn t = false by simpa using List.all_eq_true.1 lookupDecides_stand t hm)⟩)
    lookupDecides_goes
#print axioms lookupDecides_card
end Go.Proofs.YtfcidkjpebalkaaGreatDoor
