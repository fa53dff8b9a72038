/-
  StoreNil: for every input the law returns true, and each argument reads behind the call as it read before. No conditions.
-/
import Derived.Test.YtlniaacdjllonaaGreatRows
import Derived.Test.YtlniaacdjllonaaGreatWK16
import Derived.Test.YtlniaacdjllonaaGreatFacts
import Derived.WalkKit
import Derived.ProofKit
import Derived.OpenShut
import Derived.ShutString
namespace Go.Proofs.YtlniaacdjllonaaGreat
namespace storeNil
open Go.ChangeShapes Go.WideShapes Go.ChangeAt Go.RowKit
open Go.ChangeMaps (open_string shut_string)
open Go.Sep
set_option linter.unusedVariables false
set_option linter.unusedSimpArgs false
theorem own : ownKnob Tryz.prog.godebug = none := by kernel_rfl
set_option maxRecDepth 100000 in
theorem lifted (os : Os) (started : os.Started) (H : Type) (enc : TypeId × Value → H) :
    ReturnsInHanded {} Tryz.checked os 8 .any (Rows.storeNilSpec.pre6 enc Tryz.prog Tryz.f8 Rows.storeNilRow.domain false) (Rows.storeNilSpec.post enc Tryz.prog Tryz.f8 false true false false) := by
  refine returnsInHanded_of_change (C := Tryz.checked) own started (by kernel_rfl) Tryz.func8
    (ChangeSpec.witness6 (enc := enc) (C := Tryz.checked) false ⟨#[], #[.agg #[.int .i64 ((0 : Nat) : Int), .int .i64 ((0 : Nat) : Int), .int .i64 ((0 : Nat) : Int), .int .i64 ((0 : Nat) : Int), .slice none 0 0, .slice none 0 0, .slice none 0 0, .string ByteArray.empty, .slice none 0 0, .string ByteArray.empty, .int .i64 ((0 : Nat) : Int), .int .i64 ((0 : Nat) : Int), .slice none 0 0], .bool false], []⟩ 8 (by kernel_rfl) (by kernel_rfl) (by kernel_rfl) (by kernel_rfl)) ?_
  intro W base args ds gs before hval0 hW hcnd _
  have hval : ∀ (j : Nat) t v, Tryz.f8.params[j]? = some t → args[j]? = some v → Value.okWide Tryz.prog W .any base t v := hval0
  have hW' := hW
  obtain ⟨p, q, hA0, hV, rfl, hfz, hnd⟩ := hW
  have hA : DataW.TrodAll enc Tryz.prog W 0 (fun _ => true) true Tryz.f8.params.toList args.toList ds p := hA0
  rw [Tryz.params8] at hA hval
  obtain ⟨v0, vs0, d0, ds0, p0, q0, hargs, rfl, rfl, h0, r0⟩ := trodAll_cons hA
  obtain ⟨v1, vs1, d1, ds1, p1, q1, rfl, rfl, rfl, h1, r1⟩ := trodAll_cons r0
  obtain ⟨rfl, rfl, rfl⟩ := trodAll_nil r1
  obtain rfl : args = #[v0, v1] := by cases args; simp_all
  obtain ⟨rfl, rfl⟩ := trodVars_none hV
  obtain ⟨a0, b0, f0⟩ := open_agg (t := (.pair (.int .i64) (.pair (.int .i64) (.pair (.int .i64) (.pair (.int .i64) (.pair (.pair (.list (.list .str)) (.pair (.list .str) (.pair (.list .str) (.pair .str (.pair (.list (.pair .str .str)) (.pair .str (.pair (.int .i64) (.int .i64)))))))) (.list (.pair .str (.list .str))))))))) (opens_struct Tryz.underlying43 (by kernel_rfl) (opensF_cons rfl (by kernel_rfl) (opens_int Tryz.underlying3) rfl (opensF_cons rfl (by kernel_rfl) (opens_int Tryz.underlying3) rfl (opensF_cons rfl (by kernel_rfl) (opens_int Tryz.underlying3) rfl (opensF_cons rfl (by kernel_rfl) (opens_int Tryz.underlying3) rfl (opensF_cons rfl (by kernel_rfl) (opens_struct Tryz.underlying40 (by kernel_rfl) (opensF_cons rfl (by kernel_rfl) (opens_list Tryz.underlying37 (by kernel_rfl) (opens_list Tryz.underlying28 (by kernel_rfl) (opens_str Tryz.underlying9))) rfl (opensF_cons rfl (by kernel_rfl) (opens_list Tryz.underlying28 (by kernel_rfl) (opens_str Tryz.underlying9)) rfl (opensF_cons rfl (by kernel_rfl) (opens_list Tryz.underlying28 (by kernel_rfl) (opens_str Tryz.underlying9)) rfl (opensF_cons rfl (by kernel_rfl) (opens_str Tryz.underlying9) rfl (opensF_cons rfl (by kernel_rfl) (opens_list Tryz.underlying38 (by kernel_rfl) (opens_struct Tryz.underlying80 (by kernel_rfl) (opensF_cons rfl (by kernel_rfl) (opens_str Tryz.underlying9) rfl (opensF_one rfl (by kernel_rfl) (opens_str Tryz.underlying9))))) rfl (opensF_cons rfl (by kernel_rfl) (opens_str Tryz.underlying9) rfl (opensF_cons rfl (by kernel_rfl) (opens_int Tryz.underlying2) rfl (opensF_one rfl (by kernel_rfl) (opens_int Tryz.underlying2)))))))))) rfl (opensF_one rfl (by kernel_rfl) (opens_list Tryz.underlying41 (by kernel_rfl) (opens_struct Tryz.underlying83 (by kernel_rfl) (opensF_cons rfl (by kernel_rfl) (opens_str Tryz.underlying9) rfl (opensF_one rfl (by kernel_rfl) (opens_list Tryz.underlying28 (by kernel_rfl) (opens_str Tryz.underlying9))))))))))))) rfl Tryz.underlying43 (hval 0 43 v0 rfl rfl) h0
  obtain ⟨c0, e0, k0⟩ := b0
  obtain ⟨lv0, rfl, s0⟩ := repC_encL k0
  obtain rfl : v0 = .agg #[.int .i64 (a0.1), .int .i64 (a0.2.1), .int .i64 (a0.2.2.1), .int .i64 (a0.2.2.2.1), lv0.2.2.2.2.1.1, lv0.2.2.2.2.1.2.1, lv0.2.2.2.2.1.2.2.1, str (a0.2.2.2.2.1.2.2.2.1), lv0.2.2.2.2.1.2.2.2.2.1, str (a0.2.2.2.2.1.2.2.2.2.2.1), .int .i64 (a0.2.2.2.2.1.2.2.2.2.2.2.1), .int .i64 (a0.2.2.2.2.1.2.2.2.2.2.2.2), lv0.2.2.2.2.2] := e0
  obtain ⟨a1, rfl, rfl, rfl⟩ := open_bool Tryz.underlying4 (hval 1 4 v1 rfl rfl) h1
  clear hA0 hval0
  simp only [List.append_nil] at hW'
  have hcall := c_law28_StoreNil a0 (lv0.2.2.2.2.1.1) (lv0.2.2.2.2.1.2.1) (lv0.2.2.2.2.1.2.2.1) (lv0.2.2.2.2.1.2.2.2.2.1) (lv0.2.2.2.2.2) a1 (by have h := f0.2.2.2.2; exact ⟨⟨h.1.1.1, fun k hk => (h.1.1.2 k hk).1, h.1.2.1.1, h.1.2.2.1.1, h.1.2.2.2.2.1.1⟩, h.2.1, fun a ha => (h.2.2 a ha).2.1⟩)  W (Old W) [] ⟨fun _ h => h, List.nodup_nil, fun _ h => (List.not_mem_nil h).elim, fun _ h => (List.not_mem_nil h).elim⟩ (Sats.nil_append s0 rfl)
  refine hcall.mono fun e W' hE => ?_
  obtain ⟨_, I', m', rfl, hE, _⟩ := hE
  have bel : Below W.heap.size W W' := ⟨hE.os, hE.tape, hE.output, hE.size, fun k hk => hE.block k hk List.not_mem_nil⟩
  exact ⟨_, rfl, _, _, _, [], _, [], hW', trodAll_mk1 (shut_bool Tryz.underlying4 _), (trodAll_cons_mk (Below.trod pf_laid (by kernel_rfl) (of_decide_eq_true (by kernel_rfl)) h0 bel (fun x hx => hW'.lt x (by simp [hx]))) (trodAll_cons_mk (shut_bool Tryz.underlying4 a1) trodAll_mk0)), rfl, bel.frame _, fun h => by cases h⟩
end storeNil
theorem storeNil_f_inPlace : (Rows.storeNilRow.inPlace == Tryz.prog.inPlace 8) = true := by kernel_rfl
theorem storeNil_f_unfollowed : (Rows.storeNilRow.unfollowed == Tryz.prog.unfollowed 8) = true := by kernel_rfl
theorem storeNil_f_recurses : (Rows.storeNilRow.recurses == Tryz.prog.recurses 8) = true := by kernel_rfl
theorem storeNil_f_named : (Rows.storeNilRow.named == Tryz.prog.varsNamed 8) = true := by kernel_rfl
theorem storeNil_closed : joinedFacts Tryz.prog 8 Tryz.f8 Rows.storeNilSpec Rows.storeNilRow = true := by
  unfold joinedFacts
  rw [pf_laid, pf_maps, pf_stops, pf_knobs, pf_keys, pf_heard, pf_enter, pf_lifts, storeNil_f_inPlace, storeNil_f_unfollowed, storeNil_f_recurses, storeNil_f_named]
  kernel_rfl
theorem storeNil_named : Tryz.pinned.checked.prog.funcNamed Rows.storeNilRow.func = some 8 := by kernel_rfl
theorem storeNil_inst : Tryz.f8.isInstance Tryz.pinned.checked.prog Rows.storeNilRow.origin Rows.storeNilRow.targs := of_decide_eq_true (by kernel_rfl)
theorem storeNil_wrap : Tryz.f8.isWrapper Tryz.pinned.checked.prog Rows.storeNilRow.wrapper Rows.storeNilRow.mainSum := by unfold Func.isWrapper; first | (rw [if_pos (by decide +kernel)]; kernel_rfl) | (rw [if_neg (by decide +kernel)]; exact ⟨rfl, rfl⟩)
theorem storeNil_over : Rows.storeNilRow.holds Tryz.pinned (OpenSpec.ofChange Rows.storeNilSpec) :=
  OpenClaim.holds_of_wide 8 Tryz.f8 rfl rfl rfl rfl rfl rfl rfl ⟨rfl, rfl, rfl, rfl, rfl⟩ rfl rfl rfl rfl rfl storeNil_named Tryz.func8 storeNil_closed
    storeNil_inst storeNil_wrap
    (fun os started H enc _ => storeNil.lifted os started H enc)
theorem storeNil_holds : Rows.StoreNilSaid := storeNil_over
#print axioms storeNil_holds
end Go.Proofs.YtlniaacdjllonaaGreat
