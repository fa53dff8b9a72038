/-
  StoreRuns: for every input the law returns true, and each argument reads behind the call as it read before. No conditions.
-/
import Derived.Test.YtlniaacdjllonaaGreatRows
import Derived.Test.YtlniaacdjllonaaGreatGK38
import Derived.Test.YtlniaacdjllonaaGreatFacts
import Derived.WalkKit
import Derived.ProofKit
import Derived.OpenShut
import Derived.ShutString
namespace Go.Proofs.YtlniaacdjllonaaGreat
namespace storeRuns
open Go.ChangeShapes Go.WideShapes Go.ChangeAt Go.RowKit
open Go.ChangeMaps (open_string shut_string)
open Go.Sep
set_option linter.unusedVariables false
set_option linter.unusedSimpArgs false
theorem own : ownKnob Tryz.prog.godebug = none := by kernel_rfl
set_option maxRecDepth 100000 in
theorem lifted (os : Os) (started : os.Started) (H : Type) (enc : TypeId × Value → H) :
    ReturnsInHanded {} Tryz.checked os 4 .any (Rows.storeRunsSpec.pre6 enc Tryz.prog Tryz.f4 Rows.storeRunsRow.domain false) (Rows.storeRunsSpec.post enc Tryz.prog Tryz.f4 false true false false) := by
  refine returnsInHanded_of_change (C := Tryz.checked) own started (by kernel_rfl) Tryz.func4
    (ChangeSpec.witness6 (enc := enc) (C := Tryz.checked) false ⟨#[], #[.int .i64 0, .int .i64 0, .int .i64 0, .slice none 0 0], []⟩ 8 (by kernel_rfl) (by kernel_rfl) (by kernel_rfl) (by kernel_rfl)) ?_
  intro W base args ds gs before hval0 hW hcnd _
  have hval : ∀ (j : Nat) t v, Tryz.f4.params[j]? = some t → args[j]? = some v → Value.okWide Tryz.prog W .any base t v := hval0
  have hW' := hW
  obtain ⟨p, q, hA0, hV, rfl, hfz, hnd⟩ := hW
  have hA : DataW.TrodAll enc Tryz.prog W 0 (fun _ => true) true Tryz.f4.params.toList args.toList ds p := hA0
  rw [Tryz.params4] at hA hval
  obtain ⟨v0, vs0, d0, ds0, p0, q0, hargs, rfl, rfl, h0, r0⟩ := trodAll_cons hA
  obtain ⟨v1, vs1, d1, ds1, p1, q1, rfl, rfl, rfl, h1, r1⟩ := trodAll_cons r0
  obtain ⟨v2, vs2, d2, ds2, p2, q2, rfl, rfl, rfl, h2, r2⟩ := trodAll_cons r1
  obtain ⟨v3, vs3, d3, ds3, p3, q3, rfl, rfl, rfl, h3, r3⟩ := trodAll_cons r2
  obtain ⟨rfl, rfl, rfl⟩ := trodAll_nil r3
  obtain rfl : args = #[v0, v1, v2, v3] := by cases args; simp_all
  obtain ⟨rfl, rfl⟩ := trodVars_none hV
  obtain ⟨a0, rfl, rfl, rfl, w0⟩ := open_int Tryz.underlying3 (hval 0 3 v0 rfl rfl) h0
  obtain ⟨a1, rfl, rfl, rfl, w1⟩ := open_int Tryz.underlying3 (hval 1 3 v1 rfl rfl) h1
  obtain ⟨a2, rfl, rfl, rfl, w2⟩ := open_int Tryz.underlying3 (hval 2 3 v2 rfl rfl) h2
  obtain ⟨a3, b3, m3, f3⟩ := open_list (qm Tryz.underlying31 (by kernel_rfl) (w6 Tryz.underlying43 (by kernel_rfl) (YM rfl (by kernel_rfl) (We Tryz.underlying3) rfl (YM rfl (by kernel_rfl) (We Tryz.underlying3) rfl (YM rfl (by kernel_rfl) (We Tryz.underlying3) rfl (YM rfl (by kernel_rfl) (We Tryz.underlying3) rfl (YM rfl (by kernel_rfl) (w6 Tryz.underlying40 (by kernel_rfl) (YM rfl (by kernel_rfl) (qm Tryz.underlying37 (by kernel_rfl) (qm Tryz.underlying28 (by kernel_rfl) (qz Tryz.underlying9))) rfl (YM rfl (by kernel_rfl) (qm Tryz.underlying28 (by kernel_rfl) (qz Tryz.underlying9)) rfl (YM rfl (by kernel_rfl) (qm Tryz.underlying28 (by kernel_rfl) (qz Tryz.underlying9)) rfl (YM rfl (by kernel_rfl) (qz Tryz.underlying9) rfl (YM rfl (by kernel_rfl) (qm Tryz.underlying38 (by kernel_rfl) (w6 Tryz.underlying80 (by kernel_rfl) (YM rfl (by kernel_rfl) (qz Tryz.underlying9) rfl (opensF_one rfl (by kernel_rfl) (qz Tryz.underlying9))))) rfl (YM rfl (by kernel_rfl) (qz Tryz.underlying9) rfl (YM rfl (by kernel_rfl) (We Tryz.underlying2) rfl (opensF_one rfl (by kernel_rfl) (We Tryz.underlying2)))))))))) rfl (opensF_one rfl (by kernel_rfl) (qm Tryz.underlying41 (by kernel_rfl) (w6 Tryz.underlying83 (by kernel_rfl) (YM rfl (by kernel_rfl) (qz Tryz.underlying9) rfl (opensF_one rfl (by kernel_rfl) (qm Tryz.underlying28 (by kernel_rfl) (qz Tryz.underlying9)))))))))))))) Tryz.underlying31 (hval 3 31 v3 rfl rfl) h3
  clear hA0 hval0
  simp only [List.append_nil] at hW'
  have hcall := c_law28_StoreRuns a0 a1 a2 a3 v3 (by have := m3; simp only [maxLen] at this; omega) (fun o ho => by have h := (f3.2 o ho).2.2.2.2; exact ⟨⟨h.1.1.1, fun k hk => (h.1.1.2 k hk).1, h.1.2.1.1, h.1.2.2.1.1, h.1.2.2.2.2.1.1⟩, h.2.1, fun a ha => (h.2.2 a ha).2.1⟩)  W (Old W) [] ⟨fun _ h => h, List.nodup_nil, fun _ h => (List.not_mem_nil h).elim, fun _ h => (List.not_mem_nil h).elim⟩ (Sats.nil_append (As := [.imm (.list (.pair (.int .i64) (.pair (.int .i64) (.pair (.int .i64) (.pair (.int .i64) (.pair (.pair (.list (.list .str)) (.pair (.list .str) (.pair (.list .str) (.pair .str (.pair (.list (.pair .str .str)) (.pair .str (.pair (.int .i64) (.int .i64)))))))) (.list (.pair .str (.list .str))))))))) v3 a3]) ⟨[], [], rfl, ⟨rfl, b3⟩, rfl⟩ rfl)
  refine hcall.mono fun e W' hE => ?_
  obtain ⟨_, I', m', rfl, hE, _⟩ := hE
  have bel : Below W.heap.size W W' := ⟨hE.os, hE.tape, hE.output, hE.size, fun k hk => hE.block k hk List.not_mem_nil⟩
  exact ⟨_, rfl, _, _, _, [], _, [], hW', trodAll_mk1 (shut_bool Tryz.underlying4 _), (trodAll_cons_mk (shut_int Tryz.underlying3 w0) (trodAll_cons_mk (shut_int Tryz.underlying3 w1) (trodAll_cons_mk (shut_int Tryz.underlying3 w2) (trodAll_cons_mk (Below.trod pf_laid (by kernel_rfl) (of_decide_eq_true (by kernel_rfl)) h3 bel (fun x hx => hW'.lt x (by simp [hx]))) trodAll_mk0)))), rfl, bel.frame _, fun h => by cases h⟩
end storeRuns
theorem storeRuns_f_inPlace : (Rows.storeRunsRow.inPlace == Tryz.prog.inPlace 4) = true := by kernel_rfl
theorem storeRuns_f_unfollowed : (Rows.storeRunsRow.unfollowed == Tryz.prog.unfollowed 4) = true := by kernel_rfl
theorem storeRuns_f_recurses : (Rows.storeRunsRow.recurses == Tryz.prog.recurses 4) = true := by kernel_rfl
theorem storeRuns_f_named : (Rows.storeRunsRow.named == Tryz.prog.varsNamed 4) = true := by kernel_rfl
theorem storeRuns_closed : joinedFacts Tryz.prog 4 Tryz.f4 Rows.storeRunsSpec Rows.storeRunsRow = true := by
  unfold joinedFacts
  rw [pf_laid, pf_maps, pf_stops, pf_knobs, pf_keys, pf_heard, pf_enter, pf_lifts, storeRuns_f_inPlace, storeRuns_f_unfollowed, storeRuns_f_recurses, storeRuns_f_named]
  kernel_rfl
theorem storeRuns_named : Tryz.pinned.checked.prog.funcNamed Rows.storeRunsRow.func = some 4 := by kernel_rfl
theorem storeRuns_inst : Tryz.f4.isInstance Tryz.pinned.checked.prog Rows.storeRunsRow.origin Rows.storeRunsRow.targs := of_decide_eq_true (by kernel_rfl)
theorem storeRuns_wrap : Tryz.f4.isWrapper Tryz.pinned.checked.prog Rows.storeRunsRow.wrapper Rows.storeRunsRow.mainSum := by unfold Func.isWrapper; first | (rw [if_pos (by decide +kernel)]; kernel_rfl) | (rw [if_neg (by decide +kernel)]; exact ⟨rfl, rfl⟩)
theorem storeRuns_over : Rows.storeRunsRow.holds Tryz.pinned (OpenSpec.ofChange Rows.storeRunsSpec) :=
  OpenClaim.holds_of_wide 4 Tryz.f4 rfl rfl rfl rfl rfl rfl rfl ⟨rfl, rfl, rfl, rfl, rfl⟩ rfl rfl rfl rfl rfl storeRuns_named Tryz.func4 storeRuns_closed
    storeRuns_inst storeRuns_wrap
    (fun os started H enc _ => storeRuns.lifted os started H enc)
theorem storeRuns_holds : Rows.StoreRunsSaid := storeRuns_over
#print axioms storeRuns_holds
end Go.Proofs.YtlniaacdjllonaaGreat
