/-
  StoreCopies: for every input the law returns true, and each argument reads behind the call as it read before. No conditions.
-/
import Derived.Test.YtlniaacdjllonaaGreatRows
import Derived.Test.YtlniaacdjllonaaGreatZK15
import Derived.Test.YtlniaacdjllonaaGreatFacts
import Derived.WalkKit
import Derived.ProofKit
import Derived.OpenShut
import Derived.ShutString
namespace Go.Proofs.YtlniaacdjllonaaGreat
namespace storeCopies
open Go.ChangeShapes Go.WideShapes Go.ChangeAt Go.RowKit
open Go.ChangeMaps (open_string shut_string)
open Go.Sep
set_option linter.unusedVariables false
set_option linter.unusedSimpArgs false
theorem own : ownKnob Tryz.prog.godebug = none := by kernel_rfl
set_option maxRecDepth 100000 in
theorem lifted (os : Os) (started : os.Started) (H : Type) (enc : TypeId × Value → H) :
    ReturnsInHanded {} Tryz.checked os 7 .any (Rows.storeCopiesSpec.pre6 enc Tryz.prog Tryz.f7 Rows.storeCopiesRow.domain false) (Rows.storeCopiesSpec.post enc Tryz.prog Tryz.f7 false true false false) := by
  refine returnsInHanded_of_change (C := Tryz.checked) own started (by kernel_rfl) Tryz.func7
    (ChangeSpec.witness6 (enc := enc) (C := Tryz.checked) false ⟨#[], #[.int .i64 0, .agg #[.int .i64 ((0 : Nat) : Int), .int .i64 ((0 : Nat) : Int), .int .i64 ((0 : Nat) : Int), .int .i64 ((0 : Nat) : Int), .slice none 0 0, .slice none 0 0, .slice none 0 0, .string ByteArray.empty, .slice none 0 0, .string ByteArray.empty, .int .i64 ((0 : Nat) : Int), .int .i64 ((0 : Nat) : Int), .slice none 0 0], .slice none 0 0], []⟩ 8 (by kernel_rfl) (by kernel_rfl) (by kernel_rfl) (by kernel_rfl)) ?_
  intro W base args ds gs before hval0 hW hcnd _
  have hval : ∀ (j : Nat) t v, Tryz.f7.params[j]? = some t → args[j]? = some v → Value.okWide Tryz.prog W .any base t v := hval0
  have hW' := hW
  obtain ⟨p, q, hA0, hV, rfl, hfz, hnd⟩ := hW
  have hA : DataW.TrodAll enc Tryz.prog W 0 (fun _ => true) true Tryz.f7.params.toList args.toList ds p := hA0
  rw [Tryz.params7] at hA hval
  obtain ⟨v0, vs0, d0, ds0, p0, q0, hargs, rfl, rfl, h0, r0⟩ := trodAll_cons hA
  obtain ⟨v1, vs1, d1, ds1, p1, q1, rfl, rfl, rfl, h1, r1⟩ := trodAll_cons r0
  obtain ⟨v2, vs2, d2, ds2, p2, q2, rfl, rfl, rfl, h2, r2⟩ := trodAll_cons r1
  obtain ⟨rfl, rfl, rfl⟩ := trodAll_nil r2
  obtain rfl : args = #[v0, v1, v2] := by cases args; simp_all
  obtain ⟨rfl, rfl⟩ := trodVars_none hV
  obtain ⟨a0, rfl, rfl, rfl, w0⟩ := open_int Tryz.underlying3 (hval 0 3 v0 rfl rfl) h0
  obtain ⟨a1, b1, f1⟩ := open_agg (t := (.pair (.int .i64) (.pair (.int .i64) (.pair (.int .i64) (.pair (.int .i64) (.pair (.pair (.list (.list .str)) (.pair (.list .str) (.pair (.list .str) (.pair .str (.pair (.list (.pair .str .str)) (.pair .str (.pair (.int .i64) (.int .i64)))))))) (.list (.pair .str (.list .str))))))))) (opens_struct Tryz.underlying43 (by kernel_rfl) (opensF_cons rfl (by kernel_rfl) (opens_int Tryz.underlying3) rfl (opensF_cons rfl (by kernel_rfl) (opens_int Tryz.underlying3) rfl (opensF_cons rfl (by kernel_rfl) (opens_int Tryz.underlying3) rfl (opensF_cons rfl (by kernel_rfl) (opens_int Tryz.underlying3) rfl (opensF_cons rfl (by kernel_rfl) (opens_struct Tryz.underlying40 (by kernel_rfl) (opensF_cons rfl (by kernel_rfl) (opens_list Tryz.underlying37 (by kernel_rfl) (opens_list Tryz.underlying28 (by kernel_rfl) (opens_str Tryz.underlying9))) rfl (opensF_cons rfl (by kernel_rfl) (opens_list Tryz.underlying28 (by kernel_rfl) (opens_str Tryz.underlying9)) rfl (opensF_cons rfl (by kernel_rfl) (opens_list Tryz.underlying28 (by kernel_rfl) (opens_str Tryz.underlying9)) rfl (opensF_cons rfl (by kernel_rfl) (opens_str Tryz.underlying9) rfl (opensF_cons rfl (by kernel_rfl) (opens_list Tryz.underlying38 (by kernel_rfl) (opens_struct Tryz.underlying80 (by kernel_rfl) (opensF_cons rfl (by kernel_rfl) (opens_str Tryz.underlying9) rfl (opensF_one rfl (by kernel_rfl) (opens_str Tryz.underlying9))))) rfl (opensF_cons rfl (by kernel_rfl) (opens_str Tryz.underlying9) rfl (opensF_cons rfl (by kernel_rfl) (opens_int Tryz.underlying2) rfl (opensF_one rfl (by kernel_rfl) (opens_int Tryz.underlying2)))))))))) rfl (opensF_one rfl (by kernel_rfl) (opens_list Tryz.underlying41 (by kernel_rfl) (opens_struct Tryz.underlying83 (by kernel_rfl) (opensF_cons rfl (by kernel_rfl) (opens_str Tryz.underlying9) rfl (opensF_one rfl (by kernel_rfl) (opens_list Tryz.underlying28 (by kernel_rfl) (opens_str Tryz.underlying9))))))))))))) rfl Tryz.underlying43 (hval 1 43 v1 rfl rfl) h1
  obtain ⟨c1, e1, k1⟩ := b1
  obtain ⟨lv1, rfl, s1⟩ := repC_encL k1
  obtain rfl : v1 = .agg #[.int .i64 (a1.1), .int .i64 (a1.2.1), .int .i64 (a1.2.2.1), .int .i64 (a1.2.2.2.1), lv1.2.2.2.2.1.1, lv1.2.2.2.2.1.2.1, lv1.2.2.2.2.1.2.2.1, str (a1.2.2.2.2.1.2.2.2.1), lv1.2.2.2.2.1.2.2.2.2.1, str (a1.2.2.2.2.1.2.2.2.2.2.1), .int .i64 (a1.2.2.2.2.1.2.2.2.2.2.2.1), .int .i64 (a1.2.2.2.2.1.2.2.2.2.2.2.2), lv1.2.2.2.2.2] := e1
  obtain ⟨a2, b2, m2, f2⟩ := open_list (opens_list Tryz.underlying31 (by kernel_rfl) (opens_struct Tryz.underlying43 (by kernel_rfl) (opensF_cons rfl (by kernel_rfl) (opens_int Tryz.underlying3) rfl (opensF_cons rfl (by kernel_rfl) (opens_int Tryz.underlying3) rfl (opensF_cons rfl (by kernel_rfl) (opens_int Tryz.underlying3) rfl (opensF_cons rfl (by kernel_rfl) (opens_int Tryz.underlying3) rfl (opensF_cons rfl (by kernel_rfl) (opens_struct Tryz.underlying40 (by kernel_rfl) (opensF_cons rfl (by kernel_rfl) (opens_list Tryz.underlying37 (by kernel_rfl) (opens_list Tryz.underlying28 (by kernel_rfl) (opens_str Tryz.underlying9))) rfl (opensF_cons rfl (by kernel_rfl) (opens_list Tryz.underlying28 (by kernel_rfl) (opens_str Tryz.underlying9)) rfl (opensF_cons rfl (by kernel_rfl) (opens_list Tryz.underlying28 (by kernel_rfl) (opens_str Tryz.underlying9)) rfl (opensF_cons rfl (by kernel_rfl) (opens_str Tryz.underlying9) rfl (opensF_cons rfl (by kernel_rfl) (opens_list Tryz.underlying38 (by kernel_rfl) (opens_struct Tryz.underlying80 (by kernel_rfl) (opensF_cons rfl (by kernel_rfl) (opens_str Tryz.underlying9) rfl (opensF_one rfl (by kernel_rfl) (opens_str Tryz.underlying9))))) rfl (opensF_cons rfl (by kernel_rfl) (opens_str Tryz.underlying9) rfl (opensF_cons rfl (by kernel_rfl) (opens_int Tryz.underlying2) rfl (opensF_one rfl (by kernel_rfl) (opens_int Tryz.underlying2)))))))))) rfl (opensF_one rfl (by kernel_rfl) (opens_list Tryz.underlying41 (by kernel_rfl) (opens_struct Tryz.underlying83 (by kernel_rfl) (opensF_cons rfl (by kernel_rfl) (opens_str Tryz.underlying9) rfl (opensF_one rfl (by kernel_rfl) (opens_list Tryz.underlying28 (by kernel_rfl) (opens_str Tryz.underlying9)))))))))))))) Tryz.underlying31 (hval 2 31 v2 rfl rfl) h2
  clear hA0 hval0
  simp only [List.append_nil] at hW'
  have hcall := c_law28_StoreCopies a0 a1 (lv1.2.2.2.2.1.1) (lv1.2.2.2.2.1.2.1) (lv1.2.2.2.2.1.2.2.1) (lv1.2.2.2.2.1.2.2.2.2.1) (lv1.2.2.2.2.2) a2 v2 (by have := m2; simp only [maxLen] at this; omega) (fun o ho => by have h := (f2.2 o ho).2.2.2.2; exact ⟨⟨h.1.1.1, fun k hk => (h.1.1.2 k hk).1, h.1.2.1.1, h.1.2.2.1.1, h.1.2.2.2.2.1.1⟩, h.2.1, fun a ha => (h.2.2 a ha).2.1⟩) (by have h := f1.2.2.2.2; exact ⟨⟨h.1.1.1, fun k hk => (h.1.1.2 k hk).1, h.1.2.1.1, h.1.2.2.1.1, h.1.2.2.2.2.1.1⟩, h.2.1, fun a ha => (h.2.2 a ha).2.1⟩)  W (Old W) [] ⟨fun _ h => h, List.nodup_nil, fun _ h => (List.not_mem_nil h).elim, fun _ h => (List.not_mem_nil h).elim⟩ (Sats.nil_append s1 (Sats.nil_append (As := [.imm (.list (.pair (.int .i64) (.pair (.int .i64) (.pair (.int .i64) (.pair (.int .i64) (.pair (.pair (.list (.list .str)) (.pair (.list .str) (.pair (.list .str) (.pair .str (.pair (.list (.pair .str .str)) (.pair .str (.pair (.int .i64) (.int .i64)))))))) (.list (.pair .str (.list .str))))))))) v2 a2]) ⟨[], [], rfl, ⟨rfl, b2⟩, rfl⟩ rfl))
  refine hcall.mono fun e W' hE => ?_
  obtain ⟨_, I', m', rfl, hE, _⟩ := hE
  have bel : Below W.heap.size W W' := ⟨hE.os, hE.tape, hE.output, hE.size, fun k hk => hE.block k hk List.not_mem_nil⟩
  exact ⟨_, rfl, _, _, _, [], _, [], hW', trodAll_mk1 (shut_bool Tryz.underlying4 _), (trodAll_cons_mk (shut_int Tryz.underlying3 w0) (trodAll_cons_mk (Below.trod pf_laid (by kernel_rfl) (of_decide_eq_true (by kernel_rfl)) h1 bel (fun x hx => hW'.lt x (by simp [hx]))) (trodAll_cons_mk (Below.trod pf_laid (by kernel_rfl) (of_decide_eq_true (by kernel_rfl)) h2 bel (fun x hx => hW'.lt x (by simp [hx]))) trodAll_mk0))), rfl, bel.frame _, fun h => by cases h⟩
end storeCopies
theorem storeCopies_f_inPlace : (Rows.storeCopiesRow.inPlace == Tryz.prog.inPlace 7) = true := by kernel_rfl
theorem storeCopies_f_unfollowed : (Rows.storeCopiesRow.unfollowed == Tryz.prog.unfollowed 7) = true := by kernel_rfl
theorem storeCopies_f_recurses : (Rows.storeCopiesRow.recurses == Tryz.prog.recurses 7) = true := by kernel_rfl
theorem storeCopies_f_named : (Rows.storeCopiesRow.named == Tryz.prog.varsNamed 7) = true := by kernel_rfl
theorem storeCopies_closed : joinedFacts Tryz.prog 7 Tryz.f7 Rows.storeCopiesSpec Rows.storeCopiesRow = true := by
  unfold joinedFacts
  rw [pf_laid, pf_maps, pf_stops, pf_knobs, pf_keys, pf_heard, pf_enter, pf_lifts, storeCopies_f_inPlace, storeCopies_f_unfollowed, storeCopies_f_recurses, storeCopies_f_named]
  kernel_rfl
theorem storeCopies_named : Tryz.pinned.checked.prog.funcNamed Rows.storeCopiesRow.func = some 7 := by kernel_rfl
theorem storeCopies_inst : Tryz.f7.isInstance Tryz.pinned.checked.prog Rows.storeCopiesRow.origin Rows.storeCopiesRow.targs := of_decide_eq_true (by kernel_rfl)
theorem storeCopies_wrap : Tryz.f7.isWrapper Tryz.pinned.checked.prog Rows.storeCopiesRow.wrapper Rows.storeCopiesRow.mainSum := by unfold Func.isWrapper; first | (rw [if_pos (by decide +kernel)]; kernel_rfl) | (rw [if_neg (by decide +kernel)]; exact ⟨rfl, rfl⟩)
theorem storeCopies_over : Rows.storeCopiesRow.holds Tryz.pinned (OpenSpec.ofChange Rows.storeCopiesSpec) :=
  OpenClaim.holds_of_wide 7 Tryz.f7 rfl rfl rfl rfl rfl rfl rfl ⟨rfl, rfl, rfl, rfl, rfl⟩ rfl rfl rfl rfl rfl storeCopies_named Tryz.func7 storeCopies_closed
    storeCopies_inst storeCopies_wrap
    (fun os started H enc _ => storeCopies.lifted os started H enc)
theorem storeCopies_holds : Rows.StoreCopiesSaid := storeCopies_over
#print axioms storeCopies_holds
end Go.Proofs.YtlniaacdjllonaaGreat
