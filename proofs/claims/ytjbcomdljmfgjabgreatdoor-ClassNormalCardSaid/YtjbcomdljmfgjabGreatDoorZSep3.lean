/-
  The rules of the calculus for calls through function values that take memory, and for remainders with a sign. No program in sight. No conditions.
  The rules of the calculus for own rows of slices: made, written, read. No program in sight. No conditions.
-/
import Derived.Test.YtjbcomdljmfgjabGreatDoorZSep2
namespace Go.Sep
open Go
set_option linter.unusedVariables false
set_option linter.unusedSimpArgs false
section ops
variable {c : Cx} {L : List (Nat × Value)} {As R : List Asn} {Q : Exit → Act → World → Prop} {K : Act → World → Prop} {ops : Array Oper} {rest : List Oper} {T : TypeId} {pos : String} {aft : Array Edge} {gd : Option (Nat × Bool)}
/-! ### Calls that look at memory of one's own while they run -/
/-- What a call may be shown: what lasts, or an own row, an own variable, as long as the call runs. -/
def Peek (As : List Asn) (B : Asn) : Prop := (B.pers = true ∧ B ∈ As) ∨ (∃ v E t xs, B = .imm (.list t) v xs ∧ Asn.row v E t xs ∈ As) ∨ (∃ b T cs, B = .ibox b T cs ∧ Asn.box b T cs ∈ As)
def HasQ (As : List Asn) : List Asn → Prop
  | [] => True
  | B :: Bs => Peek As B ∧ HasQ As Bs
theorem Sats.mem_own {w : World} {I : Blocks} : ∀ {As : List Asn} {m : List Nat} {A : Asn}, Sats w I As m → A ∈ As → ∃ m1, A.sat w I m1 ∧ ∀ b ∈ m1, b ∈ m
  | [], _, _, _, h => by cases h
  | B :: As, m, A, hs, hA => by
    obtain ⟨m1, m2, rfl, h1, h2⟩ := hs
    rcases List.mem_cons.1 hA with rfl | hA
    · exact ⟨m1, h1, fun b hb => by simp [hb]⟩
    · obtain ⟨m3, h3, h4⟩ := Sats.mem_own h2 hA
      exact ⟨m3, h3, fun b hb => by simp [h4 b hb]⟩
theorem Peek.sat {w : World} {I : Blocks} {m : List Nat} {As : List Asn} {B : Asn} (hs : Sats w I As m) (h : Peek As B) : B.sat w (fun b => I b ∨ b ∈ m) [] := by
  have mono : ∀ {A : Asn} {m1 : List Nat}, A.sat w I m1 → A.sat w (fun b => I b ∨ b ∈ m) m1 := fun h => Asn.sat_mono (Nat.le_refl _) (fun _ _ => rfl) (fun _ hb => .inl hb) h
  rcases h with ⟨h1, h2⟩ | ⟨v, E, t, xs, rfl, h2⟩ | ⟨b, T, cs, rfl, h2⟩
  · exact mono (hs.pers h2 h1)
  · obtain ⟨m1, h3, h4⟩ := hs.mem_own h2
    have h5 := mono h3
    rcases h5 with ⟨rfl, rfl, _⟩ | ⟨g, cap, rfl, rfl, hr⟩
    · exact ⟨rfl, _, rfl, none, 0, 0, rfl, rfl, Nat.le_refl _, .inl rfl⟩
    · exact ⟨rfl, _, rfl, rowIs.rep (I := fun b => I b ∨ b ∈ m) (.inr (h4 g (by simp))) hr⟩
  · obtain ⟨m1, h3, h4⟩ := hs.mem_own h2
    obtain ⟨rfl, h5⟩ := h3
    exact ⟨rfl, .inr (h4 b (by simp)), h5⟩
theorem HasQ.sats {w : World} {I : Blocks} {m : List Nat} {As : List Asn} (hs : Sats w I As m) : ∀ {Bs : List Asn}, HasQ As Bs → Sats w (fun b => I b ∨ b ∈ m) Bs []
  | [], _ => rfl
  | _ :: _, h => ⟨[], [], rfl, h.1.sat hs, HasQ.sats hs h.2⟩
end ops
end Go.Sep

namespace Go.Sep
open Go
set_option linter.unusedVariables false
set_option linter.unusedSimpArgs false
section ops
variable {c : Cx} {L : List (Nat × Value)} {As R : List Asn} {Q : Exit → Act → World → Prop} {K : Act → World → Prop} {ops : Array Oper} {rest : List Oper} {T : TypeId} {pos : String} {aft : Array Edge} {gd : Option (Nat × Bool)}
end ops
end Go.Sep
