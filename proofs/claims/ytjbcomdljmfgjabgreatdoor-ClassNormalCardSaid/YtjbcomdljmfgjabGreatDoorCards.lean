/-
  DERIVED. GIVEN WITH THE SEED: THE CARDS: each row of YtjbcomdljmfgjabGreatDoorRows.lean that lists a variable, with what it lists TIED to the program's text (the seventh form; the later family's looks); each row that meets fmt, with fmt's text TOLD by the authors' own Lean function (tested against real Go, not proved from fmt's source: count such statements apart). THE CARD IS WHAT COUNTS. Prove the row's statement (the work); the ties are given (YtjbcomdljmfgjabGreatDoorTie.lean); close each card by the builder's one call (the guide's Derived/Test/ToyasCard.lean, 'card_holds'). Laid BY PROGRAM, IN A SANDBOX (cutbox-door.mjs). By AI agents, Wed Nov 11 2026. No macro, syntax, notation, axiom, sorry.
-/
import Derived.Test.YtjbcomdljmfgjabGreatDoorRows
import GoSem.ClaimSeven
namespace Go.Proofs.YtjbcomdljmfgjabGreatDoor
namespace Rows

/-- THE TIED CARD OF 'variantproxylaw18.ClassNormal'. -/
def classNormalCard : Claim7 := { stood := { row := classNormalRow, standIns := [], harness := (true, "47c8d805d2aab3e1eb953368d66f49cff9ad7ef6c07401b44f01aa4b8448fe4b"), looks := false }, kinds := [], alts := [], laidByText := true, laidKinds := [.data, .pinned], laidTests := true, laidLooks := .later }
def ClassNormalCardSaid : Prop := Claim7.holds Tryz.pinned (.plain (OpenSpec.ofChange classNormalSpec)) classNormalCard

/-- THE SECOND FORM's CARD OF 'variantproxylaw18.ClassNormal'. -/
def classNormalUptoCard : Claim7 := { stood := { row := classNormalUptoRow, standIns := [], harness := (true, "47c8d805d2aab3e1eb953368d66f49cff9ad7ef6c07401b44f01aa4b8448fe4b"), looks := false }, kinds := [], alts := [], laidByText := true, laidKinds := [.data, .pinned], laidTests := true, laidLooks := .later }
def ClassNormalUptoCardSaid : Prop := Claim7.holds Tryz.pinned (.plain (OpenSpec.upto classNormalSpec)) classNormalUptoCard
end Rows
end Go.Proofs.YtjbcomdljmfgjabGreatDoor
