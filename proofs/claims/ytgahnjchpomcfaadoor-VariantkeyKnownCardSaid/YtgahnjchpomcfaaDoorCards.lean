/-
  DERIVED. GIVEN WITH THE SEED: THE CARDS: each row of YtgahnjchpomcfaaDoorRows.lean that lists a variable, with what it lists TIED to the program's text (the seventh form; the later family's looks); each row that meets fmt, with fmt's text TOLD by the authors' own Lean function (tested against real Go, not proved from fmt's source: count such statements apart). THE CARD IS WHAT COUNTS. Prove the row's statement (the work); the ties are given (YtgahnjchpomcfaaDoorTie.lean); close each card by the builder's one call (the guide's Derived/Test/ToyasCard.lean, 'card_holds'). Laid BY PROGRAM, IN A SANDBOX (cutbox-door.mjs). By AI agents, Wed Nov 11 2026. No macro, syntax, notation, axiom, sorry.
-/
import Derived.Test.YtgahnjchpomcfaaDoorRows
import GoSem.ClaimSeven
namespace Go.Proofs.YtgahnjchpomcfaaDoor
namespace Rows

/-- THE TIED CARD OF 'variantproxylaw16.VariantkeyKnown'. -/
def variantkeyKnownCard : Claim7 := { stood := { row := variantkeyKnownRow, standIns := [], harness := (true, "a6be9dc4b421275a427c902f677a669f003e36d7970a5244775afdffd81e0c04"), looks := false }, kinds := [], alts := [], laidByText := true, laidKinds := [.data, .pinned], laidTests := true, laidLooks := .later }
def VariantkeyKnownCardSaid : Prop := Claim7.holds Tryd.pinned (.plain (OpenSpec.ofChange variantkeyKnownSpec)) variantkeyKnownCard

/-- THE SECOND FORM's CARD OF 'variantproxylaw16.VariantkeyKnown'. -/
def variantkeyKnownUptoCard : Claim7 := { stood := { row := variantkeyKnownUptoRow, standIns := [], harness := (true, "a6be9dc4b421275a427c902f677a669f003e36d7970a5244775afdffd81e0c04"), looks := false }, kinds := [], alts := [], laidByText := true, laidKinds := [.data, .pinned], laidTests := true, laidLooks := .later }
def VariantkeyKnownUptoCardSaid : Prop := Claim7.holds Tryd.pinned (.plain (OpenSpec.upto variantkeyKnownSpec)) variantkeyKnownUptoCard
end Rows
end Go.Proofs.YtgahnjchpomcfaaDoor
