/-
  DERIVED. GIVEN WITH THE SEED: THE CARDS: each row of YtikllmfjgpmcnaaGreatDoorRows.lean that lists a variable, with what it lists TIED to the program's text (the seventh form; the later family's looks); each row that meets fmt, with fmt's text TOLD by the authors' own Lean function (tested against real Go, not proved from fmt's source: count such statements apart). THE CARD IS WHAT COUNTS. Prove the row's statement (the work); the ties are given (YtikllmfjgpmcnaaGreatDoorTie.lean); close each card by the builder's one call (the guide's Derived/Test/ToyasCard.lean, 'card_holds'). Laid BY PROGRAM, IN A SANDBOX (cutbox-door.mjs). By AI agents, Wed Nov 11 2026. No macro, syntax, notation, axiom, sorry.
-/
import Derived.Test.YtikllmfjgpmcnaaGreatDoorRows
import GoSem.ClaimSeven
namespace Go.Proofs.YtikllmfjgpmcnaaGreatDoor
namespace Rows

/-- THE TIED CARD OF 'variantproxylaw13.AcceptPrefs'. -/
def acceptPrefsCard : Claim7 := { stood := { row := acceptPrefsRow, standIns := [], harness := (true, "c6f816eb200eacf078da10b15f4e36bfcf48a11fa1caf13861db4cac41e79c6e"), looks := false }, kinds := [], alts := [], laidByText := true, laidKinds := [.data, .pinned], laidTests := true, laidLooks := .later }
def AcceptPrefsCardSaid : Prop := Claim7.holds Tryz.pinned (.plain (OpenSpec.ofChange acceptPrefsSpec)) acceptPrefsCard

/-- THE TIED CARD OF 'variantproxylaw13.AcceptMatches'. -/
def acceptMatchesCard : Claim7 := { stood := { row := acceptMatchesRow, standIns := [], harness := (true, "c6f816eb200eacf078da10b15f4e36bfcf48a11fa1caf13861db4cac41e79c6e"), looks := false }, kinds := [], alts := [], laidByText := true, laidKinds := [.data, .pinned], laidTests := true, laidLooks := .later }
def AcceptMatchesCardSaid : Prop := Claim7.holds Tryz.pinned (.plain (OpenSpec.ofChange acceptMatchesSpec)) acceptMatchesCard

/-- THE SECOND FORM's CARD OF 'variantproxylaw13.AcceptPrefs'. -/
def acceptPrefsUptoCard : Claim7 := { stood := { row := acceptPrefsUptoRow, standIns := [], harness := (true, "c6f816eb200eacf078da10b15f4e36bfcf48a11fa1caf13861db4cac41e79c6e"), looks := false }, kinds := [], alts := [], laidByText := true, laidKinds := [.data, .pinned], laidTests := true, laidLooks := .later }
def AcceptPrefsUptoCardSaid : Prop := Claim7.holds Tryz.pinned (.plain (OpenSpec.upto acceptPrefsSpec)) acceptPrefsUptoCard

/-- THE SECOND FORM's CARD OF 'variantproxylaw13.AcceptMatches'. -/
def acceptMatchesUptoCard : Claim7 := { stood := { row := acceptMatchesUptoRow, standIns := [], harness := (true, "c6f816eb200eacf078da10b15f4e36bfcf48a11fa1caf13861db4cac41e79c6e"), looks := false }, kinds := [], alts := [], laidByText := true, laidKinds := [.data, .pinned], laidTests := true, laidLooks := .later }
def AcceptMatchesUptoCardSaid : Prop := Claim7.holds Tryz.pinned (.plain (OpenSpec.upto acceptMatchesSpec)) acceptMatchesUptoCard
end Rows
end Go.Proofs.YtikllmfjgpmcnaaGreatDoor
