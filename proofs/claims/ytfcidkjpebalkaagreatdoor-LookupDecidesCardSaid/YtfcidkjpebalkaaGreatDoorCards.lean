/-
  DERIVED. GIVEN WITH THE SEED: THE CARDS: each row of YtfcidkjpebalkaaGreatDoorRows.lean that lists a variable, with what it lists TIED to the program's text (the seventh form; the later family's looks); each row that meets fmt, with fmt's text TOLD by the authors' own Lean function (tested against real Go, not proved from fmt's source: count such statements apart). THE CARD IS WHAT COUNTS. Prove the row's statement (the work); the ties are given (YtfcidkjpebalkaaGreatDoorTie.lean); close each card by the builder's one call (the guide's Derived/Test/ToyasCard.lean, 'card_holds'). Laid BY PROGRAM, IN A SANDBOX (cutbox-door.mjs). By AI agents, Wed Nov 11 2026. No macro, syntax, notation, axiom, sorry.
-/
import Derived.Test.YtfcidkjpebalkaaGreatDoorRows
import GoSem.ClaimSeven
namespace Go.Proofs.YtfcidkjpebalkaaGreatDoor
namespace Rows

/-- THE TIED CARD OF 'variantproxylaw30.LookupDecides'. -/
def lookupDecidesCard : Claim7 := { stood := { row := lookupDecidesRow, standIns := [], harness := (true, "6bf70af1dba189e8938b38a5d76dc23586737c5eca55d4435bd98339120c4aa1"), looks := false }, kinds := [], alts := [], laidByText := true, laidKinds := [.data, .pinned], laidTests := true, laidLooks := .later }
def LookupDecidesCardSaid : Prop := Claim7.holds Tryz.pinned (.plain (OpenSpec.ofChange lookupDecidesSpec)) lookupDecidesCard

/-- THE TIED CARD OF 'variantproxylaw30.LookupServes'. -/
def lookupServesCard : Claim7 := { stood := { row := lookupServesRow, standIns := [], harness := (true, "6bf70af1dba189e8938b38a5d76dc23586737c5eca55d4435bd98339120c4aa1"), looks := false }, kinds := [], alts := [], laidByText := true, laidKinds := [.data, .pinned], laidTests := true, laidLooks := .later }
def LookupServesCardSaid : Prop := Claim7.holds Tryz.pinned (.plain (OpenSpec.ofChange lookupServesSpec)) lookupServesCard

/-- THE TIED CARD OF 'variantproxylaw30.LookupFresh'. -/
def lookupFreshCard : Claim7 := { stood := { row := lookupFreshRow, standIns := [], harness := (true, "6bf70af1dba189e8938b38a5d76dc23586737c5eca55d4435bd98339120c4aa1"), looks := false }, kinds := [], alts := [], laidByText := true, laidKinds := [.data, .pinned], laidTests := true, laidLooks := .later }
def LookupFreshCardSaid : Prop := Claim7.holds Tryz.pinned (.plain (OpenSpec.ofChange lookupFreshSpec)) lookupFreshCard

/-- THE TIED CARD OF 'variantproxylaw30.LookupRejects'. -/
def lookupRejectsCard : Claim7 := { stood := { row := lookupRejectsRow, standIns := [], harness := (true, "6bf70af1dba189e8938b38a5d76dc23586737c5eca55d4435bd98339120c4aa1"), looks := false }, kinds := [], alts := [], laidByText := true, laidKinds := [.data, .pinned], laidTests := true, laidLooks := .later }
def LookupRejectsCardSaid : Prop := Claim7.holds Tryz.pinned (.plain (OpenSpec.ofChange lookupRejectsSpec)) lookupRejectsCard

/-- THE TIED CARD OF 'variantproxylaw30.LookupOffline'. -/
def lookupOfflineCard : Claim7 := { stood := { row := lookupOfflineRow, standIns := [], harness := (true, "6bf70af1dba189e8938b38a5d76dc23586737c5eca55d4435bd98339120c4aa1"), looks := false }, kinds := [], alts := [], laidByText := true, laidKinds := [.data, .pinned], laidTests := true, laidLooks := .later }
def LookupOfflineCardSaid : Prop := Claim7.holds Tryz.pinned (.plain (OpenSpec.ofChange lookupOfflineSpec)) lookupOfflineCard

/-- THE SECOND FORM's CARD OF 'variantproxylaw30.LookupDecides'. -/
def lookupDecidesUptoCard : Claim7 := { stood := { row := lookupDecidesUptoRow, standIns := [], harness := (true, "6bf70af1dba189e8938b38a5d76dc23586737c5eca55d4435bd98339120c4aa1"), looks := false }, kinds := [], alts := [], laidByText := true, laidKinds := [.data, .pinned], laidTests := true, laidLooks := .later }
def LookupDecidesUptoCardSaid : Prop := Claim7.holds Tryz.pinned (.plain (OpenSpec.upto lookupDecidesSpec)) lookupDecidesUptoCard

/-- THE SECOND FORM's CARD OF 'variantproxylaw30.LookupServes'. -/
def lookupServesUptoCard : Claim7 := { stood := { row := lookupServesUptoRow, standIns := [], harness := (true, "6bf70af1dba189e8938b38a5d76dc23586737c5eca55d4435bd98339120c4aa1"), looks := false }, kinds := [], alts := [], laidByText := true, laidKinds := [.data, .pinned], laidTests := true, laidLooks := .later }
def LookupServesUptoCardSaid : Prop := Claim7.holds Tryz.pinned (.plain (OpenSpec.upto lookupServesSpec)) lookupServesUptoCard

/-- THE SECOND FORM's CARD OF 'variantproxylaw30.LookupFresh'. -/
def lookupFreshUptoCard : Claim7 := { stood := { row := lookupFreshUptoRow, standIns := [], harness := (true, "6bf70af1dba189e8938b38a5d76dc23586737c5eca55d4435bd98339120c4aa1"), looks := false }, kinds := [], alts := [], laidByText := true, laidKinds := [.data, .pinned], laidTests := true, laidLooks := .later }
def LookupFreshUptoCardSaid : Prop := Claim7.holds Tryz.pinned (.plain (OpenSpec.upto lookupFreshSpec)) lookupFreshUptoCard

/-- THE SECOND FORM's CARD OF 'variantproxylaw30.LookupRejects'. -/
def lookupRejectsUptoCard : Claim7 := { stood := { row := lookupRejectsUptoRow, standIns := [], harness := (true, "6bf70af1dba189e8938b38a5d76dc23586737c5eca55d4435bd98339120c4aa1"), looks := false }, kinds := [], alts := [], laidByText := true, laidKinds := [.data, .pinned], laidTests := true, laidLooks := .later }
def LookupRejectsUptoCardSaid : Prop := Claim7.holds Tryz.pinned (.plain (OpenSpec.upto lookupRejectsSpec)) lookupRejectsUptoCard

/-- THE SECOND FORM's CARD OF 'variantproxylaw30.LookupOffline'. -/
def lookupOfflineUptoCard : Claim7 := { stood := { row := lookupOfflineUptoRow, standIns := [], harness := (true, "6bf70af1dba189e8938b38a5d76dc23586737c5eca55d4435bd98339120c4aa1"), looks := false }, kinds := [], alts := [], laidByText := true, laidKinds := [.data, .pinned], laidTests := true, laidLooks := .later }
def LookupOfflineUptoCardSaid : Prop := Claim7.holds Tryz.pinned (.plain (OpenSpec.upto lookupOfflineSpec)) lookupOfflineUptoCard
end Rows
end Go.Proofs.YtfcidkjpebalkaaGreatDoor
