/-
  DERIVED. GIVEN WITH THE SEED: THE CARDS: each row of YtaicfjchbhnegaaDoorRows.lean that lists a variable, with what it lists TIED to the program's text (the seventh form; the later family's looks); each row that meets fmt, with fmt's text TOLD by the authors' own Lean function (tested against real Go, not proved from fmt's source: count such statements apart). THE CARD IS WHAT COUNTS. Prove the row's statement (the work); the ties are given (YtaicfjchbhnegaaDoorTie.lean); close each card by the builder's one call (the guide's Derived/Test/ToyasCard.lean, 'card_holds'). Laid BY PROGRAM, IN A SANDBOX (cutbox-door.mjs). By AI agents, Wed Nov 11 2026. No macro, syntax, notation, axiom, sorry.
-/
import Derived.Test.YtaicfjchbhnegaaDoorRows
import GoSem.ClaimSeven
namespace Go.Proofs.YtaicfjchbhnegaaDoor
namespace Rows

/-- THE TIED CARD OF 'variantproxylaw03.FieldlineParses'. -/
def fieldlineParsesCard : Claim7 := { stood := { row := fieldlineParsesRow, standIns := [], harness := (true, "c9b1eb8fba350dd1439d07572b500f5884dfc217dbd421dc6546bbe65816ef19"), looks := false }, kinds := [], alts := [], laidByText := true, laidKinds := [.data, .pinned], laidTests := true, laidLooks := .later }
def FieldlineParsesCardSaid : Prop := Claim7.holds Tryd.pinned (.plain (OpenSpec.ofChange fieldlineParsesSpec)) fieldlineParsesCard

/-- THE TIED CARD OF 'variantproxylaw03.FieldlineFormats'. -/
def fieldlineFormatsCard : Claim7 := { stood := { row := fieldlineFormatsRow, standIns := [], harness := (true, "c9b1eb8fba350dd1439d07572b500f5884dfc217dbd421dc6546bbe65816ef19"), looks := false }, kinds := [], alts := [], laidByText := true, laidKinds := [.data, .pinned], laidTests := true, laidLooks := .later }
def FieldlineFormatsCardSaid : Prop := Claim7.holds Tryd.pinned (.plain (OpenSpec.ofChange fieldlineFormatsSpec)) fieldlineFormatsCard

/-- THE TIED CARD OF 'variantproxylaw03.FieldlineBack'. -/
def fieldlineBackCard : Claim7 := { stood := { row := fieldlineBackRow, standIns := [], harness := (true, "c9b1eb8fba350dd1439d07572b500f5884dfc217dbd421dc6546bbe65816ef19"), looks := false }, kinds := [], alts := [], laidByText := true, laidKinds := [.data, .pinned], laidTests := true, laidLooks := .later }
def FieldlineBackCardSaid : Prop := Claim7.holds Tryd.pinned (.plain (OpenSpec.ofChange fieldlineBackSpec)) fieldlineBackCard

/-- THE TIED CARD OF 'variantproxylaw03.FieldlineLists'. -/
def fieldlineListsCard : Claim7 := { stood := { row := fieldlineListsRow, standIns := [], harness := (true, "c9b1eb8fba350dd1439d07572b500f5884dfc217dbd421dc6546bbe65816ef19"), looks := false }, kinds := [], alts := [], laidByText := true, laidKinds := [.data, .pinned], laidTests := true, laidLooks := .later }
def FieldlineListsCardSaid : Prop := Claim7.holds Tryd.pinned (.plain (OpenSpec.ofChange fieldlineListsSpec)) fieldlineListsCard

/-- THE TIED CARD OF 'variantproxylaw03.FieldlineEdits'. -/
def fieldlineEditsCard : Claim7 := { stood := { row := fieldlineEditsRow, standIns := [], harness := (true, "c9b1eb8fba350dd1439d07572b500f5884dfc217dbd421dc6546bbe65816ef19"), looks := false }, kinds := [], alts := [], laidByText := true, laidKinds := [.data, .pinned], laidTests := true, laidLooks := .later }
def FieldlineEditsCardSaid : Prop := Claim7.holds Tryd.pinned (.plain (OpenSpec.ofChange fieldlineEditsSpec)) fieldlineEditsCard

/-- THE TIED CARD OF 'variantproxylaw03.FieldlineSets'. -/
def fieldlineSetsCard : Claim7 := { stood := { row := fieldlineSetsRow, standIns := [], harness := (true, "c9b1eb8fba350dd1439d07572b500f5884dfc217dbd421dc6546bbe65816ef19"), looks := false }, kinds := [], alts := [], laidByText := true, laidKinds := [.data, .pinned], laidTests := true, laidLooks := .later }
def FieldlineSetsCardSaid : Prop := Claim7.holds Tryd.pinned (.plain (OpenSpec.ofChange fieldlineSetsSpec)) fieldlineSetsCard

/-- THE TIED CARD OF 'variantproxylaw09.ParamParses'. -/
def paramParsesCard : Claim7 := { stood := { row := paramParsesRow, standIns := [], harness := (true, "c9b1eb8fba350dd1439d07572b500f5884dfc217dbd421dc6546bbe65816ef19"), looks := false }, kinds := [], alts := [], laidByText := true, laidKinds := [.data, .pinned], laidTests := true, laidLooks := .later }
def ParamParsesCardSaid : Prop := Claim7.holds Tryd.pinned (.plain (OpenSpec.ofChange paramParsesSpec)) paramParsesCard

/-- THE TIED CARD OF 'variantproxylaw09.ParamBlanks'. -/
def paramBlanksCard : Claim7 := { stood := { row := paramBlanksRow, standIns := [], harness := (true, "c9b1eb8fba350dd1439d07572b500f5884dfc217dbd421dc6546bbe65816ef19"), looks := false }, kinds := [], alts := [], laidByText := true, laidKinds := [.data, .pinned], laidTests := true, laidLooks := .later }
def ParamBlanksCardSaid : Prop := Claim7.holds Tryd.pinned (.plain (OpenSpec.ofChange paramBlanksSpec)) paramBlanksCard

/-- THE TIED CARD OF 'variantproxylaw09.ParamBack'. -/
def paramBackCard : Claim7 := { stood := { row := paramBackRow, standIns := [], harness := (true, "c9b1eb8fba350dd1439d07572b500f5884dfc217dbd421dc6546bbe65816ef19"), looks := false }, kinds := [], alts := [], laidByText := true, laidKinds := [.data, .pinned], laidTests := true, laidLooks := .later }
def ParamBackCardSaid : Prop := Claim7.holds Tryd.pinned (.plain (OpenSpec.ofChange paramBackSpec)) paramBackCard

/-- THE TIED CARD OF 'variantproxylaw10.MediatypeParses'. -/
def mediatypeParsesCard : Claim7 := { stood := { row := mediatypeParsesRow, standIns := [], harness := (true, "c9b1eb8fba350dd1439d07572b500f5884dfc217dbd421dc6546bbe65816ef19"), looks := false }, kinds := [], alts := [], laidByText := true, laidKinds := [.data, .pinned], laidTests := true, laidLooks := .later }
def MediatypeParsesCardSaid : Prop := Claim7.holds Tryd.pinned (.plain (OpenSpec.ofChange mediatypeParsesSpec)) mediatypeParsesCard

/-- THE TIED CARD OF 'variantproxylaw10.MediatypeItself'. -/
def mediatypeItselfCard : Claim7 := { stood := { row := mediatypeItselfRow, standIns := [], harness := (true, "c9b1eb8fba350dd1439d07572b500f5884dfc217dbd421dc6546bbe65816ef19"), looks := false }, kinds := [], alts := [], laidByText := true, laidKinds := [.data, .pinned], laidTests := true, laidLooks := .later }
def MediatypeItselfCardSaid : Prop := Claim7.holds Tryd.pinned (.plain (OpenSpec.ofChange mediatypeItselfSpec)) mediatypeItselfCard

/-- THE TIED CARD OF 'variantproxylaw09.ParamFormats'. -/
def paramFormatsCard : Claim7 := { stood := { row := paramFormatsRow, standIns := [], harness := (true, "c9b1eb8fba350dd1439d07572b500f5884dfc217dbd421dc6546bbe65816ef19"), looks := false }, kinds := [], alts := [], laidByText := true, laidKinds := [.data, .pinned], laidTests := true, laidLooks := .later }
def ParamFormatsCardSaid : Prop := Claim7.holds Tryd.pinned (.plain (OpenSpec.ofChange paramFormatsSpec)) paramFormatsCard

/-- THE TIED CARD OF 'variantproxylaw10.MediatypeMatches'. -/
def mediatypeMatchesCard : Claim7 := { stood := { row := mediatypeMatchesRow, standIns := [], harness := (true, "c9b1eb8fba350dd1439d07572b500f5884dfc217dbd421dc6546bbe65816ef19"), looks := false }, kinds := [], alts := [], laidByText := true, laidKinds := [.data, .pinned], laidTests := true, laidLooks := .later }
def MediatypeMatchesCardSaid : Prop := Claim7.holds Tryd.pinned (.plain (OpenSpec.ofChange mediatypeMatchesSpec)) mediatypeMatchesCard

/-- THE TIED CARD OF 'variantproxylaw10.MediatypeBack'. -/
def mediatypeBackCard : Claim7 := { stood := { row := mediatypeBackRow, standIns := [], harness := (true, "c9b1eb8fba350dd1439d07572b500f5884dfc217dbd421dc6546bbe65816ef19"), looks := false }, kinds := [], alts := [], laidByText := true, laidKinds := [.data, .pinned], laidTests := true, laidLooks := .later }
def MediatypeBackCardSaid : Prop := Claim7.holds Tryd.pinned (.plain (OpenSpec.ofChange mediatypeBackSpec)) mediatypeBackCard

/-- THE SECOND FORM's CARD OF 'variantproxylaw03.FieldlineParses'. -/
def fieldlineParsesUptoCard : Claim7 := { stood := { row := fieldlineParsesUptoRow, standIns := [], harness := (true, "c9b1eb8fba350dd1439d07572b500f5884dfc217dbd421dc6546bbe65816ef19"), looks := false }, kinds := [], alts := [], laidByText := true, laidKinds := [.data, .pinned], laidTests := true, laidLooks := .later }
def FieldlineParsesUptoCardSaid : Prop := Claim7.holds Tryd.pinned (.plain (OpenSpec.upto fieldlineParsesSpec)) fieldlineParsesUptoCard

/-- THE SECOND FORM's CARD OF 'variantproxylaw03.FieldlineFormats'. -/
def fieldlineFormatsUptoCard : Claim7 := { stood := { row := fieldlineFormatsUptoRow, standIns := [], harness := (true, "c9b1eb8fba350dd1439d07572b500f5884dfc217dbd421dc6546bbe65816ef19"), looks := false }, kinds := [], alts := [], laidByText := true, laidKinds := [.data, .pinned], laidTests := true, laidLooks := .later }
def FieldlineFormatsUptoCardSaid : Prop := Claim7.holds Tryd.pinned (.plain (OpenSpec.upto fieldlineFormatsSpec)) fieldlineFormatsUptoCard

/-- THE SECOND FORM's CARD OF 'variantproxylaw03.FieldlineBack'. -/
def fieldlineBackUptoCard : Claim7 := { stood := { row := fieldlineBackUptoRow, standIns := [], harness := (true, "c9b1eb8fba350dd1439d07572b500f5884dfc217dbd421dc6546bbe65816ef19"), looks := false }, kinds := [], alts := [], laidByText := true, laidKinds := [.data, .pinned], laidTests := true, laidLooks := .later }
def FieldlineBackUptoCardSaid : Prop := Claim7.holds Tryd.pinned (.plain (OpenSpec.upto fieldlineBackSpec)) fieldlineBackUptoCard

/-- THE SECOND FORM's CARD OF 'variantproxylaw03.FieldlineLists'. -/
def fieldlineListsUptoCard : Claim7 := { stood := { row := fieldlineListsUptoRow, standIns := [], harness := (true, "c9b1eb8fba350dd1439d07572b500f5884dfc217dbd421dc6546bbe65816ef19"), looks := false }, kinds := [], alts := [], laidByText := true, laidKinds := [.data, .pinned], laidTests := true, laidLooks := .later }
def FieldlineListsUptoCardSaid : Prop := Claim7.holds Tryd.pinned (.plain (OpenSpec.upto fieldlineListsSpec)) fieldlineListsUptoCard

/-- THE SECOND FORM's CARD OF 'variantproxylaw03.FieldlineEdits'. -/
def fieldlineEditsUptoCard : Claim7 := { stood := { row := fieldlineEditsUptoRow, standIns := [], harness := (true, "c9b1eb8fba350dd1439d07572b500f5884dfc217dbd421dc6546bbe65816ef19"), looks := false }, kinds := [], alts := [], laidByText := true, laidKinds := [.data, .pinned], laidTests := true, laidLooks := .later }
def FieldlineEditsUptoCardSaid : Prop := Claim7.holds Tryd.pinned (.plain (OpenSpec.upto fieldlineEditsSpec)) fieldlineEditsUptoCard

/-- THE SECOND FORM's CARD OF 'variantproxylaw03.FieldlineSets'. -/
def fieldlineSetsUptoCard : Claim7 := { stood := { row := fieldlineSetsUptoRow, standIns := [], harness := (true, "c9b1eb8fba350dd1439d07572b500f5884dfc217dbd421dc6546bbe65816ef19"), looks := false }, kinds := [], alts := [], laidByText := true, laidKinds := [.data, .pinned], laidTests := true, laidLooks := .later }
def FieldlineSetsUptoCardSaid : Prop := Claim7.holds Tryd.pinned (.plain (OpenSpec.upto fieldlineSetsSpec)) fieldlineSetsUptoCard

/-- THE SECOND FORM's CARD OF 'variantproxylaw09.ParamParses'. -/
def paramParsesUptoCard : Claim7 := { stood := { row := paramParsesUptoRow, standIns := [], harness := (true, "c9b1eb8fba350dd1439d07572b500f5884dfc217dbd421dc6546bbe65816ef19"), looks := false }, kinds := [], alts := [], laidByText := true, laidKinds := [.data, .pinned], laidTests := true, laidLooks := .later }
def ParamParsesUptoCardSaid : Prop := Claim7.holds Tryd.pinned (.plain (OpenSpec.upto paramParsesSpec)) paramParsesUptoCard

/-- THE SECOND FORM's CARD OF 'variantproxylaw09.ParamBlanks'. -/
def paramBlanksUptoCard : Claim7 := { stood := { row := paramBlanksUptoRow, standIns := [], harness := (true, "c9b1eb8fba350dd1439d07572b500f5884dfc217dbd421dc6546bbe65816ef19"), looks := false }, kinds := [], alts := [], laidByText := true, laidKinds := [.data, .pinned], laidTests := true, laidLooks := .later }
def ParamBlanksUptoCardSaid : Prop := Claim7.holds Tryd.pinned (.plain (OpenSpec.upto paramBlanksSpec)) paramBlanksUptoCard

/-- THE SECOND FORM's CARD OF 'variantproxylaw09.ParamBack'. -/
def paramBackUptoCard : Claim7 := { stood := { row := paramBackUptoRow, standIns := [], harness := (true, "c9b1eb8fba350dd1439d07572b500f5884dfc217dbd421dc6546bbe65816ef19"), looks := false }, kinds := [], alts := [], laidByText := true, laidKinds := [.data, .pinned], laidTests := true, laidLooks := .later }
def ParamBackUptoCardSaid : Prop := Claim7.holds Tryd.pinned (.plain (OpenSpec.upto paramBackSpec)) paramBackUptoCard

/-- THE SECOND FORM's CARD OF 'variantproxylaw10.MediatypeParses'. -/
def mediatypeParsesUptoCard : Claim7 := { stood := { row := mediatypeParsesUptoRow, standIns := [], harness := (true, "c9b1eb8fba350dd1439d07572b500f5884dfc217dbd421dc6546bbe65816ef19"), looks := false }, kinds := [], alts := [], laidByText := true, laidKinds := [.data, .pinned], laidTests := true, laidLooks := .later }
def MediatypeParsesUptoCardSaid : Prop := Claim7.holds Tryd.pinned (.plain (OpenSpec.upto mediatypeParsesSpec)) mediatypeParsesUptoCard

/-- THE SECOND FORM's CARD OF 'variantproxylaw10.MediatypeItself'. -/
def mediatypeItselfUptoCard : Claim7 := { stood := { row := mediatypeItselfUptoRow, standIns := [], harness := (true, "c9b1eb8fba350dd1439d07572b500f5884dfc217dbd421dc6546bbe65816ef19"), looks := false }, kinds := [], alts := [], laidByText := true, laidKinds := [.data, .pinned], laidTests := true, laidLooks := .later }
def MediatypeItselfUptoCardSaid : Prop := Claim7.holds Tryd.pinned (.plain (OpenSpec.upto mediatypeItselfSpec)) mediatypeItselfUptoCard

/-- THE SECOND FORM's CARD OF 'variantproxylaw09.ParamFormats'. -/
def paramFormatsUptoCard : Claim7 := { stood := { row := paramFormatsUptoRow, standIns := [], harness := (true, "c9b1eb8fba350dd1439d07572b500f5884dfc217dbd421dc6546bbe65816ef19"), looks := false }, kinds := [], alts := [], laidByText := true, laidKinds := [.data, .pinned], laidTests := true, laidLooks := .later }
def ParamFormatsUptoCardSaid : Prop := Claim7.holds Tryd.pinned (.plain (OpenSpec.upto paramFormatsSpec)) paramFormatsUptoCard

/-- THE SECOND FORM's CARD OF 'variantproxylaw10.MediatypeMatches'. -/
def mediatypeMatchesUptoCard : Claim7 := { stood := { row := mediatypeMatchesUptoRow, standIns := [], harness := (true, "c9b1eb8fba350dd1439d07572b500f5884dfc217dbd421dc6546bbe65816ef19"), looks := false }, kinds := [], alts := [], laidByText := true, laidKinds := [.data, .pinned], laidTests := true, laidLooks := .later }
def MediatypeMatchesUptoCardSaid : Prop := Claim7.holds Tryd.pinned (.plain (OpenSpec.upto mediatypeMatchesSpec)) mediatypeMatchesUptoCard

/-- THE SECOND FORM's CARD OF 'variantproxylaw10.MediatypeBack'. -/
def mediatypeBackUptoCard : Claim7 := { stood := { row := mediatypeBackUptoRow, standIns := [], harness := (true, "c9b1eb8fba350dd1439d07572b500f5884dfc217dbd421dc6546bbe65816ef19"), looks := false }, kinds := [], alts := [], laidByText := true, laidKinds := [.data, .pinned], laidTests := true, laidLooks := .later }
def MediatypeBackUptoCardSaid : Prop := Claim7.holds Tryd.pinned (.plain (OpenSpec.upto mediatypeBackSpec)) mediatypeBackUptoCard
end Rows
end Go.Proofs.YtaicfjchbhnegaaDoor
