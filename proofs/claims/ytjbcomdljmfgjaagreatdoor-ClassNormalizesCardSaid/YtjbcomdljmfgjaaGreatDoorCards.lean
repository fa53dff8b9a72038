/-
  DERIVED. GIVEN WITH THE SEED: THE CARDS: each row of YtjbcomdljmfgjaaGreatDoorRows.lean that lists a variable, with what it lists TIED to the program's text (the seventh form; the later family's looks); each row that meets fmt, with fmt's text TOLD by the authors' own Lean function (tested against real Go, not proved from fmt's source: count such statements apart). THE CARD IS WHAT COUNTS. Prove the row's statement (the work); the ties are given (YtjbcomdljmfgjaaGreatDoorTie.lean); close each card by the builder's one call (the guide's Derived/Test/ToyasCard.lean, 'card_holds'). Laid BY PROGRAM, IN A SANDBOX (cutbox-door.mjs). By AI agents, Wed Nov 11 2026. No macro, syntax, notation, axiom, sorry.
-/
import Derived.Test.YtjbcomdljmfgjaaGreatDoorRows
import GoSem.ClaimSeven
namespace Go.Proofs.YtjbcomdljmfgjaaGreatDoor
namespace Rows

/-- THE TIED CARD OF 'variantproxylaw18.ClassClasses'. -/
def classClassesCard : Claim7 := { stood := { row := classClassesRow, standIns := [], harness := (true, "fceadcfd570efa11c1a5376eef549bd14bf4e6d1853f1633a6d107b48340847f"), looks := false }, kinds := [], alts := [], laidByText := true, laidKinds := [.data, .pinned], laidTests := true, laidLooks := .later }
def ClassClassesCardSaid : Prop := Claim7.holds Tryz.pinned (.plain (OpenSpec.ofChange classClassesSpec)) classClassesCard

/-- THE TIED CARD OF 'variantproxylaw18.ClassLines'. -/
def classLinesCard : Claim7 := { stood := { row := classLinesRow, standIns := [], harness := (true, "fceadcfd570efa11c1a5376eef549bd14bf4e6d1853f1633a6d107b48340847f"), looks := false }, kinds := [], alts := [], laidByText := true, laidKinds := [.data, .pinned], laidTests := true, laidLooks := .later }
def ClassLinesCardSaid : Prop := Claim7.holds Tryz.pinned (.plain (OpenSpec.ofChange classLinesSpec)) classLinesCard

/-- THE TIED CARD OF 'variantproxylaw18.ClassCases'. -/
def classCasesCard : Claim7 := { stood := { row := classCasesRow, standIns := [], harness := (true, "fceadcfd570efa11c1a5376eef549bd14bf4e6d1853f1633a6d107b48340847f"), looks := false }, kinds := [], alts := [], laidByText := true, laidKinds := [.data, .pinned], laidTests := true, laidLooks := .later }
def ClassCasesCardSaid : Prop := Claim7.holds Tryz.pinned (.plain (OpenSpec.ofChange classCasesSpec)) classCasesCard

/-- THE TIED CARD OF 'variantproxylaw18.ClassUnavailable'. -/
def classUnavailableCard : Claim7 := { stood := { row := classUnavailableRow, standIns := [], harness := (true, "fceadcfd570efa11c1a5376eef549bd14bf4e6d1853f1633a6d107b48340847f"), looks := false }, kinds := [], alts := [], laidByText := true, laidKinds := [.data, .pinned], laidTests := true, laidLooks := .later }
def ClassUnavailableCardSaid : Prop := Claim7.holds Tryz.pinned (.plain (OpenSpec.ofChange classUnavailableSpec)) classUnavailableCard

/-- THE TIED CARD OF 'variantproxylaw17.SelectionRanks'. -/
def selectionRanksCard : Claim7 := { stood := { row := selectionRanksRow, standIns := [], harness := (true, "fceadcfd570efa11c1a5376eef549bd14bf4e6d1853f1633a6d107b48340847f"), looks := false }, kinds := [], alts := [], laidByText := true, laidKinds := [.data, .pinned], laidTests := true, laidLooks := .later }
def SelectionRanksCardSaid : Prop := Claim7.holds Tryz.pinned (.plain (OpenSpec.ofChange selectionRanksSpec)) selectionRanksCard

/-- THE TIED CARD OF 'variantproxylaw17.SelectionProduct'. -/
def selectionProductCard : Claim7 := { stood := { row := selectionProductRow, standIns := [], harness := (true, "fceadcfd570efa11c1a5376eef549bd14bf4e6d1853f1633a6d107b48340847f"), looks := false }, kinds := [], alts := [], laidByText := true, laidKinds := [.data, .pinned], laidTests := true, laidLooks := .later }
def SelectionProductCardSaid : Prop := Claim7.holds Tryz.pinned (.plain (OpenSpec.ofChange selectionProductSpec)) selectionProductCard

/-- THE TIED CARD OF 'variantproxylaw17.SelectionIgnores'. -/
def selectionIgnoresCard : Claim7 := { stood := { row := selectionIgnoresRow, standIns := [], harness := (true, "fceadcfd570efa11c1a5376eef549bd14bf4e6d1853f1633a6d107b48340847f"), looks := false }, kinds := [], alts := [], laidByText := true, laidKinds := [.data, .pinned], laidTests := true, laidLooks := .later }
def SelectionIgnoresCardSaid : Prop := Claim7.holds Tryz.pinned (.plain (OpenSpec.ofChange selectionIgnoresSpec)) selectionIgnoresCard

/-- THE TIED CARD OF 'variantproxylaw17.SelectionKeys'. -/
def selectionKeysCard : Claim7 := { stood := { row := selectionKeysRow, standIns := [], harness := (true, "fceadcfd570efa11c1a5376eef549bd14bf4e6d1853f1633a6d107b48340847f"), looks := false }, kinds := [], alts := [], laidByText := true, laidKinds := [.data, .pinned], laidTests := true, laidLooks := .later }
def SelectionKeysCardSaid : Prop := Claim7.holds Tryz.pinned (.plain (OpenSpec.ofChange selectionKeysSpec)) selectionKeysCard

/-- THE TIED CARD OF 'variantproxylaw17.SelectionDefaults'. -/
def selectionDefaultsCard : Claim7 := { stood := { row := selectionDefaultsRow, standIns := [], harness := (true, "fceadcfd570efa11c1a5376eef549bd14bf4e6d1853f1633a6d107b48340847f"), looks := false }, kinds := [], alts := [], laidByText := true, laidKinds := [.data, .pinned], laidTests := true, laidLooks := .later }
def SelectionDefaultsCardSaid : Prop := Claim7.holds Tryz.pinned (.plain (OpenSpec.ofChange selectionDefaultsSpec)) selectionDefaultsCard

/-- THE TIED CARD OF 'variantproxylaw17.SelectionAcceptable'. -/
def selectionAcceptableCard : Claim7 := { stood := { row := selectionAcceptableRow, standIns := [], harness := (true, "fceadcfd570efa11c1a5376eef549bd14bf4e6d1853f1633a6d107b48340847f"), looks := false }, kinds := [], alts := [], laidByText := true, laidKinds := [.data, .pinned], laidTests := true, laidLooks := .later }
def SelectionAcceptableCardSaid : Prop := Claim7.holds Tryz.pinned (.plain (OpenSpec.ofChange selectionAcceptableSpec)) selectionAcceptableCard

/-- THE TIED CARD OF 'variantproxylaw18.ClassDecides'. -/
def classDecidesCard : Claim7 := { stood := { row := classDecidesRow, standIns := [], harness := (true, "fceadcfd570efa11c1a5376eef549bd14bf4e6d1853f1633a6d107b48340847f"), looks := false }, kinds := [], alts := [], laidByText := true, laidKinds := [.data, .pinned], laidTests := true, laidLooks := .later }
def ClassDecidesCardSaid : Prop := Claim7.holds Tryz.pinned (.plain (OpenSpec.ofChange classDecidesSpec)) classDecidesCard

/-- THE TIED CARD OF 'variantproxylaw18.ClassNormalizes'. -/
def classNormalizesCard : Claim7 := { stood := { row := classNormalizesRow, standIns := [], harness := (true, "fceadcfd570efa11c1a5376eef549bd14bf4e6d1853f1633a6d107b48340847f"), looks := false }, kinds := [], alts := [], laidByText := true, laidKinds := [.data, .pinned], laidTests := true, laidLooks := .later }
def ClassNormalizesCardSaid : Prop := Claim7.holds Tryz.pinned (.plain (OpenSpec.ofChange classNormalizesSpec)) classNormalizesCard

/-- THE SECOND FORM's CARD OF 'variantproxylaw18.ClassClasses'. -/
def classClassesUptoCard : Claim7 := { stood := { row := classClassesUptoRow, standIns := [], harness := (true, "fceadcfd570efa11c1a5376eef549bd14bf4e6d1853f1633a6d107b48340847f"), looks := false }, kinds := [], alts := [], laidByText := true, laidKinds := [.data, .pinned], laidTests := true, laidLooks := .later }
def ClassClassesUptoCardSaid : Prop := Claim7.holds Tryz.pinned (.plain (OpenSpec.upto classClassesSpec)) classClassesUptoCard

/-- THE SECOND FORM's CARD OF 'variantproxylaw18.ClassLines'. -/
def classLinesUptoCard : Claim7 := { stood := { row := classLinesUptoRow, standIns := [], harness := (true, "fceadcfd570efa11c1a5376eef549bd14bf4e6d1853f1633a6d107b48340847f"), looks := false }, kinds := [], alts := [], laidByText := true, laidKinds := [.data, .pinned], laidTests := true, laidLooks := .later }
def ClassLinesUptoCardSaid : Prop := Claim7.holds Tryz.pinned (.plain (OpenSpec.upto classLinesSpec)) classLinesUptoCard

/-- THE SECOND FORM's CARD OF 'variantproxylaw18.ClassCases'. -/
def classCasesUptoCard : Claim7 := { stood := { row := classCasesUptoRow, standIns := [], harness := (true, "fceadcfd570efa11c1a5376eef549bd14bf4e6d1853f1633a6d107b48340847f"), looks := false }, kinds := [], alts := [], laidByText := true, laidKinds := [.data, .pinned], laidTests := true, laidLooks := .later }
def ClassCasesUptoCardSaid : Prop := Claim7.holds Tryz.pinned (.plain (OpenSpec.upto classCasesSpec)) classCasesUptoCard

/-- THE SECOND FORM's CARD OF 'variantproxylaw18.ClassUnavailable'. -/
def classUnavailableUptoCard : Claim7 := { stood := { row := classUnavailableUptoRow, standIns := [], harness := (true, "fceadcfd570efa11c1a5376eef549bd14bf4e6d1853f1633a6d107b48340847f"), looks := false }, kinds := [], alts := [], laidByText := true, laidKinds := [.data, .pinned], laidTests := true, laidLooks := .later }
def ClassUnavailableUptoCardSaid : Prop := Claim7.holds Tryz.pinned (.plain (OpenSpec.upto classUnavailableSpec)) classUnavailableUptoCard

/-- THE SECOND FORM's CARD OF 'variantproxylaw17.SelectionRanks'. -/
def selectionRanksUptoCard : Claim7 := { stood := { row := selectionRanksUptoRow, standIns := [], harness := (true, "fceadcfd570efa11c1a5376eef549bd14bf4e6d1853f1633a6d107b48340847f"), looks := false }, kinds := [], alts := [], laidByText := true, laidKinds := [.data, .pinned], laidTests := true, laidLooks := .later }
def SelectionRanksUptoCardSaid : Prop := Claim7.holds Tryz.pinned (.plain (OpenSpec.upto selectionRanksSpec)) selectionRanksUptoCard

/-- THE SECOND FORM's CARD OF 'variantproxylaw17.SelectionProduct'. -/
def selectionProductUptoCard : Claim7 := { stood := { row := selectionProductUptoRow, standIns := [], harness := (true, "fceadcfd570efa11c1a5376eef549bd14bf4e6d1853f1633a6d107b48340847f"), looks := false }, kinds := [], alts := [], laidByText := true, laidKinds := [.data, .pinned], laidTests := true, laidLooks := .later }
def SelectionProductUptoCardSaid : Prop := Claim7.holds Tryz.pinned (.plain (OpenSpec.upto selectionProductSpec)) selectionProductUptoCard

/-- THE SECOND FORM's CARD OF 'variantproxylaw17.SelectionIgnores'. -/
def selectionIgnoresUptoCard : Claim7 := { stood := { row := selectionIgnoresUptoRow, standIns := [], harness := (true, "fceadcfd570efa11c1a5376eef549bd14bf4e6d1853f1633a6d107b48340847f"), looks := false }, kinds := [], alts := [], laidByText := true, laidKinds := [.data, .pinned], laidTests := true, laidLooks := .later }
def SelectionIgnoresUptoCardSaid : Prop := Claim7.holds Tryz.pinned (.plain (OpenSpec.upto selectionIgnoresSpec)) selectionIgnoresUptoCard

/-- THE SECOND FORM's CARD OF 'variantproxylaw17.SelectionKeys'. -/
def selectionKeysUptoCard : Claim7 := { stood := { row := selectionKeysUptoRow, standIns := [], harness := (true, "fceadcfd570efa11c1a5376eef549bd14bf4e6d1853f1633a6d107b48340847f"), looks := false }, kinds := [], alts := [], laidByText := true, laidKinds := [.data, .pinned], laidTests := true, laidLooks := .later }
def SelectionKeysUptoCardSaid : Prop := Claim7.holds Tryz.pinned (.plain (OpenSpec.upto selectionKeysSpec)) selectionKeysUptoCard

/-- THE SECOND FORM's CARD OF 'variantproxylaw17.SelectionDefaults'. -/
def selectionDefaultsUptoCard : Claim7 := { stood := { row := selectionDefaultsUptoRow, standIns := [], harness := (true, "fceadcfd570efa11c1a5376eef549bd14bf4e6d1853f1633a6d107b48340847f"), looks := false }, kinds := [], alts := [], laidByText := true, laidKinds := [.data, .pinned], laidTests := true, laidLooks := .later }
def SelectionDefaultsUptoCardSaid : Prop := Claim7.holds Tryz.pinned (.plain (OpenSpec.upto selectionDefaultsSpec)) selectionDefaultsUptoCard

/-- THE SECOND FORM's CARD OF 'variantproxylaw17.SelectionAcceptable'. -/
def selectionAcceptableUptoCard : Claim7 := { stood := { row := selectionAcceptableUptoRow, standIns := [], harness := (true, "fceadcfd570efa11c1a5376eef549bd14bf4e6d1853f1633a6d107b48340847f"), looks := false }, kinds := [], alts := [], laidByText := true, laidKinds := [.data, .pinned], laidTests := true, laidLooks := .later }
def SelectionAcceptableUptoCardSaid : Prop := Claim7.holds Tryz.pinned (.plain (OpenSpec.upto selectionAcceptableSpec)) selectionAcceptableUptoCard

/-- THE SECOND FORM's CARD OF 'variantproxylaw18.ClassDecides'. -/
def classDecidesUptoCard : Claim7 := { stood := { row := classDecidesUptoRow, standIns := [], harness := (true, "fceadcfd570efa11c1a5376eef549bd14bf4e6d1853f1633a6d107b48340847f"), looks := false }, kinds := [], alts := [], laidByText := true, laidKinds := [.data, .pinned], laidTests := true, laidLooks := .later }
def ClassDecidesUptoCardSaid : Prop := Claim7.holds Tryz.pinned (.plain (OpenSpec.upto classDecidesSpec)) classDecidesUptoCard

/-- THE SECOND FORM's CARD OF 'variantproxylaw18.ClassNormalizes'. -/
def classNormalizesUptoCard : Claim7 := { stood := { row := classNormalizesUptoRow, standIns := [], harness := (true, "fceadcfd570efa11c1a5376eef549bd14bf4e6d1853f1633a6d107b48340847f"), looks := false }, kinds := [], alts := [], laidByText := true, laidKinds := [.data, .pinned], laidTests := true, laidLooks := .later }
def ClassNormalizesUptoCardSaid : Prop := Claim7.holds Tryz.pinned (.plain (OpenSpec.upto classNormalizesSpec)) classNormalizesUptoCard
end Rows
end Go.Proofs.YtjbcomdljmfgjaaGreatDoor
