/-
  DERIVED. GIVEN WITH THE SEED: THE CARDS: each row of YtgahnjchpomcfaaGreatDoorRows.lean that lists a variable, with what it lists TIED to the program's text (the seventh form; the later family's looks); each row that meets fmt, with fmt's text TOLD by the authors' own Lean function (tested against real Go, not proved from fmt's source: count such statements apart). THE CARD IS WHAT COUNTS. Prove the row's statement (the work); the ties are given (YtgahnjchpomcfaaGreatDoorTie.lean); close each card by the builder's one call (the guide's Derived/Test/ToyasCard.lean, 'card_holds'). Laid BY PROGRAM, IN A SANDBOX (cutbox-door.mjs). By AI agents, Wed Nov 11 2026. No macro, syntax, notation, axiom, sorry.
-/
import Derived.Test.YtgahnjchpomcfaaGreatDoorRows
import GoSem.ClaimSeven
namespace Go.Proofs.YtgahnjchpomcfaaGreatDoor
namespace Rows

/-- THE TIED CARD OF 'variantproxylaw16.VariantkeyParses'. -/
def variantkeyParsesCard : Claim7 := { stood := { row := variantkeyParsesRow, standIns := [], harness := (true, "a8ffd41a00bfd6e662060ee4e23947f233d01c4ad4195a33699820dd701ea048"), looks := false }, kinds := [], alts := [], laidByText := true, laidKinds := [.data, .pinned], laidTests := true, laidLooks := .later }
def VariantkeyParsesCardSaid : Prop := Claim7.holds Tryz.pinned (.plain (OpenSpec.ofChange variantkeyParsesSpec)) variantkeyParsesCard

/-- THE TIED CARD OF 'variantproxylaw15.VariantsValidity'. -/
def variantsValidityCard : Claim7 := { stood := { row := variantsValidityRow, standIns := [], harness := (true, "a8ffd41a00bfd6e662060ee4e23947f233d01c4ad4195a33699820dd701ea048"), looks := false }, kinds := [], alts := [], laidByText := true, laidKinds := [.data, .pinned], laidTests := true, laidLooks := .later }
def VariantsValidityCardSaid : Prop := Claim7.holds Tryz.pinned (.plain (OpenSpec.ofChange variantsValiditySpec)) variantsValidityCard

/-- THE TIED CARD OF 'variantproxylaw15.VariantsParses'. -/
def variantsParsesCard : Claim7 := { stood := { row := variantsParsesRow, standIns := [], harness := (true, "a8ffd41a00bfd6e662060ee4e23947f233d01c4ad4195a33699820dd701ea048"), looks := false }, kinds := [], alts := [], laidByText := true, laidKinds := [.data, .pinned], laidTests := true, laidLooks := .later }
def VariantsParsesCardSaid : Prop := Claim7.holds Tryz.pinned (.plain (OpenSpec.ofChange variantsParsesSpec)) variantsParsesCard

/-- THE TIED CARD OF 'variantproxylaw15.VariantsFormats'. -/
def variantsFormatsCard : Claim7 := { stood := { row := variantsFormatsRow, standIns := [], harness := (true, "a8ffd41a00bfd6e662060ee4e23947f233d01c4ad4195a33699820dd701ea048"), looks := false }, kinds := [], alts := [], laidByText := true, laidKinds := [.data, .pinned], laidTests := true, laidLooks := .later }
def VariantsFormatsCardSaid : Prop := Claim7.holds Tryz.pinned (.plain (OpenSpec.ofChange variantsFormatsSpec)) variantsFormatsCard

/-- THE TIED CARD OF 'variantproxylaw15.VariantsBack'. -/
def variantsBackCard : Claim7 := { stood := { row := variantsBackRow, standIns := [], harness := (true, "a8ffd41a00bfd6e662060ee4e23947f233d01c4ad4195a33699820dd701ea048"), looks := false }, kinds := [], alts := [], laidByText := true, laidKinds := [.data, .pinned], laidTests := true, laidLooks := .later }
def VariantsBackCardSaid : Prop := Claim7.holds Tryz.pinned (.plain (OpenSpec.ofChange variantsBackSpec)) variantsBackCard

/-- THE TIED CARD OF 'variantproxylaw15.VariantsValues'. -/
def variantsValuesCard : Claim7 := { stood := { row := variantsValuesRow, standIns := [], harness := (true, "a8ffd41a00bfd6e662060ee4e23947f233d01c4ad4195a33699820dd701ea048"), looks := false }, kinds := [], alts := [], laidByText := true, laidKinds := [.data, .pinned], laidTests := true, laidLooks := .later }
def VariantsValuesCardSaid : Prop := Claim7.holds Tryz.pinned (.plain (OpenSpec.ofChange variantsValuesSpec)) variantsValuesCard

/-- THE TIED CARD OF 'variantproxylaw15.VariantsSame'. -/
def variantsSameCard : Claim7 := { stood := { row := variantsSameRow, standIns := [], harness := (true, "a8ffd41a00bfd6e662060ee4e23947f233d01c4ad4195a33699820dd701ea048"), looks := false }, kinds := [], alts := [], laidByText := true, laidKinds := [.data, .pinned], laidTests := true, laidLooks := .later }
def VariantsSameCardSaid : Prop := Claim7.holds Tryz.pinned (.plain (OpenSpec.ofChange variantsSameSpec)) variantsSameCard

/-- THE TIED CARD OF 'variantproxylaw16.VariantkeyBack'. -/
def variantkeyBackCard : Claim7 := { stood := { row := variantkeyBackRow, standIns := [], harness := (true, "a8ffd41a00bfd6e662060ee4e23947f233d01c4ad4195a33699820dd701ea048"), looks := false }, kinds := [], alts := [], laidByText := true, laidKinds := [.data, .pinned], laidTests := true, laidLooks := .later }
def VariantkeyBackCardSaid : Prop := Claim7.holds Tryz.pinned (.plain (OpenSpec.ofChange variantkeyBackSpec)) variantkeyBackCard

/-- THE TIED CARD OF 'variantproxylaw16.VariantkeyFormats'. -/
def variantkeyFormatsCard : Claim7 := { stood := { row := variantkeyFormatsRow, standIns := [], harness := (true, "a8ffd41a00bfd6e662060ee4e23947f233d01c4ad4195a33699820dd701ea048"), looks := false }, kinds := [], alts := [], laidByText := true, laidKinds := [.data, .pinned], laidTests := true, laidLooks := .later }
def VariantkeyFormatsCardSaid : Prop := Claim7.holds Tryz.pinned (.plain (OpenSpec.ofChange variantkeyFormatsSpec)) variantkeyFormatsCard

/-- THE SECOND FORM's CARD OF 'variantproxylaw16.VariantkeyParses'. -/
def variantkeyParsesUptoCard : Claim7 := { stood := { row := variantkeyParsesUptoRow, standIns := [], harness := (true, "a8ffd41a00bfd6e662060ee4e23947f233d01c4ad4195a33699820dd701ea048"), looks := false }, kinds := [], alts := [], laidByText := true, laidKinds := [.data, .pinned], laidTests := true, laidLooks := .later }
def VariantkeyParsesUptoCardSaid : Prop := Claim7.holds Tryz.pinned (.plain (OpenSpec.upto variantkeyParsesSpec)) variantkeyParsesUptoCard

/-- THE SECOND FORM's CARD OF 'variantproxylaw15.VariantsValidity'. -/
def variantsValidityUptoCard : Claim7 := { stood := { row := variantsValidityUptoRow, standIns := [], harness := (true, "a8ffd41a00bfd6e662060ee4e23947f233d01c4ad4195a33699820dd701ea048"), looks := false }, kinds := [], alts := [], laidByText := true, laidKinds := [.data, .pinned], laidTests := true, laidLooks := .later }
def VariantsValidityUptoCardSaid : Prop := Claim7.holds Tryz.pinned (.plain (OpenSpec.upto variantsValiditySpec)) variantsValidityUptoCard

/-- THE SECOND FORM's CARD OF 'variantproxylaw15.VariantsParses'. -/
def variantsParsesUptoCard : Claim7 := { stood := { row := variantsParsesUptoRow, standIns := [], harness := (true, "a8ffd41a00bfd6e662060ee4e23947f233d01c4ad4195a33699820dd701ea048"), looks := false }, kinds := [], alts := [], laidByText := true, laidKinds := [.data, .pinned], laidTests := true, laidLooks := .later }
def VariantsParsesUptoCardSaid : Prop := Claim7.holds Tryz.pinned (.plain (OpenSpec.upto variantsParsesSpec)) variantsParsesUptoCard

/-- THE SECOND FORM's CARD OF 'variantproxylaw15.VariantsFormats'. -/
def variantsFormatsUptoCard : Claim7 := { stood := { row := variantsFormatsUptoRow, standIns := [], harness := (true, "a8ffd41a00bfd6e662060ee4e23947f233d01c4ad4195a33699820dd701ea048"), looks := false }, kinds := [], alts := [], laidByText := true, laidKinds := [.data, .pinned], laidTests := true, laidLooks := .later }
def VariantsFormatsUptoCardSaid : Prop := Claim7.holds Tryz.pinned (.plain (OpenSpec.upto variantsFormatsSpec)) variantsFormatsUptoCard

/-- THE SECOND FORM's CARD OF 'variantproxylaw15.VariantsBack'. -/
def variantsBackUptoCard : Claim7 := { stood := { row := variantsBackUptoRow, standIns := [], harness := (true, "a8ffd41a00bfd6e662060ee4e23947f233d01c4ad4195a33699820dd701ea048"), looks := false }, kinds := [], alts := [], laidByText := true, laidKinds := [.data, .pinned], laidTests := true, laidLooks := .later }
def VariantsBackUptoCardSaid : Prop := Claim7.holds Tryz.pinned (.plain (OpenSpec.upto variantsBackSpec)) variantsBackUptoCard

/-- THE SECOND FORM's CARD OF 'variantproxylaw15.VariantsValues'. -/
def variantsValuesUptoCard : Claim7 := { stood := { row := variantsValuesUptoRow, standIns := [], harness := (true, "a8ffd41a00bfd6e662060ee4e23947f233d01c4ad4195a33699820dd701ea048"), looks := false }, kinds := [], alts := [], laidByText := true, laidKinds := [.data, .pinned], laidTests := true, laidLooks := .later }
def VariantsValuesUptoCardSaid : Prop := Claim7.holds Tryz.pinned (.plain (OpenSpec.upto variantsValuesSpec)) variantsValuesUptoCard

/-- THE SECOND FORM's CARD OF 'variantproxylaw15.VariantsSame'. -/
def variantsSameUptoCard : Claim7 := { stood := { row := variantsSameUptoRow, standIns := [], harness := (true, "a8ffd41a00bfd6e662060ee4e23947f233d01c4ad4195a33699820dd701ea048"), looks := false }, kinds := [], alts := [], laidByText := true, laidKinds := [.data, .pinned], laidTests := true, laidLooks := .later }
def VariantsSameUptoCardSaid : Prop := Claim7.holds Tryz.pinned (.plain (OpenSpec.upto variantsSameSpec)) variantsSameUptoCard

/-- THE SECOND FORM's CARD OF 'variantproxylaw16.VariantkeyBack'. -/
def variantkeyBackUptoCard : Claim7 := { stood := { row := variantkeyBackUptoRow, standIns := [], harness := (true, "a8ffd41a00bfd6e662060ee4e23947f233d01c4ad4195a33699820dd701ea048"), looks := false }, kinds := [], alts := [], laidByText := true, laidKinds := [.data, .pinned], laidTests := true, laidLooks := .later }
def VariantkeyBackUptoCardSaid : Prop := Claim7.holds Tryz.pinned (.plain (OpenSpec.upto variantkeyBackSpec)) variantkeyBackUptoCard

/-- THE SECOND FORM's CARD OF 'variantproxylaw16.VariantkeyFormats'. -/
def variantkeyFormatsUptoCard : Claim7 := { stood := { row := variantkeyFormatsUptoRow, standIns := [], harness := (true, "a8ffd41a00bfd6e662060ee4e23947f233d01c4ad4195a33699820dd701ea048"), looks := false }, kinds := [], alts := [], laidByText := true, laidKinds := [.data, .pinned], laidTests := true, laidLooks := .later }
def VariantkeyFormatsUptoCardSaid : Prop := Claim7.holds Tryz.pinned (.plain (OpenSpec.upto variantkeyFormatsSpec)) variantkeyFormatsUptoCard
end Rows
end Go.Proofs.YtgahnjchpomcfaaGreatDoor
