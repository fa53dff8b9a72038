/-
  DERIVED. GIVEN WITH THE SEED: THE CARDS: each row of YtikllmfjgpmcnaaDoorRows.lean that lists a variable, with what it lists TIED to the program's text (the seventh form; the later family's looks); each row that meets fmt, with fmt's text TOLD by the authors' own Lean function (tested against real Go, not proved from fmt's source: count such statements apart). THE CARD IS WHAT COUNTS. Prove the row's statement (the work); the ties are given (YtikllmfjgpmcnaaDoorTie.lean); close each card by the builder's one call (the guide's Derived/Test/ToyasCard.lean, 'card_holds'). Laid BY PROGRAM, IN A SANDBOX (cutbox-door.mjs). By AI agents, Wed Nov 11 2026. No macro, syntax, notation, axiom, sorry.
-/
import Derived.Test.YtikllmfjgpmcnaaDoorRows
import GoSem.ClaimSeven
namespace Go.Proofs.YtikllmfjgpmcnaaDoor
namespace Rows

/-- THE TIED CARD OF 'variantproxylaw13.AcceptLines'. -/
def acceptLinesCard : Claim7 := { stood := { row := acceptLinesRow, standIns := [], harness := (true, "afe76c3eaaf1f6da5f234db97120ee7a851f0076f1417e3a9c9fc355ac6d38f8"), looks := false }, kinds := [], alts := [], laidByText := true, laidKinds := [.data, .pinned], laidTests := true, laidLooks := .later }
def AcceptLinesCardSaid : Prop := Claim7.holds Tryd.pinned (.plain (OpenSpec.ofChange acceptLinesSpec)) acceptLinesCard

/-- THE TIED CARD OF 'variantproxylaw13.AcceptKinds'. -/
def acceptKindsCard : Claim7 := { stood := { row := acceptKindsRow, standIns := [], harness := (true, "afe76c3eaaf1f6da5f234db97120ee7a851f0076f1417e3a9c9fc355ac6d38f8"), looks := false }, kinds := [], alts := [], laidByText := true, laidKinds := [.data, .pinned], laidTests := true, laidLooks := .later }
def AcceptKindsCardSaid : Prop := Claim7.holds Tryd.pinned (.plain (OpenSpec.ofChange acceptKindsSpec)) acceptKindsCard

/-- THE TIED CARD OF 'variantproxylaw14.RankQualities'. -/
def rankQualitiesCard : Claim7 := { stood := { row := rankQualitiesRow, standIns := [], harness := (true, "afe76c3eaaf1f6da5f234db97120ee7a851f0076f1417e3a9c9fc355ac6d38f8"), looks := false }, kinds := [], alts := [], laidByText := true, laidKinds := [.data, .pinned], laidTests := true, laidLooks := .later }
def RankQualitiesCardSaid : Prop := Claim7.holds Tryd.pinned (.plain (OpenSpec.ofChange rankQualitiesSpec)) rankQualitiesCard

/-- THE TIED CARD OF 'variantproxylaw14.RankSorted'. -/
def rankSortedCard : Claim7 := { stood := { row := rankSortedRow, standIns := [], harness := (true, "afe76c3eaaf1f6da5f234db97120ee7a851f0076f1417e3a9c9fc355ac6d38f8"), looks := false }, kinds := [], alts := [], laidByText := true, laidKinds := [.data, .pinned], laidTests := true, laidLooks := .later }
def RankSortedCardSaid : Prop := Claim7.holds Tryd.pinned (.plain (OpenSpec.ofChange rankSortedSpec)) rankSortedCard

/-- THE TIED CARD OF 'variantproxylaw14.RankExcludes'. -/
def rankExcludesCard : Claim7 := { stood := { row := rankExcludesRow, standIns := [], harness := (true, "afe76c3eaaf1f6da5f234db97120ee7a851f0076f1417e3a9c9fc355ac6d38f8"), looks := false }, kinds := [], alts := [], laidByText := true, laidKinds := [.data, .pinned], laidTests := true, laidLooks := .later }
def RankExcludesCardSaid : Prop := Claim7.holds Tryd.pinned (.plain (OpenSpec.ofChange rankExcludesSpec)) rankExcludesCard

/-- THE TIED CARD OF 'variantproxylaw14.RankOrderless'. -/
def rankOrderlessCard : Claim7 := { stood := { row := rankOrderlessRow, standIns := [], harness := (true, "afe76c3eaaf1f6da5f234db97120ee7a851f0076f1417e3a9c9fc355ac6d38f8"), looks := false }, kinds := [], alts := [], laidByText := true, laidKinds := [.data, .pinned], laidTests := true, laidLooks := .later }
def RankOrderlessCardSaid : Prop := Claim7.holds Tryd.pinned (.plain (OpenSpec.ofChange rankOrderlessSpec)) rankOrderlessCard

/-- THE TIED CARD OF 'variantproxylaw13.AcceptBack'. -/
def acceptBackCard : Claim7 := { stood := { row := acceptBackRow, standIns := [], harness := (true, "afe76c3eaaf1f6da5f234db97120ee7a851f0076f1417e3a9c9fc355ac6d38f8"), looks := false }, kinds := [], alts := [], laidByText := true, laidKinds := [.data, .pinned], laidTests := true, laidLooks := .later }
def AcceptBackCardSaid : Prop := Claim7.holds Tryd.pinned (.plain (OpenSpec.ofChange acceptBackSpec)) acceptBackCard

/-- THE SECOND FORM's CARD OF 'variantproxylaw13.AcceptLines'. -/
def acceptLinesUptoCard : Claim7 := { stood := { row := acceptLinesUptoRow, standIns := [], harness := (true, "afe76c3eaaf1f6da5f234db97120ee7a851f0076f1417e3a9c9fc355ac6d38f8"), looks := false }, kinds := [], alts := [], laidByText := true, laidKinds := [.data, .pinned], laidTests := true, laidLooks := .later }
def AcceptLinesUptoCardSaid : Prop := Claim7.holds Tryd.pinned (.plain (OpenSpec.upto acceptLinesSpec)) acceptLinesUptoCard

/-- THE SECOND FORM's CARD OF 'variantproxylaw13.AcceptKinds'. -/
def acceptKindsUptoCard : Claim7 := { stood := { row := acceptKindsUptoRow, standIns := [], harness := (true, "afe76c3eaaf1f6da5f234db97120ee7a851f0076f1417e3a9c9fc355ac6d38f8"), looks := false }, kinds := [], alts := [], laidByText := true, laidKinds := [.data, .pinned], laidTests := true, laidLooks := .later }
def AcceptKindsUptoCardSaid : Prop := Claim7.holds Tryd.pinned (.plain (OpenSpec.upto acceptKindsSpec)) acceptKindsUptoCard

/-- THE SECOND FORM's CARD OF 'variantproxylaw14.RankQualities'. -/
def rankQualitiesUptoCard : Claim7 := { stood := { row := rankQualitiesUptoRow, standIns := [], harness := (true, "afe76c3eaaf1f6da5f234db97120ee7a851f0076f1417e3a9c9fc355ac6d38f8"), looks := false }, kinds := [], alts := [], laidByText := true, laidKinds := [.data, .pinned], laidTests := true, laidLooks := .later }
def RankQualitiesUptoCardSaid : Prop := Claim7.holds Tryd.pinned (.plain (OpenSpec.upto rankQualitiesSpec)) rankQualitiesUptoCard

/-- THE SECOND FORM's CARD OF 'variantproxylaw14.RankSorted'. -/
def rankSortedUptoCard : Claim7 := { stood := { row := rankSortedUptoRow, standIns := [], harness := (true, "afe76c3eaaf1f6da5f234db97120ee7a851f0076f1417e3a9c9fc355ac6d38f8"), looks := false }, kinds := [], alts := [], laidByText := true, laidKinds := [.data, .pinned], laidTests := true, laidLooks := .later }
def RankSortedUptoCardSaid : Prop := Claim7.holds Tryd.pinned (.plain (OpenSpec.upto rankSortedSpec)) rankSortedUptoCard

/-- THE SECOND FORM's CARD OF 'variantproxylaw14.RankExcludes'. -/
def rankExcludesUptoCard : Claim7 := { stood := { row := rankExcludesUptoRow, standIns := [], harness := (true, "afe76c3eaaf1f6da5f234db97120ee7a851f0076f1417e3a9c9fc355ac6d38f8"), looks := false }, kinds := [], alts := [], laidByText := true, laidKinds := [.data, .pinned], laidTests := true, laidLooks := .later }
def RankExcludesUptoCardSaid : Prop := Claim7.holds Tryd.pinned (.plain (OpenSpec.upto rankExcludesSpec)) rankExcludesUptoCard

/-- THE SECOND FORM's CARD OF 'variantproxylaw14.RankOrderless'. -/
def rankOrderlessUptoCard : Claim7 := { stood := { row := rankOrderlessUptoRow, standIns := [], harness := (true, "afe76c3eaaf1f6da5f234db97120ee7a851f0076f1417e3a9c9fc355ac6d38f8"), looks := false }, kinds := [], alts := [], laidByText := true, laidKinds := [.data, .pinned], laidTests := true, laidLooks := .later }
def RankOrderlessUptoCardSaid : Prop := Claim7.holds Tryd.pinned (.plain (OpenSpec.upto rankOrderlessSpec)) rankOrderlessUptoCard

/-- THE SECOND FORM's CARD OF 'variantproxylaw13.AcceptBack'. -/
def acceptBackUptoCard : Claim7 := { stood := { row := acceptBackUptoRow, standIns := [], harness := (true, "afe76c3eaaf1f6da5f234db97120ee7a851f0076f1417e3a9c9fc355ac6d38f8"), looks := false }, kinds := [], alts := [], laidByText := true, laidKinds := [.data, .pinned], laidTests := true, laidLooks := .later }
def AcceptBackUptoCardSaid : Prop := Claim7.holds Tryd.pinned (.plain (OpenSpec.upto acceptBackSpec)) acceptBackUptoCard
end Rows
end Go.Proofs.YtikllmfjgpmcnaaDoor
