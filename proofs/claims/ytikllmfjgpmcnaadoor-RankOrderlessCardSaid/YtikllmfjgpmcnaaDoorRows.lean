/-
  NARROWER THAN 'FOR EVERY INPUT', by the rows' own cells (each row's printed sentence says how): AcceptLines: laid · AcceptKinds: laid · RankQualities: laid · RankSorted: laid · RankExcludes: laid · RankOrderless: laid · AcceptBack: laid.
  DERIVED. THE GIVEN ROWS OF THIS SEAT. 7 by the template 'for every input the law returns true; each argument reads behind the call as it read before'; 0 by the template 'total and deterministic' (their statements: YtikllmfjgpmcnaaDoorTotals.lean).
  GIVEN WITH THE SEED: the statements are not yours to turn. If you find one false, say at which input.
  Laid BY PROGRAM, IN A SANDBOX (cutbox-rows.mjs): the forced cells as the released guide's own fill.sh prints them over the translation 95afe4f8b6d8463d… (all of the seat's roots in one cut). By AI agents, Wed Nov 11 2026. No macro, syntax, notation, axiom, sorry.
-/
import Derived.Test.YtikllmfjgpmcnaaDoorChecked
import GoSem.PinnedTables
import GoSem.Claim
import GoSem.ClaimJoined
import GoSem.ClaimMapViews
import Derived.JoinedTies
import Derived.KernelRfl
namespace Go.Proofs.YtikllmfjgpmcnaaDoor
/- THE CELL 'sum', in the pinned program and in every row, IS THE sha256 OF THE DUMP (.gsa) THAT YtikllmfjgpmcnaaDoorProg.lean LOADS. Nothing in Lean hashes anything: it is a label: what it is worth is what the hold of that sum in a sandbox is worth. -/
noncomputable def Tryd.pinned : Pinned := { name := "ytikllmfjgpmcnaadoor", sum := "95afe4f8b6d8463d6a8375e144b5e7e4f6fc60fba45857a8168bbf8d4046c4b4", checked := Tryd.checked }
namespace Rows
def none {H : Type} : Left H := { results := [], args := [] }

/- WHAT THE LISTED PACKAGE-LEVEL VARIABLES READ AS WHEN THE CALL BEGINS. Each datum BY PROGRAM (the guide's laid-datum.mjs) off the statement by which the dump's own 'gosem.cut.vars' lays the variable. In a bare row this is a premise. The card (YtikllmfjgpmcnaaDoorCards.lean) ties it to the program's text. -/
def laid_unicode_utf8_acceptRanges {H : Type} : DataW H := .agg [.agg [.lit (.int .u8 128), .lit (.int .u8 191)], .agg [.lit (.int .u8 160), .lit (.int .u8 191)], .agg [.lit (.int .u8 128), .lit (.int .u8 159)], .agg [.lit (.int .u8 144), .lit (.int .u8 191)], .agg [.lit (.int .u8 128), .lit (.int .u8 143)], .agg [.lit (.int .u8 0), .lit (.int .u8 0)], .agg [.lit (.int .u8 0), .lit (.int .u8 0)], .agg [.lit (.int .u8 0), .lit (.int .u8 0)], .agg [.lit (.int .u8 0), .lit (.int .u8 0)], .agg [.lit (.int .u8 0), .lit (.int .u8 0)], .agg [.lit (.int .u8 0), .lit (.int .u8 0)], .agg [.lit (.int .u8 0), .lit (.int .u8 0)], .agg [.lit (.int .u8 0), .lit (.int .u8 0)], .agg [.lit (.int .u8 0), .lit (.int .u8 0)], .agg [.lit (.int .u8 0), .lit (.int .u8 0)], .agg [.lit (.int .u8 0), .lit (.int .u8 0)]]
/-- One of Go's own tables, pinned by name: the form's constant. -/
def laid_unicode_utf8_first : DataW Unit := Go.Pinned.utf8First

/-- 'variantproxylaw13.AcceptLines': WHATEVER THE INPUT: true; the input reads as it did. -/
def acceptLinesSpec : ChangeSpec := { name := "acceptLines", fn := fun _ => fun
  | [d1, d2, d3] => { results := [.lit (.bool true)], args := [d1, d2, d3] }
  | _ => none }
def acceptLinesRow : OpenClaim := { program := "ytikllmfjgpmcnaadoor", sum := "95afe4f8b6d8463d6a8375e144b5e7e4f6fc60fba45857a8168bbf8d4046c4b4", func := "variantproxy/variantproxylaw13.AcceptLines", spec := "acceptLines", inPlace := ["internal/bytealg.IndexByteString", "internal/bytealg.IndexString", "internal/abi.NoEscape", "internal/bytealg.CountString"], unfollowed := true, recurses := true, named := ["unicode/utf8.first", "unicode/utf8.acceptRanges", "internal/bytealg.MaxLen"], apart := false, laid := [("unicode/utf8.acceptRanges", laid_unicode_utf8_acceptRanges), ("unicode/utf8.first", laid_unicode_utf8_first)] }
def AcceptLinesSaid : Prop := acceptLinesRow.holds Tryd.pinned (OpenSpec.ofChange acceptLinesSpec)

/-- ITS FALSE NEIGHBOUR: 'it returns false'. Refute it at one input. -/
def acceptLinesWrong : ChangeSpec := { name := "acceptLines", fn := fun _ => fun
  | [d1, d2, d3] => { results := [.lit (.bool false)], args := [d1, d2, d3] }
  | _ => none }
def AcceptLinesWrongFalsely : Prop := acceptLinesRow.holds Tryd.pinned (OpenSpec.ofChange acceptLinesWrong)

/-- 'variantproxylaw13.AcceptKinds': WHATEVER THE INPUT: true; the input reads as it did. -/
def acceptKindsSpec : ChangeSpec := { name := "acceptKinds", fn := fun _ => fun
  | [d1, d2] => { results := [.lit (.bool true)], args := [d1, d2] }
  | _ => none }
def acceptKindsRow : OpenClaim := { program := "ytikllmfjgpmcnaadoor", sum := "95afe4f8b6d8463d6a8375e144b5e7e4f6fc60fba45857a8168bbf8d4046c4b4", func := "variantproxy/variantproxylaw13.AcceptKinds", spec := "acceptKinds", inPlace := ["internal/bytealg.IndexByteString", "internal/bytealg.IndexString", "internal/abi.NoEscape", "internal/bytealg.CountString"], unfollowed := true, recurses := true, named := ["unicode/utf8.first", "unicode/utf8.acceptRanges", "internal/bytealg.MaxLen"], apart := false, laid := [("unicode/utf8.acceptRanges", laid_unicode_utf8_acceptRanges), ("unicode/utf8.first", laid_unicode_utf8_first)] }
def AcceptKindsSaid : Prop := acceptKindsRow.holds Tryd.pinned (OpenSpec.ofChange acceptKindsSpec)

/-- ITS FALSE NEIGHBOUR: 'it returns false'. Refute it at one input. -/
def acceptKindsWrong : ChangeSpec := { name := "acceptKinds", fn := fun _ => fun
  | [d1, d2] => { results := [.lit (.bool false)], args := [d1, d2] }
  | _ => none }
def AcceptKindsWrongFalsely : Prop := acceptKindsRow.holds Tryd.pinned (OpenSpec.ofChange acceptKindsWrong)

/-- 'variantproxylaw14.RankQualities': WHATEVER THE INPUT: true; the input reads as it did. -/
def rankQualitiesSpec : ChangeSpec := { name := "rankQualities", fn := fun _ => fun
  | [d1, d2, d3, d4] => { results := [.lit (.bool true)], args := [d1, d2, d3, d4] }
  | _ => none }
def rankQualitiesRow : OpenClaim := { program := "ytikllmfjgpmcnaadoor", sum := "95afe4f8b6d8463d6a8375e144b5e7e4f6fc60fba45857a8168bbf8d4046c4b4", func := "variantproxy/variantproxylaw14.RankQualities", spec := "rankQualities", inPlace := ["internal/bytealg.IndexByteString", "internal/bytealg.IndexString", "internal/bytealg.CountString", "slices.overlaps[string]", "slices.overlaps[int]"], named := ["unicode/utf8.first", "unicode/utf8.acceptRanges", "internal/bytealg.MaxLen"], apart := false, laid := [("unicode/utf8.acceptRanges", laid_unicode_utf8_acceptRanges), ("unicode/utf8.first", laid_unicode_utf8_first)] }
def RankQualitiesSaid : Prop := rankQualitiesRow.holds Tryd.pinned (OpenSpec.ofChange rankQualitiesSpec)

/-- ITS FALSE NEIGHBOUR: 'it returns false'. Refute it at one input. -/
def rankQualitiesWrong : ChangeSpec := { name := "rankQualities", fn := fun _ => fun
  | [d1, d2, d3, d4] => { results := [.lit (.bool false)], args := [d1, d2, d3, d4] }
  | _ => none }
def RankQualitiesWrongFalsely : Prop := rankQualitiesRow.holds Tryd.pinned (OpenSpec.ofChange rankQualitiesWrong)

/-- 'variantproxylaw14.RankSorted': WHATEVER THE INPUT: true; the input reads as it did. -/
def rankSortedSpec : ChangeSpec := { name := "rankSorted", fn := fun _ => fun
  | [d1, d2, d3, d4] => { results := [.lit (.bool true)], args := [d1, d2, d3, d4] }
  | _ => none }
def rankSortedRow : OpenClaim := { program := "ytikllmfjgpmcnaadoor", sum := "95afe4f8b6d8463d6a8375e144b5e7e4f6fc60fba45857a8168bbf8d4046c4b4", func := "variantproxy/variantproxylaw14.RankSorted", spec := "rankSorted", inPlace := ["internal/bytealg.IndexByteString", "internal/bytealg.IndexString", "internal/bytealg.CountString", "slices.overlaps[string]", "slices.overlaps[int]"], named := ["unicode/utf8.first", "unicode/utf8.acceptRanges", "internal/bytealg.MaxLen"], apart := false, laid := [("unicode/utf8.acceptRanges", laid_unicode_utf8_acceptRanges), ("unicode/utf8.first", laid_unicode_utf8_first)] }
def RankSortedSaid : Prop := rankSortedRow.holds Tryd.pinned (OpenSpec.ofChange rankSortedSpec)

/-- ITS FALSE NEIGHBOUR: 'it returns false'. Refute it at one input. -/
def rankSortedWrong : ChangeSpec := { name := "rankSorted", fn := fun _ => fun
  | [d1, d2, d3, d4] => { results := [.lit (.bool false)], args := [d1, d2, d3, d4] }
  | _ => none }
def RankSortedWrongFalsely : Prop := rankSortedRow.holds Tryd.pinned (OpenSpec.ofChange rankSortedWrong)

/-- 'variantproxylaw14.RankExcludes': WHATEVER THE INPUT: true; the input reads as it did. -/
def rankExcludesSpec : ChangeSpec := { name := "rankExcludes", fn := fun _ => fun
  | [d1, d2, d3] => { results := [.lit (.bool true)], args := [d1, d2, d3] }
  | _ => none }
def rankExcludesRow : OpenClaim := { program := "ytikllmfjgpmcnaadoor", sum := "95afe4f8b6d8463d6a8375e144b5e7e4f6fc60fba45857a8168bbf8d4046c4b4", func := "variantproxy/variantproxylaw14.RankExcludes", spec := "rankExcludes", inPlace := ["internal/bytealg.IndexByteString", "internal/bytealg.IndexString", "internal/bytealg.CountString", "slices.overlaps[string]", "slices.overlaps[int]"], named := ["unicode/utf8.first", "unicode/utf8.acceptRanges", "internal/bytealg.MaxLen"], apart := false, laid := [("unicode/utf8.acceptRanges", laid_unicode_utf8_acceptRanges), ("unicode/utf8.first", laid_unicode_utf8_first)] }
def RankExcludesSaid : Prop := rankExcludesRow.holds Tryd.pinned (OpenSpec.ofChange rankExcludesSpec)

/-- ITS FALSE NEIGHBOUR: 'it returns false'. Refute it at one input. -/
def rankExcludesWrong : ChangeSpec := { name := "rankExcludes", fn := fun _ => fun
  | [d1, d2, d3] => { results := [.lit (.bool false)], args := [d1, d2, d3] }
  | _ => none }
def RankExcludesWrongFalsely : Prop := rankExcludesRow.holds Tryd.pinned (OpenSpec.ofChange rankExcludesWrong)

/-- 'variantproxylaw14.RankOrderless': WHATEVER THE INPUT: true; the input reads as it did. -/
def rankOrderlessSpec : ChangeSpec := { name := "rankOrderless", fn := fun _ => fun
  | [d1, d2, d3, d4, d5] => { results := [.lit (.bool true)], args := [d1, d2, d3, d4, d5] }
  | _ => none }
def rankOrderlessRow : OpenClaim := { program := "ytikllmfjgpmcnaadoor", sum := "95afe4f8b6d8463d6a8375e144b5e7e4f6fc60fba45857a8168bbf8d4046c4b4", func := "variantproxy/variantproxylaw14.RankOrderless", spec := "rankOrderless", inPlace := ["internal/bytealg.IndexByteString", "internal/bytealg.IndexString", "internal/bytealg.CountString", "slices.overlaps[string]", "slices.overlaps[int]"], named := ["unicode/utf8.first", "unicode/utf8.acceptRanges", "internal/bytealg.MaxLen"], apart := false, laid := [("unicode/utf8.acceptRanges", laid_unicode_utf8_acceptRanges), ("unicode/utf8.first", laid_unicode_utf8_first)] }
def RankOrderlessSaid : Prop := rankOrderlessRow.holds Tryd.pinned (OpenSpec.ofChange rankOrderlessSpec)

/-- ITS FALSE NEIGHBOUR: 'it returns false'. Refute it at one input. -/
def rankOrderlessWrong : ChangeSpec := { name := "rankOrderless", fn := fun _ => fun
  | [d1, d2, d3, d4, d5] => { results := [.lit (.bool false)], args := [d1, d2, d3, d4, d5] }
  | _ => none }
def RankOrderlessWrongFalsely : Prop := rankOrderlessRow.holds Tryd.pinned (OpenSpec.ofChange rankOrderlessWrong)

/-- 'variantproxylaw13.AcceptBack': WHATEVER THE INPUT: true; the input reads as it did. -/
def acceptBackSpec : ChangeSpec := { name := "acceptBack", fn := fun _ => fun
  | [d1, d2] => { results := [.lit (.bool true)], args := [d1, d2] }
  | _ => none }
def acceptBackRow : OpenClaim := { program := "ytikllmfjgpmcnaadoor", sum := "95afe4f8b6d8463d6a8375e144b5e7e4f6fc60fba45857a8168bbf8d4046c4b4", func := "variantproxy/variantproxylaw13.AcceptBack", spec := "acceptBack", inPlace := ["internal/bytealg.IndexByteString", "internal/bytealg.IndexString", "internal/abi.NoEscape", "internal/bytealg.CountString", "internal/bytealg.MakeNoZero"], unfollowed := true, recurses := true, named := ["unicode/utf8.first", "unicode/utf8.acceptRanges", "internal/bytealg.MaxLen"], apart := false, laid := [("unicode/utf8.acceptRanges", laid_unicode_utf8_acceptRanges), ("unicode/utf8.first", laid_unicode_utf8_first)] }
def AcceptBackSaid : Prop := acceptBackRow.holds Tryd.pinned (OpenSpec.ofChange acceptBackSpec)

/-- ITS FALSE NEIGHBOUR: 'it returns false'. Refute it at one input. -/
def acceptBackWrong : ChangeSpec := { name := "acceptBack", fn := fun _ => fun
  | [d1, d2] => { results := [.lit (.bool false)], args := [d1, d2] }
  | _ => none }
def AcceptBackWrongFalsely : Prop := acceptBackRow.holds Tryd.pinned (OpenSpec.ofChange acceptBackWrong)

/- THE SECOND FORM. 'bulk': how many values and letters a reading holds, each counted each time it is reached (what is shared counts as often as it is met; a slice's spare places count too). A statement '..UptoSaid' is the law's where the arguments, and the package variables that the reading takes, are together of bulk at most 1048576: NARROWER than '..Said'. Prove '..Said' where nothing that the law and all that it calls make is longer than what came in: it says more and counts as full. Else prove '..UptoSaid'. A law counts once. -/
mutual
def uptoBulk {H : Type} : DataW H → Nat
  | .lit (.string bytes) => bytes.length + 1
  | .lit _ => 1
  | .nil => 1
  | .ptr d => uptoBulk d + 1
  | .slice elems spare => uptoBulkAll elems + uptoBulkAll spare + 1
  | .agg parts => uptoBulkAll parts + 1
  | .iface _ d => uptoBulk d + 1
  | .map entries => uptoBulkEntries entries + 1
  | .held _ => 1
def uptoBulkAll {H : Type} : List (DataW H) → Nat
  | [] => 0
  | d :: r => uptoBulk d + uptoBulkAll r
def uptoBulkEntries {H : Type} : List (Lit × DataW H) → Nat
  | [] => 0
  | x :: r => uptoBulkEntry x + uptoBulkEntries r
def uptoBulkEntry {H : Type} : Lit × DataW H → Nat
  | (.string bytes, d) => bytes.length + uptoBulk d + 1
  | (_, d) => uptoBulk d + 1
 end
def uptoSmall : (H : Type) → List (DataW H) → Bool := fun _ ds => decide (uptoBulkAll ds ≤ 1048576)
def OpenSpec.upto (s : _root_.Go.ChangeSpec) : _root_.Go.OpenSpec := { _root_.Go.OpenSpec.ofChange s with cond := some uptoSmall }

/-- 'variantproxylaw13.AcceptLines', WHERE WHAT IT READS IS OF BULK AT MOST 1048576: true; the input reads as it did. -/
def acceptLinesUptoRow : OpenClaim := { program := "ytikllmfjgpmcnaadoor", sum := "95afe4f8b6d8463d6a8375e144b5e7e4f6fc60fba45857a8168bbf8d4046c4b4", func := "variantproxy/variantproxylaw13.AcceptLines", spec := "acceptLines", inPlace := ["internal/bytealg.IndexByteString", "internal/bytealg.IndexString", "internal/abi.NoEscape", "internal/bytealg.CountString"], unfollowed := true, recurses := true, named := ["unicode/utf8.first", "unicode/utf8.acceptRanges", "internal/bytealg.MaxLen"], apart := false, laid := [("unicode/utf8.acceptRanges", laid_unicode_utf8_acceptRanges), ("unicode/utf8.first", laid_unicode_utf8_first)], narrowed := true }
def AcceptLinesUptoSaid : Prop := acceptLinesUptoRow.holds Tryd.pinned (OpenSpec.upto acceptLinesSpec)

/-- 'variantproxylaw13.AcceptKinds', WHERE WHAT IT READS IS OF BULK AT MOST 1048576: true; the input reads as it did. -/
def acceptKindsUptoRow : OpenClaim := { program := "ytikllmfjgpmcnaadoor", sum := "95afe4f8b6d8463d6a8375e144b5e7e4f6fc60fba45857a8168bbf8d4046c4b4", func := "variantproxy/variantproxylaw13.AcceptKinds", spec := "acceptKinds", inPlace := ["internal/bytealg.IndexByteString", "internal/bytealg.IndexString", "internal/abi.NoEscape", "internal/bytealg.CountString"], unfollowed := true, recurses := true, named := ["unicode/utf8.first", "unicode/utf8.acceptRanges", "internal/bytealg.MaxLen"], apart := false, laid := [("unicode/utf8.acceptRanges", laid_unicode_utf8_acceptRanges), ("unicode/utf8.first", laid_unicode_utf8_first)], narrowed := true }
def AcceptKindsUptoSaid : Prop := acceptKindsUptoRow.holds Tryd.pinned (OpenSpec.upto acceptKindsSpec)

/-- 'variantproxylaw14.RankQualities', WHERE WHAT IT READS IS OF BULK AT MOST 1048576: true; the input reads as it did. -/
def rankQualitiesUptoRow : OpenClaim := { program := "ytikllmfjgpmcnaadoor", sum := "95afe4f8b6d8463d6a8375e144b5e7e4f6fc60fba45857a8168bbf8d4046c4b4", func := "variantproxy/variantproxylaw14.RankQualities", spec := "rankQualities", inPlace := ["internal/bytealg.IndexByteString", "internal/bytealg.IndexString", "internal/bytealg.CountString", "slices.overlaps[string]", "slices.overlaps[int]"], named := ["unicode/utf8.first", "unicode/utf8.acceptRanges", "internal/bytealg.MaxLen"], apart := false, laid := [("unicode/utf8.acceptRanges", laid_unicode_utf8_acceptRanges), ("unicode/utf8.first", laid_unicode_utf8_first)], narrowed := true }
def RankQualitiesUptoSaid : Prop := rankQualitiesUptoRow.holds Tryd.pinned (OpenSpec.upto rankQualitiesSpec)

/-- 'variantproxylaw14.RankSorted', WHERE WHAT IT READS IS OF BULK AT MOST 1048576: true; the input reads as it did. -/
def rankSortedUptoRow : OpenClaim := { program := "ytikllmfjgpmcnaadoor", sum := "95afe4f8b6d8463d6a8375e144b5e7e4f6fc60fba45857a8168bbf8d4046c4b4", func := "variantproxy/variantproxylaw14.RankSorted", spec := "rankSorted", inPlace := ["internal/bytealg.IndexByteString", "internal/bytealg.IndexString", "internal/bytealg.CountString", "slices.overlaps[string]", "slices.overlaps[int]"], named := ["unicode/utf8.first", "unicode/utf8.acceptRanges", "internal/bytealg.MaxLen"], apart := false, laid := [("unicode/utf8.acceptRanges", laid_unicode_utf8_acceptRanges), ("unicode/utf8.first", laid_unicode_utf8_first)], narrowed := true }
def RankSortedUptoSaid : Prop := rankSortedUptoRow.holds Tryd.pinned (OpenSpec.upto rankSortedSpec)

/-- 'variantproxylaw14.RankExcludes', WHERE WHAT IT READS IS OF BULK AT MOST 1048576: true; the input reads as it did. -/
def rankExcludesUptoRow : OpenClaim := { program := "ytikllmfjgpmcnaadoor", sum := "95afe4f8b6d8463d6a8375e144b5e7e4f6fc60fba45857a8168bbf8d4046c4b4", func := "variantproxy/variantproxylaw14.RankExcludes", spec := "rankExcludes", inPlace := ["internal/bytealg.IndexByteString", "internal/bytealg.IndexString", "internal/bytealg.CountString", "slices.overlaps[string]", "slices.overlaps[int]"], named := ["unicode/utf8.first", "unicode/utf8.acceptRanges", "internal/bytealg.MaxLen"], apart := false, laid := [("unicode/utf8.acceptRanges", laid_unicode_utf8_acceptRanges), ("unicode/utf8.first", laid_unicode_utf8_first)], narrowed := true }
def RankExcludesUptoSaid : Prop := rankExcludesUptoRow.holds Tryd.pinned (OpenSpec.upto rankExcludesSpec)

/-- 'variantproxylaw14.RankOrderless', WHERE WHAT IT READS IS OF BULK AT MOST 1048576: true; the input reads as it did. -/
def rankOrderlessUptoRow : OpenClaim := { program := "ytikllmfjgpmcnaadoor", sum := "95afe4f8b6d8463d6a8375e144b5e7e4f6fc60fba45857a8168bbf8d4046c4b4", func := "variantproxy/variantproxylaw14.RankOrderless", spec := "rankOrderless", inPlace := ["internal/bytealg.IndexByteString", "internal/bytealg.IndexString", "internal/bytealg.CountString", "slices.overlaps[string]", "slices.overlaps[int]"], named := ["unicode/utf8.first", "unicode/utf8.acceptRanges", "internal/bytealg.MaxLen"], apart := false, laid := [("unicode/utf8.acceptRanges", laid_unicode_utf8_acceptRanges), ("unicode/utf8.first", laid_unicode_utf8_first)], narrowed := true }
def RankOrderlessUptoSaid : Prop := rankOrderlessUptoRow.holds Tryd.pinned (OpenSpec.upto rankOrderlessSpec)

/-- 'variantproxylaw13.AcceptBack', WHERE WHAT IT READS IS OF BULK AT MOST 1048576: true; the input reads as it did. -/
def acceptBackUptoRow : OpenClaim := { program := "ytikllmfjgpmcnaadoor", sum := "95afe4f8b6d8463d6a8375e144b5e7e4f6fc60fba45857a8168bbf8d4046c4b4", func := "variantproxy/variantproxylaw13.AcceptBack", spec := "acceptBack", inPlace := ["internal/bytealg.IndexByteString", "internal/bytealg.IndexString", "internal/abi.NoEscape", "internal/bytealg.CountString", "internal/bytealg.MakeNoZero"], unfollowed := true, recurses := true, named := ["unicode/utf8.first", "unicode/utf8.acceptRanges", "internal/bytealg.MaxLen"], apart := false, laid := [("unicode/utf8.acceptRanges", laid_unicode_utf8_acceptRanges), ("unicode/utf8.first", laid_unicode_utf8_first)], narrowed := true }
def AcceptBackUptoSaid : Prop := acceptBackUptoRow.holds Tryd.pinned (OpenSpec.upto acceptBackSpec)

end Rows
end Go.Proofs.YtikllmfjgpmcnaaDoor
