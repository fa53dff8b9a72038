/-
  NARROWER THAN 'FOR EVERY INPUT', by the rows' own cells (each row's printed sentence says how): ClassClasses: laid · ClassLines: laid · ClassCases: laid · ClassUnavailable: laid · SelectionRanks: laid · SelectionProduct: laid · SelectionIgnores: laid · SelectionKeys: laid · SelectionDefaults: laid · SelectionAcceptable: laid · ClassDecides: laid · ClassNormalizes: laid.
  DERIVED. THE GIVEN ROWS OF THIS SEAT. 12 by the template 'for every input the law returns true; each argument reads behind the call as it read before'; 0 by the template 'total and deterministic' (their statements: YtjbcomdljmfgjaaGreatDoorTotals.lean).
  GIVEN WITH THE SEED: the statements are not yours to turn. If you find one false, say at which input.
  Laid BY PROGRAM, IN A SANDBOX (cutbox-rows.mjs): the forced cells as the released guide's own fill.sh prints them over the translation e906473d1b9a9700… (all of the seat's roots in one cut). By AI agents, Wed Nov 11 2026. No macro, syntax, notation, axiom, sorry.
-/
import Derived.Test.YtjbcomdljmfgjaaGreatDoorChecked
import GoSem.PinnedTables
import GoSem.Claim
import GoSem.ClaimJoined
import GoSem.ClaimMapViews
import Derived.JoinedTies
import Derived.KernelRfl
namespace Go.Proofs.YtjbcomdljmfgjaaGreatDoor
/- THE CELL 'sum', in the pinned program and in every row, IS THE sha256 OF THE DUMP (.gsa) THAT YtjbcomdljmfgjaaGreatDoorProg.lean LOADS. Nothing in Lean hashes anything: it is a label: what it is worth is what the hold of that sum in a sandbox is worth. -/
noncomputable def Tryz.pinned : Pinned := { name := "ytjbcomdljmfgjaagreatdoor", sum := "e906473d1b9a97002831bb78af7ad2abd249289b719cd0276bd2b7f12abab639", checked := Tryz.checked }
namespace Rows
def none {H : Type} : Left H := { results := [], args := [] }

/- WHAT THE LISTED PACKAGE-LEVEL VARIABLES READ AS WHEN THE CALL BEGINS. Each datum BY PROGRAM (the guide's laid-datum.mjs) off the statement by which the dump's own 'gosem.cut.vars' lays the variable. In a bare row this is a premise. The card (YtjbcomdljmfgjaaGreatDoorCards.lean) ties it to the program's text. -/
def laid_unicode_utf8_acceptRanges {H : Type} : DataW H := .agg [.agg [.lit (.int .u8 128), .lit (.int .u8 191)], .agg [.lit (.int .u8 160), .lit (.int .u8 191)], .agg [.lit (.int .u8 128), .lit (.int .u8 159)], .agg [.lit (.int .u8 144), .lit (.int .u8 191)], .agg [.lit (.int .u8 128), .lit (.int .u8 143)], .agg [.lit (.int .u8 0), .lit (.int .u8 0)], .agg [.lit (.int .u8 0), .lit (.int .u8 0)], .agg [.lit (.int .u8 0), .lit (.int .u8 0)], .agg [.lit (.int .u8 0), .lit (.int .u8 0)], .agg [.lit (.int .u8 0), .lit (.int .u8 0)], .agg [.lit (.int .u8 0), .lit (.int .u8 0)], .agg [.lit (.int .u8 0), .lit (.int .u8 0)], .agg [.lit (.int .u8 0), .lit (.int .u8 0)], .agg [.lit (.int .u8 0), .lit (.int .u8 0)], .agg [.lit (.int .u8 0), .lit (.int .u8 0)], .agg [.lit (.int .u8 0), .lit (.int .u8 0)]]
/-- One of Go's own tables, pinned by name: the form's constant. -/
def laid_unicode_utf8_first : DataW Unit := Go.Pinned.utf8First

/-- 'variantproxylaw18.ClassClasses': WHATEVER THE INPUT: true; the input reads as it did. -/
def classClassesSpec : ChangeSpec := { name := "classClasses", fn := fun _ => fun
  | [d1, d2, d3, d4] => { results := [.lit (.bool true)], args := [d1, d2, d3, d4] }
  | _ => none }
def classClassesRow : OpenClaim := { program := "ytjbcomdljmfgjaagreatdoor", sum := "e906473d1b9a97002831bb78af7ad2abd249289b719cd0276bd2b7f12abab639", func := "variantproxy/variantproxylaw18.ClassClasses", spec := "classClasses", inPlace := ["internal/abi.NoEscape", "internal/bytealg.IndexByteString", "internal/bytealg.IndexString", "internal/bytealg.CountString", "slices.overlaps[string]", "slices.overlaps[int]", "internal/bytealg.MakeNoZero"], unfollowed := true, recurses := true, named := ["unicode/utf8.first", "unicode/utf8.acceptRanges", "internal/bytealg.MaxLen"], apart := false, laid := [("unicode/utf8.acceptRanges", laid_unicode_utf8_acceptRanges), ("unicode/utf8.first", laid_unicode_utf8_first)] }
def ClassClassesSaid : Prop := classClassesRow.holds Tryz.pinned (OpenSpec.ofChange classClassesSpec)

/-- ITS FALSE NEIGHBOUR: 'it returns false'. Refute it at one input. -/
def classClassesWrong : ChangeSpec := { name := "classClasses", fn := fun _ => fun
  | [d1, d2, d3, d4] => { results := [.lit (.bool false)], args := [d1, d2, d3, d4] }
  | _ => none }
def ClassClassesWrongFalsely : Prop := classClassesRow.holds Tryz.pinned (OpenSpec.ofChange classClassesWrong)

/-- 'variantproxylaw18.ClassLines': WHATEVER THE INPUT: true; the input reads as it did. -/
def classLinesSpec : ChangeSpec := { name := "classLines", fn := fun _ => fun
  | [d1, d2, d3, d4, d5, d6] => { results := [.lit (.bool true)], args := [d1, d2, d3, d4, d5, d6] }
  | _ => none }
def classLinesRow : OpenClaim := { program := "ytjbcomdljmfgjaagreatdoor", sum := "e906473d1b9a97002831bb78af7ad2abd249289b719cd0276bd2b7f12abab639", func := "variantproxy/variantproxylaw18.ClassLines", spec := "classLines", inPlace := ["internal/abi.NoEscape", "internal/bytealg.IndexByteString", "internal/bytealg.IndexString", "internal/bytealg.CountString", "slices.overlaps[string]", "slices.overlaps[int]", "internal/bytealg.MakeNoZero"], unfollowed := true, recurses := true, named := ["unicode/utf8.first", "unicode/utf8.acceptRanges", "internal/bytealg.MaxLen"], apart := false, laid := [("unicode/utf8.acceptRanges", laid_unicode_utf8_acceptRanges), ("unicode/utf8.first", laid_unicode_utf8_first)] }
def ClassLinesSaid : Prop := classLinesRow.holds Tryz.pinned (OpenSpec.ofChange classLinesSpec)

/-- ITS FALSE NEIGHBOUR: 'it returns false'. Refute it at one input. -/
def classLinesWrong : ChangeSpec := { name := "classLines", fn := fun _ => fun
  | [d1, d2, d3, d4, d5, d6] => { results := [.lit (.bool false)], args := [d1, d2, d3, d4, d5, d6] }
  | _ => none }
def ClassLinesWrongFalsely : Prop := classLinesRow.holds Tryz.pinned (OpenSpec.ofChange classLinesWrong)

/-- 'variantproxylaw18.ClassCases': WHATEVER THE INPUT: true; the input reads as it did. -/
def classCasesSpec : ChangeSpec := { name := "classCases", fn := fun _ => fun
  | [d1, d2, d3] => { results := [.lit (.bool true)], args := [d1, d2, d3] }
  | _ => none }
def classCasesRow : OpenClaim := { program := "ytjbcomdljmfgjaagreatdoor", sum := "e906473d1b9a97002831bb78af7ad2abd249289b719cd0276bd2b7f12abab639", func := "variantproxy/variantproxylaw18.ClassCases", spec := "classCases", inPlace := ["internal/abi.NoEscape", "internal/bytealg.IndexByteString", "internal/bytealg.IndexString", "internal/bytealg.CountString", "slices.overlaps[string]", "slices.overlaps[int]", "internal/bytealg.MakeNoZero"], unfollowed := true, recurses := true, named := ["unicode/utf8.first", "unicode/utf8.acceptRanges", "internal/bytealg.MaxLen"], apart := false, laid := [("unicode/utf8.acceptRanges", laid_unicode_utf8_acceptRanges), ("unicode/utf8.first", laid_unicode_utf8_first)] }
def ClassCasesSaid : Prop := classCasesRow.holds Tryz.pinned (OpenSpec.ofChange classCasesSpec)

/-- ITS FALSE NEIGHBOUR: 'it returns false'. Refute it at one input. -/
def classCasesWrong : ChangeSpec := { name := "classCases", fn := fun _ => fun
  | [d1, d2, d3] => { results := [.lit (.bool false)], args := [d1, d2, d3] }
  | _ => none }
def ClassCasesWrongFalsely : Prop := classCasesRow.holds Tryz.pinned (OpenSpec.ofChange classCasesWrong)

/-- 'variantproxylaw18.ClassUnavailable': WHATEVER THE INPUT: true; the input reads as it did. -/
def classUnavailableSpec : ChangeSpec := { name := "classUnavailable", fn := fun _ => fun
  | [d1, d2, d3, d4, d5, d6, d7] => { results := [.lit (.bool true)], args := [d1, d2, d3, d4, d5, d6, d7] }
  | _ => none }
def classUnavailableRow : OpenClaim := { program := "ytjbcomdljmfgjaagreatdoor", sum := "e906473d1b9a97002831bb78af7ad2abd249289b719cd0276bd2b7f12abab639", func := "variantproxy/variantproxylaw18.ClassUnavailable", spec := "classUnavailable", inPlace := ["internal/abi.NoEscape", "internal/bytealg.IndexByteString", "internal/bytealg.IndexString", "internal/bytealg.CountString", "slices.overlaps[string]", "slices.overlaps[int]", "internal/bytealg.MakeNoZero"], unfollowed := true, recurses := true, named := ["unicode/utf8.first", "unicode/utf8.acceptRanges", "internal/bytealg.MaxLen"], apart := false, laid := [("unicode/utf8.acceptRanges", laid_unicode_utf8_acceptRanges), ("unicode/utf8.first", laid_unicode_utf8_first)] }
def ClassUnavailableSaid : Prop := classUnavailableRow.holds Tryz.pinned (OpenSpec.ofChange classUnavailableSpec)

/-- ITS FALSE NEIGHBOUR: 'it returns false'. Refute it at one input. -/
def classUnavailableWrong : ChangeSpec := { name := "classUnavailable", fn := fun _ => fun
  | [d1, d2, d3, d4, d5, d6, d7] => { results := [.lit (.bool false)], args := [d1, d2, d3, d4, d5, d6, d7] }
  | _ => none }
def ClassUnavailableWrongFalsely : Prop := classUnavailableRow.holds Tryz.pinned (OpenSpec.ofChange classUnavailableWrong)

/-- 'variantproxylaw17.SelectionRanks': WHATEVER THE INPUT: true; the input reads as it did. -/
def selectionRanksSpec : ChangeSpec := { name := "selectionRanks", fn := fun _ => fun
  | [d1, d2, d3] => { results := [.lit (.bool true)], args := [d1, d2, d3] }
  | _ => none }
def selectionRanksRow : OpenClaim := { program := "ytjbcomdljmfgjaagreatdoor", sum := "e906473d1b9a97002831bb78af7ad2abd249289b719cd0276bd2b7f12abab639", func := "variantproxy/variantproxylaw17.SelectionRanks", spec := "selectionRanks", inPlace := ["internal/bytealg.IndexByteString", "internal/bytealg.IndexString", "internal/abi.NoEscape", "internal/bytealg.CountString", "slices.overlaps[string]", "slices.overlaps[int]", "internal/bytealg.MakeNoZero"], unfollowed := true, recurses := true, named := ["unicode/utf8.first", "unicode/utf8.acceptRanges", "internal/bytealg.MaxLen"], apart := false, laid := [("unicode/utf8.acceptRanges", laid_unicode_utf8_acceptRanges), ("unicode/utf8.first", laid_unicode_utf8_first)] }
def SelectionRanksSaid : Prop := selectionRanksRow.holds Tryz.pinned (OpenSpec.ofChange selectionRanksSpec)

/-- ITS FALSE NEIGHBOUR: 'it returns false'. Refute it at one input. -/
def selectionRanksWrong : ChangeSpec := { name := "selectionRanks", fn := fun _ => fun
  | [d1, d2, d3] => { results := [.lit (.bool false)], args := [d1, d2, d3] }
  | _ => none }
def SelectionRanksWrongFalsely : Prop := selectionRanksRow.holds Tryz.pinned (OpenSpec.ofChange selectionRanksWrong)

/-- 'variantproxylaw17.SelectionProduct': WHATEVER THE INPUT: true; the input reads as it did. -/
def selectionProductSpec : ChangeSpec := { name := "selectionProduct", fn := fun _ => fun
  | [d1, d2, d3] => { results := [.lit (.bool true)], args := [d1, d2, d3] }
  | _ => none }
def selectionProductRow : OpenClaim := { program := "ytjbcomdljmfgjaagreatdoor", sum := "e906473d1b9a97002831bb78af7ad2abd249289b719cd0276bd2b7f12abab639", func := "variantproxy/variantproxylaw17.SelectionProduct", spec := "selectionProduct", inPlace := ["internal/bytealg.IndexByteString", "internal/bytealg.IndexString", "internal/abi.NoEscape", "internal/bytealg.CountString", "slices.overlaps[string]", "slices.overlaps[int]", "internal/bytealg.MakeNoZero"], unfollowed := true, recurses := true, named := ["unicode/utf8.first", "unicode/utf8.acceptRanges", "internal/bytealg.MaxLen"], apart := false, laid := [("unicode/utf8.acceptRanges", laid_unicode_utf8_acceptRanges), ("unicode/utf8.first", laid_unicode_utf8_first)] }
def SelectionProductSaid : Prop := selectionProductRow.holds Tryz.pinned (OpenSpec.ofChange selectionProductSpec)

/-- ITS FALSE NEIGHBOUR: 'it returns false'. Refute it at one input. -/
def selectionProductWrong : ChangeSpec := { name := "selectionProduct", fn := fun _ => fun
  | [d1, d2, d3] => { results := [.lit (.bool false)], args := [d1, d2, d3] }
  | _ => none }
def SelectionProductWrongFalsely : Prop := selectionProductRow.holds Tryz.pinned (OpenSpec.ofChange selectionProductWrong)

/-- 'variantproxylaw17.SelectionIgnores': WHATEVER THE INPUT: true; the input reads as it did. -/
def selectionIgnoresSpec : ChangeSpec := { name := "selectionIgnores", fn := fun _ => fun
  | [d1, d2, d3, d4, d5] => { results := [.lit (.bool true)], args := [d1, d2, d3, d4, d5] }
  | _ => none }
def selectionIgnoresRow : OpenClaim := { program := "ytjbcomdljmfgjaagreatdoor", sum := "e906473d1b9a97002831bb78af7ad2abd249289b719cd0276bd2b7f12abab639", func := "variantproxy/variantproxylaw17.SelectionIgnores", spec := "selectionIgnores", inPlace := ["internal/bytealg.IndexByteString", "internal/bytealg.IndexString", "internal/abi.NoEscape", "internal/bytealg.CountString", "slices.overlaps[string]", "slices.overlaps[int]", "internal/bytealg.MakeNoZero"], unfollowed := true, recurses := true, named := ["unicode/utf8.first", "unicode/utf8.acceptRanges", "internal/bytealg.MaxLen"], apart := false, laid := [("unicode/utf8.acceptRanges", laid_unicode_utf8_acceptRanges), ("unicode/utf8.first", laid_unicode_utf8_first)] }
def SelectionIgnoresSaid : Prop := selectionIgnoresRow.holds Tryz.pinned (OpenSpec.ofChange selectionIgnoresSpec)

/-- ITS FALSE NEIGHBOUR: 'it returns false'. Refute it at one input. -/
def selectionIgnoresWrong : ChangeSpec := { name := "selectionIgnores", fn := fun _ => fun
  | [d1, d2, d3, d4, d5] => { results := [.lit (.bool false)], args := [d1, d2, d3, d4, d5] }
  | _ => none }
def SelectionIgnoresWrongFalsely : Prop := selectionIgnoresRow.holds Tryz.pinned (OpenSpec.ofChange selectionIgnoresWrong)

/-- 'variantproxylaw17.SelectionKeys': WHATEVER THE INPUT: true; the input reads as it did. -/
def selectionKeysSpec : ChangeSpec := { name := "selectionKeys", fn := fun _ => fun
  | [d1, d2, d3] => { results := [.lit (.bool true)], args := [d1, d2, d3] }
  | _ => none }
def selectionKeysRow : OpenClaim := { program := "ytjbcomdljmfgjaagreatdoor", sum := "e906473d1b9a97002831bb78af7ad2abd249289b719cd0276bd2b7f12abab639", func := "variantproxy/variantproxylaw17.SelectionKeys", spec := "selectionKeys", inPlace := ["internal/bytealg.IndexByteString", "internal/bytealg.IndexString", "internal/abi.NoEscape", "internal/bytealg.CountString", "slices.overlaps[string]", "slices.overlaps[int]", "internal/bytealg.MakeNoZero"], unfollowed := true, recurses := true, named := ["unicode/utf8.first", "unicode/utf8.acceptRanges", "internal/bytealg.MaxLen"], apart := false, laid := [("unicode/utf8.acceptRanges", laid_unicode_utf8_acceptRanges), ("unicode/utf8.first", laid_unicode_utf8_first)] }
def SelectionKeysSaid : Prop := selectionKeysRow.holds Tryz.pinned (OpenSpec.ofChange selectionKeysSpec)

/-- ITS FALSE NEIGHBOUR: 'it returns false'. Refute it at one input. -/
def selectionKeysWrong : ChangeSpec := { name := "selectionKeys", fn := fun _ => fun
  | [d1, d2, d3] => { results := [.lit (.bool false)], args := [d1, d2, d3] }
  | _ => none }
def SelectionKeysWrongFalsely : Prop := selectionKeysRow.holds Tryz.pinned (OpenSpec.ofChange selectionKeysWrong)

/-- 'variantproxylaw17.SelectionDefaults': WHATEVER THE INPUT: true; the input reads as it did. -/
def selectionDefaultsSpec : ChangeSpec := { name := "selectionDefaults", fn := fun _ => fun
  | [d1, d2] => { results := [.lit (.bool true)], args := [d1, d2] }
  | _ => none }
def selectionDefaultsRow : OpenClaim := { program := "ytjbcomdljmfgjaagreatdoor", sum := "e906473d1b9a97002831bb78af7ad2abd249289b719cd0276bd2b7f12abab639", func := "variantproxy/variantproxylaw17.SelectionDefaults", spec := "selectionDefaults", inPlace := ["internal/bytealg.IndexByteString", "internal/bytealg.IndexString", "internal/abi.NoEscape", "internal/bytealg.CountString", "slices.overlaps[string]", "slices.overlaps[int]", "internal/bytealg.MakeNoZero"], unfollowed := true, recurses := true, named := ["unicode/utf8.first", "unicode/utf8.acceptRanges", "internal/bytealg.MaxLen"], apart := false, laid := [("unicode/utf8.acceptRanges", laid_unicode_utf8_acceptRanges), ("unicode/utf8.first", laid_unicode_utf8_first)] }
def SelectionDefaultsSaid : Prop := selectionDefaultsRow.holds Tryz.pinned (OpenSpec.ofChange selectionDefaultsSpec)

/-- ITS FALSE NEIGHBOUR: 'it returns false'. Refute it at one input. -/
def selectionDefaultsWrong : ChangeSpec := { name := "selectionDefaults", fn := fun _ => fun
  | [d1, d2] => { results := [.lit (.bool false)], args := [d1, d2] }
  | _ => none }
def SelectionDefaultsWrongFalsely : Prop := selectionDefaultsRow.holds Tryz.pinned (OpenSpec.ofChange selectionDefaultsWrong)

/-- 'variantproxylaw17.SelectionAcceptable': WHATEVER THE INPUT: true; the input reads as it did. -/
def selectionAcceptableSpec : ChangeSpec := { name := "selectionAcceptable", fn := fun _ => fun
  | [d1, d2] => { results := [.lit (.bool true)], args := [d1, d2] }
  | _ => none }
def selectionAcceptableRow : OpenClaim := { program := "ytjbcomdljmfgjaagreatdoor", sum := "e906473d1b9a97002831bb78af7ad2abd249289b719cd0276bd2b7f12abab639", func := "variantproxy/variantproxylaw17.SelectionAcceptable", spec := "selectionAcceptable", inPlace := ["internal/bytealg.IndexByteString", "internal/bytealg.IndexString", "internal/abi.NoEscape", "internal/bytealg.CountString", "slices.overlaps[string]", "slices.overlaps[int]", "internal/bytealg.MakeNoZero"], unfollowed := true, recurses := true, named := ["unicode/utf8.first", "unicode/utf8.acceptRanges", "internal/bytealg.MaxLen"], apart := false, laid := [("unicode/utf8.acceptRanges", laid_unicode_utf8_acceptRanges), ("unicode/utf8.first", laid_unicode_utf8_first)] }
def SelectionAcceptableSaid : Prop := selectionAcceptableRow.holds Tryz.pinned (OpenSpec.ofChange selectionAcceptableSpec)

/-- ITS FALSE NEIGHBOUR: 'it returns false'. Refute it at one input. -/
def selectionAcceptableWrong : ChangeSpec := { name := "selectionAcceptable", fn := fun _ => fun
  | [d1, d2] => { results := [.lit (.bool false)], args := [d1, d2] }
  | _ => none }
def SelectionAcceptableWrongFalsely : Prop := selectionAcceptableRow.holds Tryz.pinned (OpenSpec.ofChange selectionAcceptableWrong)

/-- 'variantproxylaw18.ClassDecides': WHATEVER THE INPUT: true; the input reads as it did. -/
def classDecidesSpec : ChangeSpec := { name := "classDecides", fn := fun _ => fun
  | [d1, d2, d3, d4] => { results := [.lit (.bool true)], args := [d1, d2, d3, d4] }
  | _ => none }
def classDecidesRow : OpenClaim := { program := "ytjbcomdljmfgjaagreatdoor", sum := "e906473d1b9a97002831bb78af7ad2abd249289b719cd0276bd2b7f12abab639", func := "variantproxy/variantproxylaw18.ClassDecides", spec := "classDecides", inPlace := ["internal/abi.NoEscape", "internal/bytealg.IndexByteString", "internal/bytealg.IndexString", "internal/bytealg.CountString", "slices.overlaps[string]", "slices.overlaps[int]", "internal/bytealg.MakeNoZero"], unfollowed := true, recurses := true, named := ["unicode/utf8.first", "unicode/utf8.acceptRanges", "internal/bytealg.MaxLen"], apart := false, laid := [("unicode/utf8.acceptRanges", laid_unicode_utf8_acceptRanges), ("unicode/utf8.first", laid_unicode_utf8_first)] }
def ClassDecidesSaid : Prop := classDecidesRow.holds Tryz.pinned (OpenSpec.ofChange classDecidesSpec)

/-- ITS FALSE NEIGHBOUR: 'it returns false'. Refute it at one input. -/
def classDecidesWrong : ChangeSpec := { name := "classDecides", fn := fun _ => fun
  | [d1, d2, d3, d4] => { results := [.lit (.bool false)], args := [d1, d2, d3, d4] }
  | _ => none }
def ClassDecidesWrongFalsely : Prop := classDecidesRow.holds Tryz.pinned (OpenSpec.ofChange classDecidesWrong)

/-- 'variantproxylaw18.ClassNormalizes': WHATEVER THE INPUT: true; the input reads as it did. -/
def classNormalizesSpec : ChangeSpec := { name := "classNormalizes", fn := fun _ => fun
  | [d1, d2, d3] => { results := [.lit (.bool true)], args := [d1, d2, d3] }
  | _ => none }
def classNormalizesRow : OpenClaim := { program := "ytjbcomdljmfgjaagreatdoor", sum := "e906473d1b9a97002831bb78af7ad2abd249289b719cd0276bd2b7f12abab639", func := "variantproxy/variantproxylaw18.ClassNormalizes", spec := "classNormalizes", inPlace := ["internal/bytealg.IndexByteString", "internal/bytealg.IndexString", "internal/abi.NoEscape", "internal/bytealg.CountString", "internal/bytealg.MakeNoZero", "slices.overlaps[string]", "slices.overlaps[int]"], unfollowed := true, recurses := true, named := ["unicode/utf8.first", "unicode/utf8.acceptRanges", "internal/bytealg.MaxLen"], apart := false, laid := [("unicode/utf8.acceptRanges", laid_unicode_utf8_acceptRanges), ("unicode/utf8.first", laid_unicode_utf8_first)] }
def ClassNormalizesSaid : Prop := classNormalizesRow.holds Tryz.pinned (OpenSpec.ofChange classNormalizesSpec)

/-- ITS FALSE NEIGHBOUR: 'it returns false'. Refute it at one input. -/
def classNormalizesWrong : ChangeSpec := { name := "classNormalizes", fn := fun _ => fun
  | [d1, d2, d3] => { results := [.lit (.bool false)], args := [d1, d2, d3] }
  | _ => none }
def ClassNormalizesWrongFalsely : Prop := classNormalizesRow.holds Tryz.pinned (OpenSpec.ofChange classNormalizesWrong)

/- THE SECOND FORM. 'bulk': how many values and letters a reading holds, each counted each time it is reached (what is shared counts as often as it is met; a slice's spare places count too). A statement '..UptoSaid' is the law's where the arguments, and the package variables that the reading takes, are together of bulk at most 1048576: NARROWER than '..Said'. Prove '..Said' where nothing that the law and all that it calls make is longer than what came in: it says more and counts as full. Else prove '..UptoSaid'. A law counts once. -/
mutual
def uptoBulk {H : Type} : DataW H → Nat
  | .lit (.string bytes) => bytes.length + 1
  | .lit _ => 1
  | .nil => 1
  | .ptr d => uptoBulk d + 1
  | .slice elems spare => uptoBulkAll elems + uptoBulkAll spare + 1
  | .agg parts => uptoBulkAll parts + 1
  | .iface _ d => uptoBulk d + 1
  | .map entries => uptoBulkEntries entries + 1
  | .held _ => 1
def uptoBulkAll {H : Type} : List (DataW H) → Nat
  | [] => 0
  | d :: r => uptoBulk d + uptoBulkAll r
def uptoBulkEntries {H : Type} : List (Lit × DataW H) → Nat
  | [] => 0
  | x :: r => uptoBulkEntry x + uptoBulkEntries r
def uptoBulkEntry {H : Type} : Lit × DataW H → Nat
  | (.string bytes, d) => bytes.length + uptoBulk d + 1
  | (_, d) => uptoBulk d + 1
 end
def uptoSmall : (H : Type) → List (DataW H) → Bool := fun _ ds => decide (uptoBulkAll ds ≤ 1048576)
def OpenSpec.upto (s : _root_.Go.ChangeSpec) : _root_.Go.OpenSpec := { _root_.Go.OpenSpec.ofChange s with cond := some uptoSmall }

/-- 'variantproxylaw18.ClassClasses', WHERE WHAT IT READS IS OF BULK AT MOST 1048576: true; the input reads as it did. -/
def classClassesUptoRow : OpenClaim := { program := "ytjbcomdljmfgjaagreatdoor", sum := "e906473d1b9a97002831bb78af7ad2abd249289b719cd0276bd2b7f12abab639", func := "variantproxy/variantproxylaw18.ClassClasses", spec := "classClasses", inPlace := ["internal/abi.NoEscape", "internal/bytealg.IndexByteString", "internal/bytealg.IndexString", "internal/bytealg.CountString", "slices.overlaps[string]", "slices.overlaps[int]", "internal/bytealg.MakeNoZero"], unfollowed := true, recurses := true, named := ["unicode/utf8.first", "unicode/utf8.acceptRanges", "internal/bytealg.MaxLen"], apart := false, laid := [("unicode/utf8.acceptRanges", laid_unicode_utf8_acceptRanges), ("unicode/utf8.first", laid_unicode_utf8_first)], narrowed := true }
def ClassClassesUptoSaid : Prop := classClassesUptoRow.holds Tryz.pinned (OpenSpec.upto classClassesSpec)

/-- 'variantproxylaw18.ClassLines', WHERE WHAT IT READS IS OF BULK AT MOST 1048576: true; the input reads as it did. -/
def classLinesUptoRow : OpenClaim := { program := "ytjbcomdljmfgjaagreatdoor", sum := "e906473d1b9a97002831bb78af7ad2abd249289b719cd0276bd2b7f12abab639", func := "variantproxy/variantproxylaw18.ClassLines", spec := "classLines", inPlace := ["internal/abi.NoEscape", "internal/bytealg.IndexByteString", "internal/bytealg.IndexString", "internal/bytealg.CountString", "slices.overlaps[string]", "slices.overlaps[int]", "internal/bytealg.MakeNoZero"], unfollowed := true, recurses := true, named := ["unicode/utf8.first", "unicode/utf8.acceptRanges", "internal/bytealg.MaxLen"], apart := false, laid := [("unicode/utf8.acceptRanges", laid_unicode_utf8_acceptRanges), ("unicode/utf8.first", laid_unicode_utf8_first)], narrowed := true }
def ClassLinesUptoSaid : Prop := classLinesUptoRow.holds Tryz.pinned (OpenSpec.upto classLinesSpec)

/-- 'variantproxylaw18.ClassCases', WHERE WHAT IT READS IS OF BULK AT MOST 1048576: true; the input reads as it did. -/
def classCasesUptoRow : OpenClaim := { program := "ytjbcomdljmfgjaagreatdoor", sum := "e906473d1b9a97002831bb78af7ad2abd249289b719cd0276bd2b7f12abab639", func := "variantproxy/variantproxylaw18.ClassCases", spec := "classCases", inPlace := ["internal/abi.NoEscape", "internal/bytealg.IndexByteString", "internal/bytealg.IndexString", "internal/bytealg.CountString", "slices.overlaps[string]", "slices.overlaps[int]", "internal/bytealg.MakeNoZero"], unfollowed := true, recurses := true, named := ["unicode/utf8.first", "unicode/utf8.acceptRanges", "internal/bytealg.MaxLen"], apart := false, laid := [("unicode/utf8.acceptRanges", laid_unicode_utf8_acceptRanges), ("unicode/utf8.first", laid_unicode_utf8_first)], narrowed := true }
def ClassCasesUptoSaid : Prop := classCasesUptoRow.holds Tryz.pinned (OpenSpec.upto classCasesSpec)

/-- 'variantproxylaw18.ClassUnavailable', WHERE WHAT IT READS IS OF BULK AT MOST 1048576: true; the input reads as it did. -/
def classUnavailableUptoRow : OpenClaim := { program := "ytjbcomdljmfgjaagreatdoor", sum := "e906473d1b9a97002831bb78af7ad2abd249289b719cd0276bd2b7f12abab639", func := "variantproxy/variantproxylaw18.ClassUnavailable", spec := "classUnavailable", inPlace := ["internal/abi.NoEscape", "internal/bytealg.IndexByteString", "internal/bytealg.IndexString", "internal/bytealg.CountString", "slices.overlaps[string]", "slices.overlaps[int]", "internal/bytealg.MakeNoZero"], unfollowed := true, recurses := true, named := ["unicode/utf8.first", "unicode/utf8.acceptRanges", "internal/bytealg.MaxLen"], apart := false, laid := [("unicode/utf8.acceptRanges", laid_unicode_utf8_acceptRanges), ("unicode/utf8.first", laid_unicode_utf8_first)], narrowed := true }
def ClassUnavailableUptoSaid : Prop := classUnavailableUptoRow.holds Tryz.pinned (OpenSpec.upto classUnavailableSpec)

/-- 'variantproxylaw17.SelectionRanks', WHERE WHAT IT READS IS OF BULK AT MOST 1048576: true; the input reads as it did. -/
def selectionRanksUptoRow : OpenClaim := { program := "ytjbcomdljmfgjaagreatdoor", sum := "e906473d1b9a97002831bb78af7ad2abd249289b719cd0276bd2b7f12abab639", func := "variantproxy/variantproxylaw17.SelectionRanks", spec := "selectionRanks", inPlace := ["internal/bytealg.IndexByteString", "internal/bytealg.IndexString", "internal/abi.NoEscape", "internal/bytealg.CountString", "slices.overlaps[string]", "slices.overlaps[int]", "internal/bytealg.MakeNoZero"], unfollowed := true, recurses := true, named := ["unicode/utf8.first", "unicode/utf8.acceptRanges", "internal/bytealg.MaxLen"], apart := false, laid := [("unicode/utf8.acceptRanges", laid_unicode_utf8_acceptRanges), ("unicode/utf8.first", laid_unicode_utf8_first)], narrowed := true }
def SelectionRanksUptoSaid : Prop := selectionRanksUptoRow.holds Tryz.pinned (OpenSpec.upto selectionRanksSpec)

/-- 'variantproxylaw17.SelectionProduct', WHERE WHAT IT READS IS OF BULK AT MOST 1048576: true; the input reads as it did. -/
def selectionProductUptoRow : OpenClaim := { program := "ytjbcomdljmfgjaagreatdoor", sum := "e906473d1b9a97002831bb78af7ad2abd249289b719cd0276bd2b7f12abab639", func := "variantproxy/variantproxylaw17.SelectionProduct", spec := "selectionProduct", inPlace := ["internal/bytealg.IndexByteString", "internal/bytealg.IndexString", "internal/abi.NoEscape", "internal/bytealg.CountString", "slices.overlaps[string]", "slices.overlaps[int]", "internal/bytealg.MakeNoZero"], unfollowed := true, recurses := true, named := ["unicode/utf8.first", "unicode/utf8.acceptRanges", "internal/bytealg.MaxLen"], apart := false, laid := [("unicode/utf8.acceptRanges", laid_unicode_utf8_acceptRanges), ("unicode/utf8.first", laid_unicode_utf8_first)], narrowed := true }
def SelectionProductUptoSaid : Prop := selectionProductUptoRow.holds Tryz.pinned (OpenSpec.upto selectionProductSpec)

/-- 'variantproxylaw17.SelectionIgnores', WHERE WHAT IT READS IS OF BULK AT MOST 1048576: true; the input reads as it did. -/
def selectionIgnoresUptoRow : OpenClaim := { program := "ytjbcomdljmfgjaagreatdoor", sum := "e906473d1b9a97002831bb78af7ad2abd249289b719cd0276bd2b7f12abab639", func := "variantproxy/variantproxylaw17.SelectionIgnores", spec := "selectionIgnores", inPlace := ["internal/bytealg.IndexByteString", "internal/bytealg.IndexString", "internal/abi.NoEscape", "internal/bytealg.CountString", "slices.overlaps[string]", "slices.overlaps[int]", "internal/bytealg.MakeNoZero"], unfollowed := true, recurses := true, named := ["unicode/utf8.first", "unicode/utf8.acceptRanges", "internal/bytealg.MaxLen"], apart := false, laid := [("unicode/utf8.acceptRanges", laid_unicode_utf8_acceptRanges), ("unicode/utf8.first", laid_unicode_utf8_first)], narrowed := true }
def SelectionIgnoresUptoSaid : Prop := selectionIgnoresUptoRow.holds Tryz.pinned (OpenSpec.upto selectionIgnoresSpec)

/-- 'variantproxylaw17.SelectionKeys', WHERE WHAT IT READS IS OF BULK AT MOST 1048576: true; the input reads as it did. -/
def selectionKeysUptoRow : OpenClaim := { program := "ytjbcomdljmfgjaagreatdoor", sum := "e906473d1b9a97002831bb78af7ad2abd249289b719cd0276bd2b7f12abab639", func := "variantproxy/variantproxylaw17.SelectionKeys", spec := "selectionKeys", inPlace := ["internal/bytealg.IndexByteString", "internal/bytealg.IndexString", "internal/abi.NoEscape", "internal/bytealg.CountString", "slices.overlaps[string]", "slices.overlaps[int]", "internal/bytealg.MakeNoZero"], unfollowed := true, recurses := true, named := ["unicode/utf8.first", "unicode/utf8.acceptRanges", "internal/bytealg.MaxLen"], apart := false, laid := [("unicode/utf8.acceptRanges", laid_unicode_utf8_acceptRanges), ("unicode/utf8.first", laid_unicode_utf8_first)], narrowed := true }
def SelectionKeysUptoSaid : Prop := selectionKeysUptoRow.holds Tryz.pinned (OpenSpec.upto selectionKeysSpec)

/-- 'variantproxylaw17.SelectionDefaults', WHERE WHAT IT READS IS OF BULK AT MOST 1048576: true; the input reads as it did. -/
def selectionDefaultsUptoRow : OpenClaim := { program := "ytjbcomdljmfgjaagreatdoor", sum := "e906473d1b9a97002831bb78af7ad2abd249289b719cd0276bd2b7f12abab639", func := "variantproxy/variantproxylaw17.SelectionDefaults", spec := "selectionDefaults", inPlace := ["internal/bytealg.IndexByteString", "internal/bytealg.IndexString", "internal/abi.NoEscape", "internal/bytealg.CountString", "slices.overlaps[string]", "slices.overlaps[int]", "internal/bytealg.MakeNoZero"], unfollowed := true, recurses := true, named := ["unicode/utf8.first", "unicode/utf8.acceptRanges", "internal/bytealg.MaxLen"], apart := false, laid := [("unicode/utf8.acceptRanges", laid_unicode_utf8_acceptRanges), ("unicode/utf8.first", laid_unicode_utf8_first)], narrowed := true }
def SelectionDefaultsUptoSaid : Prop := selectionDefaultsUptoRow.holds Tryz.pinned (OpenSpec.upto selectionDefaultsSpec)

/-- 'variantproxylaw17.SelectionAcceptable', WHERE WHAT IT READS IS OF BULK AT MOST 1048576: true; the input reads as it did. -/
def selectionAcceptableUptoRow : OpenClaim := { program := "ytjbcomdljmfgjaagreatdoor", sum := "e906473d1b9a97002831bb78af7ad2abd249289b719cd0276bd2b7f12abab639", func := "variantproxy/variantproxylaw17.SelectionAcceptable", spec := "selectionAcceptable", inPlace := ["internal/bytealg.IndexByteString", "internal/bytealg.IndexString", "internal/abi.NoEscape", "internal/bytealg.CountString", "slices.overlaps[string]", "slices.overlaps[int]", "internal/bytealg.MakeNoZero"], unfollowed := true, recurses := true, named := ["unicode/utf8.first", "unicode/utf8.acceptRanges", "internal/bytealg.MaxLen"], apart := false, laid := [("unicode/utf8.acceptRanges", laid_unicode_utf8_acceptRanges), ("unicode/utf8.first", laid_unicode_utf8_first)], narrowed := true }
def SelectionAcceptableUptoSaid : Prop := selectionAcceptableUptoRow.holds Tryz.pinned (OpenSpec.upto selectionAcceptableSpec)

/-- 'variantproxylaw18.ClassDecides', WHERE WHAT IT READS IS OF BULK AT MOST 1048576: true; the input reads as it did. -/
def classDecidesUptoRow : OpenClaim := { program := "ytjbcomdljmfgjaagreatdoor", sum := "e906473d1b9a97002831bb78af7ad2abd249289b719cd0276bd2b7f12abab639", func := "variantproxy/variantproxylaw18.ClassDecides", spec := "classDecides", inPlace := ["internal/abi.NoEscape", "internal/bytealg.IndexByteString", "internal/bytealg.IndexString", "internal/bytealg.CountString", "slices.overlaps[string]", "slices.overlaps[int]", "internal/bytealg.MakeNoZero"], unfollowed := true, recurses := true, named := ["unicode/utf8.first", "unicode/utf8.acceptRanges", "internal/bytealg.MaxLen"], apart := false, laid := [("unicode/utf8.acceptRanges", laid_unicode_utf8_acceptRanges), ("unicode/utf8.first", laid_unicode_utf8_first)], narrowed := true }
def ClassDecidesUptoSaid : Prop := classDecidesUptoRow.holds Tryz.pinned (OpenSpec.upto classDecidesSpec)

/-- 'variantproxylaw18.ClassNormalizes', WHERE WHAT IT READS IS OF BULK AT MOST 1048576: true; the input reads as it did. -/
def classNormalizesUptoRow : OpenClaim := { program := "ytjbcomdljmfgjaagreatdoor", sum := "e906473d1b9a97002831bb78af7ad2abd249289b719cd0276bd2b7f12abab639", func := "variantproxy/variantproxylaw18.ClassNormalizes", spec := "classNormalizes", inPlace := ["internal/bytealg.IndexByteString", "internal/bytealg.IndexString", "internal/abi.NoEscape", "internal/bytealg.CountString", "internal/bytealg.MakeNoZero", "slices.overlaps[string]", "slices.overlaps[int]"], unfollowed := true, recurses := true, named := ["unicode/utf8.first", "unicode/utf8.acceptRanges", "internal/bytealg.MaxLen"], apart := false, laid := [("unicode/utf8.acceptRanges", laid_unicode_utf8_acceptRanges), ("unicode/utf8.first", laid_unicode_utf8_first)], narrowed := true }
def ClassNormalizesUptoSaid : Prop := classNormalizesUptoRow.holds Tryz.pinned (OpenSpec.upto classNormalizesSpec)

end Rows
end Go.Proofs.YtjbcomdljmfgjaaGreatDoor
