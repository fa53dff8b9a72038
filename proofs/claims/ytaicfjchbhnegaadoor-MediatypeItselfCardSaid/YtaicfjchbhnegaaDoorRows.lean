/-
  NARROWER THAN 'FOR EVERY INPUT', by the rows' own cells (each row's printed sentence says how): FieldlineParses: laid · FieldlineFormats: laid · FieldlineBack: laid · FieldlineLists: laid · FieldlineEdits: laid · FieldlineSets: laid · ParamParses: laid · ParamBlanks: laid · ParamBack: laid · MediatypeParses: laid · MediatypeItself: laid · ParamFormats: laid · MediatypeMatches: laid · MediatypeBack: laid.
  DERIVED. THE GIVEN ROWS OF THIS SEAT. 14 by the template 'for every input the law returns true; each argument reads behind the call as it read before'; 0 by the template 'total and deterministic' (their statements: YtaicfjchbhnegaaDoorTotals.lean).
  GIVEN WITH THE SEED: the statements are not yours to turn. If you find one false, say at which input.
  Laid BY PROGRAM, IN A SANDBOX (cutbox-rows.mjs): the forced cells as the released guide's own fill.sh prints them over the translation 781309c235e342a5… (all of the seat's roots in one cut). By AI agents, Wed Nov 11 2026. No macro, syntax, notation, axiom, sorry.
-/
import Derived.Test.YtaicfjchbhnegaaDoorChecked
import GoSem.PinnedTables
import GoSem.Claim
import GoSem.ClaimJoined
import GoSem.ClaimMapViews
import Derived.JoinedTies
import Derived.KernelRfl
namespace Go.Proofs.YtaicfjchbhnegaaDoor
/- THE CELL 'sum', in the pinned program and in every row, IS THE sha256 OF THE DUMP (.gsa) THAT YtaicfjchbhnegaaDoorProg.lean LOADS. Nothing in Lean hashes anything: it is a label: what it is worth is what the hold of that sum in a sandbox is worth. -/
noncomputable def Tryd.pinned : Pinned := { name := "ytaicfjchbhnegaadoor", sum := "781309c235e342a57caec2c8e7fa306957928adc29a6e81bbca233e34ad92f55", checked := Tryd.checked }
namespace Rows
def none {H : Type} : Left H := { results := [], args := [] }

/- WHAT THE LISTED PACKAGE-LEVEL VARIABLES READ AS WHEN THE CALL BEGINS. Each datum BY PROGRAM (the guide's laid-datum.mjs) off the statement by which the dump's own 'gosem.cut.vars' lays the variable. In a bare row this is a premise. The card (YtaicfjchbhnegaaDoorCards.lean) ties it to the program's text. -/
def laid_unicode_utf8_acceptRanges {H : Type} : DataW H := .agg [.agg [.lit (.int .u8 128), .lit (.int .u8 191)], .agg [.lit (.int .u8 160), .lit (.int .u8 191)], .agg [.lit (.int .u8 128), .lit (.int .u8 159)], .agg [.lit (.int .u8 144), .lit (.int .u8 191)], .agg [.lit (.int .u8 128), .lit (.int .u8 143)], .agg [.lit (.int .u8 0), .lit (.int .u8 0)], .agg [.lit (.int .u8 0), .lit (.int .u8 0)], .agg [.lit (.int .u8 0), .lit (.int .u8 0)], .agg [.lit (.int .u8 0), .lit (.int .u8 0)], .agg [.lit (.int .u8 0), .lit (.int .u8 0)], .agg [.lit (.int .u8 0), .lit (.int .u8 0)], .agg [.lit (.int .u8 0), .lit (.int .u8 0)], .agg [.lit (.int .u8 0), .lit (.int .u8 0)], .agg [.lit (.int .u8 0), .lit (.int .u8 0)], .agg [.lit (.int .u8 0), .lit (.int .u8 0)], .agg [.lit (.int .u8 0), .lit (.int .u8 0)]]
/-- One of Go's own tables, pinned by name: the form's constant. -/
def laid_unicode_utf8_first : DataW Unit := Go.Pinned.utf8First

/-- 'variantproxylaw03.FieldlineParses': WHATEVER THE INPUT: true; the input reads as it did. -/
def fieldlineParsesSpec : ChangeSpec := { name := "fieldlineParses", fn := fun _ => fun
  | [d] => { results := [.lit (.bool true)], args := [d] }
  | _ => none }
def fieldlineParsesRow : OpenClaim := { program := "ytaicfjchbhnegaadoor", sum := "781309c235e342a57caec2c8e7fa306957928adc29a6e81bbca233e34ad92f55", func := "variantproxy/variantproxylaw03.FieldlineParses", spec := "fieldlineParses", inPlace := ["internal/bytealg.IndexByteString", "internal/bytealg.IndexString"], named := ["internal/bytealg.MaxLen", "unicode/utf8.first", "unicode/utf8.acceptRanges"], apart := false, laid := [("unicode/utf8.acceptRanges", laid_unicode_utf8_acceptRanges), ("unicode/utf8.first", laid_unicode_utf8_first)] }
def FieldlineParsesSaid : Prop := fieldlineParsesRow.holds Tryd.pinned (OpenSpec.ofChange fieldlineParsesSpec)

/-- ITS FALSE NEIGHBOUR: 'it returns false'. Refute it at one input. -/
def fieldlineParsesWrong : ChangeSpec := { name := "fieldlineParses", fn := fun _ => fun
  | [d] => { results := [.lit (.bool false)], args := [d] }
  | _ => none }
def FieldlineParsesWrongFalsely : Prop := fieldlineParsesRow.holds Tryd.pinned (OpenSpec.ofChange fieldlineParsesWrong)

/-- 'variantproxylaw03.FieldlineFormats': WHATEVER THE INPUT: true; the input reads as it did. -/
def fieldlineFormatsSpec : ChangeSpec := { name := "fieldlineFormats", fn := fun _ => fun
  | [d] => { results := [.lit (.bool true)], args := [d] }
  | _ => none }
def fieldlineFormatsRow : OpenClaim := { program := "ytaicfjchbhnegaadoor", sum := "781309c235e342a57caec2c8e7fa306957928adc29a6e81bbca233e34ad92f55", func := "variantproxy/variantproxylaw03.FieldlineFormats", spec := "fieldlineFormats", inPlace := ["internal/bytealg.IndexByteString", "internal/bytealg.IndexString"], named := ["unicode/utf8.first", "unicode/utf8.acceptRanges", "internal/bytealg.MaxLen"], apart := false, laid := [("unicode/utf8.acceptRanges", laid_unicode_utf8_acceptRanges), ("unicode/utf8.first", laid_unicode_utf8_first)] }
def FieldlineFormatsSaid : Prop := fieldlineFormatsRow.holds Tryd.pinned (OpenSpec.ofChange fieldlineFormatsSpec)

/-- ITS FALSE NEIGHBOUR: 'it returns false'. Refute it at one input. -/
def fieldlineFormatsWrong : ChangeSpec := { name := "fieldlineFormats", fn := fun _ => fun
  | [d] => { results := [.lit (.bool false)], args := [d] }
  | _ => none }
def FieldlineFormatsWrongFalsely : Prop := fieldlineFormatsRow.holds Tryd.pinned (OpenSpec.ofChange fieldlineFormatsWrong)

/-- 'variantproxylaw03.FieldlineBack': WHATEVER THE INPUT: true; the input reads as it did. -/
def fieldlineBackSpec : ChangeSpec := { name := "fieldlineBack", fn := fun _ => fun
  | [d] => { results := [.lit (.bool true)], args := [d] }
  | _ => none }
def fieldlineBackRow : OpenClaim := { program := "ytaicfjchbhnegaadoor", sum := "781309c235e342a57caec2c8e7fa306957928adc29a6e81bbca233e34ad92f55", func := "variantproxy/variantproxylaw03.FieldlineBack", spec := "fieldlineBack", inPlace := ["internal/bytealg.IndexByteString", "internal/bytealg.IndexString"], named := ["unicode/utf8.first", "unicode/utf8.acceptRanges", "internal/bytealg.MaxLen"], apart := false, laid := [("unicode/utf8.acceptRanges", laid_unicode_utf8_acceptRanges), ("unicode/utf8.first", laid_unicode_utf8_first)] }
def FieldlineBackSaid : Prop := fieldlineBackRow.holds Tryd.pinned (OpenSpec.ofChange fieldlineBackSpec)

/-- ITS FALSE NEIGHBOUR: 'it returns false'. Refute it at one input. -/
def fieldlineBackWrong : ChangeSpec := { name := "fieldlineBack", fn := fun _ => fun
  | [d] => { results := [.lit (.bool false)], args := [d] }
  | _ => none }
def FieldlineBackWrongFalsely : Prop := fieldlineBackRow.holds Tryd.pinned (OpenSpec.ofChange fieldlineBackWrong)

/-- 'variantproxylaw03.FieldlineLists': WHATEVER THE INPUT: true; the input reads as it did. -/
def fieldlineListsSpec : ChangeSpec := { name := "fieldlineLists", fn := fun _ => fun
  | [d1, d2] => { results := [.lit (.bool true)], args := [d1, d2] }
  | _ => none }
def fieldlineListsRow : OpenClaim := { program := "ytaicfjchbhnegaadoor", sum := "781309c235e342a57caec2c8e7fa306957928adc29a6e81bbca233e34ad92f55", func := "variantproxy/variantproxylaw03.FieldlineLists", spec := "fieldlineLists", inPlace := ["internal/bytealg.IndexByteString", "internal/bytealg.IndexString"], unfollowed := true, recurses := true, named := ["internal/bytealg.MaxLen", "unicode/utf8.first", "unicode/utf8.acceptRanges"], apart := false, laid := [("unicode/utf8.acceptRanges", laid_unicode_utf8_acceptRanges), ("unicode/utf8.first", laid_unicode_utf8_first)] }
def FieldlineListsSaid : Prop := fieldlineListsRow.holds Tryd.pinned (OpenSpec.ofChange fieldlineListsSpec)

/-- ITS FALSE NEIGHBOUR: 'it returns false'. Refute it at one input. -/
def fieldlineListsWrong : ChangeSpec := { name := "fieldlineLists", fn := fun _ => fun
  | [d1, d2] => { results := [.lit (.bool false)], args := [d1, d2] }
  | _ => none }
def FieldlineListsWrongFalsely : Prop := fieldlineListsRow.holds Tryd.pinned (OpenSpec.ofChange fieldlineListsWrong)

/-- 'variantproxylaw03.FieldlineEdits': WHATEVER THE INPUT: true; the input reads as it did. -/
def fieldlineEditsSpec : ChangeSpec := { name := "fieldlineEdits", fn := fun _ => fun
  | [d1, d2, d3] => { results := [.lit (.bool true)], args := [d1, d2, d3] }
  | _ => none }
def fieldlineEditsRow : OpenClaim := { program := "ytaicfjchbhnegaadoor", sum := "781309c235e342a57caec2c8e7fa306957928adc29a6e81bbca233e34ad92f55", func := "variantproxy/variantproxylaw03.FieldlineEdits", spec := "fieldlineEdits", inPlace := ["internal/bytealg.IndexByteString", "internal/bytealg.IndexString"], unfollowed := true, recurses := true, named := ["internal/bytealg.MaxLen", "unicode/utf8.first", "unicode/utf8.acceptRanges"], apart := false, laid := [("unicode/utf8.acceptRanges", laid_unicode_utf8_acceptRanges), ("unicode/utf8.first", laid_unicode_utf8_first)] }
def FieldlineEditsSaid : Prop := fieldlineEditsRow.holds Tryd.pinned (OpenSpec.ofChange fieldlineEditsSpec)

/-- ITS FALSE NEIGHBOUR: 'it returns false'. Refute it at one input. -/
def fieldlineEditsWrong : ChangeSpec := { name := "fieldlineEdits", fn := fun _ => fun
  | [d1, d2, d3] => { results := [.lit (.bool false)], args := [d1, d2, d3] }
  | _ => none }
def FieldlineEditsWrongFalsely : Prop := fieldlineEditsRow.holds Tryd.pinned (OpenSpec.ofChange fieldlineEditsWrong)

/-- 'variantproxylaw03.FieldlineSets': WHATEVER THE INPUT: true; the input reads as it did. -/
def fieldlineSetsSpec : ChangeSpec := { name := "fieldlineSets", fn := fun _ => fun
  | [d1, d2, d3, d4] => { results := [.lit (.bool true)], args := [d1, d2, d3, d4] }
  | _ => none }
def fieldlineSetsRow : OpenClaim := { program := "ytaicfjchbhnegaadoor", sum := "781309c235e342a57caec2c8e7fa306957928adc29a6e81bbca233e34ad92f55", func := "variantproxy/variantproxylaw03.FieldlineSets", spec := "fieldlineSets", inPlace := ["internal/bytealg.IndexByteString", "internal/bytealg.IndexString"], unfollowed := true, recurses := true, named := ["internal/bytealg.MaxLen", "unicode/utf8.first", "unicode/utf8.acceptRanges"], apart := false, laid := [("unicode/utf8.acceptRanges", laid_unicode_utf8_acceptRanges), ("unicode/utf8.first", laid_unicode_utf8_first)] }
def FieldlineSetsSaid : Prop := fieldlineSetsRow.holds Tryd.pinned (OpenSpec.ofChange fieldlineSetsSpec)

/-- ITS FALSE NEIGHBOUR: 'it returns false'. Refute it at one input. -/
def fieldlineSetsWrong : ChangeSpec := { name := "fieldlineSets", fn := fun _ => fun
  | [d1, d2, d3, d4] => { results := [.lit (.bool false)], args := [d1, d2, d3, d4] }
  | _ => none }
def FieldlineSetsWrongFalsely : Prop := fieldlineSetsRow.holds Tryd.pinned (OpenSpec.ofChange fieldlineSetsWrong)

/-- 'variantproxylaw09.ParamParses': WHATEVER THE INPUT: true; the input reads as it did. -/
def paramParsesSpec : ChangeSpec := { name := "paramParses", fn := fun _ => fun
  | [d] => { results := [.lit (.bool true)], args := [d] }
  | _ => none }
def paramParsesRow : OpenClaim := { program := "ytaicfjchbhnegaadoor", sum := "781309c235e342a57caec2c8e7fa306957928adc29a6e81bbca233e34ad92f55", func := "variantproxy/variantproxylaw09.ParamParses", spec := "paramParses", inPlace := ["internal/bytealg.IndexByteString", "internal/bytealg.IndexString"], named := ["unicode/utf8.first", "unicode/utf8.acceptRanges", "internal/bytealg.MaxLen"], apart := false, laid := [("unicode/utf8.acceptRanges", laid_unicode_utf8_acceptRanges), ("unicode/utf8.first", laid_unicode_utf8_first)] }
def ParamParsesSaid : Prop := paramParsesRow.holds Tryd.pinned (OpenSpec.ofChange paramParsesSpec)

/-- ITS FALSE NEIGHBOUR: 'it returns false'. Refute it at one input. -/
def paramParsesWrong : ChangeSpec := { name := "paramParses", fn := fun _ => fun
  | [d] => { results := [.lit (.bool false)], args := [d] }
  | _ => none }
def ParamParsesWrongFalsely : Prop := paramParsesRow.holds Tryd.pinned (OpenSpec.ofChange paramParsesWrong)

/-- 'variantproxylaw09.ParamBlanks': WHATEVER THE INPUT: true; the input reads as it did. -/
def paramBlanksSpec : ChangeSpec := { name := "paramBlanks", fn := fun _ => fun
  | [d1, d2, d3] => { results := [.lit (.bool true)], args := [d1, d2, d3] }
  | _ => none }
def paramBlanksRow : OpenClaim := { program := "ytaicfjchbhnegaadoor", sum := "781309c235e342a57caec2c8e7fa306957928adc29a6e81bbca233e34ad92f55", func := "variantproxy/variantproxylaw09.ParamBlanks", spec := "paramBlanks", inPlace := ["internal/bytealg.IndexByteString", "internal/bytealg.IndexString"], named := ["unicode/utf8.first", "unicode/utf8.acceptRanges", "internal/bytealg.MaxLen"], apart := false, laid := [("unicode/utf8.acceptRanges", laid_unicode_utf8_acceptRanges), ("unicode/utf8.first", laid_unicode_utf8_first)] }
def ParamBlanksSaid : Prop := paramBlanksRow.holds Tryd.pinned (OpenSpec.ofChange paramBlanksSpec)

/-- ITS FALSE NEIGHBOUR: 'it returns false'. Refute it at one input. -/
def paramBlanksWrong : ChangeSpec := { name := "paramBlanks", fn := fun _ => fun
  | [d1, d2, d3] => { results := [.lit (.bool false)], args := [d1, d2, d3] }
  | _ => none }
def ParamBlanksWrongFalsely : Prop := paramBlanksRow.holds Tryd.pinned (OpenSpec.ofChange paramBlanksWrong)

/-- 'variantproxylaw09.ParamBack': WHATEVER THE INPUT: true; the input reads as it did. -/
def paramBackSpec : ChangeSpec := { name := "paramBack", fn := fun _ => fun
  | [d1, d2] => { results := [.lit (.bool true)], args := [d1, d2] }
  | _ => none }
def paramBackRow : OpenClaim := { program := "ytaicfjchbhnegaadoor", sum := "781309c235e342a57caec2c8e7fa306957928adc29a6e81bbca233e34ad92f55", func := "variantproxy/variantproxylaw09.ParamBack", spec := "paramBack", inPlace := ["internal/abi.NoEscape", "internal/bytealg.IndexByteString", "internal/bytealg.IndexString"], named := ["unicode/utf8.first", "unicode/utf8.acceptRanges", "internal/bytealg.MaxLen"], apart := false, laid := [("unicode/utf8.acceptRanges", laid_unicode_utf8_acceptRanges), ("unicode/utf8.first", laid_unicode_utf8_first)] }
def ParamBackSaid : Prop := paramBackRow.holds Tryd.pinned (OpenSpec.ofChange paramBackSpec)

/-- ITS FALSE NEIGHBOUR: 'it returns false'. Refute it at one input. -/
def paramBackWrong : ChangeSpec := { name := "paramBack", fn := fun _ => fun
  | [d1, d2] => { results := [.lit (.bool false)], args := [d1, d2] }
  | _ => none }
def ParamBackWrongFalsely : Prop := paramBackRow.holds Tryd.pinned (OpenSpec.ofChange paramBackWrong)

/-- 'variantproxylaw10.MediatypeParses': WHATEVER THE INPUT: true; the input reads as it did. -/
def mediatypeParsesSpec : ChangeSpec := { name := "mediatypeParses", fn := fun _ => fun
  | [d] => { results := [.lit (.bool true)], args := [d] }
  | _ => none }
def mediatypeParsesRow : OpenClaim := { program := "ytaicfjchbhnegaadoor", sum := "781309c235e342a57caec2c8e7fa306957928adc29a6e81bbca233e34ad92f55", func := "variantproxy/variantproxylaw10.MediatypeParses", spec := "mediatypeParses", inPlace := ["internal/bytealg.IndexByteString", "internal/bytealg.IndexString"], named := ["unicode/utf8.first", "unicode/utf8.acceptRanges", "internal/bytealg.MaxLen"], apart := false, laid := [("unicode/utf8.acceptRanges", laid_unicode_utf8_acceptRanges), ("unicode/utf8.first", laid_unicode_utf8_first)] }
def MediatypeParsesSaid : Prop := mediatypeParsesRow.holds Tryd.pinned (OpenSpec.ofChange mediatypeParsesSpec)

/-- ITS FALSE NEIGHBOUR: 'it returns false'. Refute it at one input. -/
def mediatypeParsesWrong : ChangeSpec := { name := "mediatypeParses", fn := fun _ => fun
  | [d] => { results := [.lit (.bool false)], args := [d] }
  | _ => none }
def MediatypeParsesWrongFalsely : Prop := mediatypeParsesRow.holds Tryd.pinned (OpenSpec.ofChange mediatypeParsesWrong)

/-- 'variantproxylaw10.MediatypeItself': WHATEVER THE INPUT: true; the input reads as it did. -/
def mediatypeItselfSpec : ChangeSpec := { name := "mediatypeItself", fn := fun _ => fun
  | [d1, d2] => { results := [.lit (.bool true)], args := [d1, d2] }
  | _ => none }
def mediatypeItselfRow : OpenClaim := { program := "ytaicfjchbhnegaadoor", sum := "781309c235e342a57caec2c8e7fa306957928adc29a6e81bbca233e34ad92f55", func := "variantproxy/variantproxylaw10.MediatypeItself", spec := "mediatypeItself", inPlace := ["internal/bytealg.IndexByteString", "internal/bytealg.IndexString"], named := ["unicode/utf8.first", "unicode/utf8.acceptRanges", "internal/bytealg.MaxLen"], apart := false, laid := [("unicode/utf8.acceptRanges", laid_unicode_utf8_acceptRanges), ("unicode/utf8.first", laid_unicode_utf8_first)] }
def MediatypeItselfSaid : Prop := mediatypeItselfRow.holds Tryd.pinned (OpenSpec.ofChange mediatypeItselfSpec)

/-- ITS FALSE NEIGHBOUR: 'it returns false'. Refute it at one input. -/
def mediatypeItselfWrong : ChangeSpec := { name := "mediatypeItself", fn := fun _ => fun
  | [d1, d2] => { results := [.lit (.bool false)], args := [d1, d2] }
  | _ => none }
def MediatypeItselfWrongFalsely : Prop := mediatypeItselfRow.holds Tryd.pinned (OpenSpec.ofChange mediatypeItselfWrong)

/-- 'variantproxylaw09.ParamFormats': WHATEVER THE INPUT: true; the input reads as it did. -/
def paramFormatsSpec : ChangeSpec := { name := "paramFormats", fn := fun _ => fun
  | [d1, d2, d3] => { results := [.lit (.bool true)], args := [d1, d2, d3] }
  | _ => none }
def paramFormatsRow : OpenClaim := { program := "ytaicfjchbhnegaadoor", sum := "781309c235e342a57caec2c8e7fa306957928adc29a6e81bbca233e34ad92f55", func := "variantproxy/variantproxylaw09.ParamFormats", spec := "paramFormats", inPlace := ["internal/abi.NoEscape", "internal/bytealg.IndexByteString", "internal/bytealg.IndexString"], named := ["unicode/utf8.first", "unicode/utf8.acceptRanges", "internal/bytealg.MaxLen"], apart := false, laid := [("unicode/utf8.acceptRanges", laid_unicode_utf8_acceptRanges), ("unicode/utf8.first", laid_unicode_utf8_first)] }
def ParamFormatsSaid : Prop := paramFormatsRow.holds Tryd.pinned (OpenSpec.ofChange paramFormatsSpec)

/-- ITS FALSE NEIGHBOUR: 'it returns false'. Refute it at one input. -/
def paramFormatsWrong : ChangeSpec := { name := "paramFormats", fn := fun _ => fun
  | [d1, d2, d3] => { results := [.lit (.bool false)], args := [d1, d2, d3] }
  | _ => none }
def ParamFormatsWrongFalsely : Prop := paramFormatsRow.holds Tryd.pinned (OpenSpec.ofChange paramFormatsWrong)

/-- 'variantproxylaw10.MediatypeMatches': WHATEVER THE INPUT: true; the input reads as it did. -/
def mediatypeMatchesSpec : ChangeSpec := { name := "mediatypeMatches", fn := fun _ => fun
  | [d1, d2] => { results := [.lit (.bool true)], args := [d1, d2] }
  | _ => none }
def mediatypeMatchesRow : OpenClaim := { program := "ytaicfjchbhnegaadoor", sum := "781309c235e342a57caec2c8e7fa306957928adc29a6e81bbca233e34ad92f55", func := "variantproxy/variantproxylaw10.MediatypeMatches", spec := "mediatypeMatches", inPlace := ["internal/abi.NoEscape", "internal/bytealg.IndexByteString", "internal/bytealg.IndexString"], named := ["unicode/utf8.first", "unicode/utf8.acceptRanges", "internal/bytealg.MaxLen"], apart := false, laid := [("unicode/utf8.acceptRanges", laid_unicode_utf8_acceptRanges), ("unicode/utf8.first", laid_unicode_utf8_first)] }
def MediatypeMatchesSaid : Prop := mediatypeMatchesRow.holds Tryd.pinned (OpenSpec.ofChange mediatypeMatchesSpec)

/-- ITS FALSE NEIGHBOUR: 'it returns false'. Refute it at one input. -/
def mediatypeMatchesWrong : ChangeSpec := { name := "mediatypeMatches", fn := fun _ => fun
  | [d1, d2] => { results := [.lit (.bool false)], args := [d1, d2] }
  | _ => none }
def MediatypeMatchesWrongFalsely : Prop := mediatypeMatchesRow.holds Tryd.pinned (OpenSpec.ofChange mediatypeMatchesWrong)

/-- 'variantproxylaw10.MediatypeBack': WHATEVER THE INPUT: true; the input reads as it did. -/
def mediatypeBackSpec : ChangeSpec := { name := "mediatypeBack", fn := fun _ => fun
  | [d] => { results := [.lit (.bool true)], args := [d] }
  | _ => none }
def mediatypeBackRow : OpenClaim := { program := "ytaicfjchbhnegaadoor", sum := "781309c235e342a57caec2c8e7fa306957928adc29a6e81bbca233e34ad92f55", func := "variantproxy/variantproxylaw10.MediatypeBack", spec := "mediatypeBack", inPlace := ["internal/bytealg.IndexByteString", "internal/bytealg.IndexString", "internal/abi.NoEscape"], named := ["unicode/utf8.first", "unicode/utf8.acceptRanges", "internal/bytealg.MaxLen"], apart := false, laid := [("unicode/utf8.acceptRanges", laid_unicode_utf8_acceptRanges), ("unicode/utf8.first", laid_unicode_utf8_first)] }
def MediatypeBackSaid : Prop := mediatypeBackRow.holds Tryd.pinned (OpenSpec.ofChange mediatypeBackSpec)

/-- ITS FALSE NEIGHBOUR: 'it returns false'. Refute it at one input. -/
def mediatypeBackWrong : ChangeSpec := { name := "mediatypeBack", fn := fun _ => fun
  | [d] => { results := [.lit (.bool false)], args := [d] }
  | _ => none }
def MediatypeBackWrongFalsely : Prop := mediatypeBackRow.holds Tryd.pinned (OpenSpec.ofChange mediatypeBackWrong)

/- THE SECOND FORM. 'bulk': how many values and letters a reading holds, each counted each time it is reached (what is shared counts as often as it is met; a slice's spare places count too). A statement '..UptoSaid' is the law's where the arguments, and the package variables that the reading takes, are together of bulk at most 1048576: NARROWER than '..Said'. Prove '..Said' where nothing that the law and all that it calls make is longer than what came in: it says more and counts as full. Else prove '..UptoSaid'. A law counts once. -/
mutual
def uptoBulk {H : Type} : DataW H → Nat
  | .lit (.string bytes) => bytes.length + 1
  | .lit _ => 1
  | .nil => 1
  | .ptr d => uptoBulk d + 1
  | .slice elems spare => uptoBulkAll elems + uptoBulkAll spare + 1
  | .agg parts => uptoBulkAll parts + 1
  | .iface _ d => uptoBulk d + 1
  | .map entries => uptoBulkEntries entries + 1
  | .held _ => 1
def uptoBulkAll {H : Type} : List (DataW H) → Nat
  | [] => 0
  | d :: r => uptoBulk d + uptoBulkAll r
def uptoBulkEntries {H : Type} : List (Lit × DataW H) → Nat
  | [] => 0
  | x :: r => uptoBulkEntry x + uptoBulkEntries r
def uptoBulkEntry {H : Type} : Lit × DataW H → Nat
  | (.string bytes, d) => bytes.length + uptoBulk d + 1
  | (_, d) => uptoBulk d + 1
 end
def uptoSmall : (H : Type) → List (DataW H) → Bool := fun _ ds => decide (uptoBulkAll ds ≤ 1048576)
def OpenSpec.upto (s : _root_.Go.ChangeSpec) : _root_.Go.OpenSpec := { _root_.Go.OpenSpec.ofChange s with cond := some uptoSmall }

/-- 'variantproxylaw03.FieldlineParses', WHERE WHAT IT READS IS OF BULK AT MOST 1048576: true; the input reads as it did. -/
def fieldlineParsesUptoRow : OpenClaim := { program := "ytaicfjchbhnegaadoor", sum := "781309c235e342a57caec2c8e7fa306957928adc29a6e81bbca233e34ad92f55", func := "variantproxy/variantproxylaw03.FieldlineParses", spec := "fieldlineParses", inPlace := ["internal/bytealg.IndexByteString", "internal/bytealg.IndexString"], named := ["internal/bytealg.MaxLen", "unicode/utf8.first", "unicode/utf8.acceptRanges"], apart := false, laid := [("unicode/utf8.acceptRanges", laid_unicode_utf8_acceptRanges), ("unicode/utf8.first", laid_unicode_utf8_first)], narrowed := true }
def FieldlineParsesUptoSaid : Prop := fieldlineParsesUptoRow.holds Tryd.pinned (OpenSpec.upto fieldlineParsesSpec)

/-- 'variantproxylaw03.FieldlineFormats', WHERE WHAT IT READS IS OF BULK AT MOST 1048576: true; the input reads as it did. -/
def fieldlineFormatsUptoRow : OpenClaim := { program := "ytaicfjchbhnegaadoor", sum := "781309c235e342a57caec2c8e7fa306957928adc29a6e81bbca233e34ad92f55", func := "variantproxy/variantproxylaw03.FieldlineFormats", spec := "fieldlineFormats", inPlace := ["internal/bytealg.IndexByteString", "internal/bytealg.IndexString"], named := ["unicode/utf8.first", "unicode/utf8.acceptRanges", "internal/bytealg.MaxLen"], apart := false, laid := [("unicode/utf8.acceptRanges", laid_unicode_utf8_acceptRanges), ("unicode/utf8.first", laid_unicode_utf8_first)], narrowed := true }
def FieldlineFormatsUptoSaid : Prop := fieldlineFormatsUptoRow.holds Tryd.pinned (OpenSpec.upto fieldlineFormatsSpec)

/-- 'variantproxylaw03.FieldlineBack', WHERE WHAT IT READS IS OF BULK AT MOST 1048576: true; the input reads as it did. -/
def fieldlineBackUptoRow : OpenClaim := { program := "ytaicfjchbhnegaadoor", sum := "781309c235e342a57caec2c8e7fa306957928adc29a6e81bbca233e34ad92f55", func := "variantproxy/variantproxylaw03.FieldlineBack", spec := "fieldlineBack", inPlace := ["internal/bytealg.IndexByteString", "internal/bytealg.IndexString"], named := ["unicode/utf8.first", "unicode/utf8.acceptRanges", "internal/bytealg.MaxLen"], apart := false, laid := [("unicode/utf8.acceptRanges", laid_unicode_utf8_acceptRanges), ("unicode/utf8.first", laid_unicode_utf8_first)], narrowed := true }
def FieldlineBackUptoSaid : Prop := fieldlineBackUptoRow.holds Tryd.pinned (OpenSpec.upto fieldlineBackSpec)

/-- 'variantproxylaw03.FieldlineLists', WHERE WHAT IT READS IS OF BULK AT MOST 1048576: true; the input reads as it did. -/
def fieldlineListsUptoRow : OpenClaim := { program := "ytaicfjchbhnegaadoor", sum := "781309c235e342a57caec2c8e7fa306957928adc29a6e81bbca233e34ad92f55", func := "variantproxy/variantproxylaw03.FieldlineLists", spec := "fieldlineLists", inPlace := ["internal/bytealg.IndexByteString", "internal/bytealg.IndexString"], unfollowed := true, recurses := true, named := ["internal/bytealg.MaxLen", "unicode/utf8.first", "unicode/utf8.acceptRanges"], apart := false, laid := [("unicode/utf8.acceptRanges", laid_unicode_utf8_acceptRanges), ("unicode/utf8.first", laid_unicode_utf8_first)], narrowed := true }
def FieldlineListsUptoSaid : Prop := fieldlineListsUptoRow.holds Tryd.pinned (OpenSpec.upto fieldlineListsSpec)

/-- 'variantproxylaw03.FieldlineEdits', WHERE WHAT IT READS IS OF BULK AT MOST 1048576: true; the input reads as it did. -/
def fieldlineEditsUptoRow : OpenClaim := { program := "ytaicfjchbhnegaadoor", sum := "781309c235e342a57caec2c8e7fa306957928adc29a6e81bbca233e34ad92f55", func := "variantproxy/variantproxylaw03.FieldlineEdits", spec := "fieldlineEdits", inPlace := ["internal/bytealg.IndexByteString", "internal/bytealg.IndexString"], unfollowed := true, recurses := true, named := ["internal/bytealg.MaxLen", "unicode/utf8.first", "unicode/utf8.acceptRanges"], apart := false, laid := [("unicode/utf8.acceptRanges", laid_unicode_utf8_acceptRanges), ("unicode/utf8.first", laid_unicode_utf8_first)], narrowed := true }
def FieldlineEditsUptoSaid : Prop := fieldlineEditsUptoRow.holds Tryd.pinned (OpenSpec.upto fieldlineEditsSpec)

/-- 'variantproxylaw03.FieldlineSets', WHERE WHAT IT READS IS OF BULK AT MOST 1048576: true; the input reads as it did. -/
def fieldlineSetsUptoRow : OpenClaim := { program := "ytaicfjchbhnegaadoor", sum := "781309c235e342a57caec2c8e7fa306957928adc29a6e81bbca233e34ad92f55", func := "variantproxy/variantproxylaw03.FieldlineSets", spec := "fieldlineSets", inPlace := ["internal/bytealg.IndexByteString", "internal/bytealg.IndexString"], unfollowed := true, recurses := true, named := ["internal/bytealg.MaxLen", "unicode/utf8.first", "unicode/utf8.acceptRanges"], apart := false, laid := [("unicode/utf8.acceptRanges", laid_unicode_utf8_acceptRanges), ("unicode/utf8.first", laid_unicode_utf8_first)], narrowed := true }
def FieldlineSetsUptoSaid : Prop := fieldlineSetsUptoRow.holds Tryd.pinned (OpenSpec.upto fieldlineSetsSpec)

/-- 'variantproxylaw09.ParamParses', WHERE WHAT IT READS IS OF BULK AT MOST 1048576: true; the input reads as it did. -/
def paramParsesUptoRow : OpenClaim := { program := "ytaicfjchbhnegaadoor", sum := "781309c235e342a57caec2c8e7fa306957928adc29a6e81bbca233e34ad92f55", func := "variantproxy/variantproxylaw09.ParamParses", spec := "paramParses", inPlace := ["internal/bytealg.IndexByteString", "internal/bytealg.IndexString"], named := ["unicode/utf8.first", "unicode/utf8.acceptRanges", "internal/bytealg.MaxLen"], apart := false, laid := [("unicode/utf8.acceptRanges", laid_unicode_utf8_acceptRanges), ("unicode/utf8.first", laid_unicode_utf8_first)], narrowed := true }
def ParamParsesUptoSaid : Prop := paramParsesUptoRow.holds Tryd.pinned (OpenSpec.upto paramParsesSpec)

/-- 'variantproxylaw09.ParamBlanks', WHERE WHAT IT READS IS OF BULK AT MOST 1048576: true; the input reads as it did. -/
def paramBlanksUptoRow : OpenClaim := { program := "ytaicfjchbhnegaadoor", sum := "781309c235e342a57caec2c8e7fa306957928adc29a6e81bbca233e34ad92f55", func := "variantproxy/variantproxylaw09.ParamBlanks", spec := "paramBlanks", inPlace := ["internal/bytealg.IndexByteString", "internal/bytealg.IndexString"], named := ["unicode/utf8.first", "unicode/utf8.acceptRanges", "internal/bytealg.MaxLen"], apart := false, laid := [("unicode/utf8.acceptRanges", laid_unicode_utf8_acceptRanges), ("unicode/utf8.first", laid_unicode_utf8_first)], narrowed := true }
def ParamBlanksUptoSaid : Prop := paramBlanksUptoRow.holds Tryd.pinned (OpenSpec.upto paramBlanksSpec)

/-- 'variantproxylaw09.ParamBack', WHERE WHAT IT READS IS OF BULK AT MOST 1048576: true; the input reads as it did. -/
def paramBackUptoRow : OpenClaim := { program := "ytaicfjchbhnegaadoor", sum := "781309c235e342a57caec2c8e7fa306957928adc29a6e81bbca233e34ad92f55", func := "variantproxy/variantproxylaw09.ParamBack", spec := "paramBack", inPlace := ["internal/abi.NoEscape", "internal/bytealg.IndexByteString", "internal/bytealg.IndexString"], named := ["unicode/utf8.first", "unicode/utf8.acceptRanges", "internal/bytealg.MaxLen"], apart := false, laid := [("unicode/utf8.acceptRanges", laid_unicode_utf8_acceptRanges), ("unicode/utf8.first", laid_unicode_utf8_first)], narrowed := true }
def ParamBackUptoSaid : Prop := paramBackUptoRow.holds Tryd.pinned (OpenSpec.upto paramBackSpec)

/-- 'variantproxylaw10.MediatypeParses', WHERE WHAT IT READS IS OF BULK AT MOST 1048576: true; the input reads as it did. -/
def mediatypeParsesUptoRow : OpenClaim := { program := "ytaicfjchbhnegaadoor", sum := "781309c235e342a57caec2c8e7fa306957928adc29a6e81bbca233e34ad92f55", func := "variantproxy/variantproxylaw10.MediatypeParses", spec := "mediatypeParses", inPlace := ["internal/bytealg.IndexByteString", "internal/bytealg.IndexString"], named := ["unicode/utf8.first", "unicode/utf8.acceptRanges", "internal/bytealg.MaxLen"], apart := false, laid := [("unicode/utf8.acceptRanges", laid_unicode_utf8_acceptRanges), ("unicode/utf8.first", laid_unicode_utf8_first)], narrowed := true }
def MediatypeParsesUptoSaid : Prop := mediatypeParsesUptoRow.holds Tryd.pinned (OpenSpec.upto mediatypeParsesSpec)

/-- 'variantproxylaw10.MediatypeItself', WHERE WHAT IT READS IS OF BULK AT MOST 1048576: true; the input reads as it did. -/
def mediatypeItselfUptoRow : OpenClaim := { program := "ytaicfjchbhnegaadoor", sum := "781309c235e342a57caec2c8e7fa306957928adc29a6e81bbca233e34ad92f55", func := "variantproxy/variantproxylaw10.MediatypeItself", spec := "mediatypeItself", inPlace := ["internal/bytealg.IndexByteString", "internal/bytealg.IndexString"], named := ["unicode/utf8.first", "unicode/utf8.acceptRanges", "internal/bytealg.MaxLen"], apart := false, laid := [("unicode/utf8.acceptRanges", laid_unicode_utf8_acceptRanges), ("unicode/utf8.first", laid_unicode_utf8_first)], narrowed := true }
def MediatypeItselfUptoSaid : Prop := mediatypeItselfUptoRow.holds Tryd.pinned (OpenSpec.upto mediatypeItselfSpec)

/-- 'variantproxylaw09.ParamFormats', WHERE WHAT IT READS IS OF BULK AT MOST 1048576: true; the input reads as it did. -/
def paramFormatsUptoRow : OpenClaim := { program := "ytaicfjchbhnegaadoor", sum := "781309c235e342a57caec2c8e7fa306957928adc29a6e81bbca233e34ad92f55", func := "variantproxy/variantproxylaw09.ParamFormats", spec := "paramFormats", inPlace := ["internal/abi.NoEscape", "internal/bytealg.IndexByteString", "internal/bytealg.IndexString"], named := ["unicode/utf8.first", "unicode/utf8.acceptRanges", "internal/bytealg.MaxLen"], apart := false, laid := [("unicode/utf8.acceptRanges", laid_unicode_utf8_acceptRanges), ("unicode/utf8.first", laid_unicode_utf8_first)], narrowed := true }
def ParamFormatsUptoSaid : Prop := paramFormatsUptoRow.holds Tryd.pinned (OpenSpec.upto paramFormatsSpec)

/-- 'variantproxylaw10.MediatypeMatches', WHERE WHAT IT READS IS OF BULK AT MOST 1048576: true; the input reads as it did. -/
def mediatypeMatchesUptoRow : OpenClaim := { program := "ytaicfjchbhnegaadoor", sum := "781309c235e342a57caec2c8e7fa306957928adc29a6e81bbca233e34ad92f55", func := "variantproxy/variantproxylaw10.MediatypeMatches", spec := "mediatypeMatches", inPlace := ["internal/abi.NoEscape", "internal/bytealg.IndexByteString", "internal/bytealg.IndexString"], named := ["unicode/utf8.first", "unicode/utf8.acceptRanges", "internal/bytealg.MaxLen"], apart := false, laid := [("unicode/utf8.acceptRanges", laid_unicode_utf8_acceptRanges), ("unicode/utf8.first", laid_unicode_utf8_first)], narrowed := true }
def MediatypeMatchesUptoSaid : Prop := mediatypeMatchesUptoRow.holds Tryd.pinned (OpenSpec.upto mediatypeMatchesSpec)

/-- 'variantproxylaw10.MediatypeBack', WHERE WHAT IT READS IS OF BULK AT MOST 1048576: true; the input reads as it did. -/
def mediatypeBackUptoRow : OpenClaim := { program := "ytaicfjchbhnegaadoor", sum := "781309c235e342a57caec2c8e7fa306957928adc29a6e81bbca233e34ad92f55", func := "variantproxy/variantproxylaw10.MediatypeBack", spec := "mediatypeBack", inPlace := ["internal/bytealg.IndexByteString", "internal/bytealg.IndexString", "internal/abi.NoEscape"], named := ["unicode/utf8.first", "unicode/utf8.acceptRanges", "internal/bytealg.MaxLen"], apart := false, laid := [("unicode/utf8.acceptRanges", laid_unicode_utf8_acceptRanges), ("unicode/utf8.first", laid_unicode_utf8_first)], narrowed := true }
def MediatypeBackUptoSaid : Prop := mediatypeBackUptoRow.holds Tryd.pinned (OpenSpec.upto mediatypeBackSpec)

end Rows
end Go.Proofs.YtaicfjchbhnegaaDoor
