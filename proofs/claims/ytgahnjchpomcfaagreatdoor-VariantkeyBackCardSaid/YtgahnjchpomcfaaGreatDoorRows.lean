/-
  NARROWER THAN 'FOR EVERY INPUT', by the rows' own cells (each row's printed sentence says how): VariantkeyParses: laid · VariantsValidity: laid · VariantsParses: laid · VariantsFormats: laid · VariantsBack: laid · VariantsValues: laid · VariantsSame: laid · VariantkeyBack: laid · VariantkeyFormats: laid.
  DERIVED. THE GIVEN ROWS OF THIS SEAT. 9 by the template 'for every input the law returns true; each argument reads behind the call as it read before'; 0 by the template 'total and deterministic' (their statements: YtgahnjchpomcfaaGreatDoorTotals.lean).
  GIVEN WITH THE SEED: the statements are not yours to turn. If you find one false, say at which input.
  Laid BY PROGRAM, IN A SANDBOX (cutbox-rows.mjs): the forced cells as the released guide's own fill.sh prints them over the translation 2e4c10daa397fd11… (all of the seat's roots in one cut). By AI agents, Wed Nov 11 2026. No macro, syntax, notation, axiom, sorry.
-/
import Derived.Test.YtgahnjchpomcfaaGreatDoorChecked
import GoSem.PinnedTables
import GoSem.Claim
import GoSem.ClaimJoined
import GoSem.ClaimMapViews
import Derived.JoinedTies
import Derived.KernelRfl
namespace Go.Proofs.YtgahnjchpomcfaaGreatDoor
/- THE CELL 'sum', in the pinned program and in every row, IS THE sha256 OF THE DUMP (.gsa) THAT YtgahnjchpomcfaaGreatDoorProg.lean LOADS. Nothing in Lean hashes anything: it is a label: what it is worth is what the hold of that sum in a sandbox is worth. -/
noncomputable def Tryz.pinned : Pinned := { name := "ytgahnjchpomcfaagreatdoor", sum := "2e4c10daa397fd11e77fc201b8e4b848daf96d2bdf0e77c8c6f2038a602af443", checked := Tryz.checked }
namespace Rows
def none {H : Type} : Left H := { results := [], args := [] }

/- WHAT THE LISTED PACKAGE-LEVEL VARIABLES READ AS WHEN THE CALL BEGINS. Each datum BY PROGRAM (the guide's laid-datum.mjs) off the statement by which the dump's own 'gosem.cut.vars' lays the variable. In a bare row this is a premise. The card (YtgahnjchpomcfaaGreatDoorCards.lean) ties it to the program's text. -/
def laid_unicode_utf8_acceptRanges {H : Type} : DataW H := .agg [.agg [.lit (.int .u8 128), .lit (.int .u8 191)], .agg [.lit (.int .u8 160), .lit (.int .u8 191)], .agg [.lit (.int .u8 128), .lit (.int .u8 159)], .agg [.lit (.int .u8 144), .lit (.int .u8 191)], .agg [.lit (.int .u8 128), .lit (.int .u8 143)], .agg [.lit (.int .u8 0), .lit (.int .u8 0)], .agg [.lit (.int .u8 0), .lit (.int .u8 0)], .agg [.lit (.int .u8 0), .lit (.int .u8 0)], .agg [.lit (.int .u8 0), .lit (.int .u8 0)], .agg [.lit (.int .u8 0), .lit (.int .u8 0)], .agg [.lit (.int .u8 0), .lit (.int .u8 0)], .agg [.lit (.int .u8 0), .lit (.int .u8 0)], .agg [.lit (.int .u8 0), .lit (.int .u8 0)], .agg [.lit (.int .u8 0), .lit (.int .u8 0)], .agg [.lit (.int .u8 0), .lit (.int .u8 0)], .agg [.lit (.int .u8 0), .lit (.int .u8 0)]]
/-- One of Go's own tables, pinned by name: the form's constant. -/
def laid_unicode_utf8_first : DataW Unit := Go.Pinned.utf8First

/-- 'variantproxylaw16.VariantkeyParses': WHATEVER THE INPUT: true; the input reads as it did. -/
def variantkeyParsesSpec : ChangeSpec := { name := "variantkeyParses", fn := fun _ => fun
  | [d1, d2] => { results := [.lit (.bool true)], args := [d1, d2] }
  | _ => none }
def variantkeyParsesRow : OpenClaim := { program := "ytgahnjchpomcfaagreatdoor", sum := "2e4c10daa397fd11e77fc201b8e4b848daf96d2bdf0e77c8c6f2038a602af443", func := "variantproxy/variantproxylaw16.VariantkeyParses", spec := "variantkeyParses", inPlace := ["internal/bytealg.IndexByteString", "internal/bytealg.IndexString"], unfollowed := true, recurses := true, named := ["unicode/utf8.first", "unicode/utf8.acceptRanges", "internal/bytealg.MaxLen"], apart := false, laid := [("unicode/utf8.acceptRanges", laid_unicode_utf8_acceptRanges), ("unicode/utf8.first", laid_unicode_utf8_first)] }
def VariantkeyParsesSaid : Prop := variantkeyParsesRow.holds Tryz.pinned (OpenSpec.ofChange variantkeyParsesSpec)

/-- ITS FALSE NEIGHBOUR: 'it returns false'. Refute it at one input. -/
def variantkeyParsesWrong : ChangeSpec := { name := "variantkeyParses", fn := fun _ => fun
  | [d1, d2] => { results := [.lit (.bool false)], args := [d1, d2] }
  | _ => none }
def VariantkeyParsesWrongFalsely : Prop := variantkeyParsesRow.holds Tryz.pinned (OpenSpec.ofChange variantkeyParsesWrong)

/-- 'variantproxylaw15.VariantsValidity': WHATEVER THE INPUT: true; the input reads as it did. -/
def variantsValiditySpec : ChangeSpec := { name := "variantsValidity", fn := fun _ => fun
  | [d1, d2] => { results := [.lit (.bool true)], args := [d1, d2] }
  | _ => none }
def variantsValidityRow : OpenClaim := { program := "ytgahnjchpomcfaagreatdoor", sum := "2e4c10daa397fd11e77fc201b8e4b848daf96d2bdf0e77c8c6f2038a602af443", func := "variantproxy/variantproxylaw15.VariantsValidity", spec := "variantsValidity", inPlace := ["internal/bytealg.IndexByteString", "internal/bytealg.IndexString", "internal/abi.NoEscape", "internal/bytealg.MakeNoZero"], unfollowed := true, recurses := true, named := ["unicode/utf8.first", "unicode/utf8.acceptRanges", "internal/bytealg.MaxLen"], apart := false, laid := [("unicode/utf8.acceptRanges", laid_unicode_utf8_acceptRanges), ("unicode/utf8.first", laid_unicode_utf8_first)] }
def VariantsValiditySaid : Prop := variantsValidityRow.holds Tryz.pinned (OpenSpec.ofChange variantsValiditySpec)

/-- ITS FALSE NEIGHBOUR: 'it returns false'. Refute it at one input. -/
def variantsValidityWrong : ChangeSpec := { name := "variantsValidity", fn := fun _ => fun
  | [d1, d2] => { results := [.lit (.bool false)], args := [d1, d2] }
  | _ => none }
def VariantsValidityWrongFalsely : Prop := variantsValidityRow.holds Tryz.pinned (OpenSpec.ofChange variantsValidityWrong)

/-- 'variantproxylaw15.VariantsParses': WHATEVER THE INPUT: true; the input reads as it did. -/
def variantsParsesSpec : ChangeSpec := { name := "variantsParses", fn := fun _ => fun
  | [d] => { results := [.lit (.bool true)], args := [d] }
  | _ => none }
def variantsParsesRow : OpenClaim := { program := "ytgahnjchpomcfaagreatdoor", sum := "2e4c10daa397fd11e77fc201b8e4b848daf96d2bdf0e77c8c6f2038a602af443", func := "variantproxy/variantproxylaw15.VariantsParses", spec := "variantsParses", inPlace := ["internal/bytealg.IndexByteString", "internal/bytealg.IndexString", "internal/abi.NoEscape", "internal/bytealg.MakeNoZero"], unfollowed := true, recurses := true, named := ["unicode/utf8.first", "unicode/utf8.acceptRanges", "internal/bytealg.MaxLen"], apart := false, laid := [("unicode/utf8.acceptRanges", laid_unicode_utf8_acceptRanges), ("unicode/utf8.first", laid_unicode_utf8_first)] }
def VariantsParsesSaid : Prop := variantsParsesRow.holds Tryz.pinned (OpenSpec.ofChange variantsParsesSpec)

/-- ITS FALSE NEIGHBOUR: 'it returns false'. Refute it at one input. -/
def variantsParsesWrong : ChangeSpec := { name := "variantsParses", fn := fun _ => fun
  | [d] => { results := [.lit (.bool false)], args := [d] }
  | _ => none }
def VariantsParsesWrongFalsely : Prop := variantsParsesRow.holds Tryz.pinned (OpenSpec.ofChange variantsParsesWrong)

/-- 'variantproxylaw15.VariantsFormats': WHATEVER THE INPUT: true; the input reads as it did. -/
def variantsFormatsSpec : ChangeSpec := { name := "variantsFormats", fn := fun _ => fun
  | [d] => { results := [.lit (.bool true)], args := [d] }
  | _ => none }
def variantsFormatsRow : OpenClaim := { program := "ytgahnjchpomcfaagreatdoor", sum := "2e4c10daa397fd11e77fc201b8e4b848daf96d2bdf0e77c8c6f2038a602af443", func := "variantproxy/variantproxylaw15.VariantsFormats", spec := "variantsFormats", inPlace := ["internal/bytealg.IndexByteString", "internal/abi.NoEscape", "internal/bytealg.MakeNoZero", "internal/bytealg.IndexString"], unfollowed := true, recurses := true, named := ["unicode/utf8.first", "unicode/utf8.acceptRanges", "internal/bytealg.MaxLen"], apart := false, laid := [("unicode/utf8.acceptRanges", laid_unicode_utf8_acceptRanges), ("unicode/utf8.first", laid_unicode_utf8_first)] }
def VariantsFormatsSaid : Prop := variantsFormatsRow.holds Tryz.pinned (OpenSpec.ofChange variantsFormatsSpec)

/-- ITS FALSE NEIGHBOUR: 'it returns false'. Refute it at one input. -/
def variantsFormatsWrong : ChangeSpec := { name := "variantsFormats", fn := fun _ => fun
  | [d] => { results := [.lit (.bool false)], args := [d] }
  | _ => none }
def VariantsFormatsWrongFalsely : Prop := variantsFormatsRow.holds Tryz.pinned (OpenSpec.ofChange variantsFormatsWrong)

/-- 'variantproxylaw15.VariantsBack': WHATEVER THE INPUT: true; the input reads as it did. -/
def variantsBackSpec : ChangeSpec := { name := "variantsBack", fn := fun _ => fun
  | [d] => { results := [.lit (.bool true)], args := [d] }
  | _ => none }
def variantsBackRow : OpenClaim := { program := "ytgahnjchpomcfaagreatdoor", sum := "2e4c10daa397fd11e77fc201b8e4b848daf96d2bdf0e77c8c6f2038a602af443", func := "variantproxy/variantproxylaw15.VariantsBack", spec := "variantsBack", inPlace := ["internal/bytealg.IndexByteString", "internal/abi.NoEscape", "internal/bytealg.MakeNoZero", "internal/bytealg.IndexString"], unfollowed := true, recurses := true, named := ["unicode/utf8.first", "unicode/utf8.acceptRanges", "internal/bytealg.MaxLen"], apart := false, laid := [("unicode/utf8.acceptRanges", laid_unicode_utf8_acceptRanges), ("unicode/utf8.first", laid_unicode_utf8_first)] }
def VariantsBackSaid : Prop := variantsBackRow.holds Tryz.pinned (OpenSpec.ofChange variantsBackSpec)

/-- ITS FALSE NEIGHBOUR: 'it returns false'. Refute it at one input. -/
def variantsBackWrong : ChangeSpec := { name := "variantsBack", fn := fun _ => fun
  | [d] => { results := [.lit (.bool false)], args := [d] }
  | _ => none }
def VariantsBackWrongFalsely : Prop := variantsBackRow.holds Tryz.pinned (OpenSpec.ofChange variantsBackWrong)

/-- 'variantproxylaw15.VariantsValues': WHATEVER THE INPUT: true; the input reads as it did. -/
def variantsValuesSpec : ChangeSpec := { name := "variantsValues", fn := fun _ => fun
  | [d1, d2, d3] => { results := [.lit (.bool true)], args := [d1, d2, d3] }
  | _ => none }
def variantsValuesRow : OpenClaim := { program := "ytgahnjchpomcfaagreatdoor", sum := "2e4c10daa397fd11e77fc201b8e4b848daf96d2bdf0e77c8c6f2038a602af443", func := "variantproxy/variantproxylaw15.VariantsValues", spec := "variantsValues", inPlace := ["internal/bytealg.IndexByteString", "internal/bytealg.IndexString", "internal/abi.NoEscape", "internal/bytealg.MakeNoZero"], unfollowed := true, recurses := true, named := ["unicode/utf8.first", "unicode/utf8.acceptRanges", "internal/bytealg.MaxLen"], apart := false, laid := [("unicode/utf8.acceptRanges", laid_unicode_utf8_acceptRanges), ("unicode/utf8.first", laid_unicode_utf8_first)] }
def VariantsValuesSaid : Prop := variantsValuesRow.holds Tryz.pinned (OpenSpec.ofChange variantsValuesSpec)

/-- ITS FALSE NEIGHBOUR: 'it returns false'. Refute it at one input. -/
def variantsValuesWrong : ChangeSpec := { name := "variantsValues", fn := fun _ => fun
  | [d1, d2, d3] => { results := [.lit (.bool false)], args := [d1, d2, d3] }
  | _ => none }
def VariantsValuesWrongFalsely : Prop := variantsValuesRow.holds Tryz.pinned (OpenSpec.ofChange variantsValuesWrong)

/-- 'variantproxylaw15.VariantsSame': WHATEVER THE INPUT: true; the input reads as it did. -/
def variantsSameSpec : ChangeSpec := { name := "variantsSame", fn := fun _ => fun
  | [d1, d2, d3, d4] => { results := [.lit (.bool true)], args := [d1, d2, d3, d4] }
  | _ => none }
def variantsSameRow : OpenClaim := { program := "ytgahnjchpomcfaagreatdoor", sum := "2e4c10daa397fd11e77fc201b8e4b848daf96d2bdf0e77c8c6f2038a602af443", func := "variantproxy/variantproxylaw15.VariantsSame", spec := "variantsSame", inPlace := ["internal/bytealg.IndexByteString", "internal/bytealg.IndexString", "internal/abi.NoEscape", "internal/bytealg.MakeNoZero"], unfollowed := true, recurses := true, named := ["unicode/utf8.first", "unicode/utf8.acceptRanges", "internal/bytealg.MaxLen"], apart := false, laid := [("unicode/utf8.acceptRanges", laid_unicode_utf8_acceptRanges), ("unicode/utf8.first", laid_unicode_utf8_first)] }
def VariantsSameSaid : Prop := variantsSameRow.holds Tryz.pinned (OpenSpec.ofChange variantsSameSpec)

/-- ITS FALSE NEIGHBOUR: 'it returns false'. Refute it at one input. -/
def variantsSameWrong : ChangeSpec := { name := "variantsSame", fn := fun _ => fun
  | [d1, d2, d3, d4] => { results := [.lit (.bool false)], args := [d1, d2, d3, d4] }
  | _ => none }
def VariantsSameWrongFalsely : Prop := variantsSameRow.holds Tryz.pinned (OpenSpec.ofChange variantsSameWrong)

/-- 'variantproxylaw16.VariantkeyBack': WHATEVER THE INPUT: true; the input reads as it did. -/
def variantkeyBackSpec : ChangeSpec := { name := "variantkeyBack", fn := fun _ => fun
  | [d1, d2] => { results := [.lit (.bool true)], args := [d1, d2] }
  | _ => none }
def variantkeyBackRow : OpenClaim := { program := "ytgahnjchpomcfaagreatdoor", sum := "2e4c10daa397fd11e77fc201b8e4b848daf96d2bdf0e77c8c6f2038a602af443", func := "variantproxy/variantproxylaw16.VariantkeyBack", spec := "variantkeyBack", inPlace := ["internal/bytealg.IndexByteString", "internal/abi.NoEscape", "internal/bytealg.MakeNoZero", "internal/bytealg.IndexString"], unfollowed := true, recurses := true, named := ["unicode/utf8.first", "unicode/utf8.acceptRanges", "internal/bytealg.MaxLen"], apart := false, laid := [("unicode/utf8.acceptRanges", laid_unicode_utf8_acceptRanges), ("unicode/utf8.first", laid_unicode_utf8_first)] }
def VariantkeyBackSaid : Prop := variantkeyBackRow.holds Tryz.pinned (OpenSpec.ofChange variantkeyBackSpec)

/-- ITS FALSE NEIGHBOUR: 'it returns false'. Refute it at one input. -/
def variantkeyBackWrong : ChangeSpec := { name := "variantkeyBack", fn := fun _ => fun
  | [d1, d2] => { results := [.lit (.bool false)], args := [d1, d2] }
  | _ => none }
def VariantkeyBackWrongFalsely : Prop := variantkeyBackRow.holds Tryz.pinned (OpenSpec.ofChange variantkeyBackWrong)

/-- 'variantproxylaw16.VariantkeyFormats': WHATEVER THE INPUT: true; the input reads as it did. -/
def variantkeyFormatsSpec : ChangeSpec := { name := "variantkeyFormats", fn := fun _ => fun
  | [d1, d2, d3, d4] => { results := [.lit (.bool true)], args := [d1, d2, d3, d4] }
  | _ => none }
def variantkeyFormatsRow : OpenClaim := { program := "ytgahnjchpomcfaagreatdoor", sum := "2e4c10daa397fd11e77fc201b8e4b848daf96d2bdf0e77c8c6f2038a602af443", func := "variantproxy/variantproxylaw16.VariantkeyFormats", spec := "variantkeyFormats", inPlace := ["internal/bytealg.IndexByteString", "internal/abi.NoEscape", "internal/bytealg.MakeNoZero", "internal/bytealg.IndexString"], unfollowed := true, recurses := true, named := ["unicode/utf8.first", "unicode/utf8.acceptRanges", "internal/bytealg.MaxLen"], apart := false, laid := [("unicode/utf8.acceptRanges", laid_unicode_utf8_acceptRanges), ("unicode/utf8.first", laid_unicode_utf8_first)] }
def VariantkeyFormatsSaid : Prop := variantkeyFormatsRow.holds Tryz.pinned (OpenSpec.ofChange variantkeyFormatsSpec)

/-- ITS FALSE NEIGHBOUR: 'it returns false'. Refute it at one input. -/
def variantkeyFormatsWrong : ChangeSpec := { name := "variantkeyFormats", fn := fun _ => fun
  | [d1, d2, d3, d4] => { results := [.lit (.bool false)], args := [d1, d2, d3, d4] }
  | _ => none }
def VariantkeyFormatsWrongFalsely : Prop := variantkeyFormatsRow.holds Tryz.pinned (OpenSpec.ofChange variantkeyFormatsWrong)

/- THE SECOND FORM. 'bulk': how many values and letters a reading holds, each counted each time it is reached (what is shared counts as often as it is met; a slice's spare places count too). A statement '..UptoSaid' is the law's where the arguments, and the package variables that the reading takes, are together of bulk at most 1048576: NARROWER than '..Said'. Prove '..Said' where nothing that the law and all that it calls make is longer than what came in: it says more and counts as full. Else prove '..UptoSaid'. A law counts once. -/
mutual
def uptoBulk {H : Type} : DataW H → Nat
  | .lit (.string bytes) => bytes.length + 1
  | .lit _ => 1
  | .nil => 1
  | .ptr d => uptoBulk d + 1
  | .slice elems spare => uptoBulkAll elems + uptoBulkAll spare + 1
  | .agg parts => uptoBulkAll parts + 1
  | .iface _ d => uptoBulk d + 1
  | .map entries => uptoBulkEntries entries + 1
  | .held _ => 1
def uptoBulkAll {H : Type} : List (DataW H) → Nat
  | [] => 0
  | d :: r => uptoBulk d + uptoBulkAll r
def uptoBulkEntries {H : Type} : List (Lit × DataW H) → Nat
  | [] => 0
  | x :: r => uptoBulkEntry x + uptoBulkEntries r
def uptoBulkEntry {H : Type} : Lit × DataW H → Nat
  | (.string bytes, d) => bytes.length + uptoBulk d + 1
  | (_, d) => uptoBulk d + 1
 end
def uptoSmall : (H : Type) → List (DataW H) → Bool := fun _ ds => decide (uptoBulkAll ds ≤ 1048576)
def OpenSpec.upto (s : _root_.Go.ChangeSpec) : _root_.Go.OpenSpec := { _root_.Go.OpenSpec.ofChange s with cond := some uptoSmall }

/-- 'variantproxylaw16.VariantkeyParses', WHERE WHAT IT READS IS OF BULK AT MOST 1048576: true; the input reads as it did. -/
def variantkeyParsesUptoRow : OpenClaim := { program := "ytgahnjchpomcfaagreatdoor", sum := "2e4c10daa397fd11e77fc201b8e4b848daf96d2bdf0e77c8c6f2038a602af443", func := "variantproxy/variantproxylaw16.VariantkeyParses", spec := "variantkeyParses", inPlace := ["internal/bytealg.IndexByteString", "internal/bytealg.IndexString"], unfollowed := true, recurses := true, named := ["unicode/utf8.first", "unicode/utf8.acceptRanges", "internal/bytealg.MaxLen"], apart := false, laid := [("unicode/utf8.acceptRanges", laid_unicode_utf8_acceptRanges), ("unicode/utf8.first", laid_unicode_utf8_first)], narrowed := true }
def VariantkeyParsesUptoSaid : Prop := variantkeyParsesUptoRow.holds Tryz.pinned (OpenSpec.upto variantkeyParsesSpec)

/-- 'variantproxylaw15.VariantsValidity', WHERE WHAT IT READS IS OF BULK AT MOST 1048576: true; the input reads as it did. -/
def variantsValidityUptoRow : OpenClaim := { program := "ytgahnjchpomcfaagreatdoor", sum := "2e4c10daa397fd11e77fc201b8e4b848daf96d2bdf0e77c8c6f2038a602af443", func := "variantproxy/variantproxylaw15.VariantsValidity", spec := "variantsValidity", inPlace := ["internal/bytealg.IndexByteString", "internal/bytealg.IndexString", "internal/abi.NoEscape", "internal/bytealg.MakeNoZero"], unfollowed := true, recurses := true, named := ["unicode/utf8.first", "unicode/utf8.acceptRanges", "internal/bytealg.MaxLen"], apart := false, laid := [("unicode/utf8.acceptRanges", laid_unicode_utf8_acceptRanges), ("unicode/utf8.first", laid_unicode_utf8_first)], narrowed := true }
def VariantsValidityUptoSaid : Prop := variantsValidityUptoRow.holds Tryz.pinned (OpenSpec.upto variantsValiditySpec)

/-- 'variantproxylaw15.VariantsParses', WHERE WHAT IT READS IS OF BULK AT MOST 1048576: true; the input reads as it did. -/
def variantsParsesUptoRow : OpenClaim := { program := "ytgahnjchpomcfaagreatdoor", sum := "2e4c10daa397fd11e77fc201b8e4b848daf96d2bdf0e77c8c6f2038a602af443", func := "variantproxy/variantproxylaw15.VariantsParses", spec := "variantsParses", inPlace := ["internal/bytealg.IndexByteString", "internal/bytealg.IndexString", "internal/abi.NoEscape", "internal/bytealg.MakeNoZero"], unfollowed := true, recurses := true, named := ["unicode/utf8.first", "unicode/utf8.acceptRanges", "internal/bytealg.MaxLen"], apart := false, laid := [("unicode/utf8.acceptRanges", laid_unicode_utf8_acceptRanges), ("unicode/utf8.first", laid_unicode_utf8_first)], narrowed := true }
def VariantsParsesUptoSaid : Prop := variantsParsesUptoRow.holds Tryz.pinned (OpenSpec.upto variantsParsesSpec)

/-- 'variantproxylaw15.VariantsFormats', WHERE WHAT IT READS IS OF BULK AT MOST 1048576: true; the input reads as it did. -/
def variantsFormatsUptoRow : OpenClaim := { program := "ytgahnjchpomcfaagreatdoor", sum := "2e4c10daa397fd11e77fc201b8e4b848daf96d2bdf0e77c8c6f2038a602af443", func := "variantproxy/variantproxylaw15.VariantsFormats", spec := "variantsFormats", inPlace := ["internal/bytealg.IndexByteString", "internal/abi.NoEscape", "internal/bytealg.MakeNoZero", "internal/bytealg.IndexString"], unfollowed := true, recurses := true, named := ["unicode/utf8.first", "unicode/utf8.acceptRanges", "internal/bytealg.MaxLen"], apart := false, laid := [("unicode/utf8.acceptRanges", laid_unicode_utf8_acceptRanges), ("unicode/utf8.first", laid_unicode_utf8_first)], narrowed := true }
def VariantsFormatsUptoSaid : Prop := variantsFormatsUptoRow.holds Tryz.pinned (OpenSpec.upto variantsFormatsSpec)

/-- 'variantproxylaw15.VariantsBack', WHERE WHAT IT READS IS OF BULK AT MOST 1048576: true; the input reads as it did. -/
def variantsBackUptoRow : OpenClaim := { program := "ytgahnjchpomcfaagreatdoor", sum := "2e4c10daa397fd11e77fc201b8e4b848daf96d2bdf0e77c8c6f2038a602af443", func := "variantproxy/variantproxylaw15.VariantsBack", spec := "variantsBack", inPlace := ["internal/bytealg.IndexByteString", "internal/abi.NoEscape", "internal/bytealg.MakeNoZero", "internal/bytealg.IndexString"], unfollowed := true, recurses := true, named := ["unicode/utf8.first", "unicode/utf8.acceptRanges", "internal/bytealg.MaxLen"], apart := false, laid := [("unicode/utf8.acceptRanges", laid_unicode_utf8_acceptRanges), ("unicode/utf8.first", laid_unicode_utf8_first)], narrowed := true }
def VariantsBackUptoSaid : Prop := variantsBackUptoRow.holds Tryz.pinned (OpenSpec.upto variantsBackSpec)

/-- 'variantproxylaw15.VariantsValues', WHERE WHAT IT READS IS OF BULK AT MOST 1048576: true; the input reads as it did. -/
def variantsValuesUptoRow : OpenClaim := { program := "ytgahnjchpomcfaagreatdoor", sum := "2e4c10daa397fd11e77fc201b8e4b848daf96d2bdf0e77c8c6f2038a602af443", func := "variantproxy/variantproxylaw15.VariantsValues", spec := "variantsValues", inPlace := ["internal/bytealg.IndexByteString", "internal/bytealg.IndexString", "internal/abi.NoEscape", "internal/bytealg.MakeNoZero"], unfollowed := true, recurses := true, named := ["unicode/utf8.first", "unicode/utf8.acceptRanges", "internal/bytealg.MaxLen"], apart := false, laid := [("unicode/utf8.acceptRanges", laid_unicode_utf8_acceptRanges), ("unicode/utf8.first", laid_unicode_utf8_first)], narrowed := true }
def VariantsValuesUptoSaid : Prop := variantsValuesUptoRow.holds Tryz.pinned (OpenSpec.upto variantsValuesSpec)

/-- 'variantproxylaw15.VariantsSame', WHERE WHAT IT READS IS OF BULK AT MOST 1048576: true; the input reads as it did. -/
def variantsSameUptoRow : OpenClaim := { program := "ytgahnjchpomcfaagreatdoor", sum := "2e4c10daa397fd11e77fc201b8e4b848daf96d2bdf0e77c8c6f2038a602af443", func := "variantproxy/variantproxylaw15.VariantsSame", spec := "variantsSame", inPlace := ["internal/bytealg.IndexByteString", "internal/bytealg.IndexString", "internal/abi.NoEscape", "internal/bytealg.MakeNoZero"], unfollowed := true, recurses := true, named := ["unicode/utf8.first", "unicode/utf8.acceptRanges", "internal/bytealg.MaxLen"], apart := false, laid := [("unicode/utf8.acceptRanges", laid_unicode_utf8_acceptRanges), ("unicode/utf8.first", laid_unicode_utf8_first)], narrowed := true }
def VariantsSameUptoSaid : Prop := variantsSameUptoRow.holds Tryz.pinned (OpenSpec.upto variantsSameSpec)

/-- 'variantproxylaw16.VariantkeyBack', WHERE WHAT IT READS IS OF BULK AT MOST 1048576: true; the input reads as it did. -/
def variantkeyBackUptoRow : OpenClaim := { program := "ytgahnjchpomcfaagreatdoor", sum := "2e4c10daa397fd11e77fc201b8e4b848daf96d2bdf0e77c8c6f2038a602af443", func := "variantproxy/variantproxylaw16.VariantkeyBack", spec := "variantkeyBack", inPlace := ["internal/bytealg.IndexByteString", "internal/abi.NoEscape", "internal/bytealg.MakeNoZero", "internal/bytealg.IndexString"], unfollowed := true, recurses := true, named := ["unicode/utf8.first", "unicode/utf8.acceptRanges", "internal/bytealg.MaxLen"], apart := false, laid := [("unicode/utf8.acceptRanges", laid_unicode_utf8_acceptRanges), ("unicode/utf8.first", laid_unicode_utf8_first)], narrowed := true }
def VariantkeyBackUptoSaid : Prop := variantkeyBackUptoRow.holds Tryz.pinned (OpenSpec.upto variantkeyBackSpec)

/-- 'variantproxylaw16.VariantkeyFormats', WHERE WHAT IT READS IS OF BULK AT MOST 1048576: true; the input reads as it did. -/
def variantkeyFormatsUptoRow : OpenClaim := { program := "ytgahnjchpomcfaagreatdoor", sum := "2e4c10daa397fd11e77fc201b8e4b848daf96d2bdf0e77c8c6f2038a602af443", func := "variantproxy/variantproxylaw16.VariantkeyFormats", spec := "variantkeyFormats", inPlace := ["internal/bytealg.IndexByteString", "internal/abi.NoEscape", "internal/bytealg.MakeNoZero", "internal/bytealg.IndexString"], unfollowed := true, recurses := true, named := ["unicode/utf8.first", "unicode/utf8.acceptRanges", "internal/bytealg.MaxLen"], apart := false, laid := [("unicode/utf8.acceptRanges", laid_unicode_utf8_acceptRanges), ("unicode/utf8.first", laid_unicode_utf8_first)], narrowed := true }
def VariantkeyFormatsUptoSaid : Prop := variantkeyFormatsUptoRow.holds Tryz.pinned (OpenSpec.upto variantkeyFormatsSpec)

end Rows
end Go.Proofs.YtgahnjchpomcfaaGreatDoor
