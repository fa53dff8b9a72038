/-
  NARROWER THAN 'FOR EVERY INPUT', by the rows' own cells (each row's printed sentence says how): LookupDecides: laid · LookupServes: laid · LookupFresh: laid · LookupRejects: laid · LookupOffline: laid.
  DERIVED. THE GIVEN ROWS OF THIS SEAT. 5 by the template 'for every input the law returns true; each argument reads behind the call as it read before'; 0 by the template 'total and deterministic' (their statements: YtfcidkjpebalkaaGreatDoorTotals.lean).
  GIVEN WITH THE SEED: the statements are not yours to turn. If you find one false, say at which input.
  Laid BY PROGRAM, IN A SANDBOX (cutbox-rows.mjs): the forced cells as the released guide's own fill.sh prints them over the translation 979b7e68d4877876… (all of the seat's roots in one cut). By AI agents, Wed Nov 11 2026. No macro, syntax, notation, axiom, sorry.
-/
import Derived.Test.YtfcidkjpebalkaaGreatDoorChecked
import GoSem.PinnedTables
import GoSem.Claim
import GoSem.ClaimJoined
import GoSem.ClaimMapViews
import Derived.JoinedTies
import Derived.KernelRfl
namespace Go.Proofs.YtfcidkjpebalkaaGreatDoor
/- THE CELL 'sum', in the pinned program and in every row, IS THE sha256 OF THE DUMP (.gsa) THAT YtfcidkjpebalkaaGreatDoorProg.lean LOADS. Nothing in Lean hashes anything: it is a label: what it is worth is what the hold of that sum in a sandbox is worth. -/
noncomputable def Tryz.pinned : Pinned := { name := "ytfcidkjpebalkaagreatdoor", sum := "979b7e68d487787695230af975e2649d5d45a7ccd359101d22e031052e8bf02b", checked := Tryz.checked }
namespace Rows
def none {H : Type} : Left H := { results := [], args := [] }

/- WHAT THE LISTED PACKAGE-LEVEL VARIABLES READ AS WHEN THE CALL BEGINS. Each datum BY PROGRAM (the guide's laid-datum.mjs) off the statement by which the dump's own 'gosem.cut.vars' lays the variable. In a bare row this is a premise. The card (YtfcidkjpebalkaaGreatDoorCards.lean) ties it to the program's text. -/
def laid_unicode_utf8_acceptRanges {H : Type} : DataW H := .agg [.agg [.lit (.int .u8 128), .lit (.int .u8 191)], .agg [.lit (.int .u8 160), .lit (.int .u8 191)], .agg [.lit (.int .u8 128), .lit (.int .u8 159)], .agg [.lit (.int .u8 144), .lit (.int .u8 191)], .agg [.lit (.int .u8 128), .lit (.int .u8 143)], .agg [.lit (.int .u8 0), .lit (.int .u8 0)], .agg [.lit (.int .u8 0), .lit (.int .u8 0)], .agg [.lit (.int .u8 0), .lit (.int .u8 0)], .agg [.lit (.int .u8 0), .lit (.int .u8 0)], .agg [.lit (.int .u8 0), .lit (.int .u8 0)], .agg [.lit (.int .u8 0), .lit (.int .u8 0)], .agg [.lit (.int .u8 0), .lit (.int .u8 0)], .agg [.lit (.int .u8 0), .lit (.int .u8 0)], .agg [.lit (.int .u8 0), .lit (.int .u8 0)], .agg [.lit (.int .u8 0), .lit (.int .u8 0)], .agg [.lit (.int .u8 0), .lit (.int .u8 0)]]
/-- One of Go's own tables, pinned by name: the form's constant. -/
def laid_unicode_utf8_first : DataW Unit := Go.Pinned.utf8First

/-- 'variantproxylaw30.LookupDecides': WHATEVER THE INPUT: true; the input reads as it did. -/
def lookupDecidesSpec : ChangeSpec := { name := "lookupDecides", fn := fun _ => fun
  | [d1, d2, d3, d4] => { results := [.lit (.bool true)], args := [d1, d2, d3, d4] }
  | _ => none }
def lookupDecidesRow : OpenClaim := { program := "ytfcidkjpebalkaagreatdoor", sum := "979b7e68d487787695230af975e2649d5d45a7ccd359101d22e031052e8bf02b", func := "variantproxy/variantproxylaw30.LookupDecides", spec := "lookupDecides", inPlace := ["internal/bytealg.IndexByteString", "internal/bytealg.IndexString", "internal/abi.NoEscape", "internal/bytealg.MakeNoZero", "internal/bytealg.CountString", "slices.overlaps[string]", "slices.overlaps[int]"], unfollowed := true, recurses := true, named := ["unicode/utf8.first", "unicode/utf8.acceptRanges", "internal/bytealg.MaxLen"], apart := false, laid := [("unicode/utf8.acceptRanges", laid_unicode_utf8_acceptRanges), ("unicode/utf8.first", laid_unicode_utf8_first)] }
def LookupDecidesSaid : Prop := lookupDecidesRow.holds Tryz.pinned (OpenSpec.ofChange lookupDecidesSpec)

/-- ITS FALSE NEIGHBOUR: 'it returns false'. Refute it at one input. -/
def lookupDecidesWrong : ChangeSpec := { name := "lookupDecides", fn := fun _ => fun
  | [d1, d2, d3, d4] => { results := [.lit (.bool false)], args := [d1, d2, d3, d4] }
  | _ => none }
def LookupDecidesWrongFalsely : Prop := lookupDecidesRow.holds Tryz.pinned (OpenSpec.ofChange lookupDecidesWrong)

/-- 'variantproxylaw30.LookupServes': WHATEVER THE INPUT: true; the input reads as it did. -/
def lookupServesSpec : ChangeSpec := { name := "lookupServes", fn := fun _ => fun
  | [d1, d2, d3, d4] => { results := [.lit (.bool true)], args := [d1, d2, d3, d4] }
  | _ => none }
def lookupServesRow : OpenClaim := { program := "ytfcidkjpebalkaagreatdoor", sum := "979b7e68d487787695230af975e2649d5d45a7ccd359101d22e031052e8bf02b", func := "variantproxy/variantproxylaw30.LookupServes", spec := "lookupServes", inPlace := ["internal/bytealg.IndexByteString", "internal/bytealg.IndexString", "internal/abi.NoEscape", "internal/bytealg.MakeNoZero", "internal/bytealg.CountString", "slices.overlaps[string]", "slices.overlaps[int]"], unfollowed := true, recurses := true, named := ["unicode/utf8.first", "unicode/utf8.acceptRanges", "internal/bytealg.MaxLen"], apart := false, laid := [("unicode/utf8.acceptRanges", laid_unicode_utf8_acceptRanges), ("unicode/utf8.first", laid_unicode_utf8_first)] }
def LookupServesSaid : Prop := lookupServesRow.holds Tryz.pinned (OpenSpec.ofChange lookupServesSpec)

/-- ITS FALSE NEIGHBOUR: 'it returns false'. Refute it at one input. -/
def lookupServesWrong : ChangeSpec := { name := "lookupServes", fn := fun _ => fun
  | [d1, d2, d3, d4] => { results := [.lit (.bool false)], args := [d1, d2, d3, d4] }
  | _ => none }
def LookupServesWrongFalsely : Prop := lookupServesRow.holds Tryz.pinned (OpenSpec.ofChange lookupServesWrong)

/-- 'variantproxylaw30.LookupFresh': WHATEVER THE INPUT: true; the input reads as it did. -/
def lookupFreshSpec : ChangeSpec := { name := "lookupFresh", fn := fun _ => fun
  | [d1, d2, d3, d4] => { results := [.lit (.bool true)], args := [d1, d2, d3, d4] }
  | _ => none }
def lookupFreshRow : OpenClaim := { program := "ytfcidkjpebalkaagreatdoor", sum := "979b7e68d487787695230af975e2649d5d45a7ccd359101d22e031052e8bf02b", func := "variantproxy/variantproxylaw30.LookupFresh", spec := "lookupFresh", inPlace := ["internal/bytealg.IndexByteString", "internal/bytealg.IndexString", "internal/abi.NoEscape", "internal/bytealg.MakeNoZero", "internal/bytealg.CountString", "slices.overlaps[string]", "slices.overlaps[int]"], unfollowed := true, recurses := true, named := ["unicode/utf8.first", "unicode/utf8.acceptRanges", "internal/bytealg.MaxLen"], apart := false, laid := [("unicode/utf8.acceptRanges", laid_unicode_utf8_acceptRanges), ("unicode/utf8.first", laid_unicode_utf8_first)] }
def LookupFreshSaid : Prop := lookupFreshRow.holds Tryz.pinned (OpenSpec.ofChange lookupFreshSpec)

/-- ITS FALSE NEIGHBOUR: 'it returns false'. Refute it at one input. -/
def lookupFreshWrong : ChangeSpec := { name := "lookupFresh", fn := fun _ => fun
  | [d1, d2, d3, d4] => { results := [.lit (.bool false)], args := [d1, d2, d3, d4] }
  | _ => none }
def LookupFreshWrongFalsely : Prop := lookupFreshRow.holds Tryz.pinned (OpenSpec.ofChange lookupFreshWrong)

/-- 'variantproxylaw30.LookupRejects': WHATEVER THE INPUT: true; the input reads as it did. -/
def lookupRejectsSpec : ChangeSpec := { name := "lookupRejects", fn := fun _ => fun
  | [d1, d2, d3, d4] => { results := [.lit (.bool true)], args := [d1, d2, d3, d4] }
  | _ => none }
def lookupRejectsRow : OpenClaim := { program := "ytfcidkjpebalkaagreatdoor", sum := "979b7e68d487787695230af975e2649d5d45a7ccd359101d22e031052e8bf02b", func := "variantproxy/variantproxylaw30.LookupRejects", spec := "lookupRejects", inPlace := ["internal/bytealg.IndexByteString", "internal/bytealg.IndexString", "internal/abi.NoEscape", "internal/bytealg.MakeNoZero", "internal/bytealg.CountString", "slices.overlaps[string]", "slices.overlaps[int]"], unfollowed := true, recurses := true, named := ["unicode/utf8.first", "unicode/utf8.acceptRanges", "internal/bytealg.MaxLen"], apart := false, laid := [("unicode/utf8.acceptRanges", laid_unicode_utf8_acceptRanges), ("unicode/utf8.first", laid_unicode_utf8_first)] }
def LookupRejectsSaid : Prop := lookupRejectsRow.holds Tryz.pinned (OpenSpec.ofChange lookupRejectsSpec)

/-- ITS FALSE NEIGHBOUR: 'it returns false'. Refute it at one input. -/
def lookupRejectsWrong : ChangeSpec := { name := "lookupRejects", fn := fun _ => fun
  | [d1, d2, d3, d4] => { results := [.lit (.bool false)], args := [d1, d2, d3, d4] }
  | _ => none }
def LookupRejectsWrongFalsely : Prop := lookupRejectsRow.holds Tryz.pinned (OpenSpec.ofChange lookupRejectsWrong)

/-- 'variantproxylaw30.LookupOffline': WHATEVER THE INPUT: true; the input reads as it did. -/
def lookupOfflineSpec : ChangeSpec := { name := "lookupOffline", fn := fun _ => fun
  | [d1, d2, d3, d4] => { results := [.lit (.bool true)], args := [d1, d2, d3, d4] }
  | _ => none }
def lookupOfflineRow : OpenClaim := { program := "ytfcidkjpebalkaagreatdoor", sum := "979b7e68d487787695230af975e2649d5d45a7ccd359101d22e031052e8bf02b", func := "variantproxy/variantproxylaw30.LookupOffline", spec := "lookupOffline", inPlace := ["internal/bytealg.IndexByteString", "internal/bytealg.IndexString", "internal/abi.NoEscape", "internal/bytealg.MakeNoZero", "internal/bytealg.CountString", "slices.overlaps[string]", "slices.overlaps[int]"], unfollowed := true, recurses := true, named := ["unicode/utf8.first", "unicode/utf8.acceptRanges", "internal/bytealg.MaxLen"], apart := false, laid := [("unicode/utf8.acceptRanges", laid_unicode_utf8_acceptRanges), ("unicode/utf8.first", laid_unicode_utf8_first)] }
def LookupOfflineSaid : Prop := lookupOfflineRow.holds Tryz.pinned (OpenSpec.ofChange lookupOfflineSpec)

/-- ITS FALSE NEIGHBOUR: 'it returns false'. Refute it at one input. -/
def lookupOfflineWrong : ChangeSpec := { name := "lookupOffline", fn := fun _ => fun
  | [d1, d2, d3, d4] => { results := [.lit (.bool false)], args := [d1, d2, d3, d4] }
  | _ => none }
def LookupOfflineWrongFalsely : Prop := lookupOfflineRow.holds Tryz.pinned (OpenSpec.ofChange lookupOfflineWrong)

/- THE SECOND FORM. 'bulk': how many values and letters a reading holds, each counted each time it is reached (what is shared counts as often as it is met; a slice's spare places count too). A statement '..UptoSaid' is the law's where the arguments, and the package variables that the reading takes, are together of bulk at most 1048576: NARROWER than '..Said'. Prove '..Said' where nothing that the law and all that it calls make is longer than what came in: it says more and counts as full. Else prove '..UptoSaid'. A law counts once. -/
mutual
def uptoBulk {H : Type} : DataW H → Nat
  | .lit (.string bytes) => bytes.length + 1
  | .lit _ => 1
  | .nil => 1
  | .ptr d => uptoBulk d + 1
  | .slice elems spare => uptoBulkAll elems + uptoBulkAll spare + 1
  | .agg parts => uptoBulkAll parts + 1
  | .iface _ d => uptoBulk d + 1
  | .map entries => uptoBulkEntries entries + 1
  | .held _ => 1
def uptoBulkAll {H : Type} : List (DataW H) → Nat
  | [] => 0
  | d :: r => uptoBulk d + uptoBulkAll r
def uptoBulkEntries {H : Type} : List (Lit × DataW H) → Nat
  | [] => 0
  | x :: r => uptoBulkEntry x + uptoBulkEntries r
def uptoBulkEntry {H : Type} : Lit × DataW H → Nat
  | (.string bytes, d) => bytes.length + uptoBulk d + 1
  | (_, d) => uptoBulk d + 1
 end
def uptoSmall : (H : Type) → List (DataW H) → Bool := fun _ ds => decide (uptoBulkAll ds ≤ 1048576)
def OpenSpec.upto (s : _root_.Go.ChangeSpec) : _root_.Go.OpenSpec := { _root_.Go.OpenSpec.ofChange s with cond := some uptoSmall }

/-- 'variantproxylaw30.LookupDecides', WHERE WHAT IT READS IS OF BULK AT MOST 1048576: true; the input reads as it did. -/
def lookupDecidesUptoRow : OpenClaim := { program := "ytfcidkjpebalkaagreatdoor", sum := "979b7e68d487787695230af975e2649d5d45a7ccd359101d22e031052e8bf02b", func := "variantproxy/variantproxylaw30.LookupDecides", spec := "lookupDecides", inPlace := ["internal/bytealg.IndexByteString", "internal/bytealg.IndexString", "internal/abi.NoEscape", "internal/bytealg.MakeNoZero", "internal/bytealg.CountString", "slices.overlaps[string]", "slices.overlaps[int]"], unfollowed := true, recurses := true, named := ["unicode/utf8.first", "unicode/utf8.acceptRanges", "internal/bytealg.MaxLen"], apart := false, laid := [("unicode/utf8.acceptRanges", laid_unicode_utf8_acceptRanges), ("unicode/utf8.first", laid_unicode_utf8_first)], narrowed := true }
def LookupDecidesUptoSaid : Prop := lookupDecidesUptoRow.holds Tryz.pinned (OpenSpec.upto lookupDecidesSpec)

/-- 'variantproxylaw30.LookupServes', WHERE WHAT IT READS IS OF BULK AT MOST 1048576: true; the input reads as it did. -/
def lookupServesUptoRow : OpenClaim := { program := "ytfcidkjpebalkaagreatdoor", sum := "979b7e68d487787695230af975e2649d5d45a7ccd359101d22e031052e8bf02b", func := "variantproxy/variantproxylaw30.LookupServes", spec := "lookupServes", inPlace := ["internal/bytealg.IndexByteString", "internal/bytealg.IndexString", "internal/abi.NoEscape", "internal/bytealg.MakeNoZero", "internal/bytealg.CountString", "slices.overlaps[string]", "slices.overlaps[int]"], unfollowed := true, recurses := true, named := ["unicode/utf8.first", "unicode/utf8.acceptRanges", "internal/bytealg.MaxLen"], apart := false, laid := [("unicode/utf8.acceptRanges", laid_unicode_utf8_acceptRanges), ("unicode/utf8.first", laid_unicode_utf8_first)], narrowed := true }
def LookupServesUptoSaid : Prop := lookupServesUptoRow.holds Tryz.pinned (OpenSpec.upto lookupServesSpec)

/-- 'variantproxylaw30.LookupFresh', WHERE WHAT IT READS IS OF BULK AT MOST 1048576: true; the input reads as it did. -/
def lookupFreshUptoRow : OpenClaim := { program := "ytfcidkjpebalkaagreatdoor", sum := "979b7e68d487787695230af975e2649d5d45a7ccd359101d22e031052e8bf02b", func := "variantproxy/variantproxylaw30.LookupFresh", spec := "lookupFresh", inPlace := ["internal/bytealg.IndexByteString", "internal/bytealg.IndexString", "internal/abi.NoEscape", "internal/bytealg.MakeNoZero", "internal/bytealg.CountString", "slices.overlaps[string]", "slices.overlaps[int]"], unfollowed := true, recurses := true, named := ["unicode/utf8.first", "unicode/utf8.acceptRanges", "internal/bytealg.MaxLen"], apart := false, laid := [("unicode/utf8.acceptRanges", laid_unicode_utf8_acceptRanges), ("unicode/utf8.first", laid_unicode_utf8_first)], narrowed := true }
def LookupFreshUptoSaid : Prop := lookupFreshUptoRow.holds Tryz.pinned (OpenSpec.upto lookupFreshSpec)

/-- 'variantproxylaw30.LookupRejects', WHERE WHAT IT READS IS OF BULK AT MOST 1048576: true; the input reads as it did. -/
def lookupRejectsUptoRow : OpenClaim := { program := "ytfcidkjpebalkaagreatdoor", sum := "979b7e68d487787695230af975e2649d5d45a7ccd359101d22e031052e8bf02b", func := "variantproxy/variantproxylaw30.LookupRejects", spec := "lookupRejects", inPlace := ["internal/bytealg.IndexByteString", "internal/bytealg.IndexString", "internal/abi.NoEscape", "internal/bytealg.MakeNoZero", "internal/bytealg.CountString", "slices.overlaps[string]", "slices.overlaps[int]"], unfollowed := true, recurses := true, named := ["unicode/utf8.first", "unicode/utf8.acceptRanges", "internal/bytealg.MaxLen"], apart := false, laid := [("unicode/utf8.acceptRanges", laid_unicode_utf8_acceptRanges), ("unicode/utf8.first", laid_unicode_utf8_first)], narrowed := true }
def LookupRejectsUptoSaid : Prop := lookupRejectsUptoRow.holds Tryz.pinned (OpenSpec.upto lookupRejectsSpec)

/-- 'variantproxylaw30.LookupOffline', WHERE WHAT IT READS IS OF BULK AT MOST 1048576: true; the input reads as it did. -/
def lookupOfflineUptoRow : OpenClaim := { program := "ytfcidkjpebalkaagreatdoor", sum := "979b7e68d487787695230af975e2649d5d45a7ccd359101d22e031052e8bf02b", func := "variantproxy/variantproxylaw30.LookupOffline", spec := "lookupOffline", inPlace := ["internal/bytealg.IndexByteString", "internal/bytealg.IndexString", "internal/abi.NoEscape", "internal/bytealg.MakeNoZero", "internal/bytealg.CountString", "slices.overlaps[string]", "slices.overlaps[int]"], unfollowed := true, recurses := true, named := ["unicode/utf8.first", "unicode/utf8.acceptRanges", "internal/bytealg.MaxLen"], apart := false, laid := [("unicode/utf8.acceptRanges", laid_unicode_utf8_acceptRanges), ("unicode/utf8.first", laid_unicode_utf8_first)], narrowed := true }
def LookupOfflineUptoSaid : Prop := lookupOfflineUptoRow.holds Tryz.pinned (OpenSpec.upto lookupOfflineSpec)

end Rows
end Go.Proofs.YtfcidkjpebalkaaGreatDoor
