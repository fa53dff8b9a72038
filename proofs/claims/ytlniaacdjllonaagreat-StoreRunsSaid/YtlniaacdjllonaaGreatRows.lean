/-
  No cell of these rows narrows 'for every input' (looked for: loops, veiled, ifaces, maps, wideKeys, modest, calm, conditions, laid).
  DERIVED. THE GIVEN ROWS OF THIS SEAT. 6 by the template 'for every input the law returns true; each argument reads behind the call as it read before'; 0 by the template 'total and deterministic' (their statements: YtlniaacdjllonaaGreatTotals.lean).
  GIVEN WITH THE SEED: the statements are not yours to turn. If you find one false, say at which input.
  Laid BY PROGRAM, IN A SANDBOX (cutbox-rows.mjs): the forced cells as the released guide's own fill.sh prints them over the translation 69a4aa50f034bcc0… (all of the seat's roots in one cut). By AI agents, Wed Nov 11 2026. No macro, syntax, notation, axiom, sorry.
-/
import Derived.Test.YtlniaacdjllonaaGreatChecked
import GoSem.Claim
import GoSem.ClaimJoined
import GoSem.ClaimMapViews
import Derived.JoinedTies
import Derived.KernelRfl
namespace Go.Proofs.YtlniaacdjllonaaGreat
/- THE CELL 'sum', in the pinned program and in every row, IS THE sha256 OF THE DUMP (.gsa) THAT YtlniaacdjllonaaGreatProg.lean LOADS. Nothing in Lean hashes anything: it is a label: what it is worth is what the hold of that sum in a sandbox is worth. -/
noncomputable def Tryz.pinned : Pinned := { name := "ytlniaacdjllonaagreat", sum := "69a4aa50f034bcc0bec2a41986664d4904db662b88af5c1bc7a8d495239a0969", checked := Tryz.checked }
namespace Rows
def none {H : Type} : Left H := { results := [], args := [] }

/-- 'variantproxylaw28.StoreMakes': WHATEVER THE INPUT: true; the input reads as it did. -/
def storeMakesSpec : ChangeSpec := { name := "storeMakes", fn := fun _ => fun
  | [d1, d2, d3] => { results := [.lit (.bool true)], args := [d1, d2, d3] }
  | _ => none }
def storeMakesRow : OpenClaim := { program := "ytlniaacdjllonaagreat", sum := "69a4aa50f034bcc0bec2a41986664d4904db662b88af5c1bc7a8d495239a0969", func := "variantproxy/variantproxylaw28.StoreMakes", spec := "storeMakes", unfollowed := true, recurses := true, apart := false }
def StoreMakesSaid : Prop := storeMakesRow.holds Tryz.pinned (OpenSpec.ofChange storeMakesSpec)

/-- ITS FALSE NEIGHBOUR: 'it returns false'. Refute it at one input. -/
def storeMakesWrong : ChangeSpec := { name := "storeMakes", fn := fun _ => fun
  | [d1, d2, d3] => { results := [.lit (.bool false)], args := [d1, d2, d3] }
  | _ => none }
def StoreMakesWrongFalsely : Prop := storeMakesRow.holds Tryz.pinned (OpenSpec.ofChange storeMakesWrong)

/-- 'variantproxylaw28.StoreRuns': WHATEVER THE INPUT: true; the input reads as it did. -/
def storeRunsSpec : ChangeSpec := { name := "storeRuns", fn := fun _ => fun
  | [d1, d2, d3, d4] => { results := [.lit (.bool true)], args := [d1, d2, d3, d4] }
  | _ => none }
def storeRunsRow : OpenClaim := { program := "ytlniaacdjllonaagreat", sum := "69a4aa50f034bcc0bec2a41986664d4904db662b88af5c1bc7a8d495239a0969", func := "variantproxy/variantproxylaw28.StoreRuns", spec := "storeRuns", unfollowed := true, recurses := true, apart := false }
def StoreRunsSaid : Prop := storeRunsRow.holds Tryz.pinned (OpenSpec.ofChange storeRunsSpec)

/-- ITS FALSE NEIGHBOUR: 'it returns false'. Refute it at one input. -/
def storeRunsWrong : ChangeSpec := { name := "storeRuns", fn := fun _ => fun
  | [d1, d2, d3, d4] => { results := [.lit (.bool false)], args := [d1, d2, d3, d4] }
  | _ => none }
def StoreRunsWrongFalsely : Prop := storeRunsRow.holds Tryz.pinned (OpenSpec.ofChange storeRunsWrong)

/-- 'variantproxylaw28.StoreBounds': WHATEVER THE INPUT: true; the input reads as it did. -/
def storeBoundsSpec : ChangeSpec := { name := "storeBounds", fn := fun _ => fun
  | [d1, d2, d3, d4] => { results := [.lit (.bool true)], args := [d1, d2, d3, d4] }
  | _ => none }
def storeBoundsRow : OpenClaim := { program := "ytlniaacdjllonaagreat", sum := "69a4aa50f034bcc0bec2a41986664d4904db662b88af5c1bc7a8d495239a0969", func := "variantproxy/variantproxylaw28.StoreBounds", spec := "storeBounds", unfollowed := true, recurses := true, apart := false }
def StoreBoundsSaid : Prop := storeBoundsRow.holds Tryz.pinned (OpenSpec.ofChange storeBoundsSpec)

/-- ITS FALSE NEIGHBOUR: 'it returns false'. Refute it at one input. -/
def storeBoundsWrong : ChangeSpec := { name := "storeBounds", fn := fun _ => fun
  | [d1, d2, d3, d4] => { results := [.lit (.bool false)], args := [d1, d2, d3, d4] }
  | _ => none }
def StoreBoundsWrongFalsely : Prop := storeBoundsRow.holds Tryz.pinned (OpenSpec.ofChange storeBoundsWrong)

/-- 'variantproxylaw28.StoreKeeps': WHATEVER THE INPUT: true; the input reads as it did. -/
def storeKeepsSpec : ChangeSpec := { name := "storeKeeps", fn := fun _ => fun
  | [d1, d2, d3, d4, d5] => { results := [.lit (.bool true)], args := [d1, d2, d3, d4, d5] }
  | _ => none }
def storeKeepsRow : OpenClaim := { program := "ytlniaacdjllonaagreat", sum := "69a4aa50f034bcc0bec2a41986664d4904db662b88af5c1bc7a8d495239a0969", func := "variantproxy/variantproxylaw28.StoreKeeps", spec := "storeKeeps", unfollowed := true, recurses := true, apart := false }
def StoreKeepsSaid : Prop := storeKeepsRow.holds Tryz.pinned (OpenSpec.ofChange storeKeepsSpec)

/-- ITS FALSE NEIGHBOUR: 'it returns false'. Refute it at one input. -/
def storeKeepsWrong : ChangeSpec := { name := "storeKeeps", fn := fun _ => fun
  | [d1, d2, d3, d4, d5] => { results := [.lit (.bool false)], args := [d1, d2, d3, d4, d5] }
  | _ => none }
def StoreKeepsWrongFalsely : Prop := storeKeepsRow.holds Tryz.pinned (OpenSpec.ofChange storeKeepsWrong)

/-- 'variantproxylaw28.StoreCopies': WHATEVER THE INPUT: true; the input reads as it did. -/
def storeCopiesSpec : ChangeSpec := { name := "storeCopies", fn := fun _ => fun
  | [d1, d2, d3] => { results := [.lit (.bool true)], args := [d1, d2, d3] }
  | _ => none }
def storeCopiesRow : OpenClaim := { program := "ytlniaacdjllonaagreat", sum := "69a4aa50f034bcc0bec2a41986664d4904db662b88af5c1bc7a8d495239a0969", func := "variantproxy/variantproxylaw28.StoreCopies", spec := "storeCopies", unfollowed := true, recurses := true, apart := false }
def StoreCopiesSaid : Prop := storeCopiesRow.holds Tryz.pinned (OpenSpec.ofChange storeCopiesSpec)

/-- ITS FALSE NEIGHBOUR: 'it returns false'. Refute it at one input. -/
def storeCopiesWrong : ChangeSpec := { name := "storeCopies", fn := fun _ => fun
  | [d1, d2, d3] => { results := [.lit (.bool false)], args := [d1, d2, d3] }
  | _ => none }
def StoreCopiesWrongFalsely : Prop := storeCopiesRow.holds Tryz.pinned (OpenSpec.ofChange storeCopiesWrong)

/-- 'variantproxylaw28.StoreNil': WHATEVER THE INPUT: true; the input reads as it did. -/
def storeNilSpec : ChangeSpec := { name := "storeNil", fn := fun _ => fun
  | [d1, d2] => { results := [.lit (.bool true)], args := [d1, d2] }
  | _ => none }
def storeNilRow : OpenClaim := { program := "ytlniaacdjllonaagreat", sum := "69a4aa50f034bcc0bec2a41986664d4904db662b88af5c1bc7a8d495239a0969", func := "variantproxy/variantproxylaw28.StoreNil", spec := "storeNil", unfollowed := true, recurses := true, apart := false }
def StoreNilSaid : Prop := storeNilRow.holds Tryz.pinned (OpenSpec.ofChange storeNilSpec)

/-- ITS FALSE NEIGHBOUR: 'it returns false'. Refute it at one input. -/
def storeNilWrong : ChangeSpec := { name := "storeNil", fn := fun _ => fun
  | [d1, d2] => { results := [.lit (.bool false)], args := [d1, d2] }
  | _ => none }
def StoreNilWrongFalsely : Prop := storeNilRow.holds Tryz.pinned (OpenSpec.ofChange storeNilWrong)

/- THE SECOND FORM. 'bulk': how many values and letters a reading holds, each counted each time it is reached (what is shared counts as often as it is met; a slice's spare places count too). A statement '..UptoSaid' is the law's where the arguments, and the package variables that the reading takes, are together of bulk at most 1048576: NARROWER than '..Said'. Prove '..Said' where nothing that the law and all that it calls make is longer than what came in: it says more and counts as full. Else prove '..UptoSaid'. A law counts once. -/
mutual
def uptoBulk {H : Type} : DataW H → Nat
  | .lit (.string bytes) => bytes.length + 1
  | .lit _ => 1
  | .nil => 1
  | .ptr d => uptoBulk d + 1
  | .slice elems spare => uptoBulkAll elems + uptoBulkAll spare + 1
  | .agg parts => uptoBulkAll parts + 1
  | .iface _ d => uptoBulk d + 1
  | .map entries => uptoBulkEntries entries + 1
  | .held _ => 1
def uptoBulkAll {H : Type} : List (DataW H) → Nat
  | [] => 0
  | d :: r => uptoBulk d + uptoBulkAll r
def uptoBulkEntries {H : Type} : List (Lit × DataW H) → Nat
  | [] => 0
  | x :: r => uptoBulkEntry x + uptoBulkEntries r
def uptoBulkEntry {H : Type} : Lit × DataW H → Nat
  | (.string bytes, d) => bytes.length + uptoBulk d + 1
  | (_, d) => uptoBulk d + 1
 end
def uptoSmall : (H : Type) → List (DataW H) → Bool := fun _ ds => decide (uptoBulkAll ds ≤ 1048576)
def OpenSpec.upto (s : _root_.Go.ChangeSpec) : _root_.Go.OpenSpec := { _root_.Go.OpenSpec.ofChange s with cond := some uptoSmall }

/-- 'variantproxylaw28.StoreMakes', WHERE WHAT IT READS IS OF BULK AT MOST 1048576: true; the input reads as it did. -/
def storeMakesUptoRow : OpenClaim := { program := "ytlniaacdjllonaagreat", sum := "69a4aa50f034bcc0bec2a41986664d4904db662b88af5c1bc7a8d495239a0969", func := "variantproxy/variantproxylaw28.StoreMakes", spec := "storeMakes", unfollowed := true, recurses := true, apart := false, narrowed := true }
def StoreMakesUptoSaid : Prop := storeMakesUptoRow.holds Tryz.pinned (OpenSpec.upto storeMakesSpec)

/-- 'variantproxylaw28.StoreRuns', WHERE WHAT IT READS IS OF BULK AT MOST 1048576: true; the input reads as it did. -/
def storeRunsUptoRow : OpenClaim := { program := "ytlniaacdjllonaagreat", sum := "69a4aa50f034bcc0bec2a41986664d4904db662b88af5c1bc7a8d495239a0969", func := "variantproxy/variantproxylaw28.StoreRuns", spec := "storeRuns", unfollowed := true, recurses := true, apart := false, narrowed := true }
def StoreRunsUptoSaid : Prop := storeRunsUptoRow.holds Tryz.pinned (OpenSpec.upto storeRunsSpec)

/-- 'variantproxylaw28.StoreBounds', WHERE WHAT IT READS IS OF BULK AT MOST 1048576: true; the input reads as it did. -/
def storeBoundsUptoRow : OpenClaim := { program := "ytlniaacdjllonaagreat", sum := "69a4aa50f034bcc0bec2a41986664d4904db662b88af5c1bc7a8d495239a0969", func := "variantproxy/variantproxylaw28.StoreBounds", spec := "storeBounds", unfollowed := true, recurses := true, apart := false, narrowed := true }
def StoreBoundsUptoSaid : Prop := storeBoundsUptoRow.holds Tryz.pinned (OpenSpec.upto storeBoundsSpec)

/-- 'variantproxylaw28.StoreKeeps', WHERE WHAT IT READS IS OF BULK AT MOST 1048576: true; the input reads as it did. -/
def storeKeepsUptoRow : OpenClaim := { program := "ytlniaacdjllonaagreat", sum := "69a4aa50f034bcc0bec2a41986664d4904db662b88af5c1bc7a8d495239a0969", func := "variantproxy/variantproxylaw28.StoreKeeps", spec := "storeKeeps", unfollowed := true, recurses := true, apart := false, narrowed := true }
def StoreKeepsUptoSaid : Prop := storeKeepsUptoRow.holds Tryz.pinned (OpenSpec.upto storeKeepsSpec)

/-- 'variantproxylaw28.StoreCopies', WHERE WHAT IT READS IS OF BULK AT MOST 1048576: true; the input reads as it did. -/
def storeCopiesUptoRow : OpenClaim := { program := "ytlniaacdjllonaagreat", sum := "69a4aa50f034bcc0bec2a41986664d4904db662b88af5c1bc7a8d495239a0969", func := "variantproxy/variantproxylaw28.StoreCopies", spec := "storeCopies", unfollowed := true, recurses := true, apart := false, narrowed := true }
def StoreCopiesUptoSaid : Prop := storeCopiesUptoRow.holds Tryz.pinned (OpenSpec.upto storeCopiesSpec)

/-- 'variantproxylaw28.StoreNil', WHERE WHAT IT READS IS OF BULK AT MOST 1048576: true; the input reads as it did. -/
def storeNilUptoRow : OpenClaim := { program := "ytlniaacdjllonaagreat", sum := "69a4aa50f034bcc0bec2a41986664d4904db662b88af5c1bc7a8d495239a0969", func := "variantproxy/variantproxylaw28.StoreNil", spec := "storeNil", unfollowed := true, recurses := true, apart := false, narrowed := true }
def StoreNilUptoSaid : Prop := storeNilUptoRow.holds Tryz.pinned (OpenSpec.upto storeNilSpec)

end Rows
end Go.Proofs.YtlniaacdjllonaaGreat
