/-
 What entries without a Go body return,in the words of the plain functions. No program in sight. No conditions.
-/
import Derived.Test.YtlniaacdjllonaaGreatGSep1
import Derived.Test.YtlniaacdjllonaaGreatGLawA
namespace Go.Plain
open Go Go.Sep
theorem run_indexByte {P:Program} (s:Str) (c:UInt8) (w:World):(Extern.BytealgIndexByte.indexByte #[str s,byte c]).run P w=.ok (.int .i64 (idx s c)) w:=by
 have:=Lib.run_indexByteString (P:=P) ⟨s.toArray⟩ (c.toNat:Int) w
 rw [← indexByte_eq]
 simpa [str,byte] using this
theorem run_count {P:Program} (s:Str) (c:UInt8) (w:World):(Extern.BytealgCount.count #[str s,byte c]).run P w=.ok (.int .i64 ((List.count c s:Nat):Int)) w:=by
 have:=Lib.run_countString (P:=P) ⟨s.toArray⟩ (c.toNat:Int) w
 simpa [str,byte,Lib.countByte] using this
end Go.Plain
