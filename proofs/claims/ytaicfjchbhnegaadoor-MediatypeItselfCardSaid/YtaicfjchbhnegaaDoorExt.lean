/-
  What entries without a Go body return, in the words of the plain functions. No program in sight. No conditions.
-/
import Derived.Test.YtaicfjchbhnegaaDoorSepI
import Derived.Test.YtaicfjchbhnegaaDoorLaw03
namespace Go.Plain
open Go Go.Sep
theorem run_indexByte {P : Program} (s : Str) (c : UInt8) (w : World) : (Extern.BytealgIndexByte.indexByte #[str s, byte c]).run P w = .ok (.int .i64 (idx s c)) w := by
  have := Lib.run_indexByteString (P := P) ⟨s.toArray⟩ (c.toNat : Int) w
  rw [← indexByte_eq]
  simpa [str, byte] using this
end Go.Plain
