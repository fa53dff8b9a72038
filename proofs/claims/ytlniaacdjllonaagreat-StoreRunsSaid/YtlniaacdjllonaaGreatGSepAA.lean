/-
 An own row's value fills one cell. No program in sight. No conditions.
-/
import Derived.Test.YtlniaacdjllonaaGreatGSep6
import Derived.Test.YtlniaacdjllonaaGreatGSep7
namespace Go.Sep
open Go
set_option linter.unusedVariables false
theorem Wf {c:Cx} {L:List (Nat×Value)} {As:List Asn} {K:Act→World→Prop} {v:Value} {E:TypeId} {t:Ty} {xs:List t.den} (hA:Asn.row v E t xs∈As) (h:v.oneCell'=true→J c L As K):J c L As K:=fun a w hf hm=>by
 have hm':=hm
 obtain ⟨I,m0,he,hs⟩:=hm'
 obtain ⟨m1,hA1,_⟩:=hs.mem_own hA
 refine h ?_ a w hf hm
 rcases hA1 with ⟨hv,_⟩ | ⟨g,cap,hv,_⟩ <;> rw [hv] <;> rfl
end Go.Sep
