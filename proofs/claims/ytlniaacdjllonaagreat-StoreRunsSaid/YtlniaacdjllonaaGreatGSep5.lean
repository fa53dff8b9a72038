/-
 The rules of the calculus for slices compared with nil,and for empty literals. No program in sight. No conditions.
-/
import Derived.Test.YtlniaacdjllonaaGreatGSep4
import Derived.Lib.LazyBuf
namespace Go.Sep
open Go
set_option linter.unusedVariables false
set_option linter.unusedSimpArgs false
section ops
variable {c:Cx} {L:List (Nat×Value)} {As R:List Asn} {Q:Exit→Act→World→Prop} {K:Act→World→Prop} {ops:Array Oper} {rest:List Oper} {T:TypeId} {pos:String} {aft:Array Edge} {gd:Option (Nat×Bool)}
/-- A slice compared with nil: if they are equal,the slice is empty. -/
theorem jo_eqnil {t t' e:TypeId} {x y:Operand} {v:Value} {ty:Ty} {xs:List ty.den} {d:Nat} (hx:ev L x=some v) (hy:ev L y=some (.slice none 0 0)) (hA:Asn.imm (.list ty) v xs∈As) (hu:c.P.underlying t=some (.slice e)) (hd:Nat.blt d c.n=true)
  (h:∀ b:Bool,(b=true→xs=[])→J c ((d,.bool b)::L) As (wpList c.P ops Q rest)):J c L As (wpList c.P ops Q (⟨some d,.binOp .eql t x y t',T,pos,aft,none⟩::rest)):=Yc rfl fun a w hf hm=>by
 obtain ⟨I,m,_,hr⟩:=hm.get hA
 obtain ⟨_,cs,hv,hrep⟩:=hr
 simp only [repC] at hrep
 obtain ⟨ad,len,cap,rfl,hl,_,hor⟩:=hrep
 have hv':v=.slice ad len cap:=by rw [hv];rfl
 subst hv'
 have hrun:=Lib.run_eql_slice_nil (P:=c.P) w t e ad len cap 0 0 hu
 show Oper.upon _ _ _ _ _ ((execOp a.eval _).run c.P w)
 have hr:(execOp a.eval ⟨some d,.binOp .eql t x y t',T,pos,aft,none⟩).run c.P w=.ok (.value (.bool ad.isNone)) w:=by
  simp only [execOp,hf.ev hx,hf.ev hy,eqGuard,Sem.run_bind,Sem.run_pure,Result.andThen_ok,hrun]
  try simp [hrun]
 rw [hr]
 refine h _ (fun hb=>?_) _ _ (hf.put (by rw [Nat.blt_eq] at hd;exact hd) _) hm
 rcases hor with e1 | ⟨b,off,C,E,fz,e1,_⟩
 ·exact e1
 ·rw [e1] at hb;cases hb
/-- An empty literal. -/
theorem Wr {ty E:TypeId} {d:Nat} {t:Ty} {agg:Bool} {by_:Nat} {z:Option Value} (hu:c.P.underlying ty=some (.slice E)) (he:TyF c.P E agg t.n by_ z) (hd:Nat.blt d c.n=true)
  (h:∀ g,J c ((d,.slice (some ⟨g,0,none⟩) 0 0)::L) (.rowg g 0 E t []::As) (wpList c.P ops Q rest)):J c L As (wpList c.P ops Q (⟨some d,.buildSlice ty 0 #[],T,pos,aft,none⟩::rest)):=Yc rfl fun a w hf hm=>by
 obtain ⟨i,hi1,hi2,_,_⟩:=he.get
 have hr:(execOp a.eval ⟨some d,.buildSlice ty 0 #[],T,pos,aft,none⟩).run c.P w=.ok (.value (.slice (some ⟨w.heap.size,0,none⟩) 0 0)) (w.alloc (.cells #[] E)):=by
  simp [execOp,Instr.buildSlice,run_underlying hu,sizeOf,typeInfo,hi1,hi2,Instr.fill,newRow]
  exact congrArg (fun x=>w.alloc (Obj.cells x E)) (Array.eq_empty_of_size_eq_zero (by rw [Array.size_map,Array.size_range]))
 show Oper.upon _ _ _ _ _ ((execOp a.eval _).run c.P w)
 rw [hr]
 refine h _ _ _ (hf.put (by rw [Nat.blt_eq] at hd;exact hd) _) (Mem.new (Bs:=[.rowg w.heap.size 0 E t []]) hm fun I _=>⟨[w.heap.size],[],rfl,⟨rfl,?_⟩,rfl⟩)
 exact ⟨#[],heap_alloc_new w _,Nat.le_refl _,Nat.zero_le _,by simp,fun i hi=>by simp at hi⟩
end ops
end Go.Sep
