/-
 The rules of the calculus for own rows of data that hold slices: read,written,sliced,cleared behind their end,shifted in place. No program in sight. No conditions.
 Regions that draw their order and change memory: operations that look at memory which only the region's last operations change are taken first. No program in sight. No conditions.
-/
import Derived.Test.YtlniaacdjllonaaGreatGSep3
import Derived.Test.YtlniaacdjllonaaGreatGSep4
namespace Go.Sep
open Go
set_option linter.unusedVariables false
set_option linter.unusedSimpArgs false
theorem part_before {α:Type} {C news:List α} {off e k n:Nat} (h:k*n+n≤off) (ho:off≤C.length):((C.take off++news++C.drop e).drop (k*n)).take n=(C.drop (k*n)).take n:=by
 apply List.ext_getElem?
 intro j
 rw [List.getElem?_take,List.getElem?_take]
 split
 ·rw [List.getElem?_drop,List.getElem?_drop,List.append_assoc,List.getElem?_append_left (by rw [List.length_take];omega),List.getElem?_take_of_lt (by omega)]
 ·rfl
theorem part_within {α:Type} {C news:List α} {off e k n q:Nat} (ho:off≤C.length) (hk:k*n=off+q) (hq:q+n≤news.length):((C.take off++news++C.drop e).drop (k*n)).take n=(news.drop q).take n:=by
 apply List.ext_getElem?
 intro j
 rw [List.getElem?_take,List.getElem?_take]
 split
 ·rename_i hj
  have hl:(C.take off).length=off:=by rw [List.length_take];omega
  rw [List.getElem?_drop,List.getElem?_drop,List.append_assoc,List.getElem?_append_right (by omega),List.getElem?_append_left (by omega),hl]
  congr 1;omega
 ·rfl
section ops
variable {c:Cx} {L:List (Nat×Value)} {As R:List Asn} {Q:Exit→Act→World→Prop} {K:Act→World→Prop} {ops:Array Oper} {rest:List Oper} {T:TypeId} {pos:String} {aft:Array Edge} {gd:Option (Nat×Bool)}
/-! ### Elements with slices in them -/
theorem load_core {ty E:TypeId} {agg:Bool} {m by_:Nat} {z:Option Value} {w:World} {I:zl} {g cap i o d:Nat} {t:Ty} {xs:List t.den} {mk:Bool} (dd:t.den) (hr:Z9 w I mk g cap E t xs) (ht:TyF c.P ty agg m by_ z) (h1:agg=false→m=1) (hom:o+m≤t.n) (hi:i<xs.length) :
  ∃ cs,repC w I t cs (xs.getD i dd)∧(loadVar ty ⟨g,i*t.n+o,none⟩).run c.P w=.ok (Zl agg ((cs.drop o).take m)) w:=by
 obtain ⟨cs,h2,h3,h4⟩:=hr.cell hi
 refine ⟨cs,by rw [getD_eq (dd:=dd) hi];exact h2,Yj ht w ⟨g,i*t.n+o,none⟩ ((cs.drop o).take m) (by rw [List.length_take,List.length_drop];omega) h1 (fun j u hu=>?_)⟩
 rw [List.getElem?_take] at hu
 split at hu
 ·rw [List.getElem?_drop] at hu
  rw [Addr.add_mk,Nat.add_assoc]
  exact h4 _ u hu
 ·cases hu
theorem jo_loadO {ty E:TypeId} {agg:Bool} {m by_:Nat} {z:Option Value} {x:Operand} {g o p i cap d:Nat} {t:Ty} {xs:List t.den} (dd:t.den) (hx:ev L x=some (.pointer (some ⟨g,p,none⟩))) (ht:TyF c.P ty agg m by_ z) (h1:agg=false→m=1) (hom:Nat.ble (o+m) t.n=true) (hA:Asn.rowg g cap E t xs∈As) (hi:i<xs.length) (hp:i*t.n+o=p) (hd:Nat.blt d c.n=true)
  (h:∀ lv:LV t,J c ((d,Zl agg (((encL t (xs.getD i dd) lv).drop o).take m))::L) (immsL t (xs.getD i dd) lv++As) (wpList c.P ops Q rest)):J c L As (wpList c.P ops Q (⟨some d,.load ty x,T,pos,aft,none⟩::rest)):=Yc rfl fun a w hf hm=>by
 obtain ⟨I,m0,he,hs⟩:=hm
 obtain ⟨m1,hA1,_⟩:=hs.mem_own hA
 subst hp
 obtain ⟨cs,hrep,hrun⟩:=load_core (c:=c) (d:=d) (o:=o) dd hA1.2 ht h1 (Nat.le_of_ble_eq_true hom) hi
 show Oper.upon _ _ _ _ _ ((execOp a.eval _).run c.P w)
 have hr:(execOp a.eval ⟨some d,.load ty x,T,pos,aft,none⟩).run c.P w=.ok (.value (Zl agg ((cs.drop o).take m))) w:=by
  simp only [execOp,hf.ev hx,Instr.loadAt,Instr.sureAddr,Sem.run_bind,Sem.run_pure,Result.andThen_ok,hrun]
 obtain ⟨lv,hcs,himm⟩:=ws hrep
 rw [hr,hcs]
 exact h lv _ _ (hf.put (by rw [Nat.blt_eq] at hd;exact hd) _) ⟨I,m0,he,Sats.nil_append himm hs⟩
/-- The same,the own row's address hidden. -/
theorem Yv {ty E:TypeId} {agg:Bool} {m by_:Nat} {z:Option Value} {x:Operand} {u:Value} {o i d:Nat} {t:Ty} {xs:List t.den} (dd:t.den) (hx:ev L x=some (qR u i t.n o)) (ht:TyF c.P ty agg m by_ z) (h1:agg=false→m=1) (hom:Nat.ble (o+m) t.n=true) (hA:Asn.row u E t xs∈As) (hi:i<xs.length) (hd:Nat.blt d c.n=true)
  (h:∀ lv:LV t,J c ((d,Zl agg (((encL t (xs.getD i dd) lv).drop o).take m))::L) (immsL t (xs.getD i dd) lv++As) (wpList c.P ops Q rest)):J c L As (wpList c.P ops Q (⟨some d,.load ty x,T,pos,aft,none⟩::rest)):=Yc rfl fun a w hf hm=>by
 obtain ⟨I,m0,he,hs⟩:=hm
 obtain ⟨m1,hA1,_⟩:=hs.mem_own hA
 rcases hA1 with ⟨_,rfl,_⟩ | ⟨g,cap,hu,_,hr0⟩
 ·simp at hi
 ·have hx':ev L x=some (.pointer (some ⟨g,i*t.n+o,none⟩)):=by rw [hx,hu];simp [qR,Addr.add_mk]
  obtain ⟨cs,hrep,hrun⟩:=load_core (c:=c) (d:=d) (o:=o) dd hr0 ht h1 (Nat.le_of_ble_eq_true hom) hi
  show Oper.upon _ _ _ _ _ ((execOp a.eval _).run c.P w)
  have hr:(execOp a.eval ⟨some d,.load ty x,T,pos,aft,none⟩).run c.P w=.ok (.value (Zl agg ((cs.drop o).take m))) w:=by
   simp only [execOp,hf.ev hx',Instr.loadAt,Instr.sureAddr,Sem.run_bind,Sem.run_pure,Result.andThen_ok,hrun]
  obtain ⟨lv,hcs,himm⟩:=ws hrep
  rw [hr,hcs]
  exact h lv _ _ (hf.put (by rw [Nat.blt_eq] at hd;exact hd) _) ⟨I,m0,he,Sats.nil_append himm hs⟩
theorem store_core {E ty:TypeId} {agg:Bool} {by_:Nat} {z:Option Value} {w:World} {I:zl} {g cap i:Nat} {t:Ty} {xs:List t.den} {s:Value} {cs:List Value} {u:t.den} (hr:Z9 w I false g cap E t xs) (hs:s.cells=cs.toArray) (hrep:repC w I t cs u) (ht:TyF c.P ty agg t.n by_ z) (hi:i<xs.length) :
  (storeVar ty ⟨g,i*t.n,none⟩ s).run c.P w=.ok () (w.setCells g (i*t.n) cs):=by
 obtain ⟨C,h1,h2,h3,h4,_⟩:=hr
 have hl:=Wm hrep
 have hc:i*t.n+t.n≤C.size:=by rw [h4];exact Zm hi h2
 exact ZU ht w g (i*t.n) s cs hs hl (fun x hx=>wL hrep x hx) (fun j hj=>by rw [hl] at hj;rw [z4 h1];simp;omega) (fun j hj=>by simp [World.frozen?,h1])
theorem jo_storeO {ty E:TypeId} {agg:Bool} {by_:Nat} {z:Option Value} {x y:Operand} {g p i cap:Nat} {t:Ty} {xs:List t.den} {s:Value} (u:t.den) (cs:List Value) (hx:ev L x=some (.pointer (some ⟨g,p,none⟩))) (hy:ev L y=some s) (hs:s.cells=cs.toArray) (hrep:HasRep R t cs u) (ht:TyF c.P ty agg t.n by_ z) (hi:i<xs.length) (hp:i*t.n=p)
  (h:J c L (.rowg g cap E t (xs.set i u)::R) (wpList c.P ops Q rest)):J c L (.rowg g cap E t xs::R) (wpList c.P ops Q (⟨none,.store ty x y,T,pos,aft,none⟩::rest)):=Yc rfl fun a w hf hm=>by
 obtain ⟨I,m0,he,m1,m2,rfl,hA,hR⟩:=hm
 obtain ⟨rfl,hr⟩:=hA
 have hrep':=hrep.rep (fun A hA hp=>hR.pers hA hp)
 subst hp
 have hst:=store_core (c:=c) hr hs hrep' ht hi
 show Oper.upon _ _ _ _ _ ((execOp a.eval _).run c.P w)
 have hrun:(execOp a.eval ⟨none,.store ty x y,T,pos,aft,none⟩).run c.P w=.ok .skip (w.setCells g (i*t.n) cs):=by
  simp only [execOp,hf.ev hx,hf.ev hy,Instr.storeAt,Instr.sureAddr,Sem.run_bind,Sem.run_pure,Result.andThen_ok,hst]
 rw [hrun]
 have ho:=he.okw
 obtain ⟨e1,e2⟩:=hr.write ho.left hi hrep'
 exact h _ _ (hf.none _) ⟨I,[g]++m2,he.trans (Eff.frame ho e1),[g],m2,rfl,⟨rfl,e2⟩,Sats.frame ho e1 hR⟩
theorem qC {ty E:TypeId} {agg:Bool} {by_:Nat} {z:Option Value} {x y:Operand} {i:Nat} {t:Ty} {xs:List t.den} {v s:Value} (u:t.den) (cs:List Value) (hx:ev L x=some (Zn v i t.n)) (hy:ev L y=some s) (hs:s.cells=cs.toArray) (hrep:HasRep R t cs u) (ht:TyF c.P ty agg t.n by_ z) (hi:i<xs.length)
  (h:J c L (.row v E t (xs.set i u)::R) (wpList c.P ops Q rest)):J c L (.row v E t xs::R) (wpList c.P ops Q (⟨none,.store ty x y,T,pos,aft,none⟩::rest)):=Yc rfl fun a w hf hm=>by
 obtain ⟨I,m0,he,m1,m2,rfl,hA,hR⟩:=hm
 rcases hA with ⟨_,rfl,_⟩ | ⟨g,cap,hv,rfl,hr⟩
 ·simp at hi
 have hx':ev L x=some (.pointer (some ⟨g,i*t.n,none⟩)):=by rw [hx,hv];simp [Zn,Addr.add_mk]
 have hrep':=hrep.rep (fun A hA hp=>hR.pers hA hp)
 have hst:=store_core (c:=c) hr hs hrep' ht hi
 show Oper.upon _ _ _ _ _ ((execOp a.eval _).run c.P w)
 have hrun:(execOp a.eval ⟨none,.store ty x y,T,pos,aft,none⟩).run c.P w=.ok .skip (w.setCells g (i*t.n) cs):=by
  simp only [execOp,hf.ev hx',hf.ev hy,Instr.storeAt,Instr.sureAddr,Sem.run_bind,Sem.run_pure,Result.andThen_ok,hst]
 rw [hrun]
 have ho:=he.okw
 obtain ⟨e1,e2⟩:=hr.write ho.left hi hrep'
 exact h _ _ (hf.none _) ⟨I,[g]++m2,he.trans (Eff.frame ho e1),[g],m2,rfl,.inr ⟨g,cap,by rw [hv,List.length_set],rfl,e2⟩,Sats.frame ho e1 hR⟩
/-! ### Slices of an own row from an index on -/
def ownS (g cap l k n:Nat):Value:=.slice (some (if cap=l then ⟨g,0,none⟩ else ⟨g,l*n,none⟩)) k (cap-l)
theorem qi {ty E:TypeId} {x y:Operand} {g len cap l:Nat} {K:IntKind} {agg:Bool} {k by_:Nat} {z:Option Value} (hx:ev L x=some (.slice (some ⟨g,0,none⟩) len cap)) (hy:ev L y=some (.int K l)) (ht:c.P.underlying ty=some (.slice E)) (he:TyF c.P E agg k by_ z) (hl:l≤len) :
  PR c (.slice ty x (some y) none none) T L As (ownS g cap l (len-l) k):=fun a w hf _ d pos aft gd=>by
 have hb:(Instr.sliceBounds true len cap (some (.int K l)) none none).run c.P w=.ok (l,len,cap) w:=by simp [Instr.sliceBounds,zZ hl]
 unfold ownS
 simp only [execOp,Instr.sliceAt,Instr.slice,hf.ev hx,hf.ev hy,run_underlying ht,hb,he.sizeOf,Option.map_some,Option.map_none,Sem.run_bind,Sem.run_pure,Result.andThen_ok]
 by_cases h:cap=l <;> simp [h,Addr.add_mk]
theorem pr_slice_lh {ty E:TypeId} {x y y2:Operand} {g len cap l h:Nat} {K K2:IntKind} {agg:Bool} {k by_:Nat} {z:Option Value} (hx:ev L x=some (.slice (some ⟨g,0,none⟩) len cap)) (hy:ev L y=some (.int K l)) (hy2:ev L y2=some (.int K2 h)) (ht:c.P.underlying ty=some (.slice E)) (he:TyF c.P E agg k by_ z) (hl:l≤h) (hh:h≤cap) :
  PR c (.slice ty x (some y) (some y2) none) T L As (ownS g cap l (h-l) k):=fun a w hf _ d pos aft gd=>by
 have hb:(Instr.sliceBounds true len cap (some (.int K l)) (some (.int K2 h)) none).run c.P w=.ok (l,h,cap) w:=by simp [Instr.sliceBounds,zZ hl,zZ hh]
 unfold ownS
 simp only [execOp,Instr.sliceAt,Instr.slice,hf.ev hx,hf.ev hy,hf.ev hy2,run_underlying ht,hb,he.sizeOf,Option.map_some,Option.map_none,Sem.run_bind,Sem.run_pure,Result.andThen_ok]
 by_cases h:cap=l <;> simp [h,Addr.add_mk]
theorem pr_slice_lhm {ty E:TypeId} {x y y2 y3:Operand} {g len cap l h m:Nat} {K K2 K3:IntKind} {agg:Bool} {k by_:Nat} {z:Option Value} (hx:ev L x=some (.slice (some ⟨g,0,none⟩) len cap)) (hy:ev L y=some (.int K l)) (hy2:ev L y2=some (.int K2 h)) (hy3:ev L y3=some (.int K3 m)) (ht:c.P.underlying ty=some (.slice E)) (he:TyF c.P E agg k by_ z) (hl:l≤h) (hh:h≤m) (hm:m≤cap) :
  PR c (.slice ty x (some y) (some y2) (some y3)) T L As (.slice (some (if m=l then ⟨g,0,none⟩ else ⟨g,l*k,none⟩)) (h-l) (m-l)):=fun a w hf _ d pos aft gd=>by
 have hb:(Instr.sliceBounds true len cap (some (.int K l)) (some (.int K2 h)) (some (.int K3 m))).run c.P w=.ok (l,h,m) w:=by simp [Instr.sliceBounds,zZ hl,zZ hh,zZ hm]
 simp only [execOp,Instr.sliceAt,Instr.slice,hf.ev hx,hf.ev hy,hf.ev hy2,hf.ev hy3,run_underlying ht,hb,he.sizeOf,Option.map_some,Option.map_none,Sem.run_bind,Sem.run_pure,Result.andThen_ok]
 by_cases h:m=l <;> simp [h,Addr.add_mk]
theorem zE {A1 A2 A3 A4 A5 A6 A7 A8 A9 A10 A11 A12 X:Asn} (h:J c L (X::A1::A2::A3::A4::A5::A6::A7::A8::A9::A10::A11::A12::As) K):J c L (A1::A2::A3::A4::A5::A6::A7::A8::A9::A10::A11::A12::X::As) K:=Za (fun _ h=>Mem.pull (As:=[A1,A2,A3,A4,A5,A6,A7,A8,A9,A10,A11,A12]) h) h
theorem yW {A1 A2 A3 A4 A5 A6 A7 A8 A9 A10 A11 A12 A13 X:Asn} (h:J c L (X::A1::A2::A3::A4::A5::A6::A7::A8::A9::A10::A11::A12::A13::As) K):J c L (A1::A2::A3::A4::A5::A6::A7::A8::A9::A10::A11::A12::A13::X::As) K:=Za (fun _ h=>Mem.pull (As:=[A1,A2,A3,A4,A5,A6,A7,A8,A9,A10,A11,A12,A13]) h) h
theorem YJ {A1 A2 A3 A4 A5 A6 A7 A8 A9 A10 A11 A12 A13 A14 X:Asn} (h:J c L (X::A1::A2::A3::A4::A5::A6::A7::A8::A9::A10::A11::A12::A13::A14::As) K):J c L (A1::A2::A3::A4::A5::A6::A7::A8::A9::A10::A11::A12::A13::A14::X::As) K:=Za (fun _ h=>Mem.pull (As:=[A1,A2,A3,A4,A5,A6,A7,A8,A9,A10,A11,A12,A13,A14]) h) h
theorem YI {A1 A2 A3 A4 A5 A6 A7 A8 A9 A10 A11 A12 A13 A14 A15 X:Asn} (h:J c L (X::A1::A2::A3::A4::A5::A6::A7::A8::A9::A10::A11::A12::A13::A14::A15::As) K):J c L (A1::A2::A3::A4::A5::A6::A7::A8::A9::A10::A11::A12::A13::A14::A15::X::As) K:=Za (fun _ h=>Mem.pull (As:=[A1,A2,A3,A4,A5,A6,A7,A8,A9,A10,A11,A12,A13,A14,A15]) h) h
theorem y7 {A1 A2 A3 A4 A5 A6 A7 A8 A9 A10 A11 A12 A13 A14 A15 A16 X:Asn} (h:J c L (X::A1::A2::A3::A4::A5::A6::A7::A8::A9::A10::A11::A12::A13::A14::A15::A16::As) K):J c L (A1::A2::A3::A4::A5::A6::A7::A8::A9::A10::A11::A12::A13::A14::A15::A16::X::As) K:=Za (fun _ h=>Mem.pull (As:=[A1,A2,A3,A4,A5,A6,A7,A8,A9,A10,A11,A12,A13,A14,A15,A16]) h) h
theorem YH {A1 A2 A3 A4 A5 A6 A7 A8 A9 A10 A11 A12 A13 A14 A15 A16 A17 X:Asn} (h:J c L (X::A1::A2::A3::A4::A5::A6::A7::A8::A9::A10::A11::A12::A13::A14::A15::A16::A17::As) K):J c L (A1::A2::A3::A4::A5::A6::A7::A8::A9::A10::A11::A12::A13::A14::A15::A16::A17::X::As) K:=Za (fun _ h=>Mem.pull (As:=[A1,A2,A3,A4,A5,A6,A7,A8,A9,A10,A11,A12,A13,A14,A15,A16,A17]) h) h
theorem j_pull18 {A1 A2 A3 A4 A5 A6 A7 A8 A9 A10 A11 A12 A13 A14 A15 A16 A17 A18 X:Asn} (h:J c L (X::A1::A2::A3::A4::A5::A6::A7::A8::A9::A10::A11::A12::A13::A14::A15::A16::A17::A18::As) K):J c L (A1::A2::A3::A4::A5::A6::A7::A8::A9::A10::A11::A12::A13::A14::A15::A16::A17::A18::X::As) K:=Za (fun _ h=>Mem.pull (As:=[A1,A2,A3,A4,A5,A6,A7,A8,A9,A10,A11,A12,A13,A14,A15,A16,A17,A18]) h) h
theorem YO {A1 A2 A3 A4 A5 A6 A7 A8 A9 A10 A11 A12 A13 A14 A15 A16 A17 A18 A19 X:Asn} (h:J c L (X::A1::A2::A3::A4::A5::A6::A7::A8::A9::A10::A11::A12::A13::A14::A15::A16::A17::A18::A19::As) K):J c L (A1::A2::A3::A4::A5::A6::A7::A8::A9::A10::A11::A12::A13::A14::A15::A16::A17::A18::A19::X::As) K:=Za (fun _ h=>Mem.pull (As:=[A1,A2,A3,A4,A5,A6,A7,A8,A9,A10,A11,A12,A13,A14,A15,A16,A17,A18,A19]) h) h
theorem j_pull20 {A1 A2 A3 A4 A5 A6 A7 A8 A9 A10 A11 A12 A13 A14 A15 A16 A17 A18 A19 A20 X:Asn} (h:J c L (X::A1::A2::A3::A4::A5::A6::A7::A8::A9::A10::A11::A12::A13::A14::A15::A16::A17::A18::A19::A20::As) K):J c L (A1::A2::A3::A4::A5::A6::A7::A8::A9::A10::A11::A12::A13::A14::A15::A16::A17::A18::A19::A20::X::As) K:=Za (fun _ h=>Mem.pull (As:=[A1,A2,A3,A4,A5,A6,A7,A8,A9,A10,A11,A12,A13,A14,A15,A16,A17,A18,A19,A20]) h) h
theorem j_pull21 {A1 A2 A3 A4 A5 A6 A7 A8 A9 A10 A11 A12 A13 A14 A15 A16 A17 A18 A19 A20 A21 X:Asn} (h:J c L (X::A1::A2::A3::A4::A5::A6::A7::A8::A9::A10::A11::A12::A13::A14::A15::A16::A17::A18::A19::A20::A21::As) K):J c L (A1::A2::A3::A4::A5::A6::A7::A8::A9::A10::A11::A12::A13::A14::A15::A16::A17::A18::A19::A20::A21::X::As) K:=Za (fun _ h=>Mem.pull (As:=[A1,A2,A3,A4,A5,A6,A7,A8,A9,A10,A11,A12,A13,A14,A15,A16,A17,A18,A19,A20,A21]) h) h
theorem YD {A1 A2 A3 A4 A5 A6 A7 A8 A9 A10 A11 A12 A13 A14 A15 A16 A17 A18 A19 A20 A21 A22 X:Asn} (h:J c L (X::A1::A2::A3::A4::A5::A6::A7::A8::A9::A10::A11::A12::A13::A14::A15::A16::A17::A18::A19::A20::A21::A22::As) K):J c L (A1::A2::A3::A4::A5::A6::A7::A8::A9::A10::A11::A12::A13::A14::A15::A16::A17::A18::A19::A20::A21::A22::X::As) K:=Za (fun _ h=>Mem.pull (As:=[A1,A2,A3,A4,A5,A6,A7,A8,A9,A10,A11,A12,A13,A14,A15,A16,A17,A18,A19,A20,A21,A22]) h) h
theorem zn {A1 A2 A3 A4 A5 A6 A7 A8 A9 A10 A11 A12 A13 A14 A15 A16 A17 A18 A19 A20 A21 A22 A23 X:Asn} (h:J c L (X::A1::A2::A3::A4::A5::A6::A7::A8::A9::A10::A11::A12::A13::A14::A15::A16::A17::A18::A19::A20::A21::A22::A23::As) K):J c L (A1::A2::A3::A4::A5::A6::A7::A8::A9::A10::A11::A12::A13::A14::A15::A16::A17::A18::A19::A20::A21::A22::A23::X::As) K:=Za (fun _ h=>Mem.pull (As:=[A1,A2,A3,A4,A5,A6,A7,A8,A9,A10,A11,A12,A13,A14,A15,A16,A17,A18,A19,A20,A21,A22,A23]) h) h
theorem Yk {A1 A2 A3 A4 A5 A6 A7 A8 A9 A10 A11 A12 A13 A14 A15 A16 A17 A18 A19 A20 A21 A22 A23 A24 A25 X:Asn} (h:J c L (X::A1::A2::A3::A4::A5::A6::A7::A8::A9::A10::A11::A12::A13::A14::A15::A16::A17::A18::A19::A20::A21::A22::A23::A24::A25::As) K):J c L (A1::A2::A3::A4::A5::A6::A7::A8::A9::A10::A11::A12::A13::A14::A15::A16::A17::A18::A19::A20::A21::A22::A23::A24::A25::X::As) K:=Za (fun _ h=>Mem.pull (As:=[A1,A2,A3,A4,A5,A6,A7,A8,A9,A10,A11,A12,A13,A14,A15,A16,A17,A18,A19,A20,A21,A22,A23,A24,A25]) h) h
theorem pr_max_sub {x y:Operand} {m n:Nat} {tys:Array TypeId} (hx:ev L x=some (.int .i64 ((m:Nat)-(n:Nat):Int))) (hy:ev L y=some (.int .i64 ((0:Nat):Int))):PR c (.call { callee:=.builtin .max,args:=#[x,y],argTypes:=tys }) T L As (.int .i64 ((m-n:Nat):Int)):=by
 have e:((m-n:Nat):Int)=max ((m:Nat)-(n:Nat):Int) ((0:Nat):Int):=by omega
 rw [e]
 exact pr_maxI hx hy
/-- An own row behind a value,opened. -/
theorem Wt {c:Cx} {L:List (Nat×Value)} {R:List Asn} {K:Act→World→Prop} {v:Value} {E:TypeId} {t:Ty} {xs:List t.den} (hne:0<xs.length) (h:∀ g cap,v=.slice (some ⟨g,0,none⟩) xs.length cap→J c L (.rowg g cap E t xs::R) K):J c L (.row v E t xs::R) K:=fun a w hf hm=>by
 obtain ⟨I,m,he,m1,m2,rfl,hr,h2⟩:=hm
 rcases hr with ⟨_,rfl,_⟩ | ⟨g,cap,e,rfl,h3⟩
 ·simp at hne
 ·exact h g cap e a w hf ⟨I,[g]++m2,he,[g],m2,rfl,⟨rfl,h3⟩,h2⟩
/-- An own row is no longer than its room. -/
theorem j_cap {g cap:Nat} {E:TypeId} {t:Ty} {xs:List t.den} (hA:Asn.rowg g cap E t xs∈As) (h:xs.length≤cap→J c L As K):J c L As K:=fun a w hf hm=>by
 obtain ⟨I,m,he,hs⟩:=id hm
 obtain ⟨m1,h1,_⟩:=hs.mem_own hA
 obtain ⟨_,C,_,h2,_⟩:=h1
 exact h h2 a w hf hm
/-- What lies behind the end of an own row is cleared. -/
theorem jo_clearO {ty E:TypeId} {x:Operand} {g cap l k:Nat} {t:Ty} {xs:List t.den} {agg:Bool} {by_:Nat} {z:Value} (hx:ev L x=some (ownS g cap l k t.n)) (hu:c.P.underlying ty=some (.slice E)) (he:TyF c.P E agg t.n by_ (some z)) (hzs:z.cells.size=t.n) (hz1:z.cells.toList.all (·.oneCell')=true) (hl:xs.length≤l) (hk:l+k≤cap) 
  (h:J c L (.rowg g cap E t xs::R) (wpList c.P ops Q rest)):J c L (.rowg g cap E t xs::R) (wpList c.P ops Q (⟨none,.call { callee:=.builtin .clear,args:=#[x],argTypes:=#[ty] },T,pos,aft,none⟩::rest)):=Yc rfl fun a w hf hm=>by
 obtain ⟨i,hi1,hi2,hi3,hi4⟩:=he.get
 show Oper.upon _ _ _ _ _ ((execOp a.eval _).run c.P w)
 by_cases h0:k=0
 ·subst h0
  have hr:(execOp a.eval ⟨none,.call { callee:=.builtin .clear,args:=#[x],argTypes:=#[ty] },T,pos,aft,none⟩).run c.P w=.ok (.value (.tuple #[])) w:=by
   unfold ownS at hx
   simp [execOp,resolve,invoke,builtin,Builtin.clear_,hf.ev hx,run_underlying hu]
  rw [hr]
  exact h _ _ (hf.none _) hm
 ·have hx':ev L x=some (.slice (some ⟨g,l*t.n,none⟩) k (cap-l)):=by rw [hx];unfold ownS;rw [if_neg (by omega)]
  obtain ⟨I,m0,hE,m1,m2,rfl,hA,hR⟩:=hm
  obtain ⟨rfl,C,h1,h2,h3,h4,h5⟩:=hA
  have hzl:(Builtin.zeroCells z.cells k).toList.length=k*t.n:=by rw [Array.length_toList,size_zeroCells,hzs]
  have hm1:(l+k)*t.n≤cap*t.n:=Nat.mul_le_mul_right _ hk
  rw [Nat.add_mul] at hm1
  have hone:∀ u∈(Builtin.zeroCells z.cells k).toList,u.oneCell'=true:=fun u hu=>by
   unfold Builtin.zeroCells at hu
   rw [Array.toList_map] at hu
   obtain ⟨q,_,rfl⟩:=List.mem_map.1 hu
   have hpos:=t.n_pos
   have hlt:q % z.cells.size<z.cells.size:=Nat.mod_lt _ (by omega)
   rw [getElem!_pos z.cells _ hlt]
   exact (List.all_eq_true.1 hz1) _ (Array.mem_toList_iff.2 (Array.getElem_mem hlt))
  have hst:=run_storeCells_at c.P g (l*t.n) E (Builtin.zeroCells z.cells k).toList 0 C w h1 (by rw [hzl,h4];simpa using hm1) hone
  have hr:(execOp a.eval ⟨none,.call { callee:=.builtin .clear,args:=#[x],argTypes:=#[ty] },T,pos,aft,none⟩).run c.P w=.ok (.value (.tuple #[])) (w.setRow g (C.toList.take (l*t.n)++(Builtin.zeroCells z.cells k).toList++C.toList.drop (l*t.n+(Builtin.zeroCells z.cells k).toList.length)).toArray):=by
   simp only [Nat.add_zero] at hst
   have hk0:k≠0:=h0
   cases k with
   | zero=>exact absurd rfl h0
   | succ k=>simp [execOp,resolve,invoke,builtin,Builtin.clear_,hf.ev hx',run_underlying hu,zeroValue,typeInfo,hi1,hi4,hst]
  rw [hr]
  have ho:=hE.okw
  have hgh:=setRow_heap w g C (C.toList.take (l*t.n)++(Builtin.zeroCells z.cells k).toList++C.toList.drop (l*t.n+(Builtin.zeroCells z.cells k).toList.length)).toArray E _ h1
  have eff:Eff w I [g] (w.setRow g (C.toList.take (l*t.n)++(Builtin.zeroCells z.cells k).toList++C.toList.drop (l*t.n+(Builtin.zeroCells z.cells k).toList.length)).toArray) I [g]:=Eff.write ho.left rfl rfl rfl (by simp [World.setRow]) (fun q hq=>setRow_other w g q _ hq)
  refine h _ _ (hf.none _) ⟨I,[g]++m2,hE.trans (Eff.frame ho eff),[g],m2,rfl,⟨rfl,_,hgh,h2,h3,?_,fun q hq=>?_⟩,Sats.frame ho eff hR⟩
  ·simp only [List.size_toArray,List.length_append,List.length_take,List.length_drop,Array.length_toList,hzl] at *
   omega
  ·have hq1:q*t.n+t.n≤l*t.n:=Zm hq hl
   rw [List.toList_toArray,part_before hq1 (by rw [Array.length_toList];omega)]
   exact Zc (fun b hb=>eff.block b (ho.lt b hb) (fun hm=>ho.left.apart b hm hb)) (fun _ h=>h) (h5 q hq)
/-- 'append(s[:i],s[j:]...)' within one own row. -/
theorem w9 {ty E:TypeId} {x y:Operand} {g cap i j len d:Nat} {t:Ty} {xs:List t.den} {agg:Bool} {by_:Nat} {z:Value} (hx:ev L x=some (.slice (some ⟨g,0,none⟩) i cap)) (hy:ev L y=some (ownS g cap j (len-j) t.n)) (hu:c.P.underlying ty=some (.slice E)) (he:TyF c.P E agg t.n by_ (some z)) (hlen:len=xs.length) (hij:i≤j) (hj:j≤len) (hd:Nat.blt d c.n=true)
  (h:J c ((d,.slice (some ⟨g,0,none⟩) (i+(len-j)) cap)::L) (.rowg g cap E t (xs.take i++xs.drop j)::R) (wpList c.P ops Q rest)):J c L (.rowg g cap E t xs::R) (wpList c.P ops Q (⟨some d,.call { callee:=.builtin .append,args:=#[x,y],argTypes:=#[ty,ty] },T,pos,aft,none⟩::rest)):=Yc rfl fun a w hf hm=>by
 obtain ⟨i0,hi1,hi2,hi3,hi4⟩:=he.get
 subst hlen
 show Oper.upon _ _ _ _ _ ((execOp a.eval _).run c.P w)
 obtain ⟨I,m0,hE,m1,m2,rfl,hA,hR⟩:=hm
 obtain ⟨rfl,C,h1,h2,h3,h4,h5⟩:=hA
 have ho:=hE.okw
 by_cases h0:xs.length-j=0
 ·have hjl:j=xs.length:=by omega
  have hr:(execOp a.eval ⟨some d,.call { callee:=.builtin .append,args:=#[x,y],argTypes:=#[ty,ty] },T,pos,aft,none⟩).run c.P w=.ok (.value (.slice (some ⟨g,0,none⟩) (i+(xs.length-j)) cap)) w:=by
   unfold ownS at hy
   rw [h0] at hy ⊢
   have hic:i≤cap:=by omega
   simp [execOp,resolve,invoke,builtin,Builtin.append_,hf.ev hx,hf.ev hy,run_underlying hu,sizeOf,typeInfo,hi1,Builtin.lenOf,hic,storeCells,Builtin.firstCells,loadCells,loadCellsFrom]
  rw [hr]
  refine h _ _ (hf.put (by rw [Nat.blt_eq] at hd;exact hd) _) ⟨I,[g]++m2,hE,[g],m2,rfl,⟨rfl,C,h1,?_,h3,h4,fun q hq=>?_⟩,hR⟩
  ·rw [hjl,List.drop_length,List.append_nil,List.length_take];omega
  ·have e:xs.take i++xs.drop j=xs.take i:=by rw [hjl,List.drop_length,List.append_nil]
   have hq':q<(xs.take i).length:=by rw [e] at hq;exact hq
   have hqi:q<xs.length:=by rw [List.length_take] at hq';omega
   have:(xs.take i++xs.drop j)[q]=xs[q]:=by
    rw [List.getElem_append_left hq',List.getElem_take]
   rw [this]
   exact h5 q hqi
 ·have hjc:j<cap:=by omega
  have hy':ev L y=some (.slice (some ⟨g,j*t.n,none⟩) (xs.length-j) (cap-j)):=by rw [hy];unfold ownS;rw [if_neg (by omega)]
  have hn:=t.n_pos
  obtain ⟨news,hnews⟩:∃ news:List Value,news=(C.toList.drop (j*t.n)).take ((xs.length-j)*t.n):=⟨_,rfl⟩
  have hb1:j*t.n+(xs.length-j)*t.n≤C.size:=by
   rw [h4,← Nat.add_mul];exact Nat.mul_le_mul_right _ (by omega)
  have hnl:news.length=(xs.length-j)*i0.size:=by
   rw [hnews,List.length_take,List.length_drop,Array.length_toList,hi2]
   exact Nat.min_eq_left (Nat.le_sub_of_add_le (by rw [Nat.add_comm];exact hb1))
  have hnc:∀ q u,news[q]?=some u→w.cell? ((⟨g,j*t.n,none⟩:Addr).add q)=some u:=fun q u hq=>by
   rw [hnews,List.getElem?_take] at hq
   rw [Addr.add_mk,z4 h1]
   split at hq
   ·simpa using hq
   ·cases hq
  have hpart:∀ q,q<xs.length-j→(news.drop (q*t.n)).take t.n=(C.toList.drop ((j+q)*t.n)).take t.n:=fun q hq=>by
   apply List.ext_getElem?
   intro r
   rw [List.getElem?_take,List.getElem?_take]
   split
   ·rename_i hr
    have:q*t.n+t.n≤(xs.length-j)*t.n:=Zm hq (Nat.le_refl _)
    rw [List.getElem?_drop,List.getElem?_drop,hnews,List.getElem?_take_of_lt (by omega),List.getElem?_drop,Nat.add_mul,Nat.add_assoc]
   ·rfl
  have hone:∀ u∈news,u.oneCell'=true:=fun u hu=>by
   obtain ⟨q,hq,rfl⟩:=List.mem_iff_getElem.1 hu
   rw [hnl,hi2] at hq
   have hqd:q / t.n<xs.length-j:=Nat.div_lt_of_lt_mul (by rw [Nat.mul_comm];exact hq)
   have hm5:=h5 (j+q / t.n) (by omega)
   rw [← hpart _ hqd] at hm5
   refine wL hm5 _ (List.mem_iff_getElem?.2 ⟨q % t.n,?_⟩)
   rw [List.getElem?_take_of_lt (Nat.mod_lt _ hn),List.getElem?_drop]
   have:q / t.n*t.n+q % t.n=q:=by rw [Nat.mul_comm];exact Nat.div_add_mod q t.n
   rw [this,List.getElem?_eq_getElem (by rw [hnl,hi2];exact hq)]
  have hroom:i+(xs.length-j)≤cap:=by omega
  have hfit:i*i0.size+news.length≤C.size:=by
   rw [hnl,hi2,h4,← Nat.add_mul];exact Nat.mul_le_mul_right _ hroom
  have hap:=run_append_room (P:=c.P) w ty T E i0 hu hi1 g i cap C h1 ⟨g,j*t.n,none⟩ (xs.length-j) (cap-j) news hnl hnc hone hroom hfit
  rw [hi2] at hap hnl hfit
  have hr:(execOp a.eval ⟨some d,.call { callee:=.builtin .append,args:=#[x,y],argTypes:=#[ty,ty] },T,pos,aft,none⟩).run c.P w=.ok (.value (.slice (some ⟨g,0,none⟩) (i+(xs.length-j)) cap)) (w.setRow g (C.toList.take (i*t.n)++news++C.toList.drop (i*t.n+news.length)).toArray):=by
   simp only [execOp,resolve,invoke,builtin,Sem.run_bind,Sem.run_pure,Result.andThen_ok,List.map_toArray,List.map_cons,List.map_nil,hf.ev hx,hf.ev hy',hap]
  rw [hr]
  have hgh:=setRow_heap w g C (C.toList.take (i*t.n)++news++C.toList.drop (i*t.n+news.length)).toArray E _ h1
  have eff:Eff w I [g] (w.setRow g (C.toList.take (i*t.n)++news++C.toList.drop (i*t.n+news.length)).toArray) I [g]:=Eff.write ho.left rfl rfl rfl (by simp [World.setRow]) (fun q hq=>setRow_other w g q _ hq)
  have hmono:∀ {tt:Ty} {cs:List Value} {x:tt.den},repC w I tt cs x→repC (w.setRow g (C.toList.take (i*t.n)++news++C.toList.drop (i*t.n+news.length)).toArray) I tt cs x:=fun h=>Zc (fun b hb=>eff.block b (ho.lt b hb) (fun hm=>ho.left.apart b hm hb)) (fun _ h=>h) h
  have hil:i*t.n≤C.toList.length:=by rw [Array.length_toList];omega
  refine h _ _ (hf.put (by rw [Nat.blt_eq] at hd;exact hd) _) ⟨I,[g]++m2,hE.trans (Eff.frame ho eff),[g],m2,rfl,⟨rfl,_,hgh,?_,h3,?_,fun q hq=>?_⟩,Sats.frame ho eff hR⟩
  ·rw [List.length_append,List.length_take,List.length_drop];omega
  ·simp only [List.size_toArray,List.length_append,List.length_take,List.length_drop,Array.length_toList]
   omega
  ·rw [List.toList_toArray]
   have hq2:q<i+(xs.length-j):=by rw [List.length_append,List.length_take,List.length_drop] at hq;omega
   by_cases hqi:q<i
   ·have hq3:q<(xs.take i).length:=by rw [List.length_take];omega
    have e:(xs.take i++xs.drop j)[q]=xs[q]'(by omega):=by rw [List.getElem_append_left hq3,List.getElem_take]
    rw [part_before (Zm hqi (Nat.le_refl _)) hil,e]
    exact hmono (h5 q (by omega))
   ·have e:(xs.take i++xs.drop j)[q]=xs[j+(q-i)]'(by omega):=by
     rw [List.getElem_append_right (by rw [List.length_take];omega),List.getElem_drop]
     congr 1
     rw [List.length_take];omega
    have hqq:q*t.n=i*t.n+(q-i)*t.n:=by rw [← Nat.add_mul];congr 1;omega
    rw [part_within hil hqq (by rw [hnl];exact Zm (by omega) (Nat.le_refl _)),hpart _ (by omega),e]
    exact hmono (h5 _ (by omega))
end ops
end Go.Sep
namespace Go.Sep
open Go
set_option linter.unusedVariables false
set_option linter.unusedSimpArgs false
/-- None of these has come up. -/
def YR (bar:List Nat) (listed:Array Bool):Bool:=bar.all fun b=>!(listed.getD b true)
/-- Each of these waits for number i. -/
def waitsFor (md:Region.Mode) (ops:Array Oper) (bar:List Nat) (i:Nat):Bool:=bar.all fun b=>match ops[b]? with
 | some o=>o.after.any fun e=>Region.binds md e&&e.on==i
 | none=>false
section held
variable {P:Program} {ops:Array Oper} {Q:Exit→Act→World→Prop} {md:Region.Mode} {S:World→Prop} {bar:List Nat}
def wk (P:Program) (md:Region.Mode) (ops:Array Oper) (Q:Exit→Act→World→Prop) (S:World→Prop) (bar:List Nat):Nat→Array Bool→Act→World→Prop
 | 0,listed,a,w=>Region.ready md ops listed=[]∧Q .normal a w
 | fuel+1,listed,a,w =>
  (Region.ready md ops listed=[]→Q .normal a w) ∧
  ∀ i∈Region.ready md ops listed,wpOp P ops Q i (fun a' w'=>(YR bar (listed.setIfInBounds i true)=true→S w')∧wk P md ops Q S bar fuel (listed.setIfInBounds i true) a' w') a w
theorem wpAny_of_I:∀ (fuel:Nat) (listed:Array Bool) (a:Act) (w:World),wk P md ops Q S bar fuel listed a w→wpAny P md ops Q fuel listed a w
 | 0,_,_,_,h=>h
 | fuel+1,_,_,_,h=>⟨h.1,fun i hi=>wpOp_mono (fun a' w' h'=>wpAny_of_I fuel _ a' w' h'.2) (h.2 i hi)⟩
theorem wpAnyI_first {i:Nat} {oi:Oper} {v:Value} (hi:ops[i]?=some oi) (hsel:∀ (j:Nat) (o:Oper) cs b,ops[j]?=some o→o.op≠.select cs b)
  (hQ:∀ c a w,Q (.panic c) (a.put oi.dst v) w→Q (.panic c) a w) (hb:waitsFor md ops bar i=true) (hib:i ∉ bar) :
  ∀ (fuel:Nat) (listed:Array Bool) (a:Act) (w:World),
   (∀ j oj,ops[j]?=some oj→j≠i→listed.getD j true=false→(∀ e∈oj.after,Region.binds md e=true→e.on≠i)→oi.apart ops oj=true) →
   i∈Region.ready md ops listed→YieldsIf P ops S oi v a→YR bar listed=true→S w →
   wk P md ops Q S bar fuel (listed.setIfInBounds i true) (a.put oi.dst v) w→wk P md ops Q S bar (fuel+1) listed a w:=by
 intro fuel
 induction fuel with
 | zero =>
  intro listed a w _ hr hy _ hS H
  refine ⟨fun h=>(by rw [h] at hr;cases hr),fun j hj=>?_⟩
  by_cases hji:j=i
  ·subst hji;exact hy.wpOp hi hS ⟨fun _=>hS,H⟩
  ·have:=ready_mono hj hji
   rw [H.1] at this
   cases this
 | succ fuel ih =>
  intro listed a w hfree hr hy hc hS H
  refine ⟨fun h=>(by rw [h] at hr;cases hr),fun j hj=>?_⟩
  by_cases hji:j=i
  ·subst hji;exact hy.wpOp hi hS ⟨fun _=>hS,H⟩
  ·have h1:=H.2 j (ready_mono hj hji)
   obtain ⟨hjun,oj,hoj,hall⟩:=mem_ready.1 hj
   have hnot:∀ e∈oj.after,Region.binds md e=true→e.on≠i:=fun e he hb heq=>by
    have h1:=hall e he hb
    have h0:=(mem_ready.1 hr).1
    rw [heq] at h1
    rcases Nat.lt_or_ge i listed.size with h' | h'
    ·simp [h'] at h0 h1;rw [h0] at h1;cases h1
    ·simp [Array.getElem?_eq_none h'] at h1
   have hjb:j ∉ bar:=fun hjb=>by
    have:=List.all_eq_true.1 hb j hjb
    rw [hoj] at this
    obtain ⟨e,he1,he2⟩:=Array.any_eq_true'.1 this
    rw [Bool.and_eq_true,beq_iff_eq] at he2
    exact hnot e he1 he2.1 he2.2
   have hcj:YR bar (listed.setIfInBounds j true)=true:=by
    unfold YR at hc ⊢
    rw [List.all_eq_true] at hc ⊢
    intro b hbb
    have:=hc b hbb
    rw [getD_set_ne true (fun e:j=b=>hjb (e ▸ hbb))]
    exact this
   have hcij:YR bar ((listed.setIfInBounds i true).setIfInBounds j true)=true:=by
    unfold YR at hcj ⊢
    rw [List.all_eq_true] at hcj ⊢
    intro b hbb
    have:=hcj b hbb
    rw [Array.setIfInBounds_comm _ _ (Ne.symm hji),getD_set_ne true (fun e:i=b=>hib (e ▸ hbb))]
    exact this
   have h2:=wpOp_putIf hoj (hfree j oj hoj hji hjun hnot) (fun cs b=>hsel i oi cs b hi) (fun cs b=>hsel j oj cs b hoj) hQ hy h1
   have hfree':∀ k ok,ops[k]?=some ok→k≠i→(listed.setIfInBounds j true).getD k true=false →
     (∀ e∈ok.after,Region.binds md e=true→e.on≠i)→oi.apart ops ok=true:=fun k ok hk hki hun hno=>by
    refine hfree k ok hk hki ?_ hno
    by_cases hjk:j=k
    ·subst hjk;exact hjun
    ·rw [getD_set_ne true hjk] at hun;exact hun
   refine wpOp_mono (fun a' w' h3=>⟨fun _=>h3.2.1 hcij,ih (listed.setIfInBounds j true) a' w' hfree' (ready_mono hr (Ne.symm hji)) h3.1 hcj (h3.2.1 hcij) ?_⟩) h2
   rw [Array.setIfInBounds_comm _ _ hji]
   exact h3.2.2
theorem wpAnyI_done {listed:Array Bool} {a:Act} {w:World} (hr:Region.ready md ops listed=[]) (h:Q .normal a w) :
  ∀ fuel,wk P md ops Q S bar fuel listed a w
 | 0=>⟨hr,h⟩
 | _+1=>⟨fun _=>h,by rw [hr];simp⟩
end held
section ops
variable {c:Cx} {L:List (Nat×Value)} {As R:List Asn} {Q:Exit→Act→World→Prop} {K:Act→World→Prop} {ops:Array Oper} {rest:List Oper} {T:TypeId} {pos:String} {aft:Array Edge} {gd:Option (Nat×Bool)}
def JI (c:Cx) (As0:List Asn) (bar:List Nat) (ops:Array Oper) (F:Act→World→Prop) (fuel:Nat) (listed:Array Bool) (L:List (Nat×Value)) (As:List Asn):Prop :=
 J c L As (fun a w=>wk c.P .any ops (only F) (Mem c As0) bar fuel listed a w)
variable {As0:List Asn} {bar:List Nat} {F:Act→World→Prop} {fuel:Nat} {listed listed':Array Bool}
theorem z3 {id:Nat} {l:List Oper} {ι:Type} (LF:ι→List (Nat×Value)) (AF:ι→List Asn) (As0:List Asn) (bar:List Nat) (hm:c.P.follows .mixedOrders=true)
  (h:∀ listed,listed=Array.replicate l.toArray.size false→JI c As0 bar l.toArray (fun a w=>∃ i,Fits c.n (LF i) a∧Mem c (AF i) w) l.toArray.size listed L As) (k:∀ i,J c (LF i) (AF i) (Q .normal)) :
  J c L As ((Code.region id l.toArray true).wp c.P Q):=fun a w hf hw=>by
 refine wp_mono (Q:=only (fun a w=>∃ i,Fits c.n (LF i) a∧Mem c (AF i) w)) (wp_region_any hm (wpAny_of_I _ _ _ _ (h _ rfl a _ hf (hw.drawn _)))) ?_
 rintro e a' w' ⟨rfl,i,h1,h2⟩
 exact k i a' w' h1 h2
theorem yk (i:Nat) {op:Op} {d:Nat} {v:Value} (hi:ops[i]?=some ⟨some d,op,T,pos,aft,none⟩) (hs:Region.noSelect ops=true) (hf:Region.free .any ops listed i=true) (hr:(Region.ready .any ops listed).contains i=true) (hw:(waitsFor .any ops bar i&&YR bar listed&&!bar.contains i)=true)
  (hd:Nat.blt d c.n=true) (hp:PR c op T L As0 v) (hS:∀ w,Mem c As w→Mem c As0 w) (hl:listed.setIfInBounds i true=listed') (h:JI c As0 bar ops F fuel listed' ((d,v)::L) As):JI c As0 bar ops F (fuel+1) listed L As:=fun a w hf' hw'=>by
 rw [Bool.and_eq_true,Bool.and_eq_true] at hw
 refine wpAnyI_first hi (Region.noSelect_spec hs) (fun c a w h=>absurd h.1 (by simp)) hw.1.1 (by have:=hw.2;simpa using this) fuel listed a w (Region.free_spec hi hf) (by simpa using hr) (.inl ⟨by simp [Region.wanted],fun w hw=>hp a w hf' hw _ _ _ _⟩) hw.1.2 (hS w hw') ?_
 rw [hl]
 exact h _ w (hf'.put (by rw [Nat.blt_eq] at hd;exact hd) v) hw'
theorem qJ (i:Nat) {op:Op} {d j t:Nat} {b b' want:Bool} {v:Value} (hi:ops[i]?=some ⟨some d,op,T,pos,aft,some (j,want)⟩) (hs:Region.noSelect ops=true) (hf:Region.free .any ops listed i=true) (hr:(Region.ready .any ops listed).contains i=true) (hw:(waitsFor .any ops bar i&&YR bar listed&&!bar.contains i)=true)
  (hj:(ops[j]?).bind (·.dst)=some t) (hlk:lk L t=some (.bool b)) (hb:(b==want)=b') (hd:Nat.blt d c.n=true) (hp:b'=true→PR c op T L As0 v) (hS:∀ w,Mem c As w→Mem c As0 w) (hl:listed.setIfInBounds i true=listed') (h:JI c As0 bar ops F fuel listed' ((d,gv b' v)::L) As):JI c As0 bar ops F (fuel+1) listed L As:=fun a w hf' hw'=>by
 rw [Bool.and_eq_true,Bool.and_eq_true] at hw
 have hy:yielded ops a.tmps j=some b:=by
  have:=hf'.2.2 t _ hlk
  simp [yielded,hj,this]
 have hyi:YieldsIf c.P ops (Mem c As0) ⟨some d,op,T,pos,aft,some (j,want)⟩ (gv b' v) a:=by
  cases hb2:b' with
  | true =>
   have e:b=want:=by rw [hb2] at hb;simpa using hb
   exact .inl ⟨by simp [Region.wanted,hy,e],fun w hw=>hp hb2 a w hf' hw _ _ _ _⟩
  | false =>
   have e:¬ b=want:=by rw [hb2] at hb;simpa using hb
   exact .inr ⟨by simp [Region.wanted,hy,e],rfl⟩
 refine wpAnyI_first hi (Region.noSelect_spec hs) (fun c a w h=>absurd h.1 (by simp)) hw.1.1 (by have:=hw.2;simpa using this) fuel listed a w (Region.free_spec hi hf) (by simpa using hr) hyi hw.1.2 (hS w hw') ?_
 rw [hl]
 exact h _ w (hf'.put (by rw [Nat.blt_eq] at hd;exact hd) _) hw'
theorem yJ (rs:List Nat) (hr:Region.ready .any ops listed=rs) (hne:rs≠[])
  (h:∀ i∈rs,J c L As (fun a w=>wpOp c.P ops (only F) i (fun a' w'=>(YR bar (listed.setIfInBounds i true)=true→Mem c As0 w')∧wk c.P .any ops (only F) (Mem c As0) bar fuel (listed.setIfInBounds i true) a' w') a w)):JI c As0 bar ops F (fuel+1) listed L As:=fun a w hf hw =>
 ⟨fun h0=>absurd (hr ▸ h0) hne,hr ▸ fun i hi=>h i hi a w hf hw⟩
theorem zd {i:Nat} (hS:∀ w,Mem c As w→Mem c As0 w) (hl:listed.setIfInBounds i true=listed') (h:JI c As0 bar ops F fuel listed' L As) :
  J c L As (wpList c.P ops (only (fun a' w'=>(YR bar (listed.setIfInBounds i true)=true→Mem c As0 w')∧wk c.P .any ops (only F) (Mem c As0) bar fuel (listed.setIfInBounds i true) a' w')) []):=fun a w hf hw=>by
 refine ⟨rfl,fun _=>hS w hw,?_⟩
 rw [hl]
 exact h a w hf hw
theorem zR {i:Nat} (hc:YR bar (listed.setIfInBounds i true)=false) (hl:listed.setIfInBounds i true=listed') (h:JI c As0 bar ops F fuel listed' L As) :
  J c L As (wpList c.P ops (only (fun a' w'=>(YR bar (listed.setIfInBounds i true)=true→Mem c As0 w')∧wk c.P .any ops (only F) (Mem c As0) bar fuel (listed.setIfInBounds i true) a' w')) []):=fun a w hf hw=>by
 refine ⟨rfl,fun h=>(by rw [hc] at h;cases h),?_⟩
 rw [hl]
 exact h a w hf hw
theorem zW {ι:Type} {LF:ι→List (Nat×Value)} {AF:ι→List Asn} (i:ι) (hr:Region.ready .any ops listed=[]) (hL:SubL (LF i) L) (hA:∀ w,Mem c As w→Mem c (AF i) w) :
  JI c As0 bar ops (fun a w=>∃ i,Fits c.n (LF i) a∧Mem c (AF i) w) fuel listed L As:=fun _ w hf hw =>
 wpAnyI_done hr ⟨rfl,i,hf.sub hL,hA w hw⟩ _
end ops
end Go.Sep
