/-
 The rules of the calculus for maps compared with nil,and for calls that look at own memory and hand back a new row of data without slices. No program in sight. No conditions.
-/
import Derived.Test.YtlniaacdjllonaaGreatGSep7
import Derived.Test.YtlniaacdjllonaaGreatGSep6
namespace Go.Sep
open Go
set_option linter.unusedVariables false
set_option linter.unusedSimpArgs false
section ops
variable {c:Cx} {L:List (Nat×Value)} {As R:List Asn} {Q:Exit→Act→World→Prop} {K:Act→World→Prop} {ops:Array Oper} {rest:List Oper} {T:TypeId} {pos:String} {aft:Array Edge} {gd:Option (Nat×Bool)}
theorem run_eq_mapnil {P:Program} {w:World} {t kt et:TypeId} {r:Nat} (hu:P.underlying t=some (.map kt et)):(Op.equal t (.map (some r)) (.map none)).run P w=.ok false w:=by
 have h:∀ d:Nat,(Op.equalIn (d+1) t (.map (some r)) (.map none)).run P w=.ok false w:=fun d=>by simp [Op.equalIn,run_underlying hu]
 simp [Op.equal,Op.maxDepth,h 9999]
theorem pr_neq_mapnil {t t' kt et:TypeId} {x y:Operand} {r:Nat} (hx:ev L x=some (.map (some r))) (hy:ev L y=some (.map none)) (hu:c.P.underlying t=some (.map kt et)):PR c (.binOp .neq t x y t') T L As (.bool true):=fun a w hf _ d pos aft gd=>by
 have h:=run_eq_mapnil (P:=c.P) (w:=w) (r:=r) hu
 simp only [execOp,hf.ev hx,hf.ev hy,eqGuard,binOp,Sem.run_bind,Sem.run_pure,Result.andThen_ok,h]
 simp [h]
/-- After a call that was shown own memory and hands back a new row of data without slices. -/
theorem Mem.afterRow {c:Cx} {As:List Asn} {w w':World} {I I1':zl} {m m':List Nat} {v:Value} {E:TypeId} {t:Ty} {xs:List t.den} (hfl:t.flat=true) (he:Eff c.w0 c.I0 c.m0 w I m) (hs:Sats w I As m) (h:Eff w (fun b=>I b∨b∈m) [] w' I1' m') (h2:Sats w' I1' [.row v E t xs] m'):Mem c (.row v E t xs::As) w':=by
 have ho:=he.okw
 have hb:∀ k,k<w.heap.size→w'.heap[k]?=w.heap[k]?:=fun k hk=>h.block k hk List.not_mem_nil
 have eff:Eff w I m w' I (m'++m):=⟨h.os,h.tape,h.output,h.size,fun k hk _=>hb k hk,fun _ h=>h,fun _ h=>.inl h,fun b hb'=>Nat.lt_of_lt_of_le (ho.lt b hb') h.size,
  List.nodup_append.2 ⟨h.nodup,ho.nodup,fun a ha b hb' e=>by subst e;exact h.apart a ha (h.sub a (.inr hb'))⟩,
  fun b hb' hI=>by
   rcases List.mem_append.1 hb' with hb' | hb'
   ·exact h.apart b hb' (h.sub b (.inl hI))
   ·exact ho.apart b hb' hI,
  fun b hb'=>by
   rcases List.mem_append.1 hb' with hb' | hb'
   ·obtain ⟨h3,h4⟩:=h.own b hb'
    exact ⟨.inr (h3.resolve_left List.not_mem_nil),h4⟩
   ·exact ⟨.inl hb',Nat.lt_of_lt_of_le (ho.own b hb') h.size⟩⟩
 refine ⟨I,m'++m,he.trans eff,m',m,rfl,?_,W1 h.size (fun _ h=>h) (fun b hb'=>by rcases hb' with hb' | hb';exact hb b (ho.lt b hb');exact hb b (ho.own b hb')) hs⟩
 obtain ⟨m1,m2,rfl,h3,rfl⟩:=h2
 rw [List.append_nil]
 rcases h3 with h3 | ⟨g,cap,h3,rfl,C,h4,h5,h6,h7,h8⟩
 ·exact .inl h3
 ·exact .inr ⟨g,cap,h3,rfl,C,h4,h5,h6,h7,fun i hi=>(Zd hfl).2 ((Zd hfl).1 (h8 i hi))⟩
/-- A map of one's own,in another order. -/
theorem Mem.mptp {c:Cx} {w:World} {r:Nat} {t:Ty} {l l':List (List UInt8×t.den)} (hp:l.Perm l') (h:Mem c (.mpt r t l::R) w):Mem c (.mpt r t l'::R) w :=
 h.turn (Bs:=[.mpt r t l']) fun I m hs=>by
  obtain ⟨rfl,es,clk,h1,h2,l2,h3,h4⟩:=hs
  exact ⟨[r],List.Perm.refl _,[r],[],rfl,⟨rfl,es,clk,h1,(hp.map _).nodup_iff.1 h2,l2,h3.trans hp,h4⟩,rfl⟩
theorem jo_callqr {os:List Operand} {vs:List Value} {f:FuncId} {tys:Array TypeId} {Bs:List Asn} {E:TypeId} {t:Ty} {xs:List t.den} {d:Nat} (hfl:t.flat=true) (hc:Cal c.P f) (con:Con c.P f vs.toArray Bs (fun r:Value=>r) (fun r=>[.row r E t xs])) (hv:EvL L os vs) (hd:Nat.blt d c.n=true) (hB:HasQ As Bs)
  (h:∀ r,J c ((d,r)::L) (.row r E t xs::As) (wpList c.P ops Q rest)):J c L As (wpList c.P ops Q (⟨some d,.call { callee:=.value (.func f),args:=os.toArray,argTypes:=tys },T,pos,aft,none⟩::rest)):=Yc rfl fun a w hf hm=>by
 show Oper.upon _ _ _ _ _ ((execOp a.eval _).run c.P w)
 rw [WR hf hc hv w]
 obtain ⟨I,m,he,hs⟩:=hm
 refine (con w _ [] he.okw.shown (hB.sats hs)).mono fun e w' hE=>?_
 obtain ⟨i,I',m1',rfl,h3,h4⟩:=hE
 exact h i _ _ (hf.put (by rw [Nat.blt_eq] at hd;exact hd) _) (Mem.afterRow hfl he hs h3 h4)
/-- A quiet call that is shown own memory,in a region that draws. -/
theorem jd_callq {os:List Operand} {vs:List Value} {f:FuncId} {tys:Array TypeId} {Bs:List Asn} {val:Unit→Value} {d:Nat} (hc:Cal c.P f) (con:Con c.P f vs.toArray Bs val (fun _=>[])) (hv:EvL L os vs) (hd:Nat.blt d c.n=true) (hB:HasQ As Bs)
  (h:JD c ((d,val ())::L) As ops Q rest):JD c L As ops Q (⟨some d,.call { callee:=.value (.func f),args:=os.toArray,argTypes:=tys },T,pos,aft,none⟩::rest):=fun a hf=>by
 show (if Region.wanted _ _ then _ else _)
 rw [if_pos (by simp [Region.wanted])]
 refine ⟨val (),fun w hw=>?_,h _ (hf.put (by rw [Nat.blt_eq] at hd;exact hd) _)⟩
 unfold Oper.quietAt
 rw [WR hf hc hv w]
 refine ⟨rfl,?_⟩
 obtain ⟨I,m,he,hs⟩:=hw
 refine (con w _ [] he.okw.shown (hB.sats hs)).mono fun e w' hE=>?_
 obtain ⟨i,I',m1',rfl,h3,h4⟩:=hE
 exact ⟨rfl,Mem.after he hs h3⟩
theorem and3_wrap (m:Int):IntKind.i64.wrap ((BitVec.ofInt IntKind.i64.bits m &&& BitVec.ofInt IntKind.i64.bits 3).toNat:Int)=(((m % 4).toNat:Nat):Int):=by
 have h1:(BitVec.ofInt IntKind.i64.bits m &&& BitVec.ofInt IntKind.i64.bits 3).toNat=(m % 4).toNat:=by
  rw [BitVec.toNat_and]
  have e3:(BitVec.ofInt IntKind.i64.bits 3).toNat=2 ^ 2-1:=by decide
  rw [e3,Nat.and_two_pow_sub_one_eq_mod,BitVec.toNat_ofInt]
  show (m % (18446744073709551616:Nat)).toNat % 4=_
  omega
 rw [h1]
 exact wrap_i64 (by omega)
theorem pr_and3 {t t':TypeId} {x y:Operand} {m:Int} (hx:ev L x=some (.int .i64 m)) (hy:ev L y=some (.int .i64 3)):PR c (.binOp .and t x y t') T L As (.int .i64 (((m % 4).toNat:Nat):Int)):=fun a w hf _ d pos aft gd=>by
 have e:IntKind.i64.wrap ↑((m % 2 ^ IntKind.i64.bits).toNat &&& 3 % 2 ^ IntKind.i64.bits)=max (m % 4) 0:=by simpa using and3_wrap m
 simp [execOp,hf.ev hx,hf.ev hy,eqGuard,binOp,Op.intBits,e]
end ops
end Go.Sep
