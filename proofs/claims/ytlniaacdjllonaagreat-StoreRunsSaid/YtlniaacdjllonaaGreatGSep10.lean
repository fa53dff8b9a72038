/-
 Short rules of the calculus: what the longer ones say,with less to write. No program in sight. No conditions.
-/
import Derived.Test.YtlniaacdjllonaaGreatGSep9
namespace Go.Sep
open Go
set_option linter.unusedSimpArgs false
set_option linter.unusedVariables false
/-! ### Where an assertion stands -/
section memb
variable {α:Type} {a0 a1 a2 a3 a4 a5 a6 a7 a8 a9 x:α} {l:List α}
theorem mm0:x∈x::l:=.head _
theorem mm1:x∈a0::x::l:=.tail _ mm0
theorem mm2:x∈a0::a1::x::l:=.tail _ mm1
theorem mm3:x∈a0::a1::a2::x::l:=.tail _ mm2
theorem mm4:x∈a0::a1::a2::a3::x::l:=.tail _ mm3
theorem mm5:x∈a0::a1::a2::a3::a4::x::l:=.tail _ mm4
theorem mm6:x∈a0::a1::a2::a3::a4::a5::x::l:=.tail _ mm5
theorem mm7:x∈a0::a1::a2::a3::a4::a5::a6::x::l:=.tail _ mm6
theorem mm8:x∈a0::a1::a2::a3::a4::a5::a6::a7::x::l:=.tail _ mm7
theorem mm9:x∈a0::a1::a2::a3::a4::a5::a6::a7::a8::x::l:=.tail _ mm8
theorem mmT (h:x∈l):x∈a0::a1::a2::a3::a4::a5::a6::a7::a8::a9::l:=.tail _ (.tail _ (.tail _ (.tail _ (.tail _ (.tail _ (.tail _ (.tail _ (.tail _ (.tail _ h)))))))))
end memb
section ops
variable {c:Cx} {L:List (Nat×Value)} {As R:List Asn} {Q:Exit→Act→World→Prop} {K:Act→World→Prop} {ops:Array Oper} {rest:List Oper} {T:TypeId} {pos:String} {aft:Array Edge} {gd:Option (Nat×Bool)}
/-! ### Loads and stores of whole variables -/
theorem one_cells {v:Value} (h:v.oneCell'=true):v.cells=#[v]:=by cases v <;> simp_all [Value.cells,Value.oneCell']
theorem setL_all:∀ {vs cs:List Value},vs.length=cs.length→setL cs 0 vs=vs:=fun {vs cs} h=>by
 refine List.ext_getElem? fun j=>?_
 rcases Nat.lt_or_ge j vs.length with hj | hj
 ·rw [setL_in vs cs 0 j (by omega) (Nat.zero_le _) (by omega)];rfl
 ·rw [List.getElem?_eq_none (by rw [WD];omega),List.getElem?_eq_none hj]
/-- The value is one cell,as far as the memory says. -/
def One1 (As:List Asn) (v:Value):Prop:=∀ w I m,Sats w I As m→v.oneCell'=true
theorem o1 {v:Value} (h:v.oneCell'=true):One1 As v:=fun _ _ _ _=>h
theorem o1r {v:Value} {E:TypeId} {t:Ty} {xs:List t.den} (h:Asn.row v E t xs∈As):One1 As v:=fun _ _ _ hs=>wB.one (WS h hs)
theorem o1i {v:Value} {t:Ty} {xs:List t.den} (h:Asn.imm (.list t) v xs∈As):One1 As v:=fun _ _ _ hs=>wB.one (ZC h hs)
def Ones (As:List Asn):List Value→Prop
 | []=>True
 | v::vs=>One1 As v∧Ones As vs
theorem Ones.all {w:World} {I:zl} {m:List Nat} (hs:Sats w I As m):∀ {vs:List Value},Ones As vs→vs.all (·.oneCell')=true
 | [],_=>rfl
 | v::vs,h=>by rw [List.all_cons,h.1 w I m hs,Ones.all hs h.2];rfl
theorem jo_st1 {ty E:TypeId} {by_:Nat} {z:Option Value} {x y:Operand} {b:Nat} {v0 v:Value} (hx:ev L x=some (.pointer (some ⟨b,0,none⟩))) (hy:ev L y=some v) (ht:TyF c.P ty false 1 by_ z) (h1:One1 (.box b E [v0]::R) v)
  (h:J c L (.box b E [v]::R) (wpList c.P ops Q rest)):J c L (.box b E [v0]::R) (wpList c.P ops Q (⟨none,.store ty x y,T,pos,aft,none⟩::rest)) :=
 jo_storeV hx hy ht [v] (fun w I m hs=>one_cells (h1 w I m hs)) rfl (fun w I m hs=>by rw [List.all_cons,h1 w I m hs];rfl) [v] rfl rfl h
theorem Wp {ty E:TypeId} {n by_:Nat} {z:Option Value} {x y:Operand} {b:Nat} {cs vs:List Value} (hx:ev L x=some (.pointer (some ⟨b,0,none⟩))) (hy:ev L y=some (.agg vs.toArray)) (ht:TyF c.P ty true n by_ z)
  (hn:vs.length=n) (hl:vs.length=cs.length) (h1:vs.all (·.oneCell')=true)
  (h:J c L (.box b E vs::R) (wpList c.P ops Q rest)):J c L (.box b E cs::R) (wpList c.P ops Q (⟨none,.store ty x y,T,pos,aft,none⟩::rest)) :=
 jo_store hx hy ht vs rfl hn h1 vs (by rw [Nat.ble_eq];omega) (setL_all hl) h
theorem zo {ty E:TypeId} {n by_:Nat} {z:Option Value} {x y:Operand} {b:Nat} {cs vs:List Value} (hx:ev L x=some (.pointer (some ⟨b,0,none⟩))) (hy:ev L y=some (.agg vs.toArray)) (ht:TyF c.P ty true n by_ z)
  (hn:vs.length=n) (hl:vs.length=cs.length) (h1:Ones (.box b E cs::R) vs)
  (h:J c L (.box b E vs::R) (wpList c.P ops Q rest)):J c L (.box b E cs::R) (wpList c.P ops Q (⟨none,.store ty x y,T,pos,aft,none⟩::rest)) :=
 jo_storeV hx hy ht vs (fun _ _ _ _=>rfl) hn (fun _ _ _ hs=>Ones.all hs h1) vs (by rw [Nat.ble_eq];omega) (setL_all hl) h
/-- A store of one cell into a variable of several. -/
theorem zy {ty E:TypeId} {by_ o:Nat} {z:Option Value} {x y:Operand} {b:Nat} {cs:List Value} {v:Value} (cs':List Value) (hx:ev L x=some (.pointer (some ⟨b,o,none⟩))) (hy:ev L y=some v) (ht:TyF c.P ty false 1 by_ z) (h1:One1 (.box b E cs::R) v) (hfit:Nat.blt o cs.length=true) (hcs:setL cs o [v]=cs')
  (h:J c L (.box b E cs'::R) (wpList c.P ops Q rest)):J c L (.box b E cs::R) (wpList c.P ops Q (⟨none,.store ty x y,T,pos,aft,none⟩::rest)) :=
 jo_storeV hx hy ht [v] (fun w I m hs=>one_cells (h1 w I m hs)) rfl (fun w I m hs=>by rw [List.all_cons,h1 w I m hs];rfl) cs' (by rw [Nat.blt_eq] at hfit;rw [Nat.ble_eq];exact hfit) hcs h
theorem yr {ty E:TypeId} {by_:Nat} {z:Option Value} {x:Operand} {b o:Nat} {cs:List Value} {v:Value} (hx:ev L x=some (.pointer (some ⟨b,o,none⟩))) (ht:TyF c.P ty false 1 by_ z) (hA:Asn.box b E cs∈As) (hv:cs[o]?=some v):PR c (.load ty x) T L As v:=by
 obtain ⟨ho,rfl⟩:=List.getElem?_eq_some_iff.1 hv
 have e:(cs.drop o).take 1=[cs[o]]:=by rw [List.drop_eq_getElem_cons ho];rfl
 exact pr_load_box _ hx ht hA (by rw [e];rfl) (fun _=>rfl) (by rw [e];rfl)
theorem zH {ty E:TypeId} {n by_:Nat} {z:Option Value} {x:Operand} {b:Nat} {cs:List Value} (hx:ev L x=some (.pointer (some ⟨b,0,none⟩))) (ht:TyF c.P ty true n by_ z) (hA:Asn.box b E cs∈As) (hn:cs.length=n):PR c (.load ty x) T L As (.agg cs.toArray) :=
 pr_load_box _ hx ht hA (by rw [List.drop_zero,← hn,List.take_length]) (fun h=>by cases h) (by rw [List.drop_zero,← hn,List.take_length];rfl)
theorem qy {ty E:TypeId} {by_:Nat} {z:Option Value} {x:Operand} {b o:Nat} {cs:List Value} {v:Value} (hx:ev L x=some (.pointer (some ⟨b,o,none⟩))) (ht:TyF c.P ty false 1 by_ z) (hA:Asn.ibox b E cs∈As) (hv:cs[o]?=some v):PR c (.load ty x) T L As v:=by
 obtain ⟨ho,rfl⟩:=List.getElem?_eq_some_iff.1 hv
 have e:(cs.drop o).take 1=[cs[o]]:=by rw [List.drop_eq_getElem_cons ho];rfl
 exact pr_load_ibox _ hx ht hA (by rw [e];rfl) (fun _=>rfl) (by rw [e];rfl)
theorem pr_ldAi {ty E:TypeId} {n by_:Nat} {z:Option Value} {x:Operand} {b:Nat} {cs:List Value} (hx:ev L x=some (.pointer (some ⟨b,0,none⟩))) (ht:TyF c.P ty true n by_ z) (hA:Asn.ibox b E cs∈As) (hn:cs.length=n):PR c (.load ty x) T L As (.agg cs.toArray) :=
 pr_load_ibox _ hx ht hA (by rw [List.drop_zero,← hn,List.take_length]) (fun h=>by cases h) (by rw [List.drop_zero,← hn,List.take_length];rfl)
/-! ### Struct values,slices out of their parts -/
def EvP (L:List (Nat×Value)):List (Nat×Operand)→List (Nat×Value)→Prop
 | [],[]=>True
 | (i,o)::os,(k,v)::vs=>i=k∧ev L o=some v∧EvP L os vs
 | _,_=>False
theorem epn:EvP L [] []:=trivial
theorem epc {i:Nat} {o:Operand} {v:Value} {os:List (Nat×Operand)} {vs:List (Nat×Value)} (h:ev L o=some v) (k:EvP L os vs):EvP L ((i,o)::os) ((i,v)::vs):=⟨rfl,h,k⟩
theorem EvP.map {n:Nat} {a:Act} (hf:Fits n L a):∀ {ps:List (Nat×Operand)} {vs:List (Nat×Value)},EvP L ps vs→ps.map (fun (i,x)=>(i,a.eval x))=vs
 | [],[],_=>rfl
 | (i,o)::os,(k,v)::vs,h=>by rw [List.map_cons,EvP.map hf h.2.2];show (i,a.eval o)::vs=_;rw [hf.ev h.2.1,h.1]
 | [],_::_,h=>h.elim
 | _::_,[],h=>h.elim
theorem Z8 {t:TypeId} {ps:List (Nat×Operand)} {vs:List (Nat×Value)} (cs:List Value) (hp:EvP L ps vs) (hb:c.P.built t vs=some cs.toArray):PR c (.build t ps.toArray) T L As (.agg cs.toArray) :=
 pr_build vs cs (fun a hf=>by rw [List.map_toArray];exact EvP.map hf hp) hb
theorem WF {t:TypeId} {ps:List (Nat×Operand)} {vs:List (Nat×Value)} (cs:List Value) (hp:EvP L ps vs) (hb:∀ w I m,Sats w I As m→c.P.built t vs=some cs.toArray):PR c (.build t ps.toArray) T L As (.agg cs.toArray) :=
 pr_buildV vs cs (fun a hf=>by rw [List.map_toArray];exact EvP.map hf hp) hb
end ops
/-! ### Ends -/
section ends
variable {c:Cx} {L:List (Nat×Value)} {As:List Asn} {fn:Func} {val:Unit→Value}
theorem mem_nil {w:World} (h:Mem c As w):Mem c [] w:=by
 obtain ⟨I,m,he,_⟩:=h
 exact ⟨I,[],he.drop (List.nil_sublist _),rfl⟩
theorem rvn:W2 c L As [] []:=trivial
theorem rvc {r:ResultVar} {v:Value} {rs:List ResultVar} {vs:List Value} (h:ResV c L As r v) (k:W2 c L As rs vs):W2 c L As (r::rs) (v::vs):=⟨h,k⟩
theorem rvt {t:Tmp} {v:Value} {rs:List ResultVar} {vs:List Value} (h:lk L t=some v) (k:W2 c L As rs vs):W2 c L As (.tmp t::rs) (v::vs):=⟨zC h,k⟩
theorem jr1 {t:Tmp} {x:Value} (hres:fn.results=#[.tmp t]) (hx:lk L t=some x) (hv:val ()=x):J c L As (bodyPost c.P fn (Ends c.w0 c.I0 c.m0 val fun _=>[]) .ret) :=
 zt hres () hx hv fun _ h=>mem_nil h
theorem jrs {rs:List ResultVar} {vs:List Value} (hres:fn.results=rs.toArray) (hx:W2 c L As rs vs) (hn:Nat.beq vs.length 1=false) (hv:val ()=.tuple vs.toArray):J c L As (bodyPost c.P fn (Ends c.w0 c.I0 c.m0 val fun _=>[]) .ret) :=
 YQ hres () hx hn hv fun _ h=>mem_nil h
end ends
section rnd
variable {c:Cx} {L:List (Nat×Value)} {As:List Asn} {Q:Exit→Act→World→Prop}
/-- The end of a round. -/
theorem y0 {S:Type} {P1:S→Prop} {P2:S→Prop} {StL:S→List (Nat×Value)} {StA:S→List Asn} (s':S) (h1:P1 s') (hL:SubL (StL s') L)
  (h2:P2 s':=by (try dsimp only);omega) (hA:∀ w,Mem c As w→Mem c (StA s') w:=by exact fun _ h=>h) :
  J c L As (Exit.then (fun a w=>∃ s',P1 s'∧P2 s'∧Fits c.n (StL s') a∧Mem c (StA s') w) Q .normal):=YN s' h1 h2 hL hA
end rnd
/-! ### What a test tells -/
class BP (b:Bool) (p n:outParam Prop):Prop where
 t:b=true→p
 f:b=false→n
instance {p:Prop} [Decidable p]:BP (decide p) p (¬ p):=⟨of_decide_eq_true,of_decide_eq_false⟩
instance {a b:Bool} {p n q m:Prop} [h:BP a p n] [k:BP b q m]:BP (a&&b) (p∧q) (n∨m):=⟨fun e=>(bt_and e).imp h.t k.t,fun e=>(bf_and e).imp h.f k.f⟩
instance {a b:Bool} {p n q m:Prop} [h:BP a p n] [k:BP b q m]:BP (a||b) (p∨q) (n∧m):=⟨fun e=>(bt_or e).imp h.t k.t,fun e=>(bf_or e).imp h.f k.f⟩
instance {a:Bool} {p n:Prop} [h:BP a p n]:BP (!a) n p:=⟨fun e=>h.f (wA e),fun e=>h.t (wd e)⟩
instance (priority:=low) {a:Bool}:BP a (a=true) (a=false):=⟨id,id⟩
section cond
variable {c:Cx} {L:List (Nat×Value)} {As:List Asn} {Q:Exit→Act→World→Prop}
theorem yA {x:Operand} {th el:Code} {b:Bool} {p n:Prop} [h:BP b p n] (hv:ev L x=some (.bool b)) (ht:b=true→p→J c L As (th.wp c.P Q)) (hf:b=false→n→J c L As (el.wp c.P Q)):J c L As ((Code.cond x th el).wp c.P Q) :=
 ZM hv (fun e=>ht e (h.t e)) (fun e=>hf e (h.f e))
end cond
end Go.Sep
