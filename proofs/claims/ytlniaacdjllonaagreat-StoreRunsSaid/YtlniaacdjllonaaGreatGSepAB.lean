/-
 Regions that draw their order and change memory: what the region's last operations wait for by way of others is taken first too,and what looks at no memory at any time. No program in sight. No conditions.
-/
import Derived.Test.YtlniaacdjllonaaGreatGSep7
namespace Go.Sep
open Go
set_option linter.unusedVariables false
set_option linter.unusedSimpArgs false
/-- Each of W waits for number i or for another of W. -/
def upSet (md:Region.Mode) (ops:Array Oper) (W:List Nat) (i:Nat):Bool:=W.all fun x=>match ops[x]? with
 | some o=>o.after.any fun e=>Region.binds md e&&(e.on==i||W.contains e.on)
 | none=>false
section held
variable {P:Program} {ops:Array Oper} {Q:Exit→Act→World→Prop} {md:Region.Mode} {S:World→Prop} {bar W:List Nat}
theorem wpAnyI_firstW {i:Nat} {oi:Oper} {v:Value} (hi:ops[i]?=some oi) (hsel:∀ (j:Nat) (o:Oper) cs b,ops[j]?=some o→o.op≠.select cs b)
  (hQ:∀ c a w,Q (.panic c) (a.put oi.dst v) w→Q (.panic c) a w) (hb:upSet md ops W i=true) (hbW:∀ b∈bar,b∈W) (hiW:i ∉ W) :
  ∀ (fuel:Nat) (listed:Array Bool) (a:Act) (w:World),
   (∀ j oj,ops[j]?=some oj→j≠i→listed.getD j true=false→(∀ e∈oj.after,Region.binds md e=true→e.on≠i)→oi.apart ops oj=true) →
   i∈Region.ready md ops listed→YieldsIf P ops S oi v a→YR W listed=true→S w →
   wk P md ops Q S bar fuel (listed.setIfInBounds i true) (a.put oi.dst v) w→wk P md ops Q S bar (fuel+1) listed a w:=by
 intro fuel
 induction fuel with
 | zero =>
  intro listed a w _ hr hy _ hS H
  refine ⟨fun h=>(by rw [h] at hr;cases hr),fun j hj=>?_⟩
  by_cases hji:j=i
  ·subst hji;exact hy.wpOp hi hS ⟨fun _=>hS,H⟩
  ·have:=ready_mono hj hji
   rw [H.1] at this
   cases this
 | succ fuel ih =>
  intro listed a w hfree hr hy hc hS H
  refine ⟨fun h=>(by rw [h] at hr;cases hr),fun j hj=>?_⟩
  by_cases hji:j=i
  ·subst hji;exact hy.wpOp hi hS ⟨fun _=>hS,H⟩
  ·have h1:=H.2 j (ready_mono hj hji)
   obtain ⟨hjun,oj,hoj,hall⟩:=mem_ready.1 hj
   have hno:∀ e∈oj.after,Region.binds md e=true→∀ k,listed.getD k true=false→e.on≠k:=fun e he hb k h0 heq=>by
    have h1:=hall e he hb
    rw [heq] at h1
    rcases Nat.lt_or_ge k listed.size with h' | h'
    ·simp [h'] at h0 h1;rw [h0] at h1;cases h1
    ·simp [Array.getElem?_eq_none h'] at h1
   have hnot:∀ e∈oj.after,Region.binds md e=true→e.on≠i:=fun e he hb=>hno e he hb i (mem_ready.1 hr).1
   have hun:∀ k∈W,listed.getD k true=false:=fun k hk=>by
    have:=List.all_eq_true.1 hc k hk
    simpa using this
   have hjW:j ∉ W:=fun hjW=>by
    have:=List.all_eq_true.1 hb j hjW
    rw [hoj] at this
    obtain ⟨e,he1,he2⟩:=Array.any_eq_true'.1 this
    rw [Bool.and_eq_true,Bool.or_eq_true,beq_iff_eq] at he2
    rcases he2.2 with h | h
    ·exact hnot e he1 he2.1 h
    ·exact hno e he1 he2.1 e.on (hun e.on (by simpa using h)) rfl
   have hcj:YR W (listed.setIfInBounds j true)=true:=by
    unfold YR
    rw [List.all_eq_true]
    intro b hbb
    rw [getD_set_ne true (fun e:j=b=>hjW (e ▸ hbb)),hun b hbb];rfl
   have hcij:YR bar ((listed.setIfInBounds i true).setIfInBounds j true)=true:=by
    unfold YR
    rw [List.all_eq_true]
    intro b hbb
    rw [getD_set_ne true (fun e:j=b=>hjW (e ▸ hbW b hbb)),getD_set_ne true (fun e:i=b=>hiW (e ▸ hbW b hbb)),hun b (hbW b hbb)];rfl
   have h2:=wpOp_putIf hoj (hfree j oj hoj hji hjun hnot) (fun cs b=>hsel i oi cs b hi) (fun cs b=>hsel j oj cs b hoj) hQ hy h1
   have hfree':∀ k ok,ops[k]?=some ok→k≠i→(listed.setIfInBounds j true).getD k true=false →
     (∀ e∈ok.after,Region.binds md e=true→e.on≠i)→oi.apart ops ok=true:=fun k ok hk hki hun hno=>by
    refine hfree k ok hk hki ?_ hno
    by_cases hjk:j=k
    ·subst hjk;exact hjun
    ·rw [getD_set_ne true hjk] at hun;exact hun
   refine wpOp_mono (fun a' w' h3=>⟨fun _=>h3.2.1 hcij,ih (listed.setIfInBounds j true) a' w' hfree' (ready_mono hr (Ne.symm hji)) h3.1 hcj (h3.2.1 hcij) ?_⟩) h2
   rw [Array.setIfInBounds_comm _ _ hji]
   exact h3.2.2
theorem wpAnyI_any {i:Nat} {oi:Oper} {v:Value} (hi:ops[i]?=some oi) (hsel:∀ (j:Nat) (o:Oper) cs b,ops[j]?=some o→o.op≠.select cs b)
  (hQ:∀ c a w,Q (.panic c) (a.put oi.dst v) w→Q (.panic c) a w) (hib:i ∉ bar) :
  ∀ (fuel:Nat) (listed:Array Bool) (a:Act) (w:World),
   (∀ j oj,ops[j]?=some oj→j≠i→listed.getD j true=false→(∀ e∈oj.after,Region.binds md e=true→e.on≠i)→oi.apart ops oj=true) →
   i∈Region.ready md ops listed→YieldsIf P ops (fun _=>True) oi v a→(YR bar listed=true→S w) →
   wk P md ops Q S bar fuel (listed.setIfInBounds i true) (a.put oi.dst v) w→wk P md ops Q S bar (fuel+1) listed a w:=by
 have hcl:∀ listed:Array Bool,YR bar (listed.setIfInBounds i true)=YR bar listed:=fun listed=>by
  unfold YR
  rw [Bool.eq_iff_iff,List.all_eq_true,List.all_eq_true]
  refine forall_congr' fun b=>forall_congr' fun hb=>?_
  rw [getD_set_ne true (fun e:i=b=>hib (e ▸ hb))]
 intro fuel
 induction fuel with
 | zero =>
  intro listed a w _ hr hy hS H
  refine ⟨fun h=>(by rw [h] at hr;cases hr),fun j hj=>?_⟩
  by_cases hji:j=i
  ·subst hji;exact hy.wpOp hi trivial ⟨fun h=>hS (by rw [hcl] at h;exact h),H⟩
  ·have:=ready_mono hj hji
   rw [H.1] at this
   cases this
 | succ fuel ih =>
  intro listed a w hfree hr hy hS H
  refine ⟨fun h=>(by rw [h] at hr;cases hr),fun j hj=>?_⟩
  by_cases hji:j=i
  ·subst hji;exact hy.wpOp hi trivial ⟨fun h=>hS (by rw [hcl] at h;exact h),H⟩
  ·have h1:=H.2 j (ready_mono hj hji)
   obtain ⟨hjun,oj,hoj,hall⟩:=mem_ready.1 hj
   have hnot:∀ e∈oj.after,Region.binds md e=true→e.on≠i:=fun e he hb heq=>by
    have h1:=hall e he hb
    have h0:=(mem_ready.1 hr).1
    rw [heq] at h1
    rcases Nat.lt_or_ge i listed.size with h' | h'
    ·simp [h'] at h0 h1;rw [h0] at h1;cases h1
    ·simp [Array.getElem?_eq_none h'] at h1
   have hsw:(listed.setIfInBounds i true).setIfInBounds j true=(listed.setIfInBounds j true).setIfInBounds i true:=Array.setIfInBounds_comm _ _ (Ne.symm hji)
   have h2:=wpOp_putIf hoj (hfree j oj hoj hji hjun hnot) (fun cs b=>hsel i oi cs b hi) (fun cs b=>hsel j oj cs b hoj) hQ hy h1
   have hfree':∀ k ok,ops[k]?=some ok→k≠i→(listed.setIfInBounds j true).getD k true=false →
     (∀ e∈ok.after,Region.binds md e=true→e.on≠i)→oi.apart ops ok=true:=fun k ok hk hki hun hno=>by
    refine hfree k ok hk hki ?_ hno
    by_cases hjk:j=k
    ·subst hjk;exact hjun
    ·rw [getD_set_ne true hjk] at hun;exact hun
   have hS':∀ w',(YR bar ((listed.setIfInBounds i true).setIfInBounds j true)=true→S w')→YR bar (listed.setIfInBounds j true)=true→S w':=fun w' h hc=>h (by rw [hsw,hcl];exact hc)
   refine wpOp_mono (fun a' w' h3=>⟨hS' w' h3.2.1,ih (listed.setIfInBounds j true) a' w' hfree' (ready_mono hr (Ne.symm hji)) h3.1 (hS' w' h3.2.1) ?_⟩) h2
   rw [← hsw]
   exact h3.2.2
end held
section ops
variable {c:Cx} {L:List (Nat×Value)} {As R:List Asn} {K:Act→World→Prop} {ops:Array Oper} {T:TypeId} {pos:String} {aft:Array Edge}
variable {As0:List Asn} {bar:List Nat} {F:Act→World→Prop} {fuel:Nat} {listed listed':Array Bool}
theorem zX (W:List Nat) (i:Nat) {op:Op} {d:Nat} {v:Value} (hi:ops[i]?=some ⟨some d,op,T,pos,aft,none⟩) (hs:Region.noSelect ops=true) (hf:Region.free .any ops listed i=true) (hr:(Region.ready .any ops listed).contains i=true) (hw:(upSet .any ops W i&&YR W listed&&!W.contains i&&bar.all W.contains)=true)
  (hd:Nat.blt d c.n=true) (hp:PR c op T L As0 v) (hS:∀ w,Mem c As w→Mem c As0 w) (hl:listed.setIfInBounds i true=listed') (h:JI c As0 bar ops F fuel listed' ((d,v)::L) As):JI c As0 bar ops F (fuel+1) listed L As:=fun a w hf' hw'=>by
 rw [Bool.and_eq_true,Bool.and_eq_true,Bool.and_eq_true] at hw
 refine wpAnyI_firstW hi (Region.noSelect_spec hs) (fun c a w h=>absurd h.1 (by simp)) hw.1.1.1 (fun b hb=>by have:=List.all_eq_true.1 hw.2 b hb;simpa using this) (by have:=hw.1.2;simpa using this) fuel listed a w (Region.free_spec hi hf) (by simpa using hr) (.inl ⟨by simp [Region.wanted],fun w hw=>hp a w hf' hw _ _ _ _⟩) hw.1.1.2 (hS w hw') ?_
 rw [hl]
 exact h _ w (hf'.put (by rw [Nat.blt_eq] at hd;exact hd) v) hw'
/-- What looks at no memory. -/
theorem ji_takeM (i:Nat) {op:Op} {d:Nat} {v:Value} (hi:ops[i]?=some ⟨some d,op,T,pos,aft,none⟩) (hs:Region.noSelect ops=true) (hf:Region.free .any ops listed i=true) (hr:(Region.ready .any ops listed).contains i=true) (hw:bar.contains i=false)
  (hd:Nat.blt d c.n=true) (hp:∀ a w,Fits c.n L a→(execOp a.eval ⟨some d,op,T,pos,aft,none⟩).run c.P w=.ok (.value v) w) (hS:YR bar listed=true→∀ w,Mem c As w→Mem c As0 w) (hl:listed.setIfInBounds i true=listed') (h:JI c As0 bar ops F fuel listed' ((d,v)::L) As):JI c As0 bar ops F (fuel+1) listed L As:=fun a w hf' hw'=>by
 refine wpAnyI_any hi (Region.noSelect_spec hs) (fun c a w h=>absurd h.1 (by simp)) (by simpa using hw) fuel listed a w (Region.free_spec hi hf) (by simpa using hr) (.inl ⟨by simp [Region.wanted],fun w _=>hp a w hf'⟩) (fun h=>hS h w hw') ?_
 rw [hl]
 exact h _ w (hf'.put (by rw [Nat.blt_eq] at hd;exact hd) v) hw'
theorem mv_any {x:Operand} {v:Value} {d:Nat} (hv:ev L x=some v):∀ a w,Fits c.n L a→(execOp a.eval ⟨some d,.move x,T,pos,aft,none⟩).run c.P w=.ok (.value v) w:=fun a w hf=>by simp [execOp,hf.ev hv]
end ops
end Go.Sep
