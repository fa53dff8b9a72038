/-
 Plain laws: rank as the reference finds it,quality by quality. No program in sight.
-/
import Derived.Test.YtfcidkjpebalkaaGreatDoorALawC
namespace Go.Plain
open Go Go.Sep
set_option linter.unusedSimpArgs false
set_option linter.unusedVariables false
section
variable {kind:Int} {l:List Prf} {present:Bool}
/-- Values of one quality keep their order. -/
theorem rank_stable {n:Int} (hn:0<n) (vs:List Str):∀ k,k≤vs.length→(ZY kind l present (vs.take k)).1.filter (fun v=>decide (zL kind l present v=n))=(vs.take k).filter (fun v=>decide (zL kind l present v=n))
 | 0,_=>by rw [List.take_zero];rfl
 | k+1,hk=>by
  have ih:=rank_stable hn vs k (by omega)
  have hs:=(ranked_all (kind:=kind) (l:=l) (present:=present) (vs:=vs) k (by omega)).sorted
  have hm:=rankG_map (kind:=kind) (l:=l) (present:=present) (vs.take k)
  rw [rank_step (by omega),List.take_succ_eq_append_getElem (show k<vs.length by omega),List.filter_append,← zw (dd:=[]) (show k<vs.length by omega)]
  generalize vs.getD k []=v
  generalize ZY kind l present (vs.take k)=s at ih hs hm ⊢
  unfold Vo
  by_cases hq:zL kind l present v≤0
  ·rw [if_pos hq,ih,List.filter_cons,if_neg (by rw [decide_eq_true_eq];omega)]
   simp
  ·rw [if_neg hq]
   simp only
   have hi:=(insPos_sorted (q:=zL kind l present v) hs).2
   have hd:n=zL kind l present v→(s.1.drop (YH s.2 (zL kind l present v))).filter (fun w=>decide (zL kind l present w=n))=[]:=fun e=>by
    rw [List.filter_eq_nil_iff]
    intro w hw
    obtain ⟨j,hj,rfl⟩:=List.getElem_of_mem hw
    rw [List.length_drop] at hj
    rw [List.getElem_drop,decide_eq_true_eq]
    have h9:=hi (YH s.2 (zL kind l present v)+j) (zL kind l present (s.1[YH s.2 (zL kind l present v)+j]'(by omega))) (by
     have h8:=congrArg (fun L:List Int=>L[YH s.2 (zL kind l present v)+j]?) hm
     simp only [List.getElem?_map] at h8
     rw [h8,List.getElem?_eq_getElem (by omega)];rfl)
    have:¬ (YH s.2 (zL kind l present v)+j<YH s.2 (zL kind l present v)):=by omega
    rw [h9] at this
    omega
   by_cases e:zL kind l present v=n
   ·have h1:=hd e.symm
    rw [List.filter_append,List.filter_append,h1,List.append_nil]
    have h2:s.1.filter (fun w=>decide (zL kind l present w=n))=(s.1.take (YH s.2 (zL kind l present v))).filter (fun w=>decide (zL kind l present w=n)):=by
     conv=>lhs;rw [← List.take_append_drop (YH s.2 (zL kind l present v)) s.1]
     rw [List.filter_append,h1,List.append_nil]
    rw [← h2,ih]
   ·have e1:[v].filter (fun w=>decide (zL kind l present w=n))=[]:=by rw [List.filter_cons,if_neg (by simpa using e)];rfl
    rw [List.filter_append,List.filter_append,e1,List.append_nil,List.append_nil,← List.filter_append,List.take_append_drop,ih]
theorem rank_same_q {n:Int} (hn:0<n) (vs:List Str):(ZY kind l present vs).1.filter (fun v=>decide (zL kind l present v=n))=vs.filter (fun v=>decide (zL kind l present v=n)):=by
 have:=rank_stable (kind:=kind) (l:=l) (present:=present) hn vs vs.length (Nat.le_refl _)
 rwa [List.take_length] at this
/-- A list in descending order,cut at a threshold. -/
theorem filter_nextQ {α:Type} {q:α→Int} {n t:Int} (hnt:n<t):∀ G:List α,(G.map q).Pairwise (fun a b=>b≤a)→(∀ v∈G,q v<t→q v≤n)→G.filter (fun v=>decide (n≤q v))=G.filter (fun v=>decide (t≤q v))++G.filter (fun v=>decide (q v=n))
 | [],_,_=>rfl
 | a::G,hs,hg=>by
  rw [List.map_cons,List.pairwise_cons] at hs
  have ih:=filter_nextQ hnt G hs.2 (fun v hv=>hg v (by simp [hv]))
  rw [List.filter_cons,List.filter_cons,List.filter_cons]
  by_cases h1:t≤q a
  ·rw [if_pos (decide_eq_true (by omega)),if_pos (decide_eq_true h1),if_neg (by rw [decide_eq_true_eq];omega),ih];rfl
  ·have h2:=hg a (by simp) (by omega)
   have h3:G.filter (fun v=>decide (t≤q v))=[]:=by
    rw [List.filter_eq_nil_iff]
    intro v hv
    have:=hs.1 _ (List.mem_map.2 ⟨v,hv,rfl⟩)
    rw [decide_eq_true_eq];omega
   rw [h3] at ih ⊢
   rw [if_neg (show ¬ decide (t≤q a)=true by rw [decide_eq_true_eq];exact h1),ih]
   by_cases h4:q a=n
   ·rw [if_pos (decide_eq_true (by omega)),if_pos (decide_eq_true h4)];rfl
   ·rw [if_neg (by rw [decide_eq_true_eq];omega),if_neg (by simpa using h4)]
/-- The last value's quality,or 0. -/
def lastQ (kind:Int) (l:List Prf) (present:Bool) (out:List Str):Int:=if 0<out.length then zL kind l present (out.getD (out.length-1) []) else 0
def nextC (kind:Int) (l:List Prf) (present:Bool) (out:List Str) (v:Str):Prop:=out.length=0∨zL kind l present v<lastQ kind l present out
/-- How far the reference has come. -/
def RankTo (kind:Int) (l:List Prf) (present:Bool) (vs out:List Str):Prop :=
 out=[]∨(0<out.length∧0<lastQ kind l present out∧out=(ZY kind l present vs).1.filter (fun v=>decide (lastQ kind l present out≤zL kind l present v)))
/-- The greatest quality below the last one. -/
def NextTo (kind:Int) (l:List Prf) (present:Bool) (out:List Str) (X:List Str) (n:Int):Prop :=
 0≤n∧(∀ v∈X,nextC kind l present out v→zL kind l present v≤n)∧(n=0∨∃ v∈X,nextC kind l present out v∧zL kind l present v=n)
variable {vs out:List Str} {n:Int} {i:Nat}
theorem next_zero:NextTo kind l present out [] 0:=⟨Int.le_refl _,(fun v hv=>by cases hv),.inl rfl⟩
theorem next_hit (hi:i<vs.length) (h:NextTo kind l present out (vs.take i) n) (hc:nextC kind l present out (vs.getD i [])):NextTo kind l present out (vs.take (i+1)) (max n (zL kind l present (vs.getD i []))):=by
 have e:vs.take (i+1)=vs.take i++[vs.getD i []]:=by rw [List.take_succ_eq_append_getElem hi,zw hi]
 rw [e]
 obtain ⟨h1,h2,h3⟩:=h
 refine ⟨by omega,fun v hv hv2=>?_,?_⟩
 ·rcases List.mem_append.1 hv with hv | hv
  ·have:=h2 v hv hv2;omega
  ·rw [List.mem_singleton.1 hv];omega
 ·by_cases hm:n<zL kind l present (vs.getD i [])
  ·exact .inr ⟨vs.getD i [],by simp,hc,by omega⟩
  ·rcases h3 with h3 | ⟨v,hv,hv2,hv3⟩
   ·left;omega
   ·exact .inr ⟨v,by simp [hv],hv2,by omega⟩
theorem next_miss (hi:i<vs.length) (h:NextTo kind l present out (vs.take i) n) (hc:¬ nextC kind l present out (vs.getD i [])):NextTo kind l present out (vs.take (i+1)) n:=by
 have e:vs.take (i+1)=vs.take i++[vs.getD i []]:=by rw [List.take_succ_eq_append_getElem hi,zw hi]
 rw [e]
 obtain ⟨h1,h2,h3⟩:=h
 refine ⟨h1,fun v hv hv2=>?_,?_⟩
 ·rcases List.mem_append.1 hv with hv | hv
  ·exact h2 v hv hv2
  ·rw [List.mem_singleton.1 hv] at hv2;exact absurd hv2 hc
 ·rcases h3 with h3 | ⟨v,hv,hv2,hv3⟩
  ·exact .inl h3
  ·exact .inr ⟨v,by simp [hv],hv2,hv3⟩
theorem wY {v:Str} (h:v∈(ZY kind l present vs).1):v∈vs∧0<zL kind l present v:=by
 have:=(Qt vs).mem_iff.1 h
 rw [List.mem_filter] at this
 exact ⟨this.1,of_decide_eq_true this.2⟩
/-- Nothing is left. -/
theorem rank_stop (h:RankTo kind l present vs out) (hn:NextTo kind l present out vs n) (h0:n≤0):out=(ZY kind l present vs).1:=by
 rcases h with rfl | ⟨h1,h2,h3⟩
 ·cases hr:(ZY kind l present vs).1 with
  | nil=>rfl
  | cons v r =>
   have:=wY (kind:=kind) (l:=l) (present:=present) (vs:=vs) (v:=v) (by rw [hr];simp)
   have:=hn.2.1 v this.1 (.inl rfl)
   omega
 ·rw [List.filter_eq_self.2 (fun v hv=>?_)] at h3
  ·exact h3
  ·have h4:=wY hv
   rw [decide_eq_true_eq]
   rcases Int.lt_or_le (zL kind l present v) (lastQ kind l present out) with q | q
   ·have:=hn.2.1 v h4.1 (.inr q);omega
   ·exact q
theorem rank_full (h:RankTo kind l present vs out) (hl:vs.length≤out.length):out=(ZY kind l present vs).1:=by
 have hle:(ZY kind l present vs).1.length≤vs.length:=by
  rw [(Qt vs).length_eq];exact List.length_filter_le ..
 rcases h with rfl | ⟨h1,h2,h3⟩
 ·have:vs=[]:=List.length_eq_zero_iff.1 (by simpa using hl)
  subst this;rfl
 ·have hs:out.Sublist (ZY kind l present vs).1:=by rw [h3];exact List.filter_sublist
  exact hs.eq_of_length_le (by omega)
/-- The values of the next quality. -/
def wD (kind:Int) (l:List Prf) (present:Bool) (X:List Str) (n:Int):List Str:=X.filter (fun v=>decide (zL kind l present v=n))
theorem sameQ_hit (hi:i<vs.length) (h:zL kind l present (vs.getD i [])=n):wD kind l present (vs.take (i+1)) n=wD kind l present (vs.take i) n++[vs.getD i []]:=by
 unfold wD
 rw [List.take_succ_eq_append_getElem hi,List.filter_append,← zw (dd:=[]) hi,List.filter_cons,if_pos (decide_eq_true h)];rfl
theorem sameQ_miss (hi:i<vs.length) (h:¬ zL kind l present (vs.getD i [])=n):wD kind l present (vs.take (i+1)) n=wD kind l present (vs.take i) n:=by
 unfold wD
 rw [List.take_succ_eq_append_getElem hi,List.filter_append,← zw (dd:=[]) hi,List.filter_cons,if_neg (by simpa using h)];simp
theorem rank_more (h:RankTo kind l present vs out) (hn:NextTo kind l present out vs n) (h0:0<n):RankTo kind l present vs (out++wD kind l present vs n)∧0<(wD kind l present vs n).length∧(out++wD kind l present vs n).length≤vs.length:=by
 have hne:0<(wD kind l present vs n).length:=by
  rcases hn.2.2 with e | ⟨v,hv,_,e⟩
  ·omega
  ·exact List.length_pos_iff.2 (List.ne_nil_of_mem (show v∈wD kind l present vs n from List.mem_filter.2 ⟨hv,decide_eq_true e⟩))
 have hlast:lastQ kind l present (out++wD kind l present vs n)=n:=by
  unfold lastQ
  have hl:(out++wD kind l present vs n).length-1<(out++wD kind l present vs n).length:=by rw [List.length_append];omega
  rw [if_pos (by rw [List.length_append];omega)]
  have hm:(out++wD kind l present vs n).getD ((out++wD kind l present vs n).length-1) []∈wD kind l present vs n:=by
   rw [List.getD_eq_getElem?_getD,List.getElem?_append_right (by rw [List.length_append];omega),← List.getD_eq_getElem?_getD]
   exact yD (by rw [List.length_append];omega)
  exact of_decide_eq_true (List.mem_filter.1 hm).2
 have hG:=rank_same_q (kind:=kind) (l:=l) (present:=present) h0 vs
 have hsort:((ZY kind l present vs).1.map (zL kind l present)).Pairwise (fun a b=>b≤a):=by
  have:=(ranked_all (kind:=kind) (l:=l) (present:=present) (vs:=vs) vs.length (Nat.le_refl _)).sorted
  rwa [List.take_length,rankG_map] at this
 have hmain:out++wD kind l present vs n=(ZY kind l present vs).1.filter (fun v=>decide (n≤zL kind l present v)):=by
  rcases h with rfl | ⟨h1,h2,h3⟩
  ·rw [List.nil_append,wD,← hG]
   refine List.filter_congr fun v hv=>?_
   have h4:=wY hv
   have:=hn.2.1 v h4.1 (.inl rfl)
   exact decide_eq_decide.2 ⟨fun e=>by omega,fun e=>by omega⟩
  ·have hlt:n<lastQ kind l present out:=by
    rcases hn.2.2 with e | ⟨v,_,hc,e⟩
    ·omega
    ·rcases hc with hc | hc
     ·omega
     ·omega
   rw [filter_nextQ hlt _ hsort (fun v hv hq=>hn.2.1 v (wY hv).1 (.inr hq)),← h3,hG];rfl
 refine ⟨.inr ⟨by rw [List.length_append];omega,by rw [hlast];exact h0,by rw [hlast];exact hmain⟩,hne,?_⟩
 rw [hmain]
 refine Nat.le_trans (List.length_filter_le ..) ?_
 rw [(Qt vs).length_eq];exact List.length_filter_le ..
end
theorem keys_cut {axes:List Axs} {l:List Fld} {strict:Bool} {ou:List (List Str)} (h:YQ axes=true) (e:ou=Zr (qZ axes l strict)) (h1:64<ou.length):Zz axes l strict 64=(ou.take 64).drop 0:=by
 unfold Zz
 rw [if_neg (by rw [h];simp),← e,List.drop_zero]
theorem keys_short {axes:List Axs} {l:List Fld} {strict:Bool} {ou:List (List Str)} (h:YQ axes=true) (e:ou=Zr (qZ axes l strict)) (h1:ou.length≤64):Zz axes l strict 64=ou:=by
 unfold Zz
 rw [if_neg (by rw [h];simp),← e,List.take_of_length_le h1]
end Go.Plain
