/-
  Plain functions on bytes: lower case,content codings. No program in sight.
  Plain functions on bytes: tokens,text,blanks,positions,field lines. No program in sight.
  Plain laws of field lines. No program in sight.
  Plain laws of lists of fields. No program in sight.
  Plain laws of removing and setting fields. No program in sight.
  Plain functions of values with parameters: cutting,quoting,reading,writing;and their laws. No program in sight.
  Plain laws of writing parameters,and of reading back what was written. No program in sight.
  Plain functions of media types and ranges. No program in sight.
  Plain laws: what is written is read back;blanks do not matter;a media type matches itself. No program in sight.
  Plain laws: how long what is written gets. No program in sight.
  Plain functions of lists of members,of quality values,and of language tags. No program in sight.
  Plain laws of splitting lists,of cutting at a byte,of language tags,of quality values,and of preferences. No program in sight.
  Plain laws of the second way to read preferences. No program in sight.
  Plain law: the preferences of a request do not hang on how members lie on lines,nor on blanks around them. No program in sight.
  Plain laws of matching language tags,and of matching ranges in general. No program in sight.
  Plain laws of writing quality values and of joining. No program in sight.
  Plain law: preferences,written as a field,are read back. No program in sight.
  Plain functions and laws of quality and rank. No program in sight.
-/
import Derived.WalkKit
import Derived.Lib.Bytealg
namespace Go.Plain

abbrev Str:=List UInt8

theorem all_u8 (p:UInt8→Bool) (h:(List.range 256).all (fun n=>p (UInt8.ofNat n))=true) (c:UInt8):p c=true:=by
  have:=List.all_eq_true.1 h c.toNat (by simpa using c.toNat_lt)
  simpa using this

/-! ### Lower case -/
def Vf (c:UInt8):UInt8:=bif decide (65≤c)&&decide (c≤90) then c+32 else c
def lower (s:Str):Str:=s.map Vf

@[simp] theorem lower_length (s:Str):(lower s).length=s.length:=by simp [lower]

/-- After i rounds. -/
def Ye (s:Str) (i:Nat):Str:=lower (s.take i)++s.drop i
theorem lowerTo_zero (s:Str):Ye s 0=s:=by simp [Ye,lower]
theorem qm (s:Str) (i:Nat):(Ye s i).length=s.length:=by simp [Ye];omega
theorem lowerTo_end (s:Str) (i:Nat) (h:s.length≤i):Ye s i=lower s:=by simp [Ye,List.take_of_length_le h,List.drop_of_length_le h]
theorem lowerTo_get (s:Str) (i:Nat) (h:i<s.length):(Ye s i).getD i 0=s.getD i 0:=by
  have:(lower (s.take i)).length=i:=by simp;omega
  simp only [Ye,List.getD_eq_getElem?_getD]
  rw [List.getElem?_append_right (by omega),this,Nat.sub_self,List.getElem?_drop,Nat.add_zero]
theorem lowerTo_succ (s:Str) (i:Nat) (h:i<s.length):Ye s (i+1)=(Ye s i).set i (Vf (s.getD i 0)):=by
  have hl:(lower (s.take i)).length=i:=by simp;omega
  rw [Ye,Ye,List.set_append_right _ _ (by omega),hl,Nat.sub_self,List.drop_eq_getElem_cons h,List.set_cons_zero,List.take_succ_eq_append_getElem h]
  simp only [lower,List.map_append,List.map_cons,List.map_nil,List.getD_eq_getElem?_getD,List.getElem?_eq_getElem h,Option.getD_some,List.append_assoc,List.cons_append,List.nil_append]
theorem lowerTo_hit (s:Str) (i:Nat) (h:i<s.length) (h1:65≤s.getD i 0) (h2:s.getD i 0≤90) (d:UInt8) (hd:d=s.getD i 0+32):(Ye s i).set i d=Ye s (i+1):=by
  rw [lowerTo_succ s i h,hd]
  unfold Vf
  rw [show (decide (65≤s.getD i 0)&&decide (s.getD i 0≤90))=true from by rw [Bool.and_eq_true,decide_eq_true_eq,decide_eq_true_eq];exact ⟨h1,h2⟩]
  rfl
theorem lowerTo_miss (s:Str) (i:Nat) (h:i<s.length) (h1:¬ (65≤s.getD i 0∧s.getD i 0≤90)):Ye s (i+1)=Ye s i:=by
  rw [lowerTo_succ s i h]
  have:Vf (s.getD i 0)=s.getD i 0:=by
    unfold Vf
    rw [show (decide (65≤s.getD i 0)&&decide (s.getD i 0≤90))=false from by rw [← Bool.not_eq_true];simpa using h1]
    rfl
  rw [this,← lowerTo_get s i h]
  have hi:i<(Ye s i).length:=by rw [qm];exact h
  rw [List.getD_eq_getElem?_getD,List.getElem?_eq_getElem hi]
  simp
theorem lowerTo_hit' (s:Str) (i:Nat) (h:i<s.length) (h1:65≤(Ye s i).getD i 0) (h2:(Ye s i).getD i 0≤90) (d:UInt8) (hd:d=(Ye s i).getD i 0+32):(Ye s i).set i d=Ye s (i+1):=by
  rw [lowerTo_get s i h] at h1 h2 hd
  exact lowerTo_hit s i h h1 h2 d hd
theorem lowerTo_miss' (s:Str) (i:Nat) (h:i<s.length) (h1:¬ 65≤(Ye s i).getD i 0∨¬ (Ye s i).getD i 0≤90):Ye s (i+1)=Ye s i:=by
  rw [lowerTo_get s i h] at h1
  exact lowerTo_miss s i h (fun h=>by rcases h1 with h1 | h1;exact h1 h.1;exact h1 h.2)
theorem add97 (c:UInt8):c+97-65=c+32:=by
  have:=all_u8 (fun c=>decide (c+97-65=c+32)) (by decide +kernel) c
  exact of_decide_eq_true this

/-! ### Content codings -/
def sGzip:Str:=[103,122,105,112]
def Vb:Str:=[120,45,103,122,105,112]
def qy:Str:=[99,111,109,112,114,101,115,115]
def qo:Str:=[120,45,99,111,109,112,114,101,115,115]

/-- coding.Canonical. -/
def canonical (kind:Int) (s:Str):Str :=
  if kind=4 then (if lower s=Vb then sGzip else if lower s=qo then qy else lower s) else lower s
def Yd (kind:Int) (r v:Str):Int:=if r=[42] then 0 else if canonical kind r=canonical kind v then 1 else -1

theorem Vx (kind:Int) (s:Str):(canonical kind s).length≤s.length+8:=by
  unfold canonical
  split
  · split
    · simp [sGzip]
    · split
      · simp [qy]
      · simp
  · simp

end Go.Plain

namespace Go.Plain
set_option linter.unusedSimpArgs false

/-! ### Bytes -/
def signs:Str:=[33,35,36,37,38,39,42,43,45,46,94,95,96,124,126]
def tokB (c:UInt8):Bool:=signs.any (fun x=>decide (x=c))||(decide (48≤c)&&decide (c≤57)||decide (65≤c)&&decide (c≤90)||decide (97≤c)&&decide (c≤122))
def wX (c:UInt8):Bool:=decide (c=9)||(decide (32≤c)&&decide (c≤126))||decide (128≤c)
def qa (c:UInt8):Bool:=decide (c=32)||decide (c=9)

theorem textB_alt (c:UInt8):(decide (c<32)&&!decide (c=9)||decide (c=127))=!wX c:=by
  simpa using all_u8 (fun c=>decide ((decide (c<32)&&!decide (c=9)||decide (c=127))=!wX c)) (by decide +kernel) c
theorem tokB_alt (c:UInt8):(decide (97≤c)&&decide (c≤122)||decide (65≤c)&&decide (c≤90)||decide (48≤c)&&decide (c≤57)||signs.any (fun x=>decide (x=c)))=tokB c:=by
  simpa using all_u8 (fun c=>decide ((decide (97≤c)&&decide (c≤122)||decide (65≤c)&&decide (c≤90)||decide (48≤c)&&decide (c≤57)||signs.any (fun x=>decide (x=c)))=tokB c)) (by decide +kernel) c

/-! ### Loops over all elements,over any -/
section all
variable {α:Type} {p:α→Bool} {s:List α} {dd:α}
theorem zw {i:Nat} (h:i<s.length):s.getD i dd=s[i]:=by rw [List.getD_eq_getElem?_getD,List.getElem?_eq_getElem h];rfl
theorem Y5 {i:Nat} (h:i<s.length) (h1:(s.take i).all p=true) (h2:p (s.getD i dd)=true):(s.take (i+1)).all p=true:=by
  rw [List.take_succ_eq_append_getElem h,List.all_append,h1,← zw (dd:=dd) h]
  simp only [List.all_cons,List.all_nil,h2,Bool.and_true]
theorem Wf {i:Nat} (h:i<s.length) (h2:p (s.getD i dd)=false):s.all p=false:=by
  rw [zw h] at h2
  rw [← Bool.not_eq_true,List.all_eq_true]
  intro h3
  rw [h3 _ (List.getElem_mem h)] at h2
  cases h2
theorem Q7 {i:Nat} (h:s.length≤i) (h1:(s.take i).all p=true):s.all p=true:=by rwa [List.take_of_length_le h] at h1
theorem qF {i:Nat} (h:i<s.length) (h1:(s.take i).any p=false) (h2:p (s.getD i dd)=false):(s.take (i+1)).any p=false:=by
  rw [List.take_succ_eq_append_getElem h,List.any_append,h1,← zw (dd:=dd) h]
  simp only [List.any_cons,List.any_nil,h2,Bool.or_false]
theorem any_hit {i:Nat} (h:i<s.length) (h2:p (s.getD i dd)=true):s.any p=true:=by
  rw [zw h] at h2
  rw [List.any_eq_true]
  exact ⟨_,List.getElem_mem h,h2⟩
theorem Qg {i:Nat} (h:s.length≤i) (h1:(s.take i).any p=false):s.any p=false:=by rwa [List.take_of_length_le h] at h1
end all

def token (s:Str):Bool:=s.all tokB&&!decide (s=[])
def text (s:Str):Bool:=s.all wX

/-! ### Blanks -/
theorem dw_nil {p:UInt8→Bool}:∀ {l:Str},l.dropWhile p=[]↔∀ x∈l,p x=true
  | []=>by simp
  | c::l=>by
    rw [List.dropWhile_cons]
    cases h:p c with
    | true=>rw [if_pos rfl,dw_nil (l:=l)];simp [h]
    | false=>simp [h]
section trim
variable (p:UInt8→Bool)
def Zq (s:Str):Str:=s.dropWhile p
def YW (s:Str):Str:=(s.reverse.dropWhile p).reverse
variable {p}
theorem trimL_step {s:Str} (h:0<s.length) (h2:p (s.getD 0 0)=true):Zq p (s.drop 1)=Zq p s:=by
  cases s with
  | nil=>simp at h
  | cons c s=>simp at h2;simp [Zq,List.dropWhile_cons,h2]
theorem trimL_end {s:Str} (h:s.length=0∨p (s.getD 0 0)=false):Zq p s=s:=by
  cases s with
  | nil=>rfl
  | cons c s=>simp at h;simp [Zq,List.dropWhile_cons,h]
theorem rev_of {s:Str} (h:0<s.length):s.reverse=s.getD (s.length-1) 0::(s.take (s.length-1)).reverse:=by
  have:s=s.take (s.length-1)++[s.getD (s.length-1) 0]:=by
    rw [zw (by omega)]
    conv=>lhs;rw [← List.take_append_drop (s.length-1) s]
    congr 1
    rw [List.drop_eq_getElem_cons (by omega),List.drop_of_length_le (by omega)]
  conv=>lhs;rw [this]
  simp
theorem trimR_step {s:Str} (h:0<s.length) (h2:p (s.getD (s.length-1) 0)=true):YW p (s.take (s.length-1))=YW p s:=by
  unfold YW
  rw [rev_of h,List.dropWhile_cons,if_pos h2]
theorem Qh {s:Str} (h:s.length=0∨p (s.getD (s.length-1) 0)=false):YW p s=s:=by
  rcases Nat.eq_zero_or_pos s.length with h0 | h0
  · rw [List.length_eq_zero_iff] at h0;subst h0;rfl
  · have h2:p (s.getD (s.length-1) 0)=false:=by rcases h with h | h;omega;exact h
    unfold YW
    rw [rev_of h0,List.dropWhile_cons,if_neg (by rw [h2];simp),← rev_of h0,List.reverse_reverse]
theorem trimL_length (s:Str):(Zq p s).length≤s.length:=(List.dropWhile_sublist p).length_le
theorem trimR_length (s:Str):(YW p s).length≤s.length:=by
  unfold YW
  rw [List.length_reverse]
  have:=(List.dropWhile_sublist p (l:=s.reverse)).length_le
  simpa using this
theorem trimL_append_all {a b:Str} (h:a.all p=true):Zq p (a++b)=Zq p b:=by
  unfold Zq
  rw [List.dropWhile_append]
  have:a.dropWhile p=[]:=by
    rw [dw_nil]
    exact fun x hx=>List.all_eq_true.1 h x hx
  rw [this];rfl
theorem split_right (s:Str):∃ r:Str,s=YW p s++r∧r.all p=true∧(YW p s=[]∨p ((YW p s).getD ((YW p s).length-1) 0)=false):=by
  induction hn:s.length using Nat.strongRecOn generalizing s with
  | _ n ih =>
    by_cases h:0<s.length∧p (s.getD (s.length-1) 0)=true
    · obtain ⟨h1,h2⟩:=h
      obtain ⟨r,e,hr,hk⟩:=ih (s.take (s.length-1)).length (by rw [List.length_take];omega) _ rfl
      rw [trimR_step h1 h2] at e hk
      refine ⟨r++[s.getD (s.length-1) 0],?_,by rw [List.all_append,hr];simpa using h2,hk⟩
      rw [← List.append_assoc,← e,← List.reverse_inj,rev_of h1]
      simp
    · have h':s.length=0∨p (s.getD (s.length-1) 0)=false:=by
        rcases Nat.eq_zero_or_pos s.length with h0 | h0
        · exact .inl h0
        · exact .inr (by rw [← Bool.not_eq_true];exact fun h2=>h ⟨h0,h2⟩)
      refine ⟨[],by rw [Qh h'];simp,rfl,?_⟩
      rw [Qh h']
      exact h'.imp List.length_eq_zero_iff.1 id
theorem trimR_all {s:Str} (h:s.all p=true):YW p s=[]:=by
  unfold YW
  rw [List.reverse_eq_nil_iff,dw_nil]
  exact fun x hx=>List.all_eq_true.1 h x (by simpa using hx)
theorem trimR_eq {a r:Str} (hr:r.all p=true) (ha:a=[]∨p (a.getD (a.length-1) 0)=false):YW p (a++r)=a:=by
  have e:YW p (a++r)=YW p a:=by
    unfold YW
    rw [List.reverse_append,List.dropWhile_append]
    have:r.reverse.dropWhile p=[]:=by
      rw [dw_nil]
      exact fun x hx=>List.all_eq_true.1 hr x (by simpa using hx)
    rw [this];rfl
  rw [e]
  exact Qh (ha.imp (fun h=>by rw [h];rfl) id)
/-- From the left or from the right first: the same. -/
theorem trim_comm (s:Str):Zq p (YW p s)=YW p (Zq p s):=by
  obtain ⟨r,e,hr,hk⟩:=split_right (p:=p) s
  rcases Decidable.em ((YW p s).all p=true) with ha | ha
  · have hs:s.all p=true:=by rw [e,List.all_append,ha,hr];rfl
    have h1:YW p s=[]:=trimR_all hs
    have h2:Zq p s=[]:=by unfold Zq;rw [dw_nil];exact fun x hx=>List.all_eq_true.1 hs x hx
    rw [h1,h2];rfl
  · have hd:Zq p s=Zq p (YW p s)++r:=by
      conv=>lhs;rw [e]
      unfold Zq
      rw [List.dropWhile_append,if_neg]
      intro h
      apply ha
      rw [List.isEmpty_iff,dw_nil] at h
      exact List.all_eq_true.2 h
    rw [hd,trimR_eq hr]
    rcases hk with hk | hk
    · exact absurd (by rw [hk];rfl) ha
    · right
      have hne:Zq p (YW p s)≠[]:=by
        intro h
        unfold Zq at h
        rw [dw_nil] at h
        exact ha (List.all_eq_true.2 h)
      obtain ⟨q,hq⟩:=List.dropWhile_suffix p (l:=YW p s)
      have hl:0<(Zq p (YW p s)).length:=List.length_pos_iff.2 hne
      have:(Zq p (YW p s)).getD ((Zq p (YW p s)).length-1) 0=(YW p s).getD ((YW p s).length-1) 0:=by
        conv=>rhs;rw [← hq]
        rw [List.getD_eq_getElem?_getD,List.getD_eq_getElem?_getD]
        show _=((q++Zq p (YW p s))[(q++Zq p (YW p s)).length-1]?).getD 0
        rw [List.getElem?_append_right (by rw [List.length_append];omega)]
        congr 2
        rw [List.length_append];omega
      rw [this];exact hk
end trim

def trim (s:Str):Str:=Zq qa (YW qa s)
theorem trim_alt (s:Str):YW qa (Zq qa s)=trim s:=(trim_comm s).symm
theorem Ys (s:Str):(trim s).length≤s.length:=Nat.le_trans (trimL_length _) (trimR_length _)

/-- The set of some bytes. -/
def wP (l:Str):List Bool:=l.foldl (fun a c=>a.set c.toNat true) (List.replicate 256 false)
theorem ZH (l:Str):(wP l).length=256:=by
  unfold wP
  suffices ∀ (a:List Bool),a.length=256→(l.foldl (fun a c=>a.set c.toNat true) a).length=256 from this _ (List.length_replicate ..)
  induction l with
  | nil=>intro a h;exact h
  | cons c l ih=>intro a h;exact ih _ (by simpa using h)
theorem setOf_step {l:Str} {i:Nat} (h:i<l.length):(wP (l.take i)).set (l.getD i 0).toNat true=wP (l.take (i+1)):=by
  unfold wP
  rw [List.take_succ_eq_append_getElem h,List.foldl_append,zw h];rfl
theorem setOf_blank (c:UInt8):(wP [32,9]).getD c.toNat false=qa c:=by
  simpa using all_u8 (fun c=>decide ((wP [32,9]).getD c.toNat false=qa c)) (by decide +kernel) c

/-! ### Positions -/
def pos (s:Str) (c:UInt8):Nat:=s.findIdx (fun x=>decide (x=c))
def posF (s:Str) (c:UInt8) (k:Nat):Nat:=k+(s.drop k).findIdx (fun x=>decide (x=c))
def idxF (s:Str) (c:UInt8) (k:Nat):Int:=if posF s c k<s.length then (posF s c k:Int) else -1
def idx (s:Str) (c:UInt8):Int:=if pos s c<s.length then (pos s c:Int) else -1
theorem posF_zero (s:Str) (c:UInt8):posF s c 0=pos s c:=by simp [posF,pos]
theorem Ql (s:Str) (c:UInt8):idxF s c 0=idx s c:=by simp [idxF,idx,posF_zero]
theorem posF_hit {s:Str} {c:UInt8} {k:Nat} (h:k<s.length) (h2:s.getD k 0=c):posF s c k=k:=by
  rw [zw h] at h2
  unfold posF
  rw [List.drop_eq_getElem_cons h,List.findIdx_cons]
  simp [h2]
theorem posF_miss {s:Str} {c:UInt8} {k:Nat} (h:k<s.length) (h2:¬ s.getD k 0=c):posF s c (k+1)=posF s c k:=by
  rw [zw h] at h2
  unfold posF
  rw [List.drop_eq_getElem_cons h,List.findIdx_cons]
  simp [h2];omega
theorem posF_end {s:Str} {c:UInt8} {k:Nat} (h:s.length≤k):¬ posF s c k<s.length:=by unfold posF;omega
theorem pos_le (s:Str) (c:UInt8):pos s c≤s.length:=List.findIdx_le_length
theorem idx_nonneg {s:Str} {c:UInt8} (h:0≤idx s c):idx s c=((pos s c:Nat):Int)∧pos s c<s.length:=by
  unfold idx at *
  split at h <;> simp_all
theorem idx_neg {s:Str} {c:UInt8} (h:idx s c<0):¬ pos s c<s.length:=by
  unfold idx at h
  split at h <;> omega
theorem pos_none {s:Str} {c:UInt8} (h:¬ 0≤idx s c):pos s c=s.length:=by
  have:=pos_le s c
  unfold idx at h
  split at h <;> omega
theorem idx_found {s:Str} {c:UInt8} (h:pos s c<s.length):idx s c=((pos s c:Nat):Int):=by rw [idx,if_pos h]
theorem idx_none {s:Str} {c:UInt8} (h:¬ pos s c<s.length):idx s c=-1:=by rw [idx,if_neg h]
theorem indexByte_eq (s:Str) (c:UInt8):Lib.indexByte s c=idx s c:=by
  unfold idx pos
  induction s with
  | nil=>rfl
  | cons b s ih =>
    rw [Lib.indexByte,ih,List.findIdx_cons]
    by_cases h:b=c
    · simp [h]
    · simp [h]
      split <;> rename_i h1
      · simp
      · simp
theorem pos_self (c:UInt8):idx [c] c=0:=by simp [idx,pos,List.findIdx_cons]

/-! ### Field lines -/
def lineOf (f:Str×Str):Str:=if f.2=[] then f.1++[58] else f.1++[58,32]++f.2
def validF (f:Str×Str):Bool:=token f.1&&text f.2&&decide (trim f.2=f.2)&&decide ((lineOf f).length≤2000)
def formatF (f:Str×Str):Str:=if validF f=true then lineOf f else []
def parseF (s:Str):(Str×Str)×Nat :=
  if 2000<s.length then (([],[]),4)
  else if ¬ pos s 58<s.length∨token (s.take (pos s 58))=false∨text (s.drop (pos s 58+1))=false then (([],[]),1)
  else if validF (s.take (pos s 58),trim (s.drop (pos s 58+1)))=true then ((s.take (pos s 58),trim (s.drop (pos s 58+1))),0)
  else (([],[]),4)
end Go.Plain

namespace Go.Plain
set_option linter.unusedSimpArgs false

end Go.Plain

namespace Go.Plain
set_option linter.unusedSimpArgs false

abbrev Fld:=Str×Str
def fold (a b:Str):Bool:=decide (a.length=b.length)&&decide (lower a=lower b)
def okF (f:Fld):Bool:=!(decide (300<f.1.length)||decide (300<f.2.length))
def WJ (l:List Fld):Bool:=(l.take 71).all okF&&decide (l.length≤70)
theorem keep_end {α:Type} {p:α→Bool} {l:List α} {i m:Nat} (hi:i≤m) (h:¬ i<l.length∨¬ i<m) (h1:(l.take i).all p=true):(l.take m).all p=true:=by
  rcases h with h | h
  · rw [List.take_of_length_le (by omega)] at h1 ⊢;exact h1
  · rw [show m=i by omega];exact h1
theorem Vu {α:Type} {p:α→Bool} {l:List α} {i m:Nat} {dd:α} (hm:i<m) (hi:i<l.length) (h:p (l.getD i dd)=false):(l.take m).all p=false:=by
  refine Wf (i:=i) (dd:=dd) (by rw [List.length_take];omega) ?_
  rw [List.getD_eq_getElem?_getD,List.getElem?_take,if_pos hm,← List.getD_eq_getElem?_getD]
  exact h
theorem keepF_len {l:List Fld} (h:WJ l=true):l.length≤70:=by
  unfold WJ at h
  simp only [Bool.and_eq_true,decide_eq_true_eq] at h
  exact h.2
theorem keepF_mem {l:List Fld} (h:WJ l=true):∀ x∈l,x.1.length≤300∧x.2.length≤300:=fun x hx=>by
  have hl:=keepF_len h
  unfold WJ at h
  simp only [Bool.and_eq_true] at h
  have h1:=h.1
  rw [List.take_of_length_le (by omega)] at h1
  have:=List.all_eq_true.1 h1 x hx
  unfold okF at this
  simp at this
  omega

theorem take_eq_step {α:Type} {a b:List α} {i:Nat} {dd:α} (ha:i<a.length) (hb:i<b.length) (h:a.take i=b.take i) (he:a.getD i dd=b.getD i dd):a.take (i+1)=b.take (i+1):=by
  rw [List.take_succ_eq_append_getElem ha,List.take_succ_eq_append_getElem hb,h,← zw (dd:=dd) ha,← zw (dd:=dd) hb,he]

def getF (l:List Fld) (name:Str):List Str:=(l.filter fun f=>fold f.1 name).map (·.2)
theorem filter_hit {α:Type} {p:α→Bool} {l:List α} {i:Nat} {dd:α} (h:i<l.length) (h2:p (l.getD i dd)=true):(l.take (i+1)).filter p=(l.take i).filter p++[l.getD i dd]:=by
  rw [List.take_succ_eq_append_getElem h,List.filter_append,← zw (dd:=dd) h]
  simp only [List.filter_cons,h2,if_true,List.filter_nil]
theorem filter_miss {α:Type} {p:α→Bool} {l:List α} {i:Nat} {dd:α} (h:i<l.length) (h2:p (l.getD i dd)=false):(l.take (i+1)).filter p=(l.take i).filter p:=by
  rw [List.take_succ_eq_append_getElem h,List.filter_append,← zw (dd:=dd) h]
  simp only [List.filter_cons,h2,Bool.false_eq_true,if_false,List.filter_nil,List.append_nil]
theorem getF_hit {l:List Fld} {name:Str} {i:Nat} {dd:Fld} (h:i<l.length) (h2:fold (l.getD i dd).1 name=true):getF (l.take (i+1)) name=getF (l.take i) name++[(l.getD i dd).2]:=by
  unfold getF
  rw [filter_hit (p:=fun f:Fld=>fold f.1 name) h h2,List.map_append];rfl
theorem getF_miss {l:List Fld} {name:Str} {i:Nat} {dd:Fld} (h:i<l.length) (h2:fold (l.getD i dd).1 name=false):getF (l.take (i+1)) name=getF (l.take i) name:=by
  unfold getF
  rw [filter_miss (p:=fun f:Fld=>fold f.1 name) h h2]
theorem wS (l:List Fld) (name:Str):(getF l name).length≤l.length:=by
  unfold getF;rw [List.length_map];exact List.length_filter_le ..
def Zc (nm:Str) (f:Fld):Bool:=decide (f.1.length=nm.length)&&decide (lower f.1=nm)
theorem named_fold (name:Str) (f:Fld):Zc (lower name) f=fold f.1 name:=by simp [Zc,fold]
theorem get_filter (l:List Fld) (name:Str):(l.filter (Zc (lower name))).map (·.2)=getF l name:=by
  unfold getF
  congr 2
  funext f
  exact named_fold name f
theorem yD {α:Type} {l:List α} {i:Nat} {dd:α} (h:i<l.length):l.getD i dd∈l:=by rw [zw h];exact List.getElem_mem h
theorem head_getD {α:Type} {l:List α} {dd:α}:l.headD dd=l.getD 0 dd:=by cases l <;> rfl
theorem map_step {l:List Fld} {i:Nat} {dd:Fld} (h:i<l.length):(l.take (i+1)).map (fun x=>x.2)=(l.take i).map (fun x=>x.2)++[(l.getD i dd).2]:=by
  rw [List.take_succ_eq_append_getElem h,List.map_append,← zw (dd:=dd) h];rfl
end Go.Plain

namespace Go.Plain
set_option linter.unusedSimpArgs false
set_option linter.unusedVariables false

theorem fold_iff {a b:Str}:fold a b=true↔lower a=lower b:=by
  unfold fold
  simp only [Bool.and_eq_true,decide_eq_true_eq]
  exact ⟨fun h=>h.2,fun h=>⟨by have:=congrArg List.length h;simpa using this,h⟩⟩
theorem fold_false {a b:Str}:fold a b=false↔lower a≠lower b:=by
  rw [← Bool.not_eq_true,fold_iff]
theorem Yw {α:Type} {l:List α} {i:Nat} {dd:α} (h:i<l.length):l.drop i=l.getD i dd::l.drop (i+1):=by
  rw [List.drop_eq_getElem_cons h,List.getD_eq_getElem?_getD,List.getElem?_eq_getElem h];rfl

def removeF (l:List Fld) (name:Str):List Fld:=l.filter fun f=>!fold f.1 name
def setGo (name value:Str):Bool→List Fld→List Fld
  | d,[]=>bif d then [] else [(name,value)]
  | d,f::r=>bif fold f.1 name then (bif d then setGo name value d r else (f.1,value)::setGo name value true r) else f::setGo name value d r
def setF (l:List Fld) (name value:Str):List Fld:=setGo name value false l

section
variable {l acc:List Fld} {name value:Str} {i:Nat} {d:Bool} {dd:Fld} {X:List Fld}
end

end Go.Plain

namespace Go.Plain
set_option linter.unusedSimpArgs false
set_option linter.unusedVariables false

abbrev Prm:=Str×Str

/-! ### Cutting at a separator outside quotes -/
def YD (c:UInt8):Nat→Str→Str→List Str
  | _,cur,[]=>[cur]
  | st,cur,b::r =>
    if st=2 then YD c 1 (cur++[b]) r
    else if st=1 then (if b=92 then YD c 2 (cur++[b]) r else if b=34 then YD c 0 (cur++[b]) r else YD c 1 (cur++[b]) r)
    else (if b=34 then YD c 1 (cur++[b]) r else if b=c then cur::YD c 0 [] r else YD c 0 (cur++[b]) r)
def cutF (s:Str) (c:UInt8):List Str:=YD c 0 [] s
def stq (q:Bool):Nat:=bif q then 1 else 0

theorem Z2 {s:Str} {i fr:Nat} (h:i<s.length) (hf:fr≤i):(s.take (i+1)).drop fr=(s.take i).drop fr++[s.getD i 0]:=by
  rw [List.take_succ_eq_append_getElem h,List.drop_append_of_le_length (by simp;omega),zw h]
theorem z7 {α:Type} {s:List α} {i:Nat} (h:s.length≤i):s.take i=s:=List.take_of_length_le h

section
variable {s:Str} {i fr:Nat} {c:UInt8} {q:Bool} {acc X:List Str}
theorem cut_esc (h:i<s.length) (hf:fr≤i) (hq:q=true) (hb:s.getD i 0=92) (e:acc++YD c (stq q) ((s.take i).drop fr) (s.drop i)=X) :
    acc++YD c (stq q) ((s.take (i+1+1)).drop fr) (s.drop (i+1+1))=X:=by
  subst hq
  rw [Yw (dd:=0) h,hb] at e
  simp only [stq,cond_true,YD] at e ⊢
  simp only [Nat.one_ne_zero,if_false,if_true,Nat.reduceEqDiff] at e
  rw [← e]
  by_cases h2:i+1<s.length
  · rw [Yw (dd:=0) h2]
    simp only [YD,if_true]
    rw [Z2 h2 (by omega),Z2 h hf,hb]
  · have e1:s.drop (i+1)=[]:=List.drop_of_length_le (by omega)
    have e2:s.drop (i+1+1)=[]:=List.drop_of_length_le (by omega)
    have e3:s.take (i+1+1)=s.take (i+1):=by rw [z7 (by omega),z7 (by omega)]
    rw [e1,e2,e3,Z2 h hf,hb]
    simp only [YD]
theorem cut_quote (h:i<s.length) (hf:fr≤i) (hb:s.getD i 0=34) (e:acc++YD c (stq q) ((s.take i).drop fr) (s.drop i)=X) :
    acc++YD c (stq (!q)) ((s.take (i+1)).drop fr) (s.drop (i+1))=X:=by
  rw [Yw (dd:=0) h,hb] at e
  rw [Z2 h hf,hb]
  cases q <;> simpa [stq,YD] using e
theorem cut_sep (h:i<s.length) (hq:q=false) (hb:s.getD i 0=c) (h34:¬ s.getD i 0=34) (e:acc++YD c (stq q) ((s.take i).drop fr) (s.drop i)=X) :
    (acc++[(s.take i).drop fr])++YD c (stq q) ((s.take (i+1)).drop (i+1)) (s.drop (i+1))=X:=by
  subst hq
  have h34':¬ c=34:=hb ▸ h34
  rw [Yw (dd:=0) h,hb] at e
  rw [List.drop_of_length_le (i:=i+1) (l:=s.take (i+1)) (by simp;omega)]
  simpa [stq,YD,h34'] using e
theorem cut_plain (h:i<s.length) (hf:fr≤i) (h1:q=false∨¬ s.getD i 0=92) (h34:¬ s.getD i 0=34) (h2:¬ s.getD i 0=c∨q=true) (e:acc++YD c (stq q) ((s.take i).drop fr) (s.drop i)=X) :
    acc++YD c (stq q) ((s.take (i+1)).drop fr) (s.drop (i+1))=X:=by
  rw [Yw (dd:=0) h] at e
  rw [Z2 h hf]
  revert e h1 h34 h2
  generalize s.getD i 0=b
  intro h1 h34 h2 e
  cases q
  · have h2':¬ b=c:=by simpa using h2
    simpa [stq,YD,h34,h2'] using e
  · have h1':¬ b=92:=by simpa using h1
    simpa [stq,YD,h34,h1'] using e
theorem cut_end (h:s.length≤i) (e:acc++YD c (stq q) ((s.take i).drop fr) (s.drop i)=X):acc++[s.drop fr]=X:=by
  rw [List.drop_of_length_le h,z7 h] at e
  simpa [YD] using e
end

theorem Qm (c:UInt8):∀ (r:Str) (st:Nat) (cur:Str),0<(YD c st cur r).length
  | [],_,_=>by simp [YD]
  | b::r,st,cur=>by
    unfold YD
    split
    · exact Qm c r _ _
    · split
      · split
        · exact Qm c r _ _
        · split <;> exact Qm c r _ _
      · split
        · exact Qm c r _ _
        · split
          · simp
          · exact Qm c r _ _
theorem wu (s:Str) (c:UInt8):0<(cutF s c).length:=Qm c s 0 []
theorem cutGo_mem (c:UInt8):∀ (r:Str) (st:Nat) (cur:Str),∀ x∈YD c st cur r,x.length≤cur.length+r.length
  | [],_,cur=>by simp [YD]
  | b::r,st,cur=>fun x hx=>by
    have ih:=cutGo_mem c r
    have up:∀ st,x∈YD c st (cur++[b]) r→x.length≤cur.length+(b::r).length:=fun st h=>by
      have:=ih st _ x h;simp at this ⊢;omega
    unfold YD at hx
    split at hx
    · exact up _ hx
    · split at hx
      · split at hx
        · exact up _ hx
        · split at hx <;> exact up _ hx
      · split at hx
        · exact up _ hx
        · split at hx
          · rcases List.mem_cons.1 hx with rfl | hx
            · simp
            · have:=ih _ _ x hx;simp at this ⊢;omega
          · exact up _ hx
theorem zQ (s:Str) (c:UInt8):∀ x∈cutF s c,x.length≤s.length:=fun x hx=>by have:=cutGo_mem c s 0 [] x hx;simpa using this
theorem cutGo_length (c:UInt8):∀ (r:Str) (st:Nat) (cur:Str),(YD c st cur r).length≤r.length+1
  | [],_,_=>by simp [YD]
  | b::r,st,cur=>by
    have ih:=cutGo_length c r
    unfold YD
    split
    · have:=ih 1 (cur++[b]);simp;omega
    · split
      · split
        · have:=ih 2 (cur++[b]);simp;omega
        · split
          · have:=ih 0 (cur++[b]);simp;omega
          · have:=ih 1 (cur++[b]);simp;omega
      · split
        · have:=ih 1 (cur++[b]);simp;omega
        · split
          · have:=ih 0 [];simp;omega
          · have:=ih 0 (cur++[b]);simp;omega
theorem QZ (s:Str) (c:UInt8):(cutF s c).length≤s.length+1:=cutGo_length c s 0 []
theorem yX {l:List Str} {n i:Nat} (h:∀ x∈l,x.length≤n):(l.getD i []).length≤n:=by
  by_cases hi:i<l.length
  · exact h _ (yD hi)
  · rw [List.getD_eq_getElem?_getD,List.getElem?_eq_none (by omega)];simp

/-! ### Quoted strings -/
def qc (c:UInt8):Str:=bif decide (c=34)||decide (c=92) then [92,c] else [c]
def quote (s:Str):Str:=34::s.flatMap qc++[34]
theorem W9 {α β:Type} {f:α→List β} {l:List α} {i:Nat} {dd:α} (h:i<l.length):(l.take (i+1)).flatMap f=(l.take i).flatMap f++f (l.getD i dd):=by
  rw [List.take_succ_eq_append_getElem h,List.flatMap_append,zw h];simp
theorem quote_hit {s:Str} {i:Nat} (h:i<s.length) (h2:s.getD i 0=34∨s.getD i 0=92):((34::(s.take i).flatMap qc)++[92])++[s.getD i 0]=34::(s.take (i+1)).flatMap qc:=by
  rw [W9 (dd:=0) h]
  revert h2
  generalize s.getD i 0=b
  intro h2
  rcases h2 with h2 | h2 <;> simp [qc,h2]
theorem quote_miss {s:Str} {i:Nat} (h:i<s.length) (h2:¬ s.getD i 0=34∧¬ s.getD i 0=92):(34::(s.take i).flatMap qc)++[s.getD i 0]=34::(s.take (i+1)).flatMap qc:=by
  rw [W9 (dd:=0) h]
  revert h2
  generalize s.getD i 0=b
  intro h2
  simp [qc,h2.1,h2.2]
theorem qc_length (c:UInt8):(qc c).length≤2:=by unfold qc;cases decide (c=34)||decide (c=92) <;> simp
theorem QX {α β:Type} {f:α→List β} {k:Nat} (hk:∀ x,(f x).length≤k):∀ l:List α,(l.flatMap f).length≤l.length*k
  | []=>by simp
  | x::l=>by have:=hk x;have:=QX hk l;rw [List.flatMap_cons,List.length_append,List.length_cons,Nat.add_mul];omega
theorem quote_length (s:Str):(quote s).length≤2*s.length+2:=by
  have:=QX qc_length s
  simp only [quote,List.length_append,List.length_cons,List.length_nil];omega

def ZF:Str→Str→Option Str
  | acc,[]=>some acc
  | acc,[b]=>if b=34 then none else if b=92 then none else if wX b=true then some (acc++[b]) else none
  | acc,b::x::r=>if b=34 then none else if b=92 then (if wX x=true then ZF (acc++[x]) r else none) else if wX b=true then ZF (acc++[b]) (x::r) else none
def inner (s:Str):Str:=(s.take (s.length-1)).drop 1
def unq (s:Str):Str×Bool :=
  if 2≤s.length∧s.getD 0 0=34∧s.getD (s.length-1) 0=34 then ((ZF [] (inner s)).getD [],(ZF [] (inner s)).isSome) else ([],false)

section
variable {t acc:Str} {i:Nat} {X:Option Str}
theorem unq_quote (h:i<t.length) (hb:t.getD i 0=34) (e:ZF acc (t.drop i)=X):X=none:=by
  rw [← e,Yw (dd:=0) h,hb]
  cases t.drop (i+1) <;> simp [ZF]
theorem unq_esc_end (h:i<t.length) (hb:t.getD i 0=92) (h1:i+1=t.length) (e:ZF acc (t.drop i)=X):X=none:=by
  rw [← e,Yw (dd:=0) h,hb,List.drop_of_length_le (by omega)]
  simp [ZF]
theorem unq_esc_bad (h:i+1<t.length) (hb:t.getD i 0=92) (h1:wX (t.getD (i+1) 0)=false) (e:ZF acc (t.drop i)=X):X=none:=by
  rw [← e,Yw (dd:=0) (show i<t.length by omega),hb,Yw (dd:=0) h]
  revert h1
  generalize t.getD (i+1) 0=b
  intro h1
  simp [ZF,h1]
theorem unq_esc (h:i+1<t.length) (hb:t.getD i 0=92) (h1:wX (t.getD (i+1) 0)=true) (e:ZF acc (t.drop i)=X):ZF (acc++[t.getD (i+1) 0]) (t.drop (i+1+1))=X:=by
  rw [← e,Yw (dd:=0) (show i<t.length by omega),hb,Yw (dd:=0) h]
  revert h1
  generalize t.getD (i+1) 0=b
  intro h1
  simp [ZF,h1]
theorem unq_bad (h:i<t.length) (h34:¬ t.getD i 0=34) (hb:¬ t.getD i 0=92) (h1:wX (t.getD i 0)=false) (e:ZF acc (t.drop i)=X):X=none:=by
  rw [← e,Yw (dd:=0) h]
  revert h34 hb h1
  generalize t.getD i 0=b
  intro h34 hb h1
  cases t.drop (i+1) <;> simp [ZF,h34,hb,h1]
theorem unq_plain (h:i<t.length) (h34:¬ t.getD i 0=34) (hb:¬ t.getD i 0=92) (h1:wX (t.getD i 0)=true) (e:ZF acc (t.drop i)=X):ZF (acc++[t.getD i 0]) (t.drop (i+1))=X:=by
  rw [← e,Yw (dd:=0) h]
  revert h34 hb h1
  generalize t.getD i 0=b
  intro h34 hb h1
  cases t.drop (i+1) <;> simp [ZF,h34,hb,h1]
theorem unq_end (h:t.length≤i) (e:ZF acc (t.drop i)=X):X=some acc:=by
  rw [← e,List.drop_of_length_le h];simp [ZF]
end
theorem text_get {t:Str} {i:Nat} (h:t.all wX=true) (hi:i<t.length):wX (t.getD i 0)=true:=by
  rw [zw hi];exact List.all_eq_true.1 h _ (List.getElem_mem hi)
theorem unqGo_text:∀ (t acc u:Str),ZF acc t=some u→t.all wX=true
  | [],_,_,_=>rfl
  | [b],acc,u,h=>by
    unfold ZF at h
    split at h
    · cases h
    · split at h
      · cases h
      · split at h
        · rename_i hb;simpa using hb
        · cases h
  | b::x::r,acc,u,h=>by
    unfold ZF at h
    split at h
    · cases h
    · split at h
      · rename_i hb
        split at h
        · rename_i hx
          have:=unqGo_text r _ _ h
          simp [hb,hx,this];decide
        · cases h
      · split at h
        · rename_i hb
          have:=unqGo_text (x::r) _ _ h
          rw [List.all_cons,hb,this];rfl
        · cases h
  termination_by t=>t.length
theorem unqGo_length:∀ (t acc u:Str),ZF acc t=some u→u.length≤acc.length+t.length
  | [],_,_,h=>by simp [ZF] at h;subst h;simp
  | [b],acc,u,h=>by
    unfold ZF at h
    split at h
    · cases h
    · split at h
      · cases h
      · split at h
        · cases h;simp
        · cases h
  | b::x::r,acc,u,h=>by
    unfold ZF at h
    split at h
    · cases h
    · split at h
      · split at h
        · have:=unqGo_length r _ _ h
          simp at this ⊢;omega
        · cases h
      · split at h
        · have:=unqGo_length (x::r) _ _ h
          simp at this ⊢;omega
        · cases h
  termination_by t=>t.length
theorem inner_length (s:Str):(inner s).length≤s.length:=by simp [inner];omega
theorem unq_length (s:Str):(unq s).1.length≤s.length:=by
  unfold unq
  split
  · cases h:ZF [] (inner s) with
    | none=>simp
    | some u=>have:=unqGo_length _ _ _ h;have:=inner_length s;simp at *;omega
  · simp
theorem unq_no {s:Str} (h:s.length<2∨¬ s.getD 0 0=34∨¬ s.getD (s.length-1) 0=34):unq s=([],false):=by
  unfold unq;rw [if_neg (by rintro ⟨h1,h2,h3⟩;rcases h with h | h | h <;> first | omega | contradiction)]
theorem QK {s:Str} (h:2≤s.length) (h2:s.getD 0 0=34) (h3:s.getD (s.length-1) 0=34) {X:Option Str} (hX:ZF [] (inner s)=X):unq s=(X.getD [],X.isSome):=by
  unfold unq;rw [if_pos ⟨h,h2,h3⟩,hX]

theorem unq_nt {s:Str} (h:text (inner s)=false):unq s=([],false):=by
  unfold unq
  split
  · cases e:ZF [] (inner s) with
    | none=>rfl
    | some u=>have:=unqGo_text _ _ _ e;rw [text,this] at h;cases h
  · rfl

/-! ### Parameters -/
def oneP (x:Str):Str×Str×Bool :=
  if ¬ pos x 61<x.length∨token (x.take (pos x 61))=false then ([],[],false)
  else if token (x.drop (pos x 61+1))=true then (lower (x.take (pos x 61)),x.drop (pos x 61+1),true)
  else (lower (x.take (pos x 61)),unq (x.drop (pos x 61+1)))
theorem one_no {x:Str} (h:¬ pos x 61<x.length):oneP x=([],[],false):=by rw [oneP,if_pos (.inl h)]
theorem one_bad {x:Str} (ht:token (x.take (pos x 61))=false):oneP x=([],[],false):=by rw [oneP,if_pos (.inr ht)]
theorem one_tok {x:Str} (h:pos x 61<x.length) (ht:token (x.take (pos x 61))=true) (hv:token (x.drop (pos x 61+1))=true):oneP x=(lower (x.take (pos x 61)),x.drop (pos x 61+1),true):=by
  rw [oneP,if_neg (by simp [h,ht]),if_pos hv]
theorem one_unq {x:Str} (h:pos x 61<x.length) (ht:token (x.take (pos x 61))=true) (hv:token (x.drop (pos x 61+1))=false):oneP x=(lower (x.take (pos x 61)),unq (x.drop (pos x 61+1))):=by
  rw [oneP,if_neg (by simp [h,ht]),if_neg (by simp [hv])]
def Zl:List Prm→List Str→Option (List Prm)
  | acc,[]=>some acc
  | acc,p::r=>if trim p=[] then Zl acc r else if (oneP (trim p)).2.2=true then Zl (acc++[((oneP (trim p)).1,(oneP (trim p)).2.1)]) r else none
def yj (s:Str):Str×List Prm×Bool :=
  if trim ((cutF s 59).getD 0 [])=[] then ([],[],false)
  else match Zl [] ((cutF s 59).drop 1) with
    | none=>([],[],false)
    | some l=>(trim ((cutF s 59).getD 0 []),l,true)
theorem wj {s:Str} (h:¬ trim ((cutF s 59).getD 0 [])=[]) (e:Zl [] ((cutF s 59).drop 1)=none):yj s=([],[],false):=by
  unfold yj;rw [if_neg h,e]
theorem parse_some {s:Str} {l:List Prm} (h:¬ trim ((cutF s 59).getD 0 [])=[]) (e:Zl [] ((cutF s 59).drop 1)=some l):yj s=(trim ((cutF s 59).getD 0 []),l,true):=by
  unfold yj;rw [if_neg h,e]
theorem QQ {s:Str} (h:trim ((cutF s 59).getD 0 [])=[]):yj s=([],[],false):=by
  unfold yj;rw [if_pos h]
section
variable {X:List Str} {acc:List Prm} {i:Nat} {Y:Option (List Prm)}
theorem pars_skip (h:i<X.length) (hb:trim (X.getD i [])=[]) (e:Zl acc (X.drop i)=Y):Zl acc (X.drop (i+1))=Y:=by
  rw [← e,Yw (dd:=[]) h,Zl,if_pos hb]
theorem WI (h:i<X.length) (hb:¬ trim (X.getD i [])=[]) (h2:(oneP (trim (X.getD i []))).2.2=false) (e:Zl acc (X.drop i)=Y):Y=none:=by
  rw [← e,Yw (dd:=[]) h,Zl,if_neg hb,if_neg (by rw [h2];simp)]
theorem pars_ok (h:i<X.length) (hb:¬ trim (X.getD i [])=[]) (h2:(oneP (trim (X.getD i []))).2.2=true) (e:Zl acc (X.drop i)=Y):Zl (acc++[((oneP (trim (X.getD i []))).1,(oneP (trim (X.getD i []))).2.1)]) (X.drop (i+1))=Y:=by
  rw [← e,Yw (dd:=[]) h,Zl,if_neg hb,if_pos h2]
theorem pars_end (h:X.length≤i) (e:Zl acc (X.drop i)=Y):Y=some acc:=by
  rw [← e,List.drop_of_length_le h,Zl]
end
theorem Vd:∀ (X:List Str) (acc:List Prm) (l:List Prm),Zl acc X=some l→l.length≤acc.length+X.length
  | [],acc,l,h=>by simp [Zl] at h;subst h;simp
  | p::r,acc,l,h=>by
    unfold Zl at h
    split at h
    · have:=Vd r _ _ h;simp;omega
    · split at h
      · have:=Vd r _ _ h;simp at this ⊢;omega
      · cases h
theorem WA (s:Str):(yj s).2.1.length≤s.length:=by
  unfold yj
  split
  · simp
  · split
    · simp
    · rename_i l h
      have:=Vd _ _ _ h
      have:=QZ s 59
      simp at *;omega
def wr (v:Str):Str:=if token v=true then v else quote v
def wi (p:Prm):Str:=p.1++61::wr p.2
def wH (v:Str) (l:List Prm):Str:=v++l.flatMap fun p=>59::wi p
def findP (l:List Prm) (name:Str):Str×Bool:=match l.find? (fun p=>decide (p.1=name)) with | some p=>(p.2,true) | none=>([],false)
def okP (f:Prm):Bool:=!(decide (100<f.1.length)||decide (100<f.2.length))
def keepP (l:List Prm):Bool:=(l.take 9).all okP&&decide (l.length≤8)
end Go.Plain

namespace Go.Plain
set_option linter.unusedSimpArgs false
set_option linter.unusedVariables false

section
variable {l:List Prm} {value acc:Str} {i:Nat}
theorem format_step (h:i<l.length) (e:acc=value++(l.take i).flatMap (fun p=>59::wi p)):value++(l.take (i+1)).flatMap (fun p=>59::wi p)=acc++59::wi (l.getD i ([],[])):=by
  rw [W9 (dd:=([],[])) h,← List.append_assoc,← e]
theorem format_tok (h:i<l.length) (e:acc=value++(l.take i).flatMap (fun p=>59::wi p)) (ht:token (l.getD i ([],[])).2=true):(acc++(([59]++(l.getD i ([],[])).1)++[61]))++(l.getD i ([],[])).2=value++(l.take (i+1)).flatMap (fun p=>59::wi p):=by
  rw [format_step h e];revert ht;generalize l.getD i ([],[])=p;intro ht;simp [wi,wr,ht]
theorem format_quo (h:i<l.length) (e:acc=value++(l.take i).flatMap (fun p=>59::wi p)) (ht:token (l.getD i ([],[])).2=false):(acc++(([59]++(l.getD i ([],[])).1)++[61]))++quote (l.getD i ([],[])).2=value++(l.take (i+1)).flatMap (fun p=>59::wi p):=by
  rw [format_step h e];revert ht;generalize l.getD i ([],[])=p;intro ht;simp [wi,wr,ht]
theorem format_tok2 (h:i<l.length) (e:acc=value++(l.take i).flatMap (fun p=>59::wi p)) (ht:token (l.getD i ([],[])).2=true):acc++((([59]++(l.getD i ([],[])).1)++[61])++(l.getD i ([],[])).2)=value++(l.take (i+1)).flatMap (fun p=>59::wi p):=by
  rw [← format_tok h e ht];simp
theorem format_quo2 (h:i<l.length) (e:acc=value++(l.take i).flatMap (fun p=>59::wi p)) (ht:token (l.getD i ([],[])).2=false):acc++((([59]++(l.getD i ([],[])).1)++[61])++quote (l.getD i ([],[])).2)=value++(l.take (i+1)).flatMap (fun p=>59::wi p):=by
  rw [← format_quo h e ht];simp
end
end Go.Plain

namespace Go.Plain
set_option linter.unusedSimpArgs false
set_option linter.unusedVariables false

abbrev Med:=Str×Str×List Prm
def okRange (v:Str):Bool:=token (v.take (pos v 47))&&token (v.drop (pos v 47+1))&&!(decide (v.take (pos v 47)=[42])&&!decide (v.drop (pos v 47+1)=[42]))
theorem wk (v:Str):okRange v=!((!token (v.take (pos v 47))||!token (v.drop (pos v 47+1)))||(decide (v.take (pos v 47)=[42])&&!decide (v.drop (pos v 47+1)=[42]))):=by
  unfold okRange;cases token (v.take (pos v 47)) <;> cases token (v.drop (pos v 47+1)) <;> simp
theorem okRange_none {v:Str} (h:¬ pos v 47<v.length):okRange v=false:=by
  have:v.drop (pos v 47+1)=[]:=List.drop_of_length_le (by omega)
  unfold okRange;rw [this];simp [token]
def yK (s:Str):Med×Bool :=
  if (yj s).2.2=true∧okRange (yj s).1=true then ((lower ((yj s).1.take (pos (yj s).1 47)),lower ((yj s).1.drop (pos (yj s).1 47+1)),(yj s).2.1),true) else (([],[],[]),false)
theorem qV {s:Str} (h:(yj s).2.2=false∨okRange (yj s).1=false):yK s=(([],[],[]),false):=by
  rw [yK,if_neg];rintro ⟨h1,h2⟩;rcases h with h | h
  · rw [h] at h1;cases h1
  · rw [h] at h2;cases h2
theorem parseR_yes {s:Str} (h1:(yj s).2.2=true) (h2:okRange (yj s).1=true):yK s=((lower ((yj s).1.take (pos (yj s).1 47)),lower ((yj s).1.drop (pos (yj s).1 47+1)),(yj s).2.1),true):=by
  rw [yK,if_pos ⟨h1,h2⟩]
def badT (s:Str):Bool:=(!(yK s).2||decide ((yK s).1.1=[42]))||decide ((yK s).1.2.1=[42])
def y4 (s:Str):Med×Bool:=if badT s=true then (([],[],[]),false) else yK s
theorem parseT_no {s:Str} (h:badT s=true):y4 s=(([],[],[]),false):=by rw [y4,if_pos h]
theorem Ws {s:Str} (h:badT s=false):y4 s=yK s∧(yK s).2=true:=by
  refine ⟨by rw [y4,if_neg (by simp [h])],?_⟩
  unfold badT at h
  cases hr:(yK s).2
  · rw [hr] at h;simp at h
  · rfl
def YL (t:Med):Str:=wH ((t.1++[47])++t.2.1) t.2.2
theorem any_next {α:Type} {p:α→Bool} {l:List α} {i:Nat} {dd:α} (h:i<l.length):(l.take (i+1)).any p=((l.take i).any p||p (l.getD i dd)):=by
  rw [List.take_succ_eq_append_getElem h,List.any_append,zw h];simp
theorem not_not {a:Prop}:¬¬a↔a:=Classical.not_not
def Ve (p x:Prm):Bool:=decide (x.1=p.1)&&fold x.2 p.2
theorem fold_comm (a b:Str):fold a b=fold b a:=by unfold fold;rw [decide_eq_decide.2 (eq_comm (a:=a.length)),decide_eq_decide.2 (eq_comm (a:=lower a))]
theorem matchB_alt (p x:Prm):(decide (p.1=x.1)&&fold p.2 x.2)=Ve p x:=by unfold Ve;rw [fold_comm,decide_eq_decide.2 (eq_comm (a:=p.1))]
def Zg (r t:Med):Int :=
  if r.1=[42]∧r.2.1=[42] then 0 else if ¬ r.1=t.1 then -1 else if r.2.1=[42] then 1 else if ¬ r.2.1=t.2.1 then -1
  else if r.2.2.all (fun p=>t.2.2.any (Ve p))=true then ((2+r.2.2.length:Nat):Int) else -1
theorem matchT_no2 {r t:Med} (h1:¬ r.1=[42]∨¬ r.2.1=[42]) (h2:¬ r.2.1=[42]∨¬ r.1=t.1) (h3:¬ r.1=t.1∨¬ r.2.1=t.2.1):Zg r t=-1:=by
  unfold Zg
  rw [if_neg (fun e=>by rcases h1 with h | h;exact h e.1;exact h e.2)]
  by_cases he:r.1=t.1
  · have h2':¬ r.2.1=[42]:=by rcases h2 with h | h;exact h;exact absurd he h
    have h3':¬ r.2.1=t.2.1:=by rcases h3 with h | h;exact absurd he h;exact h
    rw [if_neg (not_not.2 he),if_neg h2',if_pos h3']
  · rw [if_pos he]
def sameM (a b:Med):Bool:=((decide (a.1=b.1)&&decide (a.2.1=b.2.1))&&decide (a.2.2=b.2.2))
def keepM (t:Med):Bool:=(decide (t.1.length≤100)&&decide (t.2.1.length≤100))&&keepP t.2.2
theorem zr (s:Str):(yj s).1.length≤s.length:=by
  have h:(trim ((cutF s 59).getD 0 [])).length≤s.length:=by have:=yX (i:=0) (zQ s 59);have:=Ys ((cutF s 59).getD 0 []);omega
  unfold yj
  split
  · simp
  · split
    · simp
    · exact h
theorem oneP_len (x:Str):(oneP x).1.length≤x.length∧(oneP x).2.1.length≤x.length:=by
  unfold oneP
  split
  · simp
  · split
    · simp;omega
    · have:=unq_length (x.drop (pos x 61+1));simp at this ⊢;omega
theorem parsGo_mem {n:Nat}:∀ (X:List Str) (acc l:List Prm),Zl acc X=some l→(∀ x∈X,x.length≤n)→(∀ p∈acc,p.1.length≤n∧p.2.length≤n)→∀ p∈l,p.1.length≤n∧p.2.length≤n
  | [],acc,l,h,_,ha=>by simp [Zl] at h;subst h;exact ha
  | x::X,acc,l,h,hx,ha=>by
    have hX:∀ y∈X,y.length≤n:=fun y hy=>hx y (List.mem_cons_of_mem _ hy)
    unfold Zl at h
    split at h
    · exact parsGo_mem X _ _ h hX ha
    · split at h
      · refine parsGo_mem X _ _ h hX fun p hp=>?_
        rcases List.mem_append.1 hp with hp | hp
        · exact ha p hp
        · obtain rfl:=List.mem_singleton.1 hp
          have:=oneP_len (trim x)
          have:=Ys x
          have:=hx x List.mem_cons_self
          exact ⟨by simp only;omega,by simp only;omega⟩
      · cases h
theorem parseP_mem (s:Str):∀ p∈(yj s).2.1,p.1.length≤s.length∧p.2.length≤s.length:=by
  unfold yj
  split
  · simp
  · split
    · simp
    · rename_i l h
      exact parsGo_mem _ _ _ h (fun x hx=>zQ s 59 x (List.mem_of_mem_drop hx)) (by simp)
theorem Y7 (s:Str):(yK s).1.1.length≤s.length∧(yK s).1.2.1.length≤s.length∧(yK s).1.2.2.length≤s.length∧∀ p∈(yK s).1.2.2,p.1.length≤s.length∧p.2.length≤s.length:=by
  unfold yK
  have:=zr s
  split
  · exact ⟨by simp;omega,by simp;omega,WA s,parseP_mem s⟩
  · simp
theorem ZN (s:Str):(y4 s).1.1.length≤s.length∧(y4 s).1.2.1.length≤s.length∧(y4 s).1.2.2.length≤s.length∧∀ p∈(y4 s).1.2.2,p.1.length≤s.length∧p.2.length≤s.length:=by
  unfold y4
  split
  · simp
  · exact Y7 s
end Go.Plain

namespace Go.Plain
set_option linter.unusedSimpArgs false
set_option linter.unusedVariables false

/-! ### Bytes -/
/-! ### Ends -/
theorem getD_last (m:Str) (z:UInt8):(m++[z]).getD ((m++[z]).length-1) 0=z:=by simp
theorem pad_trim {a s b m m':Str} {x z:UInt8} (ha:a.all qa=true) (hb:b.all qa=true) (h1:s=x::m) (h2:s=m'++[z]) (hx:qa x=false) (hz:qa z=false):trim (a++s++b)=s:=by
  unfold trim
  have e1:YW qa ((a++s)++b)=a++s:=trimR_eq hb (.inr (by rw [h2,← List.append_assoc,getD_last];exact hz))
  rw [e1,trimL_append_all ha]
  exact trimL_end (.inr (by rw [h1];exact hx))
theorem ends_trim {s m m':Str} {x z:UInt8} (h1:s=x::m) (h2:s=m'++[z]) (hx:qa x=false) (hz:qa z=false):trim s=s:=by
  have:=pad_trim (a:=[]) (b:=[]) rfl rfl h1 h2 hx hz
  simpa using this
/-- A text whose ends are no blanks. -/
def Firm (s:Str):Prop:=∃ x m m' z,s=x::m∧s=m'++[z]∧qa x=false∧qa z=false
theorem Firm.trim {s:Str} (h:Firm s):trim s=s:=by obtain ⟨x,m,m',z,h1,h2,h3,h4⟩:=h;exact ends_trim h1 h2 h3 h4
theorem Firm.ne {s:Str} (h:Firm s):s≠[]:=by obtain ⟨x,m,m',z,h1,_⟩:=h;rw [h1];simp
theorem Firm.append {a b w:Str} (ha:Firm a) (hb:Firm b):Firm (a++w++b):=by
  obtain ⟨x,m,_,_,h1,_,h3,_⟩:=ha
  obtain ⟨_,_,m',z,_,h2,_,h4⟩:=hb
  exact ⟨x,m++w++b,a++w++m',z,by rw [h1];rfl,by rw [h2];simp,h3,h4⟩
/-! ### Cutting what was written -/
/-! ### Reading a parameter -/
/-- A parameter that is written so that it is read back. -/
def Good (p:Prm):Prop:=token p.1=true∧lower p.1=p.1∧text p.2=true
/-! ### Blanks -/
section
variable {v n t:Str}
end

/-! ### Media types -/
end Go.Plain

namespace Go.Plain
set_option linter.unusedSimpArgs false
set_option linter.unusedVariables false

def goodB (p:Prm):Bool:=(token p.1&&decide (lower p.1=p.1))&&text p.2
theorem wr_length (v:Str):(wr v).length≤2*v.length+2:=by
  unfold wr;split
  · omega
  · exact quote_length v
def sumP (l:List Prm):Nat:=(l.map fun p=>p.1.length+p.2.length).sum
theorem formatP_length (v:Str):∀ l:List Prm,(wH v l).length≤v.length+2*sumP l+4*l.length
  | []=>by simp [wH,sumP]
  | p::l=>by
    have ih:=formatP_length v l
    have:=wr_length p.2
    simp only [wH,sumP,List.length_append,List.flatMap_cons,List.length_cons,wi,List.map_cons,List.sum_cons] at ih ⊢
    omega
def sumS (X:List Str):Nat:=(X.map fun x=>x.length).sum
theorem cutGo_sum (c:UInt8):∀ (r:Str) (st:Nat) (cur:Str),sumS (YD c st cur r)≤cur.length+r.length
  | [],_,cur=>by simp [YD,sumS]
  | b::r,st,cur=>by
    have ih:=cutGo_sum c r
    have up:∀ st,sumS (YD c st (cur++[b]) r)≤cur.length+(b::r).length:=fun st=>by have:=ih st (cur++[b]);simp at this ⊢;omega
    unfold YD
    split
    · exact up _
    · split
      · split
        · exact up _
        · split <;> exact up _
      · split
        · exact up _
        · split
          · have:=ih 0 []
            simp only [sumS,List.map_cons,List.sum_cons,List.length_nil,List.length_cons] at this ⊢
            omega
          · exact up _
theorem oneP_sum (x:Str):(oneP x).1.length+(oneP x).2.1.length≤x.length:=by
  unfold oneP
  split
  · simp
  · rename_i hc
    have hlt:pos x 61<x.length:=by
      rcases Nat.lt_or_ge (pos x 61) x.length with h | h
      · exact h
      · exact absurd (.inl (by omega)) hc
    split
    · simp;omega
    · have:=unq_length (x.drop (pos x 61+1));simp at this ⊢;omega
theorem parsGo_sum:∀ (X:List Str) (acc l:List Prm),Zl acc X=some l→sumP l≤sumP acc+sumS X
  | [],acc,l,h=>by simp [Zl] at h;subst h;simp
  | x::X,acc,l,h=>by
    unfold Zl at h
    split at h
    · have:=parsGo_sum X _ _ h;simp only [sumS,List.map_cons,List.sum_cons] at this ⊢;omega
    · split at h
      · have h1:=parsGo_sum X _ _ h
        have h2:=oneP_sum (trim x)
        have h3:=Ys x
        simp only [sumS,sumP,List.map_cons,List.sum_cons,List.map_append,List.sum_append,List.map_nil,List.sum_nil] at h1 ⊢
        omega
      · cases h
theorem parseP_sum (s:Str):sumP (yj s).2.1≤s.length:=by
  unfold yj
  split
  · simp [sumP]
  · split
    · simp [sumP]
    · rename_i l h
      have h1:=parsGo_sum _ _ _ h
      have h2:=cutGo_sum 59 s 0 []
      have h3:sumS ((cutF s 59).drop 1)≤sumS (cutF s 59):=by
        unfold sumS
        cases cutF s 59 with
        | nil=>simp
        | cons a t=>simp
      unfold cutF at h1 h3
      simp only [sumP,List.map_nil,List.sum_nil,List.length_nil] at h1 h2 ⊢
      omega
end Go.Plain

namespace Go.Plain
set_option linter.unusedSimpArgs false
set_option linter.unusedVariables false

/-! ### Members -/
def neB (s:Str):Bool:=!decide (s=[])
def memG (X:List Str):List Str:=(X.map trim).filter neB
def Zj (v:Str):List Str:=(memG (cutF v 44)).take 64
def Qp (st:Nat) (c:UInt8):Nat:=if st=2 then 1 else if st=1∧c=92 then 2 else if c=34 then 1-st else st
theorem stepF_le {st:Nat} {c:UInt8} (h:st≤2):Qp st c≤2:=by unfold Qp;split;omega;split;omega;split <;> omega
theorem memG_cons (x:Str) (X:List Str):memG (x::X)=if trim x=[] then memG X else trim x::memG X:=by
  unfold memG
  rw [List.map_cons,List.filter_cons]
  unfold neB
  by_cases h:trim x=[] <;> simp [h]
section
variable {v:Str} {i fr st:Nat} {acc X:List Str}
/-- What is still to come. -/
def Wl (v:Str) (i fr st:Nat):List Str:=if i≤v.length then memG (YD 44 st ((v.take i).drop fr) (v.drop i)) else []
theorem cutGo_next {c b:UInt8} {st:Nat} {cur r:Str} (hs:st≤2) (h:¬ (st=0∧b=c)):YD c st cur (b::r)=YD c (Qp st b) (cur++[b]) r:=by
  unfold Qp
  rw [YD]
  by_cases h2:st=2
  · simp [h2]
  by_cases h1:st=1
  · subst h1
    by_cases hb:b=92
    · simp [hb]
    · by_cases h34:b=34
      · simp [h34]
      · simp [hb,h34]
  · obtain rfl:st=0:=by omega
    have hc:¬ b=c:=fun e=>h ⟨rfl,e⟩
    by_cases h34:b=34
    · simp [h34]
    · simp [h34,hc]
theorem split_next (h:i<v.length) (hf:fr≤i) (hs:st≤2) (hn:¬ (st=0∧v.getD i 0=44)) (e:acc++Wl v i fr st=X):acc++Wl v (i+1) fr (Qp st (v.getD i 0))=X:=by
  rw [← e]
  unfold Wl
  rw [if_pos (by omega),if_pos (by omega),Z2 h hf,Yw (dd:=0) h,cutGo_next hs hn]
theorem rest7_in (h:i≤v.length):Wl v i fr st=memG (YD 44 st ((v.take i).drop fr) (v.drop i)):=if_pos h
theorem rest7_out (h:v.length<i):Wl v i fr st=[]:=if_neg (by omega)
theorem split_cut (h:i<v.length) (hs:st=0) (hb:v.getD i 0=44) (e:acc++Wl v i fr st=X):acc++(if trim ((v.take i).drop fr)=[] then [] else [trim ((v.take i).drop fr)])++Wl v (i+1) (i+1) st=X:=by
  rw [← e,rest7_in (i:=i) (by omega),rest7_in (i:=i+1) (by omega),Yw (dd:=0) h,hb,hs]
  have e2:(v.take (i+1)).drop (i+1)=[]:=List.drop_of_length_le (by rw [List.length_take];exact Nat.min_le_left _ _)
  have e3:YD 44 0 ((v.take i).drop fr) (44::v.drop (i+1))=(v.take i).drop fr::YD 44 0 [] (v.drop (i+1)):=by
    rw [YD,if_neg (by decide),if_neg (by decide),if_neg (by decide),if_pos rfl]
  rw [e2,e3,memG_cons]
  split <;> simp
theorem split_last (h:i=v.length) (e:acc++Wl v i fr st=X):acc++(if trim ((v.take i).drop fr)=[] then [] else [trim ((v.take i).drop fr)])++Wl v (i+1) (i+1) st=X:=by
  have e1:v.drop i=[]:=List.drop_of_length_le (by omega)
  rw [← e,rest7_in (i:=i) (by omega),rest7_out (i:=i+1) (by omega),e1,YD,memG_cons]
  split <;> simp [memG]
theorem split_done (h:v.length<i∨64≤acc.length) (h2:acc.length≤64) (e:acc++Wl v i fr st=memG (cutF v 44)):acc=Zj v:=by
  unfold Zj
  rw [← e]
  rcases h with h | h
  · unfold Wl
    rw [if_neg (by omega),List.append_nil,List.take_of_length_le h2]
  · rw [List.take_append_of_le_length h,List.take_of_length_le h2]
theorem rest7_zero:Wl v 0 0 0=memG (cutF v 44):=by unfold Wl cutF;simp
end
theorem memG_step {X acc Y:List Str} {i:Nat} (h:i<X.length) (e:acc++memG (X.drop i)=Y):acc++(if trim (X.getD i [])=[] then [] else [trim (X.getD i [])])++memG (X.drop (i+1))=Y:=by
  rw [← e,Yw (dd:=[]) h,memG_cons]
  split <;> simp
theorem memG_done {v:Str} {acc:List Str} {i:Nat} (h:¬ i<(cutF v 44).length∨64≤acc.length) (h2:acc.length≤64) (e:acc++memG ((cutF v 44).drop i)=memG (cutF v 44)):acc=Zj v:=by
  unfold Zj
  rw [← e]
  rcases h with h | h
  · rw [List.drop_of_length_le (by omega)]
    simp only [memG,List.map_nil,List.filter_nil,List.append_nil]
    rw [List.take_of_length_le h2]
  · rw [List.take_append_of_le_length h,List.take_of_length_le h2]
theorem Wy (v:Str):(Zj v).length≤64:=by unfold Zj;rw [List.length_take];omega
theorem splitF_mem (v:Str):∀ x∈Zj v,x.length≤v.length:=fun x hx=>by
  have h1:=List.mem_of_mem_take hx
  unfold memG at h1
  obtain ⟨h2,_⟩:=List.mem_filter.1 h1
  obtain ⟨y,hy,rfl⟩:=List.mem_map.1 h2
  have:=Ys y
  have:=zQ v 44 y hy
  omega
def allV (vs:List Str):List Str:=(vs.flatMap Zj).take 64
def allF (l:List Fld) (name:Str):List Str:=allV (getF l name)
theorem Zi (vs:List Str):(allV vs).length≤64:=by unfold allV;rw [List.length_take];omega
theorem YK {vs:List Str} {n:Nat} (h:∀ v∈vs,v.length≤n):∀ x∈allV vs,x.length≤n:=fun x hx=>by
  obtain ⟨v,hv,hx⟩:=List.mem_flatMap.1 (List.mem_of_mem_take hx)
  have:=splitF_mem v x hx
  have:=h v hv
  omega
theorem zY {l:List Fld} {name:Str} {n:Nat} (h:∀ x∈l,x.1.length≤n∧x.2.length≤n):∀ v∈getF l name,v.length≤n:=fun v hv=>by
  unfold getF at hv
  obtain ⟨f,hf,rfl⟩:=List.mem_map.1 hv
  exact (h f (List.mem_filter.1 hf).1).2
theorem flat_take_step {vs:List Str} {i:Nat} (h:i<vs.length):(vs.take (i+1)).flatMap Zj=(vs.take i).flatMap Zj++Zj (vs.getD i []):=W9 h
theorem take64_step {X m:List Str} {k:Nat} (h:k<m.length) (h2:((X++m.take k).take 64).length<64):(X++m.take k).take 64++[m.getD k []]=(X++m.take (k+1)).take 64:=by
  rw [List.length_take] at h2
  have h3:(X++m.take k).length<64:=by omega
  have h4:(X++m.take (k+1)).length≤64:=by simp only [List.length_append,List.length_take] at h3 ⊢;omega
  rw [List.take_of_length_le (Nat.le_of_lt h3),List.take_of_length_le h4,List.take_succ_eq_append_getElem h,zw h,List.append_assoc]
theorem take64_end {X m:List Str} {k:Nat} (hk:k≤m.length) (h:¬ k<m.length∨64≤((X++m.take k).take 64).length):(X++m.take k).take 64=(X++m).take 64:=by
  rcases h with h | h
  · rw [List.take_of_length_le (l:=m) (i:=k) (by omega)]
  · have h2:(X++m).take (X++m.take k).length=X++m.take k:=by
      rw [List.length_append,List.take_append]
      rw [List.take_of_length_le (by omega)]
      congr 1
      rw [List.length_take]
      rw [show X.length+min k m.length-X.length=k by omega]
    rw [← h2,List.take_take]
    congr 1
    rw [List.length_take] at h
    omega
def Yt (sep:Str):List Str→Str
  | []=>[]
  | x::r=>r.foldl (fun a y=>a++sep++y) x
theorem joinS_step {sep x:Str} {r:List Str} {i:Nat} (h:i<r.length):Yt sep (x::r.take (i+1))=(Yt sep (x::r.take i)++sep)++r.getD i []:=by
  unfold Yt
  simp only
  rw [List.take_succ_eq_append_getElem h,List.foldl_append,zw h]
  rfl

/-! ### Quality values -/
def digB (c:UInt8):Bool:=decide (48≤c)&&decide (c≤57)
def digV (c:UInt8):Nat:=(c-48).toNat
def badQ (s:Str):Bool:=decide (s=[])||decide (5<s.length)||(!decide (s.getD 0 0=48)&&!decide (s.getD 0 0=49))||(decide (1<s.length)&&!decide (s.getD 1 0=46))
/-- The weight of the digit at i. -/
def wq (i:Nat):Nat:=if i=0 then 1000 else if i=2 then 100 else if i=3 then 10 else if i=4 then 1 else 0
def sumQ (s:Str) (i:Nat):Nat:=(List.range i).foldl (fun q k=>if k=1 then q else q+wq k*digV (s.getD k 0)) 0
def digsQ (s:Str):Bool:=(s.drop 2).all digB
def zE (s:Str):Nat×Bool :=
  if badQ s=true then (0,false) else if digsQ s=false then (0,false) else if 1000<sumQ s s.length then (0,false) else (sumQ s s.length,true)

/-! ### Language tags -/
def zK (c:UInt8):Str→Str→List Str
  | cur,[]=>[cur]
  | cur,b::r=>if b=c then cur::zK c [] r else zK c (cur++[b]) r
def subt (s:Str):List Str:=zK 45 [] s
def alphaB (c:UInt8):Bool:=(decide (97≤c)&&decide (c≤122))||(decide (65≤c)&&decide (c≤90))
def wd (d:Bool) (s:Str):Bool:=s.all (fun c=>alphaB c||(d&&digB c))&&!decide (s=[])&&decide (s.length≤8)
def tagF (s:Str):Bool:=match subt s with
  | []=>false
  | x::r=>wd false x&&r.all (wd true)
def Z3 (s:Str):Bool:=decide (s=[42])||tagF s
def ZO (r t:Str):Int :=
  if Z3 r=false∨tagF t=false then -1 else if r=[42] then 0
  else if (subt (lower r)).isPrefixOf (subt (lower t))=true then ((subt r).length:Nat) else -1

/-! ### Preferences -/
def zf (kind:Int):Str :=
  if kind=1 then [65,99,99,101,112,116] else if kind=2 then [65,99,99,101,112,116,45,76,97,110,103,117,97,103,101]
  else if kind=3 then [65,99,99,101,112,116,45,67,104,97,114,115,101,116] else if kind=4 then [65,99,99,101,112,116,45,69,110,99,111,100,105,110,103] else []
def ze (name:Str):Int:=if fold name (zf 1) then 1 else if fold name (zf 2) then 2 else if fold name (zf 3) then 3 else if fold name (zf 4) then 4 else 0
theorem Ya (kind:Int):(zf kind).length≤15:=by unfold zf;(repeat' split) <;> decide
def qAt (l:List Prm):Nat:=l.findIdx fun p=>decide (p.1=[113])
def idxQ (l:List Prm):Int:=if qAt l<l.length then (qAt l:Int) else -1
theorem qAt_le (l:List Prm):qAt l≤l.length:=List.findIdx_le_length
theorem idxQ_found {l:List Prm} (h:qAt l<l.length):idxQ l=((qAt l:Nat):Int):=if_pos h
theorem idxQ_none {l:List Prm} (h:¬ qAt l<l.length):idxQ l=-1:=if_neg h
theorem qAt_miss {l:List Prm} {i:Nat} (h:i<l.length) (h2:¬ (l.getD i ([],[])).1=[113]) (e:i+qAt (l.drop i)=qAt l):i+1+qAt (l.drop (i+1))=qAt l:=by
  rw [← e,Yw (dd:=([],[])) h]
  revert h2
  generalize l.getD i ([],[])=p
  intro h2
  simp [qAt,List.findIdx_cons,h2];omega
theorem qAt_hit {l:List Prm} {i:Nat} (h:i<l.length) (h2:(l.getD i ([],[])).1=[113]) (e:i+qAt (l.drop i)=qAt l):qAt l=i:=by
  rw [← e,Yw (dd:=([],[])) h]
  revert h2
  generalize l.getD i ([],[])=p
  intro h2
  simp [qAt,List.findIdx_cons,h2]
theorem qAt_end {l:List Prm} {i:Nat} (h:l.length≤i) (e:i+qAt (l.drop i)=qAt l):¬ qAt l<l.length:=by omega
def zH (kind:Int) (v:Str) (ps:List Prm):Str×Bool :=
  if kind=1 then (YL ((yK v).1.1,(yK v).1.2.1,ps),(yK v).2)
  else if kind=2 then (canonical kind v,Z3 v&&decide (ps.length=0)) else (canonical kind v,token v&&decide (ps.length=0))
abbrev Prf:=Str×Int
def zM (kind:Int) (s:Str):Prf×Bool :=
  if (yj s).2.2=false then (([],0),false)
  else if qAt (yj s).2.1<(yj s).2.1.length then
    (if (zE ((yj s).2.1.getD (qAt (yj s).2.1) ([],[])).2).2=false then (([],0),false)
     else (((zH kind (yj s).1 ((yj s).2.1.take (qAt (yj s).2.1))).1,(((zE ((yj s).2.1.getD (qAt (yj s).2.1) ([],[])).2).1:Nat):Int)),(zH kind (yj s).1 ((yj s).2.1.take (qAt (yj s).2.1))).2))
  else (((zH kind (yj s).1 (yj s).2.1).1,1000),(zH kind (yj s).1 (yj s).2.1).2)
def wL (kind:Int) (m:List Str):List Prf:=((m.map (zM kind)).filter (·.2)).map (·.1)
theorem prefsM_hit {kind:Int} {m:List Str} {i:Nat} (h:i<m.length) (h2:(zM kind (m.getD i [])).2=true):wL kind (m.take (i+1))=wL kind (m.take i)++[(zM kind (m.getD i [])).1]:=by
  unfold wL
  rw [List.take_succ_eq_append_getElem h,List.map_append,List.filter_append,List.map_append,← zw (dd:=[]) h]
  simp only [List.map_cons,List.map_nil,List.filter_cons,h2,if_true,List.filter_nil]
theorem prefsM_miss {kind:Int} {m:List Str} {i:Nat} (h:i<m.length) (h2:(zM kind (m.getD i [])).2=false):wL kind (m.take (i+1))=wL kind (m.take i):=by
  unfold wL
  rw [List.take_succ_eq_append_getElem h,List.map_append,List.filter_append,List.map_append,← zw (dd:=[]) h]
  simp only [List.map_cons,List.map_nil,List.filter_cons,h2,Bool.false_eq_true,if_false,List.filter_nil,List.append_nil]
def Zk (kind:Int) (l:List Fld):List Prf×Bool :=
  if (decide (zf kind=[])||!decide (0<(getF l (zf kind)).length))=true then ([],false) else (wL kind (allF l (zf kind)),true)
theorem prefsF_no {kind:Int} {l:List Fld} (h:(decide (zf kind=[])||!decide (0<(getF l (zf kind)).length))=true):Zk kind l=([],false):=if_pos h
theorem prefsF_yes {kind:Int} {l:List Fld} (h:(decide (zf kind=[])||!decide (0<(getF l (zf kind)).length))=false):Zk kind l=(wL kind (allF l (zf kind)),true):=if_neg (by rw [h];simp)
theorem prefsM_length (kind:Int) (m:List Str):(wL kind m).length≤m.length:=by
  unfold wL;rw [List.length_map];exact Nat.le_trans (List.length_filter_le ..) (by rw [List.length_map];exact Nat.le_refl _)
end Go.Plain

namespace Go.Plain
open Go
set_option linter.unusedSimpArgs false
set_option linter.unusedVariables false

section
variable {v:Str} {i fr st:Nat} {acc X:List Str}
theorem split_put (hi:i≤v.length) (h2:¬ i<v.length∨(st=0∧v.getD i 0=44)) (h3:¬ trim ((v.take i).drop fr)=[]) (e:acc++Wl v i fr st=X):acc++[trim ((v.take i).drop fr)]++Wl v (i+1) (i+1) st=X:=by
  by_cases h:i<v.length
  · obtain ⟨a,b⟩:=h2.resolve_left (fun q=>q h)
    have:=split_cut h a b e
    rwa [if_neg h3] at this
  · have:=split_last (by omega) e
    rwa [if_neg h3] at this
theorem split_skip (hi:i≤v.length) (h2:¬ i<v.length∨(st=0∧v.getD i 0=44)) (h3:trim ((v.take i).drop fr)=[]) (e:acc++Wl v i fr st=X):acc++Wl v (i+1) (i+1) st=X:=by
  by_cases h:i<v.length
  · obtain ⟨a,b⟩:=h2.resolve_left (fun q=>q h)
    have:=split_cut h a b e
    rwa [if_pos h3,List.append_nil] at this
  · have:=split_last (by omega) e
    rwa [if_pos h3,List.append_nil] at this
end
theorem take_min {α:Type} {X:List α} {n:Nat}:(X.take (min X.length n)).drop 0=X.take n:=by
  rw [List.drop_zero]
  by_cases h:X.length≤n
  · rw [Nat.min_eq_left h,List.take_length,List.take_of_length_le h]
  · rw [Nat.min_eq_right (by omega)]

/-! ### Cutting at a byte -/
theorem pos_cons (b:UInt8) (r:Str) (c:UInt8):pos (b::r) c=if b=c then 0 else pos r c+1:=by
  unfold pos
  rw [List.findIdx_cons]
  by_cases h:b=c <;> simp [h]
theorem cutAt_some {c:UInt8}:∀ {t:Str} (cur:Str),pos t c<t.length→zK c cur t=(cur++t.take (pos t c))::zK c [] (t.drop (pos t c+1))
  | [],cur,h=>by simp at h
  | b::r,cur,h=>by
    rw [pos_cons] at h ⊢
    by_cases hb:b=c
    · rw [zK,if_pos hb,if_pos hb];simp
    · rw [if_neg hb] at h ⊢
      rw [zK,if_neg hb,cutAt_some (t:=r) (cur++[b]) (by simpa using h)]
      simp
theorem cutAt_none {c:UInt8}:∀ {t:Str} (cur:Str),¬ pos t c<t.length→zK c cur t=[cur++t]
  | [],cur,h=>by simp [zK]
  | b::r,cur,h=>by
    rw [pos_cons] at h
    by_cases hb:b=c
    · rw [if_pos hb] at h;simp at h
    · rw [if_neg hb] at h
      rw [zK,if_neg hb,cutAt_none (t:=r) (cur++[b]) (by simpa using h)]
      simp
theorem count_some {c:UInt8}:∀ {t:Str},pos t c<t.length→(t.drop (pos t c+1)).count c+1=t.count c
  | [],h=>by simp at h
  | b::r,h=>by
    rw [pos_cons] at h ⊢
    by_cases hb:b=c
    · rw [if_pos hb];simp [hb]
    · rw [if_neg hb] at h ⊢
      have:=count_some (t:=r) (by simpa using h)
      rw [List.count_cons_of_ne hb]
      simpa using this
theorem w5 {c:UInt8}:∀ (t cur:Str),(zK c cur t).length=t.count c+1
  | [],cur=>by simp [zK]
  | b::r,cur=>by
    rw [zK]
    by_cases hb:b=c
    · rw [if_pos hb,List.length_cons,w5 r [],hb,List.count_cons_self]
    · rw [if_neg hb,w5 r (cur++[b]),List.count_cons_of_ne hb]
theorem cutAt_mem {c:UInt8}:∀ (t cur:Str),∀ x∈zK c cur t,x.length≤cur.length+t.length
  | [],cur,x,hx=>by simp [zK] at hx;simp [hx]
  | b::r,cur,x,hx=>by
    rw [zK] at hx
    by_cases hb:b=c
    · rw [if_pos hb] at hx
      rcases List.mem_cons.1 hx with rfl | hx
      · omega
      · have:=cutAt_mem r [] x hx;simp at this ⊢;omega
    · rw [if_neg hb] at hx
      have:=cutAt_mem r (cur++[b]) x hx
      simp at this ⊢;omega
theorem ZP (s:Str):∀ x∈subt s,x.length≤s.length:=fun x hx=>by have:=cutAt_mem s [] x hx;simpa using this
theorem count_len (c:UInt8) (s:Str):s.count c≤s.length:=List.count_le_length
theorem subt_length (s:Str):(subt s).length≤s.length+1:=by unfold subt;rw [w5];have:=count_len 45 s;omega
theorem gs_go {xs:List Str} {i:Nat} {t:Str} {c:UInt8} {X:List Str} (hi:i<xs.length) (hp:pos t c<t.length) (e:xs.take i++zK c [] t=X):(xs.set i (t.take (pos t c))).take (i+1)++zK c [] (t.drop (pos t c+1))=X:=by
  rw [← e,cutAt_some [] hp,List.nil_append,List.take_succ_eq_append_getElem (by simpa using hi),List.take_set,List.set_eq_of_length_le (by rw [List.length_take];omega)]
  simp
theorem gs_end {xs:List Str} {i:Nat} {t:Str} {c:UInt8} {X:List Str} (hi:i<xs.length) (hp:¬ pos t c<t.length) (e:xs.take i++zK c [] t=X):(xs.set i t).take (i+1)=X:=by
  rw [← e,cutAt_none [] hp,List.nil_append,List.take_succ_eq_append_getElem (by simpa using hi),List.take_set,List.set_eq_of_length_le (by rw [List.length_take];omega)]
  simp

/-! ### Language tags -/
def lowOk (d:Bool) (c:UInt8):Bool:=(decide (97≤c)&&decide (c≤122))||(d&&digB c)
theorem low_sub (d:Bool) (s:Str):(lower s).all (lowOk d)=s.all (fun c=>alphaB c||(d&&digB c)):=by
  unfold lower
  rw [List.all_map]
  congr 1
  funext c
  cases d
  · simpa using all_u8 (fun c=>decide (lowOk false (Vf c)=(alphaB c||(false&&digB c)))) (by decide +kernel) c
  · simpa using all_u8 (fun c=>decide (lowOk true (Vf c)=(alphaB c||(true&&digB c)))) (by decide +kernel) c
theorem sub_bad {d:Bool} {s:Str} {i:Nat} (h:i<(lower s).length) (h2:lowOk d ((lower s).getD i 0)=false):wd d s=false:=by
  unfold wd
  rw [← low_sub]
  have:(lower s).all (lowOk d)=false:=by
    rw [List.all_eq_false]
    exact ⟨_,yD h,by rw [h2];simp⟩
  rw [this];rfl
theorem sub_end {d:Bool} {s:Str} (h:(lower s).all (lowOk d)=true):wd d s=(!decide (s=[])&&decide (s.length≤8)):=by
  unfold wd
  rw [← low_sub,h];rfl
theorem tag_bad {s:Str} {i:Nat} (h:i<(subt s).length) (h2:wd (decide (0<i)) ((subt s).getD i [])=false):tagF s=false:=by
  unfold tagF
  generalize subt s=X at h h2 ⊢
  cases X with
  | nil=>rfl
  | cons x r =>
    cases i with
    | zero=>simp at h2;simp [h2]
    | succ i =>
      have:r.all (wd true)=false:=by
        rw [List.all_eq_false]
        refine ⟨_,yD (dd:=[]) (i:=i) (by simpa using h),?_⟩
        simp at h2;simp [h2]
      show (wd false x&&r.all (wd true))=false
      rw [this];simp
theorem tag_end {s:Str} (h:∀ k,k<(subt s).length→wd (decide (0<k)) ((subt s).getD k [])=true):tagF s=true:=by
  have h0:(subt s).length≠0:=by unfold subt;rw [w5];omega
  unfold tagF
  generalize subt s=X at h h0 ⊢
  cases X with
  | nil=>simp at h0
  | cons x r =>
    have h1:=h 0 (by simp)
    simp only [Nat.lt_irrefl,decide_false,List.getD_cons_zero] at h1
    have h2:r.all (wd true)=true:=by
      rw [List.all_eq_true]
      intro y hy
      obtain ⟨k,hk,rfl⟩:=List.getElem_of_mem hy
      have:=h (k+1) (by simpa using hk)
      simpa [List.getD_eq_getElem?_getD,hk] using this
    simp [h1,h2]

/-! ### Quality values -/
theorem wq_le (i:Nat):wq i≤1000:=by unfold wq;(repeat' split) <;> omega
theorem digV_le (c:UInt8):digV c≤255:=by have:=(c-48).toNat_lt;unfold digV;omega
theorem wd_le (i:Nat) (c:UInt8):wq i*digV c≤255000:=by
  have:=Nat.mul_le_mul (wq_le i) (digV_le c)
  omega
theorem wq_get {i:Nat} (h:i<5):[((1000:Nat):Int),((0:Nat):Int),((100:Nat):Int),((10:Nat):Int),((1:Nat):Int)].getD i 0=((wq i:Nat):Int):=by
  have:i=0∨i=1∨i=2∨i=3∨i=4:=by omega
  rcases this with rfl | rfl | rfl | rfl | rfl <;> rfl
theorem sumQ_one (s:Str):sumQ s (1+1)=sumQ s 1:=by unfold sumQ;rw [List.range_succ,List.foldl_append];rfl
theorem sumQ_step {s:Str} {i:Nat} (h:¬ i=1):sumQ s (i+1)=sumQ s i+wq i*digV (s.getD i 0):=by
  unfold sumQ;rw [List.range_succ,List.foldl_append];simp [h]
theorem badQ_len {s:Str} (h:badQ s=false):0<s.length∧s.length≤5:=by
  unfold badQ at h
  simp only [Bool.or_eq_false_iff,decide_eq_false_iff_not] at h
  have:=List.length_pos_iff.2 h.1.1.1
  omega
theorem dig_step {s:Str} {i:Nat} (hi:i<s.length) (h:digB (s.getD i 0)=true) (e:((s.take i).drop 2).all digB=true):((s.take (i+1)).drop 2).all digB=true:=by
  by_cases h2:2≤i
  · rw [Z2 hi h2,List.all_append,e];simp only [List.all_cons,List.all_nil,h];rfl
  · rw [List.drop_of_length_le (by rw [List.length_take];omega)];rfl
theorem dig_one {s:Str}:((s.take (1+1)).drop 2).all digB=true:=by
  rw [List.drop_of_length_le (by rw [List.length_take];omega)];rfl
theorem parseQ_bad {s:Str} (h:badQ s=true):zE s=(0,false):=if_pos h
theorem parseQ_dig {s:Str} {i:Nat} (hb:badQ s=false) (hi:i<s.length) (h1:¬ i=1) (h:digB (s.getD i 0)=false):zE s=(0,false):=by
  have h2:2≤i:=by
    rcases Nat.lt_or_ge i 2 with h2 | h2
    · obtain rfl:i=0:=by omega
      unfold badQ at hb
      simp only [Bool.or_eq_false_iff,Bool.and_eq_false_iff,Bool.not_eq_false',decide_eq_true_eq] at hb
      rcases hb.1.2 with e | e <;> (rw [e] at h;revert h;decide)
    · exact h2
  have hd:digsQ s=false:=by
    unfold digsQ
    rw [List.all_eq_false]
    refine ⟨s.getD i 0,?_,by rw [h];simp⟩
    rw [zw hi]
    have:i-2<(s.drop 2).length:=by rw [List.length_drop];omega
    have h3:(s.drop 2)[i-2]=s[i]:=by rw [List.getElem_drop];congr 1;omega
    rw [← h3];exact List.getElem_mem this
  unfold zE
  rw [if_neg (by rw [hb];simp),if_pos hd]
theorem digs_end {s:Str} {i:Nat} (hi:s.length≤i) (e:((s.take i).drop 2).all digB=true):digsQ s=true:=by
  rw [z7 hi] at e;exact e
theorem parseQ_big {s:Str} (hb:badQ s=false) (hd:digsQ s=true) (h:1000<sumQ s s.length):zE s=(0,false):=by
  unfold zE;rw [if_neg (by rw [hb];simp),if_neg (by rw [hd];simp),if_pos h]
theorem parseQ_ok {s:Str} (hb:badQ s=false) (hd:digsQ s=true) (h:¬ 1000<sumQ s s.length):zE s=(sumQ s s.length,true):=by
  unfold zE;rw [if_neg (by rw [hb];simp),if_neg (by rw [hd];simp),if_neg h]
/-! ### Preferences -/
theorem kindF_hit {name:Str} {k:Nat} (h1:1≤k) (h2:k≤4) (hm:∀ j:Nat,1≤j→j<k→fold name (zf (j:Int))=false) (h:fold name (zf (k:Int))=true):ze name=(k:Int):=by
  have:k=1∨k=2∨k=3∨k=4:=by omega
  rcases this with rfl | rfl | rfl | rfl
  · have a:fold name (zf 1)=true:=h
    unfold ze;rw [if_pos a];rfl
  · have a1:fold name (zf 1)=false:=hm 1 (by omega) (by omega)
    have a:fold name (zf 2)=true:=h
    unfold ze;rw [if_neg (by rw [a1];simp),if_pos a];rfl
  · have a1:fold name (zf 1)=false:=hm 1 (by omega) (by omega)
    have a2:fold name (zf 2)=false:=hm 2 (by omega) (by omega)
    have a:fold name (zf 3)=true:=h
    unfold ze;rw [if_neg (by rw [a1];simp),if_neg (by rw [a2];simp),if_pos a];rfl
  · have a1:fold name (zf 1)=false:=hm 1 (by omega) (by omega)
    have a2:fold name (zf 2)=false:=hm 2 (by omega) (by omega)
    have a3:fold name (zf 3)=false:=hm 3 (by omega) (by omega)
    have a:fold name (zf 4)=true:=h
    unfold ze;rw [if_neg (by rw [a1];simp),if_neg (by rw [a2];simp),if_neg (by rw [a3];simp),if_pos a];rfl
theorem kindF_none {name:Str} {k:Nat} (h2:4<k) (hm:∀ j:Nat,1≤j→j<k→fold name (zf (j:Int))=false):ze name=0:=by
  have a1:fold name (zf 1)=false:=hm 1 (by omega) (by omega)
  have a2:fold name (zf 2)=false:=hm 2 (by omega) (by omega)
  have a3:fold name (zf 3)=false:=hm 3 (by omega) (by omega)
  have a4:fold name (zf 4)=false:=hm 4 (by omega) (by omega)
  unfold ze;rw [if_neg (by rw [a1];simp),if_neg (by rw [a2];simp),if_neg (by rw [a3];simp),if_neg (by rw [a4];simp)]
theorem pref_bad {kind:Int} {s:Str} (h:(yj s).2.2=false):zM kind s=(([],0),false):=if_pos h
theorem pref_badq {kind:Int} {s:Str} (h:¬ (yj s).2.2=false) (hq:qAt (yj s).2.1<(yj s).2.1.length) (h2:(zE ((yj s).2.1.getD (qAt (yj s).2.1) ([],[])).2).2=false):zM kind s=(([],0),false):=by
  unfold zM;rw [if_neg h,if_pos hq,if_pos h2]
theorem pref_q {kind:Int} {s:Str} (h:¬ (yj s).2.2=false) (hq:qAt (yj s).2.1<(yj s).2.1.length) (h2:¬ (zE ((yj s).2.1.getD (qAt (yj s).2.1) ([],[])).2).2=false) :
    zM kind s=(((zH kind (yj s).1 ((yj s).2.1.take (qAt (yj s).2.1))).1,(((zE ((yj s).2.1.getD (qAt (yj s).2.1) ([],[])).2).1:Nat):Int)),(zH kind (yj s).1 ((yj s).2.1.take (qAt (yj s).2.1))).2):=by
  unfold zM;rw [if_neg h,if_pos hq,if_neg h2]
theorem pref_plain {kind:Int} {s:Str} (h:¬ (yj s).2.2=false) (hq:¬ qAt (yj s).2.1<(yj s).2.1.length):zM kind s=(((zH kind (yj s).1 (yj s).2.1).1,1000),(zH kind (yj s).1 (yj s).2.1).2):=by
  unfold zM;rw [if_neg h,if_neg hq]
end Go.Plain

namespace Go.Plain
open Go
set_option linter.unusedSimpArgs false
set_option linter.unusedVariables false

theorem split_more {X acc Y:List Str} {i:Nat} (h:i<X.length) (h3:¬ trim (X.getD i [])=[]) (e:acc++memG (X.drop i)=Y):acc++[trim (X.getD i [])]++memG (X.drop (i+1))=Y:=by
  have:=memG_step h e
  rwa [if_neg h3] at this
theorem split_less {X acc Y:List Str} {i:Nat} (h:i<X.length) (h3:trim (X.getD i [])=[]) (e:acc++memG (X.drop i)=Y):acc++memG (X.drop (i+1))=Y:=by
  have:=memG_step h e
  rwa [if_pos h3,List.append_nil] at this

/-! ### Tags -/
theorem sub_len {d:Bool} {m:Str} (h:m.length<1∨8<m.length):wd d m=false:=by
  unfold wd
  rcases h with h | h
  · have:m=[]:=List.length_eq_zero_iff.1 (by omega)
    simp [this]
  · rw [decide_eq_false (by omega:¬ m.length≤8),Bool.and_false]
theorem sub_ch {d:Bool} {m:Str} {k:Nat} (h:k<m.length) (h2:(alphaB (m.getD k 0)||(d&&digB (m.getD k 0)))=false):wd d m=false:=by
  unfold wd
  have:m.all (fun c=>alphaB c||(d&&digB c))=false:=by
    rw [List.all_eq_false]
    exact ⟨_,yD h,by rw [h2];simp⟩
  rw [this];rfl
theorem sub_good {d:Bool} {m:Str} (h:¬ m.length<1∧¬ 8<m.length) (h2:m.all (fun c=>alphaB c||(d&&digB c))=true):wd d m=true:=by
  unfold wd
  have:m≠[]:=fun e=>by rw [e] at h;simp at h
  rw [h2,decide_eq_true (by omega:m.length≤8),decide_eq_false this];rfl

/-! ### Quality values -/
def badQ2 (s:Str):Bool:=decide (s.length<1)||decide (5<s.length)||(!decide (s.getD 0 0=48)&&!decide (s.getD 0 0=49))||(decide (1<s.length)&&!decide (s.getD 1 0=46))
theorem badQ_eq (s:Str):badQ2 s=badQ s:=by
  unfold badQ2 badQ
  rw [show decide (s.length<1)=decide (s=[]) from decide_eq_decide.2 ⟨fun h=>List.length_eq_zero_iff.1 (by omega),fun h=>by rw [h];simp⟩]
theorem sumQ_two (s:Str):(s.getD 0 0-48).toNat*1000=sumQ s 2:=by
  rw [show (2:Nat)=1+1 from rfl,sumQ_one,show (1:Nat)=0+1 from rfl,sumQ_step (by omega),Nat.mul_comm]
  simp [sumQ,wq,digV]
theorem wq_div {i:Nat} (h:2≤i) (h2:i≤4):wq i / 10=wq (i+1):=by
  have:i=2∨i=3∨i=4:=by omega
  rcases this with rfl | rfl | rfl <;> rfl
theorem sumQ_at {s:Str} {i:Nat} (h0:0<s.length) (h:s.length≤i) (h2:i≤s.length∨i=2):sumQ s i=sumQ s s.length:=by
  rcases h2 with h2 | rfl
  · rw [show i=s.length by omega]
  · by_cases h3:s.length=2
    · rw [h3]
    · rw [show s.length=1 by omega];exact sumQ_one s
theorem dig_two (s:Str):((s.take 2).drop 2).all digB=true:=dig_one

/-! ### A member -/
theorem qAt_stop {l:List Prm} {i:Nat} (hi:i≤l.length) (h:¬ i<l.length∨(l.getD i ([],[])).1=[113]) (e:i+qAt (l.drop i)=qAt l):qAt l=i:=by
  by_cases h1:i<l.length
  · exact qAt_hit h1 (h.resolve_left (fun q=>q h1)) e
  · have:=qAt_le l
    omega
theorem mem_badq {kind:Int} {s:Str} {i:Nat} (h:(yj s).2.2=true) (e:qAt (yj s).2.1=i) (hi:i<(yj s).2.1.length) (h2:(zE ((yj s).2.1.getD i ([],[])).2).2=false):zM kind s=(([],0),false):=by
  subst e
  exact pref_badq (by rw [h];simp) hi h2
theorem mem_any {kind q:Int} {s:Str} {i:Nat} (h:(yj s).2.2=true) (e:qAt (yj s).2.1=i) (hq:(i<(yj s).2.1.length∧(zE ((yj s).2.1.getD i ([],[])).2).2=true∧q=(((zE ((yj s).2.1.getD i ([],[])).2).1:Nat):Int))∨(¬ i<(yj s).2.1.length∧q=1000)) :
    zM kind s=(((zH kind (yj s).1 (((yj s).2.1.take i).drop 0)).1,q),(zH kind (yj s).1 (((yj s).2.1.take i).drop 0)).2):=by
  subst e
  rw [List.drop_zero]
  rcases hq with ⟨a,b,rfl⟩ | ⟨a,rfl⟩
  · exact pref_q (by rw [h];simp) a (by rw [b];simp)
  · rw [z7 (s:=(yj s).2.1) (by omega)]
    exact pref_plain (by rw [h];simp) a
theorem ranged_1 {kind:Int} {v:Str} {ps:List Prm} (hk:kind=1):zH kind v ps=(YL ((yK v).1.1,(yK v).1.2.1,ps),(yK v).2):=if_pos hk
theorem take_no {α:Type} {X:List α} {i:Nat} (h:i≤X.length):decide (((X.take i).drop 0).length=0)=decide (i=0):=by
  rw [List.drop_zero,List.length_take,Nat.min_eq_left h]
theorem ranged_2 {kind:Int} {v:Str} {X:List Prm} {i:Nat} (hi:i≤X.length) (hk:kind=2):zH kind v ((X.take i).drop 0)=(canonical kind v,Z3 v&&decide (i=0)):=by
  unfold zH
  rw [if_neg (by omega),if_pos hk,take_no hi]
theorem ranged_3 {kind:Int} {v:Str} {X:List Prm} {i:Nat} (hi:i≤X.length) (h1:¬ kind=1) (h2:¬ kind=2):zH kind v ((X.take i).drop 0)=(canonical kind v,token v&&decide (i=0)):=by
  unfold zH
  rw [if_neg h1,if_neg h2,take_no hi]
theorem prefsF_length (kind:Int) (l:List Fld):(Zk kind l).1.length≤64:=by
  unfold Zk
  split
  · simp
  · exact Nat.le_trans (prefsM_length _ _) (Zi _)
end Go.Plain

namespace Go.Plain
open Go
set_option linter.unusedSimpArgs false
set_option linter.unusedVariables false

end Go.Plain

namespace Go.Plain
open Go
set_option linter.unusedSimpArgs false
set_option linter.unusedVariables false

def hasP (s p:Str):Bool:=decide (p.length≤s.length)&&decide (s.take p.length=p)
theorem hasP_iff {s p:Str}:hasP s p=true↔p <+: s:=by
  unfold hasP
  rw [Bool.and_eq_true,decide_eq_true_eq,decide_eq_true_eq,List.prefix_iff_eq_take]
  exact ⟨fun h=>h.2.symm,fun h=>⟨by rw [h,List.length_take];omega,h.symm⟩⟩
theorem cutAt_free:∀ (s cur:Str),(45:UInt8) ∉ cur→∀ x∈zK 45 cur s,(45:UInt8) ∉ x
  | [],cur,hc,x,hx=>by simp [zK] at hx;rw [hx];exact hc
  | b::r,cur,hc,x,hx=>by
    rw [zK] at hx
    by_cases hb:b=45
    · rw [if_pos hb] at hx
      rcases List.mem_cons.1 hx with rfl | hx
      · exact hc
      · exact cutAt_free r [] (by simp) x hx
    · rw [if_neg hb] at hx
      exact cutAt_free r (cur++[b]) (by simp [hc];exact fun e=>hb e.symm) x hx
theorem subt_free (s:Str):∀ x∈subt s,(45:UInt8) ∉ x:=cutAt_free s [] (by simp)
theorem cutAt_back:∀ (s cur:Str),(zK 45 cur s).flatMap (fun x=>x++[45])=cur++s++[45]
  | [],cur=>by simp [zK]
  | b::r,cur=>by
    rw [zK]
    by_cases hb:b=45
    · rw [if_pos hb,List.flatMap_cons,cutAt_back r [],hb];simp
    · rw [if_neg hb,cutAt_back r (cur++[b])];simp
theorem subt_back (s:Str):(subt s).flatMap (fun x=>x++[45])=s++[45]:=cutAt_back s []
theorem free_eq:∀ {x y u v:Str},(45:UInt8) ∉ x→(45:UInt8) ∉ y→(x++45::u) <+: (y++45::v)→x=y∧u <+: v
  | [],[],u,v,_,_,h=>⟨rfl,by simpa using h⟩
  | [],b::y,u,v,_,hy,h=>by
    simp only [List.nil_append,List.cons_append,List.cons_prefix_cons] at h
    exact absurd (by rw [← h.1];simp) hy
  | a::x,[],u,v,hx,_,h=>by
    simp only [List.nil_append,List.cons_append,List.cons_prefix_cons] at h
    exact absurd (by rw [h.1];simp) hx
  | a::x,b::y,u,v,hx,hy,h=>by
    simp only [List.cons_append,List.cons_prefix_cons] at h
    obtain ⟨e,h2⟩:=free_eq (x:=x) (y:=y) (fun q=>hx (by simp [q])) (fun q=>hy (by simp [q])) h.2
    exact ⟨by rw [h.1,e],h2⟩
theorem flat_prefix:∀ {X Y:List Str},(∀ x∈X,(45:UInt8) ∉ x)→(∀ y∈Y,(45:UInt8) ∉ y)→(X.flatMap (fun x=>x++[45]) <+: Y.flatMap (fun x=>x++[45])↔X <+: Y)
  | [],Y,_,_=>by simp
  | x::X,[],_,_=>by simp
  | x::X,y::Y,hX,hY=>by
    rw [List.flatMap_cons,List.flatMap_cons,List.append_assoc,List.append_assoc,List.singleton_append,List.singleton_append,List.cons_prefix_cons]
    constructor
    · intro h
      obtain ⟨e,h2⟩:=free_eq (hX x (by simp)) (hY y (by simp)) h
      exact ⟨e,(flat_prefix (fun z hz=>hX z (by simp [hz])) (fun z hz=>hY z (by simp [hz]))).1 h2⟩
    · rintro ⟨rfl,h⟩
      have:=(flat_prefix (fun z hz=>hX z (by simp [hz])) (fun z hz=>hY z (by simp [hz]))).2 h
      obtain ⟨t,e⟩:=this
      exact ⟨t,by rw [← e];simp⟩
theorem hasP_sub (s p:Str):hasP (s++[45]) (p++[45])=(subt p).isPrefixOf (subt s):=by
  rw [Bool.eq_iff_iff,hasP_iff,List.isPrefixOf_iff_prefix,← subt_back s,← subt_back p]
  exact flat_prefix (subt_free p) (subt_free s)
theorem lowerB_45 (b:UInt8):Vf b=45↔b=45:=by
  have:=all_u8 (fun b=>decide ((Vf b=45)↔b=45)) (by decide +kernel) b
  simpa using this
theorem cutAt_lower:∀ (s cur:Str),zK 45 (lower cur) (lower s)=(zK 45 cur s).map lower
  | [],cur=>by simp [zK,lower]
  | b::r,cur=>by
    have e:lower (b::r)=Vf b::lower r:=rfl
    rw [e,zK,zK]
    by_cases hb:b=45
    · rw [if_pos hb,if_pos ((lowerB_45 b).2 hb),List.map_cons,← cutAt_lower r []];rfl
    · rw [if_neg hb,if_neg (fun q=>hb ((lowerB_45 b).1 q)),← cutAt_lower r (cur++[b])]
      congr 1
      simp [lower]
theorem subt_lower (s:Str):subt (lower s)=(subt s).map lower:=cutAt_lower s []
theorem tagM_no {r t:Str} (h:Z3 r=false∨tagF t=false):ZO r t=-1:=if_pos h
theorem tagM_all {r t:Str} (h:¬ (Z3 r=false∨tagF t=false)) (h2:r=[42]):ZO r t=0:=by unfold ZO;rw [if_neg h,if_pos h2]
theorem tagM_pre {r t:Str} (h:¬ (Z3 r=false∨tagF t=false)) (h2:¬ r=[42]) (h3:hasP (lower t++[45]) (lower r++[45])=true):ZO r t=((List.count 45 r+1:Nat):Int):=by
  unfold ZO
  rw [if_neg h,if_neg h2,if_pos (by rw [← hasP_sub];exact h3)]
  unfold subt
  rw [w5]
theorem tagM_not {r t:Str} (h:¬ (Z3 r=false∨tagF t=false)) (h2:¬ r=[42]) (h3:hasP (lower t++[45]) (lower r++[45])=false):ZO r t=-1:=by
  unfold ZO
  rw [if_neg h,if_neg h2,if_neg (by rw [← hasP_sub,h3];simp)]
theorem map_take_step {A B:List Str} {i:Nat} (ha:i<A.length) (hb:i<B.length) (h:fold (A.getD i []) (B.getD i [])=true) (e:(A.take i).map lower=(B.take i).map lower):(A.take (i+1)).map lower=(B.take (i+1)).map lower:=by
  rw [List.take_succ_eq_append_getElem ha,List.take_succ_eq_append_getElem hb,List.map_append,List.map_append,e,← zw (dd:=[]) ha,← zw (dd:=[]) hb,List.map_cons,List.map_cons,fold_iff.1 h]
theorem tagR_all {r t:Str} {i:Nat} (h:¬ (Z3 r=false∨tagF t=false)) (h2:¬ r=[42]) (hi:(subt r).length≤i) (hb:i≤(subt t).length) (e:((subt r).take i).map lower=((subt t).take i).map lower):ZO r t=(((subt r).length:Nat):Int):=by
  unfold ZO
  rw [if_neg h,if_neg h2,if_pos]
  rw [List.isPrefixOf_iff_prefix,subt_lower,subt_lower,← z7 (s:=subt r) hi,e]
  exact List.IsPrefix.map _ (List.take_prefix i _)
theorem tagR_not {r t:Str} {i:Nat} (h:¬ (Z3 r=false∨tagF t=false)) (h2:¬ r=[42]) (hi:i<(subt r).length) (hb:i=(subt t).length∨fold ((subt r).getD i []) ((subt t).getD i [])=false) (hl:i≤(subt t).length):ZO r t=-1:=by
  unfold ZO
  rw [if_neg h,if_neg h2,if_neg]
  rw [List.isPrefixOf_iff_prefix,subt_lower,subt_lower]
  intro hp
  have hl2:=hp.length_le
  simp only [List.length_map] at hl2
  rcases hb with hb | hb
  · omega
  · have hi2:i<(subt t).length:=by omega
    have:=List.IsPrefix.getElem hp (i:=i) (by simpa using hi)
    simp only [List.getElem_map] at this
    rw [zw hi,zw hi2] at hb
    exact fold_false.1 hb this

/-! ### Matching in general -/
def YG (kind:Int) (r v:Str):Int :=
  if kind=1 then (if (yK r).2=false∨(y4 v).2=false then -1 else Zg (yK r).1 (y4 v).1)
  else if kind=2 then ZO r v
  else if kind=3∨kind=4 then (if (token r=false∨token v=false)∨v=[42] then -1 else Yd kind r v) else -1
section
variable {kind:Int} {r v:Str}
theorem mK1_no (hk:kind=1) (h:(yK r).2=false∨(y4 v).2=false):YG kind r v=-1:=by unfold YG;rw [if_pos hk,if_pos h]
theorem mK1_yes (hk:kind=1) (h:(yK r).2=true∧(y4 v).2=true):YG kind r v=Zg (yK r).1 (y4 v).1:=by unfold YG;rw [if_pos hk,if_neg (by rw [h.1,h.2];simp)]
theorem mK2 (h1:¬ kind=1) (hk:kind=2):YG kind r v=ZO r v:=by unfold YG;rw [if_neg h1,if_pos hk]
theorem mK3_no (h1:¬ kind=1) (h2:¬ kind=2) (hk:kind=3∨kind=4) (h:(token r=false∨token v=false)∨v=[42]):YG kind r v=-1:=by unfold YG;rw [if_neg h1,if_neg h2,if_pos hk,if_pos h]
theorem QS (h1:¬ kind=1) (h2:¬ kind=2) (hk:kind=3∨kind=4) (h:(token r=true∧token v=true)∧¬ v=[42]):YG kind r v=Yd kind r v:=by unfold YG;rw [if_neg h1,if_neg h2,if_pos hk,if_neg (by rw [h.1.1,h.1.2];simp [h.2])]
theorem mK5 (h1:¬ kind=1) (h2:¬ kind=2) (h3:¬ kind=3) (h4:¬ kind=4):YG kind r v=-1:=by unfold YG;rw [if_neg h1,if_neg h2,if_neg (by omega)]
end
end Go.Plain

namespace Go.Plain
open Go
set_option linter.unusedSimpArgs false
set_option linter.unusedVariables false

def digQ (q:Int):Str:=[UInt8.ofNat (((48:Nat):Int)+q / ((100:Nat):Int)).toNat,UInt8.ofNat (((48:Nat):Int)+(q / ((10:Nat):Int)) % ((10:Nat):Int)).toNat,UInt8.ofNat (((48:Nat):Int)+q % ((10:Nat):Int)).toNat]
def z48 (c:UInt8):Bool:=decide (c=48)
def fmtQ (q:Int):Str:=if q<0∨1000<q then [] else if q=0 then [48] else if q=1000 then [49] else [48,46]++YW z48 (digQ q)
/-- The last k digits. -/
def lastD (n:Int):Nat→Str
  | 0=>[]
  | k+1=>UInt8.ofNat (((48:Nat):Int)+(n / 10 ^ k) % ((10:Nat):Int)).toNat::lastD n k
/-! ### Joining -/
theorem joinS_next {sep:Str} {l:List Str} {i:Nat} (h0:0<i) (h:i<l.length):Yt sep (l.take (i+1))=(Yt sep (l.take i)++sep)++l.getD i []:=by
  cases l with
  | nil=>simp at h
  | cons x r =>
    obtain ⟨j,rfl⟩:∃ j,i=j+1:=⟨i-1,by omega⟩
    have hj:j<r.length:=by simpa using h
    rw [List.take_succ_cons,List.take_succ_cons,joinS_step hj]
    simp
theorem joinS_first {sep:Str} {l:List Str} (h:0<l.length):Yt sep (l.take 1)=l.getD 0 []:=by
  cases l with
  | nil=>simp at h
  | cons x r=>rfl
theorem joinS_zero {sep:Str} {l:List Str}:Yt sep (l.take 0)=[]:=rfl
theorem joinS_all {sep:Str} {l:List Str} {i:Nat} (h:l.length≤i):Yt sep (l.take i)=Yt sep l:=by rw [List.take_of_length_le h]
theorem tail_get {l:List Str} {i:Nat}:((l.take l.length).drop 1).getD i []=l.getD (i+1) []:=by
  rw [List.take_length,List.drop_one]
  cases l <;> simp
def memP (p:Prf):Str:=if p.2=1000 then p.1 else p.1++([59,113,61]++fmtQ p.2)
def fmtP (l:List Prf):Str:=Yt [44,32] (l.map memP)
def okR (p:Prf):Bool:=!decide (100<p.1.length)
def keepR (l:List Prf):Bool:=(l.take 21).all okR&&decide (l.length≤20)
end Go.Plain

namespace Go.Plain
open Go
set_option linter.unusedSimpArgs false
set_option linter.unusedVariables false

/-! ### Cutting at commas what was written -/
/-- A text that is one whole between commas. -/
def Whole (m:Str):Prop:=∀ cur r,YD 44 0 cur (m++r)=YD 44 0 (cur++m) r
theorem Whole.nil:Whole []:=fun cur r=>by simp
theorem joinS_flat (sep x:Str):∀ (r:List Str),Yt sep (x::r)=x++r.flatMap (fun y=>sep++y):=by
  intro r
  unfold Yt
  simp only
  induction r generalizing x with
  | nil=>simp
  | cons y r ih=>rw [List.foldl_cons,ih,List.flatMap_cons];simp
/-! ### One preference -/
def qName:Str:=[113]
def extra (q:Int):List Prm:=if q=1000 then [] else [(qName,fmtQ q)]
/-- What can be read back. -/
structure OkP (kind:Int) (p:Prf):Prop where
  ex:∃ (v:Str) (ps:List Prm) (n:Nat),Firm v∧(∀ x∈v,x≠34∧x≠59)∧(∀ x∈v,x≠34∧x≠44)∧(∀ q∈ps,Good q)∧(∀ q∈ps,q.1≠qName)∧p.1=wH v ps∧n≤1000∧p.2=(n:Int)∧zH kind v ps=(p.1,true)
/-! ### What is read is such -/
def langB (c:UInt8):Bool:=(alphaB c||digB c)||decide (c=45)
/-! ### How long it gets -/
theorem sumP_take (i:Nat):∀ l:List Prm,sumP (l.take i)≤sumP l:=fun l=>by
  have:sumP l=sumP (l.take i)+sumP (l.drop i):=by
    conv=>lhs;rw [← List.take_append_drop i l]
    unfold sumP
    rw [List.map_append,List.sum_append]
  omega
theorem ranged_length {kind:Int} {V:Str} {ps:List Prm}:(zH kind V ps).1.length≤2*V.length+8+2*sumP ps+4*ps.length:=by
  unfold zH
  split
  · have h1:=formatP_length (((yK V).1.1++[47])++(yK V).1.2.1) ps
    have h2:=Y7 V
    simp only [List.length_append,List.length_cons,List.length_nil] at h1
    show (wH (((yK V).1.1++[47])++(yK V).1.2.1) ps).length≤_
    omega
  · split
    · have:=Vx kind V;show (canonical kind V).length≤_;omega
    · have:=Vx kind V;show (canonical kind V).length≤_;omega
theorem pref_length (kind:Int) (s:Str):(zM kind s).1.1.length≤8*s.length+8:=by
  have a1:=zr s
  have a2:=WA s
  have a3:=parseP_sum s
  unfold zM
  split
  · simp
  · split
    · split
      · simp
      · have h1:=ranged_length (kind:=kind) (V:=(yj s).1) (ps:=(yj s).2.1.take (qAt (yj s).2.1))
        have h2:=sumP_take (qAt (yj s).2.1) (yj s).2.1
        have h3:((yj s).2.1.take (qAt (yj s).2.1)).length≤(yj s).2.1.length:=by rw [List.length_take];omega
        show (zH kind (yj s).1 ((yj s).2.1.take (qAt (yj s).2.1))).1.length≤_
        omega
    · have h1:=ranged_length (kind:=kind) (V:=(yj s).1) (ps:=(yj s).2.1)
      show (zH kind (yj s).1 (yj s).2.1).1.length≤_
      omega
theorem prefsF_short {kind:Int} {l:List Fld} {n:Nat} (h:∀ y∈l,y.1.length≤n∧y.2.length≤n):∀ x∈(Zk kind l).1,x.1.length≤8*n+8:=fun x hx=>by
  unfold Zk at hx
  split at hx
  · simp at hx
  · simp only at hx
    unfold wL at hx
    obtain ⟨y,hy,rfl⟩:=List.mem_map.1 hx
    obtain ⟨hy,_⟩:=List.mem_filter.1 hy
    obtain ⟨s,hs,rfl⟩:=List.mem_map.1 hy
    have h1:=pref_length kind s
    have h2:=YK (zY h (name:=zf kind)) s hs
    omega
theorem QW {n:Nat}:∀ {X:List Str},(∀ y∈X,y.length≤n)→(Yt [44,32] X).length≤X.length*(n+2)
  | [],_=>by simp [Yt]
  | x::r,h=>by
    rw [joinS_flat]
    have hx:=h x (by simp)
    have hr:∀ (r:List Str),(∀ y∈r,y.length≤n)→(r.flatMap (fun y=>[44,32]++y)).length≤r.length*(n+2):=by
      intro r
      induction r with
      | nil=>intro _;simp
      | cons y r ih =>
        intro h
        have h1:=ih (fun z hz=>h z (by simp [hz]))
        have h2:=h y (by simp)
        rw [List.flatMap_cons,List.length_append,List.length_cons (as:=r),Nat.succ_mul]
        simp only [List.length_append,List.length_cons,List.length_nil] at h1 ⊢
        omega
    have h3:=hr r (fun y hy=>h y (by simp [hy]))
    rw [List.length_append,List.length_cons,Nat.succ_mul]
    omega
end Go.Plain

namespace Go.Plain
open Go
set_option linter.unusedSimpArgs false
set_option linter.unusedVariables false

def sIdent:Str:=[105,100,101,110,116,105,116,121]
def W4 (kind:Int) (v:Str) (s:Int×Int) (p:Prf):Int×Int:=if s.1<YG kind p.1 v then (YG kind p.1 v,p.2) else s
def wb (kind:Int) (v:Str) (l:List Prf) (q0:Int):Int×Int:=l.foldl (W4 kind v) (-1,q0)
def zL (kind:Int) (l:List Prf) (present:Bool) (v:Str):Int :=
  if present=false then 1000 else if ((wb kind v l 0).1<0∧kind=4)∧fold v sIdent=true then 1 else (wb kind v l 0).2
section
variable {kind q0:Int} {v:Str} {l:List Prf} {i:Nat} {present:Bool}
theorem best_step (h:i<l.length):wb kind v (l.take (i+1)) q0=W4 kind v (wb kind v (l.take i) q0) (l.getD i ([],0)):=by
  unfold wb
  rw [List.take_succ_eq_append_getElem h,List.foldl_append,← zw (dd:=([],0)) h];rfl
theorem best_hit {b q:Int} (h:i<l.length) (e:(b,q)=wb kind v (l.take i) q0) (h2:b<YG kind (l.getD i ([],0)).1 v):(YG kind (l.getD i ([],0)).1 v,(l.getD i ([],0)).2)=wb kind v (l.take (i+1)) q0:=by
  rw [best_step h,← e];unfold W4;rw [if_pos h2]
theorem best_miss {b q:Int} (h:i<l.length) (e:(b,q)=wb kind v (l.take i) q0) (h2:¬ b<YG kind (l.getD i ([],0)).1 v):(b,q)=wb kind v (l.take (i+1)) q0:=by
  rw [best_step h,← e];unfold W4;rw [if_neg h2]
theorem best_end {b q:Int} (h:¬ i<l.length) (e:(b,q)=wb kind v (l.take i) q0):wb kind v l q0=(b,q):=by
  rw [e,List.take_of_length_le (by omega)]
theorem qual_no (h:present=false):zL kind l present v=1000:=if_pos h
theorem qual_one {b q:Int} (hp:present=true) (e:wb kind v l 0=(b,q)) (h:(b<0∧kind=4)∧fold v sIdent=true):zL kind l present v=1:=by
  unfold zL;rw [if_neg (by rw [hp];simp),if_pos (by rw [e];exact h)]
theorem qual_q {b q:Int} (hp:present=true) (e:wb kind v l 0=(b,q)) (h:¬ ((b<0∧kind=4)∧fold v sIdent=true)):zL kind l present v=q:=by
  unfold zL;rw [if_neg (by rw [hp];simp),if_neg (by rw [e];exact h),e]
theorem best_rel (q1:Int):(wb kind v l q0).1=(wb kind v l q1).1∧(-1≤(wb kind v l q0).1)∧((wb kind v l q0).1<0→(wb kind v l q0).2=q0)∧(0≤(wb kind v l q0).1→(wb kind v l q0).2=(wb kind v l q1).2):=by
  have key:∀ (l:List Prf) (s s':Int×Int),s.1=s'.1→-1≤s.1→(s.1<0→s.2=q0)→(0≤s.1→s.2=s'.2) →
      (l.foldl (W4 kind v) s).1=(l.foldl (W4 kind v) s').1∧(-1≤(l.foldl (W4 kind v) s).1)∧((l.foldl (W4 kind v) s).1<0→(l.foldl (W4 kind v) s).2=q0)∧(0≤(l.foldl (W4 kind v) s).1→(l.foldl (W4 kind v) s).2=(l.foldl (W4 kind v) s').2):=by
    intro l
    induction l with
    | nil=>intro s s' a b c d;exact ⟨a,b,c,d⟩
    | cons p l ih =>
      intro s s' a b c d
      rw [List.foldl_cons,List.foldl_cons]
      apply ih
      · unfold W4;rw [← a];split
        · rfl
        · exact a
      · unfold W4;split
        · simp only;omega
        · exact b
      · unfold W4;split
        · intro h;simp only at h;omega
        · exact c
      · unfold W4;rw [← a];split
        · intro _;rfl
        · exact d
  exact key l _ _ rfl (Int.le_refl _) (fun _=>rfl) (fun h=>by simp at h)
theorem qual_ref {b q:Int} (hp:present=true) (hq:q0=if kind=4∧fold v sIdent=true then 1 else 0) (e:wb kind v l q0=(b,q)):zL kind l present v=q:=by
  obtain ⟨a1,a2,a3,a4⟩:=best_rel (kind:=kind) (v:=v) (l:=l) (q0:=q0) 0
  obtain ⟨b1,b2,b3,b4⟩:=best_rel (kind:=kind) (v:=v) (l:=l) (q0:=0) 0
  rw [e] at a1 a2 a3 a4
  simp only at a1 a2 a3 a4
  unfold zL
  rw [if_neg (by rw [hp];simp)]
  by_cases hb:b<0
  · rw [a3 hb,hq]
    by_cases hk:kind=4∧fold v sIdent=true
    · rw [if_pos hk,if_pos ⟨⟨by omega,hk.1⟩,hk.2⟩]
    · rw [if_neg hk,if_neg (fun q=>hk ⟨q.1.2,q.2⟩),b3 (by omega)]
  · rw [if_neg (fun q=>by omega),a4 (by omega)]
end
/-! ### Rank -/
def YH (qs:List Int) (q:Int):Nat:=(qs.reverse.dropWhile (fun p=>decide (p<q))).length
theorem insPos_le (qs:List Int) (q:Int):YH qs q≤qs.length:=by
  unfold YH
  have:=(List.dropWhile_sublist (fun p=>decide (p<q)) (l:=qs.reverse)).length_le
  simpa using this
theorem insPos_back {qs:List Int} {q:Int} {k:Nat} (h0:0<k) (hk:k≤qs.length) (h:qs.getD (k-1) 0<q):YH (qs.take (k-1)) q=YH (qs.take k) q:=by
  obtain ⟨j,rfl⟩:∃ j,k=j+1:=⟨k-1,by omega⟩
  have hj:j<qs.length:=by omega
  rw [Nat.add_sub_cancel] at h ⊢
  unfold YH
  rw [List.take_succ_eq_append_getElem hj,List.reverse_append,List.reverse_singleton,List.singleton_append,List.dropWhile_cons,← zw (dd:=0) hj,if_pos (decide_eq_true h)]
theorem insPos_stop {qs:List Int} {q:Int} {k:Nat} (hk:k≤qs.length) (h:¬ 0<k∨¬ qs.getD (k-1) 0<q):YH (qs.take k) q=k:=by
  by_cases h0:0<k
  · obtain ⟨j,rfl⟩:∃ j,k=j+1:=⟨k-1,by omega⟩
    have hj:j<qs.length:=by omega
    have h2:=h.resolve_left (fun q=>q h0)
    rw [Nat.add_sub_cancel] at h2
    unfold YH
    rw [List.take_succ_eq_append_getElem hj,List.reverse_append,List.reverse_singleton,List.singleton_append,List.dropWhile_cons,← zw (dd:=0) hj,if_neg (by rw [decide_eq_false h2];simp)]
    simp;omega
  · obtain rfl:k=0:=by omega
    simp [YH]
def Vo (kind:Int) (l:List Prf) (present:Bool) (s:List Str×List Int) (v:Str):List Str×List Int :=
  if zL kind l present v≤0 then s else (s.1.take (YH s.2 (zL kind l present v))++[v]++s.1.drop (YH s.2 (zL kind l present v)),s.2.take (YH s.2 (zL kind l present v))++[zL kind l present v]++s.2.drop (YH s.2 (zL kind l present v)))
def ZY (kind:Int) (l:List Prf) (present:Bool) (vs:List Str):List Str×List Int:=vs.foldl (Vo kind l present) ([],[])
section
variable {kind:Int} {l:List Prf} {present:Bool} {vs:List Str} {i:Nat} {out:List Str} {qs:List Int}
theorem rank_step (h:i<vs.length):ZY kind l present (vs.take (i+1))=Vo kind l present (ZY kind l present (vs.take i)) (vs.getD i []):=by
  unfold ZY
  rw [List.take_succ_eq_append_getElem h,List.foldl_append,← zw (dd:=[]) h];rfl
theorem rank_skip (h:i<vs.length) (e:(out,qs)=ZY kind l present (vs.take i)) (h2:zL kind l present (vs.getD i [])≤0):(out,qs)=ZY kind l present (vs.take (i+1)):=by
  rw [rank_step h,← e];unfold Vo;rw [if_pos h2]
theorem rank_put {k:Nat} (h:i<vs.length) (e:(out,qs)=ZY kind l present (vs.take i)) (h2:¬ zL kind l present (vs.getD i [])≤0) (hk:YH qs (zL kind l present (vs.getD i []))=k) :
    (out.take k++[vs.getD i []]++out.drop k,qs.take k++[zL kind l present (vs.getD i [])]++qs.drop k)=ZY kind l present (vs.take (i+1)):=by
  rw [rank_step h,← e];unfold Vo;rw [if_neg h2];simp only;rw [hk]
theorem rank_end (h:¬ i<vs.length) (e:(out,qs)=ZY kind l present (vs.take i)):out=(ZY kind l present vs).1:=by
  rw [List.take_of_length_le (by omega)] at e;rw [← e]
end
def okS (s:Str):Bool:=!decide (100<s.length)
def Wm (l:List Str):Bool:=(l.take 21).all okS&&decide (l.length≤20)
theorem keepS_len {l:List Str} (h:Wm l=true):l.length≤20:=by
  unfold Wm at h;rw [Bool.and_eq_true,decide_eq_true_eq] at h;exact h.2
theorem keepS_mem {l:List Str} (h:Wm l=true):∀ x∈l,x.length≤100:=fun x hx=>by
  have hl:=keepS_len h
  unfold Wm at h
  rw [Bool.and_eq_true,z7 (s:=l) (by omega)] at h
  have:=List.all_eq_true.1 h.1 x hx
  unfold okS at this
  simp at this;omega
end Go.Plain
