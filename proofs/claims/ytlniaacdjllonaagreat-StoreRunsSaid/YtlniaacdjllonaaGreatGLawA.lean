/-
  Plain functions on bytes: lower case,content codings. No program in sight.
  Plain functions on bytes: tokens,text,blanks,positions,field lines. No program in sight.
  Plain laws of field lines. No program in sight.
  Plain laws of lists of fields. No program in sight.
  Plain laws of removing and setting fields. No program in sight.
  Plain functions of values with parameters: cutting,quoting,reading,writing;and their laws. No program in sight.
  Plain laws of writing parameters,and of reading back what was written. No program in sight.
  Plain functions of media types and ranges. No program in sight.
  Plain laws: what is written is read back;blanks do not matter;a media type matches itself. No program in sight.
  Plain laws: how long what is written gets. No program in sight.
  Plain functions of lists of members,of quality values,and of language tags. No program in sight.
  Plain laws of splitting lists,of cutting at a byte,of language tags,of quality values,and of preferences. No program in sight.
  Plain laws of the second way to read preferences. No program in sight.
  Plain law: the preferences of a request do not hang on how members lie on lines,nor on blanks around them. No program in sight.
  Plain laws of matching language tags,and of matching ranges in general. No program in sight.
  Plain laws of writing quality values and of joining. No program in sight.
  Plain law: preferences,written as a field,are read back. No program in sight.
  Plain functions and laws of quality and rank. No program in sight.
-/
import Derived.WalkKit
import Derived.Lib.Bytealg
namespace Go.Plain

abbrev Str:=List UInt8

theorem all_u8 (p:UInt8→Bool) (h:(List.range 256).all (fun n=>p (UInt8.ofNat n))=true) (c:UInt8):p c=true:=by
  have:=List.all_eq_true.1 h c.toNat (by simpa using c.toNat_lt)
  simpa using this

/-! ### Lower case -/
def lowerB (c:UInt8):UInt8:=bif decide (65≤c)&&decide (c≤90) then c+32 else c
def lower (s:Str):Str:=s.map lowerB

@[simp] theorem lower_length (s:Str):(lower s).length=s.length:=by simp [lower]

/-- After i rounds. -/
def z7 (s:Str) (i:Nat):Str:=lower (s.take i)++s.drop i
theorem lowerTo_zero (s:Str):z7 s 0=s:=by simp [z7,lower]
theorem ZG (s:Str) (i:Nat):(z7 s i).length=s.length:=by simp [z7];omega
theorem lowerTo_end (s:Str) (i:Nat) (h:s.length≤i):z7 s i=lower s:=by simp [z7,List.take_of_length_le h,List.drop_of_length_le h]
theorem lowerTo_get (s:Str) (i:Nat) (h:i<s.length):(z7 s i).getD i 0=s.getD i 0:=by
  have:(lower (s.take i)).length=i:=by simp;omega
  simp only [z7,List.getD_eq_getElem?_getD]
  rw [List.getElem?_append_right (by omega),this,Nat.sub_self,List.getElem?_drop,Nat.add_zero]
theorem lowerTo_succ (s:Str) (i:Nat) (h:i<s.length):z7 s (i+1)=(z7 s i).set i (lowerB (s.getD i 0)):=by
  have hl:(lower (s.take i)).length=i:=by simp;omega
  rw [z7,z7,List.set_append_right _ _ (by omega),hl,Nat.sub_self,List.drop_eq_getElem_cons h,List.set_cons_zero,List.take_succ_eq_append_getElem h]
  simp only [lower,List.map_append,List.map_cons,List.map_nil,List.getD_eq_getElem?_getD,List.getElem?_eq_getElem h,Option.getD_some,List.append_assoc,List.cons_append,List.nil_append]
theorem lowerTo_hit (s:Str) (i:Nat) (h:i<s.length) (h1:65≤s.getD i 0) (h2:s.getD i 0≤90) (d:UInt8) (hd:d=s.getD i 0+32):(z7 s i).set i d=z7 s (i+1):=by
  rw [lowerTo_succ s i h,hd]
  unfold lowerB
  rw [show (decide (65≤s.getD i 0)&&decide (s.getD i 0≤90))=true from by rw [Bool.and_eq_true,decide_eq_true_eq,decide_eq_true_eq];exact ⟨h1,h2⟩]
  rfl
theorem lowerTo_miss (s:Str) (i:Nat) (h:i<s.length) (h1:¬ (65≤s.getD i 0∧s.getD i 0≤90)):z7 s (i+1)=z7 s i:=by
  rw [lowerTo_succ s i h]
  have:lowerB (s.getD i 0)=s.getD i 0:=by
    unfold lowerB
    rw [show (decide (65≤s.getD i 0)&&decide (s.getD i 0≤90))=false from by rw [← Bool.not_eq_true];simpa using h1]
    rfl
  rw [this,← lowerTo_get s i h]
  have hi:i<(z7 s i).length:=by rw [ZG];exact h
  rw [List.getD_eq_getElem?_getD,List.getElem?_eq_getElem hi]
  simp
theorem lowerTo_hit' (s:Str) (i:Nat) (h:i<s.length) (h1:65≤(z7 s i).getD i 0) (h2:(z7 s i).getD i 0≤90) (d:UInt8) (hd:d=(z7 s i).getD i 0+32):(z7 s i).set i d=z7 s (i+1):=by
  rw [lowerTo_get s i h] at h1 h2 hd
  exact lowerTo_hit s i h h1 h2 d hd
theorem lowerTo_miss' (s:Str) (i:Nat) (h:i<s.length) (h1:¬ 65≤(z7 s i).getD i 0∨¬ (z7 s i).getD i 0≤90):z7 s (i+1)=z7 s i:=by
  rw [lowerTo_get s i h] at h1
  exact lowerTo_miss s i h (fun h=>by rcases h1 with h1 | h1;exact h1 h.1;exact h1 h.2)
theorem add97 (c:UInt8):c+97-65=c+32:=by
  have:=all_u8 (fun c=>decide (c+97-65=c+32)) (by decide +kernel) c
  exact of_decide_eq_true this

/-! ### Content codings -/
def sGzip:Str:=[103,122,105,112]
def WK:Str:=[120,45,103,122,105,112]
def Z3:Str:=[99,111,109,112,114,101,115,115]
def ZH:Str:=[120,45,99,111,109,112,114,101,115,115]

/-- coding.Canonical. -/
def canonical (kind:Int) (s:Str):Str :=
  if kind=4 then (if lower s=WK then sGzip else if lower s=ZH then Z3 else lower s) else lower s
def matchCoding (kind:Int) (r v:Str):Int:=if r=[42] then 0 else if canonical kind r=canonical kind v then 1 else -1

end Go.Plain

namespace Go.Plain
set_option linter.unusedSimpArgs false

/-! ### Bytes -/
def signs:Str:=[33,35,36,37,38,39,42,43,45,46,94,95,96,124,126]
def tokB (c:UInt8):Bool:=signs.any (fun x=>decide (x=c))||(decide (48≤c)&&decide (c≤57)||decide (65≤c)&&decide (c≤90)||decide (97≤c)&&decide (c≤122))
def wf (c:UInt8):Bool:=decide (c=9)||(decide (32≤c)&&decide (c≤126))||decide (128≤c)
def Zz (c:UInt8):Bool:=decide (c=32)||decide (c=9)

theorem textB_alt (c:UInt8):(decide (c<32)&&!decide (c=9)||decide (c=127))=!wf c:=by
  simpa using all_u8 (fun c=>decide ((decide (c<32)&&!decide (c=9)||decide (c=127))=!wf c)) (by decide +kernel) c
theorem tokB_alt (c:UInt8):(decide (97≤c)&&decide (c≤122)||decide (65≤c)&&decide (c≤90)||decide (48≤c)&&decide (c≤57)||signs.any (fun x=>decide (x=c)))=tokB c:=by
  simpa using all_u8 (fun c=>decide ((decide (97≤c)&&decide (c≤122)||decide (65≤c)&&decide (c≤90)||decide (48≤c)&&decide (c≤57)||signs.any (fun x=>decide (x=c)))=tokB c)) (by decide +kernel) c

/-! ### Loops over all elements,over any -/
section all
variable {α:Type} {p:α→Bool} {s:List α} {dd:α}
theorem Y6 {i:Nat} (h:i<s.length):s.getD i dd=s[i]:=by rw [List.getD_eq_getElem?_getD,List.getElem?_eq_getElem h];rfl
theorem qr {i:Nat} (h:i<s.length) (h1:(s.take i).all p=true) (h2:p (s.getD i dd)=true):(s.take (i+1)).all p=true:=by
  rw [List.take_succ_eq_append_getElem h,List.all_append,h1,← Y6 (dd:=dd) h]
  simp only [List.all_cons,List.all_nil,h2,Bool.and_true]
theorem all_miss {i:Nat} (h:i<s.length) (h2:p (s.getD i dd)=false):s.all p=false:=by
  rw [Y6 h] at h2
  rw [← Bool.not_eq_true,List.all_eq_true]
  intro h3
  rw [h3 _ (List.getElem_mem h)] at h2
  cases h2
theorem all_end {i:Nat} (h:s.length≤i) (h1:(s.take i).all p=true):s.all p=true:=by rwa [List.take_of_length_le h] at h1
theorem ZO {i:Nat} (h:i<s.length) (h1:(s.take i).any p=false) (h2:p (s.getD i dd)=false):(s.take (i+1)).any p=false:=by
  rw [List.take_succ_eq_append_getElem h,List.any_append,h1,← Y6 (dd:=dd) h]
  simp only [List.any_cons,List.any_nil,h2,Bool.or_false]
theorem any_hit {i:Nat} (h:i<s.length) (h2:p (s.getD i dd)=true):s.any p=true:=by
  rw [Y6 h] at h2
  rw [List.any_eq_true]
  exact ⟨_,List.getElem_mem h,h2⟩
theorem wI {i:Nat} (h:s.length≤i) (h1:(s.take i).any p=false):s.any p=false:=by rwa [List.take_of_length_le h] at h1
end all

def token (s:Str):Bool:=s.all tokB&&!decide (s=[])
def text (s:Str):Bool:=s.all wf

/-! ### Blanks -/
theorem dw_nil {p:UInt8→Bool}:∀ {l:Str},l.dropWhile p=[]↔∀ x∈l,p x=true
  | []=>by simp
  | c::l=>by
    rw [List.dropWhile_cons]
    cases h:p c with
    | true=>rw [if_pos rfl,dw_nil (l:=l)];simp [h]
    | false=>simp [h]
section trim
variable (p:UInt8→Bool)
def Zj (s:Str):Str:=s.dropWhile p
def YT (s:Str):Str:=(s.reverse.dropWhile p).reverse
variable {p}
theorem trimL_step {s:Str} (h:0<s.length) (h2:p (s.getD 0 0)=true):Zj p (s.drop 1)=Zj p s:=by
  cases s with
  | nil=>simp at h
  | cons c s=>simp at h2;simp [Zj,List.dropWhile_cons,h2]
theorem trimL_end {s:Str} (h:s.length=0∨p (s.getD 0 0)=false):Zj p s=s:=by
  cases s with
  | nil=>rfl
  | cons c s=>simp at h;simp [Zj,List.dropWhile_cons,h]
theorem rev_of {s:Str} (h:0<s.length):s.reverse=s.getD (s.length-1) 0::(s.take (s.length-1)).reverse:=by
  have:s=s.take (s.length-1)++[s.getD (s.length-1) 0]:=by
    rw [Y6 (by omega)]
    conv=>lhs;rw [← List.take_append_drop (s.length-1) s]
    congr 1
    rw [List.drop_eq_getElem_cons (by omega),List.drop_of_length_le (by omega)]
  conv=>lhs;rw [this]
  simp
theorem trimR_step {s:Str} (h:0<s.length) (h2:p (s.getD (s.length-1) 0)=true):YT p (s.take (s.length-1))=YT p s:=by
  unfold YT
  rw [rev_of h,List.dropWhile_cons,if_pos h2]
theorem Wc {s:Str} (h:s.length=0∨p (s.getD (s.length-1) 0)=false):YT p s=s:=by
  rcases Nat.eq_zero_or_pos s.length with h0 | h0
  · rw [List.length_eq_zero_iff] at h0;subst h0;rfl
  · have h2:p (s.getD (s.length-1) 0)=false:=by rcases h with h | h;omega;exact h
    unfold YT
    rw [rev_of h0,List.dropWhile_cons,if_neg (by rw [h2];simp),← rev_of h0,List.reverse_reverse]
theorem trimL_length (s:Str):(Zj p s).length≤s.length:=(List.dropWhile_sublist p).length_le
theorem trimR_length (s:Str):(YT p s).length≤s.length:=by
  unfold YT
  rw [List.length_reverse]
  have:=(List.dropWhile_sublist p (l:=s.reverse)).length_le
  simpa using this
theorem trimL_append_all {a b:Str} (h:a.all p=true):Zj p (a++b)=Zj p b:=by
  unfold Zj
  rw [List.dropWhile_append]
  have:a.dropWhile p=[]:=by
    rw [dw_nil]
    exact fun x hx=>List.all_eq_true.1 h x hx
  rw [this];rfl
theorem split_right (s:Str):∃ r:Str,s=YT p s++r∧r.all p=true∧(YT p s=[]∨p ((YT p s).getD ((YT p s).length-1) 0)=false):=by
  induction hn:s.length using Nat.strongRecOn generalizing s with
  | _ n ih =>
    by_cases h:0<s.length∧p (s.getD (s.length-1) 0)=true
    · obtain ⟨h1,h2⟩:=h
      obtain ⟨r,e,hr,hk⟩:=ih (s.take (s.length-1)).length (by rw [List.length_take];omega) _ rfl
      rw [trimR_step h1 h2] at e hk
      refine ⟨r++[s.getD (s.length-1) 0],?_,by rw [List.all_append,hr];simpa using h2,hk⟩
      rw [← List.append_assoc,← e,← List.reverse_inj,rev_of h1]
      simp
    · have h':s.length=0∨p (s.getD (s.length-1) 0)=false:=by
        rcases Nat.eq_zero_or_pos s.length with h0 | h0
        · exact .inl h0
        · exact .inr (by rw [← Bool.not_eq_true];exact fun h2=>h ⟨h0,h2⟩)
      refine ⟨[],by rw [Wc h'];simp,rfl,?_⟩
      rw [Wc h']
      exact h'.imp List.length_eq_zero_iff.1 id
theorem trimR_all {s:Str} (h:s.all p=true):YT p s=[]:=by
  unfold YT
  rw [List.reverse_eq_nil_iff,dw_nil]
  exact fun x hx=>List.all_eq_true.1 h x (by simpa using hx)
theorem trimR_eq {a r:Str} (hr:r.all p=true) (ha:a=[]∨p (a.getD (a.length-1) 0)=false):YT p (a++r)=a:=by
  have e:YT p (a++r)=YT p a:=by
    unfold YT
    rw [List.reverse_append,List.dropWhile_append]
    have:r.reverse.dropWhile p=[]:=by
      rw [dw_nil]
      exact fun x hx=>List.all_eq_true.1 hr x (by simpa using hx)
    rw [this];rfl
  rw [e]
  exact Wc (ha.imp (fun h=>by rw [h];rfl) id)
/-- From the left or from the right first: the same. -/
theorem trim_comm (s:Str):Zj p (YT p s)=YT p (Zj p s):=by
  obtain ⟨r,e,hr,hk⟩:=split_right (p:=p) s
  rcases Decidable.em ((YT p s).all p=true) with ha | ha
  · have hs:s.all p=true:=by rw [e,List.all_append,ha,hr];rfl
    have h1:YT p s=[]:=trimR_all hs
    have h2:Zj p s=[]:=by unfold Zj;rw [dw_nil];exact fun x hx=>List.all_eq_true.1 hs x hx
    rw [h1,h2];rfl
  · have hd:Zj p s=Zj p (YT p s)++r:=by
      conv=>lhs;rw [e]
      unfold Zj
      rw [List.dropWhile_append,if_neg]
      intro h
      apply ha
      rw [List.isEmpty_iff,dw_nil] at h
      exact List.all_eq_true.2 h
    rw [hd,trimR_eq hr]
    rcases hk with hk | hk
    · exact absurd (by rw [hk];rfl) ha
    · right
      have hne:Zj p (YT p s)≠[]:=by
        intro h
        unfold Zj at h
        rw [dw_nil] at h
        exact ha (List.all_eq_true.2 h)
      obtain ⟨q,hq⟩:=List.dropWhile_suffix p (l:=YT p s)
      have hl:0<(Zj p (YT p s)).length:=List.length_pos_iff.2 hne
      have:(Zj p (YT p s)).getD ((Zj p (YT p s)).length-1) 0=(YT p s).getD ((YT p s).length-1) 0:=by
        conv=>rhs;rw [← hq]
        rw [List.getD_eq_getElem?_getD,List.getD_eq_getElem?_getD]
        show _=((q++Zj p (YT p s))[(q++Zj p (YT p s)).length-1]?).getD 0
        rw [List.getElem?_append_right (by rw [List.length_append];omega)]
        congr 2
        rw [List.length_append];omega
      rw [this];exact hk
end trim

def trim (s:Str):Str:=Zj Zz (YT Zz s)
theorem trim_alt (s:Str):YT Zz (Zj Zz s)=trim s:=(trim_comm s).symm
theorem Yu (s:Str):(trim s).length≤s.length:=Nat.le_trans (trimL_length _) (trimR_length _)

/-- The set of some bytes. -/
def wK (l:Str):List Bool:=l.foldl (fun a c=>a.set c.toNat true) (List.replicate 256 false)
theorem Zk (l:Str):(wK l).length=256:=by
  unfold wK
  suffices ∀ (a:List Bool),a.length=256→(l.foldl (fun a c=>a.set c.toNat true) a).length=256 from this _ (List.length_replicate ..)
  induction l with
  | nil=>intro a h;exact h
  | cons c l ih=>intro a h;exact ih _ (by simpa using h)
theorem setOf_step {l:Str} {i:Nat} (h:i<l.length):(wK (l.take i)).set (l.getD i 0).toNat true=wK (l.take (i+1)):=by
  unfold wK
  rw [List.take_succ_eq_append_getElem h,List.foldl_append,Y6 h];rfl
theorem setOf_blank (c:UInt8):(wK [32,9]).getD c.toNat false=Zz c:=by
  simpa using all_u8 (fun c=>decide ((wK [32,9]).getD c.toNat false=Zz c)) (by decide +kernel) c

/-! ### Positions -/
def pos (s:Str) (c:UInt8):Nat:=s.findIdx (fun x=>decide (x=c))
def posF (s:Str) (c:UInt8) (k:Nat):Nat:=k+(s.drop k).findIdx (fun x=>decide (x=c))
def idxF (s:Str) (c:UInt8) (k:Nat):Int:=if posF s c k<s.length then (posF s c k:Int) else -1
def idx (s:Str) (c:UInt8):Int:=if pos s c<s.length then (pos s c:Int) else -1
theorem posF_zero (s:Str) (c:UInt8):posF s c 0=pos s c:=by simp [posF,pos]
theorem Wg (s:Str) (c:UInt8):idxF s c 0=idx s c:=by simp [idxF,idx,posF_zero]
theorem posF_hit {s:Str} {c:UInt8} {k:Nat} (h:k<s.length) (h2:s.getD k 0=c):posF s c k=k:=by
  rw [Y6 h] at h2
  unfold posF
  rw [List.drop_eq_getElem_cons h,List.findIdx_cons]
  simp [h2]
theorem posF_miss {s:Str} {c:UInt8} {k:Nat} (h:k<s.length) (h2:¬ s.getD k 0=c):posF s c (k+1)=posF s c k:=by
  rw [Y6 h] at h2
  unfold posF
  rw [List.drop_eq_getElem_cons h,List.findIdx_cons]
  simp [h2];omega
theorem posF_end {s:Str} {c:UInt8} {k:Nat} (h:s.length≤k):¬ posF s c k<s.length:=by unfold posF;omega
theorem pos_le (s:Str) (c:UInt8):pos s c≤s.length:=List.findIdx_le_length
theorem idx_nonneg {s:Str} {c:UInt8} (h:0≤idx s c):idx s c=((pos s c:Nat):Int)∧pos s c<s.length:=by
  unfold idx at *
  split at h <;> simp_all
theorem idx_neg {s:Str} {c:UInt8} (h:idx s c<0):¬ pos s c<s.length:=by
  unfold idx at h
  split at h <;> omega
theorem pos_none {s:Str} {c:UInt8} (h:¬ 0≤idx s c):pos s c=s.length:=by
  have:=pos_le s c
  unfold idx at h
  split at h <;> omega
theorem idx_found {s:Str} {c:UInt8} (h:pos s c<s.length):idx s c=((pos s c:Nat):Int):=by rw [idx,if_pos h]
theorem idx_none {s:Str} {c:UInt8} (h:¬ pos s c<s.length):idx s c=-1:=by rw [idx,if_neg h]
theorem indexByte_eq (s:Str) (c:UInt8):Lib.indexByte s c=idx s c:=by
  unfold idx pos
  induction s with
  | nil=>rfl
  | cons b s ih =>
    rw [Lib.indexByte,ih,List.findIdx_cons]
    by_cases h:b=c
    · simp [h]
    · simp [h]
      split <;> rename_i h1
      · simp
      · simp
theorem pos_self (c:UInt8):idx [c] c=0:=by simp [idx,pos,List.findIdx_cons]

/-! ### Field lines -/
def lineOf (f:Str×Str):Str:=if f.2=[] then f.1++[58] else f.1++[58,32]++f.2
def validF (f:Str×Str):Bool:=token f.1&&text f.2&&decide (trim f.2=f.2)&&decide ((lineOf f).length≤2000)
def formatF (f:Str×Str):Str:=if validF f=true then lineOf f else []
def parseF (s:Str):(Str×Str)×Nat :=
  if 2000<s.length then (([],[]),4)
  else if ¬ pos s 58<s.length∨token (s.take (pos s 58))=false∨text (s.drop (pos s 58+1))=false then (([],[]),1)
  else if validF (s.take (pos s 58),trim (s.drop (pos s 58+1)))=true then ((s.take (pos s 58),trim (s.drop (pos s 58+1))),0)
  else (([],[]),4)
end Go.Plain

namespace Go.Plain
set_option linter.unusedSimpArgs false

end Go.Plain

namespace Go.Plain
set_option linter.unusedSimpArgs false

abbrev Fld:=Str×Str
def fold (a b:Str):Bool:=decide (a.length=b.length)&&decide (lower a=lower b)
def okF (f:Fld):Bool:=!(decide (300<f.1.length)||decide (300<f.2.length))
def keepF (l:List Fld):Bool:=(l.take 71).all okF&&decide (l.length≤70)
theorem keep_end {α:Type} {p:α→Bool} {l:List α} {i m:Nat} (hi:i≤m) (h:¬ i<l.length∨¬ i<m) (h1:(l.take i).all p=true):(l.take m).all p=true:=by
  rcases h with h | h
  · rw [List.take_of_length_le (by omega)] at h1 ⊢;exact h1
  · rw [show m=i by omega];exact h1
theorem WX {α:Type} {p:α→Bool} {l:List α} {i m:Nat} {dd:α} (hm:i<m) (hi:i<l.length) (h:p (l.getD i dd)=false):(l.take m).all p=false:=by
  refine all_miss (i:=i) (dd:=dd) (by rw [List.length_take];omega) ?_
  rw [List.getD_eq_getElem?_getD,List.getElem?_take,if_pos hm,← List.getD_eq_getElem?_getD]
  exact h
theorem keepF_len {l:List Fld} (h:keepF l=true):l.length≤70:=by
  unfold keepF at h
  simp only [Bool.and_eq_true,decide_eq_true_eq] at h
  exact h.2
theorem keepF_mem {l:List Fld} (h:keepF l=true):∀ x∈l,x.1.length≤300∧x.2.length≤300:=fun x hx=>by
  have hl:=keepF_len h
  unfold keepF at h
  simp only [Bool.and_eq_true] at h
  have h1:=h.1
  rw [List.take_of_length_le (by omega)] at h1
  have:=List.all_eq_true.1 h1 x hx
  unfold okF at this
  simp at this
  omega

theorem qu {α:Type} {a b:List α} {i:Nat} {dd:α} (ha:i<a.length) (hb:i<b.length) (h:a.take i=b.take i) (he:a.getD i dd=b.getD i dd):a.take (i+1)=b.take (i+1):=by
  rw [List.take_succ_eq_append_getElem ha,List.take_succ_eq_append_getElem hb,h,← Y6 (dd:=dd) ha,← Y6 (dd:=dd) hb,he]

def getF (l:List Fld) (name:Str):List Str:=(l.filter fun f=>fold f.1 name).map (·.2)
def namedB (nm:Str) (f:Fld):Bool:=decide (f.1.length=nm.length)&&decide (lower f.1=nm)
theorem yK {α:Type} {l:List α} {i:Nat} {dd:α} (h:i<l.length):l.getD i dd∈l:=by rw [Y6 h];exact List.getElem_mem h
end Go.Plain

namespace Go.Plain
set_option linter.unusedSimpArgs false
set_option linter.unusedVariables false

theorem fold_iff {a b:Str}:fold a b=true↔lower a=lower b:=by
  unfold fold
  simp only [Bool.and_eq_true,decide_eq_true_eq]
  exact ⟨fun h=>h.2,fun h=>⟨by have:=congrArg List.length h;simpa using this,h⟩⟩
theorem fold_false {a b:Str}:fold a b=false↔lower a≠lower b:=by
  rw [← Bool.not_eq_true,fold_iff]
theorem Y8 {α:Type} {l:List α} {i:Nat} {dd:α} (h:i<l.length):l.drop i=l.getD i dd::l.drop (i+1):=by
  rw [List.drop_eq_getElem_cons h,List.getD_eq_getElem?_getD,List.getElem?_eq_getElem h];rfl

def removeF (l:List Fld) (name:Str):List Fld:=l.filter fun f=>!fold f.1 name
def setGo (name value:Str):Bool→List Fld→List Fld
  | d,[]=>bif d then [] else [(name,value)]
  | d,f::r=>bif fold f.1 name then (bif d then setGo name value d r else (f.1,value)::setGo name value true r) else f::setGo name value d r
def setF (l:List Fld) (name value:Str):List Fld:=setGo name value false l

section
variable {l acc:List Fld} {name value:Str} {i:Nat} {d:Bool} {dd:Fld} {X:List Fld}
end

end Go.Plain

namespace Go.Plain
set_option linter.unusedSimpArgs false
set_option linter.unusedVariables false

abbrev Prm:=Str×Str

/-! ### Cutting at a separator outside quotes -/
def YY (c:UInt8):Nat→Str→Str→List Str
  | _,cur,[]=>[cur]
  | st,cur,b::r =>
    if st=2 then YY c 1 (cur++[b]) r
    else if st=1 then (if b=92 then YY c 2 (cur++[b]) r else if b=34 then YY c 0 (cur++[b]) r else YY c 1 (cur++[b]) r)
    else (if b=34 then YY c 1 (cur++[b]) r else if b=c then cur::YY c 0 [] r else YY c 0 (cur++[b]) r)
def cutF (s:Str) (c:UInt8):List Str:=YY c 0 [] s
def stq (q:Bool):Nat:=bif q then 1 else 0

theorem qg {s:Str} {i fr:Nat} (h:i<s.length) (hf:fr≤i):(s.take (i+1)).drop fr=(s.take i).drop fr++[s.getD i 0]:=by
  rw [List.take_succ_eq_append_getElem h,List.drop_append_of_le_length (by simp;omega),Y6 h]
theorem qW {α:Type} {s:List α} {i:Nat} (h:s.length≤i):s.take i=s:=List.take_of_length_le h

section
variable {s:Str} {i fr:Nat} {c:UInt8} {q:Bool} {acc X:List Str}
theorem cut_esc (h:i<s.length) (hf:fr≤i) (hq:q=true) (hb:s.getD i 0=92) (e:acc++YY c (stq q) ((s.take i).drop fr) (s.drop i)=X) :
    acc++YY c (stq q) ((s.take (i+1+1)).drop fr) (s.drop (i+1+1))=X:=by
  subst hq
  rw [Y8 (dd:=0) h,hb] at e
  simp only [stq,cond_true,YY] at e ⊢
  simp only [Nat.one_ne_zero,if_false,if_true,Nat.reduceEqDiff] at e
  rw [← e]
  by_cases h2:i+1<s.length
  · rw [Y8 (dd:=0) h2]
    simp only [YY,if_true]
    rw [qg h2 (by omega),qg h hf,hb]
  · have e1:s.drop (i+1)=[]:=List.drop_of_length_le (by omega)
    have e2:s.drop (i+1+1)=[]:=List.drop_of_length_le (by omega)
    have e3:s.take (i+1+1)=s.take (i+1):=by rw [qW (by omega),qW (by omega)]
    rw [e1,e2,e3,qg h hf,hb]
    simp only [YY]
theorem cut_quote (h:i<s.length) (hf:fr≤i) (hb:s.getD i 0=34) (e:acc++YY c (stq q) ((s.take i).drop fr) (s.drop i)=X) :
    acc++YY c (stq (!q)) ((s.take (i+1)).drop fr) (s.drop (i+1))=X:=by
  rw [Y8 (dd:=0) h,hb] at e
  rw [qg h hf,hb]
  cases q <;> simpa [stq,YY] using e
theorem cut_sep (h:i<s.length) (hq:q=false) (hb:s.getD i 0=c) (h34:¬ s.getD i 0=34) (e:acc++YY c (stq q) ((s.take i).drop fr) (s.drop i)=X) :
    (acc++[(s.take i).drop fr])++YY c (stq q) ((s.take (i+1)).drop (i+1)) (s.drop (i+1))=X:=by
  subst hq
  have h34':¬ c=34:=hb ▸ h34
  rw [Y8 (dd:=0) h,hb] at e
  rw [List.drop_of_length_le (i:=i+1) (l:=s.take (i+1)) (by simp;omega)]
  simpa [stq,YY,h34'] using e
theorem cut_plain (h:i<s.length) (hf:fr≤i) (h1:q=false∨¬ s.getD i 0=92) (h34:¬ s.getD i 0=34) (h2:¬ s.getD i 0=c∨q=true) (e:acc++YY c (stq q) ((s.take i).drop fr) (s.drop i)=X) :
    acc++YY c (stq q) ((s.take (i+1)).drop fr) (s.drop (i+1))=X:=by
  rw [Y8 (dd:=0) h] at e
  rw [qg h hf]
  revert e h1 h34 h2
  generalize s.getD i 0=b
  intro h1 h34 h2 e
  cases q
  · have h2':¬ b=c:=by simpa using h2
    simpa [stq,YY,h34,h2'] using e
  · have h1':¬ b=92:=by simpa using h1
    simpa [stq,YY,h34,h1'] using e
theorem cut_end (h:s.length≤i) (e:acc++YY c (stq q) ((s.take i).drop fr) (s.drop i)=X):acc++[s.drop fr]=X:=by
  rw [List.drop_of_length_le h,qW h] at e
  simpa [YY] using e
end

theorem Wh (c:UInt8):∀ (r:Str) (st:Nat) (cur:Str),0<(YY c st cur r).length
  | [],_,_=>by simp [YY]
  | b::r,st,cur=>by
    unfold YY
    split
    · exact Wh c r _ _
    · split
      · split
        · exact Wh c r _ _
        · split <;> exact Wh c r _ _
      · split
        · exact Wh c r _ _
        · split
          · simp
          · exact Wh c r _ _
theorem qp (s:Str) (c:UInt8):0<(cutF s c).length:=Wh c s 0 []
theorem cutGo_mem (c:UInt8):∀ (r:Str) (st:Nat) (cur:Str),∀ x∈YY c st cur r,x.length≤cur.length+r.length
  | [],_,cur=>by simp [YY]
  | b::r,st,cur=>fun x hx=>by
    have ih:=cutGo_mem c r
    have up:∀ st,x∈YY c st (cur++[b]) r→x.length≤cur.length+(b::r).length:=fun st h=>by
      have:=ih st _ x h;simp at this ⊢;omega
    unfold YY at hx
    split at hx
    · exact up _ hx
    · split at hx
      · split at hx
        · exact up _ hx
        · split at hx <;> exact up _ hx
      · split at hx
        · exact up _ hx
        · split at hx
          · rcases List.mem_cons.1 hx with rfl | hx
            · simp
            · have:=ih _ _ x hx;simp at this ⊢;omega
          · exact up _ hx
theorem zM (s:Str) (c:UInt8):∀ x∈cutF s c,x.length≤s.length:=fun x hx=>by have:=cutGo_mem c s 0 [] x hx;simpa using this
theorem cutGo_length (c:UInt8):∀ (r:Str) (st:Nat) (cur:Str),(YY c st cur r).length≤r.length+1
  | [],_,_=>by simp [YY]
  | b::r,st,cur=>by
    have ih:=cutGo_length c r
    unfold YY
    split
    · have:=ih 1 (cur++[b]);simp;omega
    · split
      · split
        · have:=ih 2 (cur++[b]);simp;omega
        · split
          · have:=ih 0 (cur++[b]);simp;omega
          · have:=ih 1 (cur++[b]);simp;omega
      · split
        · have:=ih 1 (cur++[b]);simp;omega
        · split
          · have:=ih 0 [];simp;omega
          · have:=ih 0 (cur++[b]);simp;omega
theorem cutF_length (s:Str) (c:UInt8):(cutF s c).length≤s.length+1:=cutGo_length c s 0 []
theorem zr {l:List Str} {n i:Nat} (h:∀ x∈l,x.length≤n):(l.getD i []).length≤n:=by
  by_cases hi:i<l.length
  · exact h _ (yK hi)
  · rw [List.getD_eq_getElem?_getD,List.getElem?_eq_none (by omega)];simp

/-! ### Quoted strings -/
def qc (c:UInt8):Str:=bif decide (c=34)||decide (c=92) then [92,c] else [c]
def quote (s:Str):Str:=34::s.flatMap qc++[34]
def Zi:Str→Str→Option Str
  | acc,[]=>some acc
  | acc,[b]=>if b=34 then none else if b=92 then none else if wf b=true then some (acc++[b]) else none
  | acc,b::x::r=>if b=34 then none else if b=92 then (if wf x=true then Zi (acc++[x]) r else none) else if wf b=true then Zi (acc++[b]) (x::r) else none
def inner (s:Str):Str:=(s.take (s.length-1)).drop 1
def unq (s:Str):Str×Bool :=
  if 2≤s.length∧s.getD 0 0=34∧s.getD (s.length-1) 0=34 then ((Zi [] (inner s)).getD [],(Zi [] (inner s)).isSome) else ([],false)

section
variable {t acc:Str} {i:Nat} {X:Option Str}
theorem unq_quote (h:i<t.length) (hb:t.getD i 0=34) (e:Zi acc (t.drop i)=X):X=none:=by
  rw [← e,Y8 (dd:=0) h,hb]
  cases t.drop (i+1) <;> simp [Zi]
theorem unq_esc_end (h:i<t.length) (hb:t.getD i 0=92) (h1:i+1=t.length) (e:Zi acc (t.drop i)=X):X=none:=by
  rw [← e,Y8 (dd:=0) h,hb,List.drop_of_length_le (by omega)]
  simp [Zi]
theorem unq_esc_bad (h:i+1<t.length) (hb:t.getD i 0=92) (h1:wf (t.getD (i+1) 0)=false) (e:Zi acc (t.drop i)=X):X=none:=by
  rw [← e,Y8 (dd:=0) (show i<t.length by omega),hb,Y8 (dd:=0) h]
  revert h1
  generalize t.getD (i+1) 0=b
  intro h1
  simp [Zi,h1]
theorem unq_esc (h:i+1<t.length) (hb:t.getD i 0=92) (h1:wf (t.getD (i+1) 0)=true) (e:Zi acc (t.drop i)=X):Zi (acc++[t.getD (i+1) 0]) (t.drop (i+1+1))=X:=by
  rw [← e,Y8 (dd:=0) (show i<t.length by omega),hb,Y8 (dd:=0) h]
  revert h1
  generalize t.getD (i+1) 0=b
  intro h1
  simp [Zi,h1]
theorem unq_bad (h:i<t.length) (h34:¬ t.getD i 0=34) (hb:¬ t.getD i 0=92) (h1:wf (t.getD i 0)=false) (e:Zi acc (t.drop i)=X):X=none:=by
  rw [← e,Y8 (dd:=0) h]
  revert h34 hb h1
  generalize t.getD i 0=b
  intro h34 hb h1
  cases t.drop (i+1) <;> simp [Zi,h34,hb,h1]
theorem unq_plain (h:i<t.length) (h34:¬ t.getD i 0=34) (hb:¬ t.getD i 0=92) (h1:wf (t.getD i 0)=true) (e:Zi acc (t.drop i)=X):Zi (acc++[t.getD i 0]) (t.drop (i+1))=X:=by
  rw [← e,Y8 (dd:=0) h]
  revert h34 hb h1
  generalize t.getD i 0=b
  intro h34 hb h1
  cases t.drop (i+1) <;> simp [Zi,h34,hb,h1]
theorem unq_end (h:t.length≤i) (e:Zi acc (t.drop i)=X):X=some acc:=by
  rw [← e,List.drop_of_length_le h];simp [Zi]
end
theorem text_get {t:Str} {i:Nat} (h:t.all wf=true) (hi:i<t.length):wf (t.getD i 0)=true:=by
  rw [Y6 hi];exact List.all_eq_true.1 h _ (List.getElem_mem hi)
theorem unqGo_text:∀ (t acc u:Str),Zi acc t=some u→t.all wf=true
  | [],_,_,_=>rfl
  | [b],acc,u,h=>by
    unfold Zi at h
    split at h
    · cases h
    · split at h
      · cases h
      · split at h
        · rename_i hb;simpa using hb
        · cases h
  | b::x::r,acc,u,h=>by
    unfold Zi at h
    split at h
    · cases h
    · split at h
      · rename_i hb
        split at h
        · rename_i hx
          have:=unqGo_text r _ _ h
          simp [hb,hx,this];decide
        · cases h
      · split at h
        · rename_i hb
          have:=unqGo_text (x::r) _ _ h
          rw [List.all_cons,hb,this];rfl
        · cases h
  termination_by t=>t.length
theorem unqGo_length:∀ (t acc u:Str),Zi acc t=some u→u.length≤acc.length+t.length
  | [],_,_,h=>by simp [Zi] at h;subst h;simp
  | [b],acc,u,h=>by
    unfold Zi at h
    split at h
    · cases h
    · split at h
      · cases h
      · split at h
        · cases h;simp
        · cases h
  | b::x::r,acc,u,h=>by
    unfold Zi at h
    split at h
    · cases h
    · split at h
      · split at h
        · have:=unqGo_length r _ _ h
          simp at this ⊢;omega
        · cases h
      · split at h
        · have:=unqGo_length (x::r) _ _ h
          simp at this ⊢;omega
        · cases h
  termination_by t=>t.length
theorem inner_length (s:Str):(inner s).length≤s.length:=by simp [inner];omega
theorem unq_length (s:Str):(unq s).1.length≤s.length:=by
  unfold unq
  split
  · cases h:Zi [] (inner s) with
    | none=>simp
    | some u=>have:=unqGo_length _ _ _ h;have:=inner_length s;simp at *;omega
  · simp
theorem unq_no {s:Str} (h:s.length<2∨¬ s.getD 0 0=34∨¬ s.getD (s.length-1) 0=34):unq s=([],false):=by
  unfold unq;rw [if_neg (by rintro ⟨h1,h2,h3⟩;rcases h with h | h | h <;> first | omega | contradiction)]
theorem WC {s:Str} (h:2≤s.length) (h2:s.getD 0 0=34) (h3:s.getD (s.length-1) 0=34) {X:Option Str} (hX:Zi [] (inner s)=X):unq s=(X.getD [],X.isSome):=by
  unfold unq;rw [if_pos ⟨h,h2,h3⟩,hX]

theorem unq_nt {s:Str} (h:text (inner s)=false):unq s=([],false):=by
  unfold unq
  split
  · cases e:Zi [] (inner s) with
    | none=>rfl
    | some u=>have:=unqGo_text _ _ _ e;rw [text,this] at h;cases h
  · rfl

/-! ### Parameters -/
def oneP (x:Str):Str×Str×Bool :=
  if ¬ pos x 61<x.length∨token (x.take (pos x 61))=false then ([],[],false)
  else if token (x.drop (pos x 61+1))=true then (lower (x.take (pos x 61)),x.drop (pos x 61+1),true)
  else (lower (x.take (pos x 61)),unq (x.drop (pos x 61+1)))
theorem one_no {x:Str} (h:¬ pos x 61<x.length):oneP x=([],[],false):=by rw [oneP,if_pos (.inl h)]
theorem one_bad {x:Str} (ht:token (x.take (pos x 61))=false):oneP x=([],[],false):=by rw [oneP,if_pos (.inr ht)]
theorem one_tok {x:Str} (h:pos x 61<x.length) (ht:token (x.take (pos x 61))=true) (hv:token (x.drop (pos x 61+1))=true):oneP x=(lower (x.take (pos x 61)),x.drop (pos x 61+1),true):=by
  rw [oneP,if_neg (by simp [h,ht]),if_pos hv]
theorem one_unq {x:Str} (h:pos x 61<x.length) (ht:token (x.take (pos x 61))=true) (hv:token (x.drop (pos x 61+1))=false):oneP x=(lower (x.take (pos x 61)),unq (x.drop (pos x 61+1))):=by
  rw [oneP,if_neg (by simp [h,ht]),if_neg (by simp [hv])]
def Zp:List Prm→List Str→Option (List Prm)
  | acc,[]=>some acc
  | acc,p::r=>if trim p=[] then Zp acc r else if (oneP (trim p)).2.2=true then Zp (acc++[((oneP (trim p)).1,(oneP (trim p)).2.1)]) r else none
def yQ (s:Str):Str×List Prm×Bool :=
  if trim ((cutF s 59).getD 0 [])=[] then ([],[],false)
  else match Zp [] ((cutF s 59).drop 1) with
    | none=>([],[],false)
    | some l=>(trim ((cutF s 59).getD 0 []),l,true)
theorem qk {s:Str} (h:¬ trim ((cutF s 59).getD 0 [])=[]) (e:Zp [] ((cutF s 59).drop 1)=none):yQ s=([],[],false):=by
  unfold yQ;rw [if_neg h,e]
theorem parse_some {s:Str} {l:List Prm} (h:¬ trim ((cutF s 59).getD 0 [])=[]) (e:Zp [] ((cutF s 59).drop 1)=some l):yQ s=(trim ((cutF s 59).getD 0 []),l,true):=by
  unfold yQ;rw [if_neg h,e]
theorem WG {s:Str} (h:trim ((cutF s 59).getD 0 [])=[]):yQ s=([],[],false):=by
  unfold yQ;rw [if_pos h]
section
variable {X:List Str} {acc:List Prm} {i:Nat} {Y:Option (List Prm)}
theorem pars_skip (h:i<X.length) (hb:trim (X.getD i [])=[]) (e:Zp acc (X.drop i)=Y):Zp acc (X.drop (i+1))=Y:=by
  rw [← e,Y8 (dd:=[]) h,Zp,if_pos hb]
theorem wM (h:i<X.length) (hb:¬ trim (X.getD i [])=[]) (h2:(oneP (trim (X.getD i []))).2.2=false) (e:Zp acc (X.drop i)=Y):Y=none:=by
  rw [← e,Y8 (dd:=[]) h,Zp,if_neg hb,if_neg (by rw [h2];simp)]
theorem pars_ok (h:i<X.length) (hb:¬ trim (X.getD i [])=[]) (h2:(oneP (trim (X.getD i []))).2.2=true) (e:Zp acc (X.drop i)=Y):Zp (acc++[((oneP (trim (X.getD i []))).1,(oneP (trim (X.getD i []))).2.1)]) (X.drop (i+1))=Y:=by
  rw [← e,Y8 (dd:=[]) h,Zp,if_neg hb,if_pos h2]
theorem pars_end (h:X.length≤i) (e:Zp acc (X.drop i)=Y):Y=some acc:=by
  rw [← e,List.drop_of_length_le h,Zp]
end
theorem WL:∀ (X:List Str) (acc:List Prm) (l:List Prm),Zp acc X=some l→l.length≤acc.length+X.length
  | [],acc,l,h=>by simp [Zp] at h;subst h;simp
  | p::r,acc,l,h=>by
    unfold Zp at h
    split at h
    · have:=WL r _ _ h;simp;omega
    · split at h
      · have:=WL r _ _ h;simp at this ⊢;omega
      · cases h
theorem parseP_length (s:Str):(yQ s).2.1.length≤s.length:=by
  unfold yQ
  split
  · simp
  · split
    · simp
    · rename_i l h
      have:=WL _ _ _ h
      have:=cutF_length s 59
      simp at *;omega
def wr (v:Str):Str:=if token v=true then v else quote v
def pieceP (p:Prm):Str:=p.1++61::wr p.2
def formatP (v:Str) (l:List Prm):Str:=v++l.flatMap fun p=>59::pieceP p
def findP (l:List Prm) (name:Str):Str×Bool:=match l.find? (fun p=>decide (p.1=name)) with | some p=>(p.2,true) | none=>([],false)
def okP (f:Prm):Bool:=!(decide (100<f.1.length)||decide (100<f.2.length))
def keepP (l:List Prm):Bool:=(l.take 9).all okP&&decide (l.length≤8)
end Go.Plain

namespace Go.Plain
set_option linter.unusedSimpArgs false
set_option linter.unusedVariables false

section
variable {l:List Prm} {value acc:Str} {i:Nat}
end
end Go.Plain

namespace Go.Plain
set_option linter.unusedSimpArgs false
set_option linter.unusedVariables false

abbrev Med:=Str×Str×List Prm
def okRange (v:Str):Bool:=token (v.take (pos v 47))&&token (v.drop (pos v 47+1))&&!(decide (v.take (pos v 47)=[42])&&!decide (v.drop (pos v 47+1)=[42]))
theorem qn (v:Str):okRange v=!((!token (v.take (pos v 47))||!token (v.drop (pos v 47+1)))||(decide (v.take (pos v 47)=[42])&&!decide (v.drop (pos v 47+1)=[42]))):=by
  unfold okRange;cases token (v.take (pos v 47)) <;> cases token (v.drop (pos v 47+1)) <;> simp
theorem okRange_none {v:Str} (h:¬ pos v 47<v.length):okRange v=false:=by
  have:v.drop (pos v 47+1)=[]:=List.drop_of_length_le (by omega)
  unfold okRange;rw [this];simp [token]
def zx (s:Str):Med×Bool :=
  if (yQ s).2.2=true∧okRange (yQ s).1=true then ((lower ((yQ s).1.take (pos (yQ s).1 47)),lower ((yQ s).1.drop (pos (yQ s).1 47+1)),(yQ s).2.1),true) else (([],[],[]),false)
theorem Z4 {s:Str} (h:(yQ s).2.2=false∨okRange (yQ s).1=false):zx s=(([],[],[]),false):=by
  rw [zx,if_neg];rintro ⟨h1,h2⟩;rcases h with h | h
  · rw [h] at h1;cases h1
  · rw [h] at h2;cases h2
theorem parseR_yes {s:Str} (h1:(yQ s).2.2=true) (h2:okRange (yQ s).1=true):zx s=((lower ((yQ s).1.take (pos (yQ s).1 47)),lower ((yQ s).1.drop (pos (yQ s).1 47+1)),(yQ s).2.1),true):=by
  rw [zx,if_pos ⟨h1,h2⟩]
def badT (s:Str):Bool:=(!(zx s).2||decide ((zx s).1.1=[42]))||decide ((zx s).1.2.1=[42])
def zf (s:Str):Med×Bool:=if badT s=true then (([],[],[]),false) else zx s
theorem parseT_no {s:Str} (h:badT s=true):zf s=(([],[],[]),false):=by rw [zf,if_pos h]
theorem wt {s:Str} (h:badT s=false):zf s=zx s∧(zx s).2=true:=by
  refine ⟨by rw [zf,if_neg (by simp [h])],?_⟩
  unfold badT at h
  cases hr:(zx s).2
  · rw [hr] at h;simp at h
  · rfl
def formatT (t:Med):Str:=formatP ((t.1++[47])++t.2.1) t.2.2
theorem any_next {α:Type} {p:α→Bool} {l:List α} {i:Nat} {dd:α} (h:i<l.length):(l.take (i+1)).any p=((l.take i).any p||p (l.getD i dd)):=by
  rw [List.take_succ_eq_append_getElem h,List.any_append,Y6 h];simp
def matchB (p x:Prm):Bool:=decide (x.1=p.1)&&fold x.2 p.2
def matchT (r t:Med):Int :=
  if r.1=[42]∧r.2.1=[42] then 0 else if ¬ r.1=t.1 then -1 else if r.2.1=[42] then 1 else if ¬ r.2.1=t.2.1 then -1
  else if r.2.2.all (fun p=>t.2.2.any (matchB p))=true then ((2+r.2.2.length:Nat):Int) else -1
def sameM (a b:Med):Bool:=((decide (a.1=b.1)&&decide (a.2.1=b.2.1))&&decide (a.2.2=b.2.2))
def keepM (t:Med):Bool:=(decide (t.1.length≤100)&&decide (t.2.1.length≤100))&&keepP t.2.2
theorem zp (s:Str):(yQ s).1.length≤s.length:=by
  have h:(trim ((cutF s 59).getD 0 [])).length≤s.length:=by have:=zr (i:=0) (zM s 59);have:=Yu ((cutF s 59).getD 0 []);omega
  unfold yQ
  split
  · simp
  · split
    · simp
    · exact h
theorem oneP_len (x:Str):(oneP x).1.length≤x.length∧(oneP x).2.1.length≤x.length:=by
  unfold oneP
  split
  · simp
  · split
    · simp;omega
    · have:=unq_length (x.drop (pos x 61+1));simp at this ⊢;omega
theorem parsGo_mem {n:Nat}:∀ (X:List Str) (acc l:List Prm),Zp acc X=some l→(∀ x∈X,x.length≤n)→(∀ p∈acc,p.1.length≤n∧p.2.length≤n)→∀ p∈l,p.1.length≤n∧p.2.length≤n
  | [],acc,l,h,_,ha=>by simp [Zp] at h;subst h;exact ha
  | x::X,acc,l,h,hx,ha=>by
    have hX:∀ y∈X,y.length≤n:=fun y hy=>hx y (List.mem_cons_of_mem _ hy)
    unfold Zp at h
    split at h
    · exact parsGo_mem X _ _ h hX ha
    · split at h
      · refine parsGo_mem X _ _ h hX fun p hp=>?_
        rcases List.mem_append.1 hp with hp | hp
        · exact ha p hp
        · obtain rfl:=List.mem_singleton.1 hp
          have:=oneP_len (trim x)
          have:=Yu x
          have:=hx x List.mem_cons_self
          exact ⟨by simp only;omega,by simp only;omega⟩
      · cases h
theorem parseP_mem (s:Str):∀ p∈(yQ s).2.1,p.1.length≤s.length∧p.2.length≤s.length:=by
  unfold yQ
  split
  · simp
  · split
    · simp
    · rename_i l h
      exact parsGo_mem _ _ _ h (fun x hx=>zM s 59 x (List.mem_of_mem_drop hx)) (by simp)
theorem parseR_len (s:Str):(zx s).1.1.length≤s.length∧(zx s).1.2.1.length≤s.length∧(zx s).1.2.2.length≤s.length∧∀ p∈(zx s).1.2.2,p.1.length≤s.length∧p.2.length≤s.length:=by
  unfold zx
  have:=zp s
  split
  · exact ⟨by simp;omega,by simp;omega,parseP_length s,parseP_mem s⟩
  · simp
theorem ql (s:Str):(zf s).1.1.length≤s.length∧(zf s).1.2.1.length≤s.length∧(zf s).1.2.2.length≤s.length∧∀ p∈(zf s).1.2.2,p.1.length≤s.length∧p.2.length≤s.length:=by
  unfold zf
  split
  · simp
  · exact parseR_len s
end Go.Plain

namespace Go.Plain
set_option linter.unusedSimpArgs false
set_option linter.unusedVariables false

/-! ### Bytes -/
/-! ### Ends -/
theorem getD_last (m:Str) (z:UInt8):(m++[z]).getD ((m++[z]).length-1) 0=z:=by simp
theorem pad_trim {a s b m m':Str} {x z:UInt8} (ha:a.all Zz=true) (hb:b.all Zz=true) (h1:s=x::m) (h2:s=m'++[z]) (hx:Zz x=false) (hz:Zz z=false):trim (a++s++b)=s:=by
  unfold trim
  have e1:YT Zz ((a++s)++b)=a++s:=trimR_eq hb (.inr (by rw [h2,← List.append_assoc,getD_last];exact hz))
  rw [e1,trimL_append_all ha]
  exact trimL_end (.inr (by rw [h1];exact hx))
theorem ends_trim {s m m':Str} {x z:UInt8} (h1:s=x::m) (h2:s=m'++[z]) (hx:Zz x=false) (hz:Zz z=false):trim s=s:=by
  have:=pad_trim (a:=[]) (b:=[]) rfl rfl h1 h2 hx hz
  simpa using this
/-- A text whose ends are no blanks. -/
def Firm (s:Str):Prop:=∃ x m m' z,s=x::m∧s=m'++[z]∧Zz x=false∧Zz z=false
theorem Firm.trim {s:Str} (h:Firm s):trim s=s:=by obtain ⟨x,m,m',z,h1,h2,h3,h4⟩:=h;exact ends_trim h1 h2 h3 h4
theorem Firm.append {a b w:Str} (ha:Firm a) (hb:Firm b):Firm (a++w++b):=by
  obtain ⟨x,m,_,_,h1,_,h3,_⟩:=ha
  obtain ⟨_,_,m',z,_,h2,_,h4⟩:=hb
  exact ⟨x,m++w++b,a++w++m',z,by rw [h1];rfl,by rw [h2];simp,h3,h4⟩
/-! ### Cutting what was written -/
/-! ### Reading a parameter -/
/-- A parameter that is written so that it is read back. -/
def Good (p:Prm):Prop:=token p.1=true∧lower p.1=p.1∧text p.2=true
/-! ### Blanks -/
section
variable {v n t:Str}
end

/-! ### Media types -/
end Go.Plain

namespace Go.Plain
set_option linter.unusedSimpArgs false
set_option linter.unusedVariables false

def goodB (p:Prm):Bool:=(token p.1&&decide (lower p.1=p.1))&&text p.2
def sumP (l:List Prm):Nat:=(l.map fun p=>p.1.length+p.2.length).sum
def sumS (X:List Str):Nat:=(X.map fun x=>x.length).sum
end Go.Plain

namespace Go.Plain
set_option linter.unusedSimpArgs false
set_option linter.unusedVariables false

/-! ### Members -/
def neB (s:Str):Bool:=!decide (s=[])
def memG (X:List Str):List Str:=(X.map trim).filter neB
def splitF (v:Str):List Str:=(memG (cutF v 44)).take 64
def stepF (st:Nat) (c:UInt8):Nat:=if st=2 then 1 else if st=1∧c=92 then 2 else if c=34 then 1-st else st
section
variable {v:Str} {i fr st:Nat} {acc X:List Str}
/-- What is still to come. -/
def rest7 (v:Str) (i fr st:Nat):List Str:=if i≤v.length then memG (YY 44 st ((v.take i).drop fr) (v.drop i)) else []
end
def allV (vs:List Str):List Str:=(vs.flatMap splitF).take 64
def allF (l:List Fld) (name:Str):List Str:=allV (getF l name)
def joinS (sep:Str):List Str→Str
  | []=>[]
  | x::r=>r.foldl (fun a y=>a++sep++y) x
/-! ### Quality values -/
def digB (c:UInt8):Bool:=decide (48≤c)&&decide (c≤57)
def digV (c:UInt8):Nat:=(c-48).toNat
def badQ (s:Str):Bool:=decide (s=[])||decide (5<s.length)||(!decide (s.getD 0 0=48)&&!decide (s.getD 0 0=49))||(decide (1<s.length)&&!decide (s.getD 1 0=46))
/-- The weight of the digit at i. -/
def wq (i:Nat):Nat:=if i=0 then 1000 else if i=2 then 100 else if i=3 then 10 else if i=4 then 1 else 0
def sumQ (s:Str) (i:Nat):Nat:=(List.range i).foldl (fun q k=>if k=1 then q else q+wq k*digV (s.getD k 0)) 0
def digsQ (s:Str):Bool:=(s.drop 2).all digB
def parseQ (s:Str):Nat×Bool :=
  if badQ s=true then (0,false) else if digsQ s=false then (0,false) else if 1000<sumQ s s.length then (0,false) else (sumQ s s.length,true)

/-! ### Language tags -/
def Yi (c:UInt8):Str→Str→List Str
  | cur,[]=>[cur]
  | cur,b::r=>if b=c then cur::Yi c [] r else Yi c (cur++[b]) r
def subt (s:Str):List Str:=Yi 45 [] s
def alphaB (c:UInt8):Bool:=(decide (97≤c)&&decide (c≤122))||(decide (65≤c)&&decide (c≤90))
def qG (d:Bool) (s:Str):Bool:=s.all (fun c=>alphaB c||(d&&digB c))&&!decide (s=[])&&decide (s.length≤8)
def tagF (s:Str):Bool:=match subt s with
  | []=>false
  | x::r=>qG false x&&r.all (qG true)
def rangeL (s:Str):Bool:=decide (s=[42])||tagF s
def matchL (r t:Str):Int :=
  if rangeL r=false∨tagF t=false then -1 else if r=[42] then 0
  else if (subt (lower r)).isPrefixOf (subt (lower t))=true then ((subt r).length:Nat) else -1

/-! ### Preferences -/
def YX (kind:Int):Str :=
  if kind=1 then [65,99,99,101,112,116] else if kind=2 then [65,99,99,101,112,116,45,76,97,110,103,117,97,103,101]
  else if kind=3 then [65,99,99,101,112,116,45,67,104,97,114,115,101,116] else if kind=4 then [65,99,99,101,112,116,45,69,110,99,111,100,105,110,103] else []
def zO (name:Str):Int:=if fold name (YX 1) then 1 else if fold name (YX 2) then 2 else if fold name (YX 3) then 3 else if fold name (YX 4) then 4 else 0
theorem w7 (kind:Int):(YX kind).length≤15:=by unfold YX;(repeat' split) <;> decide
def qAt (l:List Prm):Nat:=l.findIdx fun p=>decide (p.1=[113])
def idxQ (l:List Prm):Int:=if qAt l<l.length then (qAt l:Int) else -1
def rangedF (kind:Int) (v:Str) (ps:List Prm):Str×Bool :=
  if kind=1 then (formatT ((zx v).1.1,(zx v).1.2.1,ps),(zx v).2)
  else if kind=2 then (canonical kind v,rangeL v&&decide (ps.length=0)) else (canonical kind v,token v&&decide (ps.length=0))
abbrev Prf:=Str×Int
def prefF (kind:Int) (s:Str):Prf×Bool :=
  if (yQ s).2.2=false then (([],0),false)
  else if qAt (yQ s).2.1<(yQ s).2.1.length then
    (if (parseQ ((yQ s).2.1.getD (qAt (yQ s).2.1) ([],[])).2).2=false then (([],0),false)
     else (((rangedF kind (yQ s).1 ((yQ s).2.1.take (qAt (yQ s).2.1))).1,(((parseQ ((yQ s).2.1.getD (qAt (yQ s).2.1) ([],[])).2).1:Nat):Int)),(rangedF kind (yQ s).1 ((yQ s).2.1.take (qAt (yQ s).2.1))).2))
  else (((rangedF kind (yQ s).1 (yQ s).2.1).1,1000),(rangedF kind (yQ s).1 (yQ s).2.1).2)
def prefsM (kind:Int) (m:List Str):List Prf:=((m.map (prefF kind)).filter (·.2)).map (·.1)
def prefsF (kind:Int) (l:List Fld):List Prf×Bool :=
  if (decide (YX kind=[])||!decide (0<(getF l (YX kind)).length))=true then ([],false) else (prefsM kind (allF l (YX kind)),true)
end Go.Plain

namespace Go.Plain
open Go
set_option linter.unusedSimpArgs false
set_option linter.unusedVariables false

section
variable {v:Str} {i fr st:Nat} {acc X:List Str}
end
/-! ### Cutting at a byte -/
theorem pos_cons (b:UInt8) (r:Str) (c:UInt8):pos (b::r) c=if b=c then 0 else pos r c+1:=by
  unfold pos
  rw [List.findIdx_cons]
  by_cases h:b=c <;> simp [h]
theorem cutAt_some {c:UInt8}:∀ {t:Str} (cur:Str),pos t c<t.length→Yi c cur t=(cur++t.take (pos t c))::Yi c [] (t.drop (pos t c+1))
  | [],cur,h=>by simp at h
  | b::r,cur,h=>by
    rw [pos_cons] at h ⊢
    by_cases hb:b=c
    · rw [Yi,if_pos hb,if_pos hb];simp
    · rw [if_neg hb] at h ⊢
      rw [Yi,if_neg hb,cutAt_some (t:=r) (cur++[b]) (by simpa using h)]
      simp
theorem cutAt_none {c:UInt8}:∀ {t:Str} (cur:Str),¬ pos t c<t.length→Yi c cur t=[cur++t]
  | [],cur,h=>by simp [Yi]
  | b::r,cur,h=>by
    rw [pos_cons] at h
    by_cases hb:b=c
    · rw [if_pos hb] at h;simp at h
    · rw [if_neg hb] at h
      rw [Yi,if_neg hb,cutAt_none (t:=r) (cur++[b]) (by simpa using h)]
      simp
theorem count_some {c:UInt8}:∀ {t:Str},pos t c<t.length→(t.drop (pos t c+1)).count c+1=t.count c
  | [],h=>by simp at h
  | b::r,h=>by
    rw [pos_cons] at h ⊢
    by_cases hb:b=c
    · rw [if_pos hb];simp [hb]
    · rw [if_neg hb] at h ⊢
      have:=count_some (t:=r) (by simpa using h)
      rw [List.count_cons_of_ne hb]
      simpa using this
theorem Wa {c:UInt8}:∀ (t cur:Str),(Yi c cur t).length=t.count c+1
  | [],cur=>by simp [Yi]
  | b::r,cur=>by
    rw [Yi]
    by_cases hb:b=c
    · rw [if_pos hb,List.length_cons,Wa r [],hb,List.count_cons_self]
    · rw [if_neg hb,Wa r (cur++[b]),List.count_cons_of_ne hb]
theorem cutAt_mem {c:UInt8}:∀ (t cur:Str),∀ x∈Yi c cur t,x.length≤cur.length+t.length
  | [],cur,x,hx=>by simp [Yi] at hx;simp [hx]
  | b::r,cur,x,hx=>by
    rw [Yi] at hx
    by_cases hb:b=c
    · rw [if_pos hb] at hx
      rcases List.mem_cons.1 hx with rfl | hx
      · omega
      · have:=cutAt_mem r [] x hx;simp at this ⊢;omega
    · rw [if_neg hb] at hx
      have:=cutAt_mem r (cur++[b]) x hx
      simp at this ⊢;omega
theorem subt_mem (s:Str):∀ x∈subt s,x.length≤s.length:=fun x hx=>by have:=cutAt_mem s [] x hx;simpa using this
theorem count_len (c:UInt8) (s:Str):s.count c≤s.length:=List.count_le_length
theorem subt_length (s:Str):(subt s).length≤s.length+1:=by unfold subt;rw [Wa];have:=count_len 45 s;omega
theorem gs_go {xs:List Str} {i:Nat} {t:Str} {c:UInt8} {X:List Str} (hi:i<xs.length) (hp:pos t c<t.length) (e:xs.take i++Yi c [] t=X):(xs.set i (t.take (pos t c))).take (i+1)++Yi c [] (t.drop (pos t c+1))=X:=by
  rw [← e,cutAt_some [] hp,List.nil_append,List.take_succ_eq_append_getElem (by simpa using hi),List.take_set,List.set_eq_of_length_le (by rw [List.length_take];omega)]
  simp
theorem gs_end {xs:List Str} {i:Nat} {t:Str} {c:UInt8} {X:List Str} (hi:i<xs.length) (hp:¬ pos t c<t.length) (e:xs.take i++Yi c [] t=X):(xs.set i t).take (i+1)=X:=by
  rw [← e,cutAt_none [] hp,List.nil_append,List.take_succ_eq_append_getElem (by simpa using hi),List.take_set,List.set_eq_of_length_le (by rw [List.length_take];omega)]
  simp

/-! ### Language tags -/
def lowOk (d:Bool) (c:UInt8):Bool:=(decide (97≤c)&&decide (c≤122))||(d&&digB c)
theorem low_sub (d:Bool) (s:Str):(lower s).all (lowOk d)=s.all (fun c=>alphaB c||(d&&digB c)):=by
  unfold lower
  rw [List.all_map]
  congr 1
  funext c
  cases d
  · simpa using all_u8 (fun c=>decide (lowOk false (lowerB c)=(alphaB c||(false&&digB c)))) (by decide +kernel) c
  · simpa using all_u8 (fun c=>decide (lowOk true (lowerB c)=(alphaB c||(true&&digB c)))) (by decide +kernel) c
theorem sub_bad {d:Bool} {s:Str} {i:Nat} (h:i<(lower s).length) (h2:lowOk d ((lower s).getD i 0)=false):qG d s=false:=by
  unfold qG
  rw [← low_sub]
  have:(lower s).all (lowOk d)=false:=by
    rw [List.all_eq_false]
    exact ⟨_,yK h,by rw [h2];simp⟩
  rw [this];rfl
theorem sub_end {d:Bool} {s:Str} (h:(lower s).all (lowOk d)=true):qG d s=(!decide (s=[])&&decide (s.length≤8)):=by
  unfold qG
  rw [← low_sub,h];rfl
theorem tag_bad {s:Str} {i:Nat} (h:i<(subt s).length) (h2:qG (decide (0<i)) ((subt s).getD i [])=false):tagF s=false:=by
  unfold tagF
  generalize subt s=X at h h2 ⊢
  cases X with
  | nil=>rfl
  | cons x r =>
    cases i with
    | zero=>simp at h2;simp [h2]
    | succ i =>
      have:r.all (qG true)=false:=by
        rw [List.all_eq_false]
        refine ⟨_,yK (dd:=[]) (i:=i) (by simpa using h),?_⟩
        simp at h2;simp [h2]
      show (qG false x&&r.all (qG true))=false
      rw [this];simp
theorem tag_end {s:Str} (h:∀ k,k<(subt s).length→qG (decide (0<k)) ((subt s).getD k [])=true):tagF s=true:=by
  have h0:(subt s).length≠0:=by unfold subt;rw [Wa];omega
  unfold tagF
  generalize subt s=X at h h0 ⊢
  cases X with
  | nil=>simp at h0
  | cons x r =>
    have h1:=h 0 (by simp)
    simp only [Nat.lt_irrefl,decide_false,List.getD_cons_zero] at h1
    have h2:r.all (qG true)=true:=by
      rw [List.all_eq_true]
      intro y hy
      obtain ⟨k,hk,rfl⟩:=List.getElem_of_mem hy
      have:=h (k+1) (by simpa using hk)
      simpa [List.getD_eq_getElem?_getD,hk] using this
    simp [h1,h2]

/-! ### Quality values -/
/-! ### Preferences -/
theorem kindF_hit {name:Str} {k:Nat} (h1:1≤k) (h2:k≤4) (hm:∀ j:Nat,1≤j→j<k→fold name (YX (j:Int))=false) (h:fold name (YX (k:Int))=true):zO name=(k:Int):=by
  have:k=1∨k=2∨k=3∨k=4:=by omega
  rcases this with rfl | rfl | rfl | rfl
  · have a:fold name (YX 1)=true:=h
    unfold zO;rw [if_pos a];rfl
  · have a1:fold name (YX 1)=false:=hm 1 (by omega) (by omega)
    have a:fold name (YX 2)=true:=h
    unfold zO;rw [if_neg (by rw [a1];simp),if_pos a];rfl
  · have a1:fold name (YX 1)=false:=hm 1 (by omega) (by omega)
    have a2:fold name (YX 2)=false:=hm 2 (by omega) (by omega)
    have a:fold name (YX 3)=true:=h
    unfold zO;rw [if_neg (by rw [a1];simp),if_neg (by rw [a2];simp),if_pos a];rfl
  · have a1:fold name (YX 1)=false:=hm 1 (by omega) (by omega)
    have a2:fold name (YX 2)=false:=hm 2 (by omega) (by omega)
    have a3:fold name (YX 3)=false:=hm 3 (by omega) (by omega)
    have a:fold name (YX 4)=true:=h
    unfold zO;rw [if_neg (by rw [a1];simp),if_neg (by rw [a2];simp),if_neg (by rw [a3];simp),if_pos a];rfl
theorem kindF_none {name:Str} {k:Nat} (h2:4<k) (hm:∀ j:Nat,1≤j→j<k→fold name (YX (j:Int))=false):zO name=0:=by
  have a1:fold name (YX 1)=false:=hm 1 (by omega) (by omega)
  have a2:fold name (YX 2)=false:=hm 2 (by omega) (by omega)
  have a3:fold name (YX 3)=false:=hm 3 (by omega) (by omega)
  have a4:fold name (YX 4)=false:=hm 4 (by omega) (by omega)
  unfold zO;rw [if_neg (by rw [a1];simp),if_neg (by rw [a2];simp),if_neg (by rw [a3];simp),if_neg (by rw [a4];simp)]
end Go.Plain

namespace Go.Plain
open Go
set_option linter.unusedSimpArgs false
set_option linter.unusedVariables false

/-! ### Tags -/
theorem sub_len {d:Bool} {m:Str} (h:m.length<1∨8<m.length):qG d m=false:=by
  unfold qG
  rcases h with h | h
  · have:m=[]:=List.length_eq_zero_iff.1 (by omega)
    simp [this]
  · rw [decide_eq_false (by omega:¬ m.length≤8),Bool.and_false]
theorem sub_ch {d:Bool} {m:Str} {k:Nat} (h:k<m.length) (h2:(alphaB (m.getD k 0)||(d&&digB (m.getD k 0)))=false):qG d m=false:=by
  unfold qG
  have:m.all (fun c=>alphaB c||(d&&digB c))=false:=by
    rw [List.all_eq_false]
    exact ⟨_,yK h,by rw [h2];simp⟩
  rw [this];rfl
theorem sub_good {d:Bool} {m:Str} (h:¬ m.length<1∧¬ 8<m.length) (h2:m.all (fun c=>alphaB c||(d&&digB c))=true):qG d m=true:=by
  unfold qG
  have:m≠[]:=fun e=>by rw [e] at h;simp at h
  rw [h2,decide_eq_true (by omega:m.length≤8),decide_eq_false this];rfl

/-! ### Quality values -/
def badQ2 (s:Str):Bool:=decide (s.length<1)||decide (5<s.length)||(!decide (s.getD 0 0=48)&&!decide (s.getD 0 0=49))||(decide (1<s.length)&&!decide (s.getD 1 0=46))
/-! ### A member -/
end Go.Plain

namespace Go.Plain
open Go
set_option linter.unusedSimpArgs false
set_option linter.unusedVariables false

end Go.Plain

namespace Go.Plain
open Go
set_option linter.unusedSimpArgs false
set_option linter.unusedVariables false

def hasP (s p:Str):Bool:=decide (p.length≤s.length)&&decide (s.take p.length=p)
/-! ### Matching in general -/
def matchK (kind:Int) (r v:Str):Int :=
  if kind=1 then (if (zx r).2=false∨(zf v).2=false then -1 else matchT (zx r).1 (zf v).1)
  else if kind=2 then matchL r v
  else if kind=3∨kind=4 then (if (token r=false∨token v=false)∨v=[42] then -1 else matchCoding kind r v) else -1
section
variable {kind:Int} {r v:Str}
end
end Go.Plain

namespace Go.Plain
open Go
set_option linter.unusedSimpArgs false
set_option linter.unusedVariables false

def digQ (q:Int):Str:=[UInt8.ofNat (((48:Nat):Int)+q / ((100:Nat):Int)).toNat,UInt8.ofNat (((48:Nat):Int)+(q / ((10:Nat):Int)) % ((10:Nat):Int)).toNat,UInt8.ofNat (((48:Nat):Int)+q % ((10:Nat):Int)).toNat]
def z48 (c:UInt8):Bool:=decide (c=48)
def fmtQ (q:Int):Str:=if q<0∨1000<q then [] else if q=0 then [48] else if q=1000 then [49] else [48,46]++YT z48 (digQ q)
/-- The last k digits. -/
def lastD (n:Int):Nat→Str
  | 0=>[]
  | k+1=>UInt8.ofNat (((48:Nat):Int)+(n / 10 ^ k) % ((10:Nat):Int)).toNat::lastD n k
/-! ### Joining -/
def memP (p:Prf):Str:=if p.2=1000 then p.1 else p.1++([59,113,61]++fmtQ p.2)
def fmtP (l:List Prf):Str:=joinS [44,32] (l.map memP)
def okR (p:Prf):Bool:=!decide (100<p.1.length)
def keepR (l:List Prf):Bool:=(l.take 21).all okR&&decide (l.length≤20)
end Go.Plain

namespace Go.Plain
open Go
set_option linter.unusedSimpArgs false
set_option linter.unusedVariables false

/-! ### Cutting at commas what was written -/
/-- A text that is one whole between commas. -/
def Whole (m:Str):Prop:=∀ cur r,YY 44 0 cur (m++r)=YY 44 0 (cur++m) r
theorem Whole.nil:Whole []:=fun cur r=>by simp
/-! ### One preference -/
def qName:Str:=[113]
def extra (q:Int):List Prm:=if q=1000 then [] else [(qName,fmtQ q)]
/-- What can be read back. -/
structure OkP (kind:Int) (p:Prf):Prop where
  ex:∃ (v:Str) (ps:List Prm) (n:Nat),Firm v∧(∀ x∈v,x≠34∧x≠59)∧(∀ x∈v,x≠34∧x≠44)∧(∀ q∈ps,Good q)∧(∀ q∈ps,q.1≠qName)∧p.1=formatP v ps∧n≤1000∧p.2=(n:Int)∧rangedF kind v ps=(p.1,true)
/-! ### What is read is such -/
def langB (c:UInt8):Bool:=(alphaB c||digB c)||decide (c=45)
/-! ### How long it gets -/
end Go.Plain

namespace Go.Plain
open Go
set_option linter.unusedSimpArgs false
set_option linter.unusedVariables false

def sIdent:Str:=[105,100,101,110,116,105,116,121]
def bestS (kind:Int) (v:Str) (s:Int×Int) (p:Prf):Int×Int:=if s.1<matchK kind p.1 v then (matchK kind p.1 v,p.2) else s
def bestF (kind:Int) (v:Str) (l:List Prf) (q0:Int):Int×Int:=l.foldl (bestS kind v) (-1,q0)
def qualF (kind:Int) (l:List Prf) (present:Bool) (v:Str):Int :=
  if present=false then 1000 else if ((bestF kind v l 0).1<0∧kind=4)∧fold v sIdent=true then 1 else (bestF kind v l 0).2
section
variable {kind q0:Int} {v:Str} {l:List Prf} {i:Nat} {present:Bool}
end
/-! ### Rank -/
def insPos (qs:List Int) (q:Int):Nat:=(qs.reverse.dropWhile (fun p=>decide (p<q))).length
def rankS (kind:Int) (l:List Prf) (present:Bool) (s:List Str×List Int) (v:Str):List Str×List Int :=
  if qualF kind l present v≤0 then s else (s.1.take (insPos s.2 (qualF kind l present v))++[v]++s.1.drop (insPos s.2 (qualF kind l present v)),s.2.take (insPos s.2 (qualF kind l present v))++[qualF kind l present v]++s.2.drop (insPos s.2 (qualF kind l present v)))
def rankG (kind:Int) (l:List Prf) (present:Bool) (vs:List Str):List Str×List Int:=vs.foldl (rankS kind l present) ([],[])
section
variable {kind:Int} {l:List Prf} {present:Bool} {vs:List Str} {i:Nat} {out:List Str} {qs:List Int}
end
def okS (s:Str):Bool:=!decide (100<s.length)
def Wo (l:List Str):Bool:=(l.take 21).all okS&&decide (l.length≤20)
theorem keepS_len {l:List Str} (h:Wo l=true):l.length≤20:=by
  unfold Wo at h;rw [Bool.and_eq_true,decide_eq_true_eq] at h;exact h.2
theorem keepS_mem {l:List Str} (h:Wo l=true):∀ x∈l,x.length≤100:=fun x hx=>by
  have hl:=keepS_len h
  unfold Wo at h
  rw [Bool.and_eq_true,qW (s:=l) (by omega)] at h
  have:=List.all_eq_true.1 h.1 x hx
  unfold okS at this
  simp at this;omega
end Go.Plain
