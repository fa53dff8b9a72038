/-
  Plain functions on bytes: lower case,content codings. No program in sight.
  Plain functions on bytes: tokens,text,blanks,positions,field lines. No program in sight.
  Plain laws of field lines. No program in sight.
  Plain laws of lists of fields. No program in sight.
  Plain laws of removing and setting fields. No program in sight.
  Plain functions of values with parameters: cutting,quoting,reading,writing;and their laws. No program in sight.
  Plain laws of writing parameters,and of reading back what was written. No program in sight.
  Plain functions of media types and ranges. No program in sight.
  Plain laws: what is written is read back;blanks do not matter;a media type matches itself. No program in sight.
  Plain laws: how long what is written gets. No program in sight.
  Plain functions of lists of members,of quality values,and of language tags. No program in sight.
  Plain laws of splitting lists,of cutting at a byte,of language tags,of quality values,and of preferences. No program in sight.
  Plain laws of the second way to read preferences. No program in sight.
  Plain law: the preferences of a request do not hang on how members lie on lines,nor on blanks around them. No program in sight.
  Plain laws of matching language tags,and of matching ranges in general. No program in sight.
  Plain laws of writing quality values and of joining. No program in sight.
  Plain law: preferences,written as a field,are read back. No program in sight.
  Plain functions and laws of quality and rank. No program in sight.
-/
import Derived.WalkKit
import Derived.Lib.Bytealg
namespace Go.Plain

abbrev Str:=List UInt8

theorem all_u8 (p:UInt8→Bool) (h:(List.range 256).all (fun n=>p (UInt8.ofNat n))=true) (c:UInt8):p c=true:=by
  have:=List.all_eq_true.1 h c.toNat (by simpa using c.toNat_lt)
  simpa using this

/-! ### Lower case -/
def lowerB (c:UInt8):UInt8:=bif decide (65≤c)&&decide (c≤90) then c+32 else c
def lower (s:Str):Str:=s.map lowerB

@[simp] theorem lower_length (s:Str):(lower s).length=s.length:=by simp [lower]

/-- After i rounds. -/
def zJ (s:Str) (i:Nat):Str:=lower (s.take i)++s.drop i
theorem lowerTo_zero (s:Str):zJ s 0=s:=by simp [zJ,lower]
theorem Zz (s:Str) (i:Nat):(zJ s i).length=s.length:=by simp [zJ];omega
theorem lowerTo_end (s:Str) (i:Nat) (h:s.length≤i):zJ s i=lower s:=by simp [zJ,List.take_of_length_le h,List.drop_of_length_le h]
theorem lowerTo_get (s:Str) (i:Nat) (h:i<s.length):(zJ s i).getD i 0=s.getD i 0:=by
  have:(lower (s.take i)).length=i:=by simp;omega
  simp only [zJ,List.getD_eq_getElem?_getD]
  rw [List.getElem?_append_right (by omega),this,Nat.sub_self,List.getElem?_drop,Nat.add_zero]
theorem lowerTo_succ (s:Str) (i:Nat) (h:i<s.length):zJ s (i+1)=(zJ s i).set i (lowerB (s.getD i 0)):=by
  have hl:(lower (s.take i)).length=i:=by simp;omega
  rw [zJ,zJ,List.set_append_right _ _ (by omega),hl,Nat.sub_self,List.drop_eq_getElem_cons h,List.set_cons_zero,List.take_succ_eq_append_getElem h]
  simp only [lower,List.map_append,List.map_cons,List.map_nil,List.getD_eq_getElem?_getD,List.getElem?_eq_getElem h,Option.getD_some,List.append_assoc,List.cons_append,List.nil_append]
theorem lowerTo_hit (s:Str) (i:Nat) (h:i<s.length) (h1:65≤s.getD i 0) (h2:s.getD i 0≤90) (d:UInt8) (hd:d=s.getD i 0+32):(zJ s i).set i d=zJ s (i+1):=by
  rw [lowerTo_succ s i h,hd]
  unfold lowerB
  rw [show (decide (65≤s.getD i 0)&&decide (s.getD i 0≤90))=true from by rw [Bool.and_eq_true,decide_eq_true_eq,decide_eq_true_eq];exact ⟨h1,h2⟩]
  rfl
theorem lowerTo_miss (s:Str) (i:Nat) (h:i<s.length) (h1:¬ (65≤s.getD i 0∧s.getD i 0≤90)):zJ s (i+1)=zJ s i:=by
  rw [lowerTo_succ s i h]
  have:lowerB (s.getD i 0)=s.getD i 0:=by
    unfold lowerB
    rw [show (decide (65≤s.getD i 0)&&decide (s.getD i 0≤90))=false from by rw [← Bool.not_eq_true];simpa using h1]
    rfl
  rw [this,← lowerTo_get s i h]
  have hi:i<(zJ s i).length:=by rw [Zz];exact h
  rw [List.getD_eq_getElem?_getD,List.getElem?_eq_getElem hi]
  simp
theorem lowerTo_hit' (s:Str) (i:Nat) (h:i<s.length) (h1:65≤(zJ s i).getD i 0) (h2:(zJ s i).getD i 0≤90) (d:UInt8) (hd:d=(zJ s i).getD i 0+32):(zJ s i).set i d=zJ s (i+1):=by
  rw [lowerTo_get s i h] at h1 h2 hd
  exact lowerTo_hit s i h h1 h2 d hd
theorem lowerTo_miss' (s:Str) (i:Nat) (h:i<s.length) (h1:¬ 65≤(zJ s i).getD i 0∨¬ (zJ s i).getD i 0≤90):zJ s (i+1)=zJ s i:=by
  rw [lowerTo_get s i h] at h1
  exact lowerTo_miss s i h (fun h=>by rcases h1 with h1 | h1;exact h1 h.1;exact h1 h.2)
theorem add97 (c:UInt8):c+97-65=c+32:=by
  have:=all_u8 (fun c=>decide (c+97-65=c+32)) (by decide +kernel) c
  exact of_decide_eq_true this

/-! ### Content codings -/
def sGzip:Str:=[103,122,105,112]
def sXgzip:Str:=[120,45,103,122,105,112]
def qT:Str:=[99,111,109,112,114,101,115,115]
def qI:Str:=[120,45,99,111,109,112,114,101,115,115]

/-- coding.Canonical. -/
def canonical (kind:Int) (s:Str):Str :=
  if kind=4 then (if lower s=sXgzip then sGzip else if lower s=qI then qT else lower s) else lower s
def YY (kind:Int) (r v:Str):Int:=if r=[42] then 0 else if canonical kind r=canonical kind v then 1 else -1

theorem Qm (kind:Int) (s:Str):(canonical kind s).length≤s.length+8:=by
  unfold canonical
  split
  · split
    · simp [sGzip]
    · split
      · simp [qT]
      · simp
  · simp

end Go.Plain

namespace Go.Plain
set_option linter.unusedSimpArgs false

/-! ### Bytes -/
def signs:Str:=[33,35,36,37,38,39,42,43,45,46,94,95,96,124,126]
def tokB (c:UInt8):Bool:=signs.any (fun x=>decide (x=c))||(decide (48≤c)&&decide (c≤57)||decide (65≤c)&&decide (c≤90)||decide (97≤c)&&decide (c≤122))
def wo (c:UInt8):Bool:=decide (c=9)||(decide (32≤c)&&decide (c≤126))||decide (128≤c)
def Zq (c:UInt8):Bool:=decide (c=32)||decide (c=9)

theorem textB_alt (c:UInt8):(decide (c<32)&&!decide (c=9)||decide (c=127))=!wo c:=by
  simpa using all_u8 (fun c=>decide ((decide (c<32)&&!decide (c=9)||decide (c=127))=!wo c)) (by decide +kernel) c
theorem tokB_alt (c:UInt8):(decide (97≤c)&&decide (c≤122)||decide (65≤c)&&decide (c≤90)||decide (48≤c)&&decide (c≤57)||signs.any (fun x=>decide (x=c)))=tokB c:=by
  simpa using all_u8 (fun c=>decide ((decide (97≤c)&&decide (c≤122)||decide (65≤c)&&decide (c≤90)||decide (48≤c)&&decide (c≤57)||signs.any (fun x=>decide (x=c)))=tokB c)) (by decide +kernel) c

/-! ### Loops over all elements,over any -/
section all
variable {α:Type} {p:α→Bool} {s:List α} {dd:α}
theorem zr {i:Nat} (h:i<s.length):s.getD i dd=s[i]:=by rw [List.getD_eq_getElem?_getD,List.getElem?_eq_getElem h];rfl
theorem Y0 {i:Nat} (h:i<s.length) (h1:(s.take i).all p=true) (h2:p (s.getD i dd)=true):(s.take (i+1)).all p=true:=by
  rw [List.take_succ_eq_append_getElem h,List.all_append,h1,← zr (dd:=dd) h]
  simp only [List.all_cons,List.all_nil,h2,Bool.and_true]
theorem Qs {i:Nat} (h:i<s.length) (h2:p (s.getD i dd)=false):s.all p=false:=by
  rw [zr h] at h2
  rw [← Bool.not_eq_true,List.all_eq_true]
  intro h3
  rw [h3 _ (List.getElem_mem h)] at h2
  cases h2
theorem all_end {i:Nat} (h:s.length≤i) (h1:(s.take i).all p=true):s.all p=true:=by rwa [List.take_of_length_le h] at h1
theorem qD {i:Nat} (h:i<s.length) (h1:(s.take i).any p=false) (h2:p (s.getD i dd)=false):(s.take (i+1)).any p=false:=by
  rw [List.take_succ_eq_append_getElem h,List.any_append,h1,← zr (dd:=dd) h]
  simp only [List.any_cons,List.any_nil,h2,Bool.or_false]
theorem any_hit {i:Nat} (h:i<s.length) (h2:p (s.getD i dd)=true):s.any p=true:=by
  rw [zr h] at h2
  rw [List.any_eq_true]
  exact ⟨_,List.getElem_mem h,h2⟩
theorem WZ {i:Nat} (h:s.length≤i) (h1:(s.take i).any p=false):s.any p=false:=by rwa [List.take_of_length_le h] at h1
end all

def token (s:Str):Bool:=s.all tokB&&!decide (s=[])
def text (s:Str):Bool:=s.all wo

/-! ### Blanks -/
theorem dw_nil {p:UInt8→Bool}:∀ {l:Str},l.dropWhile p=[]↔∀ x∈l,p x=true
  | []=>by simp
  | c::l=>by
    rw [List.dropWhile_cons]
    cases h:p c with
    | true=>rw [if_pos rfl,dw_nil (l:=l)];simp [h]
    | false=>simp [h]
section trim
variable (p:UInt8→Bool)
def YJ (s:Str):Str:=s.dropWhile p
def Yh (s:Str):Str:=(s.reverse.dropWhile p).reverse
variable {p}
theorem trimL_step {s:Str} (h:0<s.length) (h2:p (s.getD 0 0)=true):YJ p (s.drop 1)=YJ p s:=by
  cases s with
  | nil=>simp at h
  | cons c s=>simp at h2;simp [YJ,List.dropWhile_cons,h2]
theorem trimL_end {s:Str} (h:s.length=0∨p (s.getD 0 0)=false):YJ p s=s:=by
  cases s with
  | nil=>rfl
  | cons c s=>simp at h;simp [YJ,List.dropWhile_cons,h]
theorem rev_of {s:Str} (h:0<s.length):s.reverse=s.getD (s.length-1) 0::(s.take (s.length-1)).reverse:=by
  have:s=s.take (s.length-1)++[s.getD (s.length-1) 0]:=by
    rw [zr (by omega)]
    conv=>lhs;rw [← List.take_append_drop (s.length-1) s]
    congr 1
    rw [List.drop_eq_getElem_cons (by omega),List.drop_of_length_le (by omega)]
  conv=>lhs;rw [this]
  simp
theorem trimR_step {s:Str} (h:0<s.length) (h2:p (s.getD (s.length-1) 0)=true):Yh p (s.take (s.length-1))=Yh p s:=by
  unfold Yh
  rw [rev_of h,List.dropWhile_cons,if_pos h2]
theorem Wc {s:Str} (h:s.length=0∨p (s.getD (s.length-1) 0)=false):Yh p s=s:=by
  rcases Nat.eq_zero_or_pos s.length with h0 | h0
  · rw [List.length_eq_zero_iff] at h0;subst h0;rfl
  · have h2:p (s.getD (s.length-1) 0)=false:=by rcases h with h | h;omega;exact h
    unfold Yh
    rw [rev_of h0,List.dropWhile_cons,if_neg (by rw [h2];simp),← rev_of h0,List.reverse_reverse]
theorem trimL_length (s:Str):(YJ p s).length≤s.length:=(List.dropWhile_sublist p).length_le
theorem trimR_length (s:Str):(Yh p s).length≤s.length:=by
  unfold Yh
  rw [List.length_reverse]
  have:=(List.dropWhile_sublist p (l:=s.reverse)).length_le
  simpa using this
theorem trimL_append_all {a b:Str} (h:a.all p=true):YJ p (a++b)=YJ p b:=by
  unfold YJ
  rw [List.dropWhile_append]
  have:a.dropWhile p=[]:=by
    rw [dw_nil]
    exact fun x hx=>List.all_eq_true.1 h x hx
  rw [this];rfl
theorem split_right (s:Str):∃ r:Str,s=Yh p s++r∧r.all p=true∧(Yh p s=[]∨p ((Yh p s).getD ((Yh p s).length-1) 0)=false):=by
  induction hn:s.length using Nat.strongRecOn generalizing s with
  | _ n ih =>
    by_cases h:0<s.length∧p (s.getD (s.length-1) 0)=true
    · obtain ⟨h1,h2⟩:=h
      obtain ⟨r,e,hr,hk⟩:=ih (s.take (s.length-1)).length (by rw [List.length_take];omega) _ rfl
      rw [trimR_step h1 h2] at e hk
      refine ⟨r++[s.getD (s.length-1) 0],?_,by rw [List.all_append,hr];simpa using h2,hk⟩
      rw [← List.append_assoc,← e,← List.reverse_inj,rev_of h1]
      simp
    · have h':s.length=0∨p (s.getD (s.length-1) 0)=false:=by
        rcases Nat.eq_zero_or_pos s.length with h0 | h0
        · exact .inl h0
        · exact .inr (by rw [← Bool.not_eq_true];exact fun h2=>h ⟨h0,h2⟩)
      refine ⟨[],by rw [Wc h'];simp,rfl,?_⟩
      rw [Wc h']
      exact h'.imp List.length_eq_zero_iff.1 id
theorem trimR_all {s:Str} (h:s.all p=true):Yh p s=[]:=by
  unfold Yh
  rw [List.reverse_eq_nil_iff,dw_nil]
  exact fun x hx=>List.all_eq_true.1 h x (by simpa using hx)
theorem trimR_eq {a r:Str} (hr:r.all p=true) (ha:a=[]∨p (a.getD (a.length-1) 0)=false):Yh p (a++r)=a:=by
  have e:Yh p (a++r)=Yh p a:=by
    unfold Yh
    rw [List.reverse_append,List.dropWhile_append]
    have:r.reverse.dropWhile p=[]:=by
      rw [dw_nil]
      exact fun x hx=>List.all_eq_true.1 hr x (by simpa using hx)
    rw [this];rfl
  rw [e]
  exact Wc (ha.imp (fun h=>by rw [h];rfl) id)
/-- From the left or from the right first: the same. -/
theorem trim_comm (s:Str):YJ p (Yh p s)=Yh p (YJ p s):=by
  obtain ⟨r,e,hr,hk⟩:=split_right (p:=p) s
  rcases Decidable.em ((Yh p s).all p=true) with ha | ha
  · have hs:s.all p=true:=by rw [e,List.all_append,ha,hr];rfl
    have h1:Yh p s=[]:=trimR_all hs
    have h2:YJ p s=[]:=by unfold YJ;rw [dw_nil];exact fun x hx=>List.all_eq_true.1 hs x hx
    rw [h1,h2];rfl
  · have hd:YJ p s=YJ p (Yh p s)++r:=by
      conv=>lhs;rw [e]
      unfold YJ
      rw [List.dropWhile_append,if_neg]
      intro h
      apply ha
      rw [List.isEmpty_iff,dw_nil] at h
      exact List.all_eq_true.2 h
    rw [hd,trimR_eq hr]
    rcases hk with hk | hk
    · exact absurd (by rw [hk];rfl) ha
    · right
      have hne:YJ p (Yh p s)≠[]:=by
        intro h
        unfold YJ at h
        rw [dw_nil] at h
        exact ha (List.all_eq_true.2 h)
      obtain ⟨q,hq⟩:=List.dropWhile_suffix p (l:=Yh p s)
      have hl:0<(YJ p (Yh p s)).length:=List.length_pos_iff.2 hne
      have:(YJ p (Yh p s)).getD ((YJ p (Yh p s)).length-1) 0=(Yh p s).getD ((Yh p s).length-1) 0:=by
        conv=>rhs;rw [← hq]
        rw [List.getD_eq_getElem?_getD,List.getD_eq_getElem?_getD]
        show _=((q++YJ p (Yh p s))[(q++YJ p (Yh p s)).length-1]?).getD 0
        rw [List.getElem?_append_right (by rw [List.length_append];omega)]
        congr 2
        rw [List.length_append];omega
      rw [this];exact hk
end trim

def trim (s:Str):Str:=YJ Zq (Yh Zq s)
theorem trim_alt (s:Str):Yh Zq (YJ Zq s)=trim s:=(trim_comm s).symm
theorem ZP (s:Str):(trim s).length≤s.length:=Nat.le_trans (trimL_length _) (trimR_length _)

/-- The set of some bytes. -/
def qS (l:Str):List Bool:=l.foldl (fun a c=>a.set c.toNat true) (List.replicate 256 false)
theorem Y2 (l:Str):(qS l).length=256:=by
  unfold qS
  suffices ∀ (a:List Bool),a.length=256→(l.foldl (fun a c=>a.set c.toNat true) a).length=256 from this _ (List.length_replicate ..)
  induction l with
  | nil=>intro a h;exact h
  | cons c l ih=>intro a h;exact ih _ (by simpa using h)
theorem setOf_step {l:Str} {i:Nat} (h:i<l.length):(qS (l.take i)).set (l.getD i 0).toNat true=qS (l.take (i+1)):=by
  unfold qS
  rw [List.take_succ_eq_append_getElem h,List.foldl_append,zr h];rfl
theorem setOf_blank (c:UInt8):(qS [32,9]).getD c.toNat false=Zq c:=by
  simpa using all_u8 (fun c=>decide ((qS [32,9]).getD c.toNat false=Zq c)) (by decide +kernel) c

/-! ### Positions -/
def pos (s:Str) (c:UInt8):Nat:=s.findIdx (fun x=>decide (x=c))
def posF (s:Str) (c:UInt8) (k:Nat):Nat:=k+(s.drop k).findIdx (fun x=>decide (x=c))
def idxF (s:Str) (c:UInt8) (k:Nat):Int:=if posF s c k<s.length then (posF s c k:Int) else -1
def idx (s:Str) (c:UInt8):Int:=if pos s c<s.length then (pos s c:Int) else -1
theorem pos_le (s:Str) (c:UInt8):pos s c≤s.length:=List.findIdx_le_length
theorem idx_nonneg {s:Str} {c:UInt8} (h:0≤idx s c):idx s c=((pos s c:Nat):Int)∧pos s c<s.length:=by
  unfold idx at *
  split at h <;> simp_all
theorem idx_neg {s:Str} {c:UInt8} (h:idx s c<0):¬ pos s c<s.length:=by
  unfold idx at h
  split at h <;> omega
theorem pos_none {s:Str} {c:UInt8} (h:¬ 0≤idx s c):pos s c=s.length:=by
  have:=pos_le s c
  unfold idx at h
  split at h <;> omega
theorem indexByte_eq (s:Str) (c:UInt8):Lib.indexByte s c=idx s c:=by
  unfold idx pos
  induction s with
  | nil=>rfl
  | cons b s ih =>
    rw [Lib.indexByte,ih,List.findIdx_cons]
    by_cases h:b=c
    · simp [h]
    · simp [h]
      split <;> rename_i h1
      · simp
      · simp
theorem pos_self (c:UInt8):idx [c] c=0:=by simp [idx,pos,List.findIdx_cons]

/-! ### Field lines -/
def lineOf (f:Str×Str):Str:=if f.2=[] then f.1++[58] else f.1++[58,32]++f.2
def validF (f:Str×Str):Bool:=token f.1&&text f.2&&decide (trim f.2=f.2)&&decide ((lineOf f).length≤2000)
def formatF (f:Str×Str):Str:=if validF f=true then lineOf f else []
def parseF (s:Str):(Str×Str)×Nat :=
  if 2000<s.length then (([],[]),4)
  else if ¬ pos s 58<s.length∨token (s.take (pos s 58))=false∨text (s.drop (pos s 58+1))=false then (([],[]),1)
  else if validF (s.take (pos s 58),trim (s.drop (pos s 58+1)))=true then ((s.take (pos s 58),trim (s.drop (pos s 58+1))),0)
  else (([],[]),4)
end Go.Plain

namespace Go.Plain
set_option linter.unusedSimpArgs false

end Go.Plain

namespace Go.Plain
set_option linter.unusedSimpArgs false

abbrev Fld:=Str×Str
def fold (a b:Str):Bool:=decide (a.length=b.length)&&decide (lower a=lower b)
def okF (f:Fld):Bool:=!(decide (300<f.1.length)||decide (300<f.2.length))
def wI (l:List Fld):Bool:=(l.take 71).all okF&&decide (l.length≤70)
theorem keep_end {α:Type} {p:α→Bool} {l:List α} {i m:Nat} (hi:i≤m) (h:¬ i<l.length∨¬ i<m) (h1:(l.take i).all p=true):(l.take m).all p=true:=by
  rcases h with h | h
  · rw [List.take_of_length_le (by omega)] at h1 ⊢;exact h1
  · rw [show m=i by omega];exact h1
theorem Qj {α:Type} {p:α→Bool} {l:List α} {i m:Nat} {dd:α} (hm:i<m) (hi:i<l.length) (h:p (l.getD i dd)=false):(l.take m).all p=false:=by
  refine Qs (i:=i) (dd:=dd) (by rw [List.length_take];omega) ?_
  rw [List.getD_eq_getElem?_getD,List.getElem?_take,if_pos hm,← List.getD_eq_getElem?_getD]
  exact h
theorem keepF_len {l:List Fld} (h:wI l=true):l.length≤70:=by
  unfold wI at h
  simp only [Bool.and_eq_true,decide_eq_true_eq] at h
  exact h.2
theorem keepF_mem {l:List Fld} (h:wI l=true):∀ x∈l,x.1.length≤300∧x.2.length≤300:=fun x hx=>by
  have hl:=keepF_len h
  unfold wI at h
  simp only [Bool.and_eq_true] at h
  have h1:=h.1
  rw [List.take_of_length_le (by omega)] at h1
  have:=List.all_eq_true.1 h1 x hx
  unfold okF at this
  simp at this
  omega

theorem take_eq_step {α:Type} {a b:List α} {i:Nat} {dd:α} (ha:i<a.length) (hb:i<b.length) (h:a.take i=b.take i) (he:a.getD i dd=b.getD i dd):a.take (i+1)=b.take (i+1):=by
  rw [List.take_succ_eq_append_getElem ha,List.take_succ_eq_append_getElem hb,h,← zr (dd:=dd) ha,← zr (dd:=dd) hb,he]

def getF (l:List Fld) (name:Str):List Str:=(l.filter fun f=>fold f.1 name).map (·.2)
theorem filter_hit {α:Type} {p:α→Bool} {l:List α} {i:Nat} {dd:α} (h:i<l.length) (h2:p (l.getD i dd)=true):(l.take (i+1)).filter p=(l.take i).filter p++[l.getD i dd]:=by
  rw [List.take_succ_eq_append_getElem h,List.filter_append,← zr (dd:=dd) h]
  simp only [List.filter_cons,h2,if_true,List.filter_nil]
theorem filter_miss {α:Type} {p:α→Bool} {l:List α} {i:Nat} {dd:α} (h:i<l.length) (h2:p (l.getD i dd)=false):(l.take (i+1)).filter p=(l.take i).filter p:=by
  rw [List.take_succ_eq_append_getElem h,List.filter_append,← zr (dd:=dd) h]
  simp only [List.filter_cons,h2,Bool.false_eq_true,if_false,List.filter_nil,List.append_nil]
theorem getF_hit {l:List Fld} {name:Str} {i:Nat} {dd:Fld} (h:i<l.length) (h2:fold (l.getD i dd).1 name=true):getF (l.take (i+1)) name=getF (l.take i) name++[(l.getD i dd).2]:=by
  unfold getF
  rw [filter_hit (p:=fun f:Fld=>fold f.1 name) h h2,List.map_append];rfl
theorem getF_miss {l:List Fld} {name:Str} {i:Nat} {dd:Fld} (h:i<l.length) (h2:fold (l.getD i dd).1 name=false):getF (l.take (i+1)) name=getF (l.take i) name:=by
  unfold getF
  rw [filter_miss (p:=fun f:Fld=>fold f.1 name) h h2]
theorem wJ (l:List Fld) (name:Str):(getF l name).length≤l.length:=by
  unfold getF;rw [List.length_map];exact List.length_filter_le ..
def Yr (nm:Str) (f:Fld):Bool:=decide (f.1.length=nm.length)&&decide (lower f.1=nm)
theorem named_fold (name:Str) (f:Fld):Yr (lower name) f=fold f.1 name:=by simp [Yr,fold]
theorem get_filter (l:List Fld) (name:Str):(l.filter (Yr (lower name))).map (·.2)=getF l name:=by
  unfold getF
  congr 2
  funext f
  exact named_fold name f
theorem yZ {α:Type} {l:List α} {i:Nat} {dd:α} (h:i<l.length):l.getD i dd∈l:=by rw [zr h];exact List.getElem_mem h
theorem head_getD {α:Type} {l:List α} {dd:α}:l.headD dd=l.getD 0 dd:=by cases l <;> rfl
theorem map_step {l:List Fld} {i:Nat} {dd:Fld} (h:i<l.length):(l.take (i+1)).map (fun x=>x.2)=(l.take i).map (fun x=>x.2)++[(l.getD i dd).2]:=by
  rw [List.take_succ_eq_append_getElem h,List.map_append,← zr (dd:=dd) h];rfl
end Go.Plain

namespace Go.Plain
set_option linter.unusedSimpArgs false
set_option linter.unusedVariables false

theorem zS {α:Type} {l:List α} {i:Nat} {dd:α} (h:i<l.length):l.drop i=l.getD i dd::l.drop (i+1):=by
  rw [List.drop_eq_getElem_cons h,List.getD_eq_getElem?_getD,List.getElem?_eq_getElem h];rfl

def removeF (l:List Fld) (name:Str):List Fld:=l.filter fun f=>!fold f.1 name
def setGo (name value:Str):Bool→List Fld→List Fld
  | d,[]=>bif d then [] else [(name,value)]
  | d,f::r=>bif fold f.1 name then (bif d then setGo name value d r else (f.1,value)::setGo name value true r) else f::setGo name value d r
def setF (l:List Fld) (name value:Str):List Fld:=setGo name value false l

section
variable {l acc:List Fld} {name value:Str} {i:Nat} {d:Bool} {dd:Fld} {X:List Fld}
end

end Go.Plain

namespace Go.Plain
set_option linter.unusedSimpArgs false
set_option linter.unusedVariables false

abbrev Prm:=Str×Str

/-! ### Cutting at a separator outside quotes -/
def zY (c:UInt8):Nat→Str→Str→List Str
  | _,cur,[]=>[cur]
  | st,cur,b::r =>
    if st=2 then zY c 1 (cur++[b]) r
    else if st=1 then (if b=92 then zY c 2 (cur++[b]) r else if b=34 then zY c 0 (cur++[b]) r else zY c 1 (cur++[b]) r)
    else (if b=34 then zY c 1 (cur++[b]) r else if b=c then cur::zY c 0 [] r else zY c 0 (cur++[b]) r)
def cutF (s:Str) (c:UInt8):List Str:=zY c 0 [] s
def stq (q:Bool):Nat:=bif q then 1 else 0

theorem Zi {s:Str} {i fr:Nat} (h:i<s.length) (hf:fr≤i):(s.take (i+1)).drop fr=(s.take i).drop fr++[s.getD i 0]:=by
  rw [List.take_succ_eq_append_getElem h,List.drop_append_of_le_length (by simp;omega),zr h]
theorem Zg {α:Type} {s:List α} {i:Nat} (h:s.length≤i):s.take i=s:=List.take_of_length_le h

section
variable {s:Str} {i fr:Nat} {c:UInt8} {q:Bool} {acc X:List Str}
theorem cut_esc (h:i<s.length) (hf:fr≤i) (hq:q=true) (hb:s.getD i 0=92) (e:acc++zY c (stq q) ((s.take i).drop fr) (s.drop i)=X) :
    acc++zY c (stq q) ((s.take (i+1+1)).drop fr) (s.drop (i+1+1))=X:=by
  subst hq
  rw [zS (dd:=0) h,hb] at e
  simp only [stq,cond_true,zY] at e ⊢
  simp only [Nat.one_ne_zero,if_false,if_true,Nat.reduceEqDiff] at e
  rw [← e]
  by_cases h2:i+1<s.length
  · rw [zS (dd:=0) h2]
    simp only [zY,if_true]
    rw [Zi h2 (by omega),Zi h hf,hb]
  · have e1:s.drop (i+1)=[]:=List.drop_of_length_le (by omega)
    have e2:s.drop (i+1+1)=[]:=List.drop_of_length_le (by omega)
    have e3:s.take (i+1+1)=s.take (i+1):=by rw [Zg (by omega),Zg (by omega)]
    rw [e1,e2,e3,Zi h hf,hb]
    simp only [zY]
theorem cut_quote (h:i<s.length) (hf:fr≤i) (hb:s.getD i 0=34) (e:acc++zY c (stq q) ((s.take i).drop fr) (s.drop i)=X) :
    acc++zY c (stq (!q)) ((s.take (i+1)).drop fr) (s.drop (i+1))=X:=by
  rw [zS (dd:=0) h,hb] at e
  rw [Zi h hf,hb]
  cases q <;> simpa [stq,zY] using e
theorem cut_sep (h:i<s.length) (hq:q=false) (hb:s.getD i 0=c) (h34:¬ s.getD i 0=34) (e:acc++zY c (stq q) ((s.take i).drop fr) (s.drop i)=X) :
    (acc++[(s.take i).drop fr])++zY c (stq q) ((s.take (i+1)).drop (i+1)) (s.drop (i+1))=X:=by
  subst hq
  have h34':¬ c=34:=hb ▸ h34
  rw [zS (dd:=0) h,hb] at e
  rw [List.drop_of_length_le (i:=i+1) (l:=s.take (i+1)) (by simp;omega)]
  simpa [stq,zY,h34'] using e
theorem cut_plain (h:i<s.length) (hf:fr≤i) (h1:q=false∨¬ s.getD i 0=92) (h34:¬ s.getD i 0=34) (h2:¬ s.getD i 0=c∨q=true) (e:acc++zY c (stq q) ((s.take i).drop fr) (s.drop i)=X) :
    acc++zY c (stq q) ((s.take (i+1)).drop fr) (s.drop (i+1))=X:=by
  rw [zS (dd:=0) h] at e
  rw [Zi h hf]
  revert e h1 h34 h2
  generalize s.getD i 0=b
  intro h1 h34 h2 e
  cases q
  · have h2':¬ b=c:=by simpa using h2
    simpa [stq,zY,h34,h2'] using e
  · have h1':¬ b=92:=by simpa using h1
    simpa [stq,zY,h34,h1'] using e
theorem cut_end (h:s.length≤i) (e:acc++zY c (stq q) ((s.take i).drop fr) (s.drop i)=X):acc++[s.drop fr]=X:=by
  rw [List.drop_of_length_le h,Zg h] at e
  simpa [zY] using e
end

theorem Wi (c:UInt8):∀ (r:Str) (st:Nat) (cur:Str),0<(zY c st cur r).length
  | [],_,_=>by simp [zY]
  | b::r,st,cur=>by
    unfold zY
    split
    · exact Wi c r _ _
    · split
      · split
        · exact Wi c r _ _
        · split <;> exact Wi c r _ _
      · split
        · exact Wi c r _ _
        · split
          · simp
          · exact Wi c r _ _
theorem Ql (s:Str) (c:UInt8):0<(cutF s c).length:=Wi c s 0 []
theorem cutGo_mem (c:UInt8):∀ (r:Str) (st:Nat) (cur:Str),∀ x∈zY c st cur r,x.length≤cur.length+r.length
  | [],_,cur=>by simp [zY]
  | b::r,st,cur=>fun x hx=>by
    have ih:=cutGo_mem c r
    have up:∀ st,x∈zY c st (cur++[b]) r→x.length≤cur.length+(b::r).length:=fun st h=>by
      have:=ih st _ x h;simp at this ⊢;omega
    unfold zY at hx
    split at hx
    · exact up _ hx
    · split at hx
      · split at hx
        · exact up _ hx
        · split at hx <;> exact up _ hx
      · split at hx
        · exact up _ hx
        · split at hx
          · rcases List.mem_cons.1 hx with rfl | hx
            · simp
            · have:=ih _ _ x hx;simp at this ⊢;omega
          · exact up _ hx
theorem qC (s:Str) (c:UInt8):∀ x∈cutF s c,x.length≤s.length:=fun x hx=>by have:=cutGo_mem c s 0 [] x hx;simpa using this
theorem cutGo_length (c:UInt8):∀ (r:Str) (st:Nat) (cur:Str),(zY c st cur r).length≤r.length+1
  | [],_,_=>by simp [zY]
  | b::r,st,cur=>by
    have ih:=cutGo_length c r
    unfold zY
    split
    · have:=ih 1 (cur++[b]);simp;omega
    · split
      · split
        · have:=ih 2 (cur++[b]);simp;omega
        · split
          · have:=ih 0 (cur++[b]);simp;omega
          · have:=ih 1 (cur++[b]);simp;omega
      · split
        · have:=ih 1 (cur++[b]);simp;omega
        · split
          · have:=ih 0 [];simp;omega
          · have:=ih 0 (cur++[b]);simp;omega
theorem cutF_length (s:Str) (c:UInt8):(cutF s c).length≤s.length+1:=cutGo_length c s 0 []
theorem zd {l:List Str} {n i:Nat} (h:∀ x∈l,x.length≤n):(l.getD i []).length≤n:=by
  by_cases hi:i<l.length
  · exact h _ (yZ hi)
  · rw [List.getD_eq_getElem?_getD,List.getElem?_eq_none (by omega)];simp

/-! ### Quoted strings -/
def qc (c:UInt8):Str:=bif decide (c=34)||decide (c=92) then [92,c] else [c]
def quote (s:Str):Str:=34::s.flatMap qc++[34]
theorem w8 {α β:Type} {f:α→List β} {l:List α} {i:Nat} {dd:α} (h:i<l.length):(l.take (i+1)).flatMap f=(l.take i).flatMap f++f (l.getD i dd):=by
  rw [List.take_succ_eq_append_getElem h,List.flatMap_append,zr h];simp
theorem quote_hit {s:Str} {i:Nat} (h:i<s.length) (h2:s.getD i 0=34∨s.getD i 0=92):((34::(s.take i).flatMap qc)++[92])++[s.getD i 0]=34::(s.take (i+1)).flatMap qc:=by
  rw [w8 (dd:=0) h]
  revert h2
  generalize s.getD i 0=b
  intro h2
  rcases h2 with h2 | h2 <;> simp [qc,h2]
theorem quote_miss {s:Str} {i:Nat} (h:i<s.length) (h2:¬ s.getD i 0=34∧¬ s.getD i 0=92):(34::(s.take i).flatMap qc)++[s.getD i 0]=34::(s.take (i+1)).flatMap qc:=by
  rw [w8 (dd:=0) h]
  revert h2
  generalize s.getD i 0=b
  intro h2
  simp [qc,h2.1,h2.2]
theorem qc_length (c:UInt8):(qc c).length≤2:=by unfold qc;cases decide (c=34)||decide (c=92) <;> simp
theorem WO {α β:Type} {f:α→List β} {k:Nat} (hk:∀ x,(f x).length≤k):∀ l:List α,(l.flatMap f).length≤l.length*k
  | []=>by simp
  | x::l=>by have:=hk x;have:=WO hk l;rw [List.flatMap_cons,List.length_append,List.length_cons,Nat.add_mul];omega
theorem quote_length (s:Str):(quote s).length≤2*s.length+2:=by
  have:=WO qc_length s
  simp only [quote,List.length_append,List.length_cons,List.length_nil];omega

def Y1:Str→Str→Option Str
  | acc,[]=>some acc
  | acc,[b]=>if b=34 then none else if b=92 then none else if wo b=true then some (acc++[b]) else none
  | acc,b::x::r=>if b=34 then none else if b=92 then (if wo x=true then Y1 (acc++[x]) r else none) else if wo b=true then Y1 (acc++[b]) (x::r) else none
def inner (s:Str):Str:=(s.take (s.length-1)).drop 1
def unq (s:Str):Str×Bool :=
  if 2≤s.length∧s.getD 0 0=34∧s.getD (s.length-1) 0=34 then ((Y1 [] (inner s)).getD [],(Y1 [] (inner s)).isSome) else ([],false)

section
variable {t acc:Str} {i:Nat} {X:Option Str}
theorem unq_quote (h:i<t.length) (hb:t.getD i 0=34) (e:Y1 acc (t.drop i)=X):X=none:=by
  rw [← e,zS (dd:=0) h,hb]
  cases t.drop (i+1) <;> simp [Y1]
theorem unq_esc_end (h:i<t.length) (hb:t.getD i 0=92) (h1:i+1=t.length) (e:Y1 acc (t.drop i)=X):X=none:=by
  rw [← e,zS (dd:=0) h,hb,List.drop_of_length_le (by omega)]
  simp [Y1]
theorem unq_esc_bad (h:i+1<t.length) (hb:t.getD i 0=92) (h1:wo (t.getD (i+1) 0)=false) (e:Y1 acc (t.drop i)=X):X=none:=by
  rw [← e,zS (dd:=0) (show i<t.length by omega),hb,zS (dd:=0) h]
  revert h1
  generalize t.getD (i+1) 0=b
  intro h1
  simp [Y1,h1]
theorem unq_esc (h:i+1<t.length) (hb:t.getD i 0=92) (h1:wo (t.getD (i+1) 0)=true) (e:Y1 acc (t.drop i)=X):Y1 (acc++[t.getD (i+1) 0]) (t.drop (i+1+1))=X:=by
  rw [← e,zS (dd:=0) (show i<t.length by omega),hb,zS (dd:=0) h]
  revert h1
  generalize t.getD (i+1) 0=b
  intro h1
  simp [Y1,h1]
theorem unq_bad (h:i<t.length) (h34:¬ t.getD i 0=34) (hb:¬ t.getD i 0=92) (h1:wo (t.getD i 0)=false) (e:Y1 acc (t.drop i)=X):X=none:=by
  rw [← e,zS (dd:=0) h]
  revert h34 hb h1
  generalize t.getD i 0=b
  intro h34 hb h1
  cases t.drop (i+1) <;> simp [Y1,h34,hb,h1]
theorem unq_plain (h:i<t.length) (h34:¬ t.getD i 0=34) (hb:¬ t.getD i 0=92) (h1:wo (t.getD i 0)=true) (e:Y1 acc (t.drop i)=X):Y1 (acc++[t.getD i 0]) (t.drop (i+1))=X:=by
  rw [← e,zS (dd:=0) h]
  revert h34 hb h1
  generalize t.getD i 0=b
  intro h34 hb h1
  cases t.drop (i+1) <;> simp [Y1,h34,hb,h1]
theorem unq_end (h:t.length≤i) (e:Y1 acc (t.drop i)=X):X=some acc:=by
  rw [← e,List.drop_of_length_le h];simp [Y1]
end
theorem text_get {t:Str} {i:Nat} (h:t.all wo=true) (hi:i<t.length):wo (t.getD i 0)=true:=by
  rw [zr hi];exact List.all_eq_true.1 h _ (List.getElem_mem hi)
theorem unqGo_text:∀ (t acc u:Str),Y1 acc t=some u→t.all wo=true
  | [],_,_,_=>rfl
  | [b],acc,u,h=>by
    unfold Y1 at h
    split at h
    · cases h
    · split at h
      · cases h
      · split at h
        · rename_i hb;simpa using hb
        · cases h
  | b::x::r,acc,u,h=>by
    unfold Y1 at h
    split at h
    · cases h
    · split at h
      · rename_i hb
        split at h
        · rename_i hx
          have:=unqGo_text r _ _ h
          simp [hb,hx,this];decide
        · cases h
      · split at h
        · rename_i hb
          have:=unqGo_text (x::r) _ _ h
          rw [List.all_cons,hb,this];rfl
        · cases h
  termination_by t=>t.length
theorem unqGo_length:∀ (t acc u:Str),Y1 acc t=some u→u.length≤acc.length+t.length
  | [],_,_,h=>by simp [Y1] at h;subst h;simp
  | [b],acc,u,h=>by
    unfold Y1 at h
    split at h
    · cases h
    · split at h
      · cases h
      · split at h
        · cases h;simp
        · cases h
  | b::x::r,acc,u,h=>by
    unfold Y1 at h
    split at h
    · cases h
    · split at h
      · split at h
        · have:=unqGo_length r _ _ h
          simp at this ⊢;omega
        · cases h
      · split at h
        · have:=unqGo_length (x::r) _ _ h
          simp at this ⊢;omega
        · cases h
  termination_by t=>t.length
theorem inner_length (s:Str):(inner s).length≤s.length:=by simp [inner];omega
theorem unq_length (s:Str):(unq s).1.length≤s.length:=by
  unfold unq
  split
  · cases h:Y1 [] (inner s) with
    | none=>simp
    | some u=>have:=unqGo_length _ _ _ h;have:=inner_length s;simp at *;omega
  · simp
theorem unq_no {s:Str} (h:s.length<2∨¬ s.getD 0 0=34∨¬ s.getD (s.length-1) 0=34):unq s=([],false):=by
  unfold unq;rw [if_neg (by rintro ⟨h1,h2,h3⟩;rcases h with h | h | h <;> first | omega | contradiction)]
theorem WB {s:Str} (h:2≤s.length) (h2:s.getD 0 0=34) (h3:s.getD (s.length-1) 0=34) {X:Option Str} (hX:Y1 [] (inner s)=X):unq s=(X.getD [],X.isSome):=by
  unfold unq;rw [if_pos ⟨h,h2,h3⟩,hX]

theorem unq_nt {s:Str} (h:text (inner s)=false):unq s=([],false):=by
  unfold unq
  split
  · cases e:Y1 [] (inner s) with
    | none=>rfl
    | some u=>have:=unqGo_text _ _ _ e;rw [text,this] at h;cases h
  · rfl

/-! ### Parameters -/
def oneP (x:Str):Str×Str×Bool :=
  if ¬ pos x 61<x.length∨token (x.take (pos x 61))=false then ([],[],false)
  else if token (x.drop (pos x 61+1))=true then (lower (x.take (pos x 61)),x.drop (pos x 61+1),true)
  else (lower (x.take (pos x 61)),unq (x.drop (pos x 61+1)))
theorem one_no {x:Str} (h:¬ pos x 61<x.length):oneP x=([],[],false):=by rw [oneP,if_pos (.inl h)]
theorem one_bad {x:Str} (ht:token (x.take (pos x 61))=false):oneP x=([],[],false):=by rw [oneP,if_pos (.inr ht)]
theorem one_tok {x:Str} (h:pos x 61<x.length) (ht:token (x.take (pos x 61))=true) (hv:token (x.drop (pos x 61+1))=true):oneP x=(lower (x.take (pos x 61)),x.drop (pos x 61+1),true):=by
  rw [oneP,if_neg (by simp [h,ht]),if_pos hv]
theorem one_unq {x:Str} (h:pos x 61<x.length) (ht:token (x.take (pos x 61))=true) (hv:token (x.drop (pos x 61+1))=false):oneP x=(lower (x.take (pos x 61)),unq (x.drop (pos x 61+1))):=by
  rw [oneP,if_neg (by simp [h,ht]),if_neg (by simp [hv])]
def YX:List Prm→List Str→Option (List Prm)
  | acc,[]=>some acc
  | acc,p::r=>if trim p=[] then YX acc r else if (oneP (trim p)).2.2=true then YX (acc++[((oneP (trim p)).1,(oneP (trim p)).2.1)]) r else none
def yz (s:Str):Str×List Prm×Bool :=
  if trim ((cutF s 59).getD 0 [])=[] then ([],[],false)
  else match YX [] ((cutF s 59).drop 1) with
    | none=>([],[],false)
    | some l=>(trim ((cutF s 59).getD 0 []),l,true)
theorem parse_none {s:Str} (h:¬ trim ((cutF s 59).getD 0 [])=[]) (e:YX [] ((cutF s 59).drop 1)=none):yz s=([],[],false):=by
  unfold yz;rw [if_neg h,e]
theorem parse_some {s:Str} {l:List Prm} (h:¬ trim ((cutF s 59).getD 0 [])=[]) (e:YX [] ((cutF s 59).drop 1)=some l):yz s=(trim ((cutF s 59).getD 0 []),l,true):=by
  unfold yz;rw [if_neg h,e]
theorem parse_blank {s:Str} (h:trim ((cutF s 59).getD 0 [])=[]):yz s=([],[],false):=by
  unfold yz;rw [if_pos h]
section
variable {X:List Str} {acc:List Prm} {i:Nat} {Y:Option (List Prm)}
theorem pars_skip (h:i<X.length) (hb:trim (X.getD i [])=[]) (e:YX acc (X.drop i)=Y):YX acc (X.drop (i+1))=Y:=by
  rw [← e,zS (dd:=[]) h,YX,if_pos hb]
theorem pars_bad (h:i<X.length) (hb:¬ trim (X.getD i [])=[]) (h2:(oneP (trim (X.getD i []))).2.2=false) (e:YX acc (X.drop i)=Y):Y=none:=by
  rw [← e,zS (dd:=[]) h,YX,if_neg hb,if_neg (by rw [h2];simp)]
theorem pars_ok (h:i<X.length) (hb:¬ trim (X.getD i [])=[]) (h2:(oneP (trim (X.getD i []))).2.2=true) (e:YX acc (X.drop i)=Y):YX (acc++[((oneP (trim (X.getD i []))).1,(oneP (trim (X.getD i []))).2.1)]) (X.drop (i+1))=Y:=by
  rw [← e,zS (dd:=[]) h,YX,if_neg hb,if_pos h2]
theorem pars_end (h:X.length≤i) (e:YX acc (X.drop i)=Y):Y=some acc:=by
  rw [← e,List.drop_of_length_le h,YX]
end
theorem W5:∀ (X:List Str) (acc:List Prm) (l:List Prm),YX acc X=some l→l.length≤acc.length+X.length
  | [],acc,l,h=>by simp [YX] at h;subst h;simp
  | p::r,acc,l,h=>by
    unfold YX at h
    split at h
    · have:=W5 r _ _ h;simp;omega
    · split at h
      · have:=W5 r _ _ h;simp at this ⊢;omega
      · cases h
theorem W4 (s:Str):(yz s).2.1.length≤s.length:=by
  unfold yz
  split
  · simp
  · split
    · simp
    · rename_i l h
      have:=W5 _ _ _ h
      have:=cutF_length s 59
      simp at *;omega
def wr (v:Str):Str:=if token v=true then v else quote v
def wM (p:Prm):Str:=p.1++61::wr p.2
def w7 (v:Str) (l:List Prm):Str:=v++l.flatMap fun p=>59::wM p
def findP (l:List Prm) (name:Str):Str×Bool:=match l.find? (fun p=>decide (p.1=name)) with | some p=>(p.2,true) | none=>([],false)
def okP (f:Prm):Bool:=!(decide (100<f.1.length)||decide (100<f.2.length))
def keepP (l:List Prm):Bool:=(l.take 9).all okP&&decide (l.length≤8)
end Go.Plain

namespace Go.Plain
set_option linter.unusedSimpArgs false
set_option linter.unusedVariables false

section
variable {l:List Prm} {value acc:Str} {i:Nat}
theorem format_step (h:i<l.length) (e:acc=value++(l.take i).flatMap (fun p=>59::wM p)):value++(l.take (i+1)).flatMap (fun p=>59::wM p)=acc++59::wM (l.getD i ([],[])):=by
  rw [w8 (dd:=([],[])) h,← List.append_assoc,← e]
theorem format_tok (h:i<l.length) (e:acc=value++(l.take i).flatMap (fun p=>59::wM p)) (ht:token (l.getD i ([],[])).2=true):(acc++(([59]++(l.getD i ([],[])).1)++[61]))++(l.getD i ([],[])).2=value++(l.take (i+1)).flatMap (fun p=>59::wM p):=by
  rw [format_step h e];revert ht;generalize l.getD i ([],[])=p;intro ht;simp [wM,wr,ht]
theorem format_quo (h:i<l.length) (e:acc=value++(l.take i).flatMap (fun p=>59::wM p)) (ht:token (l.getD i ([],[])).2=false):(acc++(([59]++(l.getD i ([],[])).1)++[61]))++quote (l.getD i ([],[])).2=value++(l.take (i+1)).flatMap (fun p=>59::wM p):=by
  rw [format_step h e];revert ht;generalize l.getD i ([],[])=p;intro ht;simp [wM,wr,ht]
end
end Go.Plain

namespace Go.Plain
set_option linter.unusedSimpArgs false
set_option linter.unusedVariables false

abbrev Med:=Str×Str×List Prm
def okRange (v:Str):Bool:=token (v.take (pos v 47))&&token (v.drop (pos v 47+1))&&!(decide (v.take (pos v 47)=[42])&&!decide (v.drop (pos v 47+1)=[42]))
theorem okRange_eq (v:Str):okRange v=!((!token (v.take (pos v 47))||!token (v.drop (pos v 47+1)))||(decide (v.take (pos v 47)=[42])&&!decide (v.drop (pos v 47+1)=[42]))):=by
  unfold okRange;cases token (v.take (pos v 47)) <;> cases token (v.drop (pos v 47+1)) <;> simp
def y3 (s:Str):Med×Bool :=
  if (yz s).2.2=true∧okRange (yz s).1=true then ((lower ((yz s).1.take (pos (yz s).1 47)),lower ((yz s).1.drop (pos (yz s).1 47+1)),(yz s).2.1),true) else (([],[],[]),false)
theorem parseR_no {s:Str} (h:(yz s).2.2=false∨okRange (yz s).1=false):y3 s=(([],[],[]),false):=by
  rw [y3,if_neg];rintro ⟨h1,h2⟩;rcases h with h | h
  · rw [h] at h1;cases h1
  · rw [h] at h2;cases h2
theorem parseR_yes {s:Str} (h1:(yz s).2.2=true) (h2:okRange (yz s).1=true):y3 s=((lower ((yz s).1.take (pos (yz s).1 47)),lower ((yz s).1.drop (pos (yz s).1 47+1)),(yz s).2.1),true):=by
  rw [y3,if_pos ⟨h1,h2⟩]
def badT (s:Str):Bool:=(!(y3 s).2||decide ((y3 s).1.1=[42]))||decide ((y3 s).1.2.1=[42])
def zf (s:Str):Med×Bool:=if badT s=true then (([],[],[]),false) else y3 s
theorem parseT_no {s:Str} (h:badT s=true):zf s=(([],[],[]),false):=by rw [zf,if_pos h]
theorem parseT_yes {s:Str} (h:badT s=false):zf s=y3 s∧(y3 s).2=true:=by
  refine ⟨by rw [zf,if_neg (by simp [h])],?_⟩
  unfold badT at h
  cases hr:(y3 s).2
  · rw [hr] at h;simp at h
  · rfl
def w6 (t:Med):Str:=w7 ((t.1++[47])++t.2.1) t.2.2
theorem any_next {α:Type} {p:α→Bool} {l:List α} {i:Nat} {dd:α} (h:i<l.length):(l.take (i+1)).any p=((l.take i).any p||p (l.getD i dd)):=by
  rw [List.take_succ_eq_append_getElem h,List.any_append,zr h];simp
theorem not_not {a:Prop}:¬¬a↔a:=Classical.not_not
def matchB (p x:Prm):Bool:=decide (x.1=p.1)&&fold x.2 p.2
def qK (r t:Med):Int :=
  if r.1=[42]∧r.2.1=[42] then 0 else if ¬ r.1=t.1 then -1 else if r.2.1=[42] then 1 else if ¬ r.2.1=t.2.1 then -1
  else if r.2.2.all (fun p=>t.2.2.any (matchB p))=true then ((2+r.2.2.length:Nat):Int) else -1
theorem matchT_no2 {r t:Med} (h1:¬ r.1=[42]∨¬ r.2.1=[42]) (h2:¬ r.2.1=[42]∨¬ r.1=t.1) (h3:¬ r.1=t.1∨¬ r.2.1=t.2.1):qK r t=-1:=by
  unfold qK
  rw [if_neg (fun e=>by rcases h1 with h | h;exact h e.1;exact h e.2)]
  by_cases he:r.1=t.1
  · have h2':¬ r.2.1=[42]:=by rcases h2 with h | h;exact h;exact absurd he h
    have h3':¬ r.2.1=t.2.1:=by rcases h3 with h | h;exact absurd he h;exact h
    rw [if_neg (not_not.2 he),if_neg h2',if_pos h3']
  · rw [if_pos he]
def sameM (a b:Med):Bool:=((decide (a.1=b.1)&&decide (a.2.1=b.2.1))&&decide (a.2.2=b.2.2))
def keepM (t:Med):Bool:=(decide (t.1.length≤100)&&decide (t.2.1.length≤100))&&keepP t.2.2
theorem zU (s:Str):(yz s).1.length≤s.length:=by
  have h:(trim ((cutF s 59).getD 0 [])).length≤s.length:=by have:=zd (i:=0) (qC s 59);have:=ZP ((cutF s 59).getD 0 []);omega
  unfold yz
  split
  · simp
  · split
    · simp
    · exact h
theorem oneP_len (x:Str):(oneP x).1.length≤x.length∧(oneP x).2.1.length≤x.length:=by
  unfold oneP
  split
  · simp
  · split
    · simp;omega
    · have:=unq_length (x.drop (pos x 61+1));simp at this ⊢;omega
theorem parsGo_mem {n:Nat}:∀ (X:List Str) (acc l:List Prm),YX acc X=some l→(∀ x∈X,x.length≤n)→(∀ p∈acc,p.1.length≤n∧p.2.length≤n)→∀ p∈l,p.1.length≤n∧p.2.length≤n
  | [],acc,l,h,_,ha=>by simp [YX] at h;subst h;exact ha
  | x::X,acc,l,h,hx,ha=>by
    have hX:∀ y∈X,y.length≤n:=fun y hy=>hx y (List.mem_cons_of_mem _ hy)
    unfold YX at h
    split at h
    · exact parsGo_mem X _ _ h hX ha
    · split at h
      · refine parsGo_mem X _ _ h hX fun p hp=>?_
        rcases List.mem_append.1 hp with hp | hp
        · exact ha p hp
        · obtain rfl:=List.mem_singleton.1 hp
          have:=oneP_len (trim x)
          have:=ZP x
          have:=hx x List.mem_cons_self
          exact ⟨by simp only;omega,by simp only;omega⟩
      · cases h
theorem parseP_mem (s:Str):∀ p∈(yz s).2.1,p.1.length≤s.length∧p.2.length≤s.length:=by
  unfold yz
  split
  · simp
  · split
    · simp
    · rename_i l h
      exact parsGo_mem _ _ _ h (fun x hx=>qC s 59 x (List.mem_of_mem_drop hx)) (by simp)
theorem ZV (s:Str):(y3 s).1.1.length≤s.length∧(y3 s).1.2.1.length≤s.length∧(y3 s).1.2.2.length≤s.length∧∀ p∈(y3 s).1.2.2,p.1.length≤s.length∧p.2.length≤s.length:=by
  unfold y3
  have:=zU s
  split
  · exact ⟨by simp;omega,by simp;omega,W4 s,parseP_mem s⟩
  · simp
theorem qk (s:Str):(zf s).1.1.length≤s.length∧(zf s).1.2.1.length≤s.length∧(zf s).1.2.2.length≤s.length∧∀ p∈(zf s).1.2.2,p.1.length≤s.length∧p.2.length≤s.length:=by
  unfold zf
  split
  · simp
  · exact ZV s
end Go.Plain

namespace Go.Plain
set_option linter.unusedSimpArgs false
set_option linter.unusedVariables false

/-! ### Bytes -/
/-! ### Ends -/
theorem getD_last (m:Str) (z:UInt8):(m++[z]).getD ((m++[z]).length-1) 0=z:=by simp
theorem pad_trim {a s b m m':Str} {x z:UInt8} (ha:a.all Zq=true) (hb:b.all Zq=true) (h1:s=x::m) (h2:s=m'++[z]) (hx:Zq x=false) (hz:Zq z=false):trim (a++s++b)=s:=by
  unfold trim
  have e1:Yh Zq ((a++s)++b)=a++s:=trimR_eq hb (.inr (by rw [h2,← List.append_assoc,getD_last];exact hz))
  rw [e1,trimL_append_all ha]
  exact trimL_end (.inr (by rw [h1];exact hx))
theorem ends_trim {s m m':Str} {x z:UInt8} (h1:s=x::m) (h2:s=m'++[z]) (hx:Zq x=false) (hz:Zq z=false):trim s=s:=by
  have:=pad_trim (a:=[]) (b:=[]) rfl rfl h1 h2 hx hz
  simpa using this
/-- A text whose ends are no blanks. -/
def Firm (s:Str):Prop:=∃ x m m' z,s=x::m∧s=m'++[z]∧Zq x=false∧Zq z=false
theorem Firm.trim {s:Str} (h:Firm s):trim s=s:=by obtain ⟨x,m,m',z,h1,h2,h3,h4⟩:=h;exact ends_trim h1 h2 h3 h4
theorem Firm.append {a b w:Str} (ha:Firm a) (hb:Firm b):Firm (a++w++b):=by
  obtain ⟨x,m,_,_,h1,_,h3,_⟩:=ha
  obtain ⟨_,_,m',z,_,h2,_,h4⟩:=hb
  exact ⟨x,m++w++b,a++w++m',z,by rw [h1];rfl,by rw [h2];simp,h3,h4⟩
/-! ### Cutting what was written -/
/-! ### Reading a parameter -/
/-- A parameter that is written so that it is read back. -/
def Good (p:Prm):Prop:=token p.1=true∧lower p.1=p.1∧text p.2=true
/-! ### Blanks -/
section
variable {v n t:Str}
end

/-! ### Media types -/
end Go.Plain

namespace Go.Plain
set_option linter.unusedSimpArgs false
set_option linter.unusedVariables false

def goodB (p:Prm):Bool:=(token p.1&&decide (lower p.1=p.1))&&text p.2
theorem wr_length (v:Str):(wr v).length≤2*v.length+2:=by
  unfold wr;split
  · omega
  · exact quote_length v
def sumP (l:List Prm):Nat:=(l.map fun p=>p.1.length+p.2.length).sum
theorem formatP_length (v:Str):∀ l:List Prm,(w7 v l).length≤v.length+2*sumP l+4*l.length
  | []=>by simp [w7,sumP]
  | p::l=>by
    have ih:=formatP_length v l
    have:=wr_length p.2
    simp only [w7,sumP,List.length_append,List.flatMap_cons,List.length_cons,wM,List.map_cons,List.sum_cons] at ih ⊢
    omega
def sumS (X:List Str):Nat:=(X.map fun x=>x.length).sum
theorem cutGo_sum (c:UInt8):∀ (r:Str) (st:Nat) (cur:Str),sumS (zY c st cur r)≤cur.length+r.length
  | [],_,cur=>by simp [zY,sumS]
  | b::r,st,cur=>by
    have ih:=cutGo_sum c r
    have up:∀ st,sumS (zY c st (cur++[b]) r)≤cur.length+(b::r).length:=fun st=>by have:=ih st (cur++[b]);simp at this ⊢;omega
    unfold zY
    split
    · exact up _
    · split
      · split
        · exact up _
        · split <;> exact up _
      · split
        · exact up _
        · split
          · have:=ih 0 []
            simp only [sumS,List.map_cons,List.sum_cons,List.length_nil,List.length_cons] at this ⊢
            omega
          · exact up _
theorem oneP_sum (x:Str):(oneP x).1.length+(oneP x).2.1.length≤x.length:=by
  unfold oneP
  split
  · simp
  · rename_i hc
    have hlt:pos x 61<x.length:=by
      rcases Nat.lt_or_ge (pos x 61) x.length with h | h
      · exact h
      · exact absurd (.inl (by omega)) hc
    split
    · simp;omega
    · have:=unq_length (x.drop (pos x 61+1));simp at this ⊢;omega
theorem parsGo_sum:∀ (X:List Str) (acc l:List Prm),YX acc X=some l→sumP l≤sumP acc+sumS X
  | [],acc,l,h=>by simp [YX] at h;subst h;simp
  | x::X,acc,l,h=>by
    unfold YX at h
    split at h
    · have:=parsGo_sum X _ _ h;simp only [sumS,List.map_cons,List.sum_cons] at this ⊢;omega
    · split at h
      · have h1:=parsGo_sum X _ _ h
        have h2:=oneP_sum (trim x)
        have h3:=ZP x
        simp only [sumS,sumP,List.map_cons,List.sum_cons,List.map_append,List.sum_append,List.map_nil,List.sum_nil] at h1 ⊢
        omega
      · cases h
theorem parseP_sum (s:Str):sumP (yz s).2.1≤s.length:=by
  unfold yz
  split
  · simp [sumP]
  · split
    · simp [sumP]
    · rename_i l h
      have h1:=parsGo_sum _ _ _ h
      have h2:=cutGo_sum 59 s 0 []
      have h3:sumS ((cutF s 59).drop 1)≤sumS (cutF s 59):=by
        unfold sumS
        cases cutF s 59 with
        | nil=>simp
        | cons a t=>simp
      unfold cutF at h1 h3
      simp only [sumP,List.map_nil,List.sum_nil,List.length_nil] at h1 h2 ⊢
      omega
end Go.Plain

namespace Go.Plain
set_option linter.unusedSimpArgs false
set_option linter.unusedVariables false

/-! ### Members -/
def neB (s:Str):Bool:=!decide (s=[])
def memG (X:List Str):List Str:=(X.map trim).filter neB
def YD (v:Str):List Str:=(memG (cutF v 44)).take 64
def Wl (st:Nat) (c:UInt8):Nat:=if st=2 then 1 else if st=1∧c=92 then 2 else if c=34 then 1-st else st
theorem stepF_le {st:Nat} {c:UInt8} (h:st≤2):Wl st c≤2:=by unfold Wl;split;omega;split;omega;split <;> omega
theorem memG_cons (x:Str) (X:List Str):memG (x::X)=if trim x=[] then memG X else trim x::memG X:=by
  unfold memG
  rw [List.map_cons,List.filter_cons]
  unfold neB
  by_cases h:trim x=[] <;> simp [h]
section
variable {v:Str} {i fr st:Nat} {acc X:List Str}
/-- What is still to come. -/
def ws (v:Str) (i fr st:Nat):List Str:=if i≤v.length then memG (zY 44 st ((v.take i).drop fr) (v.drop i)) else []
theorem cutGo_next {c b:UInt8} {st:Nat} {cur r:Str} (hs:st≤2) (h:¬ (st=0∧b=c)):zY c st cur (b::r)=zY c (Wl st b) (cur++[b]) r:=by
  unfold Wl
  rw [zY]
  by_cases h2:st=2
  · simp [h2]
  by_cases h1:st=1
  · subst h1
    by_cases hb:b=92
    · simp [hb]
    · by_cases h34:b=34
      · simp [h34]
      · simp [hb,h34]
  · obtain rfl:st=0:=by omega
    have hc:¬ b=c:=fun e=>h ⟨rfl,e⟩
    by_cases h34:b=34
    · simp [h34]
    · simp [h34,hc]
theorem split_next (h:i<v.length) (hf:fr≤i) (hs:st≤2) (hn:¬ (st=0∧v.getD i 0=44)) (e:acc++ws v i fr st=X):acc++ws v (i+1) fr (Wl st (v.getD i 0))=X:=by
  rw [← e]
  unfold ws
  rw [if_pos (by omega),if_pos (by omega),Zi h hf,zS (dd:=0) h,cutGo_next hs hn]
theorem rest7_in (h:i≤v.length):ws v i fr st=memG (zY 44 st ((v.take i).drop fr) (v.drop i)):=if_pos h
theorem rest7_out (h:v.length<i):ws v i fr st=[]:=if_neg (by omega)
theorem split_cut (h:i<v.length) (hs:st=0) (hb:v.getD i 0=44) (e:acc++ws v i fr st=X):acc++(if trim ((v.take i).drop fr)=[] then [] else [trim ((v.take i).drop fr)])++ws v (i+1) (i+1) st=X:=by
  rw [← e,rest7_in (i:=i) (by omega),rest7_in (i:=i+1) (by omega),zS (dd:=0) h,hb,hs]
  have e2:(v.take (i+1)).drop (i+1)=[]:=List.drop_of_length_le (by rw [List.length_take];exact Nat.min_le_left _ _)
  have e3:zY 44 0 ((v.take i).drop fr) (44::v.drop (i+1))=(v.take i).drop fr::zY 44 0 [] (v.drop (i+1)):=by
    rw [zY,if_neg (by decide),if_neg (by decide),if_neg (by decide),if_pos rfl]
  rw [e2,e3,memG_cons]
  split <;> simp
theorem split_last (h:i=v.length) (e:acc++ws v i fr st=X):acc++(if trim ((v.take i).drop fr)=[] then [] else [trim ((v.take i).drop fr)])++ws v (i+1) (i+1) st=X:=by
  have e1:v.drop i=[]:=List.drop_of_length_le (by omega)
  rw [← e,rest7_in (i:=i) (by omega),rest7_out (i:=i+1) (by omega),e1,zY,memG_cons]
  split <;> simp [memG]
theorem split_done (h:v.length<i∨64≤acc.length) (h2:acc.length≤64) (e:acc++ws v i fr st=memG (cutF v 44)):acc=YD v:=by
  unfold YD
  rw [← e]
  rcases h with h | h
  · unfold ws
    rw [if_neg (by omega),List.append_nil,List.take_of_length_le h2]
  · rw [List.take_append_of_le_length h,List.take_of_length_le h2]
theorem rest7_zero:ws v 0 0 0=memG (cutF v 44):=by unfold ws cutF;simp
end
theorem memG_step {X acc Y:List Str} {i:Nat} (h:i<X.length) (e:acc++memG (X.drop i)=Y):acc++(if trim (X.getD i [])=[] then [] else [trim (X.getD i [])])++memG (X.drop (i+1))=Y:=by
  rw [← e,zS (dd:=[]) h,memG_cons]
  split <;> simp
theorem memG_done {v:Str} {acc:List Str} {i:Nat} (h:¬ i<(cutF v 44).length∨64≤acc.length) (h2:acc.length≤64) (e:acc++memG ((cutF v 44).drop i)=memG (cutF v 44)):acc=YD v:=by
  unfold YD
  rw [← e]
  rcases h with h | h
  · rw [List.drop_of_length_le (by omega)]
    simp only [memG,List.map_nil,List.filter_nil,List.append_nil]
    rw [List.take_of_length_le h2]
  · rw [List.take_append_of_le_length h,List.take_of_length_le h2]
theorem wC (v:Str):(YD v).length≤64:=by unfold YD;rw [List.length_take];omega
theorem splitF_mem (v:Str):∀ x∈YD v,x.length≤v.length:=fun x hx=>by
  have h1:=List.mem_of_mem_take hx
  unfold memG at h1
  obtain ⟨h2,_⟩:=List.mem_filter.1 h1
  obtain ⟨y,hy,rfl⟩:=List.mem_map.1 h2
  have:=ZP y
  have:=qC v 44 y hy
  omega
def allV (vs:List Str):List Str:=(vs.flatMap YD).take 64
def allF (l:List Fld) (name:Str):List Str:=allV (getF l name)
theorem ZC (vs:List Str):(allV vs).length≤64:=by unfold allV;rw [List.length_take];omega
theorem Zr {vs:List Str} {n:Nat} (h:∀ v∈vs,v.length≤n):∀ x∈allV vs,x.length≤n:=fun x hx=>by
  obtain ⟨v,hv,hx⟩:=List.mem_flatMap.1 (List.mem_of_mem_take hx)
  have:=splitF_mem v x hx
  have:=h v hv
  omega
theorem z7 {l:List Fld} {name:Str} {n:Nat} (h:∀ x∈l,x.1.length≤n∧x.2.length≤n):∀ v∈getF l name,v.length≤n:=fun v hv=>by
  unfold getF at hv
  obtain ⟨f,hf,rfl⟩:=List.mem_map.1 hv
  exact (h f (List.mem_filter.1 hf).1).2
theorem flat_take_step {vs:List Str} {i:Nat} (h:i<vs.length):(vs.take (i+1)).flatMap YD=(vs.take i).flatMap YD++YD (vs.getD i []):=w8 h
theorem take64_step {X m:List Str} {k:Nat} (h:k<m.length) (h2:((X++m.take k).take 64).length<64):(X++m.take k).take 64++[m.getD k []]=(X++m.take (k+1)).take 64:=by
  rw [List.length_take] at h2
  have h3:(X++m.take k).length<64:=by omega
  have h4:(X++m.take (k+1)).length≤64:=by simp only [List.length_append,List.length_take] at h3 ⊢;omega
  rw [List.take_of_length_le (Nat.le_of_lt h3),List.take_of_length_le h4,List.take_succ_eq_append_getElem h,zr h,List.append_assoc]
theorem take64_end {X m:List Str} {k:Nat} (hk:k≤m.length) (h:¬ k<m.length∨64≤((X++m.take k).take 64).length):(X++m.take k).take 64=(X++m).take 64:=by
  rcases h with h | h
  · rw [List.take_of_length_le (l:=m) (i:=k) (by omega)]
  · have h2:(X++m).take (X++m.take k).length=X++m.take k:=by
      rw [List.length_append,List.take_append]
      rw [List.take_of_length_le (by omega)]
      congr 1
      rw [List.length_take]
      rw [show X.length+min k m.length-X.length=k by omega]
    rw [← h2,List.take_take]
    congr 1
    rw [List.length_take] at h
    omega
def Yl (sep:Str):List Str→Str
  | []=>[]
  | x::r=>r.foldl (fun a y=>a++sep++y) x
theorem joinS_step {sep x:Str} {r:List Str} {i:Nat} (h:i<r.length):Yl sep (x::r.take (i+1))=(Yl sep (x::r.take i)++sep)++r.getD i []:=by
  unfold Yl
  simp only
  rw [List.take_succ_eq_append_getElem h,List.foldl_append,zr h]
  rfl

/-! ### Quality values -/
def digB (c:UInt8):Bool:=decide (48≤c)&&decide (c≤57)
def digV (c:UInt8):Nat:=(c-48).toNat
def badQ (s:Str):Bool:=decide (s=[])||decide (5<s.length)||(!decide (s.getD 0 0=48)&&!decide (s.getD 0 0=49))||(decide (1<s.length)&&!decide (s.getD 1 0=46))
/-- The weight of the digit at i. -/
def wq (i:Nat):Nat:=if i=0 then 1000 else if i=2 then 100 else if i=3 then 10 else if i=4 then 1 else 0
def sumQ (s:Str) (i:Nat):Nat:=(List.range i).foldl (fun q k=>if k=1 then q else q+wq k*digV (s.getD k 0)) 0
def digsQ (s:Str):Bool:=(s.drop 2).all digB
def Yq (s:Str):Nat×Bool :=
  if badQ s=true then (0,false) else if digsQ s=false then (0,false) else if 1000<sumQ s s.length then (0,false) else (sumQ s s.length,true)

/-! ### Language tags -/
def Yz (c:UInt8):Str→Str→List Str
  | cur,[]=>[cur]
  | cur,b::r=>if b=c then cur::Yz c [] r else Yz c (cur++[b]) r
def subt (s:Str):List Str:=Yz 45 [] s
def alphaB (c:UInt8):Bool:=(decide (97≤c)&&decide (c≤122))||(decide (65≤c)&&decide (c≤90))
def wW (d:Bool) (s:Str):Bool:=s.all (fun c=>alphaB c||(d&&digB c))&&!decide (s=[])&&decide (s.length≤8)
def tagF (s:Str):Bool:=match subt s with
  | []=>false
  | x::r=>wW false x&&r.all (wW true)
def q7 (s:Str):Bool:=decide (s=[42])||tagF s
def qL (r t:Str):Int :=
  if q7 r=false∨tagF t=false then -1 else if r=[42] then 0
  else if (subt (lower r)).isPrefixOf (subt (lower t))=true then ((subt r).length:Nat) else -1

/-! ### Preferences -/
def zl (kind:Int):Str :=
  if kind=1 then [65,99,99,101,112,116] else if kind=2 then [65,99,99,101,112,116,45,76,97,110,103,117,97,103,101]
  else if kind=3 then [65,99,99,101,112,116,45,67,104,97,114,115,101,116] else if kind=4 then [65,99,99,101,112,116,45,69,110,99,111,100,105,110,103] else []
def zF (name:Str):Int:=if fold name (zl 1) then 1 else if fold name (zl 2) then 2 else if fold name (zl 3) then 3 else if fold name (zl 4) then 4 else 0
theorem Za (kind:Int):(zl kind).length≤15:=by unfold zl;(repeat' split) <;> decide
def qAt (l:List Prm):Nat:=l.findIdx fun p=>decide (p.1=[113])
def idxQ (l:List Prm):Int:=if qAt l<l.length then (qAt l:Int) else -1
theorem idxQ_found {l:List Prm} (h:qAt l<l.length):idxQ l=((qAt l:Nat):Int):=if_pos h
theorem idxQ_none {l:List Prm} (h:¬ qAt l<l.length):idxQ l=-1:=if_neg h
theorem qAt_miss {l:List Prm} {i:Nat} (h:i<l.length) (h2:¬ (l.getD i ([],[])).1=[113]) (e:i+qAt (l.drop i)=qAt l):i+1+qAt (l.drop (i+1))=qAt l:=by
  rw [← e,zS (dd:=([],[])) h]
  revert h2
  generalize l.getD i ([],[])=p
  intro h2
  simp [qAt,List.findIdx_cons,h2];omega
theorem qAt_hit {l:List Prm} {i:Nat} (h:i<l.length) (h2:(l.getD i ([],[])).1=[113]) (e:i+qAt (l.drop i)=qAt l):qAt l=i:=by
  rw [← e,zS (dd:=([],[])) h]
  revert h2
  generalize l.getD i ([],[])=p
  intro h2
  simp [qAt,List.findIdx_cons,h2]
theorem qAt_end {l:List Prm} {i:Nat} (h:l.length≤i) (e:i+qAt (l.drop i)=qAt l):¬ qAt l<l.length:=by omega
def zo (kind:Int) (v:Str) (ps:List Prm):Str×Bool :=
  if kind=1 then (w6 ((y3 v).1.1,(y3 v).1.2.1,ps),(y3 v).2)
  else if kind=2 then (canonical kind v,q7 v&&decide (ps.length=0)) else (canonical kind v,token v&&decide (ps.length=0))
abbrev Prf:=Str×Int
def Yt (kind:Int) (s:Str):Prf×Bool :=
  if (yz s).2.2=false then (([],0),false)
  else if qAt (yz s).2.1<(yz s).2.1.length then
    (if (Yq ((yz s).2.1.getD (qAt (yz s).2.1) ([],[])).2).2=false then (([],0),false)
     else (((zo kind (yz s).1 ((yz s).2.1.take (qAt (yz s).2.1))).1,(((Yq ((yz s).2.1.getD (qAt (yz s).2.1) ([],[])).2).1:Nat):Int)),(zo kind (yz s).1 ((yz s).2.1.take (qAt (yz s).2.1))).2))
  else (((zo kind (yz s).1 (yz s).2.1).1,1000),(zo kind (yz s).1 (yz s).2.1).2)
def wy (kind:Int) (m:List Str):List Prf:=((m.map (Yt kind)).filter (·.2)).map (·.1)
theorem prefsM_hit {kind:Int} {m:List Str} {i:Nat} (h:i<m.length) (h2:(Yt kind (m.getD i [])).2=true):wy kind (m.take (i+1))=wy kind (m.take i)++[(Yt kind (m.getD i [])).1]:=by
  unfold wy
  rw [List.take_succ_eq_append_getElem h,List.map_append,List.filter_append,List.map_append,← zr (dd:=[]) h]
  simp only [List.map_cons,List.map_nil,List.filter_cons,h2,if_true,List.filter_nil]
theorem prefsM_miss {kind:Int} {m:List Str} {i:Nat} (h:i<m.length) (h2:(Yt kind (m.getD i [])).2=false):wy kind (m.take (i+1))=wy kind (m.take i):=by
  unfold wy
  rw [List.take_succ_eq_append_getElem h,List.map_append,List.filter_append,List.map_append,← zr (dd:=[]) h]
  simp only [List.map_cons,List.map_nil,List.filter_cons,h2,Bool.false_eq_true,if_false,List.filter_nil,List.append_nil]
def ZU (kind:Int) (l:List Fld):List Prf×Bool :=
  if (decide (zl kind=[])||!decide (0<(getF l (zl kind)).length))=true then ([],false) else (wy kind (allF l (zl kind)),true)
theorem prefsF_no {kind:Int} {l:List Fld} (h:(decide (zl kind=[])||!decide (0<(getF l (zl kind)).length))=true):ZU kind l=([],false):=if_pos h
theorem prefsF_yes {kind:Int} {l:List Fld} (h:(decide (zl kind=[])||!decide (0<(getF l (zl kind)).length))=false):ZU kind l=(wy kind (allF l (zl kind)),true):=if_neg (by rw [h];simp)
theorem prefsM_length (kind:Int) (m:List Str):(wy kind m).length≤m.length:=by
  unfold wy;rw [List.length_map];exact Nat.le_trans (List.length_filter_le ..) (by rw [List.length_map];exact Nat.le_refl _)
end Go.Plain

namespace Go.Plain
open Go
set_option linter.unusedSimpArgs false
set_option linter.unusedVariables false

section
variable {v:Str} {i fr st:Nat} {acc X:List Str}
theorem split_put (hi:i≤v.length) (h2:¬ i<v.length∨(st=0∧v.getD i 0=44)) (h3:¬ trim ((v.take i).drop fr)=[]) (e:acc++ws v i fr st=X):acc++[trim ((v.take i).drop fr)]++ws v (i+1) (i+1) st=X:=by
  by_cases h:i<v.length
  · obtain ⟨a,b⟩:=h2.resolve_left (fun q=>q h)
    have:=split_cut h a b e
    rwa [if_neg h3] at this
  · have:=split_last (by omega) e
    rwa [if_neg h3] at this
theorem split_skip (hi:i≤v.length) (h2:¬ i<v.length∨(st=0∧v.getD i 0=44)) (h3:trim ((v.take i).drop fr)=[]) (e:acc++ws v i fr st=X):acc++ws v (i+1) (i+1) st=X:=by
  by_cases h:i<v.length
  · obtain ⟨a,b⟩:=h2.resolve_left (fun q=>q h)
    have:=split_cut h a b e
    rwa [if_pos h3,List.append_nil] at this
  · have:=split_last (by omega) e
    rwa [if_pos h3,List.append_nil] at this
end
theorem take_min {α:Type} {X:List α} {n:Nat}:(X.take (min X.length n)).drop 0=X.take n:=by
  rw [List.drop_zero]
  by_cases h:X.length≤n
  · rw [Nat.min_eq_left h,List.take_length,List.take_of_length_le h]
  · rw [Nat.min_eq_right (by omega)]

/-! ### Cutting at a byte -/
theorem pos_cons (b:UInt8) (r:Str) (c:UInt8):pos (b::r) c=if b=c then 0 else pos r c+1:=by
  unfold pos
  rw [List.findIdx_cons]
  by_cases h:b=c <;> simp [h]
theorem cutAt_some {c:UInt8}:∀ {t:Str} (cur:Str),pos t c<t.length→Yz c cur t=(cur++t.take (pos t c))::Yz c [] (t.drop (pos t c+1))
  | [],cur,h=>by simp at h
  | b::r,cur,h=>by
    rw [pos_cons] at h ⊢
    by_cases hb:b=c
    · rw [Yz,if_pos hb,if_pos hb];simp
    · rw [if_neg hb] at h ⊢
      rw [Yz,if_neg hb,cutAt_some (t:=r) (cur++[b]) (by simpa using h)]
      simp
theorem cutAt_none {c:UInt8}:∀ {t:Str} (cur:Str),¬ pos t c<t.length→Yz c cur t=[cur++t]
  | [],cur,h=>by simp [Yz]
  | b::r,cur,h=>by
    rw [pos_cons] at h
    by_cases hb:b=c
    · rw [if_pos hb] at h;simp at h
    · rw [if_neg hb] at h
      rw [Yz,if_neg hb,cutAt_none (t:=r) (cur++[b]) (by simpa using h)]
      simp
theorem count_some {c:UInt8}:∀ {t:Str},pos t c<t.length→(t.drop (pos t c+1)).count c+1=t.count c
  | [],h=>by simp at h
  | b::r,h=>by
    rw [pos_cons] at h ⊢
    by_cases hb:b=c
    · rw [if_pos hb];simp [hb]
    · rw [if_neg hb] at h ⊢
      have:=count_some (t:=r) (by simpa using h)
      rw [List.count_cons_of_ne hb]
      simpa using this
theorem wc {c:UInt8}:∀ (t cur:Str),(Yz c cur t).length=t.count c+1
  | [],cur=>by simp [Yz]
  | b::r,cur=>by
    rw [Yz]
    by_cases hb:b=c
    · rw [if_pos hb,List.length_cons,wc r [],hb,List.count_cons_self]
    · rw [if_neg hb,wc r (cur++[b]),List.count_cons_of_ne hb]
theorem cutAt_mem {c:UInt8}:∀ (t cur:Str),∀ x∈Yz c cur t,x.length≤cur.length+t.length
  | [],cur,x,hx=>by simp [Yz] at hx;simp [hx]
  | b::r,cur,x,hx=>by
    rw [Yz] at hx
    by_cases hb:b=c
    · rw [if_pos hb] at hx
      rcases List.mem_cons.1 hx with rfl | hx
      · omega
      · have:=cutAt_mem r [] x hx;simp at this ⊢;omega
    · rw [if_neg hb] at hx
      have:=cutAt_mem r (cur++[b]) x hx
      simp at this ⊢;omega
theorem subt_mem (s:Str):∀ x∈subt s,x.length≤s.length:=fun x hx=>by have:=cutAt_mem s [] x hx;simpa using this
theorem count_len (c:UInt8) (s:Str):s.count c≤s.length:=List.count_le_length
theorem subt_length (s:Str):(subt s).length≤s.length+1:=by unfold subt;rw [wc];have:=count_len 45 s;omega
theorem gs_go {xs:List Str} {i:Nat} {t:Str} {c:UInt8} {X:List Str} (hi:i<xs.length) (hp:pos t c<t.length) (e:xs.take i++Yz c [] t=X):(xs.set i (t.take (pos t c))).take (i+1)++Yz c [] (t.drop (pos t c+1))=X:=by
  rw [← e,cutAt_some [] hp,List.nil_append,List.take_succ_eq_append_getElem (by simpa using hi),List.take_set,List.set_eq_of_length_le (by rw [List.length_take];omega)]
  simp
theorem gs_end {xs:List Str} {i:Nat} {t:Str} {c:UInt8} {X:List Str} (hi:i<xs.length) (hp:¬ pos t c<t.length) (e:xs.take i++Yz c [] t=X):(xs.set i t).take (i+1)=X:=by
  rw [← e,cutAt_none [] hp,List.nil_append,List.take_succ_eq_append_getElem (by simpa using hi),List.take_set,List.set_eq_of_length_le (by rw [List.length_take];omega)]
  simp

/-! ### Language tags -/
def lowOk (d:Bool) (c:UInt8):Bool:=(decide (97≤c)&&decide (c≤122))||(d&&digB c)
theorem low_sub (d:Bool) (s:Str):(lower s).all (lowOk d)=s.all (fun c=>alphaB c||(d&&digB c)):=by
  unfold lower
  rw [List.all_map]
  congr 1
  funext c
  cases d
  · simpa using all_u8 (fun c=>decide (lowOk false (lowerB c)=(alphaB c||(false&&digB c)))) (by decide +kernel) c
  · simpa using all_u8 (fun c=>decide (lowOk true (lowerB c)=(alphaB c||(true&&digB c)))) (by decide +kernel) c
theorem sub_bad {d:Bool} {s:Str} {i:Nat} (h:i<(lower s).length) (h2:lowOk d ((lower s).getD i 0)=false):wW d s=false:=by
  unfold wW
  rw [← low_sub]
  have:(lower s).all (lowOk d)=false:=by
    rw [List.all_eq_false]
    exact ⟨_,yZ h,by rw [h2];simp⟩
  rw [this];rfl
theorem sub_end {d:Bool} {s:Str} (h:(lower s).all (lowOk d)=true):wW d s=(!decide (s=[])&&decide (s.length≤8)):=by
  unfold wW
  rw [← low_sub,h];rfl
theorem tag_bad {s:Str} {i:Nat} (h:i<(subt s).length) (h2:wW (decide (0<i)) ((subt s).getD i [])=false):tagF s=false:=by
  unfold tagF
  generalize subt s=X at h h2 ⊢
  cases X with
  | nil=>rfl
  | cons x r =>
    cases i with
    | zero=>simp at h2;simp [h2]
    | succ i =>
      have:r.all (wW true)=false:=by
        rw [List.all_eq_false]
        refine ⟨_,yZ (dd:=[]) (i:=i) (by simpa using h),?_⟩
        simp at h2;simp [h2]
      show (wW false x&&r.all (wW true))=false
      rw [this];simp
theorem tag_end {s:Str} (h:∀ k,k<(subt s).length→wW (decide (0<k)) ((subt s).getD k [])=true):tagF s=true:=by
  have h0:(subt s).length≠0:=by unfold subt;rw [wc];omega
  unfold tagF
  generalize subt s=X at h h0 ⊢
  cases X with
  | nil=>simp at h0
  | cons x r =>
    have h1:=h 0 (by simp)
    simp only [Nat.lt_irrefl,decide_false,List.getD_cons_zero] at h1
    have h2:r.all (wW true)=true:=by
      rw [List.all_eq_true]
      intro y hy
      obtain ⟨k,hk,rfl⟩:=List.getElem_of_mem hy
      have:=h (k+1) (by simpa using hk)
      simpa [List.getD_eq_getElem?_getD,hk] using this
    simp [h1,h2]

/-! ### Quality values -/
theorem wq_le (i:Nat):wq i≤1000:=by unfold wq;(repeat' split) <;> omega
theorem digV_le (c:UInt8):digV c≤255:=by have:=(c-48).toNat_lt;unfold digV;omega
theorem wd_le (i:Nat) (c:UInt8):wq i*digV c≤255000:=by
  have:=Nat.mul_le_mul (wq_le i) (digV_le c)
  omega
theorem wq_get {i:Nat} (h:i<5):[((1000:Nat):Int),((0:Nat):Int),((100:Nat):Int),((10:Nat):Int),((1:Nat):Int)].getD i 0=((wq i:Nat):Int):=by
  have:i=0∨i=1∨i=2∨i=3∨i=4:=by omega
  rcases this with rfl | rfl | rfl | rfl | rfl <;> rfl
theorem sumQ_one (s:Str):sumQ s (1+1)=sumQ s 1:=by unfold sumQ;rw [List.range_succ,List.foldl_append];rfl
theorem sumQ_step {s:Str} {i:Nat} (h:¬ i=1):sumQ s (i+1)=sumQ s i+wq i*digV (s.getD i 0):=by
  unfold sumQ;rw [List.range_succ,List.foldl_append];simp [h]
theorem badQ_len {s:Str} (h:badQ s=false):0<s.length∧s.length≤5:=by
  unfold badQ at h
  simp only [Bool.or_eq_false_iff,decide_eq_false_iff_not] at h
  have:=List.length_pos_iff.2 h.1.1.1
  omega
theorem dig_step {s:Str} {i:Nat} (hi:i<s.length) (h:digB (s.getD i 0)=true) (e:((s.take i).drop 2).all digB=true):((s.take (i+1)).drop 2).all digB=true:=by
  by_cases h2:2≤i
  · rw [Zi hi h2,List.all_append,e];simp only [List.all_cons,List.all_nil,h];rfl
  · rw [List.drop_of_length_le (by rw [List.length_take];omega)];rfl
theorem dig_one {s:Str}:((s.take (1+1)).drop 2).all digB=true:=by
  rw [List.drop_of_length_le (by rw [List.length_take];omega)];rfl
theorem parseQ_bad {s:Str} (h:badQ s=true):Yq s=(0,false):=if_pos h
theorem parseQ_dig {s:Str} {i:Nat} (hb:badQ s=false) (hi:i<s.length) (h1:¬ i=1) (h:digB (s.getD i 0)=false):Yq s=(0,false):=by
  have h2:2≤i:=by
    rcases Nat.lt_or_ge i 2 with h2 | h2
    · obtain rfl:i=0:=by omega
      unfold badQ at hb
      simp only [Bool.or_eq_false_iff,Bool.and_eq_false_iff,Bool.not_eq_false',decide_eq_true_eq] at hb
      rcases hb.1.2 with e | e <;> (rw [e] at h;revert h;decide)
    · exact h2
  have hd:digsQ s=false:=by
    unfold digsQ
    rw [List.all_eq_false]
    refine ⟨s.getD i 0,?_,by rw [h];simp⟩
    rw [zr hi]
    have:i-2<(s.drop 2).length:=by rw [List.length_drop];omega
    have h3:(s.drop 2)[i-2]=s[i]:=by rw [List.getElem_drop];congr 1;omega
    rw [← h3];exact List.getElem_mem this
  unfold Yq
  rw [if_neg (by rw [hb];simp),if_pos hd]
theorem digs_end {s:Str} {i:Nat} (hi:s.length≤i) (e:((s.take i).drop 2).all digB=true):digsQ s=true:=by
  rw [Zg hi] at e;exact e
theorem parseQ_big {s:Str} (hb:badQ s=false) (hd:digsQ s=true) (h:1000<sumQ s s.length):Yq s=(0,false):=by
  unfold Yq;rw [if_neg (by rw [hb];simp),if_neg (by rw [hd];simp),if_pos h]
theorem parseQ_ok {s:Str} (hb:badQ s=false) (hd:digsQ s=true) (h:¬ 1000<sumQ s s.length):Yq s=(sumQ s s.length,true):=by
  unfold Yq;rw [if_neg (by rw [hb];simp),if_neg (by rw [hd];simp),if_neg h]
/-! ### Preferences -/
theorem kindF_hit {name:Str} {k:Nat} (h1:1≤k) (h2:k≤4) (hm:∀ j:Nat,1≤j→j<k→fold name (zl (j:Int))=false) (h:fold name (zl (k:Int))=true):zF name=(k:Int):=by
  have:k=1∨k=2∨k=3∨k=4:=by omega
  rcases this with rfl | rfl | rfl | rfl
  · have a:fold name (zl 1)=true:=h
    unfold zF;rw [if_pos a];rfl
  · have a1:fold name (zl 1)=false:=hm 1 (by omega) (by omega)
    have a:fold name (zl 2)=true:=h
    unfold zF;rw [if_neg (by rw [a1];simp),if_pos a];rfl
  · have a1:fold name (zl 1)=false:=hm 1 (by omega) (by omega)
    have a2:fold name (zl 2)=false:=hm 2 (by omega) (by omega)
    have a:fold name (zl 3)=true:=h
    unfold zF;rw [if_neg (by rw [a1];simp),if_neg (by rw [a2];simp),if_pos a];rfl
  · have a1:fold name (zl 1)=false:=hm 1 (by omega) (by omega)
    have a2:fold name (zl 2)=false:=hm 2 (by omega) (by omega)
    have a3:fold name (zl 3)=false:=hm 3 (by omega) (by omega)
    have a:fold name (zl 4)=true:=h
    unfold zF;rw [if_neg (by rw [a1];simp),if_neg (by rw [a2];simp),if_neg (by rw [a3];simp),if_pos a];rfl
theorem kindF_none {name:Str} {k:Nat} (h2:4<k) (hm:∀ j:Nat,1≤j→j<k→fold name (zl (j:Int))=false):zF name=0:=by
  have a1:fold name (zl 1)=false:=hm 1 (by omega) (by omega)
  have a2:fold name (zl 2)=false:=hm 2 (by omega) (by omega)
  have a3:fold name (zl 3)=false:=hm 3 (by omega) (by omega)
  have a4:fold name (zl 4)=false:=hm 4 (by omega) (by omega)
  unfold zF;rw [if_neg (by rw [a1];simp),if_neg (by rw [a2];simp),if_neg (by rw [a3];simp),if_neg (by rw [a4];simp)]
theorem pref_bad {kind:Int} {s:Str} (h:(yz s).2.2=false):Yt kind s=(([],0),false):=if_pos h
theorem pref_badq {kind:Int} {s:Str} (h:¬ (yz s).2.2=false) (hq:qAt (yz s).2.1<(yz s).2.1.length) (h2:(Yq ((yz s).2.1.getD (qAt (yz s).2.1) ([],[])).2).2=false):Yt kind s=(([],0),false):=by
  unfold Yt;rw [if_neg h,if_pos hq,if_pos h2]
theorem pref_q {kind:Int} {s:Str} (h:¬ (yz s).2.2=false) (hq:qAt (yz s).2.1<(yz s).2.1.length) (h2:¬ (Yq ((yz s).2.1.getD (qAt (yz s).2.1) ([],[])).2).2=false) :
    Yt kind s=(((zo kind (yz s).1 ((yz s).2.1.take (qAt (yz s).2.1))).1,(((Yq ((yz s).2.1.getD (qAt (yz s).2.1) ([],[])).2).1:Nat):Int)),(zo kind (yz s).1 ((yz s).2.1.take (qAt (yz s).2.1))).2):=by
  unfold Yt;rw [if_neg h,if_pos hq,if_neg h2]
theorem pref_plain {kind:Int} {s:Str} (h:¬ (yz s).2.2=false) (hq:¬ qAt (yz s).2.1<(yz s).2.1.length):Yt kind s=(((zo kind (yz s).1 (yz s).2.1).1,1000),(zo kind (yz s).1 (yz s).2.1).2):=by
  unfold Yt;rw [if_neg h,if_neg hq]
end Go.Plain

namespace Go.Plain
open Go
set_option linter.unusedSimpArgs false
set_option linter.unusedVariables false

theorem split_more {X acc Y:List Str} {i:Nat} (h:i<X.length) (h3:¬ trim (X.getD i [])=[]) (e:acc++memG (X.drop i)=Y):acc++[trim (X.getD i [])]++memG (X.drop (i+1))=Y:=by
  have:=memG_step h e
  rwa [if_neg h3] at this
theorem split_less {X acc Y:List Str} {i:Nat} (h:i<X.length) (h3:trim (X.getD i [])=[]) (e:acc++memG (X.drop i)=Y):acc++memG (X.drop (i+1))=Y:=by
  have:=memG_step h e
  rwa [if_pos h3,List.append_nil] at this

/-! ### Tags -/
/-! ### Quality values -/
def badQ2 (s:Str):Bool:=decide (s.length<1)||decide (5<s.length)||(!decide (s.getD 0 0=48)&&!decide (s.getD 0 0=49))||(decide (1<s.length)&&!decide (s.getD 1 0=46))
/-! ### A member -/
theorem prefsF_length (kind:Int) (l:List Fld):(ZU kind l).1.length≤64:=by
  unfold ZU
  split
  · simp
  · exact Nat.le_trans (prefsM_length _ _) (ZC _)
end Go.Plain

namespace Go.Plain
open Go
set_option linter.unusedSimpArgs false
set_option linter.unusedVariables false

end Go.Plain

namespace Go.Plain
open Go
set_option linter.unusedSimpArgs false
set_option linter.unusedVariables false

def hasP (s p:Str):Bool:=decide (p.length≤s.length)&&decide (s.take p.length=p)
theorem hasP_iff {s p:Str}:hasP s p=true↔p <+: s:=by
  unfold hasP
  rw [Bool.and_eq_true,decide_eq_true_eq,decide_eq_true_eq,List.prefix_iff_eq_take]
  exact ⟨fun h=>h.2.symm,fun h=>⟨by rw [h,List.length_take];omega,h.symm⟩⟩
theorem cutAt_free:∀ (s cur:Str),(45:UInt8) ∉ cur→∀ x∈Yz 45 cur s,(45:UInt8) ∉ x
  | [],cur,hc,x,hx=>by simp [Yz] at hx;rw [hx];exact hc
  | b::r,cur,hc,x,hx=>by
    rw [Yz] at hx
    by_cases hb:b=45
    · rw [if_pos hb] at hx
      rcases List.mem_cons.1 hx with rfl | hx
      · exact hc
      · exact cutAt_free r [] (by simp) x hx
    · rw [if_neg hb] at hx
      exact cutAt_free r (cur++[b]) (by simp [hc];exact fun e=>hb e.symm) x hx
theorem subt_free (s:Str):∀ x∈subt s,(45:UInt8) ∉ x:=cutAt_free s [] (by simp)
theorem cutAt_back:∀ (s cur:Str),(Yz 45 cur s).flatMap (fun x=>x++[45])=cur++s++[45]
  | [],cur=>by simp [Yz]
  | b::r,cur=>by
    rw [Yz]
    by_cases hb:b=45
    · rw [if_pos hb,List.flatMap_cons,cutAt_back r [],hb];simp
    · rw [if_neg hb,cutAt_back r (cur++[b])];simp
theorem subt_back (s:Str):(subt s).flatMap (fun x=>x++[45])=s++[45]:=cutAt_back s []
theorem free_eq:∀ {x y u v:Str},(45:UInt8) ∉ x→(45:UInt8) ∉ y→(x++45::u) <+: (y++45::v)→x=y∧u <+: v
  | [],[],u,v,_,_,h=>⟨rfl,by simpa using h⟩
  | [],b::y,u,v,_,hy,h=>by
    simp only [List.nil_append,List.cons_append,List.cons_prefix_cons] at h
    exact absurd (by rw [← h.1];simp) hy
  | a::x,[],u,v,hx,_,h=>by
    simp only [List.nil_append,List.cons_append,List.cons_prefix_cons] at h
    exact absurd (by rw [h.1];simp) hx
  | a::x,b::y,u,v,hx,hy,h=>by
    simp only [List.cons_append,List.cons_prefix_cons] at h
    obtain ⟨e,h2⟩:=free_eq (x:=x) (y:=y) (fun q=>hx (by simp [q])) (fun q=>hy (by simp [q])) h.2
    exact ⟨by rw [h.1,e],h2⟩
theorem flat_prefix:∀ {X Y:List Str},(∀ x∈X,(45:UInt8) ∉ x)→(∀ y∈Y,(45:UInt8) ∉ y)→(X.flatMap (fun x=>x++[45]) <+: Y.flatMap (fun x=>x++[45])↔X <+: Y)
  | [],Y,_,_=>by simp
  | x::X,[],_,_=>by simp
  | x::X,y::Y,hX,hY=>by
    rw [List.flatMap_cons,List.flatMap_cons,List.append_assoc,List.append_assoc,List.singleton_append,List.singleton_append,List.cons_prefix_cons]
    constructor
    · intro h
      obtain ⟨e,h2⟩:=free_eq (hX x (by simp)) (hY y (by simp)) h
      exact ⟨e,(flat_prefix (fun z hz=>hX z (by simp [hz])) (fun z hz=>hY z (by simp [hz]))).1 h2⟩
    · rintro ⟨rfl,h⟩
      have:=(flat_prefix (fun z hz=>hX z (by simp [hz])) (fun z hz=>hY z (by simp [hz]))).2 h
      obtain ⟨t,e⟩:=this
      exact ⟨t,by rw [← e];simp⟩
theorem hasP_sub (s p:Str):hasP (s++[45]) (p++[45])=(subt p).isPrefixOf (subt s):=by
  rw [Bool.eq_iff_iff,hasP_iff,List.isPrefixOf_iff_prefix,← subt_back s,← subt_back p]
  exact flat_prefix (subt_free p) (subt_free s)
theorem tagM_no {r t:Str} (h:q7 r=false∨tagF t=false):qL r t=-1:=if_pos h
theorem tagM_all {r t:Str} (h:¬ (q7 r=false∨tagF t=false)) (h2:r=[42]):qL r t=0:=by unfold qL;rw [if_neg h,if_pos h2]
theorem tagM_pre {r t:Str} (h:¬ (q7 r=false∨tagF t=false)) (h2:¬ r=[42]) (h3:hasP (lower t++[45]) (lower r++[45])=true):qL r t=((List.count 45 r+1:Nat):Int):=by
  unfold qL
  rw [if_neg h,if_neg h2,if_pos (by rw [← hasP_sub];exact h3)]
  unfold subt
  rw [wc]
theorem tagM_not {r t:Str} (h:¬ (q7 r=false∨tagF t=false)) (h2:¬ r=[42]) (h3:hasP (lower t++[45]) (lower r++[45])=false):qL r t=-1:=by
  unfold qL
  rw [if_neg h,if_neg h2,if_neg (by rw [← hasP_sub,h3];simp)]
/-! ### Matching in general -/
def YP (kind:Int) (r v:Str):Int :=
  if kind=1 then (if (y3 r).2=false∨(zf v).2=false then -1 else qK (y3 r).1 (zf v).1)
  else if kind=2 then qL r v
  else if kind=3∨kind=4 then (if (token r=false∨token v=false)∨v=[42] then -1 else YY kind r v) else -1
section
variable {kind:Int} {r v:Str}
theorem mK1_no (hk:kind=1) (h:(y3 r).2=false∨(zf v).2=false):YP kind r v=-1:=by unfold YP;rw [if_pos hk,if_pos h]
theorem mK1_yes (hk:kind=1) (h:(y3 r).2=true∧(zf v).2=true):YP kind r v=qK (y3 r).1 (zf v).1:=by unfold YP;rw [if_pos hk,if_neg (by rw [h.1,h.2];simp)]
theorem mK2 (h1:¬ kind=1) (hk:kind=2):YP kind r v=qL r v:=by unfold YP;rw [if_neg h1,if_pos hk]
theorem mK3_no (h1:¬ kind=1) (h2:¬ kind=2) (hk:kind=3∨kind=4) (h:(token r=false∨token v=false)∨v=[42]):YP kind r v=-1:=by unfold YP;rw [if_neg h1,if_neg h2,if_pos hk,if_pos h]
theorem mK3_yes (h1:¬ kind=1) (h2:¬ kind=2) (hk:kind=3∨kind=4) (h:(token r=true∧token v=true)∧¬ v=[42]):YP kind r v=YY kind r v:=by unfold YP;rw [if_neg h1,if_neg h2,if_pos hk,if_neg (by rw [h.1.1,h.1.2];simp [h.2])]
theorem mK5 (h1:¬ kind=1) (h2:¬ kind=2) (h3:¬ kind=3) (h4:¬ kind=4):YP kind r v=-1:=by unfold YP;rw [if_neg h1,if_neg h2,if_neg (by omega)]
end
end Go.Plain

namespace Go.Plain
open Go
set_option linter.unusedSimpArgs false
set_option linter.unusedVariables false

def digQ (q:Int):Str:=[UInt8.ofNat (((48:Nat):Int)+q / ((100:Nat):Int)).toNat,UInt8.ofNat (((48:Nat):Int)+(q / ((10:Nat):Int)) % ((10:Nat):Int)).toNat,UInt8.ofNat (((48:Nat):Int)+q % ((10:Nat):Int)).toNat]
def z48 (c:UInt8):Bool:=decide (c=48)
def fmtQ (q:Int):Str:=if q<0∨1000<q then [] else if q=0 then [48] else if q=1000 then [49] else [48,46]++Yh z48 (digQ q)
/-- The last k digits. -/
def lastD (n:Int):Nat→Str
  | 0=>[]
  | k+1=>UInt8.ofNat (((48:Nat):Int)+(n / 10 ^ k) % ((10:Nat):Int)).toNat::lastD n k
/-! ### Joining -/
theorem joinS_next {sep:Str} {l:List Str} {i:Nat} (h0:0<i) (h:i<l.length):Yl sep (l.take (i+1))=(Yl sep (l.take i)++sep)++l.getD i []:=by
  cases l with
  | nil=>simp at h
  | cons x r =>
    obtain ⟨j,rfl⟩:∃ j,i=j+1:=⟨i-1,by omega⟩
    have hj:j<r.length:=by simpa using h
    rw [List.take_succ_cons,List.take_succ_cons,joinS_step hj]
    simp
theorem joinS_first {sep:Str} {l:List Str} (h:0<l.length):Yl sep (l.take 1)=l.getD 0 []:=by
  cases l with
  | nil=>simp at h
  | cons x r=>rfl
theorem joinS_all {sep:Str} {l:List Str} {i:Nat} (h:l.length≤i):Yl sep (l.take i)=Yl sep l:=by rw [List.take_of_length_le h]
theorem tail_get {l:List Str} {i:Nat}:((l.take l.length).drop 1).getD i []=l.getD (i+1) []:=by
  rw [List.take_length,List.drop_one]
  cases l <;> simp
def memP (p:Prf):Str:=if p.2=1000 then p.1 else p.1++([59,113,61]++fmtQ p.2)
def fmtP (l:List Prf):Str:=Yl [44,32] (l.map memP)
def okR (p:Prf):Bool:=!decide (100<p.1.length)
def keepR (l:List Prf):Bool:=(l.take 21).all okR&&decide (l.length≤20)
end Go.Plain

namespace Go.Plain
open Go
set_option linter.unusedSimpArgs false
set_option linter.unusedVariables false

/-! ### Cutting at commas what was written -/
/-- A text that is one whole between commas. -/
def Whole (m:Str):Prop:=∀ cur r,zY 44 0 cur (m++r)=zY 44 0 (cur++m) r
theorem Whole.nil:Whole []:=fun cur r=>by simp
theorem joinS_flat (sep x:Str):∀ (r:List Str),Yl sep (x::r)=x++r.flatMap (fun y=>sep++y):=by
  intro r
  unfold Yl
  simp only
  induction r generalizing x with
  | nil=>simp
  | cons y r ih=>rw [List.foldl_cons,ih,List.flatMap_cons];simp
/-! ### One preference -/
def qName:Str:=[113]
def extra (q:Int):List Prm:=if q=1000 then [] else [(qName,fmtQ q)]
/-- What can be read back. -/
structure OkP (kind:Int) (p:Prf):Prop where
  ex:∃ (v:Str) (ps:List Prm) (n:Nat),Firm v∧(∀ x∈v,x≠34∧x≠59)∧(∀ x∈v,x≠34∧x≠44)∧(∀ q∈ps,Good q)∧(∀ q∈ps,q.1≠qName)∧p.1=w7 v ps∧n≤1000∧p.2=(n:Int)∧zo kind v ps=(p.1,true)
/-! ### What is read is such -/
def langB (c:UInt8):Bool:=(alphaB c||digB c)||decide (c=45)
/-! ### How long it gets -/
theorem sumP_take (i:Nat):∀ l:List Prm,sumP (l.take i)≤sumP l:=fun l=>by
  have:sumP l=sumP (l.take i)+sumP (l.drop i):=by
    conv=>lhs;rw [← List.take_append_drop i l]
    unfold sumP
    rw [List.map_append,List.sum_append]
  omega
theorem ranged_length {kind:Int} {V:Str} {ps:List Prm}:(zo kind V ps).1.length≤2*V.length+8+2*sumP ps+4*ps.length:=by
  unfold zo
  split
  · have h1:=formatP_length (((y3 V).1.1++[47])++(y3 V).1.2.1) ps
    have h2:=ZV V
    simp only [List.length_append,List.length_cons,List.length_nil] at h1
    show (w7 (((y3 V).1.1++[47])++(y3 V).1.2.1) ps).length≤_
    omega
  · split
    · have:=Qm kind V;show (canonical kind V).length≤_;omega
    · have:=Qm kind V;show (canonical kind V).length≤_;omega
theorem pref_length (kind:Int) (s:Str):(Yt kind s).1.1.length≤8*s.length+8:=by
  have a1:=zU s
  have a2:=W4 s
  have a3:=parseP_sum s
  unfold Yt
  split
  · simp
  · split
    · split
      · simp
      · have h1:=ranged_length (kind:=kind) (V:=(yz s).1) (ps:=(yz s).2.1.take (qAt (yz s).2.1))
        have h2:=sumP_take (qAt (yz s).2.1) (yz s).2.1
        have h3:((yz s).2.1.take (qAt (yz s).2.1)).length≤(yz s).2.1.length:=by rw [List.length_take];omega
        show (zo kind (yz s).1 ((yz s).2.1.take (qAt (yz s).2.1))).1.length≤_
        omega
    · have h1:=ranged_length (kind:=kind) (V:=(yz s).1) (ps:=(yz s).2.1)
      show (zo kind (yz s).1 (yz s).2.1).1.length≤_
      omega
theorem prefsF_short {kind:Int} {l:List Fld} {n:Nat} (h:∀ y∈l,y.1.length≤n∧y.2.length≤n):∀ x∈(ZU kind l).1,x.1.length≤8*n+8:=fun x hx=>by
  unfold ZU at hx
  split at hx
  · simp at hx
  · simp only at hx
    unfold wy at hx
    obtain ⟨y,hy,rfl⟩:=List.mem_map.1 hx
    obtain ⟨hy,_⟩:=List.mem_filter.1 hy
    obtain ⟨s,hs,rfl⟩:=List.mem_map.1 hy
    have h1:=pref_length kind s
    have h2:=Zr (z7 h (name:=zl kind)) s hs
    omega
theorem joinS_short {n:Nat}:∀ {X:List Str},(∀ y∈X,y.length≤n)→(Yl [44,32] X).length≤X.length*(n+2)
  | [],_=>by simp [Yl]
  | x::r,h=>by
    rw [joinS_flat]
    have hx:=h x (by simp)
    have hr:∀ (r:List Str),(∀ y∈r,y.length≤n)→(r.flatMap (fun y=>[44,32]++y)).length≤r.length*(n+2):=by
      intro r
      induction r with
      | nil=>intro _;simp
      | cons y r ih =>
        intro h
        have h1:=ih (fun z hz=>h z (by simp [hz]))
        have h2:=h y (by simp)
        rw [List.flatMap_cons,List.length_append,List.length_cons (as:=r),Nat.succ_mul]
        simp only [List.length_append,List.length_cons,List.length_nil] at h1 ⊢
        omega
    have h3:=hr r (fun y hy=>h y (by simp [hy]))
    rw [List.length_append,List.length_cons,Nat.succ_mul]
    omega
end Go.Plain

namespace Go.Plain
open Go
set_option linter.unusedSimpArgs false
set_option linter.unusedVariables false

def sIdent:Str:=[105,100,101,110,116,105,116,121]
def bestS (kind:Int) (v:Str) (s:Int×Int) (p:Prf):Int×Int:=if s.1<YP kind p.1 v then (YP kind p.1 v,p.2) else s
def WX (kind:Int) (v:Str) (l:List Prf) (q0:Int):Int×Int:=l.foldl (bestS kind v) (-1,q0)
def Ys (kind:Int) (l:List Prf) (present:Bool) (v:Str):Int :=
  if present=false then 1000 else if ((WX kind v l 0).1<0∧kind=4)∧fold v sIdent=true then 1 else (WX kind v l 0).2
section
variable {kind q0:Int} {v:Str} {l:List Prf} {i:Nat} {present:Bool}
theorem best_step (h:i<l.length):WX kind v (l.take (i+1)) q0=bestS kind v (WX kind v (l.take i) q0) (l.getD i ([],0)):=by
  unfold WX
  rw [List.take_succ_eq_append_getElem h,List.foldl_append,← zr (dd:=([],0)) h];rfl
theorem best_hit {b q:Int} (h:i<l.length) (e:(b,q)=WX kind v (l.take i) q0) (h2:b<YP kind (l.getD i ([],0)).1 v):(YP kind (l.getD i ([],0)).1 v,(l.getD i ([],0)).2)=WX kind v (l.take (i+1)) q0:=by
  rw [best_step h,← e];unfold bestS;rw [if_pos h2]
theorem best_miss {b q:Int} (h:i<l.length) (e:(b,q)=WX kind v (l.take i) q0) (h2:¬ b<YP kind (l.getD i ([],0)).1 v):(b,q)=WX kind v (l.take (i+1)) q0:=by
  rw [best_step h,← e];unfold bestS;rw [if_neg h2]
theorem best_end {b q:Int} (h:¬ i<l.length) (e:(b,q)=WX kind v (l.take i) q0):WX kind v l q0=(b,q):=by
  rw [e,List.take_of_length_le (by omega)]
theorem qual_no (h:present=false):Ys kind l present v=1000:=if_pos h
theorem qual_one {b q:Int} (hp:present=true) (e:WX kind v l 0=(b,q)) (h:(b<0∧kind=4)∧fold v sIdent=true):Ys kind l present v=1:=by
  unfold Ys;rw [if_neg (by rw [hp];simp),if_pos (by rw [e];exact h)]
theorem qual_q {b q:Int} (hp:present=true) (e:WX kind v l 0=(b,q)) (h:¬ ((b<0∧kind=4)∧fold v sIdent=true)):Ys kind l present v=q:=by
  unfold Ys;rw [if_neg (by rw [hp];simp),if_neg (by rw [e];exact h),e]
end
/-! ### Rank -/
def qo (qs:List Int) (q:Int):Nat:=(qs.reverse.dropWhile (fun p=>decide (p<q))).length
theorem insPos_back {qs:List Int} {q:Int} {k:Nat} (h0:0<k) (hk:k≤qs.length) (h:qs.getD (k-1) 0<q):qo (qs.take (k-1)) q=qo (qs.take k) q:=by
  obtain ⟨j,rfl⟩:∃ j,k=j+1:=⟨k-1,by omega⟩
  have hj:j<qs.length:=by omega
  rw [Nat.add_sub_cancel] at h ⊢
  unfold qo
  rw [List.take_succ_eq_append_getElem hj,List.reverse_append,List.reverse_singleton,List.singleton_append,List.dropWhile_cons,← zr (dd:=0) hj,if_pos (decide_eq_true h)]
theorem insPos_stop {qs:List Int} {q:Int} {k:Nat} (hk:k≤qs.length) (h:¬ 0<k∨¬ qs.getD (k-1) 0<q):qo (qs.take k) q=k:=by
  by_cases h0:0<k
  · obtain ⟨j,rfl⟩:∃ j,k=j+1:=⟨k-1,by omega⟩
    have hj:j<qs.length:=by omega
    have h2:=h.resolve_left (fun q=>q h0)
    rw [Nat.add_sub_cancel] at h2
    unfold qo
    rw [List.take_succ_eq_append_getElem hj,List.reverse_append,List.reverse_singleton,List.singleton_append,List.dropWhile_cons,← zr (dd:=0) hj,if_neg (by rw [decide_eq_false h2];simp)]
    simp;omega
  · obtain rfl:k=0:=by omega
    simp [qo]
def rankS (kind:Int) (l:List Prf) (present:Bool) (s:List Str×List Int) (v:Str):List Str×List Int :=
  if Ys kind l present v≤0 then s else (s.1.take (qo s.2 (Ys kind l present v))++[v]++s.1.drop (qo s.2 (Ys kind l present v)),s.2.take (qo s.2 (Ys kind l present v))++[Ys kind l present v]++s.2.drop (qo s.2 (Ys kind l present v)))
def wX (kind:Int) (l:List Prf) (present:Bool) (vs:List Str):List Str×List Int:=vs.foldl (rankS kind l present) ([],[])
section
variable {kind:Int} {l:List Prf} {present:Bool} {vs:List Str} {i:Nat} {out:List Str} {qs:List Int}
theorem rank_step (h:i<vs.length):wX kind l present (vs.take (i+1))=rankS kind l present (wX kind l present (vs.take i)) (vs.getD i []):=by
  unfold wX
  rw [List.take_succ_eq_append_getElem h,List.foldl_append,← zr (dd:=[]) h];rfl
theorem rank_skip (h:i<vs.length) (e:(out,qs)=wX kind l present (vs.take i)) (h2:Ys kind l present (vs.getD i [])≤0):(out,qs)=wX kind l present (vs.take (i+1)):=by
  rw [rank_step h,← e];unfold rankS;rw [if_pos h2]
theorem rank_put {k:Nat} (h:i<vs.length) (e:(out,qs)=wX kind l present (vs.take i)) (h2:¬ Ys kind l present (vs.getD i [])≤0) (hk:qo qs (Ys kind l present (vs.getD i []))=k) :
    (out.take k++[vs.getD i []]++out.drop k,qs.take k++[Ys kind l present (vs.getD i [])]++qs.drop k)=wX kind l present (vs.take (i+1)):=by
  rw [rank_step h,← e];unfold rankS;rw [if_neg h2];simp only;rw [hk]
theorem rank_end (h:¬ i<vs.length) (e:(out,qs)=wX kind l present (vs.take i)):out=(wX kind l present vs).1:=by
  rw [List.take_of_length_le (by omega)] at e;rw [← e]
end
def okS (s:Str):Bool:=!decide (100<s.length)
def wt (l:List Str):Bool:=(l.take 21).all okS&&decide (l.length≤20)
theorem keepS_len {l:List Str} (h:wt l=true):l.length≤20:=by
  unfold wt at h;rw [Bool.and_eq_true,decide_eq_true_eq] at h;exact h.2
theorem keepS_mem {l:List Str} (h:wt l=true):∀ x∈l,x.length≤100:=fun x hx=>by
  have hl:=keepS_len h
  unfold wt at h
  rw [Bool.and_eq_true,Zg (s:=l) (by omega)] at h
  have:=List.all_eq_true.1 h.1 x hx
  unfold okS at this
  simp at this;omega
end Go.Plain
