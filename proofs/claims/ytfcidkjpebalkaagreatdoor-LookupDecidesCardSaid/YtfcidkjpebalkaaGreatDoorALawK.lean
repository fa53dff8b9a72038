/-
 Numbers,dates and entity tags in plain Lean: what Number reads,the days since 1970 by a formula and by counting,the text of a date,an entity tag. No program in sight. No conditions.
 Cache directives and entity tags in plain Lean: the first directive with a name,its number,the control of a message. No program in sight. No conditions.
 Freshness and decisions in plain Lean: lifetime and age of a response,whether it may be used without validation,which entry is selected,what is done with a request;and what these decisions never do. No program in sight. No conditions.
 What decisions never do,in plain Lean: what is served is selected,fresh or permitted stale;406 needs the configuration;only-if-cached never goes to the origin. No program in sight. No conditions.
-/
import Derived.Test.YtfcidkjpebalkaaGreatDoorALawB
import Derived.Test.YtfcidkjpebalkaaGreatDoorALawI
import Derived.Test.YtfcidkjpebalkaaGreatDoorALawC
namespace Go.Plain
open Go.Sep
set_option linter.unusedVariables false
set_option linter.unusedSimpArgs false
/-! ### Numbers -/
def numS (n:Nat) (c:UInt8):Nat:=min (10*n+digV c) 2147483647
def numV (s:Str):Nat:=s.foldl numS 0
def numB (s:Str):Bool:=s.all digB&&!decide (s=[])
def numN (s:Str):Nat:=if s.all digB=true then numV s else 0
theorem numV_step {s:Str} {i:Nat} (h:i<s.length):numV (s.take (i+1))=min (10*numV (s.take i)+digV (s.getD i 0)) 2147483647:=by
 unfold numV
 rw [List.take_add_one,List.getElem?_eq_getElem h,Option.toList_some,List.foldl_append,List.getD_eq_getElem?_getD,List.getElem?_eq_getElem h]
 rfl
theorem foldl_numS_le:∀ (s:Str) (n:Nat),n≤2147483647→s.foldl numS n≤2147483647
 | [],n,h=>h
 | c::s,n,h=>foldl_numS_le s _ (by unfold numS;omega)
theorem numV_le (s:Str):numV s≤2147483647:=foldl_numS_le s 0 (by omega)
theorem wy (s:Str):numN s≤2147483647:=by
 unfold numN
 split
 ·exact numV_le s
 ·omega
theorem num_bad {s:Str} {i:Nat} (h:i<s.length) (hd:digB (s.getD i 0)=false):numN s=0∧numB s=false:=by
 have:s.all digB=false:=by
  rw [List.all_eq_false]
  refine ⟨s.getD i 0,?_,by rw [hd];simp⟩
  rw [List.getD_eq_getElem?_getD,List.getElem?_eq_getElem h]
  exact List.getElem_mem h
 unfold numN numB
 rw [this]
 exact ⟨rfl,rfl⟩
theorem num_good {s:Str} {i:Nat} (h:¬ i<s.length) (hd:(s.take i).all digB=true):numN s=numV (s.take i)∧numB s=!decide (s=[]):=by
 rw [List.take_of_length_le (by omega)] at hd ⊢
 unfold numN numB
 rw [hd]
 exact ⟨rfl,rfl⟩
/-! ### Days -/
def leapB (y:Nat):Bool:=decide (y % 4=0)&&(!decide (y % 100=0)||decide (y % 400=0))
def monthsL:List Nat:=[31,28,31,30,31,30,31,31,30,31,30,31]
def z8 (y m:Nat):Nat:=if m=2∧leapB y=true then 29 else monthsL.getD (m-1) 0
theorem Y9 (y m:Nat):z8 y m≤31:=by
 unfold z8
 split
 ·omega
 ·rcases Nat.lt_or_ge (m-1) 12 with h | h
  ·have:∀ k,k<12→monthsL.getD k 0≤31:=by decide
   exact this _ h
  ·rw [List.getD_eq_getElem?_getD,List.getElem?_eq_none (by simpa [monthsL] using h)]
   exact Nat.zero_le _
def ZM (y:Nat):Nat:=365*(y-1)+(y-1) / 4-(y-1) / 100+(y-1) / 400
def leapN (y:Nat):Nat:=if leapB y=true then 1 else 0
theorem leapN_eq (y:Nat):leapN y=if y % 4=0∧(y % 100≠0∨y % 400=0) then 1 else 0:=by
 unfold leapN leapB
 simp only [Bool.and_eq_true,Bool.or_eq_true,decide_eq_true_eq,Bool.not_eq_true',decide_eq_false_iff_not]
theorem div_step (z k:Nat):(z+1) / k=z / k+(if (z+1) % k=0 then 1 else 0):=by
 rw [Nat.succ_div]
 by_cases h:k ∣ z+1
 ·rw [if_pos h,if_pos (Nat.mod_eq_zero_of_dvd h)]
 ·rw [if_neg h,if_neg (fun e=>h (Nat.dvd_of_mod_eq_zero e))]
theorem before_step {y:Nat} (h:1≤y):ZM (y+1)=ZM y+365+leapN y:=by
 rw [leapN_eq]
 unfold ZM
 obtain ⟨z,rfl⟩:∃ z,y=z+1:=⟨y-1,by omega⟩
 simp only [Nat.add_sub_cancel]
 have i1:(z+1) % 100=0→(z+1) % 4=0:=by omega
 have i2:(z+1) % 400=0→(z+1) % 100=0:=by omega
 have hb:z / 100≤z:=Nat.div_le_self _ _
 rw [div_step z 4,div_step z 100,div_step z 400]
 generalize z / 4=a
 generalize z / 100=b at hb ⊢
 generalize z / 400=c
 by_cases p4:(z+1) % 4=0 <;> by_cases p1:(z+1) % 100=0 <;> by_cases p2:(z+1) % 400=0 <;> simp only [p4,p1,p2,if_true,if_false,ne_eq,not_true_eq_false,not_false_eq_true,or_true,or_false,and_true,and_false,false_or,true_and,false_and] <;> first | omega | exact absurd (i2 p2) p1 | exact absurd (i1 p1) p4
/-- The days of the years from 1970 on. -/
def Wn (y:Nat):Nat:=ZM y-ZM 1970
theorem Q6 {y:Nat}:∀ k,1≤y→ZM y≤ZM (y+k)
 | 0,_=>Nat.le_refl _
 | k+1,h=>by have:=Q6 k h;have:=before_step (y:=y+k) (by omega);rw [← Nat.add_assoc];omega
theorem years_step {y:Nat} (h:1970≤y):Wn (y+1)=Wn y+365+leapN y:=by
 have h1:=before_step (y:=y) (by omega)
 have h2:=Q6 (y:=1970) (y-1970) (by omega)
 rw [show 1970+(y-1970)=y from by omega] at h2
 unfold Wn
 omega
theorem years_le {y:Nat} (h:y≤9999):Wn y≤3700000:=by
 unfold Wn ZM;omega
theorem before_le {y:Nat} (h:y≤9999):ZM y≤3700000:=by
 unfold ZM;omega
def QR (y:Nat):Nat→Nat
 | 0=>0
 | m+1=>QR y m+z8 y (m+1)
theorem Z6 (y:Nat):∀ m,QR y m≤31*m
 | 0=>Nat.le_refl _
 | m+1=>by have:=Z6 y m;have:=Y9 y (m+1);show QR y m+_≤_;omega
def badD (y m d:Nat):Bool:=((((decide (y<1970)||decide (9999<y))||decide (m<1))||decide (12<m))||decide (d<1))||decide (z8 y m<d)
def daysN (y m d:Nat):Nat:=Wn y+(d-1)+QR y (m-1)
def q8 (y m d:Nat):Int:=if badD y m d=true then -1 else (daysN y m d:Int)
theorem days_bad {y m d:Nat} (h:badD y m d=true):q8 y m d=-1:=if_pos h
theorem days_good {y m d:Nat} (h:badD y m d=false):q8 y m d=(daysN y m d:Int):=if_neg (by rw [h];simp)
structure GoodD (y m d:Nat):Prop where
 y1:1970≤y
 y2:y≤9999
 m1:1≤m
 m2:m≤12
 d1:1≤d
 d2:d≤z8 y m
theorem goodD_of {y m d:Nat} (h:badD y m d=false):GoodD y m d:=by
 unfold badD at h
 simp only [Bool.or_eq_false_iff,decide_eq_false_iff_not] at h
 exact ⟨by omega,by omega,by omega,by omega,by omega,by omega⟩
theorem daysN_le {y m d:Nat} (h:GoodD y m d):daysN y m d≤3800000:=by
 have h1:=years_le h.y2
 have h2:=Z6 y (m-1)
 have h3:=Y9 y m
 have:=h.m2
 have:=h.d2
 unfold daysN
 omega
theorem QY (y m d:Nat):-1≤q8 y m d∧q8 y m d≤3800000:=by
 cases h:badD y m d with
 | true=>rw [days_bad h];omega
 | false=>rw [days_good h];have:=daysN_le (goodD_of h);omega
theorem ref_len30 {y m:Nat} (h:m=4∨m=6∨m=9∨m=11):z8 y m=30:=by
 rcases h with rfl | rfl | rfl | rfl <;> rfl
theorem ref_len29 {y m:Nat} (h:m=2) (hl:leapB y=true):z8 y m=29:=if_pos ⟨h,hl⟩
theorem ref_len28 {y m:Nat} (h:m=2) (hl:leapB y=false):z8 y m=28:=by
 unfold z8
 rw [if_neg (fun q=>by rw [hl] at q;cases q.2),h];rfl
theorem ref_len31 {y m:Nat} (h1:1≤m) (h2:m≤12) (h:¬ (m=4∨m=6∨m=9∨m=11)) (h3:¬ m=2):z8 y m=31:=by
 unfold z8
 rw [if_neg (fun q=>h3 q.1)]
 have:m=1∨m=3∨m=5∨m=7∨m=8∨m=10∨m=12:=by omega
 rcases this with rfl | rfl | rfl | rfl | rfl | rfl | rfl <;> rfl
theorem months_step {y k:Nat} (h:1≤k):QR y (k+1-1)=QR y (k-1)+z8 y k:=by
 obtain ⟨z,rfl⟩:∃ z,k=z+1:=⟨k-1,by omega⟩
 rfl
theorem years_0:Wn 1970=0:=rfl
theorem leapN_1 {y:Nat} (h:leapB y=true):leapN y=1:=if_pos h
theorem leapN_0 {y:Nat} (h:leapB y=false):leapN y=0:=if_neg (by rw [h];simp)
/-! ### The names -/
def Zp:List Str:=[[74,97,110],[70,101,98],[77,97,114],[65,112,114],[77,97,121],[74,117,110],[74,117,108],[65,117,103],[83,101,112],[79,99,116],[78,111,118],[68,101,99]]
def Qz:List Str:=[[77,111,110],[84,117,101],[87,101,100],[84,104,117],[70,114,105],[83,97,116],[83,117,110]]
def qS (T:List Str) (t:Str):Int:=idxP (fun x=>decide (x=t)) T
theorem nameI_range (T:List Str) (t:Str):-1≤qS T t∧qS T t<T.length:=by
 unfold qS idxP
 split <;> omega
/-- The month's number,0 where there is none. -/
def Zm (t:Str):Nat:=(qS Zp t+1).toNat
theorem monthI_eq (t:Str):qS Zp t+((1:Nat):Int)=((Zm t:Nat):Int):=by
 have:=nameI_range Zp t
 unfold Zm
 omega
theorem monthI_le (t:Str):Zm t≤12:=by
 have:=nameI_range Zp t
 have h:Zp.length=12:=rfl
 unfold Zm
 omega
/-- The last month of the first i that has this name. -/
def QT (t:Str):Nat→Nat
 | 0=>0
 | i+1=>if Zp.getD i []=t then i+1 else QT t i
theorem nameI_at {T:List Str} {t:Str} {i:Nat} (h:i<T.length) (hn:T.Nodup) (he:T.getD i []=t):qS T t=(i:Int):=by
 unfold qS idxP
 have h1:T.findIdx (fun x=>decide (x=t))=i:=by
  rw [List.getD_eq_getElem?_getD,List.getElem?_eq_getElem h] at he
  have he':T[i]=t:=he
  refine (List.findIdx_eq h).2 ⟨by simpa using he',fun j hj=>?_⟩
  have hne:T[j]≠t:=fun e=>by
   have:=(List.getElem_inj (h₀:=by omega) (h₁:=h) hn).1 (e.trans he'.symm)
   omega
  simpa using hne
 rw [h1,if_pos h]
theorem nameI_none {T:List Str} {t:Str} (he:∀ i,i<T.length→T.getD i []≠t):qS T t=-1:=by
 unfold qS idxP
 rw [if_neg]
 intro h
 have:=List.findIdx_getElem (xs:=T) (w:=h)
 refine he _ h ?_
 rw [List.getD_eq_getElem?_getD,List.getElem?_eq_getElem h]
 simpa using this
theorem lastM_spec (t:Str):∀ n,n≤12→(QT t n=0∧∀ i,i<n→Zp.getD i []≠t)∨(0<QT t n∧QT t n≤n∧Zp.getD (QT t n-1) []=t)
 | 0,_=>.inl ⟨rfl,fun i hi=>by omega⟩
 | n+1,h=>by
  by_cases he:Zp.getD n []=t
  ·have e:QT t (n+1)=n+1:=if_pos he
   rw [e]
   exact .inr ⟨by omega,by omega,he⟩
  ·have e:QT t (n+1)=QT t n:=if_neg he
   rw [e]
   rcases lastM_spec t n (by omega) with ⟨h1,h2⟩ | ⟨h1,h2,h3⟩
   ·refine .inl ⟨h1,fun i hi=>?_⟩
    rcases Nat.lt_or_ge i n with hi' | hi'
    ·exact h2 i hi'
    ·have:i=n:=by omega
     rw [this];exact he
   ·exact .inr ⟨h1,by omega,h3⟩
theorem lastM_all (t:Str):QT t 12=Zm t:=by
 unfold Zm
 rcases lastM_spec t 12 (by omega) with ⟨h1,h2⟩ | ⟨h1,h2,h3⟩
 ·rw [h1,nameI_none (T:=Zp) (t:=t) (by exact h2)];rfl
 ·rw [nameI_at (T:=Zp) (t:=t) (i:=QT t 12-1) (by show _<12;omega) (by decide) h3]
  omega
/-- The name of the weekday of day n. -/
theorem day_name {n:Nat} {t:Str}:decide (qS Qz t=(((n+3) % 7:Nat):Int))=decide (Qz.getD ((n+3) % 7) []=t):=by
 have h7:(n+3) % 7<Qz.length:=Nat.mod_lt _ (by decide)
 by_cases h:Qz.getD ((n+3) % 7) []=t
 ·rw [decide_eq_true h,nameI_at h7 (by decide) h,decide_eq_true rfl]
 ·rw [decide_eq_false h,decide_eq_false]
  intro e
  unfold qS idxP at e
  split at e
  ·rename_i h1
   have h2:=List.findIdx_getElem (xs:=Qz) (w:=h1)
   have h3:Qz.findIdx (fun x=>decide (x=t))=(n+3) % 7:=by omega
   refine h ?_
   rw [List.getD_eq_getElem?_getD,List.getElem?_eq_getElem h7]
   simp only [h3] at h2
   simpa using h2
  ·omega
/-! ### Dates -/
def subS (s:Str) (i j:Nat):Str:=(s.take j).drop i
def Va (s:Str):Bool:=!((((((((!decide (s.length=29))||(!decide ((s.take 5).drop 3=[44,32])))||(!decide (s.getD 7 0=32)))||(!decide (s.getD 11 0=32)))||(!decide (s.getD 16 0=32)))||(!decide (s.getD 19 0=58)))||(!decide (s.getD 22 0=58)))||(!decide (s.drop 25=[32,71,77,84])))
theorem shape_no {b:Bool} {s:Str} (hb:Va s=!b) (h:b=true):Va s=false:=by rw [hb,h];rfl
theorem shape_yes {b:Bool} {s:Str} (hb:Va s=!b) (h:b=false):Va s=true:=by rw [hb,h];rfl
theorem shape_len {s:Str} (h:Va s=true):s.length=29:=by
 unfold Va at h
 simp only [Bool.not_eq_true',Bool.or_eq_false_iff,Bool.not_eq_false',decide_eq_true_iff] at h
 exact h.1.1.1.1.1.1.1
def Vt (s:Str):Bool:=(((numB (subS s 5 7)&&numB (subS s 12 16))&&numB (subS s 17 19))&&numB (subS s 20 22))&&numB (subS s 23 25)
def dayD (s:Str):Int:=q8 (numN (subS s 12 16)) (Zm (subS s 8 11)) (numN (subS s 5 7))
def QG (s:Str):Bool:=((((decide (dayD s<0)||decide (23<numN (subS s 17 19)))||decide (59<numN (subS s 20 22)))||decide (59<numN (subS s 23 25))))||!decide (qS Qz (s.take 3)=(((dayD s).toNat+3) % 7:Nat))
def secsD (s:Str):Nat:=(dayD s).toNat*86400+(numN (subS s 17 19)*3600+numN (subS s 20 22)*60+numN (subS s 23 25))
def Z8 (s:Str):Bool:=Va s&&(Vt s&&!QG s)
def qJ (s:Str):Nat:=if Z8 s=true then secsD s else 0
theorem date_shape {s:Str} (h:Va s=false):qJ s=0∧Z8 s=false:=by
 have:Z8 s=false:=by unfold Z8;rw [h];rfl
 unfold qJ
 rw [this]
 exact ⟨rfl,rfl⟩
theorem date_nums {s:Str} (h:Vt s=false):qJ s=0∧Z8 s=false:=by
 have:Z8 s=false:=by unfold Z8;rw [h];simp
 unfold qJ
 rw [this]
 exact ⟨rfl,rfl⟩
theorem date_bad {s:Str} (h:QG s=true):qJ s=0∧Z8 s=false:=by
 have:Z8 s=false:=by unfold Z8;rw [h];simp
 unfold qJ
 rw [this]
 exact ⟨rfl,rfl⟩
theorem date_ok {s:Str} (h1:Va s=true) (h2:Vt s=true) (h3:QG s=false):qJ s=secsD s∧Z8 s=true:=by
 have:Z8 s=true:=by unfold Z8;rw [h1,h2,h3];rfl
 unfold qJ
 rw [this]
 exact ⟨rfl,rfl⟩
/-- Where a date is refused,as Parse says it. -/
def badP (s:Str) (d:Int):Bool:=((((decide ((d:Int)<((0:Nat):Int))||decide ((23:Nat)<numN (subS s 17 19)))||decide ((59:Nat)<numN (subS s 20 22)))||decide ((59:Nat)<numN (subS s 23 25))))||(!decide (qS Qz (s.take 3)=(d+((3:Nat):Int)) % ((7:Nat):Int)))
theorem badP_eq (s:Str):badP s (dayD s)=QG s:=by
 unfold badP QG
 by_cases h:dayD s<0
 ·have h':(dayD s:Int)<((0:Nat):Int):=h
  rw [decide_eq_true h,decide_eq_true h'];simp
 ·have e:(((dayD s).toNat+3) % 7:Nat)=(dayD s+((3:Nat):Int)) % ((7:Nat):Int):=by omega
  rw [e];rfl
def weekT:Str:=[84,104,117,70,114,105,83,97,116,83,117,110,77,111,110,84,117,101,87,101,100]
theorem week_at:∀ k,k<7→(weekT.take (3*k+3)).drop (3*k)=Qz.getD ((k+3) % 7) []:=by decide
def badR (s:Str) (d:Int):Bool:=((((decide ((d:Int)<((0:Nat):Int))||decide ((23:Nat)<numN (subS s 17 19)))||decide ((59:Nat)<numN (subS s 20 22)))||decide ((59:Nat)<numN (subS s 23 25))))||(!decide ((weekT.take (3*(d.toNat % 7)+3)).drop (3*(d.toNat % 7))=s.take 3))
theorem badR_eq (s:Str):badR s (dayD s)=QG s:=by
 rw [← badP_eq]
 unfold badP badR
 by_cases h:dayD s<0
 ·have h':(dayD s:Int)<((0:Nat):Int):=h
  rw [decide_eq_true h'];simp
 ·have e:(dayD s+((3:Nat):Int)) % ((7:Nat):Int)=((((dayD s).toNat+3) % 7:Nat):Int):=by omega
  rw [e,day_name,week_at _ (Nat.mod_lt _ (by decide)),show ((dayD s).toNat % 7+3) % 7=((dayD s).toNat+3) % 7 from by omega]
def refD (s:Str) (d:Int):Bool:=(((((((((!numB ((s.take 7).drop 5))||(!numB ((s.take 16).drop 12)))||(!numB ((s.take 19).drop 17)))||(!numB ((s.take 22).drop 20)))||(!numB ((s.take 25).drop 23)))||decide ((d:Int)<((0:Nat):Int)))||decide ((23:Nat)<numN ((s.take 19).drop 17)))||decide ((59:Nat)<numN ((s.take 22).drop 20)))||decide ((59:Nat)<numN ((s.take 25).drop 23)))||(!decide ((weekT.take (3*(d.toNat % 7)+3)).drop (3*(d.toNat % 7))=s.take 3))
theorem refD_eq (s:Str):refD s (dayD s)=(!Vt s||QG s):=by
 rw [← badR_eq]
 unfold refD badR Vt subS
 generalize numB ((s.take 7).drop 5)=a
 generalize numB ((s.take 16).drop 12)=b
 generalize numB ((s.take 19).drop 17)=c
 generalize numB ((s.take 22).drop 20)=d
 generalize numB ((s.take 25).drop 23)=e
 generalize decide ((dayD s:Int)<((0:Nat):Int))=f
 cases a <;> cases b <;> cases c <;> cases d <;> cases e <;> cases f <;> rfl
theorem refD_no {s:Str} (h:refD s (dayD s)=false):Vt s=true∧QG s=false:=by
 rw [refD_eq] at h
 cases h1:Vt s <;> cases h2:QG s <;> simp_all
def monT:Str:=[74,97,110,70,101,98,77,97,114,65,112,114,77,97,121,74,117,110,74,117,108,65,117,103,83,101,112,79,99,116,78,111,118,68,101,99]
theorem mon_at:∀ k,k<12→(monT.take (3*k+3)).drop (3*k)=Zp.getD k []:=by decide
theorem lastM_hit {t:Str} {k:Nat} (hk:k<12) (h:(monT.take (3*k+3)).drop (3*k)=t):QT t (k+1)=k+1:=if_pos (by rw [← mon_at k hk];exact h)
theorem lastM_miss {t:Str} {k:Nat} (hk:k<12) (h:¬ (monT.take (3*k+3)).drop (3*k)=t):QT t (k+1)=QT t k:=if_neg (by rw [← mon_at k hk];exact h)
def WY (s:Str):List Str:=[(s.take 7).drop 5,(s.take 16).drop 12,(s.take 19).drop 17,(s.take 22).drop 20,(s.take 25).drop 23]
theorem nums_all {s:Str} (h:((WY s).take 5).all numB=true):Vt s=true:=by
 have:(WY s).take 5=WY s:=rfl
 rw [this] at h
 unfold WY at h
 unfold Vt subS
 simp only [List.all_cons,List.all_nil,Bool.and_true,Bool.and_eq_true] at h ⊢
 exact ⟨⟨⟨⟨h.1,h.2.1⟩,h.2.2.1⟩,h.2.2.2.1⟩,h.2.2.2.2⟩
theorem subs_len {s:Str} (h:s.length=29) (i:Nat):((WY s).getD i []).length≤29:=by
 rcases Nat.lt_or_ge i 5 with hi | hi
 ·have:i=0∨i=1∨i=2∨i=3∨i=4:=by omega
  unfold WY
  rcases this with rfl | rfl | rfl | rfl | rfl <;> simp <;> omega
 ·rw [List.getD_eq_getElem?_getD,List.getElem?_eq_none (by unfold WY;simpa using hi)]
  simp
theorem sub_get {s:Str} {a b i:Nat} (h1:a≤i) (h2:i<b) (h3:b≤s.length):((s.take b).drop a).getD (i-a) 0=s.getD i 0:=by
 rw [List.getD_eq_getElem?_getD,List.getD_eq_getElem?_getD,List.getElem?_drop,show a+(i-a)=i from by omega,List.getElem?_take_of_lt h2]
theorem nums_no {s:Str} {i:Nat} (hi:i<5) (h:numB ((WY s).getD i [])=false):Vt s=false:=by
 rw [← Bool.not_eq_true]
 unfold Vt subS
 intro e
 simp only [Bool.and_eq_true] at e
 have:i=0∨i=1∨i=2∨i=3∨i=4:=by omega
 unfold WY at h
 rcases this with rfl | rfl | rfl | rfl | rfl
 ·exact absurd (e.1.1.1.1.symm.trans h) (by simp)
 ·exact absurd (e.1.1.1.2.symm.trans h) (by simp)
 ·exact absurd (e.1.1.2.symm.trans h) (by simp)
 ·exact absurd (e.1.2.symm.trans h) (by simp)
 ·exact absurd (e.2.symm.trans h) (by simp)
theorem refD_bad {s:Str} (h:refD s (dayD s)=true):qJ s=0∧Z8 s=false:=by
 rw [refD_eq] at h
 cases h1:Vt s with
 | false=>exact date_nums h1
 | true=>exact date_bad (by rw [h1] at h;simpa using h)
theorem refD_ok {s:Str} (h1:Va s=true) (h:refD s (dayD s)=false):qJ s=secsD s∧Z8 s=true:=date_ok h1 (refD_no h).1 (refD_no h).2
def numsI (s:Str) (i:Nat):List Int:=((WY s).take i).map (fun x=>((numN x:Nat):Int))++List.replicate (5-i) 0
theorem numsI_step {s:Str}:∀ i,i<5→(numsI s i).set i ((numN ((WY s).getD i []):Nat):Int)=numsI s (i+1):=by
 intro i hi
 have:i=0∨i=1∨i=2∨i=3∨i=4:=by omega
 rcases this with rfl | rfl | rfl | rfl | rfl <;> rfl
theorem bad_pos {s:Str} (h:QG s=false):0≤dayD s∧dayD s≤3800000∧numN (subS s 17 19)≤23∧numN (subS s 20 22)≤59∧numN (subS s 23 25)≤59:=by
 unfold QG at h
 simp only [Bool.or_eq_false_iff,decide_eq_false_iff_not] at h
 have e:dayD s=q8 (numN (subS s 12 16)) (Zm (subS s 8 11)) (numN (subS s 5 7)):=rfl
 have:=QY (numN (subS s 12 16)) (Zm (subS s 8 11)) (numN (subS s 5 7))
 rw [← e] at this
 omega
theorem secs_le {s:Str} (h:QG s=false):secsD s≤400000000000:=by
 unfold QG at h
 simp only [Bool.or_eq_false_iff,decide_eq_false_iff_not] at h
 have:=QY (numN (subS s 12 16)) (Zm (subS s 8 11)) (numN (subS s 5 7))
 unfold secsD
 have e:dayD s=q8 (numN (subS s 12 16)) (Zm (subS s 8 11)) (numN (subS s 5 7)):=rfl
 rw [← e] at this
 omega
theorem dateN_le (s:Str):qJ s≤400000000000:=by
 unfold qJ
 split
 ·rename_i h
  unfold Z8 at h
  simp only [Bool.and_eq_true] at h
  exact secs_le (by simpa using h.2.2)
 ·omega
end Go.Plain
namespace Go.Plain
open Go.Sep
set_option linter.unusedVariables false
set_option linter.unusedSimpArgs false
/-! ### Entity tags -/
def Vr (c:UInt8):Bool:=!((decide (c<33)||decide (c=34))||decide (c=127))
def cutP (s p:Str):Str:=if hasP s p=true then s.drop p.length else s
def weakP:Str:=[87,47]
def Y4 (s:Str):Str:=if hasP s weakP=true then s.drop 2 else s
def badE (t:Str):Bool:=(((decide (t.length<2)||!decide (t.getD 0 0=34))||!decide (t.getD (t.length-1) 0=34))||!(inner t).all Vr)
def qT (s:Str):Bool:=!badE (Y4 s)
def YP (s:Str):Bool×Str:=if qT s=true then (hasP s weakP,inner (Y4 s)) else (false,[])
theorem etag_bad {s:Str} (h:badE (Y4 s)=true):qT s=false∧YP s=(false,[]):=by
 have:qT s=false:=by unfold qT;rw [h];rfl
 unfold YP
 rw [this]
 exact ⟨rfl,rfl⟩
theorem etag_good {s:Str} (h:badE (Y4 s)=false):qT s=true∧YP s=(hasP s weakP,inner (Y4 s)):=by
 have:qT s=true:=by unfold qT;rw [h];rfl
 unfold YP
 rw [this]
 exact ⟨rfl,rfl⟩
/-- The reference takes a weak mark off only where something follows. -/
theorem etag_two {s:Str} (h:s=weakP):badE (Y4 s)=true∧badE s=true:=by
 subst h
 exact ⟨by decide,by decide⟩
/-! ### Directives -/
def ZC (m:Str):Nat:=m.findIdx fun c=>!tokB c
def Ze (m:Str):Str:=lower (m.take (ZC m))
def ZX (m:Str):Str:=m.drop (ZC m)
theorem tokLen_le (m:Str):ZC m≤m.length:=List.findIdx_le_length
theorem tokLen_go {m:Str} {n:Nat} (h:n<m.length) (ha:(m.take n).all tokB=true) (hb:tokB (m.getD n 0)=false):ZC m=n:=by
 unfold ZC
 refine (List.findIdx_eq h).2 ⟨?_,fun j hj=>?_⟩
 ·rw [List.getD_eq_getElem?_getD,List.getElem?_eq_getElem h] at hb
  have hb':tokB m[n]=false:=hb
  rw [hb'];rfl
 ·rw [List.all_eq_true] at ha
  have:m[j]∈m.take n:=by
   rw [List.mem_take_iff_getElem]
   exact ⟨j,by omega,rfl⟩
  rw [ha _ this];rfl
theorem tokLen_end {m:Str} {n:Nat} (h:¬ n<m.length) (hn:n≤m.length) (ha:(m.take n).all tokB=true):ZC m=n:=by
 unfold ZC
 rw [show n=m.length from by omega] at ha ⊢
 rw [List.take_length] at ha
 rw [List.findIdx_eq_length]
 intro x hx
 rw [List.all_eq_true] at ha
 rw [ha x hx];rfl
/-- The form of a directive and its argument. -/
def Z7 (r:Str):Int×Str :=
 if r=[] then (0,[]) else if (decide (r.getD 0 0=61)&&token (r.drop 1))=true then (1,r.drop 1) else if (decide (r.getD 0 0=61)&&(unq (r.drop 1)).2)=true then (1,(unq (r.drop 1)).1) else (2,[])
def qC (M:List Str) (name:Str):Option Str:=(M.find? fun m=>decide (0<ZC m)&&decide (Ze m=name)).map ZX
def hasD (M:List Str) (name:Str):Bool:=(qC M name).isSome
def numD (d:Int×Str) (w b:Nat):Nat:=if d.1=0 then w else if d.1=2∨numB d.2=false then b else numN d.2
def numR (r:Str) (none_ bad:Nat):Nat:=numD (Z7 r) none_ bad
def Yb (M:List Str) (name:Str) (none_ bad:Nat):Int:=match qC M name with
 | none=>-1
 | some r=>(numR r none_ bad:Int)
abbrev Ctl:=Bool×Bool×Bool×Bool×Bool×Bool×Bool×Int×Int×Int×Int
def sNoStore:Str:=[110,111,45,115,116,111,114,101]
def Vn:Str:=[110,111,45,99,97,99,104,101]
def sMust:Str:=[109,117,115,116,45,114,101,118,97,108,105,100,97,116,101]
def sProxyR:Str:=[112,114,111,120,121,45,114,101,118,97,108,105,100,97,116,101]
def sPrivate:Str:=[112,114,105,118,97,116,101]
def sPublic:Str:=[112,117,98,108,105,99]
def sOnly:Str:=[111,110,108,121,45,105,102,45,99,97,99,104,101,100]
def sMaxAge:Str:=[109,97,120,45,97,103,101]
def sSMax:Str:=[115,45,109,97,120,97,103,101]
def sMinFresh:Str:=[109,105,110,45,102,114,101,115,104]
def sMaxStale:Str:=[109,97,120,45,115,116,97,108,101]
def sCC:Str:=[67,97,99,104,101,45,67,111,110,116,114,111,108]
def sPragma:Str:=[80,114,97,103,109,97]
def maxS:Nat:=2147483647
def ctlM (M:List Str):Ctl:=(hasD M sNoStore||decide (64≤M.length),hasD M Vn,hasD M sMust,hasD M sProxyR,hasD M sPrivate,hasD M sPublic,hasD M sOnly,Yb M sMaxAge 0 0,Yb M sSMax 0 0,Yb M sMinFresh 2147483647 2147483647,Yb M sMaxStale 2147483647 0)
def ctlF (l:List Fld):Ctl:=ctlM (allF l sCC)
def pragB (l:List Fld):Bool:=decide ((getF l sCC).length=0)&&(allF l sPragma).any fun m=>fold m Vn
def reqF (l:List Fld):Ctl:=((ctlF l).1,(ctlF l).2.1||pragB l,(ctlF l).2.2)
/-- The map of the directives that came first. -/
def putD (F:List (Str×Int×Str)) (m:Str):List (Str×Int×Str):=if ((yz F (Ze m)).isSome=false∧Ze m≠[]) then F++[(Ze m,Z7 (ZX m))] else F
def WP (M:List Str):List (Str×Int×Str):=M.foldl putD []
theorem name_nil {m:Str}:Ze m=[]↔ZC m=0:=by
 unfold Ze
 have:=tokLen_le m
 constructor
 ·intro h
  have h1:(lower (m.take (ZC m))).length=0:=by rw [h];rfl
  unfold lower at h1
  rw [List.length_map,List.length_take] at h1
  omega
 ·intro h
  rw [h];rfl
theorem find_lookS {name:Str} (hn:name≠[]):∀ (M:List Str),yz (WP M) name=(qC M name).map Z7:=by
 have hap:∀ (F:List (Str×Int×Str)) (k:Str) (d:Int×Str) (x:Str),yz (F++[(k,d)]) x=(yz F x).or (if x=k then some d else none):=by
  intro F k d x
  induction F with
  | nil=>show (if x=k then some d else none)=(none:Option (Int×Str)).or _;by_cases h:x=k <;> simp [h]
  | cons y F ih =>
   show yz (y::(F++[(k,d)])) x=(yz (y::F) x).or _
   unfold yz
   by_cases h:x=y.1
   ·rw [if_pos h,if_pos h];rfl
   ·rw [if_neg h,if_neg h,ih]
 have hput:∀ (F:List (Str×Int×Str)) (m:Str),yz (putD F m) name=(yz F name).or (if 0<ZC m∧Ze m=name then some (Z7 (ZX m)) else none):=by
  intro F m
  unfold putD
  by_cases hk:Ze m=name
  ·have hne:Ze m≠[]:=by rw [hk];exact hn
   have ht:0<ZC m:=Nat.pos_of_ne_zero fun e=>hne (name_nil.2 e)
   cases hl:yz F (Ze m) with
   | none =>
    rw [if_pos ⟨rfl,hne⟩,hap,if_pos hk.symm,if_pos ⟨ht,hk⟩]
   | some d =>
    rw [if_neg (fun h=>by cases h.1),← hk,hl];rfl
  ·rw [if_neg (c:=0<ZC m∧Ze m=name) (fun h=>hk h.2)]
   split
   ·rw [hap,if_neg (fun e=>hk e.symm)]
   ·cases yz F name <;> rfl
 have hgo:∀ (M:List Str) (F:List (Str×Int×Str)),yz (M.foldl putD F) name=(yz F name).or ((qC M name).map Z7):=by
  intro M
  induction M with
  | nil=>intro F;show yz F name=(yz F name).or none;cases yz F name <;> rfl
  | cons m M ih =>
   intro F
   rw [List.foldl_cons,ih,hput]
   unfold qC
   rw [List.find?_cons]
   by_cases hc:0<ZC m∧Ze m=name
   ·rw [if_pos hc]
    have:(decide (0<ZC m)&&decide (Ze m=name))=true:=by simp [hc]
    rw [this]
    cases yz F name <;> rfl
   ·rw [if_neg hc]
    have:(decide (0<ZC m)&&decide (Ze m=name))=false:=by
     rw [← Bool.not_eq_true]
     intro e
     rw [Bool.and_eq_true,decide_eq_true_iff,decide_eq_true_iff] at e
     exact hc e
    rw [this]
    cases yz F name <;> rfl
 intro M
 unfold WP
 rw [hgo M []]
 rfl
theorem firstD_step {M:List Str} {i:Nat} (h:i<M.length):WP (M.take (i+1))=putD (WP (M.take i)) (M.getD i []):=by
 unfold WP
 rw [List.take_add_one,List.getElem?_eq_getElem h,Option.toList_some,List.foldl_append,List.getD_eq_getElem?_getD,List.getElem?_eq_getElem h]
 rfl
theorem Qw {M:List Str} {name:Str} (hn:name≠[]):(yz (WP M) name).isSome=hasD M name:=by
 rw [find_lookS hn]
 unfold hasD
 cases qC M name <;> rfl
theorem secs_some {M:List Str} {name:Str} {w b:Nat} (hn:name≠[]) (h:(yz (WP M) name).isSome=true):((numD ((yz (WP M) name).getD (0,[])) w b:Nat):Int)=Yb M name w b:=by
 rw [find_lookS hn] at h ⊢
 unfold Yb
 cases hf:qC M name with
 | none=>rw [hf] at h;cases h
 | some r=>rfl
theorem secs_none {M:List Str} {name:Str} {w b:Nat} (hn:name≠[]) (h:(yz (WP M) name).isSome=false):Yb M name w b=-1:=by
 rw [find_lookS hn] at h
 unfold Yb
 cases hf:qC M name with
 | none=>rfl
 | some r=>rw [hf] at h;cases h
theorem numD_le {d:Int×Str} {w b:Nat} (hw:w≤2147483647) (hb:b≤2147483647):numD d w b≤2147483647:=by
 unfold numD
 split
 ·exact hw
 ·split
  ·exact hb
  ·exact wy _
theorem QN {M:List Str} {name:Str} {w b:Nat} (hw:w≤2147483647) (hb:b≤2147483647):-1≤Yb M name w b∧Yb M name w b≤2147483647:=by
 unfold Yb
 split
 ·omega
 ·have:=numD_le (d:=Z7 ‹_›) hw hb
  unfold numR
  omega
theorem num_bare {d:Int×Str} {w b:Nat} (h:d.1=0):numD d w b=w:=if_pos h
theorem num_brk {d:Int×Str} {w b:Nat} (h:¬ d.1=0) (h2:d.1=2∨numB d.2=false):numD d w b=b:=(if_neg h).trans (if_pos h2)
theorem num_val {d:Int×Str} {w b:Nat} (h:¬ d.1=0) (h2:¬ (d.1=2∨numB d.2=false)):numD d w b=numN d.2:=(if_neg h).trans (if_neg h2)
theorem form_0 {r:Str} (h:r=[]):Z7 r=(0,[]):=if_pos h
theorem form_1 {r:Str} (h:¬ r=[]) (h1:(decide (r.getD 0 0=61)&&token (r.drop 1))=true):Z7 r=(1,r.drop 1):=(if_neg h).trans (if_pos h1)
theorem form_2 {r:Str} (h:¬ r=[]) (h1:(decide (r.getD 0 0=61)&&token (r.drop 1))=false) (h2:(decide (r.getD 0 0=61)&&(unq (r.drop 1)).2)=true):Z7 r=(1,(unq (r.drop 1)).1):=(if_neg h).trans ((if_neg (by rw [h1];simp)).trans (if_pos h2))
theorem form_3 {r:Str} (h:¬ r=[]) (h1:(decide (r.getD 0 0=61)&&token (r.drop 1))=false) (h2:(decide (r.getD 0 0=61)&&(unq (r.drop 1)).2)=false):Z7 r=(2,[]):=(if_neg h).trans ((if_neg (by rw [h1];simp)).trans (if_neg (by rw [h2];simp)))
theorem token_one {m:Str} {n:Nat} (h:n<m.length):token ((m.take (n+1)).drop n)=tokB (m.getD n 0):=by
 have:(m.take (n+1)).drop n=[m.getD n 0]:=by
  rw [List.take_add_one,List.getElem?_eq_getElem h,Option.toList_some,List.drop_append_of_le_length (by rw [List.length_take];omega),List.getD_eq_getElem?_getD,List.getElem?_eq_getElem h]
  have:(m.take n).drop n=[]:=List.drop_eq_nil_of_le (by rw [List.length_take];omega)
  rw [this];rfl
 rw [this]
 unfold token
 simp
theorem tokLen_of {m:Str} {n:Nat} (hn:n≤m.length) (ha:(m.take n).all tokB=true) (h:¬ n<m.length∨tokB (m.getD n 0)=false):ZC m=n:=by
 by_cases hl:n<m.length
 ·exact tokLen_go hl ha (h.resolve_left fun q=>q hl)
 ·exact tokLen_end hl hn ha
/-- The reference's argument of a directive. -/
def argR (r:Str):Str×Bool:=if (decide (r=[])||(!decide (r.getD 0 0=61)))=true then ([],false) else if token (r.drop 1)=true then (r.drop 1,true) else unq (r.drop 1)
theorem arg_no {r:Str} (h:(decide (r=[])||(!decide (r.getD 0 0=61)))=true):argR r=([],false):=if_pos h
theorem arg_tok {r:Str} (h:(decide (r=[])||(!decide (r.getD 0 0=61)))=false) (h1:token (r.drop 1)=true):argR r=(r.drop 1,true):=(if_neg (by rw [h];simp)).trans (if_pos h1)
theorem arg_unq {r:Str} (h:(decide (r=[])||(!decide (r.getD 0 0=61)))=false) (h1:token (r.drop 1)=false):argR r=unq (r.drop 1):=(if_neg (by rw [h];simp)).trans (if_neg (by rw [h1];simp))
theorem numR_arg {r:Str} {w b:Nat} (h:¬ r=[]):numR r w b=if (argR r).2=false∨numB (argR r).1=false then b else numN (argR r).1:=by
 unfold numR numD argR
 by_cases h1:r.getD 0 0=61
 ·rw [if_neg (c:=(decide (r=[])||(!decide (r.getD 0 0=61)))=true) (by rw [decide_eq_false h,decide_eq_true h1];simp)]
  by_cases h2:token (r.drop 1)=true
  ·rw [form_1 h (by rw [decide_eq_true h1,h2];rfl),if_pos h2]
   simp
  ·have h2':token (r.drop 1)=false:=by simpa using h2
   rw [if_neg h2]
   by_cases h3:(unq (r.drop 1)).2=true
   ·rw [form_2 h (by rw [decide_eq_true h1,h2'];rfl) (by rw [decide_eq_true h1,h3];rfl),h3]
    simp
   ·have h3':(unq (r.drop 1)).2=false:=by simpa using h3
    rw [form_3 h (by rw [decide_eq_true h1,h2'];rfl) (by rw [decide_eq_true h1,h3'];rfl),h3']
    simp
 ·rw [if_pos (c:=(decide (r=[])||(!decide (r.getD 0 0=61)))=true) (by rw [decide_eq_false h1];simp),form_3 h (by rw [decide_eq_false h1];rfl) (by rw [decide_eq_false h1];rfl)]
  simp
def mtD (name m:Str):Bool:=decide (0<ZC m)&&decide (Ze m=name)
theorem findD_none {M:List Str} {name:Str} {i:Nat} (h:¬ i<M.length) (ha:(M.take i).any (mtD name)=false):qC M name=none∧hasD M name=false:=by
 rw [List.take_of_length_le (by omega)] at ha
 have:qC M name=none:=by
  unfold qC
  rw [Option.map_eq_none_iff,List.find?_eq_none]
  intro x hx
  rw [List.any_eq_false] at ha
  exact ha x hx
 unfold hasD
 rw [this]
 exact ⟨rfl,rfl⟩
theorem findD_some {M:List Str} {name:Str} {i:Nat} (h:i<M.length) (ha:(M.take i).any (mtD name)=false) (hm:mtD name (M.getD i [])=true):qC M name=some (ZX (M.getD i []))∧hasD M name=true:=by
 have:qC M name=some (ZX (M.getD i [])):=by
  unfold qC
  rw [show M=M.take i++M.getD i []::M.drop (i+1) from by
   rw [List.getD_eq_getElem?_getD,List.getElem?_eq_getElem h]
   exact (List.take_append_drop i M).symm.trans (by rw [List.drop_eq_getElem_cons h];rfl)]
  rw [List.find?_append]
  have h1:(M.take i).find? (fun m=>decide (0<ZC m)&&decide (Ze m=name))=none:=by
   rw [List.find?_eq_none]
   intro x hx
   rw [List.any_eq_false] at ha
   exact ha x hx
  have e:(M.take i++M.getD i []::M.drop (i+1)).getD i []=M.getD i []:=by
   rw [List.getD_eq_getElem?_getD,List.getElem?_append_right (by rw [List.length_take];omega),List.length_take,show i-min i M.length=0 from by omega];rfl
  rw [h1,e,Option.none_or,List.find?_cons]
  have hm':(decide (0<ZC (M.getD i []))&&decide (Ze (M.getD i [])=name))=true:=hm
  rw [hm'];rfl
 unfold hasD
 rw [this]
 exact ⟨rfl,rfl⟩
theorem fold_name {m name:Str} (hl:lower name=name):fold (m.take (ZC m)) name=decide (Ze m=name):=by
 unfold fold Ze
 rw [hl]
 by_cases h:lower (m.take (ZC m))=name
 ·rw [decide_eq_true h]
  have h2:(lower (m.take (ZC m))).length=name.length:=by rw [h]
  unfold lower at h2
  rw [List.length_map] at h2
  rw [decide_eq_true h2];rfl
 ·rw [decide_eq_false h,Bool.and_false]
theorem hasP_weak {s:Str} (h:2<s.length∧s.take 2=[87,47]):hasP s weakP=true∧Y4 s=s.drop 2:=by
 have:hasP s weakP=true:=by unfold hasP weakP;rw [decide_eq_true (by show 2≤s.length;omega),decide_eq_true (by exact h.2)];rfl
 unfold Y4
 rw [this]
 exact ⟨rfl,rfl⟩
theorem etag_ref {s:Str} (h:¬ (2<s.length∧s.take 2=[87,47])):(hasP s weakP=false∧Y4 s=s)∨s=weakP:=by
 cases hp:hasP s weakP with
 | false=>exact .inl ⟨rfl,by unfold Y4;rw [hp];rfl⟩
 | true =>
  refine .inr ?_
  unfold hasP weakP at hp
  rw [Bool.and_eq_true,decide_eq_true_iff,decide_eq_true_iff] at hp
  have h2:s.take 2=[87,47]:=hp.2
  have h3:s.length=2:=by
   have h4:2≤s.length:=hp.1
   rcases Nat.lt_or_ge 2 s.length with h5 | h5
   ·exact absurd ⟨h5,h2⟩ h
   ·omega
  rw [List.take_of_length_le (by omega)] at h2
  exact h2
theorem etag_r1 {s:Str} (h:¬ (2<s.length∧s.take 2=[87,47])) (hb:badE s=true):qT s=false∧YP s=(false,[]):=by
 rcases etag_ref h with ⟨h1,h2⟩ | h1
 ·exact etag_bad (by rw [h2];exact hb)
 ·exact etag_bad (etag_two h1).1
theorem etag_r2 {s:Str} (h:¬ (2<s.length∧s.take 2=[87,47])) (hb:badE s=false):qT s=true∧YP s=(false,inner s):=by
 rcases etag_ref h with ⟨h1,h2⟩ | h1
 ·have:=etag_good (s:=s) (by rw [h2];exact hb)
  rw [h1,h2] at this
  exact this
 ·rw [(etag_two h1).2] at hb;cases hb
theorem etag_r3 {s:Str} (h:2<s.length∧s.take 2=[87,47]) (hb:badE (s.drop 2)=true):qT s=false∧YP s=(false,[]):=etag_bad (by rw [(hasP_weak h).2];exact hb)
theorem etag_r4 {s:Str} (h:2<s.length∧s.take 2=[87,47]) (hb:badE (s.drop 2)=false):qT s=true∧YP s=(true,inner (s.drop 2)):=by
 have:=etag_good (s:=s) (by rw [(hasP_weak h).2];exact hb)
 rw [(hasP_weak h).1,(hasP_weak h).2] at this
 exact this
theorem etagS_len (s:Str):(Y4 s).length≤s.length:=by
 unfold Y4
 split
 ·simp
 ·exact Nat.le_refl _
theorem argR_len (r:Str):(argR r).1.length≤r.length:=by
 unfold argR
 split
 ·exact Nat.zero_le _
 ·split
  ·simp
  ·have h1:=unq_length (r.drop 1)
   have h2:(r.drop 1).length=r.length-1:=List.length_drop
   omega
theorem findD_len {M:List Str} {name:Str} {n:Nat} (h:∀ x∈M,x.length≤n):((qC M name).getD []).length≤n:=by
 unfold qC
 cases hf:M.find? (fun m=>decide (0<ZC m)&&decide (Ze m=name)) with
 | none=>exact Nat.zero_le _
 | some m =>
  show (ZX m).length≤n
  have:=h m (List.mem_of_find?_eq_some hf)
  unfold ZX
  simp;omega
theorem secs_no {M:List Str} {name:Str} {w b:Nat} (h:hasD M name=false):Yb M name w b=-1:=by
 unfold hasD at h
 unfold Yb
 cases hf:qC M name with
 | none=>rfl
 | some r=>rw [hf] at h;cases h
theorem secs_yes {M:List Str} {name:Str} {w b:Nat} (h:hasD M name=true):Yb M name w b=(numR ((qC M name).getD []) w b:Int):=by
 unfold hasD at h
 unfold Yb
 cases hf:qC M name with
 | none=>rw [hf] at h;cases h
 | some r=>rfl
theorem numR_nil {r:Str} {w b:Nat} (h:r=[]):numR r w b=w:=by
 unfold numR
 rw [form_0 h];rfl
theorem numR_bad {r:Str} {w b:Nat} (h:¬ r=[]) (h2:(argR r).2=false∨numB (argR r).1=false):numR r w b=b:=(numR_arg h).trans (if_pos h2)
theorem numR_val {r:Str} {w b:Nat} (h:¬ r=[]) (h2:¬ ((argR r).2=false∨numB (argR r).1=false)):numR r w b=numN (argR r).1:=(numR_arg h).trans (if_neg h2)
def atI (i k:Nat) (v:Int):Int:=if k<i then v else -1
theorem atI_new {k:Nat} {v:Int}:atI (k+1) k v=v:=if_pos (Nat.lt_succ_self k)
theorem Zb {i k:Nat} {v:Int} (h:i≠k):atI (i+1) k v=atI i k v:=by
 unfold atI
 by_cases h1:k<i
 ·rw [if_pos h1,if_pos (by omega)]
 ·rw [if_neg h1,if_neg (by omega)]
theorem atI_miss {k:Nat} {v:Int} (h:v=-1):atI (k+1) k v=atI k k v:=by
 unfold atI
 rw [if_pos (by omega),if_neg (by omega),h]
theorem atI_hit {k:Nat} {v u:Int} (h:u=v):u=atI (k+1) k v:=by rw [atI_new,h]
theorem req_no {l:List Fld} (h:decide (0<(getF l sCC).length)=true):reqF l=ctlF l:=by
 have:pragB l=false:=by
  unfold pragB
  rw [decide_eq_false (by have:=of_decide_eq_true h;omega)];rfl
 unfold reqF
 rw [this,Bool.or_false]
theorem req_yes {l:List Fld} (h:decide (0<(getF l sCC).length)=false):reqF l=((ctlF l).1,(ctlF l).2.1||(allF l sPragma).any (fun m=>fold m Vn),(ctlF l).2.2):=by
 have:pragB l=(allF l sPragma).any (fun m=>fold m Vn):=by
  unfold pragB
  rw [decide_eq_true (by have:=of_decide_eq_false h;omega)];rfl
 unfold reqF
 rw [this]
theorem formR_len (r:Str):(Z7 r).2.length≤r.length:=by
 unfold Z7
 split
 ·exact Nat.zero_le _
 ·split
  ·simp
  ·split
   ·have h1:=unq_length (r.drop 1)
    have h2:(r.drop 1).length=r.length-1:=List.length_drop
    show (unq (r.drop 1)).1.length≤_
    omega
   ·exact Nat.zero_le _
theorem wT {M:List Str} {name:Str} {n:Nat} (h:∀ x∈M,x.length≤n) (hn:name≠[]):((yz (WP M) name).getD (0,[])).2.length≤n:=by
 rw [find_lookS hn]
 have h1:=findD_len (name:=name) h
 cases hf:qC M name with
 | none=>exact Nat.zero_le _
 | some r =>
  rw [hf] at h1
  exact Nat.le_trans (formR_len r) h1
theorem put_new {F:List (Str×Int×Str)} {m:Str} (h:(yz F (Ze m)).isSome=false∧¬ Ze m=[]):putD F m=F++[(Ze m,Z7 (ZX m))]:=if_pos h
theorem put_old {F:List (Str×Int×Str)} {m:Str} (h:(yz F (Ze m)).isSome=true∨Ze m=[]):putD F m=F:=if_neg fun q=>by
 rcases h with h | h
 ·rw [q.1] at h;cases h
 ·exact q.2 h
end Go.Plain
namespace Go.Plain
open Go.Sep
set_option linter.unusedVariables false
set_option linter.unusedSimpArgs false
def wo (l:List Fld) (name:Str):Str:=(getF l name).headD []
def sExpires:Str:=[69,120,112,105,114,101,115]
def sDate:Str:=[68,97,116,101]
def sAge:Str:=[65,103,101]
def sETag:Str:=[69,84,97,103]
def sLastMod:Str:=[76,97,115,116,45,77,111,100,105,102,105,101,100]
def fdB (l:List Fld) (name:Str):Bool:=Z8 (wo l name)
def fdN (l:List Fld) (name:Str):Nat:=qJ (wo l name)
abbrev cMax (c:Ctl):Int:=c.2.2.2.2.2.2.2.1
abbrev cSMax (c:Ctl):Int:=c.2.2.2.2.2.2.2.2.1
abbrev cMinF (c:Ctl):Int:=c.2.2.2.2.2.2.2.2.2.1
abbrev cStale (c:Ctl):Int:=c.2.2.2.2.2.2.2.2.2.2
def wE (l:List Fld):Int :=
 if 0≤cSMax (ctlF l) then cSMax (ctlF l) else if 0≤cMax (ctlF l) then cMax (ctlF l) else if (fdB l sExpires&&fdB l sDate)=true then min (max ((fdN l sExpires:Int)-(fdN l sDate:Int)) 0) 2147483647 else 0
def Zo (l:List Fld) (received:Int):Int:=if fdB l sDate=true then (fdN l sDate:Int) else received
def QH (req rec now:Int):Bool:=((decide (req<0)||decide (rec<req))||decide (now<rec))||decide (1099511627776<now)
def ageF (l:List Fld) (req rec now:Int):Int :=
 if QH req rec now=true then 2147483647 else min (max (max 0 (rec-Zo l rec)) (((numN (wo l sAge):Nat):Int)+rec-req)+now-rec) 2147483647
def ZE (life age:Int) (q r:Ctl):Bool :=
 if (((decide (life<0)||decide (2147483647<life))||decide (age<0))||decide (2147483647<age))=true then false
 else if (q.2.1||r.2.1)=true then false
 else if (!decide (cMax q=-1)&&decide (cMax q<age))=true then false
 else if age<life then decide (cMinF q=-1)||decide (cMinF q≤life-age)
 else if ((r.2.2.1||r.2.2.2.1)||!decide (cSMax r=-1))=true then false
 else if cMinF q≠-1 then false
 else !decide (cStale q=-1)&&decide (age-life≤cStale q)
/-- The reference puts two refusals into one. -/
def freshR (life age:Int) (q r:Ctl):Bool :=
 if (((decide (life<0)||decide (2147483647<life))||decide (age<0))||decide (2147483647<age))=true then false
 else if ((q.2.1||r.2.1)||(!decide (cMax q=-1)&&decide (cMax q<age)))=true then false
 else if age<life then decide (cMinF q=-1)||decide (cMinF q≤life-age)
 else if (((r.2.2.1||r.2.2.2.1)||!decide (cSMax r=-1))||!decide (cMinF q=-1))=true then false
 else !decide (cStale q=-1)&&decide (age-life≤cStale q)
theorem Vw (life age:Int) (q r:Ctl):freshR life age q r=ZE life age q r:=by
 unfold freshR ZE
 split
 ·rfl
 ·generalize (q.2.1||r.2.1)=a
  generalize (!decide (cMax q=-1)&&decide (cMax q<age))=b
  generalize ((r.2.2.1||r.2.2.2.1)||!decide (cSMax r=-1))=d
  by_cases hm:cMinF q=-1
  ·rw [hm]
   cases a <;> cases b <;> cases d <;> simp
  ·rw [decide_eq_false hm]
   cases a <;> cases b <;> cases d <;> simp [hm]
theorem lifeF_1 {l:List Fld} (h:0≤cSMax (ctlF l)):wE l=cSMax (ctlF l):=if_pos h
theorem lifeF_2 {l:List Fld} (h:¬ 0≤cSMax (ctlF l)) (h2:0≤cMax (ctlF l)):wE l=cMax (ctlF l):=(if_neg h).trans (if_pos h2)
theorem lifeF_3 {l:List Fld} (h:¬ 0≤cSMax (ctlF l)) (h2:¬ 0≤cMax (ctlF l)) (h3:((!fdB l sExpires)||(!fdB l sDate))=true):wE l=0:=by
 unfold wE
 rw [if_neg h,if_neg h2,if_neg (by intro e;rw [Bool.and_eq_true] at e;rw [e.1,e.2] at h3;cases h3)]
theorem lifeF_4 {l:List Fld} (h:¬ 0≤cSMax (ctlF l)) (h2:¬ 0≤cMax (ctlF l)) (h3:((!fdB l sExpires)||(!fdB l sDate))=false):wE l=min (max ((fdN l sExpires:Int)-(fdN l sDate:Int)) 0) 2147483647:=by
 unfold wE
 rw [if_neg h,if_neg h2,if_pos (by rw [Bool.or_eq_false_iff] at h3;rw [yL h3.1,yL h3.2];rfl)]
theorem fd_no {l:List Fld} {name:Str} (h:¬ 0<(getF l name).length):fdN l name=0∧fdB l name=false:=by
 have:wo l name=[]:=by
  unfold wo
  rw [List.length_eq_zero_iff.1 (by omega:(getF l name).length=0)];rfl
 unfold fdN fdB
 rw [this]
 exact ⟨by decide,by decide⟩
theorem ctl_range (l:List Fld):(-1≤cMax (ctlF l)∧cMax (ctlF l)≤2147483647)∧(-1≤cSMax (ctlF l)∧cSMax (ctlF l)≤2147483647)∧(-1≤cMinF (ctlF l)∧cMinF (ctlF l)≤2147483647)∧(-1≤cStale (ctlF l)∧cStale (ctlF l)≤2147483647) :=
 ⟨QN (by decide) (by decide),QN (by decide) (by decide),QN (by decide) (by decide),QN (by decide) (by decide)⟩
theorem dateOf_range {l:List Fld} {rec:Int} (h:0≤rec):0≤Zo l rec∧(Zo l rec≤400000000000∨Zo l rec=rec):=by
 have:=dateN_le (wo l sDate)
 unfold Zo fdN
 split <;> omega
theorem age_bad {l:List Fld} {req rec now:Int} (h:QH req rec now=true):ageF l req rec now=2147483647:=if_pos h
theorem age_ok {l:List Fld} {req rec now:Int} (h:QH req rec now=false):ageF l req rec now=min (max (max 0 (rec-Zo l rec)) (((numN (wo l sAge):Nat):Int)+rec-req)+now-rec) 2147483647:=if_neg (by rw [h];simp)
theorem age_good {req rec now:Int} (h:QH req rec now=false):0≤req∧req≤rec∧rec≤now∧now≤1099511627776:=by
 unfold QH at h
 simp only [Bool.or_eq_false_iff,decide_eq_false_iff_not] at h
 omega
def ageE (e:Ent) (now:Int):Int:=ageF e.2.2.2.2.1 e.2.2.2.2.2.2.1 e.2.2.2.2.2.2.2 now
def Wx (e:Ent) (l:List Fld) (now:Int):Bool:=ZE (wE e.2.2.2.2.1) (ageE e now) (reqF l) (ctlF e.2.2.2.2.1)
def w3 (l:List Fld):Bool:=decide (0<(getF l sETag).length)&&qT (wo l sETag)
def q7 (l:List Fld):Bool×Str:=if 0<(getF l sETag).length then YP (wo l sETag) else (false,[])
theorem etagO_no {l:List Fld} (h:¬ 0<(getF l sETag).length):q7 l=(false,[])∧w3 l=false:=by
 unfold q7 w3
 rw [if_neg h,decide_eq_false h]
 exact ⟨rfl,rfl⟩
theorem etagO_yes {l:List Fld} (h:0<(getF l sETag).length):q7 l=YP (wo l sETag)∧w3 l=qT (wo l sETag):=by
 unfold q7 w3
 rw [if_pos h,decide_eq_true h]
 exact ⟨rfl,rfl⟩
theorem Wu {l:List Fld} {n:Nat} (h:∀ x∈l,x.2.length≤n) (name:Str):(wo l name).length≤n:=by
 unfold wo
 cases hg:getF l name with
 | nil=>exact Nat.zero_le _
 | cons v r =>
  show v.length≤n
  have:v∈getF l name:=by rw [hg];exact List.mem_cons_self
  unfold getF at this
  obtain ⟨x,hx,rfl⟩:=List.mem_map.1 this
  exact h x (List.mem_filter.1 hx).1
def Q9 (l:List Fld):Bool:=w3 l||fdB l sLastMod
/-! ### Vary -/
def qg (name:Str) (l:List Fld):Str :=
 if (getF l name).length=0 then [] else if (!decide (ze name=0)&&decide ((allF l name).length<64))=true then [61]++lower (Yt [44,32] (allF l name)) else [61]++Yt [44,32] (getF l name)
def qY (names:List Str) (l:List Fld):List Str:=names.map fun n=>qg n l
def Zn (names snap:List Str) (l:List Fld):Bool:=decide (names.length=snap.length)&&decide (qY names l=snap)
theorem valueY_1 {nm:Str} {l:List Fld} (h:¬ 0<(getF l nm).length):qg nm l=[]:=if_pos (by omega)
theorem valueY_2 {nm:Str} {l:List Fld} (h:0<(getF l nm).length) (h2:((!decide (ze nm=0))&&decide ((allF l nm).length<64))=true):qg nm l=[61]++lower (Yt [44,32] (allF l nm)):=(if_neg (by omega)).trans (if_pos h2)
theorem valueY_3 {nm:Str} {l:List Fld} (h:0<(getF l nm).length) (h2:((!decide (ze nm=0))&&decide ((allF l nm).length<64))=false):qg nm l=[61]++Yt [44,32] (getF l nm):=(if_neg (by omega)).trans (if_neg (by rw [h2];simp))
theorem snapY_step {names:List Str} {l:List Fld} {i:Nat} (h:i<names.length):qY (names.take (i+1)) l=qY (names.take i) l++[qg (names.getD i []) l]:=by
 unfold qY
 rw [take_next (dd:=[]) h,List.map_append];rfl
theorem bestK_strs {axes:List Axs} {l:List Fld} {strict:Bool} {n:Nat} (hb:∀ a∈axes,∀ x∈a.2,x.length≤n) (h:We axes l strict=true):∀ s∈Wd axes l strict,s.length≤n:=by
 have hv:YQ axes=true:=by
  cases hv:YQ axes with
  | true=>rfl
  | false =>
   unfold We Zz at h
   rw [if_pos hv] at h
   simp at h
 obtain ⟨h1,h2⟩:=bestK_yes hv h
 rw [h1]
 intro s hs
 obtain ⟨r,hr,rfl⟩:=List.mem_map.1 hs
 have hne:=h2 r hr
 unfold qZ at hr
 obtain ⟨a,ha,rfl⟩:=List.mem_map.1 hr
 refine hb a ha _ (rankA_sub (l:=l) (strict:=strict) _ ?_)
 cases hc:Y8 a l strict with
 | nil=>exact absurd hc hne
 | cons x t=>exact List.mem_cons_self
/-! ### Tables -/
def Wt (p:Ent→Bool) (l:List Ent):Nat→Int
 | 0=>-1
 | i+1=>if p (l.getD i ([],[],[],[],[],[],0,0))=true then (i:Int) else Wt p l i
def q5 (p:Ent→Bool) (l:List Ent):Int:=Wt p l l.length
theorem lastGo_range (p:Ent→Bool) (l:List Ent):∀ n,-1≤Wt p l n∧Wt p l n<n
 | 0=>by unfold Wt;omega
 | n+1=>by
  have:=lastGo_range p l n
  unfold Wt
  split <;> omega
theorem lastI_range (p:Ent→Bool) (l:List Ent):-1≤q5 p l∧q5 p l<l.length:=lastGo_range p l l.length
theorem lastGo_hit {p:Ent→Bool} {l:List Ent} {i:Nat} (h:p (l.getD i ([],[],[],[],[],[],0,0))=true):Wt p l (i+1)=(i:Int):=if_pos h
theorem QU {p:Ent→Bool} {l:List Ent} {i:Nat} (h:p (l.getD i ([],[],[],[],[],[],0,0))=false):Wt p l (i+1)=Wt p l i:=if_neg (by rw [h];simp)
def zp (t:Tab) (l:List Fld) (strict:Bool):Int×Bool :=
 if t.1=[] then (q5 (fun e=>Zn e.2.1 e.2.2.1 l) t.2,true)
 else if We t.1 l strict=true then (q5 (fun e=>hasK t.1 e (Wd t.1 l strict)) t.2,true) else (-1,false)
theorem findY_1 {t:Tab} {l:List Fld} {strict:Bool} (h:t.1=[]):zp t l strict=(q5 (fun en=>Zn en.2.1 en.2.2.1 l) t.2,true):=if_pos h
theorem findY_2 {t:Tab} {l:List Fld} {strict:Bool} (h:¬ t.1=[]) (h2:We t.1 l strict=false):zp t l strict=(-1,false):=(if_neg h).trans (if_neg (by rw [h2];simp))
theorem findY_3 {t:Tab} {l:List Fld} {strict:Bool} (h:¬ t.1=[]) (h2:We t.1 l strict=true):zp t l strict=(q5 (fun en=>hasK t.1 en (Wd t.1 l strict)) t.2,true):=(if_neg h).trans (if_pos h2)
theorem findY_range (t:Tab) (l:List Fld) (strict:Bool):-1≤(zp t l strict).1∧(zp t l strict).1<t.2.length:=by
 unfold zp
 split
 ·exact lastI_range _ _
 ·split
  ·exact lastI_range _ _
  ·exact ⟨Int.le_refl _,by show (-1:Int)<_;omega⟩
/-! ### Decisions -/
def sGet:Str:=[71,69,84]
def sHead:Str:=[72,69,65,68]
def decY (t:Tab) (meth:Str) (l:List Fld) (now:Int) (strict refuse:Bool):Int×Int :=
 if meth≠sGet∧meth≠sHead then (3,-1)
 else if (decide (0<t.1.length)&&(!(zp t l strict).2&&refuse))=true then (5,-1)
 else if (reqF l).1=true then (3,-1)
 else if 0≤(zp t l strict).1∧Wx (t.2.getD (zp t l strict).1.toNat ([],[],[],[],[],[],0,0)) l now=true then (1,(zp t l strict).1)
 else if (reqF l).2.2.2.2.2.2.1=true then (4,-1)
 else if 0≤(zp t l strict).1∧Q9 (t.2.getD (zp t l strict).1.toNat ([],[],[],[],[],[],0,0)).2.2.2.2.1=true then (2,(zp t l strict).1)
 else (3,-1)
end Go.Plain
namespace Go.Plain
open Go.Sep
set_option linter.unusedVariables false
set_option linter.unusedSimpArgs false
section
variable {t:Tab} {meth:Str} {l:List Fld} {now:Int} {strict refuse:Bool}
end
end Go.Plain
