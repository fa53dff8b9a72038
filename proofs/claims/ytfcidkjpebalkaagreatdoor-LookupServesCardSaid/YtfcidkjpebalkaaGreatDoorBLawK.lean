/-
 Numbers,dates and entity tags in plain Lean: what Number reads,the days since 1970 by a formula and by counting,the text of a date,an entity tag. No program in sight. No conditions.
 Cache directives and entity tags in plain Lean: the first directive with a name,its number,the control of a message. No program in sight. No conditions.
 Freshness and decisions in plain Lean: lifetime and age of a response,whether it may be used without validation,which entry is selected,what is done with a request;and what these decisions never do. No program in sight. No conditions.
 What decisions never do,in plain Lean: what is served is selected,fresh or permitted stale;406 needs the configuration;only-if-cached never goes to the origin. No program in sight. No conditions.
-/
import Derived.Test.YtfcidkjpebalkaaGreatDoorBLawB
import Derived.Test.YtfcidkjpebalkaaGreatDoorBLawI
import Derived.Test.YtfcidkjpebalkaaGreatDoorBLawC
namespace Go.Plain
open Go.Sep
set_option linter.unusedVariables false
set_option linter.unusedSimpArgs false
/-! ### Numbers -/
def numS (n:Nat) (c:UInt8):Nat:=min (10*n+digV c) 2147483647
def numV (s:Str):Nat:=s.foldl numS 0
def numB (s:Str):Bool:=s.all digB&&!decide (s=[])
def numN (s:Str):Nat:=if s.all digB=true then numV s else 0
theorem numV_step {s:Str} {i:Nat} (h:i<s.length):numV (s.take (i+1))=min (10*numV (s.take i)+digV (s.getD i 0)) 2147483647:=by
 unfold numV
 rw [List.take_add_one,List.getElem?_eq_getElem h,Option.toList_some,List.foldl_append,List.getD_eq_getElem?_getD,List.getElem?_eq_getElem h]
 rfl
theorem foldl_numS_le:∀ (s:Str) (n:Nat),n≤2147483647→s.foldl numS n≤2147483647
 | [],n,h=>h
 | c::s,n,h=>foldl_numS_le s _ (by unfold numS;omega)
theorem numV_le (s:Str):numV s≤2147483647:=foldl_numS_le s 0 (by omega)
theorem wo (s:Str):numN s≤2147483647:=by
 unfold numN
 split
 ·exact numV_le s
 ·omega
theorem num_bad {s:Str} {i:Nat} (h:i<s.length) (hd:digB (s.getD i 0)=false):numN s=0∧numB s=false:=by
 have:s.all digB=false:=by
  rw [List.all_eq_false]
  refine ⟨s.getD i 0,?_,by rw [hd];simp⟩
  rw [List.getD_eq_getElem?_getD,List.getElem?_eq_getElem h]
  exact List.getElem_mem h
 unfold numN numB
 rw [this]
 exact ⟨rfl,rfl⟩
theorem num_good {s:Str} {i:Nat} (h:¬ i<s.length) (hd:(s.take i).all digB=true):numN s=numV (s.take i)∧numB s=!decide (s=[]):=by
 rw [List.take_of_length_le (by omega)] at hd ⊢
 unfold numN numB
 rw [hd]
 exact ⟨rfl,rfl⟩
/-! ### Days -/
def leapB (y:Nat):Bool:=decide (y % 4=0)&&(!decide (y % 100=0)||decide (y % 400=0))
def monthsL:List Nat:=[31,28,31,30,31,30,31,31,30,31,30,31]
def z0 (y m:Nat):Nat:=if m=2∧leapB y=true then 29 else monthsL.getD (m-1) 0
theorem YY (y m:Nat):z0 y m≤31:=by
 unfold z0
 split
 ·omega
 ·rcases Nat.lt_or_ge (m-1) 12 with h | h
  ·have:∀ k,k<12→monthsL.getD k 0≤31:=by decide
   exact this _ h
  ·rw [List.getD_eq_getElem?_getD,List.getElem?_eq_none (by simpa [monthsL] using h)]
   exact Nat.zero_le _
def Zw (y:Nat):Nat:=365*(y-1)+(y-1) / 4-(y-1) / 100+(y-1) / 400
def leapN (y:Nat):Nat:=if leapB y=true then 1 else 0
theorem leapN_eq (y:Nat):leapN y=if y % 4=0∧(y % 100≠0∨y % 400=0) then 1 else 0:=by
 unfold leapN leapB
 simp only [Bool.and_eq_true,Bool.or_eq_true,decide_eq_true_eq,Bool.not_eq_true',decide_eq_false_iff_not]
theorem div_step (z k:Nat):(z+1) / k=z / k+(if (z+1) % k=0 then 1 else 0):=by
 rw [Nat.succ_div]
 by_cases h:k ∣ z+1
 ·rw [if_pos h,if_pos (Nat.mod_eq_zero_of_dvd h)]
 ·rw [if_neg h,if_neg (fun e=>h (Nat.dvd_of_mod_eq_zero e))]
theorem before_step {y:Nat} (h:1≤y):Zw (y+1)=Zw y+365+leapN y:=by
 rw [leapN_eq]
 unfold Zw
 obtain ⟨z,rfl⟩:∃ z,y=z+1:=⟨y-1,by omega⟩
 simp only [Nat.add_sub_cancel]
 have i1:(z+1) % 100=0→(z+1) % 4=0:=by omega
 have i2:(z+1) % 400=0→(z+1) % 100=0:=by omega
 have hb:z / 100≤z:=Nat.div_le_self _ _
 rw [div_step z 4,div_step z 100,div_step z 400]
 generalize z / 4=a
 generalize z / 100=b at hb ⊢
 generalize z / 400=c
 by_cases p4:(z+1) % 4=0 <;> by_cases p1:(z+1) % 100=0 <;> by_cases p2:(z+1) % 400=0 <;> simp only [p4,p1,p2,if_true,if_false,ne_eq,not_true_eq_false,not_false_eq_true,or_true,or_false,and_true,and_false,false_or,true_and,false_and] <;> first | omega | exact absurd (i2 p2) p1 | exact absurd (i1 p1) p4
/-- The days of the years from 1970 on. -/
def Wa (y:Nat):Nat:=Zw y-Zw 1970
theorem QM {y:Nat}:∀ k,1≤y→Zw y≤Zw (y+k)
 | 0,_=>Nat.le_refl _
 | k+1,h=>by have:=QM k h;have:=before_step (y:=y+k) (by omega);rw [← Nat.add_assoc];omega
theorem years_step {y:Nat} (h:1970≤y):Wa (y+1)=Wa y+365+leapN y:=by
 have h1:=before_step (y:=y) (by omega)
 have h2:=QM (y:=1970) (y-1970) (by omega)
 rw [show 1970+(y-1970)=y from by omega] at h2
 unfold Wa
 omega
theorem years_le {y:Nat} (h:y≤9999):Wa y≤3700000:=by
 unfold Wa Zw;omega
theorem before_le {y:Nat} (h:y≤9999):Zw y≤3700000:=by
 unfold Zw;omega
def Qx (y:Nat):Nat→Nat
 | 0=>0
 | m+1=>Qx y m+z0 y (m+1)
theorem ZP (y:Nat):∀ m,Qx y m≤31*m
 | 0=>Nat.le_refl _
 | m+1=>by have:=ZP y m;have:=YY y (m+1);show Qx y m+_≤_;omega
def badD (y m d:Nat):Bool:=((((decide (y<1970)||decide (9999<y))||decide (m<1))||decide (12<m))||decide (d<1))||decide (z0 y m<d)
def daysN (y m d:Nat):Nat:=Wa y+(d-1)+Qx y (m-1)
def qM (y m d:Nat):Int:=if badD y m d=true then -1 else (daysN y m d:Int)
theorem days_bad {y m d:Nat} (h:badD y m d=true):qM y m d=-1:=if_pos h
theorem days_good {y m d:Nat} (h:badD y m d=false):qM y m d=(daysN y m d:Int):=if_neg (by rw [h];simp)
structure GoodD (y m d:Nat):Prop where
 y1:1970≤y
 y2:y≤9999
 m1:1≤m
 m2:m≤12
 d1:1≤d
 d2:d≤z0 y m
theorem goodD_of {y m d:Nat} (h:badD y m d=false):GoodD y m d:=by
 unfold badD at h
 simp only [Bool.or_eq_false_iff,decide_eq_false_iff_not] at h
 exact ⟨by omega,by omega,by omega,by omega,by omega,by omega⟩
theorem daysN_le {y m d:Nat} (h:GoodD y m d):daysN y m d≤3800000:=by
 have h1:=years_le h.y2
 have h2:=ZP y (m-1)
 have h3:=YY y m
 have:=h.m2
 have:=h.d2
 unfold daysN
 omega
theorem QF (y m d:Nat):-1≤qM y m d∧qM y m d≤3800000:=by
 cases h:badD y m d with
 | true=>rw [days_bad h];omega
 | false=>rw [days_good h];have:=daysN_le (goodD_of h);omega
theorem ref_len30 {y m:Nat} (h:m=4∨m=6∨m=9∨m=11):z0 y m=30:=by
 rcases h with rfl | rfl | rfl | rfl <;> rfl
theorem ref_len29 {y m:Nat} (h:m=2) (hl:leapB y=true):z0 y m=29:=if_pos ⟨h,hl⟩
theorem ref_len28 {y m:Nat} (h:m=2) (hl:leapB y=false):z0 y m=28:=by
 unfold z0
 rw [if_neg (fun q=>by rw [hl] at q;cases q.2),h];rfl
theorem ref_len31 {y m:Nat} (h1:1≤m) (h2:m≤12) (h:¬ (m=4∨m=6∨m=9∨m=11)) (h3:¬ m=2):z0 y m=31:=by
 unfold z0
 rw [if_neg (fun q=>h3 q.1)]
 have:m=1∨m=3∨m=5∨m=7∨m=8∨m=10∨m=12:=by omega
 rcases this with rfl | rfl | rfl | rfl | rfl | rfl | rfl <;> rfl
theorem months_step {y k:Nat} (h:1≤k):Qx y (k+1-1)=Qx y (k-1)+z0 y k:=by
 obtain ⟨z,rfl⟩:∃ z,k=z+1:=⟨k-1,by omega⟩
 rfl
theorem years_0:Wa 1970=0:=rfl
theorem leapN_1 {y:Nat} (h:leapB y=true):leapN y=1:=if_pos h
theorem leapN_0 {y:Nat} (h:leapB y=false):leapN y=0:=if_neg (by rw [h];simp)
/-! ### The names -/
def Zc:List Str:=[[74,97,110],[70,101,98],[77,97,114],[65,112,114],[77,97,121],[74,117,110],[74,117,108],[65,117,103],[83,101,112],[79,99,116],[78,111,118],[68,101,99]]
def Qh:List Str:=[[77,111,110],[84,117,101],[87,101,100],[84,104,117],[70,114,105],[83,97,116],[83,117,110]]
def qx (T:List Str) (t:Str):Int:=idxP (fun x=>decide (x=t)) T
theorem nameI_range (T:List Str) (t:Str):-1≤qx T t∧qx T t<T.length:=by
 unfold qx idxP
 split <;> omega
/-- The month's number,0 where there is none. -/
def Za (t:Str):Nat:=(qx Zc t+1).toNat
theorem monthI_eq (t:Str):qx Zc t+((1:Nat):Int)=((Za t:Nat):Int):=by
 have:=nameI_range Zc t
 unfold Za
 omega
theorem monthI_le (t:Str):Za t≤12:=by
 have:=nameI_range Zc t
 have h:Zc.length=12:=rfl
 unfold Za
 omega
/-- The last month of the first i that has this name. -/
def QA (t:Str):Nat→Nat
 | 0=>0
 | i+1=>if Zc.getD i []=t then i+1 else QA t i
theorem nameI_at {T:List Str} {t:Str} {i:Nat} (h:i<T.length) (hn:T.Nodup) (he:T.getD i []=t):qx T t=(i:Int):=by
 unfold qx idxP
 have h1:T.findIdx (fun x=>decide (x=t))=i:=by
  rw [List.getD_eq_getElem?_getD,List.getElem?_eq_getElem h] at he
  have he':T[i]=t:=he
  refine (List.findIdx_eq h).2 ⟨by simpa using he',fun j hj=>?_⟩
  have hne:T[j]≠t:=fun e=>by
   have:=(List.getElem_inj (h₀:=by omega) (h₁:=h) hn).1 (e.trans he'.symm)
   omega
  simpa using hne
 rw [h1,if_pos h]
theorem nameI_none {T:List Str} {t:Str} (he:∀ i,i<T.length→T.getD i []≠t):qx T t=-1:=by
 unfold qx idxP
 rw [if_neg]
 intro h
 have:=List.findIdx_getElem (xs:=T) (w:=h)
 refine he _ h ?_
 rw [List.getD_eq_getElem?_getD,List.getElem?_eq_getElem h]
 simpa using this
theorem lastM_spec (t:Str):∀ n,n≤12→(QA t n=0∧∀ i,i<n→Zc.getD i []≠t)∨(0<QA t n∧QA t n≤n∧Zc.getD (QA t n-1) []=t)
 | 0,_=>.inl ⟨rfl,fun i hi=>by omega⟩
 | n+1,h=>by
  by_cases he:Zc.getD n []=t
  ·have e:QA t (n+1)=n+1:=if_pos he
   rw [e]
   exact .inr ⟨by omega,by omega,he⟩
  ·have e:QA t (n+1)=QA t n:=if_neg he
   rw [e]
   rcases lastM_spec t n (by omega) with ⟨h1,h2⟩ | ⟨h1,h2,h3⟩
   ·refine .inl ⟨h1,fun i hi=>?_⟩
    rcases Nat.lt_or_ge i n with hi' | hi'
    ·exact h2 i hi'
    ·have:i=n:=by omega
     rw [this];exact he
   ·exact .inr ⟨h1,by omega,h3⟩
theorem lastM_all (t:Str):QA t 12=Za t:=by
 unfold Za
 rcases lastM_spec t 12 (by omega) with ⟨h1,h2⟩ | ⟨h1,h2,h3⟩
 ·rw [h1,nameI_none (T:=Zc) (t:=t) (by exact h2)];rfl
 ·rw [nameI_at (T:=Zc) (t:=t) (i:=QA t 12-1) (by show _<12;omega) (by decide) h3]
  omega
/-- The name of the weekday of day n. -/
theorem day_name {n:Nat} {t:Str}:decide (qx Qh t=(((n+3) % 7:Nat):Int))=decide (Qh.getD ((n+3) % 7) []=t):=by
 have h7:(n+3) % 7<Qh.length:=Nat.mod_lt _ (by decide)
 by_cases h:Qh.getD ((n+3) % 7) []=t
 ·rw [decide_eq_true h,nameI_at h7 (by decide) h,decide_eq_true rfl]
 ·rw [decide_eq_false h,decide_eq_false]
  intro e
  unfold qx idxP at e
  split at e
  ·rename_i h1
   have h2:=List.findIdx_getElem (xs:=Qh) (w:=h1)
   have h3:Qh.findIdx (fun x=>decide (x=t))=(n+3) % 7:=by omega
   refine h ?_
   rw [List.getD_eq_getElem?_getD,List.getElem?_eq_getElem h7]
   simp only [h3] at h2
   simpa using h2
  ·omega
/-! ### Dates -/
def subS (s:Str) (i j:Nat):Str:=(s.take j).drop i
def QO (s:Str):Bool:=!((((((((!decide (s.length=29))||(!decide ((s.take 5).drop 3=[44,32])))||(!decide (s.getD 7 0=32)))||(!decide (s.getD 11 0=32)))||(!decide (s.getD 16 0=32)))||(!decide (s.getD 19 0=58)))||(!decide (s.getD 22 0=58)))||(!decide (s.drop 25=[32,71,77,84])))
theorem shape_no {b:Bool} {s:Str} (hb:QO s=!b) (h:b=true):QO s=false:=by rw [hb,h];rfl
theorem shape_yes {b:Bool} {s:Str} (hb:QO s=!b) (h:b=false):QO s=true:=by rw [hb,h];rfl
theorem shape_len {s:Str} (h:QO s=true):s.length=29:=by
 unfold QO at h
 simp only [Bool.not_eq_true',Bool.or_eq_false_iff,Bool.not_eq_false',decide_eq_true_iff] at h
 exact h.1.1.1.1.1.1.1
def Vc (s:Str):Bool:=(((numB (subS s 5 7)&&numB (subS s 12 16))&&numB (subS s 17 19))&&numB (subS s 20 22))&&numB (subS s 23 25)
def dayD (s:Str):Int:=qM (numN (subS s 12 16)) (Za (subS s 8 11)) (numN (subS s 5 7))
def Qn (s:Str):Bool:=((((decide (dayD s<0)||decide (23<numN (subS s 17 19)))||decide (59<numN (subS s 20 22)))||decide (59<numN (subS s 23 25))))||!decide (qx Qh (s.take 3)=(((dayD s).toNat+3) % 7:Nat))
def secsD (s:Str):Nat:=(dayD s).toNat*86400+(numN (subS s 17 19)*3600+numN (subS s 20 22)*60+numN (subS s 23 25))
def ZR (s:Str):Bool:=QO s&&(Vc s&&!Qn s)
def qn (s:Str):Nat:=if ZR s=true then secsD s else 0
theorem date_shape {s:Str} (h:QO s=false):qn s=0∧ZR s=false:=by
 have:ZR s=false:=by unfold ZR;rw [h];rfl
 unfold qn
 rw [this]
 exact ⟨rfl,rfl⟩
theorem date_nums {s:Str} (h:Vc s=false):qn s=0∧ZR s=false:=by
 have:ZR s=false:=by unfold ZR;rw [h];simp
 unfold qn
 rw [this]
 exact ⟨rfl,rfl⟩
theorem date_bad {s:Str} (h:Qn s=true):qn s=0∧ZR s=false:=by
 have:ZR s=false:=by unfold ZR;rw [h];simp
 unfold qn
 rw [this]
 exact ⟨rfl,rfl⟩
theorem date_ok {s:Str} (h1:QO s=true) (h2:Vc s=true) (h3:Qn s=false):qn s=secsD s∧ZR s=true:=by
 have:ZR s=true:=by unfold ZR;rw [h1,h2,h3];rfl
 unfold qn
 rw [this]
 exact ⟨rfl,rfl⟩
/-- Where a date is refused,as Parse says it. -/
def badP (s:Str) (d:Int):Bool:=((((decide ((d:Int)<((0:Nat):Int))||decide ((23:Nat)<numN (subS s 17 19)))||decide ((59:Nat)<numN (subS s 20 22)))||decide ((59:Nat)<numN (subS s 23 25))))||(!decide (qx Qh (s.take 3)=(d+((3:Nat):Int)) % ((7:Nat):Int)))
theorem badP_eq (s:Str):badP s (dayD s)=Qn s:=by
 unfold badP Qn
 by_cases h:dayD s<0
 ·have h':(dayD s:Int)<((0:Nat):Int):=h
  rw [decide_eq_true h,decide_eq_true h'];simp
 ·have e:(((dayD s).toNat+3) % 7:Nat)=(dayD s+((3:Nat):Int)) % ((7:Nat):Int):=by omega
  rw [e];rfl
def weekT:Str:=[84,104,117,70,114,105,83,97,116,83,117,110,77,111,110,84,117,101,87,101,100]
theorem week_at:∀ k,k<7→(weekT.take (3*k+3)).drop (3*k)=Qh.getD ((k+3) % 7) []:=by decide
def badR (s:Str) (d:Int):Bool:=((((decide ((d:Int)<((0:Nat):Int))||decide ((23:Nat)<numN (subS s 17 19)))||decide ((59:Nat)<numN (subS s 20 22)))||decide ((59:Nat)<numN (subS s 23 25))))||(!decide ((weekT.take (3*(d.toNat % 7)+3)).drop (3*(d.toNat % 7))=s.take 3))
theorem badR_eq (s:Str):badR s (dayD s)=Qn s:=by
 rw [← badP_eq]
 unfold badP badR
 by_cases h:dayD s<0
 ·have h':(dayD s:Int)<((0:Nat):Int):=h
  rw [decide_eq_true h'];simp
 ·have e:(dayD s+((3:Nat):Int)) % ((7:Nat):Int)=((((dayD s).toNat+3) % 7:Nat):Int):=by omega
  rw [e,day_name,week_at _ (Nat.mod_lt _ (by decide)),show ((dayD s).toNat % 7+3) % 7=((dayD s).toNat+3) % 7 from by omega]
def refD (s:Str) (d:Int):Bool:=(((((((((!numB ((s.take 7).drop 5))||(!numB ((s.take 16).drop 12)))||(!numB ((s.take 19).drop 17)))||(!numB ((s.take 22).drop 20)))||(!numB ((s.take 25).drop 23)))||decide ((d:Int)<((0:Nat):Int)))||decide ((23:Nat)<numN ((s.take 19).drop 17)))||decide ((59:Nat)<numN ((s.take 22).drop 20)))||decide ((59:Nat)<numN ((s.take 25).drop 23)))||(!decide ((weekT.take (3*(d.toNat % 7)+3)).drop (3*(d.toNat % 7))=s.take 3))
theorem refD_eq (s:Str):refD s (dayD s)=(!Vc s||Qn s):=by
 rw [← badR_eq]
 unfold refD badR Vc subS
 generalize numB ((s.take 7).drop 5)=a
 generalize numB ((s.take 16).drop 12)=b
 generalize numB ((s.take 19).drop 17)=c
 generalize numB ((s.take 22).drop 20)=d
 generalize numB ((s.take 25).drop 23)=e
 generalize decide ((dayD s:Int)<((0:Nat):Int))=f
 cases a <;> cases b <;> cases c <;> cases d <;> cases e <;> cases f <;> rfl
theorem refD_no {s:Str} (h:refD s (dayD s)=false):Vc s=true∧Qn s=false:=by
 rw [refD_eq] at h
 cases h1:Vc s <;> cases h2:Qn s <;> simp_all
def monT:Str:=[74,97,110,70,101,98,77,97,114,65,112,114,77,97,121,74,117,110,74,117,108,65,117,103,83,101,112,79,99,116,78,111,118,68,101,99]
theorem mon_at:∀ k,k<12→(monT.take (3*k+3)).drop (3*k)=Zc.getD k []:=by decide
theorem lastM_hit {t:Str} {k:Nat} (hk:k<12) (h:(monT.take (3*k+3)).drop (3*k)=t):QA t (k+1)=k+1:=if_pos (by rw [← mon_at k hk];exact h)
theorem lastM_miss {t:Str} {k:Nat} (hk:k<12) (h:¬ (monT.take (3*k+3)).drop (3*k)=t):QA t (k+1)=QA t k:=if_neg (by rw [← mon_at k hk];exact h)
def WG (s:Str):List Str:=[(s.take 7).drop 5,(s.take 16).drop 12,(s.take 19).drop 17,(s.take 22).drop 20,(s.take 25).drop 23]
theorem nums_all {s:Str} (h:((WG s).take 5).all numB=true):Vc s=true:=by
 have:(WG s).take 5=WG s:=rfl
 rw [this] at h
 unfold WG at h
 unfold Vc subS
 simp only [List.all_cons,List.all_nil,Bool.and_true,Bool.and_eq_true] at h ⊢
 exact ⟨⟨⟨⟨h.1,h.2.1⟩,h.2.2.1⟩,h.2.2.2.1⟩,h.2.2.2.2⟩
theorem subs_len {s:Str} (h:s.length=29) (i:Nat):((WG s).getD i []).length≤29:=by
 rcases Nat.lt_or_ge i 5 with hi | hi
 ·have:i=0∨i=1∨i=2∨i=3∨i=4:=by omega
  unfold WG
  rcases this with rfl | rfl | rfl | rfl | rfl <;> simp <;> omega
 ·rw [List.getD_eq_getElem?_getD,List.getElem?_eq_none (by unfold WG;simpa using hi)]
  simp
theorem sub_get {s:Str} {a b i:Nat} (h1:a≤i) (h2:i<b) (h3:b≤s.length):((s.take b).drop a).getD (i-a) 0=s.getD i 0:=by
 rw [List.getD_eq_getElem?_getD,List.getD_eq_getElem?_getD,List.getElem?_drop,show a+(i-a)=i from by omega,List.getElem?_take_of_lt h2]
theorem nums_no {s:Str} {i:Nat} (hi:i<5) (h:numB ((WG s).getD i [])=false):Vc s=false:=by
 rw [← Bool.not_eq_true]
 unfold Vc subS
 intro e
 simp only [Bool.and_eq_true] at e
 have:i=0∨i=1∨i=2∨i=3∨i=4:=by omega
 unfold WG at h
 rcases this with rfl | rfl | rfl | rfl | rfl
 ·exact absurd (e.1.1.1.1.symm.trans h) (by simp)
 ·exact absurd (e.1.1.1.2.symm.trans h) (by simp)
 ·exact absurd (e.1.1.2.symm.trans h) (by simp)
 ·exact absurd (e.1.2.symm.trans h) (by simp)
 ·exact absurd (e.2.symm.trans h) (by simp)
theorem refD_bad {s:Str} (h:refD s (dayD s)=true):qn s=0∧ZR s=false:=by
 rw [refD_eq] at h
 cases h1:Vc s with
 | false=>exact date_nums h1
 | true=>exact date_bad (by rw [h1] at h;simpa using h)
theorem refD_ok {s:Str} (h1:QO s=true) (h:refD s (dayD s)=false):qn s=secsD s∧ZR s=true:=date_ok h1 (refD_no h).1 (refD_no h).2
def numsI (s:Str) (i:Nat):List Int:=((WG s).take i).map (fun x=>((numN x:Nat):Int))++List.replicate (5-i) 0
theorem numsI_step {s:Str}:∀ i,i<5→(numsI s i).set i ((numN ((WG s).getD i []):Nat):Int)=numsI s (i+1):=by
 intro i hi
 have:i=0∨i=1∨i=2∨i=3∨i=4:=by omega
 rcases this with rfl | rfl | rfl | rfl | rfl <;> rfl
theorem bad_pos {s:Str} (h:Qn s=false):0≤dayD s∧dayD s≤3800000∧numN (subS s 17 19)≤23∧numN (subS s 20 22)≤59∧numN (subS s 23 25)≤59:=by
 unfold Qn at h
 simp only [Bool.or_eq_false_iff,decide_eq_false_iff_not] at h
 have e:dayD s=qM (numN (subS s 12 16)) (Za (subS s 8 11)) (numN (subS s 5 7)):=rfl
 have:=QF (numN (subS s 12 16)) (Za (subS s 8 11)) (numN (subS s 5 7))
 rw [← e] at this
 omega
theorem secs_le {s:Str} (h:Qn s=false):secsD s≤400000000000:=by
 unfold Qn at h
 simp only [Bool.or_eq_false_iff,decide_eq_false_iff_not] at h
 have:=QF (numN (subS s 12 16)) (Za (subS s 8 11)) (numN (subS s 5 7))
 unfold secsD
 have e:dayD s=qM (numN (subS s 12 16)) (Za (subS s 8 11)) (numN (subS s 5 7)):=rfl
 rw [← e] at this
 omega
theorem dateN_le (s:Str):qn s≤400000000000:=by
 unfold qn
 split
 ·rename_i h
  unfold ZR at h
  simp only [Bool.and_eq_true] at h
  exact secs_le (by simpa using h.2.2)
 ·omega
end Go.Plain
namespace Go.Plain
open Go.Sep
set_option linter.unusedVariables false
set_option linter.unusedSimpArgs false
/-! ### Entity tags -/
def Va (c:UInt8):Bool:=!((decide (c<33)||decide (c=34))||decide (c=127))
def cutP (s p:Str):Str:=if hasP s p=true then s.drop p.length else s
def weakP:Str:=[87,47]
def YU (s:Str):Str:=if hasP s weakP=true then s.drop 2 else s
def badE (t:Str):Bool:=(((decide (t.length<2)||!decide (t.getD 0 0=34))||!decide (t.getD (t.length-1) 0=34))||!(inner t).all Va)
def qy (s:Str):Bool:=!badE (YU s)
def YM (s:Str):Bool×Str:=if qy s=true then (hasP s weakP,inner (YU s)) else (false,[])
theorem etag_bad {s:Str} (h:badE (YU s)=true):qy s=false∧YM s=(false,[]):=by
 have:qy s=false:=by unfold qy;rw [h];rfl
 unfold YM
 rw [this]
 exact ⟨rfl,rfl⟩
theorem etag_good {s:Str} (h:badE (YU s)=false):qy s=true∧YM s=(hasP s weakP,inner (YU s)):=by
 have:qy s=true:=by unfold qy;rw [h];rfl
 unfold YM
 rw [this]
 exact ⟨rfl,rfl⟩
/-- The reference takes a weak mark off only where something follows. -/
theorem etag_two {s:Str} (h:s=weakP):badE (YU s)=true∧badE s=true:=by
 subst h
 exact ⟨by decide,by decide⟩
/-! ### Directives -/
def qg (m:Str):Nat:=m.findIdx fun c=>!tokB c
def Zj (m:Str):Str:=lower (m.take (qg m))
def Z7 (m:Str):Str:=m.drop (qg m)
theorem tokLen_le (m:Str):qg m≤m.length:=List.findIdx_le_length
theorem tokLen_go {m:Str} {n:Nat} (h:n<m.length) (ha:(m.take n).all tokB=true) (hb:tokB (m.getD n 0)=false):qg m=n:=by
 unfold qg
 refine (List.findIdx_eq h).2 ⟨?_,fun j hj=>?_⟩
 ·rw [List.getD_eq_getElem?_getD,List.getElem?_eq_getElem h] at hb
  have hb':tokB m[n]=false:=hb
  rw [hb'];rfl
 ·rw [List.all_eq_true] at ha
  have:m[j]∈m.take n:=by
   rw [List.mem_take_iff_getElem]
   exact ⟨j,by omega,rfl⟩
  rw [ha _ this];rfl
theorem tokLen_end {m:Str} {n:Nat} (h:¬ n<m.length) (hn:n≤m.length) (ha:(m.take n).all tokB=true):qg m=n:=by
 unfold qg
 rw [show n=m.length from by omega] at ha ⊢
 rw [List.take_length] at ha
 rw [List.findIdx_eq_length]
 intro x hx
 rw [List.all_eq_true] at ha
 rw [ha x hx];rfl
/-- The form of a directive and its argument. -/
def ZQ (r:Str):Int×Str :=
 if r=[] then (0,[]) else if (decide (r.getD 0 0=61)&&token (r.drop 1))=true then (1,r.drop 1) else if (decide (r.getD 0 0=61)&&(unq (r.drop 1)).2)=true then (1,(unq (r.drop 1)).1) else (2,[])
def findD (M:List Str) (name:Str):Option Str:=(M.find? fun m=>decide (0<qg m)&&decide (Zj m=name)).map Z7
def hasD (M:List Str) (name:Str):Bool:=(findD M name).isSome
def numD (d:Int×Str) (w b:Nat):Nat:=if d.1=0 then w else if d.1=2∨numB d.2=false then b else numN d.2
def numR (r:Str) (none_ bad:Nat):Nat:=numD (ZQ r) none_ bad
def W7 (M:List Str) (name:Str) (none_ bad:Nat):Int:=match findD M name with
 | none=>-1
 | some r=>(numR r none_ bad:Int)
abbrev Ctl:=Bool×Bool×Bool×Bool×Bool×Bool×Bool×Int×Int×Int×Int
def sNoStore:Str:=[110,111,45,115,116,111,114,101]
def Q5:Str:=[110,111,45,99,97,99,104,101]
def sMust:Str:=[109,117,115,116,45,114,101,118,97,108,105,100,97,116,101]
def sProxyR:Str:=[112,114,111,120,121,45,114,101,118,97,108,105,100,97,116,101]
def sPrivate:Str:=[112,114,105,118,97,116,101]
def sPublic:Str:=[112,117,98,108,105,99]
def sOnly:Str:=[111,110,108,121,45,105,102,45,99,97,99,104,101,100]
def sMaxAge:Str:=[109,97,120,45,97,103,101]
def sSMax:Str:=[115,45,109,97,120,97,103,101]
def sMinFresh:Str:=[109,105,110,45,102,114,101,115,104]
def sMaxStale:Str:=[109,97,120,45,115,116,97,108,101]
def sCC:Str:=[67,97,99,104,101,45,67,111,110,116,114,111,108]
def sPragma:Str:=[80,114,97,103,109,97]
def maxS:Nat:=2147483647
def ctlM (M:List Str):Ctl:=(hasD M sNoStore||decide (64≤M.length),hasD M Q5,hasD M sMust,hasD M sProxyR,hasD M sPrivate,hasD M sPublic,hasD M sOnly,W7 M sMaxAge 0 0,W7 M sSMax 0 0,W7 M sMinFresh 2147483647 2147483647,W7 M sMaxStale 2147483647 0)
def ctlF (l:List Fld):Ctl:=ctlM (allF l sCC)
def pragB (l:List Fld):Bool:=decide ((getF l sCC).length=0)&&(allF l sPragma).any fun m=>fold m Q5
def reqF (l:List Fld):Ctl:=((ctlF l).1,(ctlF l).2.1||pragB l,(ctlF l).2.2)
/-- The map of the directives that came first. -/
def putD (F:List (Str×Int×Str)) (m:Str):List (Str×Int×Str):=if ((yx F (Zj m)).isSome=false∧Zj m≠[]) then F++[(Zj m,ZQ (Z7 m))] else F
def Wx (M:List Str):List (Str×Int×Str):=M.foldl putD []
theorem name_nil {m:Str}:Zj m=[]↔qg m=0:=by
 unfold Zj
 have:=tokLen_le m
 constructor
 ·intro h
  have h1:(lower (m.take (qg m))).length=0:=by rw [h];rfl
  unfold lower at h1
  rw [List.length_map,List.length_take] at h1
  omega
 ·intro h
  rw [h];rfl
theorem find_lookS {name:Str} (hn:name≠[]):∀ (M:List Str),yx (Wx M) name=(findD M name).map ZQ:=by
 have hap:∀ (F:List (Str×Int×Str)) (k:Str) (d:Int×Str) (x:Str),yx (F++[(k,d)]) x=(yx F x).or (if x=k then some d else none):=by
  intro F k d x
  induction F with
  | nil=>show (if x=k then some d else none)=(none:Option (Int×Str)).or _;by_cases h:x=k <;> simp [h]
  | cons y F ih =>
   show yx (y::(F++[(k,d)])) x=(yx (y::F) x).or _
   unfold yx
   by_cases h:x=y.1
   ·rw [if_pos h,if_pos h];rfl
   ·rw [if_neg h,if_neg h,ih]
 have hput:∀ (F:List (Str×Int×Str)) (m:Str),yx (putD F m) name=(yx F name).or (if 0<qg m∧Zj m=name then some (ZQ (Z7 m)) else none):=by
  intro F m
  unfold putD
  by_cases hk:Zj m=name
  ·have hne:Zj m≠[]:=by rw [hk];exact hn
   have ht:0<qg m:=Nat.pos_of_ne_zero fun e=>hne (name_nil.2 e)
   cases hl:yx F (Zj m) with
   | none =>
    rw [if_pos ⟨rfl,hne⟩,hap,if_pos hk.symm,if_pos ⟨ht,hk⟩]
   | some d =>
    rw [if_neg (fun h=>by cases h.1),← hk,hl];rfl
  ·rw [if_neg (c:=0<qg m∧Zj m=name) (fun h=>hk h.2)]
   split
   ·rw [hap,if_neg (fun e=>hk e.symm)]
   ·cases yx F name <;> rfl
 have hgo:∀ (M:List Str) (F:List (Str×Int×Str)),yx (M.foldl putD F) name=(yx F name).or ((findD M name).map ZQ):=by
  intro M
  induction M with
  | nil=>intro F;show yx F name=(yx F name).or none;cases yx F name <;> rfl
  | cons m M ih =>
   intro F
   rw [List.foldl_cons,ih,hput]
   unfold findD
   rw [List.find?_cons]
   by_cases hc:0<qg m∧Zj m=name
   ·rw [if_pos hc]
    have:(decide (0<qg m)&&decide (Zj m=name))=true:=by simp [hc]
    rw [this]
    cases yx F name <;> rfl
   ·rw [if_neg hc]
    have:(decide (0<qg m)&&decide (Zj m=name))=false:=by
     rw [← Bool.not_eq_true]
     intro e
     rw [Bool.and_eq_true,decide_eq_true_iff,decide_eq_true_iff] at e
     exact hc e
    rw [this]
    cases yx F name <;> rfl
 intro M
 unfold Wx
 rw [hgo M []]
 rfl
theorem firstD_step {M:List Str} {i:Nat} (h:i<M.length):Wx (M.take (i+1))=putD (Wx (M.take i)) (M.getD i []):=by
 unfold Wx
 rw [List.take_add_one,List.getElem?_eq_getElem h,Option.toList_some,List.foldl_append,List.getD_eq_getElem?_getD,List.getElem?_eq_getElem h]
 rfl
theorem Qe {M:List Str} {name:Str} (hn:name≠[]):(yx (Wx M) name).isSome=hasD M name:=by
 rw [find_lookS hn]
 unfold hasD
 cases findD M name <;> rfl
theorem secs_some {M:List Str} {name:Str} {w b:Nat} (hn:name≠[]) (h:(yx (Wx M) name).isSome=true):((numD ((yx (Wx M) name).getD (0,[])) w b:Nat):Int)=W7 M name w b:=by
 rw [find_lookS hn] at h ⊢
 unfold W7
 cases hf:findD M name with
 | none=>rw [hf] at h;cases h
 | some r=>rfl
theorem secs_none {M:List Str} {name:Str} {w b:Nat} (hn:name≠[]) (h:(yx (Wx M) name).isSome=false):W7 M name w b=-1:=by
 rw [find_lookS hn] at h
 unfold W7
 cases hf:findD M name with
 | none=>rfl
 | some r=>rw [hf] at h;cases h
theorem numD_le {d:Int×Str} {w b:Nat} (hw:w≤2147483647) (hb:b≤2147483647):numD d w b≤2147483647:=by
 unfold numD
 split
 ·exact hw
 ·split
  ·exact hb
  ·exact wo _
theorem Qs {M:List Str} {name:Str} {w b:Nat} (hw:w≤2147483647) (hb:b≤2147483647):-1≤W7 M name w b∧W7 M name w b≤2147483647:=by
 unfold W7
 split
 ·omega
 ·have:=numD_le (d:=ZQ ‹_›) hw hb
  unfold numR
  omega
theorem num_bare {d:Int×Str} {w b:Nat} (h:d.1=0):numD d w b=w:=if_pos h
theorem num_brk {d:Int×Str} {w b:Nat} (h:¬ d.1=0) (h2:d.1=2∨numB d.2=false):numD d w b=b:=(if_neg h).trans (if_pos h2)
theorem num_val {d:Int×Str} {w b:Nat} (h:¬ d.1=0) (h2:¬ (d.1=2∨numB d.2=false)):numD d w b=numN d.2:=(if_neg h).trans (if_neg h2)
theorem form_0 {r:Str} (h:r=[]):ZQ r=(0,[]):=if_pos h
theorem form_1 {r:Str} (h:¬ r=[]) (h1:(decide (r.getD 0 0=61)&&token (r.drop 1))=true):ZQ r=(1,r.drop 1):=(if_neg h).trans (if_pos h1)
theorem form_2 {r:Str} (h:¬ r=[]) (h1:(decide (r.getD 0 0=61)&&token (r.drop 1))=false) (h2:(decide (r.getD 0 0=61)&&(unq (r.drop 1)).2)=true):ZQ r=(1,(unq (r.drop 1)).1):=(if_neg h).trans ((if_neg (by rw [h1];simp)).trans (if_pos h2))
theorem form_3 {r:Str} (h:¬ r=[]) (h1:(decide (r.getD 0 0=61)&&token (r.drop 1))=false) (h2:(decide (r.getD 0 0=61)&&(unq (r.drop 1)).2)=false):ZQ r=(2,[]):=(if_neg h).trans ((if_neg (by rw [h1];simp)).trans (if_neg (by rw [h2];simp)))
theorem token_one {m:Str} {n:Nat} (h:n<m.length):token ((m.take (n+1)).drop n)=tokB (m.getD n 0):=by
 have:(m.take (n+1)).drop n=[m.getD n 0]:=by
  rw [List.take_add_one,List.getElem?_eq_getElem h,Option.toList_some,List.drop_append_of_le_length (by rw [List.length_take];omega),List.getD_eq_getElem?_getD,List.getElem?_eq_getElem h]
  have:(m.take n).drop n=[]:=List.drop_eq_nil_of_le (by rw [List.length_take];omega)
  rw [this];rfl
 rw [this]
 unfold token
 simp
theorem tokLen_of {m:Str} {n:Nat} (hn:n≤m.length) (ha:(m.take n).all tokB=true) (h:¬ n<m.length∨tokB (m.getD n 0)=false):qg m=n:=by
 by_cases hl:n<m.length
 ·exact tokLen_go hl ha (h.resolve_left fun q=>q hl)
 ·exact tokLen_end hl hn ha
/-- The reference's argument of a directive. -/
def argR (r:Str):Str×Bool:=if (decide (r=[])||(!decide (r.getD 0 0=61)))=true then ([],false) else if token (r.drop 1)=true then (r.drop 1,true) else unq (r.drop 1)
def mtD (name m:Str):Bool:=decide (0<qg m)&&decide (Zj m=name)
theorem hasP_weak {s:Str} (h:2<s.length∧s.take 2=[87,47]):hasP s weakP=true∧YU s=s.drop 2:=by
 have:hasP s weakP=true:=by unfold hasP weakP;rw [decide_eq_true (by show 2≤s.length;omega),decide_eq_true (by exact h.2)];rfl
 unfold YU
 rw [this]
 exact ⟨rfl,rfl⟩
theorem etag_ref {s:Str} (h:¬ (2<s.length∧s.take 2=[87,47])):(hasP s weakP=false∧YU s=s)∨s=weakP:=by
 cases hp:hasP s weakP with
 | false=>exact .inl ⟨rfl,by unfold YU;rw [hp];rfl⟩
 | true =>
  refine .inr ?_
  unfold hasP weakP at hp
  rw [Bool.and_eq_true,decide_eq_true_iff,decide_eq_true_iff] at hp
  have h2:s.take 2=[87,47]:=hp.2
  have h3:s.length=2:=by
   have h4:2≤s.length:=hp.1
   rcases Nat.lt_or_ge 2 s.length with h5 | h5
   ·exact absurd ⟨h5,h2⟩ h
   ·omega
  rw [List.take_of_length_le (by omega)] at h2
  exact h2
theorem etag_r1 {s:Str} (h:¬ (2<s.length∧s.take 2=[87,47])) (hb:badE s=true):qy s=false∧YM s=(false,[]):=by
 rcases etag_ref h with ⟨h1,h2⟩ | h1
 ·exact etag_bad (by rw [h2];exact hb)
 ·exact etag_bad (etag_two h1).1
theorem etag_r2 {s:Str} (h:¬ (2<s.length∧s.take 2=[87,47])) (hb:badE s=false):qy s=true∧YM s=(false,inner s):=by
 rcases etag_ref h with ⟨h1,h2⟩ | h1
 ·have:=etag_good (s:=s) (by rw [h2];exact hb)
  rw [h1,h2] at this
  exact this
 ·rw [(etag_two h1).2] at hb;cases hb
theorem etag_r3 {s:Str} (h:2<s.length∧s.take 2=[87,47]) (hb:badE (s.drop 2)=true):qy s=false∧YM s=(false,[]):=etag_bad (by rw [(hasP_weak h).2];exact hb)
theorem etag_r4 {s:Str} (h:2<s.length∧s.take 2=[87,47]) (hb:badE (s.drop 2)=false):qy s=true∧YM s=(true,inner (s.drop 2)):=by
 have:=etag_good (s:=s) (by rw [(hasP_weak h).2];exact hb)
 rw [(hasP_weak h).1,(hasP_weak h).2] at this
 exact this
theorem etagS_len (s:Str):(YU s).length≤s.length:=by
 unfold YU
 split
 ·simp
 ·exact Nat.le_refl _
theorem findD_len {M:List Str} {name:Str} {n:Nat} (h:∀ x∈M,x.length≤n):((findD M name).getD []).length≤n:=by
 unfold findD
 cases hf:M.find? (fun m=>decide (0<qg m)&&decide (Zj m=name)) with
 | none=>exact Nat.zero_le _
 | some m =>
  show (Z7 m).length≤n
  have:=h m (List.mem_of_find?_eq_some hf)
  unfold Z7
  simp;omega
def atI (i k:Nat) (v:Int):Int:=if k<i then v else -1
theorem atI_new {k:Nat} {v:Int}:atI (k+1) k v=v:=if_pos (Nat.lt_succ_self k)
theorem Y1 {i k:Nat} {v:Int} (h:i≠k):atI (i+1) k v=atI i k v:=by
 unfold atI
 by_cases h1:k<i
 ·rw [if_pos h1,if_pos (by omega)]
 ·rw [if_neg h1,if_neg (by omega)]
theorem atI_miss {k:Nat} {v:Int} (h:v=-1):atI (k+1) k v=atI k k v:=by
 unfold atI
 rw [if_pos (by omega),if_neg (by omega),h]
theorem atI_hit {k:Nat} {v u:Int} (h:u=v):u=atI (k+1) k v:=by rw [atI_new,h]
theorem req_no {l:List Fld} (h:decide (0<(getF l sCC).length)=true):reqF l=ctlF l:=by
 have:pragB l=false:=by
  unfold pragB
  rw [decide_eq_false (by have:=of_decide_eq_true h;omega)];rfl
 unfold reqF
 rw [this,Bool.or_false]
theorem req_yes {l:List Fld} (h:decide (0<(getF l sCC).length)=false):reqF l=((ctlF l).1,(ctlF l).2.1||(allF l sPragma).any (fun m=>fold m Q5),(ctlF l).2.2):=by
 have:pragB l=(allF l sPragma).any (fun m=>fold m Q5):=by
  unfold pragB
  rw [decide_eq_true (by have:=of_decide_eq_false h;omega)];rfl
 unfold reqF
 rw [this]
theorem formR_len (r:Str):(ZQ r).2.length≤r.length:=by
 unfold ZQ
 split
 ·exact Nat.zero_le _
 ·split
  ·simp
  ·split
   ·have h1:=unq_length (r.drop 1)
    have h2:(r.drop 1).length=r.length-1:=List.length_drop
    show (unq (r.drop 1)).1.length≤_
    omega
   ·exact Nat.zero_le _
theorem wG {M:List Str} {name:Str} {n:Nat} (h:∀ x∈M,x.length≤n) (hn:name≠[]):((yx (Wx M) name).getD (0,[])).2.length≤n:=by
 rw [find_lookS hn]
 have h1:=findD_len (name:=name) h
 cases hf:findD M name with
 | none=>exact Nat.zero_le _
 | some r =>
  rw [hf] at h1
  exact Nat.le_trans (formR_len r) h1
theorem put_new {F:List (Str×Int×Str)} {m:Str} (h:(yx F (Zj m)).isSome=false∧¬ Zj m=[]):putD F m=F++[(Zj m,ZQ (Z7 m))]:=if_pos h
theorem put_old {F:List (Str×Int×Str)} {m:Str} (h:(yx F (Zj m)).isSome=true∨Zj m=[]):putD F m=F:=if_neg fun q=>by
 rcases h with h | h
 ·rw [q.1] at h;cases h
 ·exact q.2 h
end Go.Plain
namespace Go.Plain
open Go.Sep
set_option linter.unusedVariables false
set_option linter.unusedSimpArgs false
def wB (l:List Fld) (name:Str):Str:=(getF l name).headD []
def sExpires:Str:=[69,120,112,105,114,101,115]
def sDate:Str:=[68,97,116,101]
def sAge:Str:=[65,103,101]
def sETag:Str:=[69,84,97,103]
def sLastMod:Str:=[76,97,115,116,45,77,111,100,105,102,105,101,100]
def fdB (l:List Fld) (name:Str):Bool:=ZR (wB l name)
def fdN (l:List Fld) (name:Str):Nat:=qn (wB l name)
abbrev cMax (c:Ctl):Int:=c.2.2.2.2.2.2.2.1
abbrev cSMax (c:Ctl):Int:=c.2.2.2.2.2.2.2.2.1
abbrev cMinF (c:Ctl):Int:=c.2.2.2.2.2.2.2.2.2.1
abbrev cStale (c:Ctl):Int:=c.2.2.2.2.2.2.2.2.2.2
def Qz (l:List Fld):Int :=
 if 0≤cSMax (ctlF l) then cSMax (ctlF l) else if 0≤cMax (ctlF l) then cMax (ctlF l) else if (fdB l sExpires&&fdB l sDate)=true then min (max ((fdN l sExpires:Int)-(fdN l sDate:Int)) 0) 2147483647 else 0
def q9 (l:List Fld) (received:Int):Int:=if fdB l sDate=true then (fdN l sDate:Int) else received
def badAge (req rec now:Int):Bool:=((decide (req<0)||decide (rec<req))||decide (now<rec))||decide (1099511627776<now)
def ageF (l:List Fld) (req rec now:Int):Int :=
 if badAge req rec now=true then 2147483647 else min (max (max 0 (rec-q9 l rec)) (((numN (wB l sAge):Nat):Int)+rec-req)+now-rec) 2147483647
def q7 (life age:Int) (q r:Ctl):Bool :=
 if (((decide (life<0)||decide (2147483647<life))||decide (age<0))||decide (2147483647<age))=true then false
 else if (q.2.1||r.2.1)=true then false
 else if (!decide (cMax q=-1)&&decide (cMax q<age))=true then false
 else if age<life then decide (cMinF q=-1)||decide (cMinF q≤life-age)
 else if ((r.2.2.1||r.2.2.2.1)||!decide (cSMax r=-1))=true then false
 else if cMinF q≠-1 then false
 else !decide (cStale q=-1)&&decide (age-life≤cStale q)
/-- The reference puts two refusals into one. -/
def freshR (life age:Int) (q r:Ctl):Bool :=
 if (((decide (life<0)||decide (2147483647<life))||decide (age<0))||decide (2147483647<age))=true then false
 else if ((q.2.1||r.2.1)||(!decide (cMax q=-1)&&decide (cMax q<age)))=true then false
 else if age<life then decide (cMinF q=-1)||decide (cMinF q≤life-age)
 else if (((r.2.2.1||r.2.2.2.1)||!decide (cSMax r=-1))||!decide (cMinF q=-1))=true then false
 else !decide (cStale q=-1)&&decide (age-life≤cStale q)
theorem lifeF_1 {l:List Fld} (h:0≤cSMax (ctlF l)):Qz l=cSMax (ctlF l):=if_pos h
theorem lifeF_2 {l:List Fld} (h:¬ 0≤cSMax (ctlF l)) (h2:0≤cMax (ctlF l)):Qz l=cMax (ctlF l):=(if_neg h).trans (if_pos h2)
theorem lifeF_3 {l:List Fld} (h:¬ 0≤cSMax (ctlF l)) (h2:¬ 0≤cMax (ctlF l)) (h3:((!fdB l sExpires)||(!fdB l sDate))=true):Qz l=0:=by
 unfold Qz
 rw [if_neg h,if_neg h2,if_neg (by intro e;rw [Bool.and_eq_true] at e;rw [e.1,e.2] at h3;cases h3)]
theorem lifeF_4 {l:List Fld} (h:¬ 0≤cSMax (ctlF l)) (h2:¬ 0≤cMax (ctlF l)) (h3:((!fdB l sExpires)||(!fdB l sDate))=false):Qz l=min (max ((fdN l sExpires:Int)-(fdN l sDate:Int)) 0) 2147483647:=by
 unfold Qz
 rw [if_neg h,if_neg h2,if_pos (by rw [Bool.or_eq_false_iff] at h3;rw [yL h3.1,yL h3.2];rfl)]
theorem fd_no {l:List Fld} {name:Str} (h:¬ 0<(getF l name).length):fdN l name=0∧fdB l name=false:=by
 have:wB l name=[]:=by
  unfold wB
  rw [List.length_eq_zero_iff.1 (by omega:(getF l name).length=0)];rfl
 unfold fdN fdB
 rw [this]
 exact ⟨by decide,by decide⟩
theorem ctl_range (l:List Fld):(-1≤cMax (ctlF l)∧cMax (ctlF l)≤2147483647)∧(-1≤cSMax (ctlF l)∧cSMax (ctlF l)≤2147483647)∧(-1≤cMinF (ctlF l)∧cMinF (ctlF l)≤2147483647)∧(-1≤cStale (ctlF l)∧cStale (ctlF l)≤2147483647) :=
 ⟨Qs (by decide) (by decide),Qs (by decide) (by decide),Qs (by decide) (by decide),Qs (by decide) (by decide)⟩
theorem dateOf_range {l:List Fld} {rec:Int} (h:0≤rec):0≤q9 l rec∧(q9 l rec≤400000000000∨q9 l rec=rec):=by
 have:=dateN_le (wB l sDate)
 unfold q9 fdN
 split <;> omega
theorem age_bad {l:List Fld} {req rec now:Int} (h:badAge req rec now=true):ageF l req rec now=2147483647:=if_pos h
theorem age_ok {l:List Fld} {req rec now:Int} (h:badAge req rec now=false):ageF l req rec now=min (max (max 0 (rec-q9 l rec)) (((numN (wB l sAge):Nat):Int)+rec-req)+now-rec) 2147483647:=if_neg (by rw [h];simp)
theorem age_good {req rec now:Int} (h:badAge req rec now=false):0≤req∧req≤rec∧rec≤now∧now≤1099511627776:=by
 unfold badAge at h
 simp only [Bool.or_eq_false_iff,decide_eq_false_iff_not] at h
 omega
def ageE (e:Ent) (now:Int):Int:=ageF e.2.2.2.2.1 e.2.2.2.2.2.2.1 e.2.2.2.2.2.2.2 now
def wK (e:Ent) (l:List Fld) (now:Int):Bool:=q7 (Qz e.2.2.2.2.1) (ageE e now) (reqF l) (ctlF e.2.2.2.2.1)
def wS (l:List Fld):Bool:=decide (0<(getF l sETag).length)&&qy (wB l sETag)
def qL (l:List Fld):Bool×Str:=if 0<(getF l sETag).length then YM (wB l sETag) else (false,[])
theorem etagO_no {l:List Fld} (h:¬ 0<(getF l sETag).length):qL l=(false,[])∧wS l=false:=by
 unfold qL wS
 rw [if_neg h,decide_eq_false h]
 exact ⟨rfl,rfl⟩
theorem etagO_yes {l:List Fld} (h:0<(getF l sETag).length):qL l=YM (wB l sETag)∧wS l=qy (wB l sETag):=by
 unfold qL wS
 rw [if_pos h,decide_eq_true h]
 exact ⟨rfl,rfl⟩
theorem W2 {l:List Fld} {n:Nat} (h:∀ x∈l,x.2.length≤n) (name:Str):(wB l name).length≤n:=by
 unfold wB
 cases hg:getF l name with
 | nil=>exact Nat.zero_le _
 | cons v r =>
  show v.length≤n
  have:v∈getF l name:=by rw [hg];exact List.mem_cons_self
  unfold getF at this
  obtain ⟨x,hx,rfl⟩:=List.mem_map.1 this
  exact h x (List.mem_filter.1 hx).1
def Wb (l:List Fld):Bool:=wS l||fdB l sLastMod
/-! ### Vary -/
def ZY (name:Str) (l:List Fld):Str :=
 if (getF l name).length=0 then [] else if (!decide (zb name=0)&&decide ((allF l name).length<64))=true then [61]++lower (Yn [44,32] (allF l name)) else [61]++Yn [44,32] (getF l name)
def qG (names:List Str) (l:List Fld):List Str:=names.map fun n=>ZY n l
def Zb (names snap:List Str) (l:List Fld):Bool:=decide (names.length=snap.length)&&decide (qG names l=snap)
theorem valueY_1 {nm:Str} {l:List Fld} (h:¬ 0<(getF l nm).length):ZY nm l=[]:=if_pos (by omega)
theorem valueY_2 {nm:Str} {l:List Fld} (h:0<(getF l nm).length) (h2:((!decide (zb nm=0))&&decide ((allF l nm).length<64))=true):ZY nm l=[61]++lower (Yn [44,32] (allF l nm)):=(if_neg (by omega)).trans (if_pos h2)
theorem valueY_3 {nm:Str} {l:List Fld} (h:0<(getF l nm).length) (h2:((!decide (zb nm=0))&&decide ((allF l nm).length<64))=false):ZY nm l=[61]++Yn [44,32] (getF l nm):=(if_neg (by omega)).trans (if_neg (by rw [h2];simp))
theorem snapY_step {names:List Str} {l:List Fld} {i:Nat} (h:i<names.length):qG (names.take (i+1)) l=qG (names.take i) l++[ZY (names.getD i []) l]:=by
 unfold qG
 rw [take_next (dd:=[]) h,List.map_append];rfl
theorem bestK_strs {axes:List Axs} {l:List Fld} {strict:Bool} {n:Nat} (hb:∀ a∈axes,∀ x∈a.2,x.length≤n) (h:w4 axes l strict=true):∀ s∈w3 axes l strict,s.length≤n:=by
 have hv:YN axes=true:=by
  cases hv:YN axes with
  | true=>rfl
  | false =>
   unfold w4 Zk at h
   rw [if_pos hv] at h
   simp at h
 obtain ⟨h1,h2⟩:=bestK_yes hv h
 rw [h1]
 intro s hs
 obtain ⟨r,hr,rfl⟩:=List.mem_map.1 hs
 have hne:=h2 r hr
 unfold qH at hr
 obtain ⟨a,ha,rfl⟩:=List.mem_map.1 hr
 refine hb a ha _ (rankA_sub (l:=l) (strict:=strict) _ ?_)
 cases hc:YX a l strict with
 | nil=>exact absurd hc hne
 | cons x t=>exact List.mem_cons_self
/-! ### Tables -/
def Wf (p:Ent→Bool) (l:List Ent):Nat→Int
 | 0=>-1
 | i+1=>if p (l.getD i ([],[],[],[],[],[],0,0))=true then (i:Int) else Wf p l i
def qJ (p:Ent→Bool) (l:List Ent):Int:=Wf p l l.length
theorem lastGo_range (p:Ent→Bool) (l:List Ent):∀ n,-1≤Wf p l n∧Wf p l n<n
 | 0=>by unfold Wf;omega
 | n+1=>by
  have:=lastGo_range p l n
  unfold Wf
  split <;> omega
theorem lastI_range (p:Ent→Bool) (l:List Ent):-1≤qJ p l∧qJ p l<l.length:=lastGo_range p l l.length
theorem lastGo_hit {p:Ent→Bool} {l:List Ent} {i:Nat} (h:p (l.getD i ([],[],[],[],[],[],0,0))=true):Wf p l (i+1)=(i:Int):=if_pos h
theorem QB {p:Ent→Bool} {l:List Ent} {i:Nat} (h:p (l.getD i ([],[],[],[],[],[],0,0))=false):Wf p l (i+1)=Wf p l i:=if_neg (by rw [h];simp)
def zf (t:Tab) (l:List Fld) (strict:Bool):Int×Bool :=
 if t.1=[] then (qJ (fun e=>Zb e.2.1 e.2.2.1 l) t.2,true)
 else if w4 t.1 l strict=true then (qJ (fun e=>hasK t.1 e (w3 t.1 l strict)) t.2,true) else (-1,false)
theorem findY_1 {t:Tab} {l:List Fld} {strict:Bool} (h:t.1=[]):zf t l strict=(qJ (fun en=>Zb en.2.1 en.2.2.1 l) t.2,true):=if_pos h
theorem findY_2 {t:Tab} {l:List Fld} {strict:Bool} (h:¬ t.1=[]) (h2:w4 t.1 l strict=false):zf t l strict=(-1,false):=(if_neg h).trans (if_neg (by rw [h2];simp))
theorem findY_3 {t:Tab} {l:List Fld} {strict:Bool} (h:¬ t.1=[]) (h2:w4 t.1 l strict=true):zf t l strict=(qJ (fun en=>hasK t.1 en (w3 t.1 l strict)) t.2,true):=(if_neg h).trans (if_pos h2)
theorem findY_range (t:Tab) (l:List Fld) (strict:Bool):-1≤(zf t l strict).1∧(zf t l strict).1<t.2.length:=by
 unfold zf
 split
 ·exact lastI_range _ _
 ·split
  ·exact lastI_range _ _
  ·exact ⟨Int.le_refl _,by show (-1:Int)<_;omega⟩
theorem findY_ok {t:Tab} {l:List Fld} {strict:Bool} (h:0≤(zf t l strict).1):(zf t l strict).2=true:=by
 unfold zf at h ⊢
 split
 ·rfl
 ·rename_i h1
  rw [if_neg h1] at h
  split
  ·rfl
  ·rename_i h2
   rw [if_neg h2] at h
   have:(0:Int)≤-1:=h
   omega
/-! ### Decisions -/
def sGet:Str:=[71,69,84]
def Q6:Str:=[72,69,65,68]
def decY (t:Tab) (meth:Str) (l:List Fld) (now:Int) (strict refuse:Bool):Int×Int :=
 if meth≠sGet∧meth≠Q6 then (3,-1)
 else if (decide (0<t.1.length)&&(!(zf t l strict).2&&refuse))=true then (5,-1)
 else if (reqF l).1=true then (3,-1)
 else if 0≤(zf t l strict).1∧wK (t.2.getD (zf t l strict).1.toNat ([],[],[],[],[],[],0,0)) l now=true then (1,(zf t l strict).1)
 else if (reqF l).2.2.2.2.2.2.1=true then (4,-1)
 else if 0≤(zf t l strict).1∧Wb (t.2.getD (zf t l strict).1.toNat ([],[],[],[],[],[],0,0)).2.2.2.2.1=true then (2,(zf t l strict).1)
 else (3,-1)
end Go.Plain
namespace Go.Plain
open Go.Sep
set_option linter.unusedVariables false
set_option linter.unusedSimpArgs false
section
variable {t:Tab} {meth:Str} {l:List Fld} {now:Int} {strict refuse:Bool}
theorem dec_split:(decY t meth l now strict refuse).2=-1∨(decY t meth l now strict refuse).1=1∨(decY t meth l now strict refuse).1=2:=by
 unfold decY
 repeat' split
 all_goals simp
theorem dec_no (h1:¬ (decY t meth l now strict refuse).1=1) (h2:¬ (decY t meth l now strict refuse).1=2):(decY t meth l now strict refuse).2=-1:=by
 rcases dec_split (t:=t) (meth:=meth) (l:=l) (now:=now) (strict:=strict) (refuse:=refuse) with h | h | h
 ·exact h
 ·exact absurd h h1
 ·exact absurd h h2
theorem dec_yes (h:(decY t meth l now strict refuse).1=1∨(decY t meth l now strict refuse).1=2) :
  (meth=sGet∨meth=Q6)∧(reqF l).1=false∧(decY t meth l now strict refuse).2=(zf t l strict).1∧0≤(zf t l strict).1∧wK (t.2.getD (zf t l strict).1.toNat ([],[],[],[],[],[],0,0)) l now=decide ((decY t meth l now strict refuse).1=1) ∧
   ((decY t meth l now strict refuse).1=1∨Wb (t.2.getD (zf t l strict).1.toNat ([],[],[],[],[],[],0,0)).2.2.2.2.1=true):=by
 have e3:∀ {x:Int},¬ ((3,x):Int×Int).1=1∧¬ ((3,x):Int×Int).1=2:=fun {x}=>⟨by show ¬ (3:Int)=1;omega,by show ¬ (3:Int)=2;omega⟩
 unfold decY at h ⊢
 by_cases a1:meth≠sGet∧meth≠Q6
 ·rw [if_pos a1] at h;exact absurd h (by simp)
 rw [if_neg a1] at h ⊢
 have hm:meth=sGet∨meth=Q6:=by
  by_cases q:meth=sGet
  ·exact .inl q
  ·exact .inr (Classical.byContradiction fun q2=>a1 ⟨q,q2⟩)
 by_cases a2:(decide (0<t.1.length)&&(!(zf t l strict).2&&refuse))=true
 ·rw [if_pos a2] at h;exact absurd h (by simp)
 rw [if_neg a2] at h ⊢
 by_cases a3:(reqF l).1=true
 ·rw [if_pos a3] at h;exact absurd h (by simp)
 rw [if_neg a3] at h ⊢
 have hs:(reqF l).1=false:=by simpa using a3
 by_cases a4:0≤(zf t l strict).1∧wK (t.2.getD (zf t l strict).1.toNat ([],[],[],[],[],[],0,0)) l now=true
 ·rw [if_pos a4]
  exact ⟨hm,hs,rfl,a4.1,by rw [a4.2];rfl,.inl rfl⟩
 rw [if_neg a4] at h ⊢
 by_cases a5:(reqF l).2.2.2.2.2.2.1=true
 ·rw [if_pos a5] at h;exact absurd h (by simp)
 rw [if_neg a5] at h ⊢
 by_cases a6:0≤(zf t l strict).1∧Wb (t.2.getD (zf t l strict).1.toNat ([],[],[],[],[],[],0,0)).2.2.2.2.1=true
 ·rw [if_pos a6]
  refine ⟨hm,hs,rfl,a6.1,?_,.inr a6.2⟩
  have:wK (t.2.getD (zf t l strict).1.toNat ([],[],[],[],[],[],0,0)) l now=false:=by
   rw [← Bool.not_eq_true];exact fun e=>a4 ⟨a6.1,e⟩
  rw [this];rfl
 ·rw [if_neg a6] at h;exact absurd h (by simp)
end
end Go.Plain
