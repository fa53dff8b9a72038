/-
 Small tables and requests in plain Lean,and what a law of decisions may lean on for them. No program in sight. No conditions.
-/
import Derived.Test.YtfcidkjpebalkaaGreatDoorALawJ
import Derived.Test.YtfcidkjpebalkaaGreatDoorALawK
namespace Go.Plain
open Go.Sep
set_option linter.unusedVariables false
set_option linter.unusedSimpArgs false
abbrev Req:=Str×Str×Int×List Fld×Str
def wB (t:Tab):Bool:=((t.2.take 9).all keepE&&decide (t.2.length≤8))&&QV t.1
def keepQ (q:Req):Bool:=((decide (q.1.length≤100)&&decide (q.2.1.length≤2100))&&WJ q.2.2.2.1)&&decide (q.2.2.2.2.length≤2000)
theorem smallT_len {t:Tab} (h:wB t=true):t.2.length≤8:=by
 unfold wB at h
 simp only [Bool.and_eq_true,decide_eq_true_iff] at h
 exact h.1.2
theorem smallT_ax {t:Tab} (h:wB t=true):QV t.1=true:=by
 unfold wB at h
 simp only [Bool.and_eq_true,decide_eq_true_iff] at h
 exact h.2
theorem smallT_mem {t:Tab} (h:wB t=true):∀ e∈t.2,keepE e=true:=fun e he=>by
 have hl:=smallT_len h
 unfold wB at h
 simp only [Bool.and_eq_true,decide_eq_true_iff] at h
 have h1:=h.1.1
 rw [List.take_of_length_le (by omega)] at h1
 exact List.all_eq_true.1 h1 e he
theorem keepQ_f {q:Req} (h:keepQ q=true):WJ q.2.2.2.1=true:=by
 unfold keepQ at h
 simp only [Bool.and_eq_true,decide_eq_true_iff] at h
 exact h.1.2
theorem keepE_find {e:Ent} (h:keepE e=true):(e.2.1.length≤1000000∧∀ x∈e.2.1,x.length≤300000)∧(∀ k∈e.1,∀ s∈k,s.length≤300000)∧e.1.length≤1000000000:=by
 have hk:=keepE_of h
 exact ⟨⟨by have:=keepS_len hk.v;omega,fun x hx=>by have:=keepS_mem hk.v x hx;omega⟩,fun k hk2 s hs=>by have:=(keepK_mem hk.k k hk2).2 s hs;omega,by have:=keepK_len hk.k;omega⟩
theorem keepE_f {e:Ent} (h:keepE e=true):WJ e.2.2.2.2.1=true:=(keepE_of h).f
theorem keepF_fl {l:List Fld} (h:WJ l=true):l.length≤1000∧(∀ x∈l,x.1.length≤10000∧x.2.length≤10000)∧∀ x∈l,x.1.length≤20000∧x.2.length≤20000 :=
 ⟨by have:=keepF_len h;omega,fun x hx=>by have:=keepF_mem h x hx;omega,fun x hx=>by have:=keepF_mem h x hx;omega⟩
theorem keep_ax {t:Tab} (h:wB t=true):OkA t.1:=okA_keep (smallT_ax h)
theorem keep_le {t:Tab} (h:wB t=true):∀ e∈t.2,(e.2.1.length≤1000000∧∀ x∈e.2.1,x.length≤300000)∧(∀ k∈e.1,∀ s∈k,s.length≤300000)∧e.1.length≤1000000000:=fun e he=>keepE_find (smallT_mem h e he)
theorem keep_el {t:Tab} (h:wB t=true):t.2.length≤1000000000:=by have:=smallT_len h;omega
theorem keep_ef {t:Tab} (h:wB t=true):∀ e∈t.2,e.2.2.2.2.1.length≤1000∧∀ x∈e.2.2.2.2.1,x.1.length≤20000∧x.2.length≤20000:=fun e he=>by
 have h9:=keepF_fl (keepE_f (smallT_mem h e he))
 exact ⟨h9.1,h9.2.2⟩
theorem keep_q {q:Req} (h:keepQ q=true):q.2.2.2.1.length≤1000∧(∀ x∈q.2.2.2.1,x.1.length≤10000∧x.2.length≤10000)∧∀ x∈q.2.2.2.1,x.1.length≤20000∧x.2.length≤20000:=keepF_fl (keepQ_f h)
section
variable {t:Tab} {meth:Str} {l:List Fld} {now:Int} {strict refuse:Bool}
theorem nt {b:Bool} (h:b=false):¬ b=true:=by rw [h];simp
theorem nb_l {a b:Bool} (h:((!a)&&b)=true):a=false:=by cases a <;> simp_all
theorem nb_r {a b:Bool} (h:((!a)&&b)=true):b=true:=by cases a <;> simp_all
theorem nb_f {a b:Bool} (h:((!a)&&b)=false) (ha:a=false):b=false:=by cases a <;> simp_all
theorem WZ {m:Str} (h:m=sGet∨m=sHead):¬ (m≠sGet∧m≠sHead):=fun x=>h.elim x.1 x.2
abbrev selE (t:Tab) (l:List Fld) (strict:Bool):Ent:=t.2.getD (zp t l strict).1.toNat ([],[],[],[],[],[],0,0)
abbrev rejB (t:Tab) (l:List Fld) (strict refuse:Bool):Bool:=decide (0<t.1.length)&&(!(zp t l strict).2&&refuse)
theorem dec_1 (m:meth≠sGet∧meth≠sHead):decY t meth l now strict refuse=(3,-1):=if_pos m
theorem dec_2 (m:¬ (meth≠sGet∧meth≠sHead)) (r:rejB t l strict refuse=true):decY t meth l now strict refuse=(5,-1):=(if_neg m).trans (if_pos r)
theorem dec_3 (m:¬ (meth≠sGet∧meth≠sHead)) (r:rejB t l strict refuse=false) (s:(reqF l).1=true):decY t meth l now strict refuse=(3,-1) :=
 (if_neg m).trans ((if_neg (nt r)).trans (if_pos s))
theorem dec_4 (m:¬ (meth≠sGet∧meth≠sHead)) (r:rejB t l strict refuse=false) (s:(reqF l).1=false) (u:0≤(zp t l strict).1∧Wx (selE t l strict) l now=true):decY t meth l now strict refuse=(1,(zp t l strict).1) :=
 (if_neg m).trans ((if_neg (nt r)).trans ((if_neg (nt s)).trans (if_pos u)))
theorem dec_5 (m:¬ (meth≠sGet∧meth≠sHead)) (r:rejB t l strict refuse=false) (s:(reqF l).1=false) (u:¬ (0≤(zp t l strict).1∧Wx (selE t l strict) l now=true)) (o:(reqF l).2.2.2.2.2.2.1=true):decY t meth l now strict refuse=(4,-1) :=
 (if_neg m).trans ((if_neg (nt r)).trans ((if_neg (nt s)).trans ((if_neg u).trans (if_pos o))))
theorem dec_6 (m:¬ (meth≠sGet∧meth≠sHead)) (r:rejB t l strict refuse=false) (s:(reqF l).1=false) (u:¬ (0≤(zp t l strict).1∧Wx (selE t l strict) l now=true)) (o:(reqF l).2.2.2.2.2.2.1=false) (v:0≤(zp t l strict).1∧Q9 (selE t l strict).2.2.2.2.1=true):decY t meth l now strict refuse=(2,(zp t l strict).1) :=
 (if_neg m).trans ((if_neg (nt r)).trans ((if_neg (nt s)).trans ((if_neg u).trans ((if_neg (nt o)).trans (if_pos v)))))
theorem dec_7 (m:¬ (meth≠sGet∧meth≠sHead)) (r:rejB t l strict refuse=false) (s:(reqF l).1=false) (u:¬ (0≤(zp t l strict).1∧Wx (selE t l strict) l now=true)) (o:(reqF l).2.2.2.2.2.2.1=false) (v:¬ (0≤(zp t l strict).1∧Q9 (selE t l strict).2.2.2.2.1=true)):decY t meth l now strict refuse=(3,-1) :=
 (if_neg m).trans ((if_neg (nt r)).trans ((if_neg (nt s)).trans ((if_neg u).trans ((if_neg (nt o)).trans (if_neg v)))))
end
end Go.Plain
