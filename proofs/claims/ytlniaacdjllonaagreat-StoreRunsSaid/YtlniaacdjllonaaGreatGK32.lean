/-
 Contracts of functions of the program: each returns what a plain function says,for every input within the bounds named. Conditions: the bounds.
-/
import Derived.Test.YtlniaacdjllonaaGreatRows
import Derived.Test.YtlniaacdjllonaaGreatGK31
namespace Go.Proofs.YtlniaacdjllonaaGreat
open Go Go.Sep
set_option linter.unusedSimpArgs false
set_option linter.unusedVariables false
open Go.Plain
theorem qS (ax:List (Axs)) (es:List Ent) (tv tv2:Value) (iz:Int) (ht:OkT (ax,es)):Con Tryz.prog 64 #[.agg #[tv,tv2],.int .i64 (iz)] [.imm (.list (.pair .str (.list .str))) (tv) (ax),.row (tv2) 40 tyE (es)] (fun rr:Value×Value=>.agg #[rr.1,rr.2]) (fun rr=>[.imm (.list (.pair .str (.list .str))) rr.1 ax,.row rr.2 40 tyE (remL es iz),.row (tv2) 40 tyE (es)]):=by
 refine xC  (n:=30) Tryz.func64 rfl rfl rfl (fun w0 I0 m0=>?_)
 have htl:es.length≤1000000000:=by have h9:=ht.len;exact Nat.le_trans h9 (by decide)
 refine yz (zY rfl [tv,tv2] rfl rfl (fun b1=>zb yX [.slice none 0 0,.slice none 0 0] rfl rfl (fun b2=>Yr (xP (zH rfl yX mm1 rfl) (yi (zw rfl (yl (yn (y5 [.imm (.list (.pair .str (.list .str))) (tv) (ax),.box b2 50 [.slice none 0 0,.slice none 0 0],.box b1 50 [tv,tv2]] rfl cal_28 (c_ref26_OwnK ax es tv tv2 (ht)) ⟨rfl,xt⟩ rfl (fun ⟨r1,r2⟩=>zb yX [.slice none 0 0,.slice none 0 0] rfl rfl (fun b3=>zo rfl rfl yX rfl rfl ⟨(o1i mm1),(o1r mm2),xt⟩ (yx (yg (yz (yq rfl (xP (qT (n:=0) rfl rfl) (yq rfl (xG rfl rfl rfl (fun hg=>yh rfl) (xG rfl rfl rfl (fun hg=>ya 1 rfl Ye rfl yZ rfl rfl) (xG rfl rfl rfl (fun hg=>yr (y9 rfl hg) yZ mm0 rfl) (xG rfl rfl rfl (fun hg=>Ym (y9 rfl hg) mm2 Yg) (xG rfl rfl rfl (fun hg=>wS (n:=((es.length:Nat):Int)) (y9 rfl hg) (y9 rfl hg)) (xP (yR rfl rfl rfl) (yx (yA rfl (fun h1b h1=>?_) (fun h1b h1=>?_))))))))))))))))))))))))))
 exact yz (xP (zH rfl yX mm0 rfl) (y8 (zo rfl rfl yX rfl rfl ⟨(o1i mm2),(o1r mm3),xt⟩ (yx (yw (yd (yn (yb (yl (yb (yl (yb (ye (ye (ye (qd rfl (r1,r2) (Ya (.agg #[r1,r2]) rfl yX mm3 rfl (by decide) rfl) (show (_:Value)=(.agg #[r1,r2]) from rfl) (fun w h=>(fun h=>by rw [remL_out (fun q=>by omega)];exact h) (Mem.front (As:=[.imm (.list (.pair .str (.list .str))) (r1) (ax),.row (r2) 40 tyE (es),.row (tv2) 40 tyE (es)]) h))))))))))))))))))
 have hix:iz.toNat<es.length:=by omega
 have hie:((iz.toNat:Nat):Int)=iz:=Int.toNat_of_nonneg (by omega)
 rw [show (iz:Int)=((iz.toNat:Nat):Int) from (Int.toNat_of_nonneg (by omega)).symm]
 refine zS (yg (yi (Wt (by omega) (fun g1 cap1 hv_=>?_))))
 subst hv_
 refine j_cap mm0 (fun hcap=>z3 (fun (_:Unit)=>[(4,.pointer (some ⟨b2,0,none⟩)),(5,.pointer (some ⟨b3,0,none⟩))]) (fun _=>[.box b3 50 [r1,.slice (some ⟨g1,0,none⟩) (iz.toNat+(es.length-(iz.toNat+1))) (cap1)],.rowg g1 (cap1) 40 tyE (es.take iz.toNat++es.drop (iz.toNat+1)),.imm (.list (.pair .str (.list .str))) (r1) (ax),.row (tv2) 40 tyE (es),.imm (.list (.pair .str (.list .str))) (tv) (ax),.box b2 50 [.slice none 0 0,.slice none 0 0],.box b1 50 [tv,tv2]]) [.box b3 50 [r1,.slice (some ⟨g1,0,none⟩) (es.length) (cap1)],.imm (.list (.pair .str (.list .str))) (r1) (ax),.row (tv2) 40 tyE (es),.imm (.list (.pair .str (.list .str))) (tv) (ax),.box b2 50 [.slice none 0 0,.slice none 0 0],.box b1 50 [tv,tv2]] [11] mixed (fun lst hlst=>?_) (fun _=>?_))
 subst hlst
 refine yk (listed':=#[true,false,false,false,false,false,false,false,false,false,false,false]) 0 rfl (by kernel_rfl) (by kernel_rfl) (by kernel_rfl) (by kernel_rfl) rfl (ya 1 rfl Ye rfl yZ rfl rfl) (fun _ h=>Mem.drop1 (h)) rfl (yk (listed':=#[true,true,false,false,false,false,false,false,false,false,false,false]) 1 rfl (by kernel_rfl) (by kernel_rfl) (by kernel_rfl) (by kernel_rfl) rfl (yr rfl yZ mm0 rfl) (fun _ h=>Mem.drop1 (h)) rfl (yk (listed':=#[true,true,true,false,false,false,false,false,false,false,false,false]) 2 rfl (by kernel_rfl) (by kernel_rfl) (by kernel_rfl) (by kernel_rfl) rfl (yh rfl) (fun _ h=>Mem.drop1 (h)) rfl (yk (listed':=#[true,true,true,false,true,false,false,false,false,false,false,false]) 4 rfl (by kernel_rfl) (by kernel_rfl) (by kernel_rfl) (by kernel_rfl) rfl (ya 1 rfl Ye rfl yZ rfl rfl) (fun _ h=>Mem.drop1 (h)) rfl (yk (listed':=#[true,true,true,false,true,true,false,false,false,false,false,false]) 5 rfl (by kernel_rfl) (by kernel_rfl) (by kernel_rfl) (by kernel_rfl) rfl (yr rfl yZ mm0 rfl) (fun _ h=>Mem.drop1 (h)) rfl (yk (listed':=#[true,true,true,false,true,true,true,false,false,false,false,false]) 6 rfl (by kernel_rfl) (by kernel_rfl) (by kernel_rfl) (by kernel_rfl) rfl (yh rfl) (fun _ h=>Mem.drop1 (h)) rfl (yk (listed':=#[true,true,true,false,true,true,true,true,false,false,false,false]) 7 rfl (by kernel_rfl) (by kernel_rfl) (by kernel_rfl) (by kernel_rfl) rfl (yC (m:=iz.toNat) (n:=1) rfl rfl (by omega)) (fun _ h=>Mem.drop1 (h)) rfl (yJ [3,8] (by kernel_rfl) (by simp) (fun i hi=>?_))))))))
 simp only [List.mem_cons,List.not_mem_nil,or_false] at hi
 rcases hi with rfl | rfl
 refine yI rfl (xP (ZE (h:=iz.toNat) rfl rfl Yg y4 (by omega)) (zd (listed':=#[true,true,true,true,true,true,true,true,false,false,false,false]) (fun _ h=>Mem.drop1 (h)) rfl (yJ [8] (by kernel_rfl) (by simp) (fun i hi=>?_))))
 simp only [List.mem_cons,List.not_mem_nil,or_false] at hi
 subst hi
 refine yI rfl (xP (qi (l:=iz.toNat+1) rfl rfl Yg y4 (by omega)) (zd (listed':=#[true,true,true,true,true,true,true,true,true,false,false,false]) (fun _ h=>Mem.drop1 (h)) rfl (yJ [9] (by kernel_rfl) (by simp) (fun i hi=>?_))))
 simp only [List.mem_cons,List.not_mem_nil,or_false] at hi
 subst hi
 refine yI rfl (w9 (i:=iz.toNat) (j:=iz.toNat+1) (len:=es.length) rfl rfl Yg y4 (rfl) (by omega) (by omega) rfl (zd (listed':=#[true,true,true,true,true,true,true,true,true,true,false,false]) (fun _ h=>Mem.drop1 (h)) rfl (yk (listed':=#[true,true,true,true,true,true,true,true,true,true,true,false]) 10 rfl (by kernel_rfl) (by kernel_rfl) (by kernel_rfl) (by kernel_rfl) rfl (ya 1 rfl Ye rfl yZ rfl rfl) (fun _ h=>Mem.drop1 (h)) rfl (yJ [11] (by kernel_rfl) (by simp) (fun i hi=>?_)))))
 simp only [List.mem_cons,List.not_mem_nil,or_false] at hi
 subst hi
 refine yI rfl (yn (zy [r1,.slice (some ⟨g1,0,none⟩) (iz.toNat+(es.length-(iz.toNat+1))) (cap1)] rfl rfl yZ (o1 rfl) rfl rfl (zR (listed':=#[true,true,true,true,true,true,true,true,true,true,true,true]) (by kernel_rfl) rfl (yu (yu (yu (yu (yu (yu (yu ?_))))))))))
 show JI _ _ _ _ _ _ _ _ _
 exact zW () (by kernel_rfl) ⟨rfl,rfl,xt⟩ (fun _ h=>h)
 refine yI rfl (xP (qi (l:=iz.toNat+1) rfl rfl Yg y4 (by omega)) (zd (listed':=#[true,true,true,false,true,true,true,true,true,false,false,false]) (fun _ h=>Mem.drop1 (h)) rfl (yJ [3] (by kernel_rfl) (by simp) (fun i hi=>?_))))
 simp only [List.mem_cons,List.not_mem_nil,or_false] at hi
 subst hi
 refine yI rfl (xP (ZE (h:=iz.toNat) rfl rfl Yg y4 (by omega)) (zd (listed':=#[true,true,true,true,true,true,true,true,true,false,false,false]) (fun _ h=>Mem.drop1 (h)) rfl (yJ [9] (by kernel_rfl) (by simp) (fun i hi=>?_))))
 simp only [List.mem_cons,List.not_mem_nil,or_false] at hi
 subst hi
 refine yI rfl (w9 (i:=iz.toNat) (j:=iz.toNat+1) (len:=es.length) rfl rfl Yg y4 (rfl) (by omega) (by omega) rfl (zd (listed':=#[true,true,true,true,true,true,true,true,true,true,false,false]) (fun _ h=>Mem.drop1 (h)) rfl (yk (listed':=#[true,true,true,true,true,true,true,true,true,true,true,false]) 10 rfl (by kernel_rfl) (by kernel_rfl) (by kernel_rfl) (by kernel_rfl) rfl (ya 1 rfl Ye rfl yZ rfl rfl) (fun _ h=>Mem.drop1 (h)) rfl (yJ [11] (by kernel_rfl) (by simp) (fun i hi=>?_)))))
 simp only [List.mem_cons,List.not_mem_nil,or_false] at hi
 subst hi
 refine yI rfl (yn (zy [r1,.slice (some ⟨g1,0,none⟩) (iz.toNat+(es.length-(iz.toNat+1))) (cap1)] rfl rfl yZ (o1 rfl) rfl rfl (zR (listed':=#[true,true,true,true,true,true,true,true,true,true,true,true]) (by kernel_rfl) rfl (yu (yu (yu (yu (yu (yu (yu ?_))))))))))
 show JI _ _ _ _ _ _ _ _ _
 exact zW () (by kernel_rfl) ⟨rfl,rfl,xt⟩ (fun _ h=>h)
 exact yo (yz (xP (zH rfl yX mm0 rfl) (y8 (zo rfl rfl yX rfl rfl ⟨(o1i mm3),(o1 rfl),xt⟩ (yx (yw (yi (j_hide (n:=iz.toNat+(es.length-(iz.toNat+1))) (by first | omega | (rw [List.length_append,List.length_take,List.length_drop];omega)) (yi (yb (yl (yb (yl (yb (yn (ye (yi (ye (qd rfl (r1,.slice (some ⟨g1,0,none⟩) (iz.toNat+(es.length-(iz.toNat+1))) (cap1)) (Ya (.agg #[r1,.slice (some ⟨g1,0,none⟩) (iz.toNat+(es.length-(iz.toNat+1))) (cap1)]) rfl yX mm3 rfl (by decide) rfl) (show (_:Value)=(.agg #[r1,.slice (some ⟨g1,0,none⟩) (iz.toNat+(es.length-(iz.toNat+1))) (cap1)]) from rfl) (fun w h=>(fun h=>by rw [remL_nat hix];exact h) (Mem.front (As:=[.imm (.list (.pair .str (.list .str))) (r1) (ax),.row (.slice (some ⟨g1,0,none⟩) (iz.toNat+(es.length-(iz.toNat+1))) (cap1)) 40 tyE (es.take iz.toNat++es.drop (iz.toNat+1)),.row (tv2) 40 tyE (es)]) h)))))))))))))))))))))
end Go.Proofs.YtlniaacdjllonaaGreat
