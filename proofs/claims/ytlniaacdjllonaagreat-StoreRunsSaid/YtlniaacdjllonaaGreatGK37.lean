/-
 Contracts of functions of the program: each returns what a plain function says,for every input within the bounds named. Conditions: the bounds.
-/
import Derived.Test.YtlniaacdjllonaaGreatRows
import Derived.Test.YtlniaacdjllonaaGreatGK36
namespace Go.Proofs.YtlniaacdjllonaaGreat
open Go Go.Sep
set_option linter.unusedSimpArgs false
set_option linter.unusedVariables false
open Go.Plain
theorem cal_18:Cal Tryz.prog 18:=yN Tryz.func18 (by kernel_rfl) rfl
theorem cal_29:Cal Tryz.prog 29:=yN Tryz.func29 (by kernel_rfl) rfl
theorem c_same (b c r:Nat) (bu va ta:Nat) (ov nv lv:Value) (A:List (Str×(List (Axs))×(List Ent))) (Q:List QE) (hqa:absQ Q=A) (hl:LimA bu va ta) (hs:StoA bu va ta A):Con Tryz.prog 17 #[.pointer (some ⟨b,0,none⟩),.pointer (some ⟨c,0,none⟩)] [.box b 68 [.int .i64 ((bu:Nat):Int),.int .i64 ((va:Nat):Int),.int .i64 ((ta:Nat):Int),.int .i64 ((totA A:Nat):Int),ov,.map (some r)],.row (ov) 9 .str (zg A),.mpt r tyT (A),.box c 36 [.int .i64 ((bu:Nat):Int),.int .i64 ((va:Nat):Int),.int .i64 ((ta:Nat):Int),nv,lv],.row (nv) 9 .str (namQ Q),.row (lv) 50 (.pair (.list (.pair .str (.list .str))) .raw) (lstQ Q),.rows 40 tyE (rowQ Q)] (fun _:Unit=>.bool (true)) (fun _=>[.box b 68 [.int .i64 ((bu:Nat):Int),.int .i64 ((va:Nat):Int),.int .i64 ((ta:Nat):Int),.int .i64 ((totA A:Nat):Int),ov,.map (some r)],.row (ov) 9 .str (zg A),.mpt r tyT (A),.box c 36 [.int .i64 ((bu:Nat):Int),.int .i64 ((va:Nat):Int),.int .i64 ((ta:Nat):Int),nv,lv],.row (nv) 9 .str (namQ Q),.row (lv) 50 (.pair (.list (.pair .str (.list .str))) .raw) (lstQ Q),.rows 40 tyE (rowQ Q)]):=by
 refine xC  (n:=52) Tryz.func17 rfl rfl rfl (fun w0 I0 m0=>?_)
 subst hqa
 have hlen:=hs.len hl
 have hla:=Zu Q
 have hok:=hs.ok
 have hnd:=hs.inv.keys
 have hql1:Q.length≤1000000:=by omega
 have hlk:=Y3 (absQ Q)
 have hnl:=ZL Q
 have hat:totA (absQ Q)≤1000000000:=by omega
 have hnk:=qP Q
 have hk1:(!decide ((zg (absQ Q))=(namQ Q)))=false:=by rw [hnk];simp
 refine yz (yy rfl (yx (yg (yg (qQ (fun (r1:Value)=>[(0,.pointer (some ⟨b,0,none⟩)),(1,.pointer (some ⟨c,0,none⟩)),(24,.bool ((!decide ((totA (absQ Q):Nat)=totA (absQ Q)))))]) (fun r1=>[.rows 40 tyE (rowQ Q),.box c 36 [.int .i64 ((bu:Nat):Int),.int .i64 ((va:Nat):Int),.int .i64 ((ta:Nat):Int),nv,lv],.row (nv) 9 .str (namQ Q),.row (lv) 50 (.pair (.list (.pair .str (.list .str))) .raw) (lstQ Q),.row (r1) 9 .str (zg (absQ Q)),.box b 68 [.int .i64 ((bu:Nat):Int),.int .i64 ((va:Nat):Int),.int .i64 ((ta:Nat):Int),.int .i64 ((totA (absQ Q):Nat):Int),ov,.map (some r)],.row (ov) 9 .str (zg (absQ Q)),.mpt r tyT (absQ Q)]) [.box b 68 [.int .i64 ((bu:Nat):Int),.int .i64 ((va:Nat):Int),.int .i64 ((ta:Nat):Int),.int .i64 ((totA (absQ Q):Nat):Int),ov,.map (some r)],.row (ov) 9 .str (zg (absQ Q)),.mpt r tyT (absQ Q),.box c 36 [.int .i64 ((bu:Nat):Int),.int .i64 ((va:Nat):Int),.int .i64 ((ta:Nat):Int),nv,lv],.row (nv) 9 .str (namQ Q),.row (lv) 50 (.pair (.list (.pair .str (.list .str))) .raw) (lstQ Q),.rows 40 tyE (rowQ Q)] mixed (fun lst hlst=>?_) (fun r1=>?_))))))
 subst hlst
 refine yU (listed':=#[true,false,false,false,false,false,false,false,false,false,false,false,false,false,false]) 0 rfl (by kernel_rfl) (by kernel_rfl) (by kernel_rfl) rfl (yh rfl) (fun _ h=>h) rfl (yU (listed':=#[true,false,true,false,false,false,false,false,false,false,false,false,false,false,false]) 2 rfl (by kernel_rfl) (by kernel_rfl) (by kernel_rfl) rfl (yh rfl) (fun _ h=>h) rfl (yU (listed':=#[true,false,true,true,false,false,false,false,false,false,false,false,false,false,false]) 3 rfl (by kernel_rfl) (by kernel_rfl) (by kernel_rfl) rfl (yD rfl) (fun _ h=>h) rfl (yU (listed':=#[true,false,true,true,true,false,false,false,false,false,false,false,false,false,false]) 4 rfl (by kernel_rfl) (by kernel_rfl) (by kernel_rfl) rfl (ya 3 rfl Zh rfl yO rfl rfl) (fun _ h=>h) rfl (yU (listed':=#[true,false,true,true,true,true,false,false,false,false,false,false,false,false,false]) 5 rfl (by kernel_rfl) (by kernel_rfl) (by kernel_rfl) rfl (yr rfl yO mm3 rfl) (fun _ h=>h) rfl (zK [1] (by kernel_rfl) (by simp) (fun i hi=>?_))))))
 simp only [List.mem_cons,List.not_mem_nil,or_false] at hi
 subst hi
 refine yI rfl (yn (yn (y5 [.mpt r tyT (absQ Q),.box c 36 [.int .i64 ((bu:Nat):Int),.int .i64 ((va:Nat):Int),.int .i64 ((ta:Nat):Int),nv,lv],.row (nv) 9 .str (namQ Q),.row (lv) 50 (.pair (.list (.pair .str (.list .str))) .raw) (lstQ Q),.rows 40 tyE (rowQ Q)] rfl cal_12 (c_store_Keys b r bu va ta (totA (absQ Q)) ov (zg (absQ Q)) (by rw [Y3];omega)) ⟨rfl,xt⟩ rfl (fun r1=>Yb (listed':=#[true,true,true,true,true,true,false,false,false,false,false,false,false,false,false]) (fun _ h=>Mem.drop1 (h)) rfl (zK [6] (by kernel_rfl) (by simp) (fun i hi=>?_))))))
 simp only [List.mem_cons,List.not_mem_nil,or_false] at hi
 subst hi
 refine yI rfl (Zx cal_25 (Wx _ _ _ _ (by first | exact Zs hok _ | (rw [Y3];omega) | omega)) ⟨rfl,rfl,xt⟩ rfl (⟨Z0 mm0,⟨Z0 mm5,xt⟩⟩) (fun _=>Yb (listed':=#[true,true,true,true,true,true,true,false,false,false,false,false,false,false,false]) (fun _ h=>Mem.drop1 (h)) rfl (yU (listed':=#[true,true,true,true,true,true,true,true,false,false,false,false,false,false,false]) 7 rfl (by kernel_rfl) (by kernel_rfl) (by kernel_rfl) rfl (zq rfl) (fun _ h=>Mem.drop1 (h)) rfl (yU (listed':=#[true,true,true,true,true,true,true,true,true,false,false,false,false,false,false]) 8 rfl (by kernel_rfl) (by kernel_rfl) (by kernel_rfl) rfl (yh rfl) (fun _ h=>Mem.drop1 (h)) rfl (zK [9,11] (by kernel_rfl) (by simp) (fun i hi=>?_))))))
 simp only [List.mem_cons,List.not_mem_nil,or_false] at hi
 rcases hi with rfl | rfl
 refine yI rfl (zi (j:=8) (want:=false) rfl rfl (hk1) (yq rfl (Yb (listed':=#[true,true,true,true,true,true,true,true,true,true,false,false,false,false,false]) (fun _ h=>Mem.drop1 (h)) rfl (zK [10,11] (by kernel_rfl) (by simp) (fun i hi=>?_)))))
 simp only [List.mem_cons,List.not_mem_nil,or_false] at hi
 rcases hi with rfl | rfl
 refine yI rfl (zi (j:=8) (want:=false) rfl rfl (hk1) (Zx cal_13 (wE b r bu va ta (totA (absQ Q)) ov) ⟨rfl,xt⟩ rfl (⟨qI mm1,xt⟩) (fun _=>Yb (listed':=#[true,true,true,true,true,true,true,true,true,true,true,false,false,false,false]) (fun _ h=>Mem.drop1 (h)) rfl (zK [11] (by kernel_rfl) (by simp) (fun i hi=>?_)))))
 simp only [List.mem_cons,List.not_mem_nil,or_false] at hi
 subst hi
 refine yI rfl (zi (j:=8) (want:=false) rfl rfl (hk1) (yq rfl (Yb (listed':=#[true,true,true,true,true,true,true,true,true,true,true,true,false,false,false]) (fun _ h=>Mem.drop1 (h)) rfl (zK [12] (by kernel_rfl) (by simp) (fun i hi=>?_)))))
 simp only [List.mem_cons,List.not_mem_nil,or_false] at hi
 subst hi
 refine yI rfl (zi (j:=8) (want:=false) rfl rfl (hk1) (yM (yM (yM (yM (y5 [.row (r1) 9 .str (zg (absQ Q)),.box b 68 [.int .i64 ((bu:Nat):Int),.int .i64 ((va:Nat):Int),.int .i64 ((ta:Nat):Int),.int .i64 ((totA (absQ Q):Nat):Int),ov,.map (some r)],.row (ov) 9 .str (zg (absQ Q)),.mpt r tyT (absQ Q)] rfl cal_41 (WJ c bu va ta nv lv Q (hql1) (hok) (hat)) ⟨rfl,xt⟩ rfl (fun _=>Yb (listed':=#[true,true,true,true,true,true,true,true,true,true,true,true,true,false,false]) (fun _ h=>Mem.pull (As:=[_,_,_,_,_,_]) (Mem.pull (As:=[_,_,_,_,_,_]) (Mem.pull (As:=[_,_,_,_,_,_]) (Mem.pull (As:=[_,_,_]) (Mem.pull (As:=[_,_,_]) (Mem.pull (As:=[_,_,_]) (Mem.drop1 (Mem.pull (As:=[_,_,_,_]) (h))))))))) rfl (zK [13] (by kernel_rfl) (by simp) (fun i hi=>?_)))))))))
 simp only [List.mem_cons,List.not_mem_nil,or_false] at hi
 subst hi
 refine yI rfl (zi (j:=8) (want:=false) rfl rfl (hk1) (xP (ZK (m:=totA (absQ Q)) (n:=totA (absQ Q)) rfl rfl) (Yb (listed':=#[true,true,true,true,true,true,true,true,true,true,true,true,true,true,false]) (fun _ h=>Mem.pull (As:=[_,_,_,_,_,_]) (Mem.pull (As:=[_,_,_,_,_,_]) (Mem.pull (As:=[_,_,_,_,_,_]) (Mem.pull (As:=[_,_,_]) (Mem.pull (As:=[_,_,_]) (Mem.pull (As:=[_,_,_]) (Mem.drop1 (Mem.pull (As:=[_,_,_,_]) (h))))))))) rfl (yU (listed':=#[true,true,true,true,true,true,true,true,true,true,true,true,true,true,true]) 14 rfl (by kernel_rfl) (by kernel_rfl) (by kernel_rfl) rfl (Ze rfl (hk1) rfl) (fun _ h=>Mem.pull (As:=[_,_,_,_,_,_]) (Mem.pull (As:=[_,_,_,_,_,_]) (Mem.pull (As:=[_,_,_,_,_,_]) (Mem.pull (As:=[_,_,_]) (Mem.pull (As:=[_,_,_]) (Mem.pull (As:=[_,_,_]) (Mem.drop1 (Mem.pull (As:=[_,_,_,_]) (h))))))))) rfl (yM (yM (yM (yM (yM (yM (yM (yM ?_))))))))))))
 show JH _ _ _ _ _ _ _ _
 exact ZW r1 (by kernel_rfl) ⟨rfl,rfl,rfl,xt⟩ (fun _ h=>h)
 refine yI rfl (zi (j:=8) (want:=false) rfl rfl (hk1) (yq rfl (Yb (listed':=#[true,true,true,true,true,true,true,true,true,true,false,true,false,false,false]) (fun _ h=>Mem.drop1 (h)) rfl (zK [10] (by kernel_rfl) (by simp) (fun i hi=>?_)))))
 simp only [List.mem_cons,List.not_mem_nil,or_false] at hi
 subst hi
 refine yI rfl (zi (j:=8) (want:=false) rfl rfl (hk1) (Zx cal_13 (wE b r bu va ta (totA (absQ Q)) ov) ⟨rfl,xt⟩ rfl (⟨qI mm1,xt⟩) (fun _=>Yb (listed':=#[true,true,true,true,true,true,true,true,true,true,true,true,false,false,false]) (fun _ h=>Mem.drop1 (h)) rfl (zK [12] (by kernel_rfl) (by simp) (fun i hi=>?_)))))
 simp only [List.mem_cons,List.not_mem_nil,or_false] at hi
 subst hi
 refine yI rfl (zi (j:=8) (want:=false) rfl rfl (hk1) (yM (yM (yM (yM (y5 [.row (r1) 9 .str (zg (absQ Q)),.box b 68 [.int .i64 ((bu:Nat):Int),.int .i64 ((va:Nat):Int),.int .i64 ((ta:Nat):Int),.int .i64 ((totA (absQ Q):Nat):Int),ov,.map (some r)],.row (ov) 9 .str (zg (absQ Q)),.mpt r tyT (absQ Q)] rfl cal_41 (WJ c bu va ta nv lv Q (hql1) (hok) (hat)) ⟨rfl,xt⟩ rfl (fun _=>Yb (listed':=#[true,true,true,true,true,true,true,true,true,true,true,true,true,false,false]) (fun _ h=>Mem.pull (As:=[_,_,_,_,_,_]) (Mem.pull (As:=[_,_,_,_,_,_]) (Mem.pull (As:=[_,_,_,_,_,_]) (Mem.pull (As:=[_,_,_]) (Mem.pull (As:=[_,_,_]) (Mem.pull (As:=[_,_,_]) (Mem.drop1 (Mem.pull (As:=[_,_,_,_]) (h))))))))) rfl (zK [13] (by kernel_rfl) (by simp) (fun i hi=>?_)))))))))
 simp only [List.mem_cons,List.not_mem_nil,or_false] at hi
 subst hi
 refine yI rfl (zi (j:=8) (want:=false) rfl rfl (hk1) (xP (ZK (m:=totA (absQ Q)) (n:=totA (absQ Q)) rfl rfl) (Yb (listed':=#[true,true,true,true,true,true,true,true,true,true,true,true,true,true,false]) (fun _ h=>Mem.pull (As:=[_,_,_,_,_,_]) (Mem.pull (As:=[_,_,_,_,_,_]) (Mem.pull (As:=[_,_,_,_,_,_]) (Mem.pull (As:=[_,_,_]) (Mem.pull (As:=[_,_,_]) (Mem.pull (As:=[_,_,_]) (Mem.drop1 (Mem.pull (As:=[_,_,_,_]) (h))))))))) rfl (yU (listed':=#[true,true,true,true,true,true,true,true,true,true,true,true,true,true,true]) 14 rfl (by kernel_rfl) (by kernel_rfl) (by kernel_rfl) rfl (Ze rfl (hk1) rfl) (fun _ h=>Mem.pull (As:=[_,_,_,_,_,_]) (Mem.pull (As:=[_,_,_,_,_,_]) (Mem.pull (As:=[_,_,_,_,_,_]) (Mem.pull (As:=[_,_,_]) (Mem.pull (As:=[_,_,_]) (Mem.pull (As:=[_,_,_]) (Mem.drop1 (Mem.pull (As:=[_,_,_,_]) (h))))))))) rfl (yM (yM (yM (yM (yM (yM (yM (yM ?_))))))))))))
 show JH _ _ _ _ _ _ _ _
 exact ZW r1 (by kernel_rfl) ⟨rfl,rfl,rfl,xt⟩ (fun _ h=>h)
 refine yI rfl (zi (j:=8) (want:=false) rfl rfl (hk1) (yq rfl (Yb (listed':=#[true,true,true,true,true,true,true,true,true,false,false,true,false,false,false]) (fun _ h=>Mem.drop1 (h)) rfl (zK [9] (by kernel_rfl) (by simp) (fun i hi=>?_)))))
 simp only [List.mem_cons,List.not_mem_nil,or_false] at hi
 subst hi
 refine yI rfl (zi (j:=8) (want:=false) rfl rfl (hk1) (yq rfl (Yb (listed':=#[true,true,true,true,true,true,true,true,true,true,false,true,false,false,false]) (fun _ h=>Mem.drop1 (h)) rfl (zK [10] (by kernel_rfl) (by simp) (fun i hi=>?_)))))
 simp only [List.mem_cons,List.not_mem_nil,or_false] at hi
 subst hi
 refine yI rfl (zi (j:=8) (want:=false) rfl rfl (hk1) (Zx cal_13 (wE b r bu va ta (totA (absQ Q)) ov) ⟨rfl,xt⟩ rfl (⟨qI mm1,xt⟩) (fun _=>Yb (listed':=#[true,true,true,true,true,true,true,true,true,true,true,true,false,false,false]) (fun _ h=>Mem.drop1 (h)) rfl (zK [12] (by kernel_rfl) (by simp) (fun i hi=>?_)))))
 simp only [List.mem_cons,List.not_mem_nil,or_false] at hi
 subst hi
 refine yI rfl (zi (j:=8) (want:=false) rfl rfl (hk1) (yM (yM (yM (yM (y5 [.row (r1) 9 .str (zg (absQ Q)),.box b 68 [.int .i64 ((bu:Nat):Int),.int .i64 ((va:Nat):Int),.int .i64 ((ta:Nat):Int),.int .i64 ((totA (absQ Q):Nat):Int),ov,.map (some r)],.row (ov) 9 .str (zg (absQ Q)),.mpt r tyT (absQ Q)] rfl cal_41 (WJ c bu va ta nv lv Q (hql1) (hok) (hat)) ⟨rfl,xt⟩ rfl (fun _=>Yb (listed':=#[true,true,true,true,true,true,true,true,true,true,true,true,true,false,false]) (fun _ h=>Mem.pull (As:=[_,_,_,_,_,_]) (Mem.pull (As:=[_,_,_,_,_,_]) (Mem.pull (As:=[_,_,_,_,_,_]) (Mem.pull (As:=[_,_,_]) (Mem.pull (As:=[_,_,_]) (Mem.pull (As:=[_,_,_]) (Mem.drop1 (Mem.pull (As:=[_,_,_,_]) (h))))))))) rfl (zK [13] (by kernel_rfl) (by simp) (fun i hi=>?_)))))))))
 simp only [List.mem_cons,List.not_mem_nil,or_false] at hi
 subst hi
 refine yI rfl (zi (j:=8) (want:=false) rfl rfl (hk1) (xP (ZK (m:=totA (absQ Q)) (n:=totA (absQ Q)) rfl rfl) (Yb (listed':=#[true,true,true,true,true,true,true,true,true,true,true,true,true,true,false]) (fun _ h=>Mem.pull (As:=[_,_,_,_,_,_]) (Mem.pull (As:=[_,_,_,_,_,_]) (Mem.pull (As:=[_,_,_,_,_,_]) (Mem.pull (As:=[_,_,_]) (Mem.pull (As:=[_,_,_]) (Mem.pull (As:=[_,_,_]) (Mem.drop1 (Mem.pull (As:=[_,_,_,_]) (h))))))))) rfl (yU (listed':=#[true,true,true,true,true,true,true,true,true,true,true,true,true,true,true]) 14 rfl (by kernel_rfl) (by kernel_rfl) (by kernel_rfl) rfl (Ze rfl (hk1) rfl) (fun _ h=>Mem.pull (As:=[_,_,_,_,_,_]) (Mem.pull (As:=[_,_,_,_,_,_]) (Mem.pull (As:=[_,_,_,_,_,_]) (Mem.pull (As:=[_,_,_]) (Mem.pull (As:=[_,_,_]) (Mem.pull (As:=[_,_,_]) (Mem.drop1 (Mem.pull (As:=[_,_,_,_]) (h))))))))) rfl (yM (yM (yM (yM (yM (yM (yM (yM ?_))))))))))))
 show JH _ _ _ _ _ _ _ _
 exact ZW r1 (by kernel_rfl) ⟨rfl,rfl,rfl,xt⟩ (fun _ h=>h)
 refine yo (yA rfl (fun h1b h1=>?_) (fun h1b h1=>?_))
 exact absurd h1b (by simp)
 refine zS (yg (yz (yy rfl (yx (yp (zu (fun (i:Nat)=>[(0,.pointer (some ⟨b,0,none⟩)),(1,.pointer (some ⟨c,0,none⟩)),(5,.int .i64 ((i:Nat):Int))]) (fun (i:Nat)=>[.rows 40 tyE (rowQ Q),.box c 36 [.int .i64 ((bu:Nat):Int),.int .i64 ((va:Nat):Int),.int .i64 ((ta:Nat):Int),nv,lv],.row (nv) 9 .str (namQ Q),.row (lv) 50 (.pair (.list (.pair .str (.list .str))) .raw) (lstQ Q),.row (r1) 9 .str (zg (absQ Q)),.box b 68 [.int .i64 ((bu:Nat):Int),.int .i64 ((va:Nat):Int),.int .i64 ((ta:Nat):Int),.int .i64 ((totA (absQ Q):Nat):Int),ov,.map (some r)],.row (ov) 9 .str (zg (absQ Q)),.mpt r tyT (absQ Q)]) (fun (i:Nat)=>i≤4) (fun (i:Nat)=>4-i) 0 (Nat.zero_le _) (⟨rfl,rfl,rfl,xt⟩) (fun _ h=>h) (fun i hinv=>yg (yz (yq rfl (xP (yP (m:=i) (n:=4) rfl rfl) (yx (yA rfl (fun h2b h2=>?_) (fun h2b h2=>?_)))))))))))))
 refine zS (yg (yp (yz (yq rfl (yq rfl (yt WM (Zf ((i:Nat):Int)) ⟨rfl,xt⟩ rfl (xt) (fun _=>yM (yu (y5 [.rows 40 tyE (rowQ Q),.box c 36 [.int .i64 ((bu:Nat):Int),.int .i64 ((va:Nat):Int),.int .i64 ((ta:Nat):Int),nv,lv],.row (nv) 9 .str (namQ Q),.row (lv) 50 (.pair (.list (.pair .str (.list .str))) .raw) (lstQ Q),.row (r1) 9 .str (zg (absQ Q)),.row (ov) 9 .str (zg (absQ Q))] rfl cal_18 (c_store_Get b r bu va ta (.int .i64 ((totA (absQ Q):Nat):Int)) ov (absQ Q) (YA ((i:Nat):Int)) (hok)) ⟨rfl,rfl,xt⟩ rfl (fun ⟨r2,r3⟩=>yq rfl (xP (yS rfl rfl) (xP (yS rfl rfl) (zb yX [.slice none 0 0,.slice none 0 0] rfl rfl (fun b1=>zo rfl rfl yX rfl rfl ⟨(o1i mm1),(o1r mm2),xt⟩ (yy rfl (Yr (yq rfl (yq rfl (yt WM (Zf ((i:Nat):Int)) ⟨rfl,xt⟩ rfl (xt) (fun _=>y8 (Yx (Yx (Yx (y5 [.box b1 50 [r2,r3],.imm (.list (.pair .str (.list .str))) (r2) ((yc (absQ Q) (YA ((i:Nat):Int))).1),.row (r3) 40 tyE ((yc (absQ Q) (YA ((i:Nat):Int))).2),.box b 68 [.int .i64 ((bu:Nat):Int),.int .i64 ((va:Nat):Int),.int .i64 ((ta:Nat):Int),.int .i64 ((totA (absQ Q):Nat):Int),ov,.map (some r)],.mpt r tyT (absQ Q),.row (r1) 9 .str (zg (absQ Q)),.row (ov) 9 .str (zg (absQ Q))] rfl cal_42 (c_ref_Get c bu va ta nv lv Q (YA ((i:Nat):Int)) (hql1) (hok) (hnd)) ⟨rfl,rfl,xt⟩ rfl (fun ⟨r4,r5⟩=>yq rfl (xP (yS rfl rfl) (xP (yS rfl rfl) (zb yX [.slice none 0 0,.slice none 0 0] rfl rfl (fun b2=>zo rfl rfl yX rfl rfl ⟨(o1i mm1),(o1r mm2),xt⟩ (yy rfl (Yr ?_)))))))))))))))))))))))))))))))
 refine yq rfl (yq rfl (xP (pr_neqb rfl rfl Tryz.underlying4) (yq rfl ?_)))
 have ht1:((!(inA (absQ Q) (YA ((i:Nat):Int))==inA (absQ Q) (YA ((i:Nat):Int)))))=false:=by simp
 refine zi (j:=3) (want:=false) rfl rfl (ht1) (xP (zH rfl yX mm7 rfl) (zi (j:=3) (want:=false) rfl rfl (ht1) (xP (zH rfl yX mm0 rfl) (zi (j:=3) (want:=false) rfl rfl (ht1) (Zx cal_29 (c_ref26_EqualTable (yc (absQ Q) (YA ((i:Nat):Int))) r2 r3 (yc (absQ Q) (YA ((i:Nat):Int))) r4 r5 (by first | exact Zs hok _ | (rw [Y3];omega) | omega) (by first | exact Zs hok _ | (rw [Y3];omega) | omega)) ⟨rfl,rfl,xt⟩ rfl (⟨ZA rfl mm8,⟨Z0 mm9,⟨ZA rfl mm1,⟨Z0 mm2,xt⟩⟩⟩⟩) (fun _=>zi (j:=3) (want:=false) rfl rfl (ht1) (xP (zq rfl) (xP (Ze rfl (ht1) rfl) (yx (yA rfl (fun h3b h3=>?_) (fun h3b h3=>?_)))))))))))
 exact absurd h3b (by rw [eqT_self];simp)
 refine zm (ym (yo (yj (yq rfl (xP (yC (m:=i) (n:=1) rfl rfl (by omega)) (yy rfl (yL (yb (yb (yb (yl (yb (yl (yb (yl (yb (y8 (yM (yu (yM (yM (yM (yM (yM (y0 (i+1) (by (try dsimp only);exact (by omega)) ⟨rfl,rfl,rfl,xt⟩)))))))))))))))))))))))))
 exact yV (yf (yf (yH (yo (yz (yy rfl (yx (yw (yl (yb (ye (ye (ye (yu (yu (yu (zt rfl () rfl (show (_:Value)=(.bool (true)) from rfl) (fun _ h=>h))))))))))))))))))
end Go.Proofs.YtlniaacdjllonaaGreat
