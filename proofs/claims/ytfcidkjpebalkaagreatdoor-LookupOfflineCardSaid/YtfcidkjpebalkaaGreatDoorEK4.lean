/-
 Contracts of functions of the program: each returns what a plain function says,for every input within the bounds named. Conditions: the bounds.
-/
import Derived.Test.YtfcidkjpebalkaaGreatDoorRows
import Derived.Test.YtfcidkjpebalkaaGreatDoorEK3
namespace Go.Proofs.YtfcidkjpebalkaaGreatDoor
open Go Go.Sep
set_option linter.unusedSimpArgs false
set_option linter.unusedVariables false
open Go.Plain
theorem cal_46:Cal Tryz.prog 46:=yF Tryz.func46 (by kernel_rfl) rfl
theorem c_keep_Axes (l:List (Axs)) (lv:Value) (hl:l.length≤9223372036854775807) (hm:∀ a∈l,a.2.length≤9223372036854775807):Con Tryz.prog 23 #[lv] [.imm (.list (.pair .str (.list .str))) (lv) (l)] (fun _:Unit=>.bool (Wp l)) (fun _=>[]):=by
 refine xC (args:=[lv]) (n:=33) Tryz.func23 rfl rfl rfl (fun w0 I0 m0=>yx (yt rfl (yv (yg (yx (yt rfl (yv (yp (zm (fun (i:Nat)=>[(0,lv),(3,.int .i64 ((i:Nat):Int))]) (fun (i:Nat)=>[.imm (.list (.pair .str (.list .str))) (lv) (l)]) (fun (i:Nat)=>i≤7∧(l.take i).all okA=true) (fun (i:Nat)=>7-i) 0 (⟨Nat.zero_le _,rfl⟩) (⟨rfl,rfl,xt⟩) (fun _ h=>h) (fun i hinv=>yg (yx (yi rfl (yi rfl (xP (yH rfl (.head _) Wz) (xP (yS (m:=i) (n:=l.length) rfl rfl) (yi rfl (xG rfl rfl rfl (fun hg=>yn rfl) (xG rfl rfl rfl (fun hg=>yS (m:=i) (n:=7) (yW rfl hg) rfl) (xP (yB rfl rfl rfl) (yv (yz rfl (fun h1b=>?_) (fun h1b=>?_))))))))))))))))))))))
 have h1:=(fun q=>And.imp of_decide_eq_true of_decide_eq_true (zr q)) h1b
 refine zq (yg (yp (yx (yi rfl (yi rfl (zY (t:=(.pair .str (.list .str))) (i:=i) ([],[]) (.head _) (by first | omega | (simp at hg;omega)) (fun ⟨_,e1⟩=>xP (yR (i:=i) rfl (.tail _ (.tail _ (.head _))) rfl Wz qw (by first | omega | (simp at hg;omega))) (xP (z3 (i:=i) rfl (.tail _ (.tail _ (.head _))) xu77 rfl yM rfl rfl (by first | omega | (simp at hg;omega))) (xP (qJ (o:=0) (str (((l.getD i ([],[]))).1)) rfl (.tail _ (.head _)) yM (by decide) rfl rfl) (xP (yV rfl zp) (xP (zU (m:=(((l.getD i ([],[]))).1).length) (n:=100) rfl rfl) (yi rfl (xG rfl rfl rfl (fun hg=>yn rfl) (xG rfl rfl rfl (fun hg=>yn rfl) (xG rfl rfl rfl (fun hg=>yR (i:=i) (yW rfl hg) (.tail _ (.tail _ (.head _))) (yW rfl hg) Wz qw (by first | omega | (simp at hg;omega))) (xG rfl rfl rfl (fun hg=>z3 (i:=i) (yW rfl hg) (.tail _ (.tail _ (.head _))) xu77 rfl z6 rfl rfl (by first | omega | (simp at hg;omega))) (xG rfl rfl rfl (fun hg=>qJ (o:=1) (e1) (yW rfl hg) (.tail _ (.head _)) z6 (by decide) rfl rfl) (zh (j:=7) (want:=false) rfl rfl rfl cal_46 (fun hg=>qQ (((l.getD i ([],[]))).2) e1 (by exact hm _ (yT (dd:=([],[])) h1.1))) (fun hg=>⟨yW rfl hg,xt⟩) rfl (fun _=>⟨⟨rfl,.head _⟩,xt⟩) (xG rfl rfl rfl (fun hg=>y7 (yW rfl hg)) (xP (yA rfl rfl rfl) (yv (yz rfl (fun h2b=>?_) (fun h2b=>?_)))))))))))))))))))))))
 have h2:=(fun q=>Or.imp of_decide_eq_true (fun q=>id (yO q)) (zf q)) h2b
 exact yx (yt rfl (yv (Zq (yb (qf (yb (ya (ya (ya (yk rfl () rfl (show (.bool (Wp l):Value)=(.bool (false)) from congrArg Value.bool (by rw [Wp,WM (dd:=([],[])) h1.2 h1.1 (by unfold okA;rw [h2b];rfl)];rfl)) (fun _ h=>h)))))))))))
 have h2:=(fun q=>And.imp of_decide_eq_false (fun q=>id (yL q)) (zg q)) h2b
 refine y3 (yj (yq (yh (yi rfl (xP (yC (m:=i) (n:=1) rfl rfl (by omega)) (yt rfl (yE (ya (ya (yy (i+1) (by (try dsimp only);exact (⟨by omega,YH (dd:=([],[])) h1.1 hinv.2 (by unfold okA;rw [h2b];rfl)⟩)) (by (try dsimp only);exact (by omega)) ⟨rfl,rfl,xt⟩ (fun _ h=>h)))))))))))
 have h1:=(fun q=>Or.imp of_decide_eq_false of_decide_eq_false (zt q)) h1b
 exact yP (ye (ye (yD (yq (yx (yi rfl (xP (yH rfl (.head _) Wz) (xP (ZP (m:=l.length) (n:=6) rfl rfl) (yt rfl (yv (yr (ya (yk rfl () rfl (show (.bool (Wp l):Value)=(.bool (decide ((l.length:Nat)≤6))) from congrArg Value.bool (by rw [Wp,keep_end hinv.1 h1 hinv.2];rfl)) (fun _ h=>h))))))))))))))
end Go.Proofs.YtfcidkjpebalkaaGreatDoor
