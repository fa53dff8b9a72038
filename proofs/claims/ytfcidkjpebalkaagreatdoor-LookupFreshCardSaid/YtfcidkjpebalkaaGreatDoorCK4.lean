/-
 Contracts of functions of the program: each returns what a plain function says,for every input within the bounds named. Conditions: the bounds.
-/
import Derived.Test.YtfcidkjpebalkaaGreatDoorRows
import Derived.Test.YtfcidkjpebalkaaGreatDoorCK3
namespace Go.Proofs.YtfcidkjpebalkaaGreatDoor
open Go Go.Sep
set_option linter.unusedSimpArgs false
set_option linter.unusedVariables false
open Go.Plain
theorem cal_46:Cal Tryz.prog 46:=yI Tryz.func46 (by kernel_rfl) rfl
theorem c_keep_Axes (l:List (Axs)) (lv:Value) (hl:l.length≤9223372036854775807) (hm:∀ a∈l,a.2.length≤9223372036854775807):Con Tryz.prog 23 #[lv] [.imm (.list (.pair .str (.list .str))) (lv) (l)] (fun _:Unit=>.bool (WM l)) (fun _=>[]):=by
 refine xC (args:=[lv]) (n:=33) Tryz.func23 rfl rfl rfl (fun w0 I0 m0=>yB (yv rfl (yx (yg (yB (yv rfl (yx (yt (zu (fun (i:Nat)=>[(0,lv),(3,.int .i64 ((i:Nat):Int))]) (fun (i:Nat)=>[.imm (.list (.pair .str (.list .str))) (lv) (l)]) (fun (i:Nat)=>i≤7∧(l.take i).all okA=true) (fun (i:Nat)=>7-i) 0 (⟨Nat.zero_le _,rfl⟩) (⟨rfl,rfl,xt⟩) (fun _ h=>h) (fun i hinv=>yg (yB (yl rfl (yl rfl (xP (yL rfl (.head _) W0) (xP (yS (m:=i) (n:=l.length) rfl rfl) (yl rfl (xG rfl rfl rfl (fun hg=>yi rfl) (xG rfl rfl rfl (fun hg=>yS (m:=i) (n:=7) (yT rfl hg) rfl) (xP (yD rfl rfl rfl) (yx (yE rfl (fun h1b=>?_) (fun h1b=>?_))))))))))))))))))))))
 have h1:=(fun q=>And.imp of_decide_eq_true of_decide_eq_true (zA q)) h1b
 refine zp (yg (yt (yB (yl rfl (yl rfl (z4 (t:=(.pair .str (.list .str))) (i:=i) ([],[]) (.head _) (by first | omega | (simp at hg;omega)) (fun ⟨_,e1⟩=>xP (yX (i:=i) rfl (.tail _ (.tail _ (.head _))) rfl W0 qQ (by first | omega | (simp at hg;omega))) (xP (Yb (i:=i) rfl (.tail _ (.tail _ (.head _))) xu77 rfl yV rfl rfl (by first | omega | (simp at hg;omega))) (xP (q9 (o:=0) (str (((l.getD i ([],[]))).1)) rfl (.tail _ (.head _)) yV (by decide) rfl rfl) (xP (y0 rfl zq) (xP (zN (m:=(((l.getD i ([],[]))).1).length) (n:=100) rfl rfl) (yl rfl (xG rfl rfl rfl (fun hg=>yi rfl) (xG rfl rfl rfl (fun hg=>yi rfl) (xG rfl rfl rfl (fun hg=>yX (i:=i) (yT rfl hg) (.tail _ (.tail _ (.head _))) (yT rfl hg) W0 qQ (by first | omega | (simp at hg;omega))) (xG rfl rfl rfl (fun hg=>Yb (i:=i) (yT rfl hg) (.tail _ (.tail _ (.head _))) xu77 rfl Yf rfl rfl (by first | omega | (simp at hg;omega))) (xG rfl rfl rfl (fun hg=>q9 (o:=1) (e1) (yT rfl hg) (.tail _ (.head _)) Yf (by decide) rfl rfl) (zn (j:=7) (want:=false) rfl rfl rfl cal_46 (fun hg=>wf (((l.getD i ([],[]))).2) e1 (by exact hm _ (yZ (dd:=([],[])) h1.1))) (fun hg=>⟨yT rfl hg,xt⟩) rfl (fun _=>⟨⟨rfl,.head _⟩,xt⟩) (xG rfl rfl rfl (fun hg=>y4 (yT rfl hg)) (xP (yA rfl rfl rfl) (yx (yE rfl (fun h2b=>?_) (fun h2b=>?_)))))))))))))))))))))))
 have h2:=(fun q=>Or.imp of_decide_eq_true (fun q=>id (yN q)) (y8 q)) h2b
 exact yB (yv rfl (yx (Zv (yb (qA (yb (ya (ya (ya (yp rfl () rfl (show (.bool (WM l):Value)=(.bool (false)) from congrArg Value.bool (by rw [WM,Qj (dd:=([],[])) h1.2 h1.1 (by unfold okA;rw [h2b];rfl)];rfl)) (fun _ h=>h)))))))))))
 have h2:=(fun q=>And.imp of_decide_eq_false (fun q=>id (yM q)) (y9 q)) h2b
 refine y5 (yn (yr (yh (yl rfl (xP (yF (m:=i) (n:=1) rfl rfl (by omega)) (yv rfl (yH (ya (ya (yC (i+1) (by (try dsimp only);exact (⟨by omega,Y0 (dd:=([],[])) h1.1 hinv.2 (by unfold okA;rw [h2b];rfl)⟩)) (by (try dsimp only);exact (by omega)) ⟨rfl,rfl,xt⟩ (fun _ h=>h)))))))))))
 have h1:=(fun q=>Or.imp of_decide_eq_false of_decide_eq_false (zB q)) h1b
 exact yU (ye (ye (yJ (yr (yB (yl rfl (xP (yL rfl (.head _) W0) (xP (Z9 (m:=l.length) (n:=6) rfl rfl) (yv rfl (yx (yu (ya (yp rfl () rfl (show (.bool (WM l):Value)=(.bool (decide ((l.length:Nat)≤6))) from congrArg Value.bool (by rw [WM,keep_end hinv.1 h1 hinv.2];rfl)) (fun _ h=>h))))))))))))))
end Go.Proofs.YtfcidkjpebalkaaGreatDoor
