/-
 Contracts of functions of the program: each returns what a plain function says,for every input within the bounds named. Conditions: the bounds.
-/
import Derived.Test.YtfcidkjpebalkaaGreatDoorRows
import Derived.Test.YtfcidkjpebalkaaGreatDoorDK3
namespace Go.Proofs.YtfcidkjpebalkaaGreatDoor
open Go Go.Sep
set_option linter.unusedSimpArgs false
set_option linter.unusedVariables false
open Go.Plain
theorem cal_46:Cal Tryz.prog 46:=yE Tryz.func46 (by kernel_rfl) rfl
theorem c_keep_Axes (l:List (Axs)) (lv:Value) (hl:l.length≤9223372036854775807) (hm:∀ a∈l,a.2.length≤9223372036854775807):Con Tryz.prog 23 #[lv] [.imm (.list (.pair .str (.list .str))) (lv) (l)] (fun _:Unit=>.bool (w8 l)) (fun _=>[]):=by
 refine xC (args:=[lv]) (n:=33) Tryz.func23 rfl rfl rfl (fun w0 I0 m0=>yw (yu rfl (yv (yg (yw (yu rfl (yv (yq (zu (fun (i:Nat)=>[(0,lv),(3,.int .i64 ((i:Nat):Int))]) (fun (i:Nat)=>[.imm (.list (.pair .str (.list .str))) (lv) (l)]) (fun (i:Nat)=>i≤7∧(l.take i).all okA=true) (fun (i:Nat)=>7-i) 0 (⟨Nat.zero_le _,rfl⟩) (⟨rfl,rfl,xt⟩) (fun _ h=>h) (fun i hinv=>yg (yw (yk rfl (yk rfl (xP (yD rfl (.head _) wE) (xP (yS (m:=i) (n:=l.length) rfl rfl) (yk rfl (xG rfl rfl rfl (fun hg=>yo rfl) (xG rfl rfl rfl (fun hg=>yS (m:=i) (n:=7) (yV rfl hg) rfl) (xP (yB rfl rfl rfl) (yv (yz rfl (fun h1b=>?_) (fun h1b=>?_))))))))))))))))))))))
 have h1:=(fun q=>And.imp of_decide_eq_true of_decide_eq_true (zI q)) h1b
 refine zv (yg (yq (yw (yk rfl (yk rfl (zP (t:=(.pair .str (.list .str))) (i:=i) ([],[]) (.head _) (by first | omega | (simp at hg;omega)) (fun ⟨_,e1⟩=>xP (yO (i:=i) rfl (.tail _ (.tail _ (.head _))) rfl wE qb (by first | omega | (simp at hg;omega))) (xP (Yf (i:=i) rfl (.tail _ (.tail _ (.head _))) xu77 rfl yK rfl rfl (by first | omega | (simp at hg;omega))) (xP (qt (o:=0) (str (((l.getD i ([],[]))).1)) rfl (.tail _ (.head _)) yK (by decide) rfl rfl) (xP (yX rfl zC) (xP (z0 (m:=(((l.getD i ([],[]))).1).length) (n:=100) rfl rfl) (yk rfl (xG rfl rfl rfl (fun hg=>yo rfl) (xG rfl rfl rfl (fun hg=>yo rfl) (xG rfl rfl rfl (fun hg=>yO (i:=i) (yV rfl hg) (.tail _ (.tail _ (.head _))) (yV rfl hg) wE qb (by first | omega | (simp at hg;omega))) (xG rfl rfl rfl (fun hg=>Yf (i:=i) (yV rfl hg) (.tail _ (.tail _ (.head _))) xu77 rfl zS rfl rfl (by first | omega | (simp at hg;omega))) (xG rfl rfl rfl (fun hg=>qt (o:=1) (e1) (yV rfl hg) (.tail _ (.head _)) zS (by decide) rfl rfl) (zq (j:=7) (want:=false) rfl rfl rfl cal_46 (fun hg=>qB (((l.getD i ([],[]))).2) e1 (by exact hm _ (yW (dd:=([],[])) h1.1))) (fun hg=>⟨yV rfl hg,xt⟩) rfl (fun _=>⟨⟨rfl,.head _⟩,xt⟩) (xG rfl rfl rfl (fun hg=>y7 (yV rfl hg)) (xP (yy rfl rfl rfl) (yv (yz rfl (fun h2b=>?_) (fun h2b=>?_)))))))))))))))))))))))
 have h2:=(fun q=>Or.imp of_decide_eq_true (fun q=>id (yN q)) (ze q)) h2b
 exact yw (yu rfl (yv (Zf (yc (q6 (yc (ya (ya (ya (yj rfl () rfl (show (.bool (w8 l):Value)=(.bool (false)) from congrArg Value.bool (by rw [w8,Wz (dd:=([],[])) h1.2 h1.1 (by unfold okA;rw [h2b];rfl)];rfl)) (fun _ h=>h)))))))))))
 have h2:=(fun q=>And.imp of_decide_eq_false (fun q=>id (yL q)) (zf q)) h2b
 refine y4 (yn (yr (yh (yk rfl (xP (yF (m:=i) (n:=1) rfl rfl (by omega)) (yu rfl (yH (ya (ya (yC (i+1) (by (try dsimp only);exact (⟨by omega,Ze (dd:=([],[])) h1.1 hinv.2 (by unfold okA;rw [h2b];rfl)⟩)) (by (try dsimp only);exact (by omega)) ⟨rfl,rfl,xt⟩ (fun _ h=>h)))))))))))
 have h1:=(fun q=>Or.imp of_decide_eq_false of_decide_eq_false (zJ q)) h1b
 exact yQ (yf (yf (yG (yr (yw (yk rfl (xP (yD rfl (.head _) wE) (xP (Zx (m:=l.length) (n:=6) rfl rfl) (yu rfl (yv (yt (ya (yj rfl () rfl (show (.bool (w8 l):Value)=(.bool (decide ((l.length:Nat)≤6))) from congrArg Value.bool (by rw [w8,keep_end hinv.1 h1 hinv.2];rfl)) (fun _ h=>h))))))))))))))
end Go.Proofs.YtfcidkjpebalkaaGreatDoor
