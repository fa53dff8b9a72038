/-
 slices.Insert at this seat's program: the kit's proved roads laid,and the contracts.
-/
import Derived.Test.YtfcidkjpebalkaaGreatDoorProg
import Derived.Test.YtfcidkjpebalkaaGreatDoorASep2
import Derived.Shelf.Lay
namespace Go.Proofs
open Go.Shelf
shelf_lay Lays2.n22 Nm2 22 at Tryz as Tryz.lays22
shelf_lay Lays2.n21 Nm2 21 at Tryz as Tryz.lays21
end Go.Proofs
namespace Go.Proofs.YtfcidkjpebalkaaGreatDoor
open Go Go.Sep
theorem c_insert_str (xs:List (List UInt8)) (v:Value) (x:List UInt8) (i gx:Nat) (hi:i≤xs.length) (hl:xs.length≤1000000):Con Tryz.prog (Tryz.lays22_ren.f 22) #[v,.int .i64 (i:Nat),.slice (some ⟨gx,0,none⟩) 1 1] [.row v (Tryz.lays22_ren.t 9) .str xs,.rowg gx 1 (Tryz.lays22_ren.t 9) .str [x]] (fun r:Value=>r) (fun r=>[.row r (Tryz.lays22_ren.t 9) .str (xs.take i++[x]++xs.drop i)]) :=
 ins_con (fun y:List UInt8=>str y) (Value.string ⟨#[]⟩).cells rfl rfl (fun _ _ _ _=>Iff.rfl) (fun _=>rfl)
  (fun b off n c vb voff m vc vs w=>Any2.slices_Insert_string_end_room Tryz.lays22 b off n c vb voff m vc vs w)
  (fun base n c vb voff m vc cs vs w=>Any2.slices_Insert_string_end_grow Tryz.lays22 base n c vb voff m vc cs vs w)
  (fun b off n c i vb voff m vc cs vs w=>Any2.slices_Insert_string_shift Tryz.lays22 b off n c i vb voff m vc cs vs w)
  (fun b off n c i vb voff m vc cs vs w=>Any2.slices_Insert_string_grow Tryz.lays22 b off n c i vb voff m vc cs vs w) hi hl
theorem c_insert_int (xs:List Int) (v:Value) (x:Int) (i gx:Nat) (hi:i≤xs.length) (hl:xs.length≤1000000):Con Tryz.prog (Tryz.lays21_ren.f 21) #[v,.int .i64 (i:Nat),.slice (some ⟨gx,0,none⟩) 1 1] [.row v (Tryz.lays21_ren.t 3) (.int .i64) xs,.rowg gx 1 (Tryz.lays21_ren.t 3) (.int .i64) [x]] (fun r:Value=>r) (fun r=>[.row r (Tryz.lays21_ren.t 3) (.int .i64) (xs.take i++[x]++xs.drop i)]) :=
 ins_con (fun y:Int=>.int .i64 y) (Value.int .i64 0).cells rfl rfl (fun _ _ _ _=>Iff.rfl) (fun _=>rfl)
  (fun b off n c vb voff m vc vs w=>Any2.slices_Insert_int_end_room Tryz.lays21 b off n c vb voff m vc vs w)
  (fun base n c vb voff m vc cs vs w h1 h2 h3 h4=>Any2.slices_Insert_int_end_grow Tryz.lays21 base n c vb voff m vc cs vs w h1 h2 h3 (by omega))
  (fun b off n c i vb voff m vc cs vs w=>Any2.slices_Insert_int_shift Tryz.lays21 b off n c i vb voff m vc cs vs w)
  (fun b off n c i vb voff m vc cs vs w h1 h2 h3 h4 h5=>Any2.slices_Insert_int_grow Tryz.lays21 b off n c i vb voff m vc cs vs w h1 h2 h3 h4 (by omega)) hi hl
end Go.Proofs.YtfcidkjpebalkaaGreatDoor
