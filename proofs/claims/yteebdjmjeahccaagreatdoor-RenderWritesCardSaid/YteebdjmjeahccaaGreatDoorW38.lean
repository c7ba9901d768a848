/- Parts of the proof, one after the other. -/
import Derived.Test.YteebdjmjeahccaaGreatDoorW37
import Derived.Test.YteebdjmjeahccaaGreatDoorW26
import Derived.Test.YteebdjmjeahccaaGreatDoorW06
import Derived.OpenShut
import Derived.WideShapes
import Derived.Lib.SmallJoins
import Derived.Deep.Strs
import Derived.Test.YteebdjmjeahccaaGreatDoorW07
import Derived.Deep.Slices
set_option linter.unusedSimpArgs false
set_option linter.unusedVariables false
set_option maxRecDepth 100000
set_option maxHeartbeats 16000000
namespace Go.Proofs.YteebdjmjeahccaaGreatDoor
open Go.RowKit
theorem rpane_any (t : Trm) (w : World) : Calls Tryz.prog 23 #[.agg t.vals.toArray] w fun e w' => e = .returned (.agg #[.int .i64 (t.s.Rn : Int),.int .i64 (t.s.Cn : Int),.slice t.s.A t.s.n t.s.c,.int .i64 t.s.row,.int .i64 t.s.col,.bool t.s.hid]) ∧ Bw w w':=by
 go_enter Tryz.func23,Tryz.ntmps23
 go_upto_region 1 with (fail)
 generalize hw0 : (w.alloc (.cells t.vals.toArray 53)).alloc _ = w0
 obtain ⟨hb0,hb1,hbw0,hz0⟩:=sb2 hw0
 have HB0:=Lib.hid hb0
 have HB1:=Lib.hid (show ∃ old,Sb w0 (w.heap.size + 1) old 27 ∧ old.size = 6 from ⟨_,hb1,rfl⟩)
 clear hw0 hb0 hb1
 have x0:=HB0.out.cell 0 (v:=.int .i64 (t.s.Rn : Int)) rfl
 have x1:=HB0.out.cell 1 (v:=.int .i64 (t.s.Cn : Int)) rfl
 have x2:=HB0.out.cell 2 (v:=.slice t.s.A t.s.n t.s.c) rfl
 have x3:=HB0.out.cell 3 (v:=.int .i64 t.s.row) rfl
 have x4:=HB0.out.cell 4 (v:=.int .i64 t.s.col) rfl
 have x5:=HB0.out.cell 5 (v:=.bool t.s.wrap) rfl
 have x17:=HB0.out.cell 17 (v:=.bool t.s.hid) rfl
 have hlz:=HB0.out.lt
 go_wp2_with (first
  | ((with_reducible refine wpList_store_vw (t.s.Rn : Int) (t.s.Cn : Int) t.s.A t.s.n t.s.c t.s.row t.s.col t.s.hid (w.heap.size + 1) (.tmp 2) (.tmp 17) rfl rfl ?_ ?_ ?_ ?_);(focus rfl);(focus rfl);(focus (exact Exists.elim HB1.out (fun old h => ⟨old,h.1.up BWX,h.2⟩)));intro w5 hS5 hg5;have HS5:=Lib.hid hS5;have HG5:=Lib.hid hg5;clear hS5 hg5)
  | fail)
 refine bodyPost_ret (results_vw rfl _ _ (w.heap.size + 1) (t.s.Rn : Int) (t.s.Cn : Int) t.s.A t.s.n t.s.c t.s.row t.s.col t.s.hid (by rfl) HS5.out) rfl ?_
 exact ⟨rfl,Bw.grown (show Bw w _ from BWX) HG5.out (fun k hk => by cases hk;omega)⟩
end Go.Proofs.YteebdjmjeahccaaGreatDoor
namespace Go.Proofs.YteebdjmjeahccaaGreatDoor
open Go.RowKit Go.ChangeShapes Go.WideShapes Go.ChangeAt Go.Joins Go.Deep
theorem cells_int : Tryz.prog.cellsOf 3 = 1:=by kernel_rfl
theorem cells_attr : Tryz.prog.cellsOf 42 = 3:=by kernel_rfl
theorem cells_cell : Tryz.prog.cellsOf 70 = 4:=by kernel_rfl
theorem trod_cell {H : Type} {enc : TypeId × Value → H} {W : World} {base : Nat} {sp : Nat → Bool} {held : Bool} {fuel : Nat} {c0 c1 c2 c3 : Value} {x : DataW H × List MemPlace}
  (hf : DataW.trod enc Tryz.prog W base sp held fuel 70 [c0,c1,c2,c3] = some x) : ∃ x1 x2 x3 x4 : Int,c0 = .int .i64 x1 ∧ c1 = .int .i64 x2 ∧ c2 = .int .i64 x3 ∧ c3 = .int .i64 x4:=by
 obtain ⟨y0,y1,n,hx,_,h0,h1⟩:=trod_struct2 Tryz.underlying70 hf
 have h0' : DataW.trod enc Tryz.prog W base sp held n 3 [c0] = some y0:=by simpa [cells_int] using h0
 have h1' : DataW.trod enc Tryz.prog W base sp held n 42 [c1,c2,c3] = some y1:=by simpa [cells_attr] using h1
 obtain ⟨z0,z1,z2,m,hz,_,k0,k1,k2⟩:=trod_struct3 Tryz.underlying42 h1'
 have k0' : DataW.trod enc Tryz.prog W base sp held m 3 [c1] = some z0:=by simpa [cells_int] using k0
 have k1' : DataW.trod enc Tryz.prog W base sp held m 3 [c2] = some z1:=by simpa [cells_int] using k1
 have k2' : DataW.trod enc Tryz.prog W base sp held m 3 [c3] = some z2:=by simpa [cells_int] using k2
 obtain ⟨x1,e1,-,-⟩:=DataW.trod_int Tryz.underlying3 h0'
 obtain ⟨x2,e2,-,-⟩:=DataW.trod_int Tryz.underlying3 k0'
 obtain ⟨x3,e3,-,-⟩:=DataW.trod_int Tryz.underlying3 k1'
 obtain ⟨x4,e4,-,-⟩:=DataW.trod_int Tryz.underlying3 k2'
 cases e1;cases e2;cases e3;cases e4
 exact ⟨x1,x2,x3,x4,rfl,rfl,rfl,rfl⟩
end Go.Proofs.YteebdjmjeahccaaGreatDoor
namespace Go.Proofs.YteebdjmjeahccaaGreatDoor
open Go.RowKit Go.ChangeShapes Go.WideShapes Go.ChangeAt Go.Joins Go.Deep
/-- Four cells that are read as a cell. -/
theorem ce_of {H : Type} {enc : TypeId × Value → H} {W : World} {base : Nat} {sp : Nat → Bool} {held : Bool} {fuel g o : Nat} {cs' : List Value} {x : DataW H × List MemPlace}
  (hc : W.cells? base ⟨g,o,none⟩ 4 = some cs') (hf : DataW.trod enc Tryz.prog W base sp held fuel 70 cs' = some x) : ∃ c : C4,Ce W g o c:=by
 obtain ⟨-,hl,hx⟩:=World.cells?_some hc
 obtain ⟨c0,c1,c2,c3,rfl⟩ : ∃ c0 c1 c2 c3,cs' = [c0,c1,c2,c3]:=by
  match cs',hl with
  | [c0,c1,c2,c3],_ => exact ⟨c0,c1,c2,c3,rfl⟩
 obtain ⟨x1,x2,x3,x4,rfl,rfl,rfl,rfl⟩:=trod_cell hf
 have k:=fun i hi => hx i hi
 have a0:=k 0 (by omega)
 have a1:=k 1 (by omega)
 have a2:=k 2 (by omega)
 have a3:=k 3 (by omega)
 exact ⟨(x1,x2,x3,x4),by simpa [Addr.add] using a0,by simpa [Addr.add] using a1,by simpa [Addr.add] using a2,by simpa [Addr.add] using a3⟩
end Go.Proofs.YteebdjmjeahccaaGreatDoor
