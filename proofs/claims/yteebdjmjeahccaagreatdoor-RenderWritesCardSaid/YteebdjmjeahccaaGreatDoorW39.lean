/- Parts of the proof, one after the other. -/
import Derived.Test.YteebdjmjeahccaaGreatDoorW31
import Derived.LaidMore
import Derived.Lay
import Derived.LaidSub
import Derived.MakeChecks
import Derived.Lib.LaidTab
import Derived.OpenShut
import Derived.WideShapes
import Derived.Lib.SmallJoins
import Derived.Deep.Strs
import Derived.Test.YteebdjmjeahccaaGreatDoorW38
import Derived.Test.YteebdjmjeahccaaGreatDoorW37
import Derived.SizedLaws
set_option linter.unusedSimpArgs false
set_option linter.unusedVariables false
set_option maxRecDepth 100000
set_option maxHeartbeats 16000000
namespace Go.Proofs.YteebdjmjeahccaaGreatDoor
open Go.RowKit Go.ChangeShapes Go.WideShapes Go.ChangeAt Go.Joins Go.Deep
theorem cells_intS : Tryz.prog.cellsOf 3 = 1:=by kernel_rfl
end Go.Proofs.YteebdjmjeahccaaGreatDoor
namespace Go.Proofs.YteebdjmjeahccaaGreatDoor
open Go.RowKit Go.ChangeShapes Go.WideShapes Go.ChangeAt Go.Joins Go.Deep
theorem cells_gridV : Tryz.prog.cellsOf 25 = 3:=by kernel_rfl
theorem cells_viewV : Tryz.prog.cellsOf 27 = 6:=by kernel_rfl
theorem cells_boolV : Tryz.prog.cellsOf 4 = 1:=by kernel_rfl
theorem cells_celsV : Tryz.prog.cellsOf 23 = 1:=by kernel_rfl
theorem rg_of_trod {H : Type} {enc : TypeId × Value → H} {W : World} {base : Nat} {sp : Nat → Bool} {held : Bool} {fuel : Nat} {v : Value} {y : DataW H × List MemPlace}
  (k2 : DataW.trod enc Tryz.prog W base sp held fuel 23 [v] = some y) : ∃ (A : Option Addr) (n c : Nat) (cs : List C4),v = .slice A n c ∧ Rg W A n cs ∧ n ≤ c ∧ c ≤ 9223372036854775807:=by
 rcases open_slice Tryz.underlying23 k2 with ⟨e,-⟩|⟨a,len,cap,m,n',D,Pl,e,hb,hl,hm,hme,-,hel⟩
 ·cases e
  exact ⟨none,0,0,[],rfl,Rg.nil_ _ _,by omega,by omega⟩
 ·cases e
  have hmx : len ≤ m:=by rw [hme];split <;> omega
  obtain ⟨g,o,fi⟩:=a
  cases fi with
  | some f =>
   by_cases h0 : len = 0
   ·subst h0
    exact ⟨_,0,cap,[],rfl,Rg.nil_ _ _,by omega,by unfold maxLen at hm;omega⟩
   ·exfalso
    obtain ⟨cs',hc,hf⟩:=hel 0 (by omega)
    rw [cells_cell] at hc
    obtain ⟨-,hl4,hx⟩:=World.cells?_some hc
    obtain ⟨c0,c1,c2,c3,rfl⟩ : ∃ c0 c1 c2 c3,cs' = [c0,c1,c2,c3]:=by
     match cs',hl4 with
     | [c0,c1,c2,c3],_ => exact ⟨c0,c1,c2,c3,rfl⟩
    obtain ⟨x1,x2,x3,x4,rfl,rfl,rfl,rfl⟩:=trod_cell hf
    have h1:=hx 0 (by omega)
    obtain ⟨b,off,e,-⟩:=ints_at (w:=W) (k:=.i64) (a:=(⟨g,o,some f⟩ : Addr)) (zs:=[x1]) (fun i hi => by
     have hi0 : i = 0:=by simpa using hi
     subst hi0
     simpa [Addr.add] using h1) (by simp)
    cases e
  | none =>
   have key : ∀ i,i < len → ∃ c : C4,Ce W g (o + i * 4) c:=fun i hi => by
    obtain ⟨cs',hc,hf⟩:=hel i (by omega)
    rw [cells_cell] at hc
    have e : (⟨g,o,none⟩ : Addr).add (i * 4) = ⟨g,o + i * 4,none⟩:=by
     by_cases h0 : i * 4 = 0
     ·rw [h0];rfl
     ·simp [Addr.add,h0]
    rw [e] at hc
    exact ce_of hc hf
   refine ⟨_,len,cap,(List.range len).map (fun i => if hi : i < len then (key i hi).choose else (0,0,0,0)),rfl,⟨by simp,fun _ => ⟨g,o,rfl,fun i hi => ?_⟩⟩,hl,by unfold maxLen at hm;omega⟩
   have hi' : i < len:=by simpa using hi
   simp only [List.getElem_map,List.getElem_range,dif_pos hi']
   exact (key i hi').choose_spec
theorem open_view {H : Type} {enc : TypeId × Value → H} {W : World} {base : Nat} {sp : Nat → Bool} {held : Bool} {r : Reach} {b0 : Nat} {v : Value} {d : DataW H} {p : List MemPlace}
  (hv : Value.okWide Tryz.prog W r b0 27 v) (h : DataW.Trod enc Tryz.prog W base sp held 27 v d p) :
  ∃ (R C : Int) (A : Option Addr) (n c : Nat) (cs : List C4) (row col : Int) (hid : Bool),v = .agg #[.int .i64 R,.int .i64 C,.slice A n c,.int .i64 row,.int .i64 col,.bool hid] ∧ Rg W A n cs ∧ n ≤ c ∧ c ≤ 9223372036854775807:=by
 obtain ⟨cs,rfl,hsz⟩:=okWide_struct Tryz.underlying27 hv
 rw [cells_viewV] at hsz
 obtain ⟨c0,c1,c2,c3,c4,c5,rfl⟩ : ∃ c0 c1 c2 c3 c4 c5,cs = #[c0,c1,c2,c3,c4,c5]:=by
  obtain ⟨l⟩:=cs
  match l,hsz with
  | [a,b,c,d,e,f],_ => exact ⟨a,b,c,d,e,f,rfl⟩
 obtain ⟨fuel,hf⟩:=h
 obtain ⟨y0,y1,y2,y3,n,-,-,h0,h1,h2,h3⟩:=trod_struct4 Tryz.underlying27 hf
 have h0' : DataW.trod enc Tryz.prog W base sp held n 25 [c0,c1,c2] = some y0:=by simpa [Value.cells,cells_gridV] using h0
 have h1' : DataW.trod enc Tryz.prog W base sp held n 3 [c3] = some y1:=by simpa [Value.cells,cells_intS] using h1
 have h2' : DataW.trod enc Tryz.prog W base sp held n 3 [c4] = some y2:=by simpa [Value.cells,cells_intS] using h2
 have h3' : DataW.trod enc Tryz.prog W base sp held n 4 [c5] = some y3:=by simpa [Value.cells,cells_boolV] using h3
 obtain ⟨x3,e3,-,-⟩:=DataW.trod_int Tryz.underlying3 h1'
 obtain ⟨x4,e4,-,-⟩:=DataW.trod_int Tryz.underlying3 h2'
 obtain ⟨x5,e5,-⟩:=DataW.trod_bool Tryz.underlying4 h3'
 obtain ⟨z0,z1,z2,m,-,-,g0,g1,g2⟩:=trod_struct3 Tryz.underlying25 h0'
 have g0' : DataW.trod enc Tryz.prog W base sp held m 3 [c0] = some z0:=by simpa [cells_intS] using g0
 have g1' : DataW.trod enc Tryz.prog W base sp held m 3 [c1] = some z1:=by simpa [cells_intS] using g1
 have g2' : DataW.trod enc Tryz.prog W base sp held m 23 [c2] = some z2:=by simpa [cells_celsV] using g2
 obtain ⟨x0,e0,-,-⟩:=DataW.trod_int Tryz.underlying3 g0'
 obtain ⟨x1,e1,-,-⟩:=DataW.trod_int Tryz.underlying3 g1'
 obtain ⟨A,n2,c,cl,rfl,hr,hn,hc⟩:=rg_of_trod g2'
 cases e0;cases e1;cases e3;cases e4;cases e5
 exact ⟨x0,x1,A,n2,c,cl,x3,x4,x5,rfl,hr,hn,hc⟩
theorem RS.nil_ (w : World) (A : Option Addr) : RS w A 0 []:=⟨rfl,fun h => by omega⟩
end Go.Proofs.YteebdjmjeahccaaGreatDoor
