/- Parts of the proof, one after the other. -/
import Derived.Test.YteebdjmjeahccaaGreatDoorC37
import Derived.Test.YteebdjmjeahccaaGreatDoorC39
import Derived.Test.YteebdjmjeahccaaGreatDoorC38
import Derived.Deep.RegionHeld3
import Derived.Test.YteebdjmjeahccaaGreatDoorC29
set_option linter.unusedSimpArgs false
set_option linter.unusedVariables false
set_option maxRecDepth 100000
set_option maxHeartbeats 16000000
namespace Go.Proofs.YteebdjmjeahccaaGreatDoor
open Go.RowKit
abbrev St:=ByteArray × Int × Int × Int
def Se (w : World) (g o : Nat) (s : St) : Prop :=
 w.cell? ⟨g,o,none⟩ = some (.string s.1) ∧ w.cell? ⟨g,o + 1,none⟩ = some (.int .i64 s.2.1) ∧ w.cell? ⟨g,o + 2,none⟩ = some (.int .i64 s.2.2.1) ∧ w.cell? ⟨g,o + 3,none⟩ = some (.int .i64 s.2.2.2)
theorem Se.up {w w' : World} {g o : Nat} {s : St} (h : Se w g o s) (hb : Bw w w') : Se w' g o s:=⟨cell_bw hb h.1,cell_bw hb h.2.1,cell_bw hb h.2.2.1,cell_bw hb h.2.2.2⟩
/-- What a list of statuses reads as. -/
def RS (w : World) (A : Option Addr) (n : Nat) (sts : List St) : Prop :=
 sts.length = n ∧ (0 < n → ∃ g o,A = some ⟨g,o,none⟩ ∧ ∀ i (h : i < sts.length),Se w g (o + i * 4) sts[i])
theorem RS.up {w w' : World} {A : Option Addr} {n : Nat} {sts : List St} (h : RS w A n sts) (hb : Bw w w') : RS w' A n sts:=by
 refine ⟨h.1,fun h0 => ?_⟩
 obtain ⟨g,o,e,hx⟩:=h.2 h0
 exact ⟨g,o,e,fun i hi => (hx i hi).up hb⟩
/-- A view's cells. -/
def vwV (R C : Int) (A : Option Addr) (n c : Nat) (row col : Int) (hid : Bool) : Array Value:=#[.int .i64 R,.int .i64 C,.slice A n c,.int .i64 row,.int .i64 col,.bool hid]
theorem infoVw : (Tryz.prog.info? 27).map (·.size) = some 6:=by kernel_rfl
theorem vwV_one (R C : Int) (A : Option Addr) (n c : Nat) (row col : Int) (hid : Bool) : (vwV R C A n c row col hid).all (·.oneCell') = true:=all_oneCell_toArray (fun v hv => by
 simp only [List.mem_cons,List.not_mem_nil,or_false] at hv
 rcases hv with rfl|rfl|rfl|rfl|rfl|rfl <;> rfl)
theorem wpList_store_vw {ops : Array Oper} {rest : List Oper} {o : Oper} {a : Act} {w : World} {Q : Exit → Act → World → Prop} (R C : Int) (A : Option Addr) (n c : Nat) (row col : Int) (hid : Bool) (g : Nat) (x y : Operand) (ho : o.op = .store 27 x y) (hgd : o.guard = none)
  (hx : a.eval x = .pointer (some ⟨g,0,none⟩)) (hy : a.eval y = .agg (vwV R C A n c row col hid)) (hg : ∃ old,Sb w g old 27 ∧ old.size = 6)
  (h : ∀ w',Sb w' g (vwV R C A n c row col hid) 27 → w.grownBy w' (some g) → wpList Tryz.prog ops Q rest (a.put o.dst undef) w') : wpList Tryz.prog ops Q (o :: rest) a w :=
 wpList_store_cs 27 (vwV R C A n c row col hid) g x y infoVw (vwV_one R C A n c row col hid) ho hgd hx hy hg h
theorem results_vw {fn : Func} {p : Tmp} (h : fn.results = #[.cell p 27]) (tmps : Array Value) (w : World) (g : Nat) (R C : Int) (A : Option Addr) (n c : Nat) (row col : Int) (hid : Bool) (hp : tmps.getD p undef = .pointer (some ⟨g,0,none⟩)) (hg : Sb w g (vwV R C A n c row col hid) 27) :
  (results fn tmps).run Tryz.prog w = .ok (.agg #[.int .i64 R,.int .i64 C,.slice A n c,.int .i64 row,.int .i64 col,.bool hid]) w:=results_cell_row h tmps w g 27 (vwV R C A n c row col hid) (0,0) _ hp hg Tryz.underlying27 rfl infoVw
theorem rpane_any (t : Trm) (w : World) : Calls Tryz.prog 23 #[.agg t.vals.toArray] w fun e w' => e = .returned (.agg #[.int .i64 (t.s.Rn : Int),.int .i64 (t.s.Cn : Int),.slice t.s.A t.s.n t.s.c,.int .i64 t.s.row,.int .i64 t.s.col,.bool t.s.hid]) ∧ Bw w w':=by
 go_enter Tryz.func23,Tryz.ntmps23
 go_upto_region 1 with (fail)
 generalize hw0 : (w.alloc (.cells t.vals.toArray 53)).alloc _ = w0
 obtain ⟨hb0,hb1,hbw0,hz0⟩:=sb2 hw0
 have HB0:=Lib.hid hb0
 have HB1:=Lib.hid (show ∃ old,Sb w0 (w.heap.size + 1) old 27 ∧ old.size = 6 from ⟨_,hb1,rfl⟩)
 clear hw0 hb0 hb1
 have x0:=HB0.out.cell 0 (v:=.int .i64 (t.s.Rn : Int)) rfl
 have x1:=HB0.out.cell 1 (v:=.int .i64 (t.s.Cn : Int)) rfl
 have x2:=HB0.out.cell 2 (v:=.slice t.s.A t.s.n t.s.c) rfl
 have x3:=HB0.out.cell 3 (v:=.int .i64 t.s.row) rfl
 have x4:=HB0.out.cell 4 (v:=.int .i64 t.s.col) rfl
 have x5:=HB0.out.cell 5 (v:=.bool t.s.wrap) rfl
 have x17:=HB0.out.cell 17 (v:=.bool t.s.hid) rfl
 have hlz:=HB0.out.lt
 go_wp2_with (first
  | ((with_reducible refine wpList_store_vw (t.s.Rn : Int) (t.s.Cn : Int) t.s.A t.s.n t.s.c t.s.row t.s.col t.s.hid (w.heap.size + 1) (.tmp 2) (.tmp 17) rfl rfl ?_ ?_ ?_ ?_);(focus rfl);(focus rfl);(focus (exact Exists.elim HB1.out (fun old h => ⟨old,h.1.up BWX,h.2⟩)));intro w5 hS5 hg5;have HS5:=Lib.hid hS5;have HG5:=Lib.hid hg5;clear hS5 hg5)
  | fail)
 refine bodyPost_ret (results_vw rfl _ _ (w.heap.size + 1) (t.s.Rn : Int) (t.s.Cn : Int) t.s.A t.s.n t.s.c t.s.row t.s.col t.s.hid (by rfl) HS5.out) rfl ?_
 exact ⟨rfl,Bw.grown (show Bw w _ from BWX) HG5.out (fun k hk => by cases hk;omega)⟩
end Go.Proofs.YteebdjmjeahccaaGreatDoor
