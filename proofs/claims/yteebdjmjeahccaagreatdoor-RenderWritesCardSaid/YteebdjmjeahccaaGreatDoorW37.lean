/- Parts of the proof, one after the other. -/
import Derived.Test.YteebdjmjeahccaaGreatDoorW36
import Derived.Test.YteebdjmjeahccaaGreatDoorW33
import Derived.Test.YteebdjmjeahccaaGreatDoorW34
import Derived.Deep.RegionHeld3
set_option linter.unusedSimpArgs false
set_option linter.unusedVariables false
namespace Go.Proofs.YteebdjmjeahccaaGreatDoor
open Go.RowKit
abbrev St:=ByteArray × Int × Int × Int
def Se (w : World) (g o : Nat) (s : St) : Prop :=
 w.cell? ⟨g,o,none⟩ = some (.string s.1) ∧ w.cell? ⟨g,o + 1,none⟩ = some (.int .i64 s.2.1) ∧ w.cell? ⟨g,o + 2,none⟩ = some (.int .i64 s.2.2.1) ∧ w.cell? ⟨g,o + 3,none⟩ = some (.int .i64 s.2.2.2)
theorem Se.up {w w' : World} {g o : Nat} {s : St} (h : Se w g o s) (hb : Bw w w') : Se w' g o s:=⟨cell_bw hb h.1,cell_bw hb h.2.1,cell_bw hb h.2.2.1,cell_bw hb h.2.2.2⟩
/-- What a list of statuses reads as. -/
def RS (w : World) (A : Option Addr) (n : Nat) (sts : List St) : Prop :=
 sts.length = n ∧ (0 < n → ∃ g o,A = some ⟨g,o,none⟩ ∧ ∀ i (h : i < sts.length),Se w g (o + i * 4) sts[i])
theorem RS.up {w w' : World} {A : Option Addr} {n : Nat} {sts : List St} (h : RS w A n sts) (hb : Bw w w') : RS w' A n sts:=by
 refine ⟨h.1,fun h0 => ?_⟩
 obtain ⟨g,o,e,hx⟩:=h.2 h0
 exact ⟨g,o,e,fun i hi => (hx i hi).up hb⟩
/-- A view's cells. -/
def vwV (R C : Int) (A : Option Addr) (n c : Nat) (row col : Int) (hid : Bool) : Array Value:=#[.int .i64 R,.int .i64 C,.slice A n c,.int .i64 row,.int .i64 col,.bool hid]
theorem infoVw : (Tryz.prog.info? 27).map (·.size) = some 6:=by kernel_rfl
theorem vwV_one (R C : Int) (A : Option Addr) (n c : Nat) (row col : Int) (hid : Bool) : (vwV R C A n c row col hid).all (·.oneCell') = true:=all_oneCell_toArray (fun v hv => by
 simp only [List.mem_cons,List.not_mem_nil,or_false] at hv
 rcases hv with rfl|rfl|rfl|rfl|rfl|rfl <;> rfl)
theorem wpList_store_vw {ops : Array Oper} {rest : List Oper} {o : Oper} {a : Act} {w : World} {Q : Exit → Act → World → Prop} (R C : Int) (A : Option Addr) (n c : Nat) (row col : Int) (hid : Bool) (g : Nat) (x y : Operand) (ho : o.op = .store 27 x y) (hgd : o.guard = none)
  (hx : a.eval x = .pointer (some ⟨g,0,none⟩)) (hy : a.eval y = .agg (vwV R C A n c row col hid)) (hg : ∃ old,Sb w g old 27 ∧ old.size = 6)
  (h : ∀ w',Sb w' g (vwV R C A n c row col hid) 27 → w.grownBy w' (some g) → wpList Tryz.prog ops Q rest (a.put o.dst undef) w') : wpList Tryz.prog ops Q (o :: rest) a w :=
 wpList_store_cs 27 (vwV R C A n c row col hid) g x y infoVw (vwV_one R C A n c row col hid) ho hgd hx hy hg h
theorem results_vw {fn : Func} {p : Tmp} (h : fn.results = #[.cell p 27]) (tmps : Array Value) (w : World) (g : Nat) (R C : Int) (A : Option Addr) (n c : Nat) (row col : Int) (hid : Bool) (hp : tmps.getD p undef = .pointer (some ⟨g,0,none⟩)) (hg : Sb w g (vwV R C A n c row col hid) 27) :
  (results fn tmps).run Tryz.prog w = .ok (.agg #[.int .i64 R,.int .i64 C,.slice A n c,.int .i64 row,.int .i64 col,.bool hid]) w:=results_cell_row h tmps w g 27 (vwV R C A n c row col hid) (0,0) _ hp hg Tryz.underlying27 rfl infoVw
end Go.Proofs.YteebdjmjeahccaaGreatDoor
