/- Parts of the proof, one after the other. -/
import Derived.Test.YteebdjmjeahccaaGreatDoorC08
import Derived.Test.YteebdjmjeahccaaGreatDoorC01
set_option linter.unusedSimpArgs false
set_option linter.unusedVariables false
namespace Go.Proofs.YteebdjmjeahccaaGreatDoor
open Go.RowKit
def vldB (r c rows cols : Int) : Bool:=decide (0 ≤ r ∧ r < rows ∧ 0 ≤ c ∧ c < cols)
def rgtB (t b rows : Int) : Bool:=decide (0 ≤ t ∧ t ≤ b ∧ b < rows)
def tabN (c k cols : Int) : Int:=if (cols - 1) / 8 - c / 8 < k then cols - 1 else (c / 8 + k) * 8
def mv (r c : Int) (b : Bool) (kind n t m rows cols : Int) : Int × Int × Bool :=
 if vldB r c rows cols && rgtB t m rows then
  if kind = 1 then (r - min (max n 1) (r - (if t ≤ r then t else 0)),c,false)
  else if kind = 2 then (r + min (max n 1) ((if r ≤ m then m else rows - 1) - r),c,false)
  else if kind = 3 then (r,c + min (max n 1) (cols - 1 - c),false)
  else if kind = 4 then (r,c - min (max n 1) c,false)
  else if kind = 5 then (r,0,false)
  else if kind = 6 then (r,min (max n 0) (cols - 1),false)
  else if kind = 7 then (min (max n 0) (rows - 1),c,false)
  else if kind = 8 then (r,tabN c (max n 1) cols,false)
  else (r,c,b)
 else (r,c,b)
def curV (x : Int × Int × Bool) : Value:=.agg #[.int .i64 x.1,.int .i64 x.2.1,.bool x.2.2]
theorem curV_ext {a c : Int} {b : Bool} {x : Int × Int × Bool} (h1 : a = x.1) (h2 : c = x.2.1) (h3 : b = x.2.2) : Ending.returned (.agg #[.int .i64 a,.int .i64 c,.bool b]) = .returned (curV x):=by
 subst h1;subst h2;subst h3;rfl
theorem mv_other {r c : Int} {b : Bool} {kind n t m rows cols : Int} (h : kind < 1 ∨ 8 < kind) : mv r c b kind n t m rows cols = (r,c,b):=by
 unfold mv
 simp only [show kind ≠ 1 from by omega,show kind ≠ 2 from by omega,show kind ≠ 3 from by omega,show kind ≠ 4 from by omega,show kind ≠ 5 from by omega,show kind ≠ 6 from by omega,show kind ≠ 7 from by omega,show kind ≠ 8 from by omega,if_false,ite_self]
theorem rcvalid_any (r c rows cols : Int) (b : Bool) (w : World) :
  Calls Tryz.prog 95 #[.agg #[.int .i64 r,.int .i64 c,.bool b],.int .i64 rows,.int .i64 cols] w fun e w' => e = .returned (.bool (vldB r c rows cols)) ∧ w.alloc (.cells #[.int .i64 r,.int .i64 c,.bool b] 40) = w':=by
 go_enter Tryz.func95,Tryz.ntmps95
 go_wp2
 all_goals go_ret
 all_goals refine ⟨ret_bool ?_,rfl⟩
 all_goals (rw [Bool.eq_iff_iff];simp [vldB];omega)
theorem rright_any (t b rows : Int) (w : World) :
  Calls Tryz.prog 96 #[.agg #[.int .i64 t,.int .i64 b],.int .i64 rows] w fun e w' => e = .returned (.bool (rgtB t b rows)) ∧ w.alloc (.cells #[.int .i64 t,.int .i64 b] 44) = w':=by
 go_enter Tryz.func96,Tryz.ntmps96
 go_wp2
 all_goals go_ret
 all_goals refine ⟨ret_bool ?_,rfl⟩
 all_goals (rw [Bool.eq_iff_iff];simp [rgtB];omega)
end Go.Proofs.YteebdjmjeahccaaGreatDoor
