/- Parts of the proof, one after the other. -/
import Derived.Test.YtkflooljdopldaaGreatU08
import Derived.Test.YtkflooljdopldaaGreatU01
set_option linter.unusedSimpArgs false
set_option linter.unusedVariables false
/- Grids: the reference's Fill, Scroll and Shift at whatever arguments. -/
namespace Go.Proofs.YtkflooljdopldaaGreat
open Go.RowKit

theorem gridB_out {R C : Int} {cs : List C4} (h : gridB R C cs = true) : ∃ Rn Cn : Nat, R = Rn ∧ C = Cn ∧ 1 ≤ Rn ∧ Rn ≤ 30 ∧ 1 ≤ Cn ∧ Cn ≤ 100 ∧ cs.length = Rn * Cn ∧ cs.all cellB = true := by
 unfold gridB at h
 rw [Bool.and_eq_true] at h
 obtain ⟨h1, h2⟩ := h
 have h3 := of_decide_eq_true h1
 obtain ⟨a, b, c, d, e⟩ := h3
 refine ⟨R.toNat, C.toNat, by omega, by omega, by omega, by omega, by omega, by omega, ?_, h2⟩
 have : ((R.toNat * C.toNat : Nat) : Int) = R * C := by rw [Int.natCast_mul, Int.toNat_of_nonneg (by omega), Int.toNat_of_nonneg (by omega)]
 omega
def fillG (R C : Int) (cs : List C4) (row fr tt : Int) (d : C4) : List C4 := if gridB R C cs = true ∧ cellB d = true then tab R.toNat C.toNat (fillF R.toNat C.toNat cs row fr tt d) else cs
def scrollG (R C : Int) (cs : List C4) (tp bt num : Int) (d : C4) : List C4 := if gridB R C cs = true ∧ cellB d = true ∧ (0 ≤ tp ∧ tp ≤ bt ∧ bt < R) then tab R.toNat C.toNat (scrollF R.toNat C.toNat cs tp bt (clampS R.toNat num) d) else cs
end Go.Proofs.YtkflooljdopldaaGreat

/- Walks of cursor.Valid, cursor.right, cursor.tab, cursor.Move and of their references: each returns what the plain function mv says. -/
namespace Go.Proofs.YtkflooljdopldaaGreat
open Go.RowKit

def vldB (r c rows cols : Int) : Bool := decide (0 ≤ r ∧ r < rows ∧ 0 ≤ c ∧ c < cols)
def rgtB (t b rows : Int) : Bool := decide (0 ≤ t ∧ t ≤ b ∧ b < rows)

theorem cvalid_any (r c rows cols : Int) (b : Bool) (w : World) :
  Calls Tryz.prog 32 #[.agg #[.int .i64 r, .int .i64 c, .bool b], .int .i64 rows, .int .i64 cols] w fun e w' => e = .returned (.bool (vldB r c rows cols)) ∧ w.alloc (.cells #[.int .i64 r, .int .i64 c, .bool b] 28) = w' := by
 go_enter Tryz.func32, Tryz.ntmps32
 go_wp2
 all_goals go_ret
 all_goals refine ⟨ret_bool ?_, rfl⟩
 all_goals (rw [Bool.eq_iff_iff]; simp [vldB]; omega)

theorem cright_any (t b rows : Int) (w : World) :
  Calls Tryz.prog 115 #[.agg #[.int .i64 t, .int .i64 b], .int .i64 rows] w fun e w' => e = .returned (.bool (rgtB t b rows)) ∧ w.alloc (.cells #[.int .i64 t, .int .i64 b] 32) = w' := by
 go_enter Tryz.func115, Tryz.ntmps115
 go_wp2
 all_goals go_ret
 all_goals refine ⟨ret_bool ?_, rfl⟩
 all_goals (rw [Bool.eq_iff_iff]; simp [rgtB]; omega)

def tabN (c k cols : Int) : Int := if (cols - 1) / 8 - c / 8 < k then cols - 1 else (c / 8 + k) * 8
def mv (r c : Int) (b : Bool) (kind n t m rows cols : Int) : Int × Int × Bool :=
 if vldB r c rows cols && rgtB t m rows then
  if kind = 1 then (r - min (max n 1) (r - (if t ≤ r then t else 0)), c, false)
  else if kind = 2 then (r + min (max n 1) ((if r ≤ m then m else rows - 1) - r), c, false)
  else if kind = 3 then (r, c + min (max n 1) (cols - 1 - c), false)
  else if kind = 4 then (r, c - min (max n 1) c, false)
  else if kind = 5 then (r, 0, false)
  else if kind = 6 then (r, min (max n 0) (cols - 1), false)
  else if kind = 7 then (min (max n 0) (rows - 1), c, false)
  else if kind = 8 then (r, tabN c (max n 1) cols, false)
  else (r, c, b)
 else (r, c, b)
def curV (x : Int × Int × Bool) : Value := .agg #[.int .i64 x.1, .int .i64 x.2.1, .bool x.2.2]

theorem curV_ext {a c : Int} {b : Bool} {x : Int × Int × Bool} (h1 : a = x.1) (h2 : c = x.2.1) (h3 : b = x.2.2) : Ending.returned (.agg #[.int .i64 a, .int .i64 c, .bool b]) = .returned (curV x) := by
 subst h1; subst h2; subst h3; rfl

theorem ctab_any (c k cols : Int) (w : World) (h0 : 0 ≤ c) (h1 : c < cols) (h2 : cols ≤ 1000000) (h3 : 1 ≤ k) (h4 : k ≤ 9223372036854775807):
  Calls Tryz.prog 116 #[.int .i64 c, .int .i64 k, .int .i64 cols] w fun e w' => e = .returned (.int .i64 (tabN c k cols)) ∧ w = w' := by
 go_enter Tryz.func116, Tryz.ntmps116
 go_wp2
 all_goals go_ret
 all_goals refine ⟨ret_int ?_, rfl⟩
 all_goals (unfold tabN; split <;> first | rfl | omega)

theorem mv_other {r c : Int} {b : Bool} {kind n t m rows cols : Int} (h : kind < 1 ∨ 8 < kind) : mv r c b kind n t m rows cols = (r, c, b) := by
 unfold mv
 simp only [show kind ≠ 1 from by omega, show kind ≠ 2 from by omega, show kind ≠ 3 from by omega, show kind ≠ 4 from by omega, show kind ≠ 5 from by omega, show kind ≠ 6 from by omega, show kind ≠ 7 from by omega, show kind ≠ 8 from by omega, if_false, ite_self]
end Go.Proofs.YtkflooljdopldaaGreat

/- Walks of the reference's Valid and Right. -/
namespace Go.Proofs.YtkflooljdopldaaGreat
open Go.RowKit

theorem rcvalid_any (r c rows cols : Int) (b : Bool) (w : World) :
  Calls Tryz.prog 73 #[.agg #[.int .i64 r, .int .i64 c, .bool b], .int .i64 rows, .int .i64 cols] w fun e w' => e = .returned (.bool (vldB r c rows cols)) ∧ w.alloc (.cells #[.int .i64 r, .int .i64 c, .bool b] 28) = w' := by
 go_enter Tryz.func73, Tryz.ntmps73
 go_wp2
 all_goals go_ret
 all_goals refine ⟨ret_bool ?_, rfl⟩
 all_goals (rw [Bool.eq_iff_iff]; simp [vldB]; omega)

theorem rright_any (t b rows : Int) (w : World) :
  Calls Tryz.prog 74 #[.agg #[.int .i64 t, .int .i64 b], .int .i64 rows] w fun e w' => e = .returned (.bool (rgtB t b rows)) ∧ w.alloc (.cells #[.int .i64 t, .int .i64 b] 32) = w' := by
 go_enter Tryz.func74, Tryz.ntmps74
 go_wp2
 all_goals go_ret
 all_goals refine ⟨ret_bool ?_, rfl⟩
 all_goals (rw [Bool.eq_iff_iff]; simp [rgtB]; omega)

end Go.Proofs.YtkflooljdopldaaGreat
