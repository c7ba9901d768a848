/- Walks of runes.size and runes.second: each returns the plain function of the same name. -/
import Derived.Test.YtagihjchhpiipaaMill
set_option linter.unusedSimpArgs false
set_option linter.unusedVariables false
namespace Go.Proofs.Ytagihjchhpiipaa
open Go.RowKit

/-- How many bytes an encoding has that begins with byte b. -/
def rsize (b : Int) : Int := if b < 128 then 1 else if 194 ≤ b ∧ b ≤ 223 then 2 else if 224 ≤ b ∧ b ≤ 239 then 3 else if 240 ≤ b ∧ b ≤ 244 then 4 else 0
def rlow (b : Int) : Int := if b = 224 then 160 else if b = 240 then 144 else 128
def rhigh (b : Int) : Int := if b = 237 then 159 else if b = 244 then 143 else 191

theorem ret_int2 {k l : IntKind} {a b c d : Int} (h : a = b) (h2 : c = d) : Ending.returned (.tuple #[.int k a, .int l c]) = .returned (.tuple #[.int k b, .int l d]) := by rw [h, h2]

theorem rsize_any (b : Int) (w : World) :
    Calls Try.prog 32 #[.int .u8 b] w fun e w' => e = .returned (.int .i64 (rsize b)) ∧ w = w' := by
  go_enter Try.func32, Try.ntmps32
  go_wp2
  all_goals go_ret
  all_goals refine ⟨ret_int ?_, rfl⟩
  all_goals (unfold rsize; repeat' split) <;> first | rfl | omega

theorem rsecond_any (b : Int) (w : World) :
    Calls Try.prog 34 #[.int .u8 b] w fun e w' => e = .returned (.tuple #[.int .u8 (rlow b), .int .u8 (rhigh b)]) ∧ w = w' := by
  go_enter Try.func34, Try.ntmps34
  go_wp2
  all_goals go_ret2
  all_goals refine ⟨ret_int2 ?_ ?_, rfl⟩
  all_goals (simp only [beq_iff_eq, beq_eq_false_iff_ne, ne_eq] at *)
  all_goals (first | unfold rlow | unfold rhigh) <;> repeat' split
  all_goals first | rfl | omega
end Go.Proofs.Ytagihjchhpiipaa
