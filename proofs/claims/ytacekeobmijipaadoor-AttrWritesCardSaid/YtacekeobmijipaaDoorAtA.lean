/- Attributes: Valid, in, made; the plain function of one parameter; walks of single, and of the reference's one. -/
import Derived.Test.YtacekeobmijipaaDoorSl2
import Derived.Test.YtacekeobmijipaaDoorMill
set_option linter.unusedSimpArgs false
set_option linter.unusedVariables false
namespace Go.Proofs.YtacekeobmijipaaDoor
open Go.RowKit

def atV (f g b : Int) : Value := .agg #[.int .i64 f, .int .i64 g, .int .i64 b]
def avB (f g b : Int) : Bool := decide (0 ≤ f ∧ f ≤ 7 ∧ 0 ≤ g ∧ g ≤ 16 ∧ 0 ≤ b ∧ b ≤ 16)

theorem avalid_yes (f g b : Int) (w : World) (h : avB f g b = true) :
    Calls Tryd.prog 14 #[atV f g b] w fun e w' => e = .returned (.bool true) ∧ w.alloc (.cells #[.int .i64 f, .int .i64 g, .int .i64 b] 23) = w' := by
  have hc : 0 ≤ f ∧ f ≤ 7 ∧ 0 ≤ g ∧ g ≤ 16 ∧ 0 ≤ b ∧ b ≤ 16 := of_decide_eq_true h
  obtain ⟨c1, c2, c3, c4, c5, c6⟩ := hc
  clear h
  unfold atV
  go_enter Tryd.func14, Tryd.ntmps14
  go_wp2
  go_ret
  exact ⟨rfl, rfl⟩

theorem avalid_no (f g b : Int) (w : World) (h : avB f g b = false) :
    Calls Tryd.prog 14 #[atV f g b] w fun e w' => e = .returned (.bool false) ∧ w.alloc (.cells #[.int .i64 f, .int .i64 g, .int .i64 b] 23) = w' := by
  have hc : ¬ (0 ≤ f ∧ f ≤ 7 ∧ 0 ≤ g ∧ g ≤ 16 ∧ 0 ≤ b ∧ b ≤ 16) := of_decide_eq_false h
  have hc2 : f < 0 ∨ (0 ≤ f ∧ 7 < f) ∨ (0 ≤ f ∧ f ≤ 7 ∧ g < 0) ∨ (0 ≤ f ∧ f ≤ 7 ∧ 0 ≤ g ∧ 16 < g) ∨ (0 ≤ f ∧ f ≤ 7 ∧ 0 ≤ g ∧ g ≤ 16 ∧ b < 0) ∨ (0 ≤ f ∧ f ≤ 7 ∧ 0 ≤ g ∧ g ≤ 16 ∧ 0 ≤ b ∧ 16 < b) := by omega
  clear h hc
  unfold atV
  rcases hc2 with h1 | ⟨h1, h2⟩ | ⟨h1, h2, h3⟩ | ⟨h1, h2, h3, h4⟩ | ⟨h1, h2, h3, h4, h5⟩ | ⟨h1, h2, h3, h4, h5, h6⟩
  all_goals
    go_enter Tryd.func14, Tryd.ntmps14
    go_wp2
    go_ret
    exact ⟨by first | rfl | (refine ret_bool ?_; simp; omega), rfl⟩
theorem avalid_any (f g b : Int) (w : World) :
    Calls Tryd.prog 14 #[atV f g b] w fun e w' => e = .returned (.bool (avB f g b)) ∧ w.alloc (.cells #[.int .i64 f, .int .i64 g, .int .i64 b] 23) = w' := by
  cases h : avB f g b
  · exact avalid_no f g b w h
  · exact avalid_yes f g b w h

/-- One parameter's effect. -/
def single (f g b p : Int) : Int × Int × Int :=
  if p = 0 then (0, 0, 0) else if p = 1 then (bits .or .i64 f 1, g, b) else if p = 4 then (bits .or .i64 f 2, g, b) else if p = 7 then (bits .or .i64 f 4, g, b)
  else if p = 22 then (bits .andNot .i64 f 1, g, b) else if p = 24 then (bits .andNot .i64 f 2, g, b) else if p = 27 then (bits .andNot .i64 f 4, g, b)
  else if 30 ≤ p ∧ p ≤ 37 then (f, p - 29, b) else if 90 ≤ p ∧ p ≤ 97 then (f, p - 81, b) else if p = 39 then (f, 0, b)
  else if 40 ≤ p ∧ p ≤ 47 then (f, g, p - 39) else if 100 ≤ p ∧ p ≤ 107 then (f, g, p - 91) else if p = 49 then (f, g, 0) else (f, g, b)
def at3 (x : Int × Int × Int) : Value := atV x.1 x.2.1 x.2.2
def AtP (w : World) (x : Int × Int × Int) (e : Ending) (w' : World) : Prop := e = .returned (at3 x) ∧ Bw w w'

theorem at_ret {a b : Int × Int × Int} (h : a = b) : Ending.returned (at3 a) = .returned (at3 b) := by rw [h]
theorem p_cases (p : Int) : p = 0 ∨ p = 1 ∨ p = 4 ∨ p = 7 ∨ p = 22 ∨ p = 24 ∨ p = 27 ∨ (30 ≤ p ∧ p ≤ 37) ∨ (90 ≤ p ∧ p ≤ 97) ∨ p = 39 ∨ (40 ≤ p ∧ p ≤ 47) ∨ (100 ≤ p ∧ p ≤ 107) ∨ p = 49 ∨
    p < 0 ∨ (2 ≤ p ∧ p ≤ 3) ∨ (5 ≤ p ∧ p ≤ 6) ∨ (8 ≤ p ∧ p ≤ 21) ∨ p = 23 ∨ (25 ≤ p ∧ p ≤ 26) ∨ (28 ≤ p ∧ p ≤ 29) ∨ p = 38 ∨ p = 48 ∨ (50 ≤ p ∧ p ≤ 89) ∨ (98 ≤ p ∧ p ≤ 99) ∨ 108 ≤ p := by omega

end Go.Proofs.YtacekeobmijipaaDoor
