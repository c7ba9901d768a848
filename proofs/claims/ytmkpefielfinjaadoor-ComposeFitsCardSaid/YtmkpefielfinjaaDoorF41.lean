/- Parts of the proof, one after the other. -/
import Derived.Test.YtmkpefielfinjaaDoorF05
import Derived.Test.YtmkpefielfinjaaDoorF06
import Derived.Test.YtmkpefielfinjaaDoorF25
import Derived.Test.YtmkpefielfinjaaDoorF07
import Derived.Lib.SliceRun
import Derived.Test.YtmkpefielfinjaaDoorF09
import Derived.Test.YtmkpefielfinjaaDoorF21
set_option linter.unusedSimpArgs false
set_option linter.unusedVariables false
/- Compose: which views are valid, on both sides. -/
namespace Go.Proofs.YtmkpefielfinjaaDoor
open Go.RowKit

def viewB (R C : Int) (cs : List C4) (row col : Int) : Bool := gridB R C cs && decide (0 ≤ row ∧ row < R ∧ 0 ≤ col ∧ col < C)

set_option maxRecDepth 100000 in
set_option maxHeartbeats 2000000 in
theorem rview_any (R C : Int) (A : Option Addr) (n c : Nat) (cs : List C4) (row col : Int) (hid : Bool) (w : World) (hr : Rg w A n cs) (hn : n ≤ c) (hc : c ≤ 9223372036854775807) :
    Calls Tryd.prog 20 #[.agg #[.int .i64 R, .int .i64 C, .slice A n c, .int .i64 row, .int .i64 col, .bool hid]] w fun e w' => e = .returned (.bool (viewB R C cs row col)) ∧ Bw w w' := by
  have HR := Lib.hid hr
  clear hr
  have hz : gridB R C cs = false ∨ (gridB R C cs = true ∧ row < 0) ∨ (gridB R C cs = true ∧ 0 ≤ row ∧ R ≤ row) ∨ (gridB R C cs = true ∧ (0 ≤ row ∧ row < R) ∧ col < 0) ∨ (gridB R C cs = true ∧ (0 ≤ row ∧ row < R) ∧ 0 ≤ col ∧ C ≤ col) ∨ (gridB R C cs = true ∧ (0 ≤ row ∧ row < R) ∧ 0 ≤ col ∧ col < C) := by
    cases gridB R C cs
    · exact .inl rfl
    · simp only [true_and, Bool.true_eq_false, false_or]
      omega
  rcases hz with h | ⟨h, h1⟩ | ⟨h, h1, h2⟩ | ⟨h, ⟨h1, h2⟩, h3⟩ | ⟨h, ⟨h1, h2⟩, h3, h4⟩ | ⟨h, ⟨h1, h2⟩, h3, h4⟩
  all_goals
    have HV := Lib.hid h
    first
      | (have HE := Lib.hid (show viewB R C cs row col = false by unfold viewB; rw [h, Bool.false_and]); clear h)
      | (have HE := Lib.hid (show viewB R C cs row col = false by unfold viewB; rw [h, Bool.true_and]; exact decide_eq_false (by omega)); clear h)
      | (have HE := Lib.hid (show viewB R C cs row col = true by unfold viewB; rw [h, Bool.true_and]; exact decide_eq_true (by omega)); clear h)
    go_enter Tryd.func20, Tryd.ntmps20
    go_wp2_with (first
      | (go_at_call 40; refine (rgvalid_any R C A n c cs _ (by exact HR.out.up (show Bw w _ from BWX)) hn hc).mono ?_; rintro ee wv ⟨rfl, hbv⟩; rw [HV.out]; have x0 := cell_bw hbv (cell_alloc_here (w := w) (cs := #[.int .i64 R, .int .i64 C, .slice A n c, .int .i64 row, .int .i64 col, .bool hid]) (T := 34) (fr := (0, 0)) (i := 0) rfl rfl); have x1 := cell_bw hbv (cell_alloc_here (w := w) (cs := #[.int .i64 R, .int .i64 C, .slice A n c, .int .i64 row, .int .i64 col, .bool hid]) (T := 34) (fr := (0, 0)) (i := 1) rfl rfl); have x3 := cell_bw hbv (cell_alloc_here (w := w) (cs := #[.int .i64 R, .int .i64 C, .slice A n c, .int .i64 row, .int .i64 col, .bool hid]) (T := 34) (fr := (0, 0)) (i := 3) rfl rfl); have x4 := cell_bw hbv (cell_alloc_here (w := w) (cs := #[.int .i64 R, .int .i64 C, .slice A n c, .int .i64 row, .int .i64 col, .bool hid]) (T := 34) (fr := (0, 0)) (i := 4) rfl rfl))
      | fail)
    go_ret
    exact ⟨by rw [HE.out]; first | rfl | (show Ending.returned (.bool (decide (col < C))) = _; rw [decide_eq_false (by omega)]) | (show Ending.returned (.bool (decide (col < C))) = _; rw [decide_eq_true (by omega)]), Bw.trans (show Bw w (w.alloc _) from BWX) hbv⟩

set_option maxRecDepth 100000 in
set_option maxHeartbeats 2000000 in
theorem gview_any (R C : Int) (A : Option Addr) (n c : Nat) (cs : List C4) (row col : Int) (hid : Bool) (w : World) (hr : Rg w A n cs) (hn : n ≤ c) (hc : c ≤ 9223372036854775807) :
    Calls Tryd.prog 35 #[.agg #[.int .i64 R, .int .i64 C, .slice A n c, .int .i64 row, .int .i64 col, .bool hid]] w fun e w' => e = .returned (.bool (viewB R C cs row col)) ∧ Bw w w' := by
  have HR := Lib.hid hr
  clear hr
  have hz : gridB R C cs = false ∨ (gridB R C cs = true ∧ row < 0) ∨ (gridB R C cs = true ∧ 0 ≤ row ∧ R ≤ row) ∨ (gridB R C cs = true ∧ (0 ≤ row ∧ row < R) ∧ col < 0) ∨ (gridB R C cs = true ∧ (0 ≤ row ∧ row < R) ∧ 0 ≤ col ∧ C ≤ col) ∨ (gridB R C cs = true ∧ (0 ≤ row ∧ row < R) ∧ 0 ≤ col ∧ col < C) := by
    cases gridB R C cs
    · exact .inl rfl
    · simp only [true_and, Bool.true_eq_false, false_or]
      omega
  rcases hz with h | ⟨h, h1⟩ | ⟨h, h1, h2⟩ | ⟨h, ⟨h1, h2⟩, h3⟩ | ⟨h, ⟨h1, h2⟩, h3, h4⟩ | ⟨h, ⟨h1, h2⟩, h3, h4⟩
  all_goals
    have HV := Lib.hid h
    first
      | (have HE := Lib.hid (show viewB R C cs row col = false by unfold viewB; rw [h, Bool.false_and]); clear h)
      | (have HE := Lib.hid (show viewB R C cs row col = false by unfold viewB; rw [h, Bool.true_and]; exact decide_eq_false (by omega)); clear h)
      | (have HE := Lib.hid (show viewB R C cs row col = true by unfold viewB; rw [h, Bool.true_and]; exact decide_eq_true (by omega)); clear h)
    go_enter Tryd.func35, Tryd.ntmps35
    go_wp2_with (first
      | (go_at_call 52; refine (ggvalid_any R C A n c cs _ (by exact HR.out.up (show Bw w _ from BWX)) hn hc).mono ?_; rintro ee wv ⟨rfl, hbv⟩; rw [HV.out]; have x0 := cell_bw hbv (cell_alloc_here (w := w) (cs := #[.int .i64 R, .int .i64 C, .slice A n c, .int .i64 row, .int .i64 col, .bool hid]) (T := 34) (fr := (0, 0)) (i := 0) rfl rfl); have x1 := cell_bw hbv (cell_alloc_here (w := w) (cs := #[.int .i64 R, .int .i64 C, .slice A n c, .int .i64 row, .int .i64 col, .bool hid]) (T := 34) (fr := (0, 0)) (i := 1) rfl rfl); have x3 := cell_bw hbv (cell_alloc_here (w := w) (cs := #[.int .i64 R, .int .i64 C, .slice A n c, .int .i64 row, .int .i64 col, .bool hid]) (T := 34) (fr := (0, 0)) (i := 3) rfl rfl); have x4 := cell_bw hbv (cell_alloc_here (w := w) (cs := #[.int .i64 R, .int .i64 C, .slice A n c, .int .i64 row, .int .i64 col, .bool hid]) (T := 34) (fr := (0, 0)) (i := 4) rfl rfl))
      | fail)
    go_ret
    exact ⟨by rw [HE.out]; first | rfl | (show Ending.returned (.bool (decide (col < C))) = _; rw [decide_eq_false (by omega)]) | (show Ending.returned (.bool (decide (col < C))) = _; rw [decide_eq_true (by omega)]), Bw.trans (show Bw w (w.alloc _) from BWX) hbv⟩
end Go.Proofs.YtmkpefielfinjaaDoor

/- The program's grids: cells cloned, rows. -/
namespace Go.Proofs.YtmkpefielfinjaaDoor
open Go.RowKit

end Go.Proofs.YtmkpefielfinjaaDoor

/- The program's grids: tables, the cells of a row filled in place. -/
namespace Go.Proofs.YtmkpefielfinjaaDoor
open Go.RowKit

end Go.Proofs.YtmkpefielfinjaaDoor
