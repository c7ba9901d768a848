/- Parts of the proof, one after the other. -/
import Derived.Test.YtmkpefielfinjaaDoorQ04
import Derived.Deep.DeepCutAuto
set_option linter.unusedSimpArgs false
set_option linter.unusedVariables false
/- attr.single: its cases (made by gen_atA.py). -/
namespace Go.Proofs.YtmkpefielfinjaaDoor
open Go.RowKit

end Go.Proofs.YtmkpefielfinjaaDoor

/- Attributes: made; extended; Apply of the program. -/
namespace Go.Proofs.YtmkpefielfinjaaDoor
open Go.RowKit

/-- What an extended color takes and says. -/
def ext (t : List Int) : Nat × Int :=
  match t with
  | [] => (0, 0)
  | x :: r => match r with
    | [] => if x = 2 then (1, 0) else (0, 0)
    | y :: r' => if x = 5 then (2, if 0 ≤ y ∧ y ≤ 15 then y + 1 else 0) else if x = 2 then (min (r'.length + 2) 4, 0) else (0, 0)

end Go.Proofs.YtmkpefielfinjaaDoor

/- Attributes: the walk of the program's Apply. -/
namespace Go.Proofs.YtmkpefielfinjaaDoor
open Go.RowKit

/-- The attribute in block g. -/
def AtC (w : World) (g : Nat) (a : Int × Int × Int) : Prop :=
  (w.cell? ⟨g, 0, none⟩ = some (.int .i64 a.1) ∧ w.cell? ⟨g, 1, none⟩ = some (.int .i64 a.2.1) ∧ w.cell? ⟨g, 2, none⟩ = some (.int .i64 a.2.2)) ∧ (w.frozen? ⟨g, 0, none⟩ = false ∧ w.frozen? ⟨g, 1, none⟩ = false ∧ w.frozen? ⟨g, 2, none⟩ = false)
theorem AtC.bw {w w' : World} {g : Nat} {a : Int × Int × Int} (h : AtC w g a) (hb : Bw w w') : AtC w' g a := by
  obtain ⟨⟨h1, h2, h3⟩, h4, h5, h6⟩ := h
  have hl := lt_of_cell h1
  dsimp only at hl
  exact ⟨⟨cell_bw hb h1, cell_bw hb h2, cell_bw hb h3⟩, (Below.frozen hb (p := ⟨g, 0, none⟩) hl).trans h4, (Below.frozen hb (p := ⟨g, 1, none⟩) hl).trans h5, (Below.frozen hb (p := ⟨g, 2, none⟩) hl).trans h6⟩

theorem frz_set (w : World) (p q : Addr) (v : Value) : (w.setCell p v).frozen? q = w.frozen? q := by simp
theorem cell_ne {w : World} {g i j : Nat} {u v : Value} (h : w.cell? ⟨g, j, none⟩ = some u) (hne : i ≠ j) : (w.setCell ⟨g, i, none⟩ v).cell? ⟨g, j, none⟩ = some u := by
  rw [World.cell?_setCell_other]
  · exact h
  · intro e; cases e; exact hne rfl
theorem AtC.set2 {w : World} {g : Nat} {a : Int × Int × Int} (h : AtC w g a) (x : Int) : AtC (w.setCell ⟨g, 2, none⟩ (.int .i64 x)) g (a.1, a.2.1, x) := by
  obtain ⟨⟨h1, h2, h3⟩, h4, h5, h6⟩ := h
  exact ⟨⟨cell_ne h1 (by omega), cell_ne h2 (by omega), World.cell?_setCell_same _ _ _ h3⟩, by rw [frz_set]; exact h4, by rw [frz_set]; exact h5, by rw [frz_set]; exact h6⟩
theorem AtC.away {w : World} {g h j : Nat} {a : Int × Int × Int} (hA : AtC w g a) (hne : g ≠ h) (v : Value) : AtC (w.setCell ⟨h, j, none⟩ v) g a := by
  obtain ⟨⟨h1, h2, h3⟩, h4, h5, h6⟩ := hA
  exact ⟨⟨cell_set_some hne h1, cell_set_some hne h2, cell_set_some hne h3⟩, by rw [frz_set]; exact h4, by rw [frz_set]; exact h5, by rw [frz_set]; exact h6⟩

end Go.Proofs.YtmkpefielfinjaaDoor
