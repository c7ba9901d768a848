/- Parts of the proof, one after the other. -/
import Derived.Test.YtccfpehcadpkiaaM34
import Derived.Deep.RegionHeld3
import Derived.Test.YtccfpehcadpkiaaM03
import Derived.OpenShut
import Derived.WideShapes
import Derived.Lib.SmallJoins
import Derived.Deep.Strs
set_option linter.unusedSimpArgs false
set_option linter.unusedVariables false
/- What the laws of chapter 16 share. -/
namespace Go.Proofs.Ytccfpehcadpkiaa
open Go.RowKit

/-- A grid of few cells at place j of block G. -/
def GAt (w : World) (G j : Nat) : Prop := ∃ (R C : Int) (A : Option Addr) (n c : Nat) (cs : List C4), w.cell? ⟨G, j * 3, none⟩ = some (.int .i64 R) ∧ w.cell? ⟨G, j * 3 + 1, none⟩ = some (.int .i64 C) ∧ w.cell? ⟨G, j * 3 + 2, none⟩ = some (.slice A n c) ∧ Rg w A n cs ∧ n ≤ 50 ∧ n ≤ c ∧ c ≤ 9223372036854775807
theorem GAt.up {w w' : World} {G j : Nat} (h : GAt w G j) (hb : Bw w w') : GAt w' G j := by
  obtain ⟨R, C, A, n, c, cs, h1, h2, h3, h4, h5⟩ := h
  exact ⟨R, C, A, n, c, cs, cell_up h1 hb, cell_up h2 hb, cell_up h3 hb, h4.up hb, h5⟩
end Go.Proofs.Ytccfpehcadpkiaa

/- Arguments of structs: what the row's shell tells of a cell. -/
namespace Go.Proofs.Ytccfpehcadpkiaa
open Go.RowKit Go.ChangeShapes Go.WideShapes Go.ChangeAt Go.Joins Go.Deep

theorem cells_int : Try.prog.cellsOf 3 = 1 := by kernel_rfl
theorem cells_attr : Try.prog.cellsOf 27 = 3 := by kernel_rfl
theorem cells_cell : Try.prog.cellsOf 39 = 4 := by kernel_rfl
theorem trod_cell {H : Type} {enc : TypeId × Value → H} {W : World} {base : Nat} {sp : Nat → Bool} {held : Bool} {fuel : Nat} {c0 c1 c2 c3 : Value} {x : DataW H × List MemPlace}
    (hf : DataW.trod enc Try.prog W base sp held fuel 39 [c0, c1, c2, c3] = some x) : ∃ x1 x2 x3 x4 : Int, c0 = .int .i64 x1 ∧ c1 = .int .i64 x2 ∧ c2 = .int .i64 x3 ∧ c3 = .int .i64 x4 := by
  obtain ⟨y0, y1, n, hx, _, h0, h1⟩ := trod_struct2 Try.underlying39 hf
  have h0' : DataW.trod enc Try.prog W base sp held n 3 [c0] = some y0 := by simpa [cells_int] using h0
  have h1' : DataW.trod enc Try.prog W base sp held n 27 [c1, c2, c3] = some y1 := by simpa [cells_attr] using h1
  obtain ⟨z0, z1, z2, m, hz, _, k0, k1, k2⟩ := trod_struct3 Try.underlying27 h1'
  have k0' : DataW.trod enc Try.prog W base sp held m 3 [c1] = some z0 := by simpa [cells_int] using k0
  have k1' : DataW.trod enc Try.prog W base sp held m 3 [c2] = some z1 := by simpa [cells_int] using k1
  have k2' : DataW.trod enc Try.prog W base sp held m 3 [c3] = some z2 := by simpa [cells_int] using k2
  obtain ⟨x1, e1, -, -⟩ := DataW.trod_int Try.underlying3 h0'
  obtain ⟨x2, e2, -, -⟩ := DataW.trod_int Try.underlying3 k0'
  obtain ⟨x3, e3, -, -⟩ := DataW.trod_int Try.underlying3 k1'
  obtain ⟨x4, e4, -, -⟩ := DataW.trod_int Try.underlying3 k2'
  cases e1; cases e2; cases e3; cases e4
  exact ⟨x1, x2, x3, x4, rfl, rfl, rfl, rfl⟩
set_option maxRecDepth 100000 in
theorem open_cell {H : Type} {enc : TypeId × Value → H} {W : World} {base : Nat} {sp : Nat → Bool} {held : Bool} {r : Reach} {b0 : Nat} {v : Value} {d : DataW H} {p : List MemPlace}
    (hv : Value.okWide Try.prog W r b0 39 v) (h : DataW.Trod enc Try.prog W base sp held 39 v d p) : ∃ x1 x2 x3 x4 : Int, v = .agg #[.int .i64 x1, .int .i64 x2, .int .i64 x3, .int .i64 x4] := by
  obtain ⟨cs, rfl, hsz⟩ := okWide_struct Try.underlying39 hv
  rw [cells_cell] at hsz
  obtain ⟨c0, c1, c2, c3, rfl⟩ := array4 hsz
  obtain ⟨fuel, hf⟩ := h
  obtain ⟨x1, x2, x3, x4, rfl, rfl, rfl, rfl⟩ := trod_cell (c0 := c0) (c1 := c1) (c2 := c2) (c3 := c3) (by simpa [Value.cells] using hf)
  exact ⟨x1, x2, x3, x4, rfl⟩
end Go.Proofs.Ytccfpehcadpkiaa
