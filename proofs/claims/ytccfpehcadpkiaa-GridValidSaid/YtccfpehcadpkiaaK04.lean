/- Arguments of structs: what the row's shell tells of attributes and of a grid. -/
import Derived.Test.YtccfpehcadpkiaaM35
import Derived.Test.YtccfpehcadpkiaaM04
import Derived.Deep.Slices
set_option linter.unusedSimpArgs false
set_option linter.unusedVariables false
namespace Go.Proofs.Ytccfpehcadpkiaa
open Go.RowKit Go.ChangeShapes Go.WideShapes Go.ChangeAt Go.Joins Go.Deep
theorem cells_grid : Try.prog.cellsOf 25 = 3 := by kernel_rfl
set_option maxRecDepth 100000 in
theorem open_attr {H : Type} {enc : TypeId × Value → H} {W : World} {base : Nat} {sp : Nat → Bool} {held : Bool} {r : Reach} {b0 : Nat} {v : Value} {d : DataW H} {p : List MemPlace}
  (hv : Value.okWide Try.prog W r b0 27 v) (h : DataW.Trod enc Try.prog W base sp held 27 v d p) : ∃ x1 x2 x3 : Int, v = .agg #[.int .i64 x1, .int .i64 x2, .int .i64 x3] := by
 obtain ⟨v0, v1, v2, y0, y1, y2, n, rfl, -, -, k0, k1, k2⟩ := open_agg3 Try.underlying27 (by kernel_rfl) cells_attr hv h
 obtain ⟨x1, e1, -, -⟩ := DataW.trod_int Try.underlying3 k0
 obtain ⟨x2, e2, -, -⟩ := DataW.trod_int Try.underlying3 k1
 obtain ⟨x3, e3, -, -⟩ := DataW.trod_int Try.underlying3 k2
 cases e1; cases e2; cases e3
 exact ⟨x1, x2, x3, rfl⟩
/-- Four cells that are read as a cell. -/
theorem ce_of {H : Type} {enc : TypeId × Value → H} {W : World} {base : Nat} {sp : Nat → Bool} {held : Bool} {fuel g o : Nat} {cs' : List Value} {x : DataW H × List MemPlace}
  (hc : W.cells? base ⟨g, o, none⟩ 4 = some cs') (hf : DataW.trod enc Try.prog W base sp held fuel 39 cs' = some x) : ∃ c : C4, Ce W g o c := by
 obtain ⟨-, hl, hx⟩ := World.cells?_some hc
 obtain ⟨c0, c1, c2, c3, rfl⟩ : ∃ c0 c1 c2 c3, cs' = [c0, c1, c2, c3] := by
  match cs', hl with
  | [c0, c1, c2, c3], _ => exact ⟨c0, c1, c2, c3, rfl⟩
 obtain ⟨x1, x2, x3, x4, rfl, rfl, rfl, rfl⟩ := trod_cell hf
 have k := fun i hi => hx i hi
 have a0 := k 0 (by omega)
 have a1 := k 1 (by omega)
 have a2 := k 2 (by omega)
 have a3 := k 3 (by omega)
 exact ⟨(x1, x2, x3, x4), by simpa [Addr.add] using a0, by simpa [Addr.add] using a1, by simpa [Addr.add] using a2, by simpa [Addr.add] using a3⟩
set_option maxRecDepth 100000 in
theorem open_grid {H : Type} {enc : TypeId × Value → H} {W : World} {base : Nat} {sp : Nat → Bool} {held : Bool} {r : Reach} {b0 : Nat} {v : Value} {d : DataW H} {p : List MemPlace}
  (hv : Value.okWide Try.prog W r b0 25 v) (h : DataW.Trod enc Try.prog W base sp held 25 v d p) :
  ∃ (R C : Int) (A : Option Addr) (n c : Nat) (cs : List C4), v = .agg #[.int .i64 R, .int .i64 C, .slice A n c] ∧ Rg W A n cs ∧ n ≤ c ∧ c ≤ 9223372036854775807 := by
 obtain ⟨v0, v1, v2, y0, y1, y2, n, rfl, -, -, k0, k1, k2⟩ := open_agg3 Try.underlying25 (by kernel_rfl) cells_grid hv h
 obtain ⟨R, e1, -, -⟩ := DataW.trod_int Try.underlying3 k0
 obtain ⟨C, e2, -, -⟩ := DataW.trod_int Try.underlying3 k1
 cases e1; cases e2
 rcases open_slice Try.underlying23 k2 with ⟨e, -⟩ | ⟨a, len, cap, m, n', D, Pl, e, hb, hl, hm, hme, -, hel⟩
 ·cases e
  exact ⟨R, C, none, 0, 0, [], rfl, Rg.nil_ _ _, by omega, by omega⟩
 ·cases e
  have hmx : len ≤ m := by rw [hme]; split <;> omega
  obtain ⟨g, o, fi⟩ := a
  cases fi with
  | some f =>
   by_cases h0 : len = 0
   ·subst h0
    exact ⟨R, C, _, 0, cap, [], rfl, Rg.nil_ _ _, by omega, by unfold maxLen at hm; omega⟩
   ·exfalso
    obtain ⟨cs', hc, hf⟩ := hel 0 (by omega)
    rw [cells_cell] at hc
    obtain ⟨-, hl4, hx⟩ := World.cells?_some hc
    obtain ⟨c0, c1, c2, c3, rfl⟩ : ∃ c0 c1 c2 c3, cs' = [c0, c1, c2, c3] := by
     match cs', hl4 with
     | [c0, c1, c2, c3], _ => exact ⟨c0, c1, c2, c3, rfl⟩
    obtain ⟨x1, x2, x3, x4, rfl, rfl, rfl, rfl⟩ := trod_cell hf
    have h1 := hx 0 (by omega)
    obtain ⟨b, off, e, -⟩ := ints_at (w := W) (k := .i64) (a := (⟨g, o, some f⟩ : Addr)) (zs := [x1]) (fun i hi => by
     have hi0 : i = 0 := by simpa using hi
     subst hi0
     simpa [Addr.add] using h1) (by simp)
    cases e
  | none =>
   have key : ∀ i, i < len → ∃ c : C4, Ce W g (o + i * 4) c := fun i hi => by
    obtain ⟨cs', hc, hf⟩ := hel i (by omega)
    rw [cells_cell] at hc
    have e : (⟨g, o, none⟩ : Addr).add (i * 4) = ⟨g, o + i * 4, none⟩ := by
     by_cases h0 : i * 4 = 0
     ·rw [h0]; rfl
     ·simp [Addr.add, h0]
    rw [e] at hc
    exact ce_of hc hf
   refine ⟨R, C, _, len, cap, (List.range len).map (fun i => if hi : i < len then (key i hi).choose else (0, 0, 0, 0)), rfl, ⟨by simp, fun _ => ⟨g, o, rfl, fun i hi => ?_⟩⟩, hl, by unfold maxLen at hm; omega⟩
   have hi' : i < len := by simpa using hi
   simp only [List.getElem_map, List.getElem_range, dif_pos hi']
   exact (key i hi').choose_spec
end Go.Proofs.Ytccfpehcadpkiaa
