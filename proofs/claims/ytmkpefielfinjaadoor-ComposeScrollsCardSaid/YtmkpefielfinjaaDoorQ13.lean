/- Parts of the proof, one after the other. -/
import Derived.Test.YtmkpefielfinjaaDoorQ12
import Derived.Test.YtmkpefielfinjaaDoorQ07
import Derived.Test.YtmkpefielfinjaaDoorQ09
import Derived.Test.YtmkpefielfinjaaDoorQ11
set_option linter.unusedSimpArgs false
set_option linter.unusedVariables false
/- Attributes: the walk of the reference's Apply. -/
namespace Go.Proofs.YtmkpefielfinjaaDoor
open Go.RowKit

end Go.Proofs.YtmkpefielfinjaaDoor

/- Attributes: parameters keep attributes valid. -/
namespace Go.Proofs.YtmkpefielfinjaaDoor
open Go.RowKit

end Go.Proofs.YtmkpefielfinjaaDoor

/- Screens: what a valid one is; the reference's Valid, all, New, move. -/
namespace Go.Proofs.YtmkpefielfinjaaDoor
open Go.RowKit

/-- A screen's fields, its cells apart. -/
structure Scr where
  Rn : Nat
  Cn : Nat
  A : Option Addr
  n : Nat
  c : Nat
  row : Int
  col : Int
  wrap : Bool
  f : Int
  g : Int
  b : Int
  top : Int
  bot : Int
  srow : Int
  scol : Int
  swrap : Bool
  sf : Int
  sg : Int
  sb : Int
  hid : Bool
  now : Bool
def Scr.vals (s : Scr) : List Value := [.int .i64 s.Rn, .int .i64 s.Cn, .slice s.A s.n s.c, .int .i64 s.row, .int .i64 s.col, .bool s.wrap, .int .i64 s.f, .int .i64 s.g, .int .i64 s.b, .int .i64 s.top, .int .i64 s.bot, .int .i64 s.srow, .int .i64 s.scol, .bool s.swrap, .int .i64 s.sf, .int .i64 s.sg, .int .i64 s.sb, .bool s.hid, .bool s.now]
/-- The cells of a valid grid. -/
def Gok (w : World) (Rn Cn : Nat) (A : Option Addr) (n c : Nat) : Prop :=
  1 ≤ Rn ∧ Rn ≤ 30 ∧ 1 ≤ Cn ∧ Cn ≤ 100 ∧ n = Rn * Cn ∧ n ≤ c ∧ c ≤ 9223372036854775807 ∧ ∃ cs, Rg w A n cs ∧ gridB Rn Cn cs = true
/-- A valid screen. -/
def Scr.Ok (w : World) (s : Scr) : Prop :=
  Gok w s.Rn s.Cn s.A s.n s.c ∧ (0 ≤ s.row ∧ s.row < s.Rn ∧ 0 ≤ s.col ∧ s.col < s.Cn) ∧ avB s.f s.g s.b = true ∧ (0 ≤ s.top ∧ s.top ≤ s.bot ∧ s.bot < s.Rn) ∧ (0 ≤ s.srow ∧ s.srow < s.Rn ∧ 0 ≤ s.scol ∧ s.scol < s.Cn) ∧ avB s.sf s.sg s.sb = true
theorem Gok.up {w w' : World} {Rn Cn : Nat} {A : Option Addr} {n c : Nat} (h : Gok w Rn Cn A n c) (hb : Bw w w') : Gok w' Rn Cn A n c := by
  obtain ⟨h1, h2, h3, h4, h5, h6, h7, cs, h8, h9⟩ := h
  exact ⟨h1, h2, h3, h4, h5, h6, h7, cs, h8.up hb, h9⟩
theorem Scr.Ok.up {w w' : World} {s : Scr} (h : s.Ok w) (hb : Bw w w') : s.Ok w' := ⟨h.1.up hb, h.2⟩
end Go.Proofs.YtmkpefielfinjaaDoor
