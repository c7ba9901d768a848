/- Parts of the proof, one after the other. -/
import Derived.Test.YtmkpefielfinjaaDoorQ02
import Derived.Test.YtmkpefielfinjaaDoorQ01
import Derived.Test.YtmkpefielfinjaaDoorQ05
import Derived.Test.YtmkpefielfinjaaDoorQ06
import Derived.Deep.RegionHeld3
import Derived.Deep.AppendLies
import Derived.Deep.MidRow
set_option linter.unusedSimpArgs false
set_option linter.unusedVariables false
/- The mill's deck as a state: what it is good for, whatever has been drawn. -/
namespace Go.Proofs.YtmkpefielfinjaaDoor
open Go.RowKit

/-- Block b is a deck over the list xs (which reads as A, n, c), at some place. -/
def Dk (w : World) (b : Nat) (A : Option Addr) (n c : Nat) (xs : List Int) : Prop :=
  b < w.heap.size ∧ n ≤ 9223372036854775807 ∧ RdI w A n xs ∧ (0 < n → ∀ ad, A = some ad → ad.block < b) ∧ ∃ k : Nat, k ≤ n ∧ w.cell? ⟨b, 0, none⟩ = some (.slice A n c) ∧ w.cell? ⟨b, 1, none⟩ = some (.int .i64 k) ∧ w.frozen? ⟨b, 1, none⟩ = false

theorem Dk.up {w w' : World} {b : Nat} {A : Option Addr} {n c : Nat} {xs : List Int} (h : Dk w b A n c xs) (hb : Bw w w') : Dk w' b A n c xs := by
  obtain ⟨h1, h2, h3, h4, k, h5, h6, h7, h8⟩ := h
  refine ⟨Nat.lt_of_lt_of_le h1 hb.size, h2, h3.up (fun hz ad e => Nat.lt_trans (h4 hz ad e) h1) hb, h4, k, h5, ?_, ?_, ?_⟩
  · rw [Below.cell hb (p := ⟨b, 0, none⟩) h1]; exact h6
  · rw [Below.cell hb (p := ⟨b, 1, none⟩) h1]; exact h7
  · rw [Below.frozen hb (p := ⟨b, 1, none⟩) h1]; exact h8
theorem Dk.grown {w w' : World} {b r : Nat} {A : Option Addr} {n c : Nat} {xs : List Int} (h : Dk w b A n c xs) (hg : w.grownBy w' (some r)) (hr : b < r) : Dk w' b A n c xs := by
  obtain ⟨h1, h2, h3, h4, k, h5, h6, h7, h8⟩ := h
  refine ⟨Nat.lt_of_lt_of_le h1 hg.size, h2, ⟨h3.1, fun i hi => ?_⟩, h4, k, h5, ?_, ?_, ?_⟩
  · obtain ⟨ad, e, hx⟩ := h3.2 i hi
    refine ⟨ad, e, ?_⟩
    have h9 := h4 (by have := h3.1; omega) ad e
    rw [grown_cell hg (by rw [addr_add_block]; omega) (by rw [addr_add_block]; omega)]
    exact hx
  · rw [grown_cell hg (p := ⟨b, 0, none⟩) h1 (by simp; omega)]; exact h6
  · rw [grown_cell hg (p := ⟨b, 1, none⟩) h1 (by simp; omega)]; exact h7
  · rw [grown_frozen hg (p := ⟨b, 1, none⟩) h1 (by simp; omega)]; exact h8
theorem Dk.made {w : World} {A : Option Addr} {n c : Nat} {xs : List Int} (hr : RdI w A n xs) (hA : 0 < n → ∀ ad, A = some ad → ad.block < w.heap.size) (hn : n ≤ 9223372036854775807) :
    Dk (w.alloc (.cells #[.slice A n c, .int .i64 0] 73)) w.heap.size A n c xs := by
  refine ⟨by simp, hn, hr.up hA BWX, hA, 0, Nat.zero_le _, CELX, CELX, by simp [go_sem]⟩

theorem Dk.row {w w' : World} {b : Nat} {A : Option Addr} {n c : Nat} {xs : List Int} (h : Dk w b A n c xs) {v : Value} {base : Nat} {e : TypeId} {s m : Nat} {ys : List Value} (ho : w.ownsRow base e s v m ys) (hg : w.grownBy w' v.ownBlock) (hb : b < base) : Dk w' b A n c xs := by
  cases hob : v.ownBlock with
  | none => rw [hob] at hg; exact h.up (Bw.of_grown hg)
  | some r => rw [hob] at hg; exact h.grown hg (by have := ho.lt r hob; omega)
theorem Bw.row {w w1 w2 : World} (h : Bw w w1) {v : Value} {base : Nat} {e : TypeId} {s m : Nat} {ys : List Value} (ho : w1.ownsRow base e s v m ys) (hg : w1.grownBy w2 v.ownBlock) (hb : w.heap.size ≤ base) : Bw w w2 :=
  Bw.grown h hg (fun k hk => by have := ho.lt k hk; omega)
end Go.Proofs.YtmkpefielfinjaaDoor

/- Attributes: validity kept, plain laws. -/
namespace Go.Proofs.YtmkpefielfinjaaDoor
open Go.RowKit

theorem AtC.row {w w' : World} {G : Nat} {a : Int × Int × Int} (h : AtC w G a) {v : Value} {base : Nat} {e : TypeId} {s m : Nat} {ys : List Value} (ho : w.ownsRow base e s v m ys) (hg : w.grownBy w' v.ownBlock) (hb : G < base) : AtC w' G a := by
  cases hob : v.ownBlock with
  | none => rw [hob] at hg; exact h.bw (Bw.of_grown hg)
  | some r =>
    rw [hob] at hg
    have hr := (ho.lt r hob).1
    obtain ⟨⟨h1, h2, h3⟩, h4, h5, h6⟩ := h
    have hl := lt_of_cell h1
    dsimp only at hl
    refine ⟨⟨?_, ?_, ?_⟩, ?_, ?_, ?_⟩
    · rw [grown_cell hg (p := ⟨G, 0, none⟩) hl (by simp; omega)]; exact h1
    · rw [grown_cell hg (p := ⟨G, 1, none⟩) hl (by simp; omega)]; exact h2
    · rw [grown_cell hg (p := ⟨G, 2, none⟩) hl (by simp; omega)]; exact h3
    · rw [grown_frozen hg (p := ⟨G, 0, none⟩) hl (by simp; omega)]; exact h4
    · rw [grown_frozen hg (p := ⟨G, 1, none⟩) hl (by simp; omega)]; exact h5
    · rw [grown_frozen hg (p := ⟨G, 2, none⟩) hl (by simp; omega)]; exact h6
end Go.Proofs.YtmkpefielfinjaaDoor

/- Grids: blocks known cell by cell; new grids. -/
namespace Go.Proofs.YtmkpefielfinjaaDoor
open Go.RowKit

/-- Block g's first cells are vs, and may be written. -/
def Bx (w : World) (g : Nat) (vs : List Value) : Prop := ∀ i (h : i < vs.length), w.cell? ⟨g, i, none⟩ = some vs[i] ∧ w.frozen? ⟨g, i, none⟩ = false
theorem Bx.up {w w' : World} {g : Nat} {vs : List Value} (h : Bx w g vs) (hb : Bw w w') : Bx w' g vs := fun i hi =>
  ⟨cell_bw hb (h i hi).1, (Below.frozen hb (p := ⟨g, i, none⟩) (lt_of_cell (h i hi).1)).trans (h i hi).2⟩
theorem Bx.lit {w : World} {g : Nat} {cs : Array Value} {T : TypeId} {vs : List Value} (hg : g = w.heap.size) (hc : cs = vs.toArray) : Bx (w.alloc (.cells cs T)) g vs := fun i hi => by
  subst hg; subst hc
  refine ⟨cell_alloc_here rfl (by simp [hi]), ?_⟩
  simp [go_sem]
theorem Bx.put {w : World} {g i : Nat} {vs : List Value} (h : Bx w g vs) (hi : i < vs.length) (u : Value) : Bx (w.setCell ⟨g, i, none⟩ u) g (vs.set i u) := fun j hj => by
  have hj' : j < vs.length := by simpa using hj
  refine ⟨?_, by rw [frz_set]; exact (h j hj').2⟩
  by_cases e : i = j
  · subst e
    rw [World.cell?_setCell_same _ _ _ (h i hi).1]
    simp
  · rw [cell_ne (h j hj').1 e]
    simp [e]
theorem Bx.away {w : World} {g h j : Nat} {vs : List Value} (hB : Bx w g vs) (hne : g ≠ h) (v : Value) : Bx (w.setCell ⟨h, j, none⟩ v) g vs := fun i hi =>
  ⟨cell_set_some hne (hB i hi).1, by rw [frz_set]; exact (hB i hi).2⟩
theorem Bx.far {w w' : World} {g : Nat} {row : Option Nat} {vs : List Value} (h : Bx w g vs) (hg : w.grownBy w' row) (hne : some g ≠ row) : Bx w' g vs := fun i hi => by
  have hl := lt_of_cell (h i hi).1
  dsimp only at hl
  exact ⟨(World.cell?_of_block (a := ⟨g, i, none⟩) (hg.block g hl hne)).trans (h i hi).1, (World.frozen?_of_block (a := ⟨g, i, none⟩) (hg.block g hl hne)).trans (h i hi).2⟩
theorem Bx.row {w w' : World} {g : Nat} {vs : List Value} (h : Bx w g vs) {v : Value} {base : Nat} {e : TypeId} {s m : Nat} {ys : List Value} (ho : w.ownsRow base e s v m ys) (hg : w.grownBy w' v.ownBlock) (hb : g < base) : Bx w' g vs :=
  h.far hg (fun e => by have := ho.lt g e.symm; omega)
theorem Bx.lt {w : World} {g : Nat} {vs : List Value} (h : Bx w g vs) (h0 : 0 < vs.length) : g < w.heap.size := by
  have := lt_of_cell (h 0 h0).1
  simpa using this

/-- A list of cells, read out of an owned row. -/
theorem Rg.of_own {w : World} {base : Nat} {e : TypeId} {A : Option Addr} {n c m : Nat} {cs : List C4} (h : w.ownsRow base e 4 (.slice A n c) m (flat cs)) : Rg w A n cs := by
  have hl := h.1
  rw [flat_len] at hl
  rcases h.2 with ⟨e1, h0⟩ | ⟨g, cap, cur, e1, _, hh, hnc, hm, _, htake⟩
  · cases e1
    exact ⟨by omega, fun h1 => absurd h1 (by omega)⟩
  · cases e1
    refine ⟨by omega, fun h0 => ⟨g, 0, rfl, fun i hi => ?_⟩⟩
    have key : ∀ j, (hj : j < 4) → w.cell? ⟨g, 0 + i * 4 + j, none⟩ = (c4L cs[i])[j]? := fun j hj => by
      rw [← flat_get cs i j hi hj]
      have hlt : i * 4 + j < (flat cs).length := by rw [flat_len]; omega
      have := h.cells (g := g) rfl (i * 4 + j) _ (List.getElem?_eq_getElem hlt)
      rw [List.getElem?_eq_getElem hlt, Nat.zero_add]
      rw [Addr.add_mid, Nat.zero_add] at this
      exact this
    exact ⟨key 0 (by omega), key 1 (by omega), key 2 (by omega), key 3 (by omega)⟩
theorem Rg.none_ {w : World} {A : Option Addr} {n : Nat} {cs : List C4} (h : Rg w A n cs) : A = none → n = 0 := by
  intro e
  subst e
  rcases Nat.eq_zero_or_pos n with h0 | h0
  · exact h0
  · obtain ⟨g, o, e, -⟩ := h.2 h0; cases e

theorem infoC : (Tryd.prog.info? 64).map (fun i => (i.zero, i.size, i.bytes)) = some (some (.agg #[.int .i64 0, .int .i64 0, .int .i64 0, .int .i64 0]), 4, 32) := by kernel_rfl
theorem Ce.away {w : World} {g o h j : Nat} {c : C4} (hc : Ce w g o c) (hne : g ≠ h) (v : Value) : Ce (w.setCell ⟨h, j, none⟩ v) g o c := ⟨cell_set_some hne hc.1, cell_set_some hne hc.2.1, cell_set_some hne hc.2.2.1, cell_set_some hne hc.2.2.2⟩
theorem Rg.away {w : World} {A : Option Addr} {n h : Nat} {cs : List C4} (hr : Rg w A n cs) (hne : ∀ ad, A = some ad → ad.block ≠ h) (j : Nat) (v : Value) : Rg (w.setCell ⟨h, j, none⟩ v) A n cs := by
  refine ⟨hr.1, fun h0 => ?_⟩
  obtain ⟨g, o, e, hx⟩ := hr.2 h0
  exact ⟨g, o, e, fun i hi => (hx i hi).away (hne _ e) _⟩
theorem own_new {w : World} {base : Nat} {e : TypeId} {s n m c : Nat} {A : Option Addr} {xs : List Value} (h : w.ownsRow base e s (.slice A n c) m xs) : ∀ ad, A = some ad → base ≤ ad.block := by
  intro ad e
  subst e
  exact (h.lt ad.block rfl).1
def blk : C4 := (32, 0, 0, 0)
theorem news4 {w : World} {B : Nat} {cs : Array Value} {t : TypeId} {fr : Nat × Nat} {vs : List Value} (hb : w.heap[B]? = some (.cells cs t fr)) (hc : cs.toList = vs) : ∀ j u, vs[j]? = some u → w.cell? ((⟨B, 0, none⟩ : Addr).add j) = some u := by
  subst hc; exact World.news_of_block hb

/-- A size, brought within its bounds. -/
def clamp (x hi : Int) : Int := if x < 1 then 1 else if hi < x then hi else x
theorem clamp_bd (x hi : Int) (h : 1 ≤ hi) : 1 ≤ clamp x hi ∧ clamp x hi ≤ hi := by unfold clamp; split <;> (try split) <;> omega
theorem clamp_cases (x hi : Int) (h : 1 ≤ hi) : (x < 1 ∧ clamp x hi = 1) ∨ ((1 ≤ x ∧ x ≤ hi) ∧ clamp x hi = x) ∨ ((1 ≤ x ∧ hi < x) ∧ clamp x hi = hi) := by
  unfold clamp
  by_cases h1 : x < 1
  · exact .inl ⟨h1, if_pos h1⟩
  · by_cases h2 : hi < x
    · exact .inr (.inr ⟨⟨by omega, h2⟩, by rw [if_neg h1, if_pos h2]⟩)
    · exact .inr (.inl ⟨⟨by omega, by omega⟩, by rw [if_neg h1, if_neg h2]⟩)
theorem clamp_if (x hi : Int) (h : 1 ≤ hi) : (if hi < (if 1 < x then x else 1) then hi else (if 1 < x then x else 1)) = clamp x hi := by
  unfold clamp
  by_cases h1 : 1 < x
  · rw [if_pos h1, if_neg (show ¬ x < 1 by omega)]
  · rw [if_neg h1, if_neg (show ¬ hi < 1 by omega)]
    by_cases h2 : x < 1
    · rw [if_pos h2]
    · rw [if_neg h2]; split <;> omega
end Go.Proofs.YtmkpefielfinjaaDoor
