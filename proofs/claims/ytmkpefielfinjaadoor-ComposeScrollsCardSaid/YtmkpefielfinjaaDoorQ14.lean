/- Parts of the proof, one after the other. -/
import Derived.Test.YtmkpefielfinjaaDoorQ13
import Derived.Deep.RegionHeld3
import Derived.Laws.Rows
import Derived.Laws.Tables
set_option linter.unusedSimpArgs false
set_option linter.unusedVariables false
/- Screens: the reference's all, move. -/
namespace Go.Proofs.YtmkpefielfinjaaDoor
open Go.RowKit

/-- Block g is a variable, known whole. -/
def Sb (w : World) (g : Nat) (cs : Array Value) (T : TypeId) : Prop := w.heap[g]? = some (.cells cs T (0, 0))
theorem Sb.lt {w : World} {g : Nat} {cs : Array Value} {T : TypeId} (h : Sb w g cs T) : g < w.heap.size := lt_of_block h
theorem Sb.up {w w' : World} {g : Nat} {cs : Array Value} {T : TypeId} (h : Sb w g cs T) (hb : Bw w w') : Sb w' g cs T := (hb.block g h.lt).trans h
theorem Sb.cell {w : World} {g : Nat} {cs : Array Value} {T : TypeId} (h : Sb w g cs T) (i : Nat) {v : Value} (hv : cs[i]? = some v) : w.cell? ⟨g, i, none⟩ = some v := by rw [cell_of_row w g i cs T (0, 0) h]; exact hv
theorem Sb.free {w : World} {g : Nat} {cs : Array Value} {T : TypeId} (h : Sb w g cs T) (i : Nat) : w.frozen? ⟨g, i, none⟩ = false := frozen_of_row w g i cs T h
theorem Sb.set {w : World} {g : Nat} {cs cs' : Array Value} {T : TypeId} (h : Sb w g cs T) (i : Nat) (u : Value) (hc : cs.setIfInBounds i u = cs') : Sb (w.setCell ⟨g, i, none⟩ u) g cs' T := by
  subst hc
  have hlt := h.lt
  have h' : w.heap[g] = .cells cs T (0, 0) := by simpa [Array.getElem?_eq_getElem hlt] using (show w.heap[g]? = _ from h)
  show (w.heap.modify g _)[g]? = _
  rw [Array.getElem?_eq_getElem (by simpa using hlt), Array.getElem_modify_self, h']
  simp
theorem Sb.away {w : World} {g h j : Nat} {cs : Array Value} {T : TypeId} (hW : Sb w g cs T) (hne : g ≠ h) (v : Value) : Sb (w.setCell ⟨h, j, none⟩ v) g cs T := (Below.heap_setCell _ _ _ _ hne).trans hW
theorem sb2 {w w1 : World} {a b : Array Value} {T T' : TypeId} (h : (w.alloc (.cells a T)).alloc (.cells b T') = w1) : Sb w1 w.heap.size a T ∧ Sb w1 (w.heap.size + 1) b T' ∧ Bw w w1 ∧ w1.heap.size = w.heap.size + 2 := by
  subst h
  refine ⟨?_, heap_at (by simp), BWX, by simp⟩
  exact (Below.heap_alloc _ _ _ (by simp)).trans (heap_at rfl)
theorem Scr.Ok.cur {w : World} {s : Scr} (h : s.Ok w) {r c : Int} (b : Bool) (hrc : 0 ≤ r ∧ r < s.Rn ∧ 0 ≤ c ∧ c < s.Cn) : ({ s with row := r, col := c, wrap := b } : Scr).Ok w := ⟨h.1, hrc, h.2.2⟩
theorem Scr.one (s : Scr) : s.vals.toArray.all (·.oneCell') = true := all_oneCell_toArray (fun v hv => by
  unfold Scr.vals at hv
  simp only [List.mem_cons, List.not_mem_nil, or_false] at hv
  rcases hv with rfl | rfl | rfl | rfl | rfl | rfl | rfl | rfl | rfl | rfl | rfl | rfl | rfl | rfl | rfl | rfl | rfl | rfl | rfl <;> rfl)
theorem Sb.far {w w' : World} {g : Nat} {row : Option Nat} {cs : Array Value} {T : TypeId} (h : Sb w g cs T) (hg : w.grownBy w' row) (hne : some g ≠ row) : Sb w' g cs T := (hg.block g h.lt hne).trans h
end Go.Proofs.YtmkpefielfinjaaDoor

/- Screens: grids stay valid; plain laws. -/
namespace Go.Proofs.YtmkpefielfinjaaDoor
open Go.RowKit

theorem Gok.away {w : World} {Rn Cn : Nat} {A : Option Addr} {n c h : Nat} (hg : Gok w Rn Cn A n c) (hne : ∀ ad, A = some ad → ad.block ≠ h) (j : Nat) (v : Value) : Gok (w.setCell ⟨h, j, none⟩ v) Rn Cn A n c := by
  obtain ⟨h1, h2, h3, h4, h5, h6, h7, cs, h8, h9⟩ := hg
  exact ⟨h1, h2, h3, h4, h5, h6, h7, cs, h8.away hne j v, h9⟩
theorem Gok.lt {w : World} {Rn Cn : Nat} {A : Option Addr} {n c : Nat} (hg : Gok w Rn Cn A n c) : ∀ ad, A = some ad → ad.block < w.heap.size := by
  intro ad e
  obtain ⟨h1, h2, h3, h4, h5, h6, h7, cs, h8, h9⟩ := hg
  have h0 : 0 < n := by rw [h5]; exact Nat.mul_pos (by omega) (by omega)
  obtain ⟨g, o, e2, hx⟩ := h8.2 h0
  rw [e] at e2
  cases e2
  have := lt_of_cell (hx 0 (by rw [h8.1]; exact h0)).1
  simpa using this
theorem Gok.far {w w' : World} {Rn Cn : Nat} {A : Option Addr} {n c : Nat} {row : Option Nat} (hg : Gok w Rn Cn A n c) (hgr : w.grownBy w' row) (hne : ∀ ad, A = some ad → some ad.block ≠ row) : Gok w' Rn Cn A n c := by
  have hlt := hg.lt
  obtain ⟨h1, h2, h3, h4, h5, h6, h7, cs, h8, h9⟩ := hg
  refine ⟨h1, h2, h3, h4, h5, h6, h7, cs, ⟨h8.1, fun h0 => ?_⟩, h9⟩
  obtain ⟨g, o, e, hx⟩ := h8.2 h0
  have hb := hgr.block g (hlt _ e) (hne _ e)
  have key : ∀ i u, w.cell? ⟨g, i, none⟩ = some u → w'.cell? ⟨g, i, none⟩ = some u := fun i u hu => (World.cell?_of_block (a := ⟨g, i, none⟩) hb).trans hu
  exact ⟨g, o, e, fun i hi => ⟨key _ _ (hx i hi).1, key _ _ (hx i hi).2.1, key _ _ (hx i hi).2.2.1, key _ _ (hx i hi).2.2.2⟩⟩

end Go.Proofs.YtmkpefielfinjaaDoor

/- Screens: the reference's up. -/
namespace Go.Proofs.YtmkpefielfinjaaDoor
open Go.RowKit

/-- The cells' address is the same, or in new memory. -/
def An (w : World) (A A' : Option Addr) : Prop := A' = A ∨ ∀ ad, A' = some ad → w.heap.size ≤ ad.block
theorem An.more {w w0 : World} {A A' : Option Addr} (h : An w A A') (hw : w0.heap.size ≤ w.heap.size) : An w0 A A' := by
  rcases h with h | h
  · exact .inl h
  · exact .inr (fun ad e => Nat.le_trans hw (h ad e))
theorem An.trans {w w1 : World} {A A1 A2 : Option Addr} (h : An w A A1) (k : An w1 A1 A2) (hw : w.heap.size ≤ w1.heap.size) : An w A A2 := by
  rcases k with k | k
  · rw [k]; exact h
  · exact .inr (fun ad e => Nat.le_trans hw (k ad e))
/-- A list of lines of m elements, whatever they are. -/
def Ls (w : World) (L : Option Addr) (m : Nat) : Prop := ∃ vs : List Value, Rd (fun v => v) w L m vs ∧ ∀ v ∈ vs, v.oneCell' = true
theorem Ls.up {w w' : World} {L : Option Addr} {m : Nat} (h : Ls w L m) (hb : Bw w w') : Ls w' L m := by
  obtain ⟨vs, h1, h2⟩ := h
  exact ⟨vs, h1.up hb, h2⟩
theorem Ls.far {w w' : World} {L : Option Addr} {m : Nat} {row : Option Nat} (h : Ls w L m) (hg : w.grownBy w' row) (hne : ∀ ad, L = some ad → some ad.block ≠ row) : Ls w' L m := by
  obtain ⟨vs, h1, h2⟩ := h
  refine ⟨vs, ⟨h1.1, fun h0 => ?_⟩, h2⟩
  obtain ⟨g, o, e, hx⟩ := h1.2 h0
  have hlt : g < w.heap.size := by have := lt_of_cell (hx 0 (by rw [h1.1]; exact h0)); simpa using this
  refine ⟨g, o, e, fun i hi => (World.cell?_of_block (a := ⟨g, o + i, none⟩) (hg.block g hlt (by have := hne _ e; exact this))).trans (hx i hi)⟩
theorem Ls.of_own {w : World} {base : Nat} {e : TypeId} {A : Option Addr} {n c m : Nat} {vs : List Value} (h : w.ownsRow base e 1 (.slice A n c) m vs) (h1 : ∀ v ∈ vs, v.oneCell' = true) : Ls w A n :=
  ⟨vs, own_rd (f := fun v => v) (by rw [List.map_id']; exact h), h1⟩
theorem Ls.nil_ (w : World) (A : Option Addr) : Ls w A 0 := ⟨[], Rd.nil_ _ _, by simp⟩
end Go.Proofs.YtmkpefielfinjaaDoor
