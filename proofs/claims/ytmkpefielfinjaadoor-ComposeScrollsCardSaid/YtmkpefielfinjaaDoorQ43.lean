/- Parts of the proof, one after the other. -/
import Derived.Test.YtmkpefielfinjaaDoorQ42
import Derived.Test.YtmkpefielfinjaaDoorQ02
import Derived.Test.YtmkpefielfinjaaDoorQ07
import Derived.Test.YtmkpefielfinjaaDoorQ38
import Derived.Deep.MidRow
set_option linter.unusedSimpArgs false
set_option linter.unusedVariables false
/- Walk of the reference's Decode: it is the plain function dec. -/
namespace Go.Proofs.YtmkpefielfinjaaDoor
open Go.RowKit

end Go.Proofs.YtmkpefielfinjaaDoor

/- Terminals: their boxes, the reference's Valid. -/
namespace Go.Proofs.YtmkpefielfinjaaDoor
open Go.RowKit

/-- A terminal's parts. -/
structure Trm where
  s : Scr
  RA : Option Addr
  Rn : Nat
  Rc : Nat
  rs : List Int
  md : Int
  pv : Int
  A : Option Addr
  n : Nat
  c : Nat
  xs : List Int
  keep : Int
  HA : Option Addr
  Hn : Nat
  Hc : Nat
  lost : Int
def Trm.vals (t : Trm) : List Value := t.s.vals ++ [.slice t.RA t.Rn t.Rc, .int .i64 t.md, .int .i64 t.pv, .slice t.A t.n t.c, .int .i64 t.keep, .slice t.HA t.Hn t.Hc, .int .i64 t.lost]
/-- A valid terminal, that has lost at most B lines. -/
def Trm.Ok (w : World) (t : Trm) (B : Int) : Prop :=
  t.s.Ok w ∧ (Rd (.int .u8) w t.RA t.Rn t.rs ∧ t.Rn ≤ t.Rc ∧ t.Rc ≤ 9223372036854775807 ∧ validB t.rs = true ∧ t.Rn ≤ 4 ∧ ∀ x ∈ t.rs, 0 ≤ x ∧ x ≤ 255) ∧ ScnOk w t.md t.pv t.A t.n t.c t.xs ∧ TyA w t.A ∧ (0 ≤ t.keep ∧ t.keep ≤ 200) ∧ Ls w t.HA t.Hn ∧ t.Hn ≤ t.Hc ∧ t.Hc ≤ 9223372036854775807 ∧ (t.Hn : Int) ≤ t.keep ∧ 0 ≤ t.lost ∧ t.lost ≤ B
theorem Trm.Ok.up {w w' : World} {t : Trm} {B : Int} (h : t.Ok w B) (hb : Bw w w') : t.Ok w' B := by
  obtain ⟨h1, ⟨h2, h3⟩, h4, h5, h6, h7, h8⟩ := h
  exact ⟨h1.up hb, ⟨h2.up hb, h3⟩, h4.up hb, h5.up hb, h6, h7.up hb, h8⟩
theorem Trm.Ok.far {w w' : World} {t : Trm} {B : Int} {row : Option Nat} (h : t.Ok w B) (hg : w.grownBy w' row) (h1 : ∀ ad, t.s.A = some ad → some ad.block ≠ row) (h2 : 0 < t.Rn → ∀ ad, t.RA = some ad → some ad.block ≠ row) (h3 : ∀ ad, t.A = some ad → some ad.block ≠ row) (h4 : 0 < t.Hn → ∀ ad, t.HA = some ad → some ad.block ≠ row) : t.Ok w' B := by
  obtain ⟨k1, ⟨k2, k3⟩, k4, k5, k6, k7, k8⟩ := h
  refine ⟨k1.far hg h1, ⟨k2.far0 hg h2, k3⟩, k4.far0 hg (fun _ => h3), k5.far hg h3, k6, ?_, k8⟩
  by_cases h0 : 0 < t.Hn
  · exact k7.far hg (h4 h0)
  · have e : t.Hn = 0 := by omega
    rw [e]
    exact Ls.nil_ _ _
theorem Rd.lt {α : Type} {f : α → Value} {w : World} {A : Option Addr} {n : Nat} {xs : List α} (h : Rd f w A n xs) (h0 : 0 < n) : ∀ ad, A = some ad → ad.block < w.heap.size := fun ad e => by
  obtain ⟨g, o, e2, hx⟩ := h.2 h0
  have h1 := lt_of_cell (hx 0 (by rw [h.1]; exact h0))
  rw [e] at e2
  cases e2
  exact h1
theorem Ls.lt {w : World} {A : Option Addr} {n : Nat} (h : Ls w A n) (h0 : 0 < n) : ∀ ad, A = some ad → ad.block < w.heap.size := by
  obtain ⟨vs, h1, _⟩ := h
  exact h1.lt h0
theorem Trm.one (t : Trm) : t.vals.toArray.all (·.oneCell') = true := all_oneCell_toArray (fun v hv => by
  rcases List.mem_append.mp hv with h | h
  · exact (Array.all_eq_true_iff_forall_mem.1 t.s.one) v (by simpa using h)
  · simp only [List.mem_cons, List.not_mem_nil, or_false] at h
    rcases h with rfl | rfl | rfl | rfl | rfl | rfl | rfl <;> rfl)
theorem Trm.range {w : World} {g : Nat} (t : Trm) (h : Sb w g t.vals.toArray 55) : w.rangeAt g 0 t.s.vals := fun j v hv => by
  have hj : j < t.s.vals.length := (List.getElem?_eq_some_iff.1 hv).1
  rw [Nat.zero_add]
  refine h.cell j ?_
  show (t.s.vals ++ _).toArray[j]? = some v
  rw [List.getElem?_toArray, List.getElem?_append_left hj]
  exact hv
end Go.Proofs.YtmkpefielfinjaaDoor

/- Terminals: the reference's away. -/
namespace Go.Proofs.YtmkpefielfinjaaDoor
open Go.RowKit

end Go.Proofs.YtmkpefielfinjaaDoor
