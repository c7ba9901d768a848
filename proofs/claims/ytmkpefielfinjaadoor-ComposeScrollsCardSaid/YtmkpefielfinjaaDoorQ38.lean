/- Parts of the proof, one after the other. -/
import Derived.Test.YtmkpefielfinjaaDoorQ37
import Derived.Test.YtmkpefielfinjaaDoorQ02
import Derived.Test.YtmkpefielfinjaaDoorQ01
set_option linter.unusedSimpArgs false
set_option linter.unusedVariables false
/- Scanners: the reference's All. -/
namespace Go.Proofs.YtmkpefielfinjaaDoor
open Go.RowKit

theorem TyA.grown {w w' : World} {A : Option Addr} {row : Option Nat} (h : TyA w A) (hg : w.grownBy w' row) (hne : ∀ ad, A = some ad → some ad.block ≠ row) : TyA w' A := h.far hg hne
/-- The operations read so far, each with what it leans on. -/
def OpsG (w : World) (k : Nat) (l : List OpR) : Prop := ∀ o ∈ l, o.Ok w ∧ TyA w o.A ∧ ∀ ad, o.A = some ad → k ≤ ad.block
theorem OpsG.up {w w' : World} {k : Nat} {l : List OpR} (h : OpsG w k l) (hb : Bw w w') : OpsG w' k l := fun o ho => ⟨(h o ho).1.up hb, (h o ho).2.1.up hb, (h o ho).2.2⟩
theorem OpsG.far {w w' : World} {k : Nat} {l : List OpR} {row : Option Nat} (h : OpsG w k l) (hg : w.grownBy w' row) (hne : ∀ o ∈ l, ∀ ad, o.A = some ad → some ad.block ≠ row) : OpsG w' k l := fun o ho => ⟨⟨(h o ho).1.1.far hg (hne o ho), (h o ho).1.2⟩, (h o ho).2.1.far hg (hne o ho), (h o ho).2.2⟩
theorem OpsL.far0 {w w' : World} {A : Option Addr} {m : Nat} {l : List OpR} {row : Option Nat} (h : OpsL w A m l) (hg : w.grownBy w' row) (hne : 0 < m → ∀ ad, A = some ad → some ad.block ≠ row) (hno : ∀ o ∈ l, ∀ ad, o.A = some ad → some ad.block ≠ row) : OpsL w' A m l := by
  by_cases hm : 0 < m
  · exact h.far hg (hne hm) hno
  · have h1 : l = [] := List.eq_nil_of_length_eq_zero (by have := h.1; omega)
    subst h1
    exact ⟨h.1, (fun o ho => by cases ho), h.2.2.1, fun ad e j u hu => by simp [opsV] at hu⟩
theorem OpsL.lt {w : World} {A : Option Addr} {m : Nat} {l : List OpR} (h : OpsL w A m l) (hm : 0 < m) : ∀ ad, A = some ad → ad.block < w.heap.size := fun ad e => by
  have hl : 0 < l.length := by have := h.1; omega
  obtain ⟨u, hu⟩ : ∃ u, (opsV l)[0]? = some u := ⟨(opsV l)[0]'(by rw [opsV_len]; omega), List.getElem?_eq_getElem _⟩
  have h1 := lt_of_cell (h.2.2.2 ad e 0 u hu)
  simpa [Addr.add] using h1
theorem OpsL.own {w : World} {base : Nat} {e : TypeId} {B : Option Addr} {m c2 : Nat} {l : List OpR} (h : w.ownsRow base e 4 (.slice B m c2) m (opsV l)) (hl : l.length = m) (hG : ∀ o ∈ l, o.Ok w) : OpsL w B m l := by
  refine ⟨hl, hG, fun e1 => ?_, fun ad e1 j u hu => ?_⟩
  · subst e1
    rcases h.2 with ⟨_, h2⟩ | ⟨g, cap, cur, h2, _⟩
    · exact h2
    · cases h2
  · subst e1
    rcases h.2 with ⟨h2, _⟩ | ⟨g, cap, cur, h2, _⟩
    · cases h2
    · cases h2
      exact h.cells (g := g) rfl j u hu
end Go.Proofs.YtmkpefielfinjaaDoor

/- Walks of runes.size and runes.second: each returns the plain function of the same name. -/
namespace Go.Proofs.YtmkpefielfinjaaDoor
open Go.RowKit

/-- How many bytes an encoding has that begins with byte b. -/
def rsize (b : Int) : Int := if b < 128 then 1 else if 194 ≤ b ∧ b ≤ 223 then 2 else if 224 ≤ b ∧ b ≤ 239 then 3 else if 240 ≤ b ∧ b ≤ 244 then 4 else 0
def rlow (b : Int) : Int := if b = 224 then 160 else if b = 240 then 144 else 128
def rhigh (b : Int) : Int := if b = 237 then 159 else if b = 244 then 143 else 191

end Go.Proofs.YtmkpefielfinjaaDoor

/- Walks of runes.prefix, beginning, complete, value: each returns the plain function of the same name. -/
namespace Go.Proofs.YtmkpefielfinjaaDoor
open Go.RowKit

def okRest (low high : Int) : List Int → Bool
  | [] => true
  | c :: t => decide (low ≤ c ∧ c ≤ high) && okRest 128 191 t
def prefixB : List Int → Bool
  | [] => false
  | b :: t => decide ((t.length : Int) + 1 ≤ rsize b) && okRest (rlow b) (rhigh b) t

def beginB (bs : List Int) : Bool := prefixB bs && decide ((bs.length : Int) < rsize (bs.headD 0))
def completeB (bs : List Int) : Bool := prefixB bs && ((bs.length : Int) == rsize (bs.headD 0))

end Go.Proofs.YtmkpefielfinjaaDoor
