/- What the row's shell tells of a slice of integers, as Rd. -/
import Derived.Test.YtacekeobmijipaaDoorSl
import Derived.OpenShut
set_option linter.unusedSimpArgs false
set_option linter.unusedVariables false
namespace Go.Proofs.YtacekeobmijipaaDoor
open Go.RowKit

theorem key_rd {k : IntKind} {w : World} {a : Option Addr} {len cap : Nat} {zs : List Int}
    (h : (a = none ∧ len = 0 ∧ cap = 0 ∧ zs = []) ∨ ∃ x, a = some x ∧ len ≤ cap ∧ cap ≤ maxLen ∧ zs.length = cap ∧ (∀ i, i < zs.length → w.cell? (x.add i) = some (.int k (zs.getD i 0))) ∧ ∀ n ∈ zs, (Lit.int k n).wf = true) :
    ∃ xs, Rd (.int k) w a len xs ∧ len ≤ cap ∧ cap ≤ 9223372036854775807 ∧ ∀ x ∈ xs, (Lit.int k x).wf = true := by
  rcases h with ⟨rfl, rfl, rfl, rfl⟩ | ⟨x, rfl, hl, hm, hz, hcell, hwz⟩
  · exact ⟨[], ⟨rfl, fun h => absurd h (by simp)⟩, by omega, by omega, by simp⟩
  · refine ⟨zs.take len, ⟨by simp; omega, fun h0 => ?_⟩, hl, by unfold maxLen at hm; omega, fun y hy => hwz y (List.mem_of_mem_take hy)⟩
    obtain ⟨b, off, rfl, hc⟩ := ints_at hcell (by omega)
    refine ⟨b, off, rfl, fun i hi => ?_⟩
    have hi' : i < zs.length := by simp at hi; omega
    rw [hc i hi']
    simp [List.getD_eq_getElem?_getD, hi']
theorem Rd.toI {w : World} {A : Option Addr} {n : Nat} {xs : List Int} (h : Rd (.int .i64) w A n xs) : ∀ i (h : i < xs.length), ∃ ad, A = some ad ∧ w.cell? (ad.add i) = some (.int .i64 xs[i]) := by
  intro i hi
  obtain ⟨g, o, e, hx⟩ := h.2 (by have := h.1; omega)
  exact ⟨_, e, by have := hx i hi; by_cases h0 : i = 0 <;> simpa [Addr.add, h0] using this⟩
theorem Rd.ltA {α : Type} {f : α → Value} {w : World} {A : Option Addr} {n : Nat} {xs : List α} (h : Rd f w A n xs) : 0 < n → ∀ ad, A = some ad → ad.block < w.heap.size := by
  intro h0 ad e
  obtain ⟨g, o, e2, hx⟩ := h.2 h0
  rw [e] at e2
  cases e2
  exact lt_of_cell (hx 0 (by have := h.1; omega))
end Go.Proofs.YtacekeobmijipaaDoor
