/- Small words used by all walks of this seat. -/
import Derived.Test.YtacekeobmijipaaDoorRows
import Derived.WalkKit
import Derived.ProofKit
import Derived.OpenShut
import Derived.Lib.Hide
import Derived.BigQuiet
import Derived.Deep.QuietTactic
import Derived.Deep.DeepFit
import Derived.WalkSpells
set_option linter.unusedSimpArgs false
set_option linter.unusedVariables false
namespace Go.Proofs.YtacekeobmijipaaDoor
open Go.RowKit

theorem ret_bool {a b : Bool} (h : a = b) : Ending.returned (.bool a) = .returned (.bool b) := by rw [h]
theorem ret_int {k : IntKind} {a b : Int} (h : a = b) : Ending.returned (.int k a) = .returned (.int k b) := by rw [h]

/-- All that was there before the call is as it was. -/
def Bw (w w' : World) : Prop := Below w.heap.size w w'
theorem Bw.refl (w : World) : Bw w w := Below.refl _ _
theorem Bw.alloc {w w' : World} (h : Bw w w') (o : Obj) : Bw w (w'.alloc o) := Below.alloc h h.size o
theorem Bw.drew {w w' : World} (h : Bw w w') : Bw w w'.drew := Below.drew h
theorem Bw.drewN {w w' : World} (h : Bw w w') (n : Nat) : Bw w (w'.drewN n) := ⟨h.os, h.tape, h.output, h.size, h.block⟩
theorem Bw.set {w w' : World} (h : Bw w w') {p : Addr} (hp : w.heap.size ≤ p.block) (u : Value) : Bw w (w'.setCell p u) := Below.setCell h hp u
theorem Bw.set2 {w w' : World} {p : Addr} (hp : w.heap.size ≤ p.block) (h : Bw w w') (u : Value) : Bw w (w'.setCell p u) := Below.setCell h hp u
theorem Bw.trans {w w1 w2 : World} (h : Bw w w1) (k : Bw w1 w2) : Bw w w2 := Below.trans h (Below.mono k h.size)
theorem Bw.facts {w w1 : World} (h : Bw w w1) : (∀ b o, b < w.heap.size → w1.cell? ⟨b, o, none⟩ = w.cell? ⟨b, o, none⟩) ∧ (∀ b o, b < w.heap.size → w1.frozen? ⟨b, o, none⟩ = w.frozen? ⟨b, o, none⟩) ∧ w.heap.size ≤ w1.heap.size :=
  ⟨fun b o hb => Below.cell h (p := ⟨b, o, none⟩) hb, fun b o hb => Below.frozen h (p := ⟨b, o, none⟩) hb, h.size⟩
theorem heapsz (w : World) (o : Obj) : (w.alloc o).heap.size = w.heap.size + 1 := by simp
theorem hz0 (w : World) (p : Addr) (u : Value) : (w.setCell p u).heap.size = w.heap.size := by simp [World.setCell]
/-- A callee that leaves its world alone, met in a quiet region: at a world that has drawn nothing yet, or some. -/
theorem calls_q {P : Program} {f : FuncId} {args : Array Value} {w : World} {n : Nat} {v : Value} (h : Calls P f args (w.drewN n) fun e w' => e = .returned v ∧ w.drewN n = w') :
    Calls P f args (w.drewN n) fun e w' => e = .returned v ∧ ∃ m, w' = w.drewN m := h.mono fun _ _ ⟨he, hw⟩ => ⟨he, n, hw.symm⟩
theorem calls_qa {P : Program} {f : FuncId} {args : Array Value} {w : World} {a n : Nat} {v : Value} (h : Calls P f args (w.drewN (a + n)) fun e w' => e = .returned v ∧ w.drewN (a + n) = w') :
    Calls P f args (w.drewN (a + n)) fun e w' => e = .returned v ∧ ∃ m, w' = w.drewN (a + m) := h.mono fun _ _ ⟨he, hw⟩ => ⟨he, n, hw.symm⟩
/-- A world with blocks added behind all that it has, and some count of draws. -/
def plus (w : World) (L : Array Obj) (d : Nat) : World := { w with heap := w.heap ++ L, drawn := d }
theorem Bw.isPlus {w w' : World} (h : Bw w w') : ∃ L d, plus w L d = w' := by
  refine ⟨w'.heap.extract w.heap.size w'.heap.size, w'.drawn, ?_⟩
  have e : w.heap ++ w'.heap.extract w.heap.size w'.heap.size = w'.heap := by
    apply Array.ext_getElem?
    intro i
    have hs := h.size
    rw [Array.getElem?_append]
    split
    · rename_i hi
      exact (h.block i hi).symm
    · rename_i hi
      rw [Array.getElem?_extract]
      split
      · congr 1; omega
      · rename_i h2
        rw [Array.getElem?_eq_none (by omega)]
  unfold Go.Proofs.YtacekeobmijipaaDoor.plus
  rw [e]
  cases w; cases w'
  have h1 := h.os; have h2 := h.tape; have h3 := h.output
  simp only at h1 h2 h3
  subst h1; subst h2; subst h3; rfl
@[go_sem] theorem plus_size (w : World) (L : Array Obj) (d : Nat) : (plus w L d).heap.size = w.heap.size + L.size := by simp [plus]
theorem plus_heap (w : World) (L : Array Obj) (d b : Nat) (h : b < w.heap.size) : (plus w L d).heap[b]? = w.heap[b]? := by
  show (w.heap ++ L)[b]? = _
  rw [Array.getElem?_append, if_pos h]
@[go_sem] theorem plus_cell (w : World) (L : Array Obj) (d : Nat) (p : Addr) (h : p.block < w.heap.size) : (plus w L d).cell? p = w.cell? p := World.cell?_of_block (plus_heap w L d _ h)
@[go_sem] theorem plus_frozen (w : World) (L : Array Obj) (d : Nat) (p : Addr) (h : p.block < w.heap.size) : (plus w L d).frozen? p = w.frozen? p := World.frozen?_of_block (plus_heap w L d _ h)
@[go_sem] theorem plus_set (w : World) (L : Array Obj) (d : Nat) (p : Addr) (v : Value) (h : p.block < w.heap.size) : (plus w L d).setCell p v = plus (w.setCell p v) L d := by
  have e : ((plus w L d).setCell p v).heap = (plus (w.setCell p v) L d).heap := by
    apply Array.ext_getElem?
    intro i
    unfold Go.Proofs.YtacekeobmijipaaDoor.plus World.setCell
    dsimp only
    rw [Array.getElem?_modify, Array.getElem?_append, Array.getElem?_append, Array.getElem?_modify, Array.size_modify]
    split
    · rename_i hi; subst hi; rw [if_pos h, if_pos h]
    · split <;> simp
  have e2 : (plus w L d).setCell p v = { plus (w.setCell p v) L d with heap := ((plus w L d).setCell p v).heap } := rfl
  rw [e2, e]
@[go_sem] theorem plus_drewN (w : World) (L : Array Obj) (d q : Nat) : (plus w L d).drewN q = plus w L (d + q) := rfl
@[go_sem] theorem plus_drew (w : World) (L : Array Obj) (d : Nat) : (plus w L d).drew = plus w L (d + 1) := rfl
@[go_sem] theorem drewN_plus (w : World) (L : Array Obj) (d q : Nat) : plus (w.drewN q) L d = plus w L d := rfl
@[go_sem] theorem drew_plus (w : World) (L : Array Obj) (d : Nat) : plus w.drew L d = plus w L d := rfl
@[go_sem] theorem plus_plus (w : World) (L L' : Array Obj) (d d' : Nat) : plus (plus w L d) L' d' = plus w (L ++ L') d' := by
  unfold Go.Proofs.YtacekeobmijipaaDoor.plus; simp only [Array.append_assoc]
theorem Bw.un {w w1 : World} {L : Array Obj} {d : Nat} (h : Bw (Go.Proofs.YtacekeobmijipaaDoor.plus w L d) w1) : Bw w w1 :=
  ⟨h.os, h.tape, h.output, by have := h.size; rw [plus_size] at this; omega, fun k hk => (h.block k (by rw [plus_size]; omega)).trans (plus_heap _ _ _ _ hk)⟩
theorem Bw.more {w w' : World} (h : Bw w w') (L : Array Obj) (d : Nat) : Bw w (Go.Proofs.YtacekeobmijipaaDoor.plus w' L d) :=
  ⟨h.os, h.tape, h.output, by rw [plus_size]; have := h.size; omega, fun k hk => (plus_heap _ _ _ _ (by have := h.size; omega)).trans (h.block k hk)⟩
theorem lt_of_cell {w : World} {p : Addr} {v : Value} (h : w.cell? p = some v) : p.block < w.heap.size := by
  rcases Nat.lt_or_ge p.block w.heap.size with hl | hl
  · exact hl
  · unfold World.cell? at h; rw [Array.getElem?_eq_none hl] at h; cases h
theorem cell_alloc_some {w : World} {p : Addr} {v : Value} (h : w.cell? p = some v) (o : Obj) : (w.alloc o).cell? p = some v :=
  (World.cell?_of_block (Below.heap_alloc w o _ (lt_of_cell h))).trans h
theorem cell_plus_some {w : World} {p : Addr} {v : Value} (h : w.cell? p = some v) (L : Array Obj) (d : Nat) : (plus w L d).cell? p = some v :=
  (plus_cell w L d p (lt_of_cell h)).trans h
theorem cell_set_some {w : World} {p q : Addr} {v u : Value} (hne : p.block ≠ q.block) (h : w.cell? p = some v) : (w.setCell q u).cell? p = some v :=
  (World.cell?_of_block (Below.heap_setCell w q u _ hne)).trans h
theorem cell_alloc_here {w : World} {g i : Nat} {v : Value} {cs : Array Value} {T : TypeId} {fr : Nat × Nat} (hg : g = w.heap.size) (h : cs[i]? = some v) : (w.alloc (.cells cs T fr)).cell? ⟨g, i, none⟩ = some v := by
  subst hg
  unfold World.cell?
  rw [heap_alloc_new]
  exact h
theorem cell_drew_some {w : World} {p : Addr} {v : Value} (h : w.cell? p = some v) : w.drew.cell? p = some v := h
theorem cell_drewN_some {w : World} {p : Addr} {v : Value} (h : w.cell? p = some v) (n : Nat) : (w.drewN n).cell? p = some v := h
/- Which block is older than which: sums that only grow. -/
@[go_sem] theorem le_sum1 (a x0 : Nat) : (a ≤ a + x0) = True := eq_true (by omega)
@[go_sem] theorem lt_sum1 (a x0 : Nat) : (a < a + 1 + x0) = True := eq_true (by omega)
@[go_sem] theorem le_more1 {a b : Nat} (x0 : Nat) (h : a ≤ b) : (a ≤ b + x0) = True := eq_true (by omega)
@[go_sem] theorem lt_more1 {a b : Nat} (x0 : Nat) (h : a < b) : (a < b + x0) = True := eq_true (by omega)
@[go_sem] theorem lt_le_more1 {a b : Nat} (x0 : Nat) (h : a < b) : (a ≤ b + x0) = True := eq_true (by omega)
@[go_sem] theorem le_sum2 (a x0 x1 : Nat) : (a ≤ a + x0 + x1) = True := eq_true (by omega)
@[go_sem] theorem lt_sum2 (a x0 x1 : Nat) : (a < a + 1 + x0 + x1) = True := eq_true (by omega)
@[go_sem] theorem le_more2 {a b : Nat} (x0 x1 : Nat) (h : a ≤ b) : (a ≤ b + x0 + x1) = True := eq_true (by omega)
@[go_sem] theorem lt_more2 {a b : Nat} (x0 x1 : Nat) (h : a < b) : (a < b + x0 + x1) = True := eq_true (by omega)
@[go_sem] theorem lt_le_more2 {a b : Nat} (x0 x1 : Nat) (h : a < b) : (a ≤ b + x0 + x1) = True := eq_true (by omega)
@[go_sem] theorem le_sum3 (a x0 x1 x2 : Nat) : (a ≤ a + x0 + x1 + x2) = True := eq_true (by omega)
@[go_sem] theorem lt_sum3 (a x0 x1 x2 : Nat) : (a < a + 1 + x0 + x1 + x2) = True := eq_true (by omega)
@[go_sem] theorem le_more3 {a b : Nat} (x0 x1 x2 : Nat) (h : a ≤ b) : (a ≤ b + x0 + x1 + x2) = True := eq_true (by omega)
@[go_sem] theorem lt_more3 {a b : Nat} (x0 x1 x2 : Nat) (h : a < b) : (a < b + x0 + x1 + x2) = True := eq_true (by omega)
@[go_sem] theorem lt_le_more3 {a b : Nat} (x0 x1 x2 : Nat) (h : a < b) : (a ≤ b + x0 + x1 + x2) = True := eq_true (by omega)
@[go_sem] theorem le_sum4 (a x0 x1 x2 x3 : Nat) : (a ≤ a + x0 + x1 + x2 + x3) = True := eq_true (by omega)
@[go_sem] theorem lt_sum4 (a x0 x1 x2 x3 : Nat) : (a < a + 1 + x0 + x1 + x2 + x3) = True := eq_true (by omega)
@[go_sem] theorem le_more4 {a b : Nat} (x0 x1 x2 x3 : Nat) (h : a ≤ b) : (a ≤ b + x0 + x1 + x2 + x3) = True := eq_true (by omega)
@[go_sem] theorem lt_more4 {a b : Nat} (x0 x1 x2 x3 : Nat) (h : a < b) : (a < b + x0 + x1 + x2 + x3) = True := eq_true (by omega)
@[go_sem] theorem lt_le_more4 {a b : Nat} (x0 x1 x2 x3 : Nat) (h : a < b) : (a ≤ b + x0 + x1 + x2 + x3) = True := eq_true (by omega)
@[go_sem] theorem le_sum5 (a x0 x1 x2 x3 x4 : Nat) : (a ≤ a + x0 + x1 + x2 + x3 + x4) = True := eq_true (by omega)
@[go_sem] theorem lt_sum5 (a x0 x1 x2 x3 x4 : Nat) : (a < a + 1 + x0 + x1 + x2 + x3 + x4) = True := eq_true (by omega)
@[go_sem] theorem le_more5 {a b : Nat} (x0 x1 x2 x3 x4 : Nat) (h : a ≤ b) : (a ≤ b + x0 + x1 + x2 + x3 + x4) = True := eq_true (by omega)
@[go_sem] theorem lt_more5 {a b : Nat} (x0 x1 x2 x3 x4 : Nat) (h : a < b) : (a < b + x0 + x1 + x2 + x3 + x4) = True := eq_true (by omega)
@[go_sem] theorem lt_le_more5 {a b : Nat} (x0 x1 x2 x3 x4 : Nat) (h : a < b) : (a ≤ b + x0 + x1 + x2 + x3 + x4) = True := eq_true (by omega)
@[go_sem] theorem le_sum6 (a x0 x1 x2 x3 x4 x5 : Nat) : (a ≤ a + x0 + x1 + x2 + x3 + x4 + x5) = True := eq_true (by omega)
@[go_sem] theorem lt_sum6 (a x0 x1 x2 x3 x4 x5 : Nat) : (a < a + 1 + x0 + x1 + x2 + x3 + x4 + x5) = True := eq_true (by omega)
@[go_sem] theorem le_more6 {a b : Nat} (x0 x1 x2 x3 x4 x5 : Nat) (h : a ≤ b) : (a ≤ b + x0 + x1 + x2 + x3 + x4 + x5) = True := eq_true (by omega)
@[go_sem] theorem lt_more6 {a b : Nat} (x0 x1 x2 x3 x4 x5 : Nat) (h : a < b) : (a < b + x0 + x1 + x2 + x3 + x4 + x5) = True := eq_true (by omega)
@[go_sem] theorem lt_le_more6 {a b : Nat} (x0 x1 x2 x3 x4 x5 : Nat) (h : a < b) : (a ≤ b + x0 + x1 + x2 + x3 + x4 + x5) = True := eq_true (by omega)
@[go_sem] theorem le_sum7 (a x0 x1 x2 x3 x4 x5 x6 : Nat) : (a ≤ a + x0 + x1 + x2 + x3 + x4 + x5 + x6) = True := eq_true (by omega)
@[go_sem] theorem lt_sum7 (a x0 x1 x2 x3 x4 x5 x6 : Nat) : (a < a + 1 + x0 + x1 + x2 + x3 + x4 + x5 + x6) = True := eq_true (by omega)
@[go_sem] theorem le_more7 {a b : Nat} (x0 x1 x2 x3 x4 x5 x6 : Nat) (h : a ≤ b) : (a ≤ b + x0 + x1 + x2 + x3 + x4 + x5 + x6) = True := eq_true (by omega)
@[go_sem] theorem lt_more7 {a b : Nat} (x0 x1 x2 x3 x4 x5 x6 : Nat) (h : a < b) : (a < b + x0 + x1 + x2 + x3 + x4 + x5 + x6) = True := eq_true (by omega)
@[go_sem] theorem lt_le_more7 {a b : Nat} (x0 x1 x2 x3 x4 x5 x6 : Nat) (h : a < b) : (a ≤ b + x0 + x1 + x2 + x3 + x4 + x5 + x6) = True := eq_true (by omega)
@[go_sem] theorem le_sum8 (a x0 x1 x2 x3 x4 x5 x6 x7 : Nat) : (a ≤ a + x0 + x1 + x2 + x3 + x4 + x5 + x6 + x7) = True := eq_true (by omega)
@[go_sem] theorem lt_sum8 (a x0 x1 x2 x3 x4 x5 x6 x7 : Nat) : (a < a + 1 + x0 + x1 + x2 + x3 + x4 + x5 + x6 + x7) = True := eq_true (by omega)
@[go_sem] theorem le_more8 {a b : Nat} (x0 x1 x2 x3 x4 x5 x6 x7 : Nat) (h : a ≤ b) : (a ≤ b + x0 + x1 + x2 + x3 + x4 + x5 + x6 + x7) = True := eq_true (by omega)
@[go_sem] theorem lt_more8 {a b : Nat} (x0 x1 x2 x3 x4 x5 x6 x7 : Nat) (h : a < b) : (a < b + x0 + x1 + x2 + x3 + x4 + x5 + x6 + x7) = True := eq_true (by omega)
@[go_sem] theorem lt_le_more8 {a b : Nat} (x0 x1 x2 x3 x4 x5 x6 x7 : Nat) (h : a < b) : (a ≤ b + x0 + x1 + x2 + x3 + x4 + x5 + x6 + x7) = True := eq_true (by omega)
@[go_sem] theorem le_sum9 (a x0 x1 x2 x3 x4 x5 x6 x7 x8 : Nat) : (a ≤ a + x0 + x1 + x2 + x3 + x4 + x5 + x6 + x7 + x8) = True := eq_true (by omega)
@[go_sem] theorem lt_sum9 (a x0 x1 x2 x3 x4 x5 x6 x7 x8 : Nat) : (a < a + 1 + x0 + x1 + x2 + x3 + x4 + x5 + x6 + x7 + x8) = True := eq_true (by omega)
@[go_sem] theorem le_more9 {a b : Nat} (x0 x1 x2 x3 x4 x5 x6 x7 x8 : Nat) (h : a ≤ b) : (a ≤ b + x0 + x1 + x2 + x3 + x4 + x5 + x6 + x7 + x8) = True := eq_true (by omega)
@[go_sem] theorem lt_more9 {a b : Nat} (x0 x1 x2 x3 x4 x5 x6 x7 x8 : Nat) (h : a < b) : (a < b + x0 + x1 + x2 + x3 + x4 + x5 + x6 + x7 + x8) = True := eq_true (by omega)
@[go_sem] theorem lt_le_more9 {a b : Nat} (x0 x1 x2 x3 x4 x5 x6 x7 x8 : Nat) (h : a < b) : (a ≤ b + x0 + x1 + x2 + x3 + x4 + x5 + x6 + x7 + x8) = True := eq_true (by omega)
theorem szA (w : World) (o : Obj) : (w.alloc o).heap.size = w.heap.size + 1 := by simp
theorem szS (w : World) (p : Addr) (u : Value) : (w.setCell p u).heap.size = w.heap.size := by simp [World.setCell]
theorem szD (w : World) : w.drew.heap.size = w.heap.size := rfl
theorem szN (w : World) (n : Nat) : (w.drewN n).heap.size = w.heap.size := rfl
@[go_sem] theorem set_drewN (w : World) (n : Nat) (p : Addr) (v : Value) : (w.drewN n).setCell p v = (w.setCell p v).drewN n := rfl
@[go_sem] theorem alloc_drewN (w : World) (n : Nat) (o : Obj) : (w.drewN n).alloc o = (w.alloc o).drewN n := rfl
end Go.Proofs.YtacekeobmijipaaDoor
