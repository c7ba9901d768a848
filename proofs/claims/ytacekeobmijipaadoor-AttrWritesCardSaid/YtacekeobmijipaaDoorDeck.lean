
/- The mill's deck as a state: what it is good for, whatever has been drawn. -/
import Derived.Test.YtacekeobmijipaaDoorMill
import Derived.Test.YtacekeobmijipaaDoorSl
set_option linter.unusedSimpArgs false
set_option linter.unusedVariables false
namespace Go.Proofs.YtacekeobmijipaaDoor
open Go.RowKit

/-- Block b is a deck over the list xs (which reads as A, n, c), at some place. -/
def Dk (w : World) (b : Nat) (A : Option Addr) (n c : Nat) (xs : List Int) : Prop :=
  b < w.heap.size ∧ n ≤ 9223372036854775807 ∧ RdI w A n xs ∧ (0 < n → ∀ ad, A = some ad → ad.block < b) ∧ ∃ k : Nat, k ≤ n ∧ w.cell? ⟨b, 0, none⟩ = some (.slice A n c) ∧ w.cell? ⟨b, 1, none⟩ = some (.int .i64 k) ∧ w.frozen? ⟨b, 1, none⟩ = false

theorem Dk.up {w w' : World} {b : Nat} {A : Option Addr} {n c : Nat} {xs : List Int} (h : Dk w b A n c xs) (hb : Bw w w') : Dk w' b A n c xs := by
  obtain ⟨h1, h2, h3, h4, k, h5, h6, h7, h8⟩ := h
  refine ⟨Nat.lt_of_lt_of_le h1 hb.size, h2, h3.up (fun hz ad e => Nat.lt_trans (h4 hz ad e) h1) hb, h4, k, h5, ?_, ?_, ?_⟩
  · rw [Below.cell hb (p := ⟨b, 0, none⟩) h1]; exact h6
  · rw [Below.cell hb (p := ⟨b, 1, none⟩) h1]; exact h7
  · rw [Below.frozen hb (p := ⟨b, 1, none⟩) h1]; exact h8
theorem Dk.grown {w w' : World} {b r : Nat} {A : Option Addr} {n c : Nat} {xs : List Int} (h : Dk w b A n c xs) (hg : w.grownBy w' (some r)) (hr : b < r) : Dk w' b A n c xs := by
  obtain ⟨h1, h2, h3, h4, k, h5, h6, h7, h8⟩ := h
  refine ⟨Nat.lt_of_lt_of_le h1 hg.size, h2, ⟨h3.1, fun i hi => ?_⟩, h4, k, h5, ?_, ?_, ?_⟩
  · obtain ⟨ad, e, hx⟩ := h3.2 i hi
    refine ⟨ad, e, ?_⟩
    have h9 := h4 (by have := h3.1; omega) ad e
    rw [grown_cell hg (by rw [addr_add_block]; omega) (by rw [addr_add_block]; omega)]
    exact hx
  · rw [grown_cell hg (p := ⟨b, 0, none⟩) h1 (by simp; omega)]; exact h6
  · rw [grown_cell hg (p := ⟨b, 1, none⟩) h1 (by simp; omega)]; exact h7
  · rw [grown_frozen hg (p := ⟨b, 1, none⟩) h1 (by simp; omega)]; exact h8
theorem Dk.made {w : World} {A : Option Addr} {n c : Nat} {xs : List Int} (hr : RdI w A n xs) (hA : 0 < n → ∀ ad, A = some ad → ad.block < w.heap.size) (hn : n ≤ 9223372036854775807) :
    Dk (w.alloc (.cells #[.slice A n c, .int .i64 0] 46)) w.heap.size A n c xs := by
  refine ⟨by simp, hn, hr.up hA (by repeat (first | with_reducible assumption | with_reducible exact Bw.refl _ | with_reducible refine Bw.alloc ?_ _ | with_reducible refine Bw.more ?_ _ _ | with_reducible refine Bw.drew ?_ | with_reducible refine Bw.drewN ?_ _ | ((with_reducible refine Bw.set2 ?_ ?_ _); (focus (first | omega | (simp only [szA, szS, szD, szN, plus_size, Array.size_append] <;> omega)))) | with_reducible refine Bw.trans ?_ (by with_reducible assumption))), hA, 0, Nat.zero_le _, (by repeat (first | ((with_reducible refine cell_alloc_here ?_ ?_); (focus (first | omega | (simp only [szA, szS, szD, szN, plus_size, Array.size_append] <;> omega))); (focus rfl)) | with_reducible refine cell_alloc_some ?_ _ | with_reducible refine cell_plus_some ?_ _ _ | ((with_reducible refine cell_set_some ?_ ?_); (focus (first | omega | (simp only [szA, szS, szD, szN, plus_size, Array.size_append] <;> omega)))) | with_reducible refine cell_drew_some ?_ | with_reducible refine cell_drewN_some ?_ _)), (by repeat (first | ((with_reducible refine cell_alloc_here ?_ ?_); (focus (first | omega | (simp only [szA, szS, szD, szN, plus_size, Array.size_append] <;> omega))); (focus rfl)) | with_reducible refine cell_alloc_some ?_ _ | with_reducible refine cell_plus_some ?_ _ _ | ((with_reducible refine cell_set_some ?_ ?_); (focus (first | omega | (simp only [szA, szS, szD, szN, plus_size, Array.size_append] <;> omega)))) | with_reducible refine cell_drew_some ?_ | with_reducible refine cell_drewN_some ?_ _)), by simp [go_sem]⟩

theorem mleft_dk (b : Nat) (A : Option Addr) (n c : Nat) (xs : List Int) (w : World) (hD : Dk w b A n c xs) :
    Calls Tryd.prog 12 #[.pointer (some ⟨b, 0, none⟩)] w fun e w' => ∃ t : Bool, e = .returned (.bool t) ∧ ∃ q, w.drewN q = w' := by
  obtain ⟨h1, h2, h3, h4, k, h5, h6, h7, h8⟩ := hD
  refine (mleft_any b A n c k w h6 h7).mono ?_
  rintro e w' ⟨rfl, q, rfl⟩
  exact ⟨_, rfl, q, rfl⟩

theorem mnext_dk (b : Nat) (A : Option Addr) (n c : Nat) (m : Int) (xs : List Int) (w : World) (hD : Dk w b A n c xs) (hm1 : 1 ≤ m) (hm2 : m ≤ 4611686018427387904) :
    Calls Tryd.prog 13 #[.pointer (some ⟨b, 0, none⟩), .int .i64 m] w fun e w' => ∃ v : Int, e = .returned (.int .i64 v) ∧ 0 ≤ v ∧ v < m ∧ Dk w' b A n c xs ∧ w.grownBy w' (some b) := by
  obtain ⟨h1, h2, h3, h4, k, h5, h6, h7, h8⟩ := hD
  refine (mnext_any b A n c k m xs w h6 h7 h8 h3 (fun hz ad e => Nat.ne_of_lt (h4 hz ad e)) h5 h2 hm1 hm2).mono ?_
  rintro e w' ⟨v, k', q, rfl, g1, g2, g3, rfl⟩
  have hg : w.grownBy ((w.setCell ⟨b, 1, none⟩ (.int .i64 k')).drewN q) (some b) := grown_drewN (grown_set (grown_refl w _) _ _) q
  refine ⟨v, rfl, g1, g2, ⟨by simpa using h1, h2, ⟨h3.1, fun i hi => ?_⟩, h4, k', g3, ?_, ?_, ?_⟩, hg⟩
  · obtain ⟨ad, e, hx⟩ := h3.2 i hi
    refine ⟨ad, e, ?_⟩
    have h9 := h4 (by have := h3.1; omega) ad e
    rw [grown_cell hg (by rw [addr_add_block]; omega) (by rw [addr_add_block]; omega)]
    exact hx
  · simp [go_sem, h6]
  · show (w.setCell ⟨b, 1, none⟩ (.int .i64 k')).cell? ⟨b, 1, none⟩ = _
    exact World.cell?_setCell_same _ _ _ h7
  · simp [go_sem, h8]


theorem Rd.lit' {α : Type} {f : α → Value} (w : World) (T : TypeId) (g : Nat) (cs : Array Value) (xs : List α) (n : Nat) (hg : g = w.heap.size) (hc : cs = (xs.map f).toArray) (hn : n = xs.length) : Rd f (w.alloc (.cells cs T)) (some ⟨g, 0, none⟩) n xs := by
  subst hg; exact Rd.lit w T cs xs n hc hn
theorem Dk.row {w w' : World} {b : Nat} {A : Option Addr} {n c : Nat} {xs : List Int} (h : Dk w b A n c xs) {v : Value} {base : Nat} {e : TypeId} {s m : Nat} {ys : List Value} (ho : w.ownsRow base e s v m ys) (hg : w.grownBy w' v.ownBlock) (hb : b < base) : Dk w' b A n c xs := by
  cases hob : v.ownBlock with
  | none => rw [hob] at hg; exact h.up (Bw.of_grown hg)
  | some r => rw [hob] at hg; exact h.grown hg (by have := ho.lt r hob; omega)
theorem Bw.row {w w1 w2 : World} (h : Bw w w1) {v : Value} {base : Nat} {e : TypeId} {s m : Nat} {ys : List Value} (ho : w1.ownsRow base e s v m ys) (hg : w1.grownBy w2 v.ownBlock) (hb : w.heap.size ≤ base) : Bw w w2 :=
  Bw.grown h hg (fun k hk => by have := ho.lt k hk; omega)
end Go.Proofs.YtacekeobmijipaaDoor
