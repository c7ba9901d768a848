/- Walks of the mill's deck: each draw is a number in its range, and only the deck's place moves. -/
import Derived.Test.YtacekeobmijipaaDoorBase
set_option linter.unusedSimpArgs false
set_option linter.unusedVariables false
namespace Go.Proofs.YtacekeobmijipaaDoor
open Go.RowKit

theorem addr_add_block (a : Addr) (n : Nat) : (a.add n).block = a.block := by unfold Addr.add; split <;> rfl

theorem drew_set (w : World) (q r : Nat) (p : Addr) (v : Value) : (((w.drewN q).setCell p v).drewN r) = (w.setCell p v).drewN (q + r) := by
  rw [← World.drewN_drewN]; rfl
theorem set_same (w : World) {p : Addr} {v : Value} (h : w.cell? p = some v) : w.setCell p v = w := by
  have e : (w.setCell p v).heap = w.heap := by
    unfold World.setCell
    dsimp only
    apply Array.ext_getElem?
    intro i
    rw [Array.getElem?_modify]
    split
    · rename_i hi
      subst hi
      unfold World.cell? at h
      cases hb : w.heap[p.block]? with
      | none => rfl
      | some o =>
        rw [hb] at h
        cases o with
        | cells c el fr =>
          simp only at h
          by_cases hs : p.spot.isSome
          · rw [if_pos hs] at h; cases h
          · rw [if_neg hs] at h
            obtain ⟨hl, hv⟩ := Array.getElem?_eq_some_iff.1 h
            simp only [Option.map_some, if_neg hs]
            congr 2
            apply Array.ext_getElem?
            intro j
            rw [Array.getElem?_setIfInBounds]
            split
            · rename_i hj; subst hj; exact h.symm
            · rfl
        | _ => rfl
    · rfl
  have e2 : w.setCell p v = { w with heap := (w.setCell p v).heap } := rfl
  rw [e2, e]

theorem mmod_any (v n : Int) (w : World) (h1 : 1 ≤ n) (h2 : n ≤ 4611686018427387904) :
    Calls Tryd.prog 18 #[.int .i64 v, .int .i64 n] w fun e w' => e = .returned (.int .i64 (v % n)) ∧ w = w' := by
  have hb := Int.emod_nonneg v (show n ≠ 0 by omega)
  have hb2 := Int.emod_lt_of_pos v (show 0 < n by omega)
  by_cases hv : 0 ≤ v
  · go_enter Tryd.func18, Tryd.ntmps18
    go_wp2
    go_ret
    exact ⟨rfl, rfl⟩
  · have ht : v.tmod n = if v % n = 0 then 0 else v % n - n := by
      rw [Int.tmod_eq_emod]
      split <;> split <;> omega
    go_enter Tryd.func18, Tryd.ntmps18
    go_wp2
    · go_ret
      exact ⟨rfl, rfl⟩
    · go_ret
      refine ⟨ret_int ?_, rfl⟩
      first | rfl | omega | (show _ = _; simp; omega)

theorem mnew_any (A : Option Addr) (n c : Nat) (w : World) :
    Calls Tryd.prog 11 #[.slice A n c] w fun e w' => e = .returned (.pointer (some ⟨w.heap.size, 0, none⟩)) ∧ w.alloc (.cells #[.slice A n c, .int .i64 0] 46) = w' := by
  go_enter Tryd.func11, Tryd.ntmps11
  go_wp2
  go_ret
  exact ⟨rfl, rfl⟩

theorem mleft_any (b : Nat) (A : Option Addr) (n c k : Nat) (w : World) (h0 : w.cell? ⟨b, 0, none⟩ = some (.slice A n c)) (h1 : w.cell? ⟨b, 1, none⟩ = some (.int .i64 k)) :
    Calls Tryd.prog 12 #[.pointer (some ⟨b, 0, none⟩)] w fun e w' => e = .returned (.bool (decide ((k : Int) < n))) ∧ ∃ q, w' = w.drewN q := by
  go_enter Tryd.func12, Tryd.ntmps12
  go_wp2
  go_quiet (fail)
  go_wp2
  go_ret
  exact ⟨ret_bool (by simp), _, rfl⟩

/-- What a list argument reads as: number i lies at place i. -/
def RdI (w : World) (A : Option Addr) (n : Nat) (xs : List Int) : Prop :=
  xs.length = n ∧ ∀ i (h : i < xs.length), ∃ ad, A = some ad ∧ w.cell? (ad.add i) = some (.int .i64 xs[i])

theorem RdI.up {w w' : World} {A : Option Addr} {n : Nat} {xs : List Int} (h : RdI w A n xs) (hA : 0 < n → ∀ ad, A = some ad → ad.block < w.heap.size) (hb : Bw w w') : RdI w' A n xs :=
  ⟨h.1, fun i hi => by
    obtain ⟨ad, e, hx⟩ := h.2 i hi
    refine ⟨ad, e, ?_⟩
    rw [Below.cell hb (p := ad.add i) (by rw [addr_add_block]; exact hA (by have := h.1; omega) ad e)]
    exact hx⟩

theorem mnext_end (b : Nat) (A : Option Addr) (n c k : Nat) (m : Int) (w : World) (h0 : w.cell? ⟨b, 0, none⟩ = some (.slice A n c)) (h1 : w.cell? ⟨b, 1, none⟩ = some (.int .i64 k)) (hk : ¬ k < n) :
    Calls Tryd.prog 13 #[.pointer (some ⟨b, 0, none⟩), .int .i64 m] w fun e w' => e = .returned (.int .i64 0) ∧ ∃ q, w' = w.drewN q := by
  have hd : decide ((k : Int) < n) = false := by simp; omega
  go_enter Tryd.func13, Tryd.ntmps13
  go_wp2_with (go_at_call 12; refine (mleft_any _ _ _ _ _ _ h0 h1).mono ?_; rintro e w' ⟨rfl, q, rfl⟩; rw [hd])
  go_ret
  exact ⟨rfl, _, rfl⟩

theorem mnext_go (b : Nat) (ad : Addr) (n c k : Nat) (m x : Int) (w : World) (h0 : w.cell? ⟨b, 0, none⟩ = some (.slice (some ad) n c)) (h1 : w.cell? ⟨b, 1, none⟩ = some (.int .i64 k)) (hf : w.frozen? ⟨b, 1, none⟩ = false) (hk : k < n)
    (hx : w.cell? (ad.add k) = some (.int .i64 x)) (ha : ad.block ≠ b) (hn : n ≤ 9223372036854775807) (hm1 : 1 ≤ m) (hm2 : m ≤ 4611686018427387904) :
    Calls Tryd.prog 13 #[.pointer (some ⟨b, 0, none⟩), .int .i64 m] w fun e w' => e = .returned (.int .i64 (x % m)) ∧ ∃ q, w' = (w.setCell ⟨b, 1, none⟩ (.int .i64 ((k + 1 : Nat) : Int))).drewN q := by
  have hd : decide ((k : Int) < n) = true := by simp; omega
  go_enter Tryd.func13, Tryd.ntmps13
  go_wp2_with (go_at_call 12; refine (mleft_any _ _ _ _ _ _ h0 h1).mono ?_; rintro e w' ⟨rfl, q, rfl⟩; rw [hd])
  have hx' : ∀ v, (w.setCell ⟨b, 1, none⟩ v).cell? (ad.add k) = some (.int .i64 x) := fun v => by
    rw [World.cell?_setCell_other]
    · exact hx
    · intro e
      have := congrArg Addr.block e
      rw [addr_add_block] at this
      exact ha this.symm
  have e1 : (0 : Int) ≤ k := by omega
  have e2 : (k : Int) < n := by omega
  have e3 : (k : Int) ≤ 9223372036854775806 := by omega
  have e4 : IntKind.i64.wrap ((k : Int) + 1 - 1) = k := by rw [IntKind.wrap_i64]; omega
  go_quiet ((go_at_call 18; exact calls_qa (mmod_any _ _ _ hm1 hm2)))
  go_wp2
  go_ret
  exact ⟨rfl, q + nq, by rw [show ((k : Int) + 1) = ((k + 1 : Nat) : Int) from by omega, World.drewN_drewN]⟩

/-- A draw of the deck: some number in the range; only the deck's place moves. -/
theorem mnext_any (b : Nat) (A : Option Addr) (n c k : Nat) (m : Int) (xs : List Int) (w : World) (h0 : w.cell? ⟨b, 0, none⟩ = some (.slice A n c)) (h1 : w.cell? ⟨b, 1, none⟩ = some (.int .i64 k)) (hf : w.frozen? ⟨b, 1, none⟩ = false)
    (hr : RdI w A n xs) (ha : 0 < n → ∀ ad, A = some ad → ad.block ≠ b) (hk : k ≤ n) (hn : n ≤ 9223372036854775807) (hm1 : 1 ≤ m) (hm2 : m ≤ 4611686018427387904) :
    Calls Tryd.prog 13 #[.pointer (some ⟨b, 0, none⟩), .int .i64 m] w fun e w' => ∃ v : Int, ∃ k' : Nat, ∃ q, e = .returned (.int .i64 v) ∧ 0 ≤ v ∧ v < m ∧ k' ≤ n ∧ (w.setCell ⟨b, 1, none⟩ (.int .i64 k')).drewN q = w' := by
  by_cases hlt : k < n
  · obtain ⟨ad, e, hx⟩ := hr.2 k (by have := hr.1; omega)
    subst e
    refine (mnext_go b ad n c k m _ w h0 h1 hf hlt hx (ha (by omega) _ rfl) hn hm1 hm2).mono ?_
    rintro e w' ⟨rfl, q, rfl⟩
    exact ⟨_, k + 1, q, rfl, Int.emod_nonneg _ (by omega), Int.emod_lt_of_pos _ (by omega), by omega, rfl⟩
  · refine (mnext_end b A n c k m w h0 h1 hlt).mono ?_
    rintro e w' ⟨rfl, q, rfl⟩
    exact ⟨0, k, q, rfl, by omega, by omega, hk, by rw [set_same w h1]⟩

end Go.Proofs.YtacekeobmijipaaDoor
