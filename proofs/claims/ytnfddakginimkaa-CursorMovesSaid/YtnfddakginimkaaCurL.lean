/- The inputs of the cursor's laws: a valid cursor, margins and a size. -/
import Derived.Test.YtnfddakginimkaaCurA
import Derived.Test.YtnfddakginimkaaMill
set_option linter.unusedSimpArgs false
set_option linter.unusedVariables false
namespace Go.Proofs.Ytnfddakginimkaa
open Go.RowKit

def MadeP (w : World) (e : Ending) (w' : World) : Prop :=
  ∃ (r c : Int) (b : Bool) (t m rows cols : Int), e = .returned (.tuple #[.agg #[.int .i64 r, .int .i64 c, .bool b], .agg #[.int .i64 t, .int .i64 m], .int .i64 rows, .int .i64 cols]) ∧
    (1 ≤ rows ∧ rows ≤ 9 ∧ 1 ≤ cols ∧ cols ≤ 30) ∧ (0 ≤ r ∧ r < rows ∧ 0 ≤ c ∧ c < cols) ∧ (0 ≤ t ∧ t ≤ m ∧ m < rows) ∧ Bw w w'

set_option maxHeartbeats 1000000 in
theorem made17_any (A : Option Addr) (n cap : Nat) (xs : List Int) (w : World) (hr : RdI w A n xs) (hA : 0 < n → ∀ ad, A = some ad → ad.block < w.heap.size) (hn : n ≤ 9223372036854775807) :
    Calls Try.prog 7 #[.slice A n cap] w (MadeP w) := by
  go_enter Try.func7, Try.ntmps7
  go_wp2_with (go_at_call 13; refine (mnew_any _ _ _ _).mono ?_; rintro ee ww ⟨rfl, rfl⟩)
  (refine (mrange_any _ A n cap 0 _ _ xs _ (by go_simp) (by go_simp) (by go_simp) (by exact hr.up hA (by repeat (first | with_reducible assumption | with_reducible exact Bw.refl _ | with_reducible refine Bw.alloc ?_ _ | with_reducible refine Bw.more ?_ _ _ | with_reducible refine Bw.drew ?_ | with_reducible refine Bw.drewN ?_ _ | ((with_reducible refine Bw.set2 ?_ ?_ _); (focus (first | omega | (simp only [szA, szS, szD, szN, plus_size] <;> omega)))) | with_reducible refine Bw.trans ?_ (by with_reducible assumption)))) (fun hz ad e => by have := hA hz ad e; omega) (by omega) (by omega) (by omega) (by omega) (by omega)).mono ?_; rintro e w' ⟨v1, k1, q1, rfl, va1, vb1, hk1, rfl⟩)
  go_wp2_with fail
  (refine (mrange_any _ A n cap k1 _ _ xs _ (by go_simp) (by go_simp) (by go_simp) (by exact hr.up hA (by repeat (first | with_reducible assumption | with_reducible exact Bw.refl _ | with_reducible refine Bw.alloc ?_ _ | with_reducible refine Bw.more ?_ _ _ | with_reducible refine Bw.drew ?_ | with_reducible refine Bw.drewN ?_ _ | ((with_reducible refine Bw.set2 ?_ ?_ _); (focus (first | omega | (simp only [szA, szS, szD, szN, plus_size] <;> omega)))) | with_reducible refine Bw.trans ?_ (by with_reducible assumption)))) (fun hz ad e => by have := hA hz ad e; omega) (by omega) (by omega) (by omega) (by omega) (by omega)).mono ?_; rintro e w' ⟨v2, k2, q2, rfl, va2, vb2, hk2, rfl⟩)
  go_wp2_with fail
  (refine (mnext_any _ A n cap k2 _ xs _ (by go_simp) (by go_simp) (by go_simp) (by exact hr.up hA (by repeat (first | with_reducible assumption | with_reducible exact Bw.refl _ | with_reducible refine Bw.alloc ?_ _ | with_reducible refine Bw.more ?_ _ _ | with_reducible refine Bw.drew ?_ | with_reducible refine Bw.drewN ?_ _ | ((with_reducible refine Bw.set2 ?_ ?_ _); (focus (first | omega | (simp only [szA, szS, szD, szN, plus_size] <;> omega)))) | with_reducible refine Bw.trans ?_ (by with_reducible assumption)))) (fun hz ad e => by have := hA hz ad e; omega) (by omega) (by omega) (by omega) (by omega)).mono ?_; rintro e w' ⟨v3, k3, q3, rfl, va3, vb3, hk3, rfl⟩)
  go_wp2_with fail
  (refine (mnext_any _ A n cap k3 _ xs _ (by go_simp) (by go_simp) (by go_simp) (by exact hr.up hA (by repeat (first | with_reducible assumption | with_reducible exact Bw.refl _ | with_reducible refine Bw.alloc ?_ _ | with_reducible refine Bw.more ?_ _ _ | with_reducible refine Bw.drew ?_ | with_reducible refine Bw.drewN ?_ _ | ((with_reducible refine Bw.set2 ?_ ?_ _); (focus (first | omega | (simp only [szA, szS, szD, szN, plus_size] <;> omega)))) | with_reducible refine Bw.trans ?_ (by with_reducible assumption)))) (fun hz ad e => by have := hA hz ad e; omega) (by omega) (by omega) (by omega) (by omega)).mono ?_; rintro e w' ⟨v4, k4, q4, rfl, va4, vb4, hk4, rfl⟩)
  go_wp2_with fail
  (refine (mnext_any _ A n cap k4 _ xs _ (by go_simp) (by go_simp) (by go_simp) (by exact hr.up hA (by repeat (first | with_reducible assumption | with_reducible exact Bw.refl _ | with_reducible refine Bw.alloc ?_ _ | with_reducible refine Bw.more ?_ _ _ | with_reducible refine Bw.drew ?_ | with_reducible refine Bw.drewN ?_ _ | ((with_reducible refine Bw.set2 ?_ ?_ _); (focus (first | omega | (simp only [szA, szS, szD, szN, plus_size] <;> omega)))) | with_reducible refine Bw.trans ?_ (by with_reducible assumption)))) (fun hz ad e => by have := hA hz ad e; omega) (by omega) (by omega) (by omega) (by omega)).mono ?_; rintro e w' ⟨v5, k5, q5, rfl, va5, vb5, hk5, rfl⟩)
  go_wp2_with fail
  (refine (mnext_any _ A n cap k5 _ xs _ (by go_simp) (by go_simp) (by go_simp) (by exact hr.up hA (by repeat (first | with_reducible assumption | with_reducible exact Bw.refl _ | with_reducible refine Bw.alloc ?_ _ | with_reducible refine Bw.more ?_ _ _ | with_reducible refine Bw.drew ?_ | with_reducible refine Bw.drewN ?_ _ | ((with_reducible refine Bw.set2 ?_ ?_ _); (focus (first | omega | (simp only [szA, szS, szD, szN, plus_size] <;> omega)))) | with_reducible refine Bw.trans ?_ (by with_reducible assumption)))) (fun hz ad e => by have := hA hz ad e; omega) (by omega) (by omega) (by omega) (by omega)).mono ?_; rintro e w' ⟨v6, k6, q6, rfl, va6, vb6, hk6, rfl⟩)
  go_wp2_with fail
  (refine (mrange_any _ A n cap k6 _ _ xs _ (by go_simp) (by go_simp) (by go_simp) (by exact hr.up hA (by repeat (first | with_reducible assumption | with_reducible exact Bw.refl _ | with_reducible refine Bw.alloc ?_ _ | with_reducible refine Bw.more ?_ _ _ | with_reducible refine Bw.drew ?_ | with_reducible refine Bw.drewN ?_ _ | ((with_reducible refine Bw.set2 ?_ ?_ _); (focus (first | omega | (simp only [szA, szS, szD, szN, plus_size] <;> omega)))) | with_reducible refine Bw.trans ?_ (by with_reducible assumption)))) (fun hz ad e => by have := hA hz ad e; omega) (by omega) (by omega) (by omega) (by omega) (by omega)).mono ?_; rintro e w' ⟨v7, k7, q7, rfl, va7, vb7, hk7, rfl⟩)
  go_wp2
  refine bodyPost_ret (by simp [results, Try.results7, go_sem]; rfl) rfl ?_
  exact ⟨v4, v5, _, v3, v7, v1, v2, rfl, ⟨va1, vb1, va2, vb2⟩, ⟨va4, vb4, va5, vb5⟩, ⟨va3, va7, by omega⟩, (by repeat (first | with_reducible assumption | with_reducible exact Bw.refl _ | with_reducible refine Bw.alloc ?_ _ | with_reducible refine Bw.more ?_ _ _ | with_reducible refine Bw.drew ?_ | with_reducible refine Bw.drewN ?_ _ | ((with_reducible refine Bw.set2 ?_ ?_ _); (focus (first | omega | (simp only [szA, szS, szD, szN, plus_size] <;> omega)))) | with_reducible refine Bw.trans ?_ (by with_reducible assumption)))⟩
end Go.Proofs.Ytnfddakginimkaa
