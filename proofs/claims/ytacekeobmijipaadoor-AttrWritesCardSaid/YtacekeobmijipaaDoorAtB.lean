/- Attributes: made; extended; Apply of the program. -/
import Derived.Test.YtacekeobmijipaaDoorAtS
import Derived.Deep.DeepCutAuto
set_option linter.unusedSimpArgs false
set_option linter.unusedVariables false
namespace Go.Proofs.YtacekeobmijipaaDoor
open Go.RowKit

theorem tdiv_emod_bd (n k m : Int) (hm : 0 < m) : 0 ≤ (n.tdiv k) % m ∧ (n.tdiv k) % m < m := ⟨Int.emod_nonneg _ (by omega), Int.emod_lt_of_pos _ hm⟩
/-- A made attribute: valid, the same at every call with the same number. -/
def madeA (n : Int) : Int × Int × Int := (n % 8, (n.tdiv 8) % 17, (n.tdiv 200) % 17)
theorem madeA_valid (n : Int) : avB (madeA n).1 (madeA n).2.1 (madeA n).2.2 = true := by
  unfold avB madeA
  have h1 := Int.emod_nonneg n (show (8 : Int) ≠ 0 by omega)
  have h2 := Int.emod_lt_of_pos n (show (0 : Int) < 8 by omega)
  have h3 := tdiv_emod_bd n 8 17 (by omega)
  have h4 := tdiv_emod_bd n 200 17 (by omega)
  simp
  omega

theorem wrap_tdiv (n k : Int) (hk : 0 < k) (h0 : -9223372036854775808 ≤ n) (h1 : n ≤ 9223372036854775807) : IntKind.i64.wrap (n.tdiv k) = n.tdiv k := by
  have hb : -9223372036854775808 ≤ n.tdiv k ∧ n.tdiv k ≤ 9223372036854775807 := by
    by_cases hn : 0 ≤ n
    · have h2 := Int.tdiv_nonneg hn (show 0 ≤ k by omega)
      have h3 := Int.tdiv_le_self k hn
      omega
    · have h2 := Int.tdiv_nonneg (show 0 ≤ -n by omega) (show 0 ≤ k by omega)
      have h3 := Int.tdiv_le_self k (show 0 ≤ -n by omega)
      rw [Int.neg_tdiv] at h2 h3
      omega
  rw [IntKind.wrap_i64]
  omega

set_option maxHeartbeats 1000000 in
theorem made15_any (n : Int) (w : World) (h0 : -9223372036854775808 ≤ n) (h1 : n ≤ 9223372036854775807) : Calls Tryd.prog 8 #[.int .i64 n] w (AtP w (madeA n)) := by
  have q1 := wrap_tdiv n 8 (by omega) h0 h1
  have q2 := wrap_tdiv n 200 (by omega) h0 h1
  go_enter Tryd.func8, Tryd.ntmps8
  go_wp2_with (go_at_call 18; refine (mmod_any _ _ _ (by omega) (by omega)).mono ?_; rintro ee ww ⟨rfl, rfl⟩)
  refine bodyPost_ret (by simp [results, Tryd.results8, go_sem]; rfl) rfl ?_
  exact ⟨rfl, (by repeat (first | with_reducible assumption | with_reducible exact Bw.refl _ | with_reducible refine Bw.alloc ?_ _ | with_reducible refine Bw.more ?_ _ _ | with_reducible refine Bw.drew ?_ | with_reducible refine Bw.drewN ?_ _ | ((with_reducible refine Bw.set2 ?_ ?_ _); (focus (first | omega | (simp only [szA, szS, szD, szN, plus_size, Array.size_append] <;> omega)))) | with_reducible refine Bw.trans ?_ (by with_reducible assumption)))⟩

/-- What an extended color takes and says. -/
def ext (t : List Int) : Nat × Int :=
  match t with
  | [] => (0, 0)
  | x :: r => match r with
    | [] => if x = 2 then (1, 0) else (0, 0)
    | y :: r' => if x = 5 then (2, if 0 ≤ y ∧ y ≤ 15 then y + 1 else 0) else if x = 2 then (min (r'.length + 2) 4, 0) else (0, 0)

theorem ret2i {a b c d : Int} (h : a = b) (h2 : c = d) : Ending.returned (.tuple #[.int .i64 a, .int .i64 c]) = .returned (.tuple #[.int .i64 b, .int .i64 d]) := by rw [h, h2]
set_option maxHeartbeats 2000000 in
theorem extended_any (A : Option Addr) (n c : Nat) (t : List Int) (w : World) (hr : Rd (.int .i64) w A n t) (hn : n ≤ c) (hc : c ≤ 9223372036854775807) :
    Calls Tryd.prog 26 #[.slice A n c] w fun e w' => e = .returned (.tuple #[.int .i64 (ext t).1, .int .i64 (ext t).2]) ∧ w = w' := by
  match t, hr with
  | [], hr =>
    have h0 : n = 0 := hr.1.symm
    subst h0
    go_enter Tryd.func26, Tryd.ntmps26
    go_wp2
    go_ret2
    exact ⟨rfl, rfl⟩
  | [x], hr =>
    have h0 : n = 1 := hr.1.symm
    subst h0
    obtain ⟨g, o, rfl, hx⟩ := hr.2 (by omega)
    have x0 := hx 0 (by simp)
    simp at x0
    clear hx hr
    by_cases h2 : x = 2
    · subst h2
      go_enter Tryd.func26, Tryd.ntmps26
      go_wp2
      go_ret2
      exact ⟨rfl, rfl⟩
    · have e2 : (x == 2) = false := by simpa using h2
      have HE := Lib.hid (show ext [x] = (0, 0) from if_neg h2)
      clear h2
      go_enter Tryd.func26, Tryd.ntmps26
      go_wp2
      go_ret2
      exact ⟨by rw [HE.out]; rfl, rfl⟩
  | x :: y :: r, hr =>
    have hl : r.length + 2 = n := by have := hr.1; simp at this; omega
    obtain ⟨g, o, rfl, hx⟩ := hr.2 (by omega)
    have x0 := hx 0 (by simp)
    have x1 := hx 1 (by simp)
    simp at x0 x1
    have hn2 : (2 : Int) ≤ n := by omega
    have hn0 : (0 : Int) < n := by omega
    have hn1 : (1 : Int) < n := by omega
    clear hx hr
    by_cases h5 : x = 5
    · subst h5
      by_cases hy : 0 ≤ y ∧ y ≤ 15
      · have HE := Lib.hid (show ext (5 :: y :: r) = (2, y + 1) by show (2, if 0 ≤ y ∧ y ≤ 15 then y + 1 else 0) = _; rw [if_pos hy])
        obtain ⟨hy1, hy2⟩ := hy
        go_enter Tryd.func26, Tryd.ntmps26
        go_wp2
        go_ret2
        exact ⟨by rw [HE.out]; rfl, rfl⟩
      · have HE := Lib.hid (show ext (5 :: y :: r) = (2, 0) by show (2, if 0 ≤ y ∧ y ≤ 15 then y + 1 else 0) = _; rw [if_neg hy])
        have hy2 : y < 0 ∨ (0 ≤ y ∧ 15 < y) := by omega
        clear hy
        rcases hy2 with hy | ⟨hy, hy2⟩
        all_goals
          go_enter Tryd.func26, Tryd.ntmps26
          go_wp2
          go_ret2
          exact ⟨by rw [HE.out]; rfl, rfl⟩
    · by_cases h2 : x = 2
      · subst h2
        have HE := Lib.hid (show ext (2 :: y :: r) = (min (r.length + 2) 4, 0) from rfl)
        have hm : (n ≤ 4) ∨ (4 < n) := by omega
        clear h5
        rcases hm with hm | hm
        · have hm' : (n : Int) ≤ 4 := by omega
          have HQ := Lib.hid (show ((min (r.length + 2) 4 : Nat) : Int) = (n : Int) by omega)
          go_enter Tryd.func26, Tryd.ntmps26
          go_wp2
          go_ret2
          refine ⟨?_, rfl⟩
          rw [HE.out]
          exact ret2i (by first | rfl | exact HQ.out.symm | (simp; omega)) rfl
        · have hm' : (4 : Int) < n := by omega
          have HQ := Lib.hid (show ((min (r.length + 2) 4 : Nat) : Int) = 4 by omega)
          go_enter Tryd.func26, Tryd.ntmps26
          go_wp2
          go_ret2
          refine ⟨?_, rfl⟩
          rw [HE.out]
          exact ret2i (by first | rfl | exact HQ.out.symm | (simp; omega)) rfl
      · have e5 : (x == 5) = false := by simpa using h5
        have e2 : (x == 2) = false := by simpa using h2
        have HE := Lib.hid (show ext (x :: y :: r) = (0, 0) by show (if x = 5 then _ else if x = 2 then _ else (0, 0)) = _; rw [if_neg h5, if_neg h2])
        clear h5 h2
        go_enter Tryd.func26, Tryd.ntmps26
        go_wp2
        go_ret2
        exact ⟨by rw [HE.out]; rfl, rfl⟩
end Go.Proofs.YtacekeobmijipaaDoor
