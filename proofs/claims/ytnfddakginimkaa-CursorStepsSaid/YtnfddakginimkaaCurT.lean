/- The cursor's law CursorSteps holds. -/
import Derived.Test.YtnfddakginimkaaCurN
import Derived.Deep.DeepCutAuto
set_option linter.unusedSimpArgs false
set_option linter.unusedVariables false
namespace Go.Proofs.Ytnfddakginimkaa
open Go.RowKit

/-- k moves by one. -/
def steps (kind t m rows cols : Int) : Nat → Int × Int × Bool → Int × Int × Bool
  | 0, x => x
  | k + 1, x => mv (steps kind t m rows cols k x).1 (steps kind t m rows cols k x).2.1 (steps kind t m rows cols k x).2.2 kind 1 t m rows cols

/-- What k moves by one come to, and that they stay valid. -/
theorem steps_mv {r c : Int} {b : Bool} {kind t m rows cols : Int} (b1 : 0 ≤ r) (b2 : r < rows) (b3 : 0 ≤ c) (b4 : c < cols) (c1 : 0 ≤ t) (c2 : t ≤ m) (c3 : m < rows)
    (hk : kind = 1 ∨ kind = 2 ∨ kind = 3 ∨ kind = 4 ∨ kind = 8) (k : Nat) :
    steps kind t m rows cols (k + 1) (r, c, b) = mv r c b kind (k + 1 : Nat) t m rows cols ∧ vldB (mv r c b kind (k + 1 : Nat) t m rows cols).1 (mv r c b kind (k + 1 : Nat) t m rows cols).2.1 rows cols = true ∧ (mv r c b kind (k + 1 : Nat) t m rows cols).2.2 = false := by
  have ok : ∀ {x y : Int}, 0 ≤ x → x < rows → 0 ≤ y → y < cols → (vldB x y rows cols && rgtB t m rows) = true := by
    intro x y h1 h2 h3 h4
    simp [vldB, rgtB]; omega
  have vd : ∀ {x y : Int}, 0 ≤ x → x < rows → 0 ≤ y → y < cols → vldB x y rows cols = true := by
    intro x y h1 h2 h3 h4
    simp [vldB]; omega
  have main : ∀ k : Nat, steps kind t m rows cols (k + 1) (r, c, b) = mv r c b kind (k + 1 : Nat) t m rows cols := by
    intro k
    induction k with
    | zero => rfl
    | succ k ih =>
      unfold steps
      rw [ih]
      rcases hk with rfl | rfl | rfl | rfl | rfl
      · have e : ∀ n, mv r c b 1 n t m rows cols = (r - min (max n 1) (r - (if t ≤ r then t else 0)), c, false) := fun n => by unfold mv; rw [if_pos (ok b1 b2 b3 b4)]; rfl
        rw [e, e]
        unfold mv
        rw [if_pos (ok (by dsimp only; split <;> omega) (by dsimp only; split <;> omega) b3 b4)]
        simp only [if_pos]
        refine Prod.ext ?_ rfl
        dsimp only
        split <;> split <;> omega
      · have e : ∀ n, mv r c b 2 n t m rows cols = (r + min (max n 1) ((if r ≤ m then m else rows - 1) - r), c, false) := fun n => by unfold mv; rw [if_pos (ok b1 b2 b3 b4)]; rfl
        rw [e, e]
        unfold mv
        rw [if_pos (ok (by dsimp only; split <;> omega) (by dsimp only; split <;> omega) b3 b4), if_neg (by omega), if_pos rfl]
        refine Prod.ext ?_ rfl
        dsimp only
        split <;> split <;> omega
      · have e : ∀ n, mv r c b 3 n t m rows cols = (r, c + min (max n 1) (cols - 1 - c), false) := fun n => by unfold mv; rw [if_pos (ok b1 b2 b3 b4)]; rfl
        rw [e, e]
        unfold mv
        rw [if_pos (ok b1 b2 (by dsimp only; omega) (by dsimp only; omega)), if_neg (by omega), if_neg (by omega), if_pos rfl]
        refine Prod.ext rfl (Prod.ext ?_ rfl)
        dsimp only
        omega
      · have e : ∀ n, mv r c b 4 n t m rows cols = (r, c - min (max n 1) c, false) := fun n => by unfold mv; rw [if_pos (ok b1 b2 b3 b4)]; rfl
        rw [e, e]
        unfold mv
        rw [if_pos (ok b1 b2 (by dsimp only; omega) (by dsimp only; omega)), if_neg (by omega), if_neg (by omega), if_neg (by omega), if_pos rfl]
        refine Prod.ext rfl (Prod.ext ?_ rfl)
        dsimp only
        omega
      · have e : ∀ n, mv r c b 8 n t m rows cols = (r, tabN c (max n 1) cols, false) := fun n => by unfold mv; rw [if_pos (ok b1 b2 b3 b4)]; rfl
        have hb : ∀ n, 1 ≤ n → 0 ≤ tabN c n cols ∧ tabN c n cols < cols := fun n hn => by unfold tabN; split <;> omega
        have h1 := hb (max ((k + 1 : Nat) : Int) 1) (by omega)
        rw [e, e]
        unfold mv
        rw [if_pos (ok b1 b2 h1.1 h1.2), if_neg (by omega), if_neg (by omega), if_neg (by omega), if_neg (by omega), if_neg (by omega), if_neg (by omega), if_neg (by omega), if_pos rfl]
        refine Prod.ext rfl (Prod.ext ?_ rfl)
        dsimp only
        unfold tabN
        repeat' split
        all_goals omega
  refine ⟨main k, ?_, ?_⟩
  · rcases hk with rfl | rfl | rfl | rfl | rfl
    all_goals (unfold mv; rw [if_pos (ok b1 b2 b3 b4)])
    · exact vd (by simp; split <;> omega) (by simp; split <;> omega) (by simpa using b3) (by simpa using b4)
    · exact vd (by simp; split <;> omega) (by simp; split <;> omega) (by simpa using b3) (by simpa using b4)
    · exact vd (by simpa using b1) (by simpa using b2) (by simp; omega) (by simp; omega)
    · exact vd (by simpa using b1) (by simpa using b2) (by simp; omega) (by simp; omega)
    · exact vd (by simpa using b1) (by simpa using b2) (by simp [tabN]; split <;> omega) (by simp [tabN]; split <;> omega)
  · rcases hk with rfl | rfl | rfl | rfl | rfl
    all_goals (unfold mv; rw [if_pos (ok b1 b2 b3 b4)]; rfl)

/-- The cursor in block g, the margins in the next one. -/
def Two (w : World) (g : Nat) (r c : Int) (b : Bool) (t m : Int) (w' : World) : Prop :=
  Bw w w' ∧ g < w'.heap.size ∧ g + 1 < w'.heap.size ∧
    (w'.cell? ⟨g, 0, none⟩ = some (.int .i64 r) ∧ w'.cell? ⟨g, 1, none⟩ = some (.int .i64 c) ∧ w'.cell? ⟨g, 2, none⟩ = some (.bool b)) ∧ (w'.cell? ⟨g + 1, 0, none⟩ = some (.int .i64 t) ∧ w'.cell? ⟨g + 1, 1, none⟩ = some (.int .i64 m))
def KindR (s : Value) : Prop := ∃ kd : Int, s = .int .i64 kd ∧ (kd = 1 ∨ kd = 2 ∨ kd = 3 ∨ kd = 4 ∨ kd = 8)
def One (w : World) (h : Nat) (x : Int × Int × Bool) : Prop :=
  h < w.heap.size ∧ w.cell? ⟨h, 0, none⟩ = some (.int .i64 x.1) ∧ w.cell? ⟨h, 1, none⟩ = some (.int .i64 x.2.1) ∧ w.cell? ⟨h, 2, none⟩ = some (.bool x.2.2) ∧ (w.frozen? ⟨h, 0, none⟩ = false ∧ w.frozen? ⟨h, 1, none⟩ = false ∧ w.frozen? ⟨h, 2, none⟩ = false)

set_option maxRecDepth 100000 in
set_option maxHeartbeats 4000000 in
theorem steps_any (A : Option Addr) (n cap : Nat) (kind k : Int) (xs : List Int) (w : World) (hr : RdI w A n xs) (hA : 0 < n → ∀ ad, A = some ad → ad.block < w.heap.size) (hn : n ≤ 9223372036854775807) :
    Calls Try.prog 4 #[.slice A n cap, .int .i64 kind, .int .i64 k] w fun e w' => e = .returned (.bool true) ∧ Bw w w' := by
  obtain ⟨q, hq⟩ : ∃ q, q = kind % 5 := ⟨_, rfl⟩
  have hq1 := Int.emod_nonneg kind (show (5 : Int) ≠ 0 by omega)
  have hq2 := Int.emod_lt_of_pos kind (show (0 : Int) < 5 by omega)
  rw [← hq] at hq1 hq2
  obtain ⟨N, hN⟩ : ∃ N : Nat, k % 12 = (N : Int) := ⟨(k % 12).toNat, by have := Int.emod_nonneg k (show (12 : Int) ≠ 0 by omega); omega⟩
  have hN2 : (N : Int) < 12 := by have := Int.emod_lt_of_pos k (show (0 : Int) < 12 by omega); omega
  have HN := Lib.hid hN
  have HQ := Lib.hid hq.symm
  clear hN hq
  go_enter Try.func4, Try.ntmps4
  go_upto_region 4 with (first
    | (go_at_call 6; refine (sane17b_any _).mono ?_; rintro ee ww ⟨rfl, hb1⟩; (first | obtain ⟨L1, d1, rfl⟩ := Bw.isPlus (Bw.un hb1) | obtain ⟨L1, d1, rfl⟩ := Bw.isPlus hb1); clear hb1)
    | (go_at_call 7; refine (made17_any A n cap xs _ (by exact hr.up hA (by repeat (first | with_reducible assumption | with_reducible exact Bw.refl _ | with_reducible refine Bw.alloc ?_ _ | with_reducible refine Bw.more ?_ _ _ | with_reducible refine Bw.drew ?_ | with_reducible refine Bw.drewN ?_ _ | ((with_reducible refine Bw.set2 ?_ ?_ _); (focus (first | omega | (simp only [szA, szS, szD, szN, plus_size] <;> omega)))) | with_reducible refine Bw.trans ?_ (by with_reducible assumption)))) (fun hz ad e => by have := hA hz ad e; simp only [plus_size]; omega) hn).mono ?_; rintro ee ww ⟨r, c, b, t, m, rows, cols, rfl, ⟨a1, a2, a3, a4⟩, ⟨b1, b2, b3, b4⟩, ⟨c1, c2, c3⟩, hb2⟩; obtain ⟨L2, d2, rfl⟩ := Bw.isPlus (Bw.un hb2); clear hb2))
  go_cut [1] (fun s1 w' => KindR s1 ∧ Two w (w.heap.size + L2.size) r c b t m w')
  case first =>
    rcases (show q = 0 ∨ q = 1 ∨ q = 2 ∨ q = 3 ∨ q = 4 by omega) with rfl | rfl | rfl | rfl | rfl
    all_goals
      clear hq1 hq2
      go_wp2_with (go_at_call 8; refine (mmod_any _ _ _ (by omega) (by omega)).mono ?_; rintro ee ww ⟨rfl, rfl⟩; rw [HQ.out])
      go_meet
      case rel => exact ⟨⟨_, rfl, by omega⟩, (by repeat (first | with_reducible assumption | with_reducible exact Bw.refl _ | with_reducible refine Bw.alloc ?_ _ | with_reducible refine Bw.more ?_ _ _ | with_reducible refine Bw.drew ?_ | with_reducible refine Bw.drewN ?_ _ | ((with_reducible refine Bw.set2 ?_ ?_ _); (focus (first | omega | (simp only [szA, szS, szD, szN, plus_size] <;> omega)))) | with_reducible refine Bw.trans ?_ (by with_reducible assumption))), (by (first | omega | (simp only [szA, szS, szD, szN, plus_size] <;> omega))), (by (first | omega | (simp only [szA, szS, szD, szN, plus_size] <;> omega))), ⟨(by repeat (first | ((with_reducible refine cell_alloc_here ?_ ?_); (focus (first | omega | (simp only [szA, szS, szD, szN, plus_size] <;> omega))); (focus rfl)) | with_reducible refine cell_alloc_some ?_ _ | with_reducible refine cell_plus_some ?_ _ _ | ((with_reducible refine cell_set_some ?_ ?_); (focus (first | omega | (simp only [szA, szS, szD, szN, plus_size] <;> omega)))) | with_reducible refine cell_drew_some ?_ | with_reducible refine cell_drewN_some ?_ _)), (by repeat (first | ((with_reducible refine cell_alloc_here ?_ ?_); (focus (first | omega | (simp only [szA, szS, szD, szN, plus_size] <;> omega))); (focus rfl)) | with_reducible refine cell_alloc_some ?_ _ | with_reducible refine cell_plus_some ?_ _ _ | ((with_reducible refine cell_set_some ?_ ?_); (focus (first | omega | (simp only [szA, szS, szD, szN, plus_size] <;> omega)))) | with_reducible refine cell_drew_some ?_ | with_reducible refine cell_drewN_some ?_ _)), (by repeat (first | ((with_reducible refine cell_alloc_here ?_ ?_); (focus (first | omega | (simp only [szA, szS, szD, szN, plus_size] <;> omega))); (focus rfl)) | with_reducible refine cell_alloc_some ?_ _ | with_reducible refine cell_plus_some ?_ _ _ | ((with_reducible refine cell_set_some ?_ ?_); (focus (first | omega | (simp only [szA, szS, szD, szN, plus_size] <;> omega)))) | with_reducible refine cell_drew_some ?_ | with_reducible refine cell_drewN_some ?_ _))⟩, ⟨(by repeat (first | ((with_reducible refine cell_alloc_here ?_ ?_); (focus (first | omega | (simp only [szA, szS, szD, szN, plus_size] <;> omega))); (focus rfl)) | with_reducible refine cell_alloc_some ?_ _ | with_reducible refine cell_plus_some ?_ _ _ | ((with_reducible refine cell_set_some ?_ ?_); (focus (first | omega | (simp only [szA, szS, szD, szN, plus_size] <;> omega)))) | with_reducible refine cell_drew_some ?_ | with_reducible refine cell_drewN_some ?_ _)), (by repeat (first | ((with_reducible refine cell_alloc_here ?_ ?_); (focus (first | omega | (simp only [szA, szS, szD, szN, plus_size] <;> omega))); (focus rfl)) | with_reducible refine cell_alloc_some ?_ _ | with_reducible refine cell_plus_some ?_ _ _ | ((with_reducible refine cell_set_some ?_ ?_); (focus (first | omega | (simp only [szA, szS, szD, szN, plus_size] <;> omega)))) | with_reducible refine cell_drew_some ?_ | with_reducible refine cell_drewN_some ?_ _))⟩⟩
  case rest =>
    generalize w.heap.size + L2.size = g at *
    obtain ⟨⟨kd, rfl, hkd⟩, hbc, z0, z1, ⟨f0, f1, f2⟩, ⟨m0, m1⟩⟩ := hcut
    obtain ⟨hs1, hs2, hs3⟩ := steps_mv (b := b) b1 b2 b3 b4 c1 c2 c3 hkd N
    obtain ⟨xr, xc, xb, hX⟩ : ∃ xr xc xb, mv r c b kd (N + 1 : Nat) t m rows cols = (xr, xc, xb) := ⟨_, _, _, rfl⟩
    rw [hX] at hs1 hs2 hs3
    dsimp only at hs2 hs3
    subst hs3
    have HS := Lib.hid hs1
    have HV := Lib.hid hs2
    have HX := Lib.hid hX
    clear hs1 hs2 hX hkd hq1 hq2
    go_wp2_with (go_at_call 8; refine (mmod_any _ _ _ (by omega) (by omega)).mono ?_; rintro ee ww ⟨rfl, rfl⟩; rw [HN.out])
    go_loopw [12] (fun i wr => ∃ j : Nat, i = .int .i64 j ∧ j ≤ N + 1 ∧ Two w g r c b t m wr ∧ One wr wc.heap.size (steps kd t m rows cols j (r, c, b))) (fun i _ => N + 1 - (intOf i).toNat)
    case atStart => exact ⟨0, rfl, by omega, ⟨(by repeat (first | with_reducible assumption | with_reducible exact Bw.refl _ | with_reducible refine Bw.alloc ?_ _ | with_reducible refine Bw.more ?_ _ _ | with_reducible refine Bw.drew ?_ | with_reducible refine Bw.drewN ?_ _ | ((with_reducible refine Bw.set2 ?_ ?_ _); (focus (first | omega | (simp only [szA, szS, szD, szN, plus_size] <;> omega)))) | with_reducible refine Bw.trans ?_ (by with_reducible assumption))), (by (first | omega | (simp only [szA, szS, szD, szN, plus_size] <;> omega))), (by (first | omega | (simp only [szA, szS, szD, szN, plus_size] <;> omega))), ⟨(by repeat (first | with_reducible assumption | ((with_reducible refine cell_alloc_here ?_ ?_); (focus (first | omega | (simp only [szA, szS, szD, szN, plus_size] <;> omega))); (focus rfl)) | with_reducible refine cell_alloc_some ?_ _ | with_reducible refine cell_plus_some ?_ _ _ | ((with_reducible refine cell_set_some ?_ ?_); (focus (first | omega | (simp only [szA, szS, szD, szN, plus_size] <;> omega)))) | with_reducible refine cell_drew_some ?_ | with_reducible refine cell_drewN_some ?_ _)), (by repeat (first | with_reducible assumption | ((with_reducible refine cell_alloc_here ?_ ?_); (focus (first | omega | (simp only [szA, szS, szD, szN, plus_size] <;> omega))); (focus rfl)) | with_reducible refine cell_alloc_some ?_ _ | with_reducible refine cell_plus_some ?_ _ _ | ((with_reducible refine cell_set_some ?_ ?_); (focus (first | omega | (simp only [szA, szS, szD, szN, plus_size] <;> omega)))) | with_reducible refine cell_drew_some ?_ | with_reducible refine cell_drewN_some ?_ _)), (by repeat (first | with_reducible assumption | ((with_reducible refine cell_alloc_here ?_ ?_); (focus (first | omega | (simp only [szA, szS, szD, szN, plus_size] <;> omega))); (focus rfl)) | with_reducible refine cell_alloc_some ?_ _ | with_reducible refine cell_plus_some ?_ _ _ | ((with_reducible refine cell_set_some ?_ ?_); (focus (first | omega | (simp only [szA, szS, szD, szN, plus_size] <;> omega)))) | with_reducible refine cell_drew_some ?_ | with_reducible refine cell_drewN_some ?_ _))⟩, ⟨(by repeat (first | with_reducible assumption | ((with_reducible refine cell_alloc_here ?_ ?_); (focus (first | omega | (simp only [szA, szS, szD, szN, plus_size] <;> omega))); (focus rfl)) | with_reducible refine cell_alloc_some ?_ _ | with_reducible refine cell_plus_some ?_ _ _ | ((with_reducible refine cell_set_some ?_ ?_); (focus (first | omega | (simp only [szA, szS, szD, szN, plus_size] <;> omega)))) | with_reducible refine cell_drew_some ?_ | with_reducible refine cell_drewN_some ?_ _)), (by repeat (first | with_reducible assumption | ((with_reducible refine cell_alloc_here ?_ ?_); (focus (first | omega | (simp only [szA, szS, szD, szN, plus_size] <;> omega))); (focus rfl)) | with_reducible refine cell_alloc_some ?_ _ | with_reducible refine cell_plus_some ?_ _ _ | ((with_reducible refine cell_set_some ?_ ?_); (focus (first | omega | (simp only [szA, szS, szD, szN, plus_size] <;> omega)))) | with_reducible refine cell_drew_some ?_ | with_reducible refine cell_drewN_some ?_ _))⟩⟩, (by (first | omega | (simp only [szA, szS, szD, szN, plus_size] <;> omega))), (by repeat (first | with_reducible assumption | ((with_reducible refine cell_alloc_here ?_ ?_); (focus (first | omega | (simp only [szA, szS, szD, szN, plus_size] <;> omega))); (focus rfl)) | with_reducible refine cell_alloc_some ?_ _ | with_reducible refine cell_plus_some ?_ _ _ | ((with_reducible refine cell_set_some ?_ ?_); (focus (first | omega | (simp only [szA, szS, szD, szN, plus_size] <;> omega)))) | with_reducible refine cell_drew_some ?_ | with_reducible refine cell_drewN_some ?_ _)), (by repeat (first | with_reducible assumption | ((with_reducible refine cell_alloc_here ?_ ?_); (focus (first | omega | (simp only [szA, szS, szD, szN, plus_size] <;> omega))); (focus rfl)) | with_reducible refine cell_alloc_some ?_ _ | with_reducible refine cell_plus_some ?_ _ _ | ((with_reducible refine cell_set_some ?_ ?_); (focus (first | omega | (simp only [szA, szS, szD, szN, plus_size] <;> omega)))) | with_reducible refine cell_drew_some ?_ | with_reducible refine cell_drewN_some ?_ _)), (by repeat (first | with_reducible assumption | ((with_reducible refine cell_alloc_here ?_ ?_); (focus (first | omega | (simp only [szA, szS, szD, szN, plus_size] <;> omega))); (focus rfl)) | with_reducible refine cell_alloc_some ?_ _ | with_reducible refine cell_plus_some ?_ _ _ | ((with_reducible refine cell_set_some ?_ ?_); (focus (first | omega | (simp only [szA, szS, szD, szN, plus_size] <;> omega)))) | with_reducible refine cell_drew_some ?_ | with_reducible refine cell_drewN_some ?_ _)), by simp [go_sem], by simp [go_sem], by simp [go_sem]⟩
    case round =>
      rename_i wr
      obtain ⟨j, rfl, hj, ⟨kbc, kz0, kz1, ⟨kf0, kf1, kf2⟩, ⟨km0, km1⟩⟩, ⟨oz, o0, o1, o2, p0, p1, p2⟩⟩ := hrel
      clear f0 f1 f2 m0 m1
      have hbz : w.heap.size ≤ wc.heap.size := Below.size hbc
      by_cases hlt : j < N + 1
      · go_wp2_with (go_at_call 9; refine (cmove_any _ _ _ _ _ _ _ _ _ _ (by omega) (by omega) (by omega)).mono ?_; rintro ee ww ⟨rfl, hb3⟩; (first | obtain ⟨L3, d3, rfl⟩ := Bw.isPlus (Bw.un hb3) | obtain ⟨L3, d3, rfl⟩ := Bw.isPlus hb3); clear hb3; dsimp only [curV])
        go_roundw
        case rel =>
          have hst : steps kd t m rows cols (j + 1) (r, c, b) = mv (steps kd t m rows cols j (r, c, b)).1 (steps kd t m rows cols j (r, c, b)).2.1 (steps kd t m rows cols j (r, c, b)).2.2 kd 1 t m rows cols := rfl
          refine ⟨j + 1, by go_num, by omega, ⟨(by repeat (first | with_reducible assumption | with_reducible exact Bw.refl _ | with_reducible refine Bw.alloc ?_ _ | with_reducible refine Bw.more ?_ _ _ | with_reducible refine Bw.drew ?_ | with_reducible refine Bw.drewN ?_ _ | ((with_reducible refine Bw.set2 ?_ ?_ _); (focus (first | omega | (simp only [szA, szS, szD, szN, plus_size] <;> omega)))) | with_reducible refine Bw.trans ?_ (by with_reducible assumption))), (by (first | omega | (simp only [szA, szS, szD, szN, plus_size] <;> omega))), (by (first | omega | (simp only [szA, szS, szD, szN, plus_size] <;> omega))), ⟨(by repeat (first | with_reducible assumption | ((with_reducible refine cell_alloc_here ?_ ?_); (focus (first | omega | (simp only [szA, szS, szD, szN, plus_size] <;> omega))); (focus rfl)) | with_reducible refine cell_alloc_some ?_ _ | with_reducible refine cell_plus_some ?_ _ _ | ((with_reducible refine cell_set_some ?_ ?_); (focus (first | omega | (simp only [szA, szS, szD, szN, plus_size] <;> omega)))) | with_reducible refine cell_drew_some ?_ | with_reducible refine cell_drewN_some ?_ _)), (by repeat (first | with_reducible assumption | ((with_reducible refine cell_alloc_here ?_ ?_); (focus (first | omega | (simp only [szA, szS, szD, szN, plus_size] <;> omega))); (focus rfl)) | with_reducible refine cell_alloc_some ?_ _ | with_reducible refine cell_plus_some ?_ _ _ | ((with_reducible refine cell_set_some ?_ ?_); (focus (first | omega | (simp only [szA, szS, szD, szN, plus_size] <;> omega)))) | with_reducible refine cell_drew_some ?_ | with_reducible refine cell_drewN_some ?_ _)), (by repeat (first | with_reducible assumption | ((with_reducible refine cell_alloc_here ?_ ?_); (focus (first | omega | (simp only [szA, szS, szD, szN, plus_size] <;> omega))); (focus rfl)) | with_reducible refine cell_alloc_some ?_ _ | with_reducible refine cell_plus_some ?_ _ _ | ((with_reducible refine cell_set_some ?_ ?_); (focus (first | omega | (simp only [szA, szS, szD, szN, plus_size] <;> omega)))) | with_reducible refine cell_drew_some ?_ | with_reducible refine cell_drewN_some ?_ _))⟩, ⟨(by repeat (first | with_reducible assumption | ((with_reducible refine cell_alloc_here ?_ ?_); (focus (first | omega | (simp only [szA, szS, szD, szN, plus_size] <;> omega))); (focus rfl)) | with_reducible refine cell_alloc_some ?_ _ | with_reducible refine cell_plus_some ?_ _ _ | ((with_reducible refine cell_set_some ?_ ?_); (focus (first | omega | (simp only [szA, szS, szD, szN, plus_size] <;> omega)))) | with_reducible refine cell_drew_some ?_ | with_reducible refine cell_drewN_some ?_ _)), (by repeat (first | with_reducible assumption | ((with_reducible refine cell_alloc_here ?_ ?_); (focus (first | omega | (simp only [szA, szS, szD, szN, plus_size] <;> omega))); (focus rfl)) | with_reducible refine cell_alloc_some ?_ _ | with_reducible refine cell_plus_some ?_ _ _ | ((with_reducible refine cell_set_some ?_ ?_); (focus (first | omega | (simp only [szA, szS, szD, szN, plus_size] <;> omega)))) | with_reducible refine cell_drew_some ?_ | with_reducible refine cell_drewN_some ?_ _))⟩⟩, ?_⟩
          rw [hst]
          clear HS HX HV kf0 kf1 kf2 km0 km1
          refine ⟨(by (first | omega | (simp only [szA, szS, szD, szN, plus_size] <;> omega))), cell_plus_some (by go_simp) _ _, cell_plus_some (by go_simp) _ _, cell_plus_some (by go_simp) _ _, by go_simp, by go_simp, by go_simp⟩
        case measure => simp [intOf]; omega
      · obtain rfl : j = N + 1 := by omega
        rw [HS.out] at o0 o1 o2
        dsimp only at o0 o1 o2
        clear HS p0 p1 p2 hbc
        go_wp2_with (first | (go_at_call 9; refine (cmove_any _ _ _ _ _ _ _ _ _ _ (by omega) (by omega) (by omega)).mono ?_; rintro ee ww ⟨rfl, hb3⟩; (first | obtain ⟨L3, d3, rfl⟩ := Bw.isPlus (Bw.un hb3) | obtain ⟨L3, d3, rfl⟩ := Bw.isPlus hb3); clear hb3; rw [show ((1 : Int) + (N : Int)) = ((N + 1 : Nat) : Int) from by omega, HX.out]; dsimp only [curV]) | (go_at_call 11; refine (cvalid_any _ _ _ _ _ _).mono ?_; rintro ee ww ⟨rfl, rfl⟩; rw [HV.out]))
        go_ret
        exact ⟨rfl, (by repeat (first | with_reducible assumption | with_reducible exact Bw.refl _ | with_reducible refine Bw.alloc ?_ _ | with_reducible refine Bw.more ?_ _ _ | with_reducible refine Bw.drew ?_ | with_reducible refine Bw.drewN ?_ _ | ((with_reducible refine Bw.set2 ?_ ?_ _); (focus (first | omega | (simp only [szA, szS, szD, szN, plus_size] <;> omega)))) | with_reducible refine Bw.trans ?_ (by with_reducible assumption)))⟩
end Go.Proofs.Ytnfddakginimkaa
