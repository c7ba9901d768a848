/- The cursor's law CursorStays holds. -/
import Derived.Test.YtnfddakginimkaaCurB
import Derived.Test.YtnfddakginimkaaCurL
import Derived.Deep.RegionHeld3
import Derived.Deep.DeepCutAuto
set_option linter.unusedSimpArgs false
set_option linter.unusedVariables false
namespace Go.Proofs.Ytnfddakginimkaa
open Go.RowKit

set_option maxRecDepth 100000 in
set_option maxHeartbeats 4000000 in
theorem sane17_any (w : World) : Calls Try.prog 6 #[] w fun e w' => e = .returned (.bool true) ∧ Bw w w' := by
  have e1 : mv 0 3 false 8 2 0 0 1 40 = (0, 16, false) := by decide
  have e2 : vldB 0 3 1 4 = true := by decide
  have H1 := Lib.hid e1
  have H2 := Lib.hid e2
  clear e1 e2
  go_enter Try.func6, Try.ntmps6
  go_wp2_with (first | (go_at_call 9; refine (cmove_any _ _ _ _ _ _ _ _ _ _ (by omega) (by omega) (by omega)).mono ?_; rintro ee ww ⟨rfl, hb1⟩; (first | obtain ⟨L1, d1, rfl⟩ := Bw.isPlus (Bw.un hb1) | obtain ⟨L1, d1, rfl⟩ := Bw.isPlus hb1); clear hb1; rw [H1.out]; dsimp only [curV]) | (go_at_call 11; refine (cvalid_any _ _ _ _ _ _).mono ?_; rintro ee ww ⟨rfl, rfl⟩; rw [H2.out]))
  go_ret
  exact ⟨rfl, (by repeat (first | with_reducible assumption | with_reducible exact Bw.refl _ | with_reducible refine Bw.alloc ?_ _ | with_reducible refine Bw.more ?_ _ _ | with_reducible refine Bw.drew ?_ | with_reducible refine Bw.drewN ?_ _ | ((with_reducible refine Bw.set2 ?_ ?_ _); (focus (first | omega | (simp only [szA, szS, szD, szN, plus_size] <;> omega)))) | with_reducible refine Bw.trans ?_ (by with_reducible assumption)))⟩

/-- Two cursors in blocks of their own, beside the first cursor and the margins. -/
def StaysR (w : World) (g : Nat) (r c : Int) (b : Bool) (t m : Int) (x y : Int × Int × Bool) (s9 s10 : Value) (w' : World) : Prop :=
  ∃ g1 g2 : Nat, s9 = .pointer (some ⟨g1, 0, none⟩) ∧ s10 = .pointer (some ⟨g2, 0, none⟩) ∧ Bw w w' ∧ g < w'.heap.size ∧ g + 1 < w'.heap.size ∧ g1 < w'.heap.size ∧ g2 < w'.heap.size ∧
    (w'.cell? ⟨g, 0, none⟩ = some (.int .i64 r) ∧ w'.cell? ⟨g, 1, none⟩ = some (.int .i64 c) ∧ w'.cell? ⟨g, 2, none⟩ = some (.bool b)) ∧ (w'.cell? ⟨g + 1, 0, none⟩ = some (.int .i64 t) ∧ w'.cell? ⟨g + 1, 1, none⟩ = some (.int .i64 m)) ∧
    (w'.cell? ⟨g1, 0, none⟩ = some (.int .i64 x.1) ∧ w'.cell? ⟨g1, 1, none⟩ = some (.int .i64 x.2.1) ∧ w'.cell? ⟨g1, 2, none⟩ = some (.bool x.2.2)) ∧ (w'.cell? ⟨g2, 0, none⟩ = some (.int .i64 y.1) ∧ w'.cell? ⟨g2, 1, none⟩ = some (.int .i64 y.2.1) ∧ w'.cell? ⟨g2, 2, none⟩ = some (.bool y.2.2))

/-- A bool that implies p. -/
def InB (s : Value) (p : Prop) : Prop := ∃ i : Bool, s = .bool i ∧ (i = true → p)
theorem InB.mk {p : Prop} (i : Bool) (h : i = true → p) : InB (.bool i) p := ⟨i, rfl, h⟩
theorem mv_ok {r c : Int} {t m rows cols : Int} (b1 : 0 ≤ r) (b2 : r < rows) (b3 : 0 ≤ c) (b4 : c < cols) (c1 : 0 ≤ t) (c2 : t ≤ m) (c3 : m < rows) : (vldB r c rows cols && rgtB t m rows) = true := by
  simp [vldB, rgtB]; omega
theorem mv_up {r c : Int} {b : Bool} {k t m rows cols : Int} (h : (vldB r c rows cols && rgtB t m rows) = true) (c1 : 0 ≤ t) (b1 : 0 ≤ r) : ∃ u, mv r c b 1 k t m rows cols = (u, c, false) ∧ u ≤ r ∧ (t ≤ r → t ≤ u) := by
  refine ⟨_, by unfold mv; rw [if_pos h]; rfl, by split <;> omega, by intro; split <;> omega⟩
theorem mv_down {r c : Int} {b : Bool} {k t m rows cols : Int} (h : (vldB r c rows cols && rgtB t m rows) = true) (b2 : r < rows) : ∃ u, mv r c b 2 k t m rows cols = (u, c, false) ∧ r ≤ u ∧ (r ≤ m → u ≤ m) := by
  refine ⟨_, by unfold mv; rw [if_pos h]; rfl, by split <;> omega, by intro; split <;> omega⟩
theorem mv_start {r c : Int} {b : Bool} {k t m rows cols : Int} (h : (vldB r c rows cols && rgtB t m rows) = true) : mv r c b 5 k t m rows cols = (r, 0, false) := by
  unfold mv; rw [if_pos h]; rfl
theorem mv_col {r c : Int} {b : Bool} {k t m rows cols : Int} (h : (vldB r c rows cols && rgtB t m rows) = true) : mv r c b 6 k t m rows cols = (r, min (max k 0) (cols - 1), false) := by
  unfold mv; rw [if_pos h]; rfl
theorem mv_row {r c : Int} {b : Bool} {k t m rows cols : Int} (h : (vldB r c rows cols && rgtB t m rows) = true) : mv r c b 7 k t m rows cols = (min (max k 0) (rows - 1), c, false) := by
  unfold mv; rw [if_pos h]; rfl

set_option maxRecDepth 100000 in
set_option maxHeartbeats 4000000 in
theorem stays_any (A : Option Addr) (n cap : Nat) (k : Int) (xs : List Int) (w : World) (hr : RdI w A n xs) (hA : 0 < n → ∀ ad, A = some ad → ad.block < w.heap.size) (hn : n ≤ 9223372036854775807) (hk : k ≤ 9223372036854775807) :
    Calls Try.prog 5 #[.slice A n cap, .int .i64 k] w fun e w' => e = .returned (.bool true) ∧ Bw w w' := by
  go_enter Try.func5, Try.ntmps5
  go_wp2_with (first
    | (go_at_call 6; refine (sane17_any _).mono ?_; rintro ee ww ⟨rfl, hb1⟩; (first | obtain ⟨L1, d1, rfl⟩ := Bw.isPlus (Bw.un hb1) | obtain ⟨L1, d1, rfl⟩ := Bw.isPlus hb1); clear hb1)
    | (go_at_call 7; refine (made17_any A n cap xs _ (by exact hr.up hA (by repeat (first | with_reducible assumption | with_reducible exact Bw.refl _ | with_reducible refine Bw.alloc ?_ _ | with_reducible refine Bw.more ?_ _ _ | with_reducible refine Bw.drew ?_ | with_reducible refine Bw.drewN ?_ _ | ((with_reducible refine Bw.set2 ?_ ?_ _); (focus (first | omega | (simp only [szA, szS, szD, szN, plus_size] <;> omega)))) | with_reducible refine Bw.trans ?_ (by with_reducible assumption)))) (fun hz ad e => by have := hA hz ad e; simp only [plus_size]; omega) hn).mono ?_; rintro ee ww ⟨r, c, b, t, m, rows, cols, rfl, ⟨a1, a2, a3, a4⟩, ⟨b1, b2, b3, b4⟩, ⟨c1, c2, c3⟩, hb2⟩; obtain ⟨L2, d2, rfl⟩ := Bw.isPlus (Bw.un hb2); clear hb2))
  have hok := mv_ok b1 b2 b3 b4 c1 c2 c3
  obtain ⟨u, hu, hu1, hu2⟩ := mv_up (b := b) (k := k) hok c1 b1
  obtain ⟨v, hv, hv1, hv2⟩ := mv_down (b := b) (k := k) hok b2
  have HU := Lib.hid hu
  have HV := Lib.hid hv
  have HO := Lib.hid hok
  clear hu hv hok
  go_cut [9, 10] (fun s9 s10 w' => StaysR w (w.heap.size + L2.size) r c b t m (u, c, false) (v, c, false) s9 s10 w')
  case first => as_aux_lemma =>
    go_region_held3 (fun w' => w'.cell? ⟨w.heap.size + L2.size, 0, none⟩ = some (.int .i64 r) ∧ w'.cell? ⟨w.heap.size + L2.size, 1, none⟩ = some (.int .i64 c) ∧ w'.cell? ⟨w.heap.size + L2.size, 2, none⟩ = some (.bool b) ∧ w'.cell? ⟨w.heap.size + L2.size + 1, 0, none⟩ = some (.int .i64 t) ∧ w'.cell? ⟨w.heap.size + L2.size + 1, 1, none⟩ = some (.int .i64 m)) ((refine ⟨?_, ?_, ?_, ?_, ?_⟩ <;> exact (by repeat (first | ((with_reducible refine cell_alloc_here ?_ ?_); (focus (first | omega | (simp only [szA, szS, szD, szN, plus_size] <;> omega))); (focus rfl)) | with_reducible refine cell_alloc_some ?_ _ | with_reducible refine cell_plus_some ?_ _ _ | ((with_reducible refine cell_set_some ?_ ?_); (focus (first | omega | (simp only [szA, szS, szD, szN, plus_size] <;> omega)))) | with_reducible refine cell_drew_some ?_ | with_reducible refine cell_drewN_some ?_ _)))) (first | (go_at_call 9; refine (cmove_any _ _ _ _ _ _ _ _ _ _ (by omega) (by omega) hk).mono ?_; rintro ee ww ⟨rfl, hb3⟩; (first | obtain ⟨L3, d3, rfl⟩ := Bw.isPlus (Bw.un hb3) | obtain ⟨L3, d3, rfl⟩ := Bw.isPlus hb3); clear hb3; (first | rw [HU.out] | rw [HV.out]); dsimp only [curV]))
    all_goals
      go_wp2
      go_meet
      case rel => exact ⟨_, _, rfl, rfl, (by repeat (first | with_reducible assumption | with_reducible exact Bw.refl _ | with_reducible refine Bw.alloc ?_ _ | with_reducible refine Bw.more ?_ _ _ | with_reducible refine Bw.drew ?_ | with_reducible refine Bw.drewN ?_ _ | ((with_reducible refine Bw.set2 ?_ ?_ _); (focus (first | omega | (simp only [szA, szS, szD, szN, plus_size] <;> omega)))) | with_reducible refine Bw.trans ?_ (by with_reducible assumption))), (by (first | omega | (simp only [szA, szS, szD, szN, plus_size] <;> omega))), (by (first | omega | (simp only [szA, szS, szD, szN, plus_size] <;> omega))), (by (first | omega | (simp only [szA, szS, szD, szN, plus_size] <;> omega))), (by (first | omega | (simp only [szA, szS, szD, szN, plus_size] <;> omega))), ⟨(by repeat (first | ((with_reducible refine cell_alloc_here ?_ ?_); (focus (first | omega | (simp only [szA, szS, szD, szN, plus_size] <;> omega))); (focus rfl)) | with_reducible refine cell_alloc_some ?_ _ | with_reducible refine cell_plus_some ?_ _ _ | ((with_reducible refine cell_set_some ?_ ?_); (focus (first | omega | (simp only [szA, szS, szD, szN, plus_size] <;> omega)))) | with_reducible refine cell_drew_some ?_ | with_reducible refine cell_drewN_some ?_ _)), (by repeat (first | ((with_reducible refine cell_alloc_here ?_ ?_); (focus (first | omega | (simp only [szA, szS, szD, szN, plus_size] <;> omega))); (focus rfl)) | with_reducible refine cell_alloc_some ?_ _ | with_reducible refine cell_plus_some ?_ _ _ | ((with_reducible refine cell_set_some ?_ ?_); (focus (first | omega | (simp only [szA, szS, szD, szN, plus_size] <;> omega)))) | with_reducible refine cell_drew_some ?_ | with_reducible refine cell_drewN_some ?_ _)), (by repeat (first | ((with_reducible refine cell_alloc_here ?_ ?_); (focus (first | omega | (simp only [szA, szS, szD, szN, plus_size] <;> omega))); (focus rfl)) | with_reducible refine cell_alloc_some ?_ _ | with_reducible refine cell_plus_some ?_ _ _ | ((with_reducible refine cell_set_some ?_ ?_); (focus (first | omega | (simp only [szA, szS, szD, szN, plus_size] <;> omega)))) | with_reducible refine cell_drew_some ?_ | with_reducible refine cell_drewN_some ?_ _))⟩, ⟨(by repeat (first | ((with_reducible refine cell_alloc_here ?_ ?_); (focus (first | omega | (simp only [szA, szS, szD, szN, plus_size] <;> omega))); (focus rfl)) | with_reducible refine cell_alloc_some ?_ _ | with_reducible refine cell_plus_some ?_ _ _ | ((with_reducible refine cell_set_some ?_ ?_); (focus (first | omega | (simp only [szA, szS, szD, szN, plus_size] <;> omega)))) | with_reducible refine cell_drew_some ?_ | with_reducible refine cell_drewN_some ?_ _)), (by repeat (first | ((with_reducible refine cell_alloc_here ?_ ?_); (focus (first | omega | (simp only [szA, szS, szD, szN, plus_size] <;> omega))); (focus rfl)) | with_reducible refine cell_alloc_some ?_ _ | with_reducible refine cell_plus_some ?_ _ _ | ((with_reducible refine cell_set_some ?_ ?_); (focus (first | omega | (simp only [szA, szS, szD, szN, plus_size] <;> omega)))) | with_reducible refine cell_drew_some ?_ | with_reducible refine cell_drewN_some ?_ _))⟩, ⟨(by repeat (first | ((with_reducible refine cell_alloc_here ?_ ?_); (focus (first | omega | (simp only [szA, szS, szD, szN, plus_size] <;> omega))); (focus rfl)) | with_reducible refine cell_alloc_some ?_ _ | with_reducible refine cell_plus_some ?_ _ _ | ((with_reducible refine cell_set_some ?_ ?_); (focus (first | omega | (simp only [szA, szS, szD, szN, plus_size] <;> omega)))) | with_reducible refine cell_drew_some ?_ | with_reducible refine cell_drewN_some ?_ _)), (by repeat (first | ((with_reducible refine cell_alloc_here ?_ ?_); (focus (first | omega | (simp only [szA, szS, szD, szN, plus_size] <;> omega))); (focus rfl)) | with_reducible refine cell_alloc_some ?_ _ | with_reducible refine cell_plus_some ?_ _ _ | ((with_reducible refine cell_set_some ?_ ?_); (focus (first | omega | (simp only [szA, szS, szD, szN, plus_size] <;> omega)))) | with_reducible refine cell_drew_some ?_ | with_reducible refine cell_drewN_some ?_ _)), (by repeat (first | ((with_reducible refine cell_alloc_here ?_ ?_); (focus (first | omega | (simp only [szA, szS, szD, szN, plus_size] <;> omega))); (focus rfl)) | with_reducible refine cell_alloc_some ?_ _ | with_reducible refine cell_plus_some ?_ _ _ | ((with_reducible refine cell_set_some ?_ ?_); (focus (first | omega | (simp only [szA, szS, szD, szN, plus_size] <;> omega)))) | with_reducible refine cell_drew_some ?_ | with_reducible refine cell_drewN_some ?_ _))⟩, ⟨(by repeat (first | ((with_reducible refine cell_alloc_here ?_ ?_); (focus (first | omega | (simp only [szA, szS, szD, szN, plus_size] <;> omega))); (focus rfl)) | with_reducible refine cell_alloc_some ?_ _ | with_reducible refine cell_plus_some ?_ _ _ | ((with_reducible refine cell_set_some ?_ ?_); (focus (first | omega | (simp only [szA, szS, szD, szN, plus_size] <;> omega)))) | with_reducible refine cell_drew_some ?_ | with_reducible refine cell_drewN_some ?_ _)), (by repeat (first | ((with_reducible refine cell_alloc_here ?_ ?_); (focus (first | omega | (simp only [szA, szS, szD, szN, plus_size] <;> omega))); (focus rfl)) | with_reducible refine cell_alloc_some ?_ _ | with_reducible refine cell_plus_some ?_ _ _ | ((with_reducible refine cell_set_some ?_ ?_); (focus (first | omega | (simp only [szA, szS, szD, szN, plus_size] <;> omega)))) | with_reducible refine cell_drew_some ?_ | with_reducible refine cell_drewN_some ?_ _)), (by repeat (first | ((with_reducible refine cell_alloc_here ?_ ?_); (focus (first | omega | (simp only [szA, szS, szD, szN, plus_size] <;> omega))); (focus rfl)) | with_reducible refine cell_alloc_some ?_ _ | with_reducible refine cell_plus_some ?_ _ _ | ((with_reducible refine cell_set_some ?_ ?_); (focus (first | omega | (simp only [szA, szS, szD, szN, plus_size] <;> omega)))) | with_reducible refine cell_drew_some ?_ | with_reducible refine cell_drewN_some ?_ _))⟩⟩
  case rest =>
    generalize w.heap.size + L2.size = g at *
    obtain ⟨g1, g2, rfl, rfl, hbc, z0, z1, z2, z3, ⟨f0, f1, f2⟩, ⟨m0, m1⟩, ⟨x0, x1, x2⟩, ⟨y0, y1, y2⟩⟩ := hcut
    go_upto_region 5 with (fail)
    go_cut [11] (fun s11 w' => InB s11 (t ≤ u ∧ v ≤ m) ∧ wc = w')
    case first =>
      go_wp2
      all_goals
        go_meet
        case rel =>
          refine ⟨InB.mk _ (fun h => ?_), rfl⟩
          first | (simp at h; done) | (simp at h; exact ⟨hu2 (by assumption), hv2 (by omega)⟩)
    case rest =>
      clear hu2 hv2
      obtain ⟨hin, rfl⟩ := hcut
      obtain ⟨i, rfl, hi⟩ := hin
      go_upto_region 6 with (fail)
      go_cut [91] (fun s91 w' => s91 = .bool false ∧ wc = w')
      case first => as_aux_lemma =>
        cases i
        · clear hi
          go_wp2
          all_goals
            go_meet
            case rel => exact ⟨by simp; try omega, rfl⟩
        · obtain ⟨hi1, hi2⟩ := hi rfl
          go_wp2
          all_goals
            go_meet
            case rel => exact ⟨by simp; try omega, rfl⟩
      case rest =>
        clear hi x0 x1 x2 y0 y1 y2 z2 z3 hu1 hv1
        obtain ⟨rfl, rfl⟩ := hcut
        go_upto_region 9 with (go_at_call 8; refine (mmod_any _ _ _ (by omega) (by omega)).mono ?_; rintro ee ww ⟨rfl, rfl⟩)
        have hq1 := Int.emod_nonneg k (show (40 : Int) ≠ 0 by omega)
        have hq2 := Int.emod_lt_of_pos k (show (0 : Int) < 40 by omega)
        have hc0 := mv_col (b := b) (k := k % 40 - 5) HO.out
        have hw0 := mv_row (b := b) (k := k % 40 - 5) HO.out
        have HS := Lib.hid (mv_start (b := b) (k := k) HO.out)
        obtain ⟨kc, hkc⟩ : ∃ kc, kc = min (max (k % 40 - 5) 0) (cols - 1) := ⟨_, rfl⟩
        obtain ⟨kr, hkr⟩ : ∃ kr, kr = min (max (k % 40 - 5) 0) (rows - 1) := ⟨_, rfl⟩
        rw [← hkc] at hc0
        rw [← hkr] at hw0
        have HC := Lib.hid hc0
        have HW := Lib.hid hw0
        have HX := Lib.hid hkc
        have HY := Lib.hid hkr
        clear HU HV HO hc0 hw0 hkc hkr
        go_cut [13, 14] (fun s13 s14 w' => StaysR w g r c b t m (r, kc, false) (kr, c, false) s13 s14 w')
        case first => as_aux_lemma =>
          go_region_held3 (fun w' => w'.cell? ⟨g, 0, none⟩ = some (.int .i64 r) ∧ w'.cell? ⟨g, 1, none⟩ = some (.int .i64 c) ∧ w'.cell? ⟨g, 2, none⟩ = some (.bool b) ∧ w'.cell? ⟨g + 1, 0, none⟩ = some (.int .i64 t) ∧ w'.cell? ⟨g + 1, 1, none⟩ = some (.int .i64 m)) ((refine ⟨?_, ?_, ?_, ?_, ?_⟩ <;> exact (by repeat (first | with_reducible assumption | ((with_reducible refine cell_alloc_here ?_ ?_); (focus (first | omega | (simp only [szA, szS, szD, szN, plus_size] <;> omega))); (focus rfl)) | with_reducible refine cell_alloc_some ?_ _ | with_reducible refine cell_plus_some ?_ _ _ | ((with_reducible refine cell_set_some ?_ ?_); (focus (first | omega | (simp only [szA, szS, szD, szN, plus_size] <;> omega)))) | with_reducible refine cell_drew_some ?_ | with_reducible refine cell_drewN_some ?_ _)))) (first | (go_at_call 9; refine (cmove_any _ _ _ _ _ _ _ _ _ _ (by omega) (by omega) (by omega)).mono ?_; rintro ee ww ⟨rfl, hb3⟩; (first | obtain ⟨L3, d3, rfl⟩ := Bw.isPlus (Bw.un hb3) | obtain ⟨L3, d3, rfl⟩ := Bw.isPlus hb3); clear hb3; (first | rw [HC.out] | rw [HW.out]); dsimp only [curV]))
          all_goals
            go_wp2
            go_meet
            case rel => exact ⟨_, _, rfl, rfl, (by repeat (first | with_reducible assumption | with_reducible exact Bw.refl _ | with_reducible refine Bw.alloc ?_ _ | with_reducible refine Bw.more ?_ _ _ | with_reducible refine Bw.drew ?_ | with_reducible refine Bw.drewN ?_ _ | ((with_reducible refine Bw.set2 ?_ ?_ _); (focus (first | omega | (simp only [szA, szS, szD, szN, plus_size] <;> omega)))) | with_reducible refine Bw.trans ?_ (by with_reducible assumption))), (by (first | omega | (simp only [szA, szS, szD, szN, plus_size] <;> omega))), (by (first | omega | (simp only [szA, szS, szD, szN, plus_size] <;> omega))), (by (first | omega | (simp only [szA, szS, szD, szN, plus_size] <;> omega))), (by (first | omega | (simp only [szA, szS, szD, szN, plus_size] <;> omega))), ⟨(by repeat (first | with_reducible assumption | ((with_reducible refine cell_alloc_here ?_ ?_); (focus (first | omega | (simp only [szA, szS, szD, szN, plus_size] <;> omega))); (focus rfl)) | with_reducible refine cell_alloc_some ?_ _ | with_reducible refine cell_plus_some ?_ _ _ | ((with_reducible refine cell_set_some ?_ ?_); (focus (first | omega | (simp only [szA, szS, szD, szN, plus_size] <;> omega)))) | with_reducible refine cell_drew_some ?_ | with_reducible refine cell_drewN_some ?_ _)), (by repeat (first | with_reducible assumption | ((with_reducible refine cell_alloc_here ?_ ?_); (focus (first | omega | (simp only [szA, szS, szD, szN, plus_size] <;> omega))); (focus rfl)) | with_reducible refine cell_alloc_some ?_ _ | with_reducible refine cell_plus_some ?_ _ _ | ((with_reducible refine cell_set_some ?_ ?_); (focus (first | omega | (simp only [szA, szS, szD, szN, plus_size] <;> omega)))) | with_reducible refine cell_drew_some ?_ | with_reducible refine cell_drewN_some ?_ _)), (by repeat (first | with_reducible assumption | ((with_reducible refine cell_alloc_here ?_ ?_); (focus (first | omega | (simp only [szA, szS, szD, szN, plus_size] <;> omega))); (focus rfl)) | with_reducible refine cell_alloc_some ?_ _ | with_reducible refine cell_plus_some ?_ _ _ | ((with_reducible refine cell_set_some ?_ ?_); (focus (first | omega | (simp only [szA, szS, szD, szN, plus_size] <;> omega)))) | with_reducible refine cell_drew_some ?_ | with_reducible refine cell_drewN_some ?_ _))⟩, ⟨(by repeat (first | with_reducible assumption | ((with_reducible refine cell_alloc_here ?_ ?_); (focus (first | omega | (simp only [szA, szS, szD, szN, plus_size] <;> omega))); (focus rfl)) | with_reducible refine cell_alloc_some ?_ _ | with_reducible refine cell_plus_some ?_ _ _ | ((with_reducible refine cell_set_some ?_ ?_); (focus (first | omega | (simp only [szA, szS, szD, szN, plus_size] <;> omega)))) | with_reducible refine cell_drew_some ?_ | with_reducible refine cell_drewN_some ?_ _)), (by repeat (first | with_reducible assumption | ((with_reducible refine cell_alloc_here ?_ ?_); (focus (first | omega | (simp only [szA, szS, szD, szN, plus_size] <;> omega))); (focus rfl)) | with_reducible refine cell_alloc_some ?_ _ | with_reducible refine cell_plus_some ?_ _ _ | ((with_reducible refine cell_set_some ?_ ?_); (focus (first | omega | (simp only [szA, szS, szD, szN, plus_size] <;> omega)))) | with_reducible refine cell_drew_some ?_ | with_reducible refine cell_drewN_some ?_ _))⟩, ⟨(by repeat (first | with_reducible assumption | ((with_reducible refine cell_alloc_here ?_ ?_); (focus (first | omega | (simp only [szA, szS, szD, szN, plus_size] <;> omega))); (focus rfl)) | with_reducible refine cell_alloc_some ?_ _ | with_reducible refine cell_plus_some ?_ _ _ | ((with_reducible refine cell_set_some ?_ ?_); (focus (first | omega | (simp only [szA, szS, szD, szN, plus_size] <;> omega)))) | with_reducible refine cell_drew_some ?_ | with_reducible refine cell_drewN_some ?_ _)), (by repeat (first | with_reducible assumption | ((with_reducible refine cell_alloc_here ?_ ?_); (focus (first | omega | (simp only [szA, szS, szD, szN, plus_size] <;> omega))); (focus rfl)) | with_reducible refine cell_alloc_some ?_ _ | with_reducible refine cell_plus_some ?_ _ _ | ((with_reducible refine cell_set_some ?_ ?_); (focus (first | omega | (simp only [szA, szS, szD, szN, plus_size] <;> omega)))) | with_reducible refine cell_drew_some ?_ | with_reducible refine cell_drewN_some ?_ _)), (by repeat (first | with_reducible assumption | ((with_reducible refine cell_alloc_here ?_ ?_); (focus (first | omega | (simp only [szA, szS, szD, szN, plus_size] <;> omega))); (focus rfl)) | with_reducible refine cell_alloc_some ?_ _ | with_reducible refine cell_plus_some ?_ _ _ | ((with_reducible refine cell_set_some ?_ ?_); (focus (first | omega | (simp only [szA, szS, szD, szN, plus_size] <;> omega)))) | with_reducible refine cell_drew_some ?_ | with_reducible refine cell_drewN_some ?_ _))⟩, ⟨(by repeat (first | with_reducible assumption | ((with_reducible refine cell_alloc_here ?_ ?_); (focus (first | omega | (simp only [szA, szS, szD, szN, plus_size] <;> omega))); (focus rfl)) | with_reducible refine cell_alloc_some ?_ _ | with_reducible refine cell_plus_some ?_ _ _ | ((with_reducible refine cell_set_some ?_ ?_); (focus (first | omega | (simp only [szA, szS, szD, szN, plus_size] <;> omega)))) | with_reducible refine cell_drew_some ?_ | with_reducible refine cell_drewN_some ?_ _)), (by repeat (first | with_reducible assumption | ((with_reducible refine cell_alloc_here ?_ ?_); (focus (first | omega | (simp only [szA, szS, szD, szN, plus_size] <;> omega))); (focus rfl)) | with_reducible refine cell_alloc_some ?_ _ | with_reducible refine cell_plus_some ?_ _ _ | ((with_reducible refine cell_set_some ?_ ?_); (focus (first | omega | (simp only [szA, szS, szD, szN, plus_size] <;> omega)))) | with_reducible refine cell_drew_some ?_ | with_reducible refine cell_drewN_some ?_ _)), (by repeat (first | with_reducible assumption | ((with_reducible refine cell_alloc_here ?_ ?_); (focus (first | omega | (simp only [szA, szS, szD, szN, plus_size] <;> omega))); (focus rfl)) | with_reducible refine cell_alloc_some ?_ _ | with_reducible refine cell_plus_some ?_ _ _ | ((with_reducible refine cell_set_some ?_ ?_); (focus (first | omega | (simp only [szA, szS, szD, szN, plus_size] <;> omega)))) | with_reducible refine cell_drew_some ?_ | with_reducible refine cell_drewN_some ?_ _))⟩⟩
        case rest => as_aux_lemma =>
          clear f0 f1 f2 m0 m1 z0 z1 hbc HC HW
          obtain ⟨g3, g4, rfl, rfl, hbc, z0, z1, z2, z3, ⟨f0, f1, f2⟩, ⟨m0, m1⟩, ⟨x0, x1, x2⟩, ⟨y0, y1, y2⟩⟩ := hcut
          go_wp2_with (go_at_call 9; refine (cmove_any _ _ _ _ _ _ _ _ _ _ (by omega) (by omega) hk).mono ?_; rintro ee ww ⟨rfl, hb3⟩; (first | obtain ⟨L3, d3, rfl⟩ := Bw.isPlus (Bw.un hb3) | obtain ⟨L3, d3, rfl⟩ := Bw.isPlus hb3); clear hb3; rw [HS.out]; dsimp only [curV])
          all_goals
            go_ret
            refine ⟨ret_bool ?_, (by repeat (first | with_reducible assumption | with_reducible exact Bw.refl _ | with_reducible refine Bw.alloc ?_ _ | with_reducible refine Bw.more ?_ _ _ | with_reducible refine Bw.drew ?_ | with_reducible refine Bw.drewN ?_ _ | ((with_reducible refine Bw.set2 ?_ ?_ _); (focus (first | omega | (simp only [szA, szS, szD, szN, plus_size] <;> omega)))) | with_reducible refine Bw.trans ?_ (by with_reducible assumption)))⟩
            have q1 := HX.out
            have q2 := HY.out
            clear HX HY
            first | rfl | (simp; omega) | (exfalso; simp only [beq_eq_false_iff_ne, bne_iff_ne, ne_eq] at *; omega) | trace_state
end Go.Proofs.Ytnfddakginimkaa
