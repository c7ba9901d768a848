/- Parts of the proof, one after the other. -/
import Derived.Test.YtccfpehcadpkiaaM22
import Derived.Test.YtccfpehcadpkiaaM20
set_option linter.unusedSimpArgs false
set_option linter.unusedVariables false
/- The program's grids: Shift's closure. -/
namespace Go.Proofs.Ytccfpehcadpkiaa
open Go.RowKit

set_option maxRecDepth 100000 in
set_option maxHeartbeats 8000000 in
theorem gshift1_go (Rn Cn : Nat) (cs : List C4) (sp : List Value) (gp cp br bg bl bn bc : Nat) (row col num d1 d2 d3 d4 : Int) (w : World) (hR1 : 1 ≤ Rn) (hR2 : Rn ≤ 30) (hC1 : 1 ≤ Cn) (hC2 : Cn ≤ 100) (hl : cs.length = Rn * Cn) (hW : Wc w gp cs sp) (hcp : Rn * Cn ≤ cp) (hcp2 : cp ≤ 9223372036854775807)
    (y0 : w.cell? ⟨br, 0, none⟩ = some (.int .i64 row)) (y1 : w.cell? ⟨bg, 0, none⟩ = some (.int .i64 (Rn : Int))) (y2 : w.cell? ⟨bg, 1, none⟩ = some (.int .i64 (Cn : Int))) (y0' : w.cell? ⟨bl, 0, none⟩ = some (.int .i64 col)) (y3 : w.cell? ⟨bn, 0, none⟩ = some (.int .i64 num))
    (y5 : w.cell? ⟨bc, 0, none⟩ = some (.int .i64 d1)) (y6 : w.cell? ⟨bc, 1, none⟩ = some (.int .i64 d2)) (y7 : w.cell? ⟨bc, 2, none⟩ = some (.int .i64 d3)) (y8 : w.cell? ⟨bc, 3, none⟩ = some (.int .i64 d4)) (hne : br ≠ gp ∧ bg ≠ gp ∧ bl ≠ gp ∧ bn ≠ gp ∧ bc ≠ gp) :
    Calls Try.prog 41 #[.slice (some ⟨gp, 0, none⟩) (Rn * Cn) cp, .pointer (some ⟨br, 0, none⟩), .pointer (some ⟨bg, 0, none⟩), .pointer (some ⟨bl, 0, none⟩), .pointer (some ⟨bn, 0, none⟩), .pointer (some ⟨bc, 0, none⟩)] w fun e w' => (∃ v, e = .returned v) ∧ Wc w' gp (if 0 ≤ row ∧ row < Rn ∧ 0 ≤ col ∧ col < Cn then tab Rn Cn (shiftF Rn Cn cs row col (clampS Cn num) (d1, d2, d3, d4)) else cs) sp ∧ w.grownBy w' (some gp) := by
  obtain ⟨n, hn⟩ : ∃ n, n = Rn * Cn := ⟨_, rfl⟩
  have HN := Lib.hid hn
  rw [← hn] at hl hcp ⊢
  clear hn
  have HL := Lib.hid hl
  have HW := Lib.hid hW
  clear hl hW
  have hz : row < 0 ∨ (0 ≤ row ∧ (Rn : Int) ≤ row) ∨ ((0 ≤ row ∧ row < Rn) ∧ col < 0) ∨ ((0 ≤ row ∧ row < Rn) ∧ 0 ≤ col ∧ (Cn : Int) ≤ col) ∨ ((0 ≤ row ∧ row < Rn) ∧ 0 ≤ col ∧ col < Cn) := by omega
  rcases hz with h | ⟨h1, h2⟩ | ⟨⟨h1, h2⟩, h3⟩ | ⟨⟨h1, h2⟩, h3, h4⟩ | ⟨⟨h1, h2⟩, h3, h4⟩
  iterate 4
    · have HE := Lib.hid (show (if 0 ≤ row ∧ row < Rn ∧ 0 ≤ col ∧ col < Cn then tab Rn Cn (shiftF Rn Cn cs row col (clampS Cn num) (d1, d2, d3, d4)) else cs) = cs from if_neg (by omega))
      go_enter Try.func41, Try.ntmps41
      go_wp2_with fail
      refine bodyPost_ret (by simp [results, Try.results41, go_sem]; rfl) rfl ?_
      exact ⟨⟨_, rfl⟩, by first | (rw [HE.out]; exact HW.out) | exact HW.out, grown_refl _ _⟩
  have HE := Lib.hid (show (if 0 ≤ row ∧ row < Rn ∧ 0 ≤ col ∧ col < Cn then tab Rn Cn (shiftF Rn Cn cs row col (clampS Cn num) (d1, d2, d3, d4)) else cs) = tab Rn Cn (shiftF Rn Cn cs row col (clampS Cn num) (d1, d2, d3, d4)) from if_pos (by omega))
  obtain ⟨rn, rfl⟩ : ∃ rn : Nat, row = rn := ⟨row.toNat, by omega⟩
  obtain ⟨cl, rfl⟩ : ∃ cl : Nat, col = cl := ⟨col.toNat, by omega⟩
  obtain ⟨wd, hwd⟩ : ∃ wd : Nat, Cn - cl = wd := ⟨_, rfl⟩
  have hwi : (Cn : Int) - (cl : Int) = (wd : Int) := by omega
  have hw1 : 1 ≤ wd := by omega
  have hw9 : wd ≤ 100 := by omega
  obtain ⟨p0, hp0⟩ : ∃ p0 : Nat, rn * Cn = p0 := ⟨_, rfl⟩
  obtain ⟨p, hp⟩ : ∃ p : Nat, p0 + cl = p := ⟨_, rfl⟩
  obtain ⟨p2, hp2⟩ : ∃ p2 : Nat, p + wd = p2 := ⟨_, rfl⟩
  have hpi : (rn : Int) * (Cn : Int) = (p0 : Int) := by rw [← hp0]; simp
  have hpa : (p0 : Int) + (cl : Int) = (p : Int) := by omega
  have hpj : ((rn : Int) + 1) * (Cn : Int) = (p2 : Int) := by rw [Int.add_mul, hpi]; omega
  have hp2n : p2 ≤ n := by
    have h5 : (rn + 1) * Cn ≤ Rn * Cn := Nat.mul_le_mul_right _ (by omega)
    rw [Nat.add_mul, hp0] at h5
    rw [HN.out]
    omega
  have hn3 : n ≤ 3000 := by rw [HN.out]; exact Nat.le_trans (Nat.mul_le_mul hR2 hC2) (by omega)
  have hpd : p2 - p = wd := by omega
  have hpl : p < p2 := by omega
  have hpc : p2 ≤ cp := by omega
  have hb1 : (0 : Int) ≤ (p : Int) := by omega
  have hb2 : (p : Int) ≤ (p2 : Int) := by omega
  have hb3 : (p2 : Int) ≤ (cp : Int) := by omega
  have hcq : ¬ cp = p := by omega
  have hcn : clampS (Cn - cl) num = clampS wd num := by rw [hwd]
  have hlaw : ∀ nn, clampS wd num = nn → slideC cs p wd (-nn) (d1, d2, d3, d4) = tab Rn Cn (shiftF Rn Cn cs rn cl (clampS Cn num) (d1, d2, d3, d4)) := fun nn hnn => by
    rw [shift_clamp num (by omega), hcn, hnn, ← slide_shift nn (HL.out.trans HN.out) (by omega) (by omega), hp0, hp, hwd]
  have HLAW := Lib.hid hlaw
  have HP := Lib.hid (And.intro hp hp2)
  clear hp hp2 hp0 hwd hcn hlaw
  obtain ⟨e1, e2, e3, e4, e5⟩ := hne
  have HY := Lib.hid (show ∀ w', Bw w w' → (w'.cell? ⟨br, 0, none⟩ = some (.int .i64 (rn : Int)) ∧ w'.cell? ⟨bl, 0, none⟩ = some (.int .i64 (cl : Int)) ∧ w'.cell? ⟨bg, 1, none⟩ = some (.int .i64 (Cn : Int)) ∧ w'.cell? ⟨bc, 0, none⟩ = some (.int .i64 d1) ∧ w'.cell? ⟨bc, 1, none⟩ = some (.int .i64 d2) ∧ w'.cell? ⟨bc, 2, none⟩ = some (.int .i64 d3) ∧ w'.cell? ⟨bc, 3, none⟩ = some (.int .i64 d4)) from fun w' hb => ⟨cell_up y0 hb, cell_up y0' hb, cell_up y2 hb, cell_up y5 hb, cell_up y6 hb, cell_up y7 hb, cell_up y8 hb⟩)
  have HYg := Lib.hid (show ∀ w' w'', Bw w w' → w'.grownBy w'' (some gp) → (w''.cell? ⟨br, 0, none⟩ = some (.int .i64 (rn : Int)) ∧ w''.cell? ⟨bl, 0, none⟩ = some (.int .i64 (cl : Int)) ∧ w''.cell? ⟨bg, 1, none⟩ = some (.int .i64 (Cn : Int)) ∧ w''.cell? ⟨bc, 0, none⟩ = some (.int .i64 d1) ∧ w''.cell? ⟨bc, 1, none⟩ = some (.int .i64 d2) ∧ w''.cell? ⟨bc, 2, none⟩ = some (.int .i64 d3) ∧ w''.cell? ⟨bc, 3, none⟩ = some (.int .i64 d4)) from fun w' w'' hb hg => ⟨cell_far (cell_up y0 hb) hg (by intro e; exact e1 (Option.some.inj e)), cell_far (cell_up y0' hb) hg (by intro e; exact e3 (Option.some.inj e)), cell_far (cell_up y2 hb) hg (by intro e; exact e2 (Option.some.inj e)), cell_far (cell_up y5 hb) hg (by intro e; exact e5 (Option.some.inj e)), cell_far (cell_up y6 hb) hg (by intro e; exact e5 (Option.some.inj e)), cell_far (cell_up y7 hb) hg (by intro e; exact e5 (Option.some.inj e)), cell_far (cell_up y8 hb) hg (by intro e; exact e5 (Option.some.inj e))⟩)
  have hw2 : IntKind.i64.wrap (p : Int) = (p : Int) := IntWalk.i64_in _ (by omega)
  have hw3 : IntKind.i64.wrap (p2 : Int) = (p2 : Int) := IntWalk.i64_in _ (by omega)
  have hw4 : IntKind.i64.wrap (p0 : Int) = (p0 : Int) := IntWalk.i64_in _ (by omega)
  have hw5 : IntKind.i64.wrap ((rn : Int) + 1) = (rn : Int) + 1 := IntWalk.i64_in _ (by omega)
  have hw6 : IntKind.i64.wrap (wd : Int) = (wd : Int) := IntWalk.i64_in _ (by omega)
  have hw8 : IntKind.i64.wrap (-(wd : Int)) = -(wd : Int) := IntWalk.i64_in _ (by omega)
  have hways : num < -(wd : Int) ∨ (-(wd : Int) ≤ num ∧ num ≤ wd) ∨ (wd : Int) < num := by omega
  rcases hways with k1 | ⟨k1, k1'⟩ | k1
  · have hz1 := HLAW.out (-(wd : Int)) (by unfold clampS; (repeat' split) <;> omega)
    rw [Int.neg_neg] at hz1
    have HZ := Lib.hid hz1
    clear hz1
    go_enter Try.func41, Try.ntmps41
    go_upto_region 3 with (fail)
    refine wp_region_held_drew (S := (fun w' => w'.cell? ⟨br, 0, none⟩ = some (.int .i64 (rn : Int)) ∧ w'.cell? ⟨bl, 0, none⟩ = some (.int .i64 (cl : Int)) ∧ w'.cell? ⟨bg, 1, none⟩ = some (.int .i64 (Cn : Int)) ∧ w'.cell? ⟨bc, 0, none⟩ = some (.int .i64 d1) ∧ w'.cell? ⟨bc, 1, none⟩ = some (.int .i64 d2) ∧ w'.cell? ⟨bc, 2, none⟩ = some (.int .i64 d3) ∧ w'.cell? ⟨bc, 3, none⟩ = some (.int .i64 d4))) (by kernel_rfl) ?_ (fun hHeld => ?_)
    · (try dsimp only); (first | (exact HYg.out _ _ BWX HG2.out) | (refine HY.out _ ?_; exact BWX))
    refine tkH 0 ?_ rfl (Or.inl ⟨by rfl, ?ht0_0⟩) ?_
    case ht0_0 => (intro w hSw; (try dsimp only at hSw); go_simp; try with_reducible rfl)
    (try simp only [Act.put, p1, p2, p3, p4, p5, p6])
    refine tkH 1 ?_ rfl (Or.inl ⟨by rfl, ?ht0_1⟩) ?_
    case ht0_1 => (intro w hSw; (try dsimp only at hSw); go_simp; try with_reducible rfl)
    (try simp only [Act.put, p1, p2, p3, p4, p5, p6])
    refine tkH 2 ?_ rfl (Or.inl ⟨by rfl, ?ht0_2⟩) ?_
    case ht0_2 => (intro w hSw; (try dsimp only at hSw); go_simp; try with_reducible rfl)
    (try simp only [Act.put, p1, p2, p3, p4, p5, p6])
    refine tkH 3 ?_ rfl (Or.inl ⟨by rfl, ?ht0_3⟩) ?_
    case ht0_3 => (intro w hSw; (try dsimp only at hSw); go_simp; try with_reducible rfl)
    (try simp only [Act.put, p1, p2, p3, p4, p5, p6])
    refine tkH 4 ?_ rfl (Or.inl ⟨by rfl, ?ht0_4⟩) ?_
    case ht0_4 => (intro w hSw; (try dsimp only at hSw); go_simp; try with_reducible rfl)
    (try simp only [Act.put, p1, p2, p3, p4, p5, p6])
    refine tkH 5 ?_ rfl (Or.inl ⟨by rfl, ?ht0_5⟩) ?_
    case ht0_5 => (intro w hSw; (try dsimp only at hSw); go_simp; try with_reducible rfl)
    (try simp only [Act.put, p1, p2, p3, p4, p5, p6])
    refine tkH 6 ?_ rfl (Or.inl ⟨by rfl, ?ht0_6⟩) ?_
    case ht0_6 => (intro w hSw; (try dsimp only at hSw); go_simp; try with_reducible rfl)
    (try simp only [Act.put, p1, p2, p3, p4, p5, p6])
    refine tkH 7 ?_ rfl (Or.inl ⟨by rfl, ?ht0_7⟩) ?_
    case ht0_7 => (intro w hSw; (try dsimp only at hSw); go_simp; try with_reducible rfl)
    (try simp only [Act.put, p1, p2, p3, p4, p5, p6])
    refine tkH 8 ?_ rfl (Or.inl ⟨by rfl, ?ht0_8⟩) ?_
    case ht0_8 => (intro w hSw; (try dsimp only at hSw); go_simp; try with_reducible rfl)
    (try simp only [Act.put, p1, p2, p3, p4, p5, p6])
    refine tkH 9 ?_ rfl (Or.inl ⟨by rfl, ?ht0_9⟩) ?_
    case ht0_9 => (intro w hSw; (try dsimp only at hSw); go_simp; try with_reducible rfl)
    (try simp only [Act.put, p1, p2, p3, p4, p5, p6])
    refine tkH 10 ?_ rfl (Or.inl ⟨by rfl, ?ht0_10⟩) ?_
    case ht0_10 => (intro w hSw; (try dsimp only at hSw); go_simp; try with_reducible rfl)
    (try simp only [Act.put, p1, p2, p3, p4, p5, p6])
    refine tkH 11 ?_ rfl (Or.inl ⟨by rfl, ?ht0_11⟩) ?_
    case ht0_11 => (intro w hSw; (try dsimp only at hSw); go_simp; try with_reducible rfl)
    (try simp only [Act.put, p1, p2, p3, p4, p5, p6])
    refine tkH 12 ?_ rfl (Or.inl ⟨by rfl, ?ht0_12⟩) ?_
    case ht0_12 => (intro w hSw; (try dsimp only at hSw); go_simp; try with_reducible rfl)
    (try simp only [Act.put, p1, p2, p3, p4, p5, p6])
    refine tkH 13 ?_ rfl (Or.inl ⟨by rfl, ?ht0_13⟩) ?_
    case ht0_13 => (intro w hSw; (try dsimp only at hSw); go_simp; try with_reducible rfl)
    (try simp only [Act.put, p1, p2, p3, p4, p5, p6])
    refine tkH 14 ?_ rfl (Or.inl ⟨by rfl, ?ht0_14⟩) ?_
    case ht0_14 => (intro w hSw; (try dsimp only at hSw); go_simp; try with_reducible rfl)
    (try simp only [Act.put, p1, p2, p3, p4, p5, p6])
    refine tkH 15 ?_ rfl (Or.inl ⟨by rfl, ?ht0_15⟩) ?_
    case ht0_15 => (intro w hSw; (try dsimp only at hSw); go_simp; try with_reducible rfl)
    (try simp only [Act.put, p1, p2, p3, p4, p5, p6])
    refine wpAnyH_ready (rs := [16]) (by kernel_rfl) (by simp) ?_
    refine AllReadyH.cons rfl (fun K hK => ?_) ?_
    · go_simp
      (try rw [hw6]); (try rw [hw7]); (try rw [hw8]); refine (gslide_any cs sp gp p wd (cp - p) ((wd : Int)) d1 d2 d3 d4 _ (HW.out.up BWX) (by have h1 := HL.out; have h2 := HP.out; omega) (by omega) (by omega) (by omega) (by omega) (by omega) (by omega)).mono ?_; rintro ee w2 ⟨⟨rv, rfl⟩, hW2, hg2⟩; have HW2 := Lib.hid hW2; have HG2 := Lib.hid hg2; clear hW2 hg2; go_wp2_with fail
      refine hK.out _ _ ?_ (fun hHeld => ?_)
      · (try dsimp only); (first | (exact HYg.out _ _ BWX HG2.out) | (refine HY.out _ ?_; exact BWX))
      clear hK K
      (try simp only [Act.put, p1, p2, p3, p4, p5, p6])
      refine wpAnyH_done (by kernel_rfl) ?_ _
      go_wp2_with fail
      refine bodyPost_end (by simp [results, Try.results41, go_sem]; rfl) rfl ?_
      have hW := HW2.out
      rw [HZ.out] at hW
      exact ⟨⟨_, rfl⟩, by first | exact hW | (rw [HE.out]; exact hW), (grown_bw (show Bw w _ from BWX) (some gp)).trans HG2.out⟩
    exact AllReadyH.nil
  · have hz1 := HLAW.out (num) (by unfold clampS; (repeat' split) <;> omega)
    have hw7 : IntKind.i64.wrap (-num) = -num := IntWalk.i64_in _ (by omega)
    have HZ := Lib.hid hz1
    clear hz1
    go_enter Try.func41, Try.ntmps41
    go_upto_region 3 with (fail)
    refine wp_region_held_drew (S := (fun w' => w'.cell? ⟨br, 0, none⟩ = some (.int .i64 (rn : Int)) ∧ w'.cell? ⟨bl, 0, none⟩ = some (.int .i64 (cl : Int)) ∧ w'.cell? ⟨bg, 1, none⟩ = some (.int .i64 (Cn : Int)) ∧ w'.cell? ⟨bc, 0, none⟩ = some (.int .i64 d1) ∧ w'.cell? ⟨bc, 1, none⟩ = some (.int .i64 d2) ∧ w'.cell? ⟨bc, 2, none⟩ = some (.int .i64 d3) ∧ w'.cell? ⟨bc, 3, none⟩ = some (.int .i64 d4))) (by kernel_rfl) ?_ (fun hHeld => ?_)
    · (try dsimp only); (first | (exact HYg.out _ _ BWX HG2.out) | (refine HY.out _ ?_; exact BWX))
    refine tkH 0 ?_ rfl (Or.inl ⟨by rfl, ?ht1_0⟩) ?_
    case ht1_0 => (intro w hSw; (try dsimp only at hSw); go_simp; try with_reducible rfl)
    (try simp only [Act.put, p1, p2, p3, p4, p5, p6])
    refine tkH 1 ?_ rfl (Or.inl ⟨by rfl, ?ht1_1⟩) ?_
    case ht1_1 => (intro w hSw; (try dsimp only at hSw); go_simp; try with_reducible rfl)
    (try simp only [Act.put, p1, p2, p3, p4, p5, p6])
    refine tkH 2 ?_ rfl (Or.inl ⟨by rfl, ?ht1_2⟩) ?_
    case ht1_2 => (intro w hSw; (try dsimp only at hSw); go_simp; try with_reducible rfl)
    (try simp only [Act.put, p1, p2, p3, p4, p5, p6])
    refine tkH 3 ?_ rfl (Or.inl ⟨by rfl, ?ht1_3⟩) ?_
    case ht1_3 => (intro w hSw; (try dsimp only at hSw); go_simp; try with_reducible rfl)
    (try simp only [Act.put, p1, p2, p3, p4, p5, p6])
    refine tkH 4 ?_ rfl (Or.inl ⟨by rfl, ?ht1_4⟩) ?_
    case ht1_4 => (intro w hSw; (try dsimp only at hSw); go_simp; try with_reducible rfl)
    (try simp only [Act.put, p1, p2, p3, p4, p5, p6])
    refine tkH 5 ?_ rfl (Or.inl ⟨by rfl, ?ht1_5⟩) ?_
    case ht1_5 => (intro w hSw; (try dsimp only at hSw); go_simp; try with_reducible rfl)
    (try simp only [Act.put, p1, p2, p3, p4, p5, p6])
    refine tkH 6 ?_ rfl (Or.inl ⟨by rfl, ?ht1_6⟩) ?_
    case ht1_6 => (intro w hSw; (try dsimp only at hSw); go_simp; try with_reducible rfl)
    (try simp only [Act.put, p1, p2, p3, p4, p5, p6])
    refine tkH 7 ?_ rfl (Or.inl ⟨by rfl, ?ht1_7⟩) ?_
    case ht1_7 => (intro w hSw; (try dsimp only at hSw); go_simp; try with_reducible rfl)
    (try simp only [Act.put, p1, p2, p3, p4, p5, p6])
    refine tkH 8 ?_ rfl (Or.inl ⟨by rfl, ?ht1_8⟩) ?_
    case ht1_8 => (intro w hSw; (try dsimp only at hSw); go_simp; try with_reducible rfl)
    (try simp only [Act.put, p1, p2, p3, p4, p5, p6])
    refine tkH 9 ?_ rfl (Or.inl ⟨by rfl, ?ht1_9⟩) ?_
    case ht1_9 => (intro w hSw; (try dsimp only at hSw); go_simp; try with_reducible rfl)
    (try simp only [Act.put, p1, p2, p3, p4, p5, p6])
    refine tkH 10 ?_ rfl (Or.inl ⟨by rfl, ?ht1_10⟩) ?_
    case ht1_10 => (intro w hSw; (try dsimp only at hSw); go_simp; try with_reducible rfl)
    (try simp only [Act.put, p1, p2, p3, p4, p5, p6])
    refine tkH 11 ?_ rfl (Or.inl ⟨by rfl, ?ht1_11⟩) ?_
    case ht1_11 => (intro w hSw; (try dsimp only at hSw); go_simp; try with_reducible rfl)
    (try simp only [Act.put, p1, p2, p3, p4, p5, p6])
    refine tkH 12 ?_ rfl (Or.inl ⟨by rfl, ?ht1_12⟩) ?_
    case ht1_12 => (intro w hSw; (try dsimp only at hSw); go_simp; try with_reducible rfl)
    (try simp only [Act.put, p1, p2, p3, p4, p5, p6])
    refine tkH 13 ?_ rfl (Or.inl ⟨by rfl, ?ht1_13⟩) ?_
    case ht1_13 => (intro w hSw; (try dsimp only at hSw); go_simp; try with_reducible rfl)
    (try simp only [Act.put, p1, p2, p3, p4, p5, p6])
    refine tkH 14 ?_ rfl (Or.inl ⟨by rfl, ?ht1_14⟩) ?_
    case ht1_14 => (intro w hSw; (try dsimp only at hSw); go_simp; try with_reducible rfl)
    (try simp only [Act.put, p1, p2, p3, p4, p5, p6])
    refine tkH 15 ?_ rfl (Or.inl ⟨by rfl, ?ht1_15⟩) ?_
    case ht1_15 => (intro w hSw; (try dsimp only at hSw); go_simp; try with_reducible rfl)
    (try simp only [Act.put, p1, p2, p3, p4, p5, p6])
    refine wpAnyH_ready (rs := [16]) (by kernel_rfl) (by simp) ?_
    refine AllReadyH.cons rfl (fun K hK => ?_) ?_
    · go_simp
      (try rw [hw6]); (try rw [hw7]); (try rw [hw8]); refine (gslide_any cs sp gp p wd (cp - p) (-num) d1 d2 d3 d4 _ (HW.out.up BWX) (by have h1 := HL.out; have h2 := HP.out; omega) (by omega) (by omega) (by omega) (by omega) (by omega) (by omega)).mono ?_; rintro ee w2 ⟨⟨rv, rfl⟩, hW2, hg2⟩; have HW2 := Lib.hid hW2; have HG2 := Lib.hid hg2; clear hW2 hg2; go_wp2_with fail
      refine hK.out _ _ ?_ (fun hHeld => ?_)
      · (try dsimp only); (first | (exact HYg.out _ _ BWX HG2.out) | (refine HY.out _ ?_; exact BWX))
      clear hK K
      (try simp only [Act.put, p1, p2, p3, p4, p5, p6])
      refine wpAnyH_done (by kernel_rfl) ?_ _
      go_wp2_with fail
      refine bodyPost_end (by simp [results, Try.results41, go_sem]; rfl) rfl ?_
      have hW := HW2.out
      rw [HZ.out] at hW
      exact ⟨⟨_, rfl⟩, by first | exact hW | (rw [HE.out]; exact hW), (grown_bw (show Bw w _ from BWX) (some gp)).trans HG2.out⟩
    exact AllReadyH.nil
  · have hz1 := HLAW.out ((wd : Int)) (by unfold clampS; (repeat' split) <;> omega)
    have HZ := Lib.hid hz1
    clear hz1
    go_enter Try.func41, Try.ntmps41
    go_upto_region 3 with (fail)
    refine wp_region_held_drew (S := (fun w' => w'.cell? ⟨br, 0, none⟩ = some (.int .i64 (rn : Int)) ∧ w'.cell? ⟨bl, 0, none⟩ = some (.int .i64 (cl : Int)) ∧ w'.cell? ⟨bg, 1, none⟩ = some (.int .i64 (Cn : Int)) ∧ w'.cell? ⟨bc, 0, none⟩ = some (.int .i64 d1) ∧ w'.cell? ⟨bc, 1, none⟩ = some (.int .i64 d2) ∧ w'.cell? ⟨bc, 2, none⟩ = some (.int .i64 d3) ∧ w'.cell? ⟨bc, 3, none⟩ = some (.int .i64 d4))) (by kernel_rfl) ?_ (fun hHeld => ?_)
    · (try dsimp only); (first | (exact HYg.out _ _ BWX HG2.out) | (refine HY.out _ ?_; exact BWX))
    refine tkH 0 ?_ rfl (Or.inl ⟨by rfl, ?ht2_0⟩) ?_
    case ht2_0 => (intro w hSw; (try dsimp only at hSw); go_simp; try with_reducible rfl)
    (try simp only [Act.put, p1, p2, p3, p4, p5, p6])
    refine tkH 1 ?_ rfl (Or.inl ⟨by rfl, ?ht2_1⟩) ?_
    case ht2_1 => (intro w hSw; (try dsimp only at hSw); go_simp; try with_reducible rfl)
    (try simp only [Act.put, p1, p2, p3, p4, p5, p6])
    refine tkH 2 ?_ rfl (Or.inl ⟨by rfl, ?ht2_2⟩) ?_
    case ht2_2 => (intro w hSw; (try dsimp only at hSw); go_simp; try with_reducible rfl)
    (try simp only [Act.put, p1, p2, p3, p4, p5, p6])
    refine tkH 3 ?_ rfl (Or.inl ⟨by rfl, ?ht2_3⟩) ?_
    case ht2_3 => (intro w hSw; (try dsimp only at hSw); go_simp; try with_reducible rfl)
    (try simp only [Act.put, p1, p2, p3, p4, p5, p6])
    refine tkH 4 ?_ rfl (Or.inl ⟨by rfl, ?ht2_4⟩) ?_
    case ht2_4 => (intro w hSw; (try dsimp only at hSw); go_simp; try with_reducible rfl)
    (try simp only [Act.put, p1, p2, p3, p4, p5, p6])
    refine tkH 5 ?_ rfl (Or.inl ⟨by rfl, ?ht2_5⟩) ?_
    case ht2_5 => (intro w hSw; (try dsimp only at hSw); go_simp; try with_reducible rfl)
    (try simp only [Act.put, p1, p2, p3, p4, p5, p6])
    refine tkH 6 ?_ rfl (Or.inl ⟨by rfl, ?ht2_6⟩) ?_
    case ht2_6 => (intro w hSw; (try dsimp only at hSw); go_simp; try with_reducible rfl)
    (try simp only [Act.put, p1, p2, p3, p4, p5, p6])
    refine tkH 7 ?_ rfl (Or.inl ⟨by rfl, ?ht2_7⟩) ?_
    case ht2_7 => (intro w hSw; (try dsimp only at hSw); go_simp; try with_reducible rfl)
    (try simp only [Act.put, p1, p2, p3, p4, p5, p6])
    refine tkH 8 ?_ rfl (Or.inl ⟨by rfl, ?ht2_8⟩) ?_
    case ht2_8 => (intro w hSw; (try dsimp only at hSw); go_simp; try with_reducible rfl)
    (try simp only [Act.put, p1, p2, p3, p4, p5, p6])
    refine tkH 9 ?_ rfl (Or.inl ⟨by rfl, ?ht2_9⟩) ?_
    case ht2_9 => (intro w hSw; (try dsimp only at hSw); go_simp; try with_reducible rfl)
    (try simp only [Act.put, p1, p2, p3, p4, p5, p6])
    refine tkH 10 ?_ rfl (Or.inl ⟨by rfl, ?ht2_10⟩) ?_
    case ht2_10 => (intro w hSw; (try dsimp only at hSw); go_simp; try with_reducible rfl)
    (try simp only [Act.put, p1, p2, p3, p4, p5, p6])
    refine tkH 11 ?_ rfl (Or.inl ⟨by rfl, ?ht2_11⟩) ?_
    case ht2_11 => (intro w hSw; (try dsimp only at hSw); go_simp; try with_reducible rfl)
    (try simp only [Act.put, p1, p2, p3, p4, p5, p6])
    refine tkH 12 ?_ rfl (Or.inl ⟨by rfl, ?ht2_12⟩) ?_
    case ht2_12 => (intro w hSw; (try dsimp only at hSw); go_simp; try with_reducible rfl)
    (try simp only [Act.put, p1, p2, p3, p4, p5, p6])
    refine tkH 13 ?_ rfl (Or.inl ⟨by rfl, ?ht2_13⟩) ?_
    case ht2_13 => (intro w hSw; (try dsimp only at hSw); go_simp; try with_reducible rfl)
    (try simp only [Act.put, p1, p2, p3, p4, p5, p6])
    refine tkH 14 ?_ rfl (Or.inl ⟨by rfl, ?ht2_14⟩) ?_
    case ht2_14 => (intro w hSw; (try dsimp only at hSw); go_simp; try with_reducible rfl)
    (try simp only [Act.put, p1, p2, p3, p4, p5, p6])
    refine tkH 15 ?_ rfl (Or.inl ⟨by rfl, ?ht2_15⟩) ?_
    case ht2_15 => (intro w hSw; (try dsimp only at hSw); go_simp; try with_reducible rfl)
    (try simp only [Act.put, p1, p2, p3, p4, p5, p6])
    refine wpAnyH_ready (rs := [16]) (by kernel_rfl) (by simp) ?_
    refine AllReadyH.cons rfl (fun K hK => ?_) ?_
    · go_simp
      (try rw [hw6]); (try rw [hw7]); (try rw [hw8]); refine (gslide_any cs sp gp p wd (cp - p) (-(wd : Int)) d1 d2 d3 d4 _ (HW.out.up BWX) (by have h1 := HL.out; have h2 := HP.out; omega) (by omega) (by omega) (by omega) (by omega) (by omega) (by omega)).mono ?_; rintro ee w2 ⟨⟨rv, rfl⟩, hW2, hg2⟩; have HW2 := Lib.hid hW2; have HG2 := Lib.hid hg2; clear hW2 hg2; go_wp2_with fail
      refine hK.out _ _ ?_ (fun hHeld => ?_)
      · (try dsimp only); (first | (exact HYg.out _ _ BWX HG2.out) | (refine HY.out _ ?_; exact BWX))
      clear hK K
      (try simp only [Act.put, p1, p2, p3, p4, p5, p6])
      refine wpAnyH_done (by kernel_rfl) ?_ _
      go_wp2_with fail
      refine bodyPost_end (by simp [results, Try.results41, go_sem]; rfl) rfl ?_
      have hW := HW2.out
      rw [HZ.out] at hW
      exact ⟨⟨_, rfl⟩, by first | exact hW | (rw [HE.out]; exact hW), (grown_bw (show Bw w _ from BWX) (some gp)).trans HG2.out⟩
    exact AllReadyH.nil
end Go.Proofs.Ytccfpehcadpkiaa

/- The program's grids: change with Shift's closure. -/
namespace Go.Proofs.Ytccfpehcadpkiaa
open Go.RowKit

set_option maxRecDepth 100000 in
set_option maxHeartbeats 8000000 in
theorem gchangeshift_ok (R C : Int) (A : Option Addr) (n c : Nat) (cs : List C4) (row col num d1 d2 d3 d4 : Int) (br bg bl bn bc : Nat) (w : World) (hr : Rg w A n cs) (hn : n ≤ c) (hn3 : n ≤ 4398046511103) (hc : c ≤ 9223372036854775807) (y0 : w.cell? ⟨br, 0, none⟩ = some (.int .i64 row)) (y1 : w.cell? ⟨bg, 0, none⟩ = some (.int .i64 R)) (y2 : w.cell? ⟨bg, 1, none⟩ = some (.int .i64 C)) (y3 : w.cell? ⟨bl, 0, none⟩ = some (.int .i64 col)) (y4 : w.cell? ⟨bn, 0, none⟩ = some (.int .i64 num)) (y5 : w.cell? ⟨bc, 0, none⟩ = some (.int .i64 d1)) (y6 : w.cell? ⟨bc, 1, none⟩ = some (.int .i64 d2)) (y7 : w.cell? ⟨bc, 2, none⟩ = some (.int .i64 d3)) (y8 : w.cell? ⟨bc, 3, none⟩ = some (.int .i64 d4)) :
    Calls Try.prog 36 #[.agg #[.int .i64 R, .int .i64 C, .slice A n c], .agg #[.int .i64 d1, .int .i64 d2, .int .i64 d3, .int .i64 d4], .func (.func 41) #[] #[.pointer (some ⟨br, 0, none⟩), .pointer (some ⟨bg, 0, none⟩), .pointer (some ⟨bl, 0, none⟩), .pointer (some ⟨bn, 0, none⟩), .pointer (some ⟨bc, 0, none⟩)]] w (GrN w R C (shiftG R C cs row col num (d1, d2, d3, d4))) := by
  have HR := Lib.hid hr
  have HY := Lib.hid (And.intro y0 (And.intro y1 (And.intro y2 (And.intro y3 (And.intro y4 (And.intro y5 (And.intro y6 (And.intro y7 y8))))))))
  clear hr y0 y1 y2 y3 y4 y5 y6 y7 y8
  cases hv : gridB R C cs
  · have HV := Lib.hid hv
    have HE := Lib.hid (show shiftG R C cs row col num (d1, d2, d3, d4) = cs from if_neg (by rw [hv]; simp))
    clear hv
    go_enter Try.func36, Try.ntmps36
    go_upto_region 1 with (fail)
    generalize hw1 : ((w.alloc (.cells #[.int .i64 R, .int .i64 C, .slice A n c] 25)).alloc _).alloc _ = w1
    obtain ⟨hb0, hb1, hb2, hbw, hz⟩ := sb3 hw1
    have HB0 := Lib.hid hb0
    have HB1 := Lib.hid (show Sb w1 (w.heap.size + 1) #[.int .i64 d1, .int .i64 d2, .int .i64 d3, .int .i64 d4] 39 from hb1)
    have HB2 := Lib.hid (show ∃ old, Sb w1 (w.heap.size + 2) old 25 ∧ old.size = 3 from ⟨_, hb2, rfl⟩)
    have hz1 : w.heap.size + 2 < w1.heap.size := by omega
    clear hw1 hb0 hb1 hb2 hz
    have x0 := HB0.out.cell 0 (v := .int .i64 R) rfl
    have x1 := HB0.out.cell 1 (v := .int .i64 C) rfl
    have x2 := HB0.out.cell 2 (v := .slice A n c) rfl
    go_upto_region 3 with (first
      | (go_at_call 11; refine (ggvalid_any R C A n c cs _ (by exact HR.out.up BWX) hn hc).mono ?_; rintro ee wv ⟨rfl, hbv⟩; rw [HV.out]; clear x0 x1 x2; have x2 := (HB0.out.up hbv).cell 2 (v := .slice A n c) rfl; have f2 := (HB0.out.up hbv).free 2; have c0 := (HB1.out.up hbv).cell 0 (v := .int .i64 d1) rfl; have c1 := (HB1.out.up hbv).cell 1 (v := .int .i64 d2) rfl; have c2 := (HB1.out.up hbv).cell 2 (v := .int .i64 d3) rfl; have c3 := (HB1.out.up hbv).cell 3 (v := .int .i64 d4) rfl; have hb1k := hbv; have hzv := hbv.size)
      | (go_at_call 32; refine (gcell_any d1 d2 d3 d4 _).mono ?_; rintro ee wu ⟨rfl, hbu⟩; rw [HCV.out]; clear x2 f2 c0 c1 c2 c3; have hb1k := Bw.trans hbv hbu; have hzu := hbu.size; have x2 := (HB0.out.up hb1k).cell 2 (v := .slice A n c) rfl; have f2 := (HB0.out.up hb1k).free 2)
      | (go_at_call 34; refine (gclone_any A n c cs _ (by exact HR.out.up BWX) hn hn3 hc).mono ?_; rintro ee wk ⟨vk, rfl, hown, hbk⟩; have hzk := hbk.size; have hb1q := Bw.trans hb1k hbk; clear x2 f2; have x2 := (HB0.out.up hb1q).cell 2 (v := .slice A n c) rfl; have f2 := (HB0.out.up hb1q).free 2; obtain ⟨Ak, ck, rfl, hkc, hkm⟩ := own_form hown; have HOWN := Lib.hid (own_mono hown (show w.heap.size + 3 ≤ _ by omega)); clear hown)
      | fail)
    have hbq := hb1q
    have HB0k := Lib.hid (HB0.out.up hbq)
    have HB2k := Lib.hid (Exists.elim HB2.out (fun old h => (⟨old, h.1.up hbq, h.2⟩ : ∃ old, Sb wk (w.heap.size + 2) old 25 ∧ old.size = 3)))
    have hbwk : Bw w wk := Bw.trans hbw hbq
    have hzk3 : w.heap.size + 2 < wk.heap.size := by have := hbq.size; omega
    clear x2 f2
    generalize hw3 : World.setCell wk ⟨w.heap.size, 2, none⟩ (.slice Ak n ck) = w3
    have HS3 := Lib.hid (show Sb w3 w.heap.size (grV R C Ak n ck) 25 from by rw [← hw3]; exact HB0k.out.set 2 _ rfl)
    have hg3 : wk.grownBy w3 (some w.heap.size) := by rw [← hw3]; exact grown_set (grown_refl wk _) _ _
    have HO3 := Lib.hid (show w3.ownsRow (w.heap.size + 3) 39 4 (.slice Ak n ck) n (flat cs) from by rw [← hw3]; exact own_set_below HOWN.out (by omega) _)
    have HB23 := Lib.hid (Exists.elim HB2k.out (fun old h => (⟨old, h.1.far hg3 (by intro e; have := Option.some.inj e; omega), h.2⟩ : ∃ old, Sb w3 (w.heap.size + 2) old 25 ∧ old.size = 3)))
    have hbw3 : Bw w w3 := Bw.grown hbwk hg3 (fun k hk => by cases hk; omega)
    have hz3 : w.heap.size + 2 < w3.heap.size := by have := hg3.size; omega
    have HG3k := Lib.hid hg3
    clear hw3 hg3 HOWN HB0k HB2k hb1q hbq
    have z0 := HS3.out.cell 0 (v := .int .i64 R) rfl
    have z1 := HS3.out.cell 1 (v := .int .i64 C) rfl
    have z2 := HS3.out.cell 2 (v := .slice Ak n ck) rfl
    go_wp2_with (first
      | ((with_reducible refine wpList_store_gr R C Ak n ck (w.heap.size + 2) (.tmp 6) (.tmp 23) rfl rfl ?_ ?_ ?_ ?_); (focus rfl); (focus rfl); (focus (exact HB23.out)); intro w4 hS4 hg4; have HS4 := Lib.hid hS4; have HG4 := Lib.hid hg4; clear hS4 hg4)
      | fail)
    refine bodyPost_ret (results_gr rfl _ _ (w.heap.size + 2) R C Ak n ck (by rfl) HS4.out) rfl ?_
    have hO4 := HO3.out.kept HG4.out (.inr (fun e => by have := (HO3.out.lt _ e).1; omega))
    exact ⟨Ak, n, ck, rfl, by rw [HE.out]; exact Rg.of_own hO4, hkc, hkm, (fun ad e => by have := own_new hO4 ad e; omega), Bw.grown hbw3 HG4.out (fun k hk => by cases hk; omega)⟩
  · cases hcv : cellB (d1, d2, d3, d4)
    · have HV := Lib.hid hv
      have HCV := Lib.hid hcv
      have HE := Lib.hid (show shiftG R C cs row col num (d1, d2, d3, d4) = cs from if_neg (by rw [hcv]; simp))
      clear hv hcv
      go_enter Try.func36, Try.ntmps36
      go_upto_region 1 with (fail)
      generalize hw1 : ((w.alloc (.cells #[.int .i64 R, .int .i64 C, .slice A n c] 25)).alloc _).alloc _ = w1
      obtain ⟨hb0, hb1, hb2, hbw, hz⟩ := sb3 hw1
      have HB0 := Lib.hid hb0
      have HB1 := Lib.hid (show Sb w1 (w.heap.size + 1) #[.int .i64 d1, .int .i64 d2, .int .i64 d3, .int .i64 d4] 39 from hb1)
      have HB2 := Lib.hid (show ∃ old, Sb w1 (w.heap.size + 2) old 25 ∧ old.size = 3 from ⟨_, hb2, rfl⟩)
      have hz1 : w.heap.size + 2 < w1.heap.size := by omega
      clear hw1 hb0 hb1 hb2 hz
      have x0 := HB0.out.cell 0 (v := .int .i64 R) rfl
      have x1 := HB0.out.cell 1 (v := .int .i64 C) rfl
      have x2 := HB0.out.cell 2 (v := .slice A n c) rfl
      go_upto_region 3 with (first
        | (go_at_call 11; refine (ggvalid_any R C A n c cs _ (by exact HR.out.up BWX) hn hc).mono ?_; rintro ee wv ⟨rfl, hbv⟩; rw [HV.out]; clear x0 x1 x2; have x2 := (HB0.out.up hbv).cell 2 (v := .slice A n c) rfl; have f2 := (HB0.out.up hbv).free 2; have c0 := (HB1.out.up hbv).cell 0 (v := .int .i64 d1) rfl; have c1 := (HB1.out.up hbv).cell 1 (v := .int .i64 d2) rfl; have c2 := (HB1.out.up hbv).cell 2 (v := .int .i64 d3) rfl; have c3 := (HB1.out.up hbv).cell 3 (v := .int .i64 d4) rfl; have hb1k := hbv; have hzv := hbv.size)
        | (go_at_call 32; refine (gcell_any d1 d2 d3 d4 _).mono ?_; rintro ee wu ⟨rfl, hbu⟩; rw [HCV.out]; clear x2 f2 c0 c1 c2 c3; have hb1k := Bw.trans hbv hbu; have hzu := hbu.size; have x2 := (HB0.out.up hb1k).cell 2 (v := .slice A n c) rfl; have f2 := (HB0.out.up hb1k).free 2)
        | (go_at_call 34; refine (gclone_any A n c cs _ (by exact HR.out.up BWX) hn hn3 hc).mono ?_; rintro ee wk ⟨vk, rfl, hown, hbk⟩; have hzk := hbk.size; have hb1q := Bw.trans hb1k hbk; clear x2 f2; have x2 := (HB0.out.up hb1q).cell 2 (v := .slice A n c) rfl; have f2 := (HB0.out.up hb1q).free 2; obtain ⟨Ak, ck, rfl, hkc, hkm⟩ := own_form hown; have HOWN := Lib.hid (own_mono hown (show w.heap.size + 3 ≤ _ by omega)); clear hown)
        | fail)
      have hbq := hb1q
      have HB0k := Lib.hid (HB0.out.up hbq)
      have HB2k := Lib.hid (Exists.elim HB2.out (fun old h => (⟨old, h.1.up hbq, h.2⟩ : ∃ old, Sb wk (w.heap.size + 2) old 25 ∧ old.size = 3)))
      have hbwk : Bw w wk := Bw.trans hbw hbq
      have hzk3 : w.heap.size + 2 < wk.heap.size := by have := hbq.size; omega
      clear x2 f2
      generalize hw3 : World.setCell wk ⟨w.heap.size, 2, none⟩ (.slice Ak n ck) = w3
      have HS3 := Lib.hid (show Sb w3 w.heap.size (grV R C Ak n ck) 25 from by rw [← hw3]; exact HB0k.out.set 2 _ rfl)
      have hg3 : wk.grownBy w3 (some w.heap.size) := by rw [← hw3]; exact grown_set (grown_refl wk _) _ _
      have HO3 := Lib.hid (show w3.ownsRow (w.heap.size + 3) 39 4 (.slice Ak n ck) n (flat cs) from by rw [← hw3]; exact own_set_below HOWN.out (by omega) _)
      have HB23 := Lib.hid (Exists.elim HB2k.out (fun old h => (⟨old, h.1.far hg3 (by intro e; have := Option.some.inj e; omega), h.2⟩ : ∃ old, Sb w3 (w.heap.size + 2) old 25 ∧ old.size = 3)))
      have hbw3 : Bw w w3 := Bw.grown hbwk hg3 (fun k hk => by cases hk; omega)
      have hz3 : w.heap.size + 2 < w3.heap.size := by have := hg3.size; omega
      have HG3k := Lib.hid hg3
      clear hw3 hg3 HOWN HB0k HB2k hb1q hbq
      have z0 := HS3.out.cell 0 (v := .int .i64 R) rfl
      have z1 := HS3.out.cell 1 (v := .int .i64 C) rfl
      have z2 := HS3.out.cell 2 (v := .slice Ak n ck) rfl
      go_wp2_with (first
        | ((with_reducible refine wpList_store_gr R C Ak n ck (w.heap.size + 2) (.tmp 6) (.tmp 23) rfl rfl ?_ ?_ ?_ ?_); (focus rfl); (focus rfl); (focus (exact HB23.out)); intro w4 hS4 hg4; have HS4 := Lib.hid hS4; have HG4 := Lib.hid hg4; clear hS4 hg4)
        | fail)
      refine bodyPost_ret (results_gr rfl _ _ (w.heap.size + 2) R C Ak n ck (by rfl) HS4.out) rfl ?_
      have hO4 := HO3.out.kept HG4.out (.inr (fun e => by have := (HO3.out.lt _ e).1; omega))
      exact ⟨Ak, n, ck, rfl, by rw [HE.out]; exact Rg.of_own hO4, hkc, hkm, (fun ad e => by have := own_new hO4 ad e; omega), Bw.grown hbw3 HG4.out (fun k hk => by cases hk; omega)⟩
    · obtain ⟨Rn, Cn, rfl, rfl, h1, h2, h3, h4, hl, -⟩ := gridB_out hv
      have HE := Lib.hid (show shiftG (Rn : Int) (Cn : Int) cs row col num (d1, d2, d3, d4) = (if 0 ≤ row ∧ row < (Rn : Int) ∧ 0 ≤ col ∧ col < (Cn : Int) then tab Rn Cn (shiftF Rn Cn cs row col (clampS Cn num) (d1, d2, d3, d4)) else cs) from by
        unfold shiftG
        rw [Int.toNat_natCast, Int.toNat_natCast]
        by_cases hg : 0 ≤ row ∧ row < (Rn : Int) ∧ 0 ≤ col ∧ col < (Cn : Int)
        · rw [if_pos hg, if_pos ⟨hv, hcv, hg⟩]
        · rw [if_neg hg, if_neg (fun hh => hg hh.2.2)])
      have HV := Lib.hid hv
      have HCV := Lib.hid hcv
      have HR1 := Lib.hid h1
      have HR2 := Lib.hid h2
      have HC1 := Lib.hid h3
      have HC2 := Lib.hid h4
      have HLN := Lib.hid hl
      clear hv hcv hl
      go_enter Try.func36, Try.ntmps36
      go_upto_region 1 with (fail)
      generalize hw1 : ((w.alloc (.cells #[.int .i64 (Rn : Int), .int .i64 (Cn : Int), .slice A n c] 25)).alloc _).alloc _ = w1
      obtain ⟨hb0, hb1, hb2, hbw, hz⟩ := sb3 hw1
      have HB0 := Lib.hid hb0
      have HB1 := Lib.hid (show Sb w1 (w.heap.size + 1) #[.int .i64 d1, .int .i64 d2, .int .i64 d3, .int .i64 d4] 39 from hb1)
      have HB2 := Lib.hid (show ∃ old, Sb w1 (w.heap.size + 2) old 25 ∧ old.size = 3 from ⟨_, hb2, rfl⟩)
      have hz1 : w.heap.size + 2 < w1.heap.size := by omega
      clear hw1 hb0 hb1 hb2 hz
      have x0 := HB0.out.cell 0 (v := .int .i64 (Rn : Int)) rfl
      have x1 := HB0.out.cell 1 (v := .int .i64 (Cn : Int)) rfl
      have x2 := HB0.out.cell 2 (v := .slice A n c) rfl
      go_upto_region 3 with (first
        | (go_at_call 11; refine (ggvalid_any (Rn : Int) (Cn : Int) A n c cs _ (by exact HR.out.up BWX) hn hc).mono ?_; rintro ee wv ⟨rfl, hbv⟩; rw [HV.out]; clear x0 x1 x2; have x2 := (HB0.out.up hbv).cell 2 (v := .slice A n c) rfl; have f2 := (HB0.out.up hbv).free 2; have c0 := (HB1.out.up hbv).cell 0 (v := .int .i64 d1) rfl; have c1 := (HB1.out.up hbv).cell 1 (v := .int .i64 d2) rfl; have c2 := (HB1.out.up hbv).cell 2 (v := .int .i64 d3) rfl; have c3 := (HB1.out.up hbv).cell 3 (v := .int .i64 d4) rfl; have hb1k := hbv; have hzv := hbv.size)
        | (go_at_call 32; refine (gcell_any d1 d2 d3 d4 _).mono ?_; rintro ee wu ⟨rfl, hbu⟩; rw [HCV.out]; clear x2 f2 c0 c1 c2 c3; have hb1k := Bw.trans hbv hbu; have hzu := hbu.size; have x2 := (HB0.out.up hb1k).cell 2 (v := .slice A n c) rfl; have f2 := (HB0.out.up hb1k).free 2)
        | (go_at_call 34; refine (gclone_any A n c cs _ (by exact HR.out.up BWX) hn hn3 hc).mono ?_; rintro ee wk ⟨vk, rfl, hown, hbk⟩; have hzk := hbk.size; have hb1q := Bw.trans hb1k hbk; clear x2 f2; have x2 := (HB0.out.up hb1q).cell 2 (v := .slice A n c) rfl; have f2 := (HB0.out.up hb1q).free 2; obtain ⟨Ak, ck, rfl, hkc, hkm⟩ := own_form hown; have HOWN := Lib.hid (own_mono hown (show w.heap.size + 3 ≤ _ by omega)); clear hown)
        | fail)
      have hbq := hb1q
      have HB0k := Lib.hid (HB0.out.up hbq)
      have HB2k := Lib.hid (Exists.elim HB2.out (fun old h => (⟨old, h.1.up hbq, h.2⟩ : ∃ old, Sb wk (w.heap.size + 2) old 25 ∧ old.size = 3)))
      have hbwk : Bw w wk := Bw.trans hbw hbq
      have hzk3 : w.heap.size + 2 < wk.heap.size := by have := hbq.size; omega
      clear x2 f2
      generalize hw3 : World.setCell wk ⟨w.heap.size, 2, none⟩ (.slice Ak n ck) = w3
      have HS3 := Lib.hid (show Sb w3 w.heap.size (grV (Rn : Int) (Cn : Int) Ak n ck) 25 from by rw [← hw3]; exact HB0k.out.set 2 _ rfl)
      have hg3 : wk.grownBy w3 (some w.heap.size) := by rw [← hw3]; exact grown_set (grown_refl wk _) _ _
      have HO3 := Lib.hid (show w3.ownsRow (w.heap.size + 3) 39 4 (.slice Ak n ck) n (flat cs) from by rw [← hw3]; exact own_set_below HOWN.out (by omega) _)
      have HB23 := Lib.hid (Exists.elim HB2k.out (fun old h => (⟨old, h.1.far hg3 (by intro e; have := Option.some.inj e; omega), h.2⟩ : ∃ old, Sb w3 (w.heap.size + 2) old 25 ∧ old.size = 3)))
      have hbw3 : Bw w w3 := Bw.grown hbwk hg3 (fun k hk => by cases hk; omega)
      have hz3 : w.heap.size + 2 < w3.heap.size := by have := hg3.size; omega
      have HG3k := Lib.hid hg3
      clear hw3 hg3 HOWN HB0k HB2k hb1q hbq
      have hlen : n = Rn * Cn := HR.out.1.symm.trans HLN.out
      have hpos : 0 < n := by rw [hlen]; exact Nat.mul_pos (by omega) (by omega)
      obtain ⟨gp, sp, rfl, hgp, hWc⟩ := Wc.of_own HO3.out hpos
      have HW := Lib.hid hWc
      obtain ⟨a0, a1, a2, a3, a4, a5, a6, a7, a8⟩ := HY.out
      have l0 := lt_of_cell a0
      have l1 := lt_of_cell a1
      have l3 := lt_of_cell a3
      have l4 := lt_of_cell a4
      have l5 := lt_of_cell a5
      dsimp only at l0 l1 l3 l4 l5
      clear a0 a1 a2 a3 a4 a5 a6 a7 a8 hWc
      have HLE := Lib.hid hlen
      clear hlen
      have z2 := HS3.out.cell 2 (v := .slice (some ⟨gp, 0, none⟩) n ck) rfl
      go_upto_region 5 with (first
        | (go_at_call 41; rw [HLE.out]; refine (gshift1_go Rn Cn cs sp gp ck br bg bl bn bc row col num d1 d2 d3 d4 w3 HR1.out HR2.out HC1.out HC2.out HLN.out HW.out (by rw [← HLE.out]; exact hkc) hkm (cell_up HY.out.1 hbw3) (cell_up HY.out.2.1 hbw3) (cell_up HY.out.2.2.1 hbw3) (cell_up HY.out.2.2.2.1 hbw3) (cell_up HY.out.2.2.2.2.1 hbw3) (cell_up HY.out.2.2.2.2.2.1 hbw3) (cell_up HY.out.2.2.2.2.2.2.1 hbw3) (cell_up HY.out.2.2.2.2.2.2.2.1 hbw3) (cell_up HY.out.2.2.2.2.2.2.2.2 hbw3) ⟨by omega, by omega, by omega, by omega, by omega⟩).mono ?_; rintro ee w5 ⟨⟨rv, rfl⟩, hW5, hg5⟩; have HW5 := Lib.hid hW5; have HG5 := Lib.hid hg5; clear hW5 hg5)
        | fail)
      have hg5 := HG5.out
      have hgb : ∀ k, k < w.heap.size + 3 → some k ≠ some gp := fun k hk e => by have := Option.some.inj e; omega
      have HS5 := Lib.hid (HS3.out.far hg5 (hgb _ (by omega)))
      have HB25 := Lib.hid (Exists.elim HB23.out (fun old h => (⟨old, h.1.far hg5 (hgb _ (by omega)), h.2⟩ : ∃ old, Sb w5 (w.heap.size + 2) old 25 ∧ old.size = 3)))
      have hbw5 : Bw w w5 := Bw.grown hbw3 hg5 (fun k hk => by cases hk; omega)
      clear z2
      have z0 := HS5.out.cell 0 (v := .int .i64 (Rn : Int)) rfl
      have z1 := HS5.out.cell 1 (v := .int .i64 (Cn : Int)) rfl
      have z2 := HS5.out.cell 2 (v := .slice (some ⟨gp, 0, none⟩) n ck) rfl
      go_wp2_with (first
        | ((with_reducible refine wpList_store_gr (Rn : Int) (Cn : Int) (some ⟨gp, 0, none⟩) n ck (w.heap.size + 2) (.tmp 6) (.tmp 23) rfl rfl ?_ ?_ ?_ ?_); (focus rfl); (focus rfl); (focus (exact HB25.out)); intro w6 hS6 hg6; have HS6 := Lib.hid hS6; have HG6 := Lib.hid hg6; clear hS6 hg6)
        | fail)
      refine bodyPost_ret (results_gr rfl _ _ (w.heap.size + 2) (Rn : Int) (Cn : Int) (some ⟨gp, 0, none⟩) n ck (by rfl) HS6.out) rfl ?_
      have hW6 : Wc w6 gp _ sp := (HG6.out.block gp HW5.out.lt (by intro e; have := Option.some.inj e; omega)).trans HW5.out
      have hrg := hW6.rg
      rw [show (if 0 ≤ row ∧ row < (Rn : Int) ∧ 0 ≤ col ∧ col < (Cn : Int) then tab Rn Cn (shiftF Rn Cn cs row col (clampS Cn num) (d1, d2, d3, d4)) else cs).length = n from by split; exact (tab_len _ _ _).trans HLE.out.symm; exact HLN.out.trans HLE.out.symm] at hrg
      exact ⟨some ⟨gp, 0, none⟩, n, ck, rfl, by rw [HE.out]; exact hrg, hkc, hkm, (fun ad e => by cases e; dsimp only; omega), Bw.grown hbw5 HG6.out (fun k hk => by cases hk; omega)⟩

end Go.Proofs.Ytccfpehcadpkiaa

/- The program's Shift, at whatever arguments. -/
namespace Go.Proofs.Ytccfpehcadpkiaa
open Go.RowKit

set_option maxRecDepth 100000 in
set_option maxHeartbeats 4000000 in
theorem gshift_any (R C : Int) (A : Option Addr) (n c : Nat) (cs : List C4) (row col num d1 d2 d3 d4 : Int) (w : World) (hr : Rg w A n cs) (hn : n ≤ c) (hn3 : n ≤ 4398046511103) (hc : c ≤ 9223372036854775807) :
    Calls Try.prog 26 #[.agg #[.int .i64 R, .int .i64 C, .slice A n c], .int .i64 row, .int .i64 col, .int .i64 num, .agg #[.int .i64 d1, .int .i64 d2, .int .i64 d3, .int .i64 d4]] w (GrN w R C (shiftG R C cs row col num (d1, d2, d3, d4))) := by
  have HR := Lib.hid hr
  clear hr
  go_enter Try.func26, Try.ntmps26
  go_upto_region 1 with (fail)
  generalize hw6 : (((((w.alloc (.cells #[.int .i64 R, .int .i64 C, .slice A n c] 25)).alloc (.cells #[.int .i64 row] 3)).alloc (.cells #[.int .i64 col] 3)).alloc (.cells #[.int .i64 num] 3)).alloc (.cells #[.int .i64 d1, .int .i64 d2, .int .i64 d3, .int .i64 d4] 39)).alloc _ = w6
  have hbw : Bw w w6 := by rw [← hw6]; exact BWX
  have y0 : w6.cell? ⟨w.heap.size + 1, 0, none⟩ = some (.int .i64 row) := by rw [← hw6]; exact CELX
  have y1 : w6.cell? ⟨w.heap.size, 0, none⟩ = some (.int .i64 R) := by rw [← hw6]; exact CELX
  have y2 : w6.cell? ⟨w.heap.size, 1, none⟩ = some (.int .i64 C) := by rw [← hw6]; exact CELX
  have y2' : w6.cell? ⟨w.heap.size, 2, none⟩ = some (.slice A n c) := by rw [← hw6]; exact CELX
  have y3 : w6.cell? ⟨w.heap.size + 1 + 1, 0, none⟩ = some (.int .i64 col) := by rw [← hw6]; exact CELX
  have y4 : w6.cell? ⟨w.heap.size + 1 + 1 + 1, 0, none⟩ = some (.int .i64 num) := by rw [← hw6]; exact CELX
  have y5 : w6.cell? ⟨w.heap.size + 1 + 1 + 1 + 1, 0, none⟩ = some (.int .i64 d1) := by rw [← hw6]; exact CELX
  have y6 : w6.cell? ⟨w.heap.size + 1 + 1 + 1 + 1, 1, none⟩ = some (.int .i64 d2) := by rw [← hw6]; exact CELX
  have y7 : w6.cell? ⟨w.heap.size + 1 + 1 + 1 + 1, 2, none⟩ = some (.int .i64 d3) := by rw [← hw6]; exact CELX
  have y8 : w6.cell? ⟨w.heap.size + 1 + 1 + 1 + 1, 3, none⟩ = some (.int .i64 d4) := by rw [← hw6]; exact CELX
  have HB := Lib.hid (show ∃ old, Sb w6 (w.heap.size + 1 + 1 + 1 + 1 + 1) old 25 ∧ old.size = 3 from by rw [← hw6]; exact ⟨_, heap_at (by simp), rfl⟩)
  have hz6 : w.heap.size + 1 + 1 + 1 + 1 + 1 < w6.heap.size := by rw [← hw6]; simp
  clear hw6
  go_wp2_with (first
    | (go_at_call 36; refine (gchangeshift_ok R C A n c cs row col num d1 d2 d3 d4 (w.heap.size + 1) w.heap.size (w.heap.size + 1 + 1) (w.heap.size + 1 + 1 + 1) (w.heap.size + 1 + 1 + 1 + 1) w6 (HR.out.up hbw) hn hn3 hc y0 y1 y2 y3 y4 y5 y6 y7 y8).mono ?_; rintro ee w7 ⟨A', n', c', rfl, hRg, hn', hc', hnew, hb7⟩; have HRg := Lib.hid hRg; have HB7 := Lib.hid hb7; have hlt := Lib.hid hRg.1; clear hRg hb7)
    | ((with_reducible refine wpList_store_gr R C A' n' c' (w.heap.size + 1 + 1 + 1 + 1 + 1) (.tmp 10) (.tmp 14) rfl rfl ?_ ?_ ?_ ?_); (focus rfl); (focus rfl); (focus (exact Exists.elim HB.out (fun old h => ⟨old, h.1.up HB7.out, h.2⟩))); intro w8 hS8 hg8; have HS8 := Lib.hid hS8; have HG8 := Lib.hid hg8; clear hS8 hg8)
    | fail)
  refine bodyPost_ret (results_gr rfl _ _ (w.heap.size + 1 + 1 + 1 + 1 + 1) R C A' n' c' (by rfl) HS8.out) rfl ?_
  have hz := hbw.size
  exact ⟨A', n', c', rfl, HRg.out.far HG8.out (fun ad e e2 => by have := hnew ad e; have e3 := Option.some.inj e2; omega), hn', hc', (fun ad e => by have := hnew ad e; omega), Bw.grown (Bw.trans hbw HB7.out) HG8.out (fun k hk => by cases hk; omega)⟩
end Go.Proofs.Ytccfpehcadpkiaa

/- Chapter 16's laws: the sanity check. -/
namespace Go.Proofs.Ytccfpehcadpkiaa
open Go.RowKit

def csk (k : Nat) : List C4 := [if 0 < k then (97, 0, 0, 0) else blk, if 1 < k then (98, 0, 0, 0) else blk, if 2 < k then (99, 0, 0, 0) else blk]
theorem csk_fill : ∀ k : Nat, k < 3 → fillG 3 1 (csk k) k 0 1 (97 + (k : Int), 0, 0, 0) = csk (k + 1) := by decide +kernel
theorem csk_scroll : scrollG 3 1 (csk 3) 0 2 1 (32, 0, 0, 0) = [(98, 0, 0, 0), (99, 0, 0, 0), (32, 0, 0, 0)] := by decide +kernel
theorem csk_ok : gridB 3 1 [(98, 0, 0, 0), (99, 0, 0, 0), (32, 0, 0, 0)] = true := by decide +kernel
theorem Rg.lt {w : World} {A : Option Addr} {n : Nat} {cs : List C4} (h : Rg w A n cs) (h0 : 0 < cs.length) : ∀ ad, A = some ad → ad.block < w.heap.size := fun ad e => by
  obtain ⟨g, o, e2, hx⟩ := h.2 (by have := h.1; omega)
  rw [e2] at e
  cases e
  simpa using lt_of_cell (hx 0 h0).1
/-- Box g holds a grid of cells cs, its rows apart from the box. -/
def Gb (w wr : World) (g : Nat) (R C : Int) (cs : List C4) : Prop := ∃ A n c, Sb wr g (grV R C A n c) 25 ∧ Rg wr A n cs ∧ n ≤ c ∧ c ≤ 9223372036854775807 ∧ (∀ ad, A = some ad → ad.block ≠ g) ∧ w.heap.size ≤ g ∧ Bw w wr

set_option maxRecDepth 100000 in
set_option maxHeartbeats 4000000 in
theorem sane16_any (w : World) : Calls Try.prog 8 #[] w fun e w' => e = .returned (.bool true) ∧ Bw w w' := by
  have hN := gnew16_any 3 1 w
  rw [show clamp 3 30 = 3 from rfl, show clamp 1 100 = 1 from rfl] at hN
  go_enter Try.func8, Try.ntmps8
  go_upto_region 2 with (first
    | (go_at_call 18; refine hN.mono ?_; rintro ee w1 ⟨A0, n0, c0, rfl, hr0, hn0, hc0, hnew0, hb1⟩; have HR0 := Lib.hid hr0; have HB1 := Lib.hid hb1; have HN0 := Lib.hid hnew0; clear hr0 hb1 hnew0 hN)
    | ((with_reducible refine wpList_store_gr 3 1 A0 n0 c0 w1.heap.size (.tmp 1) (.tmp 4) rfl rfl ?_ ?_ ?_ ?_); (focus rfl); (focus rfl); (focus (exact ⟨_, heap_at rfl, rfl⟩)); intro w2 hS2 hg2; have HS2 := Lib.hid hS2; have HG2 := Lib.hid hg2; clear hS2 hg2)
    | fail)
  have HG2' := HG2.out
  have hb12 : Bw w w2 := Bw.grown (show Bw w (w1.alloc _) from Bw.alloc HB1.out _) HG2' (fun k hk => by cases hk; exact HB1.out.size)
  have HG0 := Lib.hid (show Gb w w2 w1.heap.size 3 1 (csk 0) from ⟨A0, n0, c0, HS2.out, (HR0.out.up (show Bw w1 (w1.alloc _) from BWX)).far HG2' (fun ad e e2 => by have := HR0.out.lt (by decide) ad e; have e3 := Option.some.inj e2; omega), hn0, hc0, fun ad e => by have := HR0.out.lt (by decide) ad e; omega, HB1.out.size, hb12⟩)
  obtain ⟨g, hg⟩ : ∃ g, w1.heap.size = g := ⟨_, rfl⟩
  rw [hg] at HG0
  simp only [hg]
  clear HG2' hb12 HS2 HG2 HR0 HB1 HN0 hg
  go_wp2_with fail
  go_loopw [2] (fun i wr => ∃ k : Nat, i = .int .i64 k ∧ k ≤ 3 ∧ Gb w wr g 3 1 (csk k)) (fun i _ => 3 - (intOf i).toNat)
  case atStart => exact ⟨0, rfl, by omega, HG0.out⟩
  case round =>
    rename_i wr
    obtain ⟨k, rfl, hk, A, n, c, hS, hr, hn, hc, hne, hgw, hbw⟩ := hrel
    have HS := Lib.hid hS
    have HR := Lib.hid hr
    have HNE := Lib.hid hne
    have HBW := Lib.hid hbw
    have hl := hr.1
    have hnk : n = 3 := by rw [← hl]; rfl
    have x0 := HS.out.cell 0 (v := .int .i64 3) rfl
    have x1 := HS.out.cell 1 (v := .int .i64 1) rfl
    have x2 := HS.out.cell 2 (v := .slice A n c) rfl
    clear hS hr hne hbw hl
    subst hnk
    have hgz := HS.out.lt
    by_cases hlt : k < 3
    · have HF := Lib.hid (csk_fill k hlt)
      have hk1 : (k : Int) < 3 := by omega
      go_wp2_with (first
        | (go_at_call 22; refine (gfill_any 3 1 A 3 c (csk k) k 0 1 (97 + (k : Int)) 0 0 0 wr HR.out hn (by omega) hc).mono ?_; rintro ee w3 ⟨A3, n3, c3, rfl, hr3, hn3, hc3, hnew3, hb3⟩; rw [HF.out] at hr3; have HR3 := Lib.hid hr3; have HB3 := Lib.hid hb3; have HN3 := Lib.hid hnew3; clear hr3 hb3 hnew3)
        | ((with_reducible refine wpList_store_gr 3 1 A3 n3 c3 g (.tmp 1) (.tmp 14) rfl rfl ?_ ?_ ?_ ?_); (focus rfl); (focus rfl); (focus (exact ⟨_, HS.out.up HB3.out, rfl⟩)); intro w4 hS4 hg4; have HS4 := Lib.hid hS4; have HG4 := Lib.hid hg4; clear hS4 hg4)
        | fail)
      go_roundw
      case rel =>
        exact ⟨k + 1, by go_num, by omega, A3, n3, c3, HS4.out, HR3.out.far HG4.out (fun ad e e2 => by have := HN3.out ad e; have e3 := Option.some.inj e2; omega), hn3, hc3, (fun ad e => by have := HN3.out ad e; omega), hgw, Bw.grown (Bw.trans HBW.out HB3.out) HG4.out (fun j hj => by cases hj; exact hgw)⟩
      case measure => simp [intOf]; omega
    · obtain rfl : k = 3 := by omega
      have HF := Lib.hid csk_scroll
      go_upto_region 7 with (first
        | (go_at_call 24; refine (gscroll_any 3 1 A 3 c (csk 3) 0 2 1 32 0 0 0 wr HR.out hn (by omega) hc).mono ?_; rintro ee w3 ⟨A3, n3, c3, rfl, hr3, hn3, hc3, hnew3, hb3⟩; rw [HF.out] at hr3; have HR3 := Lib.hid hr3; have HB3 := Lib.hid hb3; have HN3 := Lib.hid hnew3; clear hr3 hb3 hnew3)
        | ((with_reducible refine wpList_store_gr 3 1 A3 n3 c3 w3.heap.size (.tmp 3) (.tmp 17) rfl rfl ?_ ?_ ?_ ?_); (focus rfl); (focus rfl); (focus (exact ⟨_, heap_at rfl, rfl⟩)); intro w4 hS4 hg4; have HS4 := Lib.hid hS4; have HG4 := Lib.hid hg4; clear hS4 hg4)
        | fail)
      have hb34 : Bw w3 w4 := Bw.grown (show Bw w3 (w3.alloc _) from BWX) HG4.out (fun j hj => by cases hj; omega)
      have HR4 := Lib.hid (HR3.out.up hb34)
      obtain rfl : n3 = 3 := by have := HR3.out.1; exact this.symm
      have hbw4 : Bw w w4 := Bw.trans (Bw.trans HBW.out HB3.out) hb34
      have x0 := HS4.out.cell 0 (v := .int .i64 3) rfl
      have x1 := HS4.out.cell 1 (v := .int .i64 1) rfl
      have x2 := HS4.out.cell 2 (v := .slice A3 3 c3) rfl
      obtain ⟨g5, o5, rfl, hx⟩ := HR4.out.2 (by omega)
      have y0 := (hx 0 (by decide)).1
      have y1 := (hx 1 (by decide)).1
      have y2 := (hx 2 (by decide)).1
      simp only [List.getElem_cons_zero, List.getElem_cons_succ, Nat.zero_mul, Nat.add_zero, Nat.one_mul, Nat.reduceMul] at y0 y1 y2
      have HV := Lib.hid csk_ok
      clear hx
      go_wp2_with (first
        | (go_at_call 11; refine (ggvalid_any 3 1 (some ⟨g5, o5, none⟩) 3 c3 _ w4 HR4.out hn3 hc3).mono ?_; rintro ee wv ⟨rfl, hbv⟩; rw [HV.out])
        | fail)
      trace_state
      go_ret
      exact ⟨rfl, Bw.trans hbw4 hbv⟩
end Go.Proofs.Ytccfpehcadpkiaa
