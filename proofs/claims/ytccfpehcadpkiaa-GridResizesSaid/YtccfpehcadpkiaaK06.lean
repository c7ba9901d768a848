/- Parts of the proof, one after the other. -/
import Derived.Test.YtccfpehcadpkiaaM34
import Derived.Test.YtccfpehcadpkiaaM19
import Derived.Test.YtccfpehcadpkiaaM35
import Derived.Test.YtccfpehcadpkiaaK05
import Derived.Deep.RegionHeld3
set_option linter.unusedSimpArgs false
set_option linter.unusedVariables false
/- The reference's Resize. -/
namespace Go.Proofs.Ytccfpehcadpkiaa
open Go.RowKit

set_option maxRecDepth 100000 in
set_option maxHeartbeats 8000000 in
theorem rresize_no (R C : Int) (A : Option Addr) (n c : Nat) (cs : List C4) (rows cols : Int) (w : World) (hr : Rg w A n cs) (hn : n ≤ c) (hc : c ≤ 9223372036854775807) (hAlt : 0 < cs.length → ∀ ad, A = some ad → ad.block < w.heap.size) (hv : gridB R C cs = false) :
    Calls Try.prog 29 #[.agg #[.int .i64 R, .int .i64 C, .slice A n c], .int .i64 rows, .int .i64 cols] w (GrP w R C cs) := by
  have HR := Lib.hid hr
  have HV := Lib.hid hv
  have HAL := Lib.hid hAlt
  clear hr hv hAlt
  go_enter Try.func29, Try.ntmps29
  go_upto_region 1 with (fail)
  generalize hw1 : (w.alloc (.cells #[.int .i64 R, .int .i64 C, .slice A n c] 25)).alloc _ = w1
  obtain ⟨hb0, hb1, hbw, hz⟩ := sb2 hw1
  have HB0 := Lib.hid hb0
  have HB1 := Lib.hid (show ∃ old, Sb w1 (w.heap.size + 1) old 25 ∧ old.size = 3 from ⟨_, hb1, rfl⟩)
  have hz1 : w.heap.size + 1 < w1.heap.size := by omega
  clear hw1 hb0 hb1 hz
  have x0 := HB0.out.cell 0 (v := .int .i64 R) rfl
  have x1 := HB0.out.cell 1 (v := .int .i64 C) rfl
  have x2 := HB0.out.cell 2 (v := .slice A n c) rfl
  go_wp2_with (first
    | (go_at_call 12; refine (rgvalid_any R C A n c cs _ (by exact HR.out.up BWX) hn hc).mono ?_; rintro ee wv ⟨rfl, hbv⟩; rw [HV.out]; clear x0 x1 x2; have x0 := (HB0.out.up hbv).cell 0 (v := .int .i64 R) rfl; have x1 := (HB0.out.up hbv).cell 1 (v := .int .i64 C) rfl; have x2 := (HB0.out.up hbv).cell 2 (v := .slice A n c) rfl; have HB1v := Lib.hid (Exists.elim HB1.out (fun old h => (⟨old, h.1.up hbv, h.2⟩ : ∃ old, Sb wv (w.heap.size + 1) old 25 ∧ old.size = 3))))
    | ((with_reducible refine wpList_store_gr R C A n c (w.heap.size + 1) (.tmp 6) (.tmp 12) rfl rfl ?_ ?_ ?_ ?_); (focus rfl); (focus rfl); (focus (exact HB1v.out)); intro w4 hS4 hg4; have HS4 := Lib.hid hS4; have HG4 := Lib.hid hg4; clear hS4 hg4)
    | fail)
  refine bodyPost_ret (results_gr rfl _ _ (w.heap.size + 1) R C A n c (by rfl) HS4.out) rfl ?_
  have hbwv := Bw.trans hbw hbv
  refine ⟨A, n, c, rfl, ?_, hn, hc, Bw.grown hbwv HG4.out (fun k hk => by cases hk; omega)⟩
  by_cases h0 : 0 < cs.length
  · exact (HR.out.up hbwv).far HG4.out (fun ad e e2 => by have := HAL.out h0 ad e; have := Option.some.inj e2; omega)
  · exact ⟨HR.out.1, fun h => absurd h (by have := HR.out.1; omega)⟩

/-- The grid R' x C' in box g7, its m first cells set. -/
def RyR (w : World) (Rn Cn : Nat) (A : Option Addr) (n c : Nat) (cs : List C4) (g7 gp R' C' n2 c2 m : Nat) (sp : List Value) (wr : World) : Prop :=
  Sb wr w.heap.size (grV Rn Cn A n c) 25 ∧ Sb wr g7 (grV R' C' (some ⟨gp, 0, none⟩) n2 c2) 25 ∧ (∃ old, Sb wr (w.heap.size + 1) old 25 ∧ old.size = 3) ∧ Wc wr gp (cellsTo C' n2 m (resF Rn Cn cs)) sp ∧ Rg wr A n cs ∧ Bw w wr

set_option maxRecDepth 100000 in
set_option maxHeartbeats 8000000 in
theorem rresize_go (Rn Cn : Nat) (A : Option Addr) (n c : Nat) (cs : List C4) (rows cols : Int) (w : World) (hr : Rg w A n cs) (hn : n ≤ c) (hc : c ≤ 9223372036854775807) (hR1 : 1 ≤ Rn) (hR2 : Rn ≤ 30) (hC1 : 1 ≤ Cn) (hC2 : Cn ≤ 100) (hl : cs.length = Rn * Cn) (hv : gridB Rn Cn cs = true) :
    Calls Try.prog 29 #[.agg #[.int .i64 (Rn : Int), .int .i64 (Cn : Int), .slice A n c], .int .i64 rows, .int .i64 cols] w (GrN w (clamp rows 30) (clamp cols 100) (tab (clamp rows 30).toNat (clamp cols 100).toNat (resF Rn Cn cs))) := by
  have HR := Lib.hid hr
  have HV := Lib.hid hv
  have HL := Lib.hid hl
  have hcl : 0 < cs.length := by rw [hl]; exact Nat.mul_pos (by omega) (by omega)
  have hnl := hr.1
  have HNL := Lib.hid hnl
  obtain ⟨gs, os, rfl, hx⟩ := hr.2 (by omega)
  have hgs : gs < w.heap.size := by simpa using lt_of_cell (hx 0 hcl).1
  clear hx
  have h1 := clamp_bd rows 30 (by omega)
  have h2 := clamp_bd cols 100 (by omega)
  have HN := Lib.hid (rnew16_own rows cols)
  obtain ⟨R', hR⟩ : ∃ R' : Nat, clamp rows 30 = R' := ⟨(clamp rows 30).toNat, by omega⟩
  obtain ⟨C', hC⟩ : ∃ C' : Nat, clamp cols 100 = C' := ⟨(clamp cols 100).toNat, by omega⟩
  rw [hR] at h1 HN ⊢
  rw [hC] at h2 HN ⊢
  simp only [Int.toNat_natCast]
  clear hR hC hr hv hl hnl
  obtain ⟨h1, h3⟩ := h1
  obtain ⟨h2, h4⟩ := h2
  go_enter Try.func29, Try.ntmps29
  go_upto_region 1 with (fail)
  generalize hw1 : (w.alloc (.cells #[.int .i64 (Rn : Int), .int .i64 (Cn : Int), .slice (some ⟨gs, os, none⟩) n c] 25)).alloc _ = w1
  obtain ⟨hb0, hb1, hbw, hz⟩ := sb2 hw1
  have HB0 := Lib.hid hb0
  have HB1 := Lib.hid (show ∃ old, Sb w1 (w.heap.size + 1) old 25 ∧ old.size = 3 from ⟨_, hb1, rfl⟩)
  have hz1 : w.heap.size + 1 < w1.heap.size := by omega
  clear hw1 hb0 hb1 hz
  have x0 := HB0.out.cell 0 (v := .int .i64 (Rn : Int)) rfl
  have x1 := HB0.out.cell 1 (v := .int .i64 (Cn : Int)) rfl
  have x2 := HB0.out.cell 2 (v := .slice (some ⟨gs, os, none⟩) n c) rfl
  go_upto_region 4 with (first
    | (go_at_call 12; refine (rgvalid_any (Rn : Int) (Cn : Int) _ n c cs _ (by exact HR.out.up BWX) hn hc).mono ?_; rintro ee wv ⟨rfl, hbv⟩; rw [HV.out]; clear x0 x1 x2; have hzv := hbv.size)
    | (go_at_call 19; refine (HN.out _).mono ?_; rintro ee w2 ⟨A2, n2, c2, rfl, hown, hn2, hc2, hb2⟩; have hzb2 := hb2.size; have HOWN := Lib.hid hown; clear hown)
    | ((with_reducible refine wpList_store_gr (R' : Int) (C' : Int) A2 n2 c2 w2.heap.size (.tmp 7) (.tmp 15) rfl rfl ?_ ?_ ?_ ?_); (focus rfl); (focus rfl); (focus (exact ⟨_, heap_at rfl, rfl⟩)); intro w3 hS3 hg3; have HS3 := Lib.hid hS3; have HG3 := Lib.hid hg3; clear hS3 hg3)
    | fail)
  have hg3 := HG3.out
  have hb13 : Bw w1 w2 := Bw.trans hbv (by simpa using hb2)
  have hbw2 : Bw w w2 := Bw.trans hbw hb13
  have hb23 : Bw w2 w3 := Bw.grown (show Bw w2 (w2.alloc _) from BWX) hg3 (fun k hk => by cases hk; omega)
  have hown := HOWN.out
  have hlen := hown.1
  rw [flat_len] at hlen
  have hn2' : n2 = R' * C' := by
    have e : (List.replicate ((R' : Int) * (C' : Int)).toNat blk).length = R' * C' := by
      rw [List.length_replicate]
      have : ((R' : Int) * (C' : Int)) = ((R' * C' : Nat) : Int) := by simp
      rw [this]
      rfl
    rw [e] at hlen
    omega
  have hpos : 1 ≤ R' * C' := Nat.mul_pos (by omega) (by omega)
  have hn2b : n2 ≤ 3000 := by rw [hn2']; exact Nat.le_trans (Nat.mul_le_mul (show R' ≤ 30 by omega) (show C' ≤ 100 by omega)) (by omega)
  obtain ⟨gp, sp, rfl, hgp1, hwc⟩ := Wc.of_own hown (by omega)
  have hgp2 := hwc.lt
  have hrep : (List.replicate ((R' : Int) * (C' : Int)).toNat blk) = cellsTo C' n2 0 (resF Rn Cn cs) := by
    rw [cellsTo_zero, hn2']
    have : ((R' : Int) * (C' : Int)) = ((R' * C' : Nat) : Int) := by simp
    rw [this]
    rfl
  rw [hrep] at hwc
  have hgpz : w.heap.size + 1 < gp := by first | omega | (simp at hgp1; omega)
  have HST := Lib.hid (show RyR w Rn Cn (some ⟨gs, os, none⟩) n c cs w2.heap.size gp R' C' n2 c2 0 sp w3 from ⟨HB0.out.up (Bw.trans hb13 hb23), HS3.out, Exists.elim HB1.out (fun old h => ⟨old, h.1.up (Bw.trans hb13 hb23), h.2⟩), hwc.up hb23, HR.out.up (Bw.trans hbw2 hb23), Bw.trans hbw2 hb23⟩)
  have hgpg : gp < w2.heap.size := hgp2
  have HN2 := Lib.hid hn2'
  obtain ⟨g7, hg7⟩ : ∃ g7, w2.heap.size = g7 := ⟨_, rfl⟩
  rw [hg7] at HST hgpg
  simp only [hg7]
  clear hn2' hrep hwc hgp1 hgp2 hown hlen hb13 hbw2 hb23 hg3 HS3 HG3 HOWN HB0 HB1 HR hg7 hbv hb2 hzb2 hzv hz1 hpos
  go_wp2_with fail
  go_loopw [8] (fun i wr => ∃ k : Nat, i = .int .i64 k ∧ k ≤ n2 ∧ RyR w Rn Cn (some ⟨gs, os, none⟩) n c cs g7 gp R' C' n2 c2 k sp wr) (fun i _ => n2 - (intOf i).toNat)
  case atStart => exact ⟨0, rfl, by omega, HST.out⟩
  case round =>
    rename_i wr
    obtain ⟨k, rfl, hk, hS0, hS7, hold, hW, hRg, hbwr⟩ := hrel
    have HS0 := Lib.hid hS0
    have HS7 := Lib.hid hS7
    have HOLD := Lib.hid hold
    have HWC := Lib.hid hW
    have HRG := Lib.hid hRg
    have HBW := Lib.hid hbwr
    clear hS0 hS7 hold hW hRg hbwr
    have y2 := HS7.out.cell 2 (v := .slice (some ⟨gp, 0, none⟩) n2 c2) rfl
    have hbz := HBW.out.size
    by_cases hlt : k < n2
    · have hkM : (k : Int) < n2 := by omega
      have hk0 : (0 : Int) ≤ (k : Int) := by omega
      obtain ⟨r, hrr⟩ : ∃ r : Nat, k / C' = r := ⟨_, rfl⟩
      obtain ⟨q, hqq⟩ : ∃ q : Nat, k % C' = q := ⟨_, rfl⟩
      have hri : (k : Int) / (C' : Int) = (r : Int) := by rw [← hrr]; rfl
      have hqi : (k : Int) % (C' : Int) = (q : Int) := by rw [← hqq]; rfl
      have hC0 : ¬ C' = 0 := by omega
      have hqt : (k : Int).tmod (C' : Int) = (q : Int) := by rw [Int.tmod_eq_emod_of_nonneg (by omega)]; exact hqi
      have hr3 : r ≤ 3000 := by rw [← hrr]; exact Nat.le_trans (Nat.div_le_self _ _) (by omega)
      have hq3 : q ≤ 100 := by have := Nat.mod_lt k (show 0 < C' by omega); omega
      have hwr : IntKind.i64.wrap (r : Int) = (r : Int) := IntWalk.i64_in _ (by omega)
      have hgn : gp ≠ gs := by omega
      have hlens : (cellsTo C' n2 k (resF Rn Cn cs)).length = n2 := cellsTo_len _ _ _ _
      have HLAW := Lib.hid (show (cellsTo C' n2 k (resF Rn Cn cs)).set k (atF Rn Cn cs r q (32, 0, 0, 0)) = cellsTo C' n2 (k + 1) (resF Rn Cn cs) from by
        have h := cellsTo_set (C' := C') (resF Rn Cn cs) hlt
        rw [hrr, hqq] at h
        exact h)
      obtain ⟨⟨x1, x2, x3, x4⟩, hxx⟩ : ∃ x, x = atF Rn Cn cs r q (32, 0, 0, 0) := ⟨_, rfl⟩
      rw [← hxx] at HLAW
      have HXX := Lib.hid hxx
      have HRQ := Lib.hid (And.intro hrr (And.intro hqq hlens))
      clear hrr hqq hlens hxx
      have HY := Lib.hid (show ∀ w', Bw wr w' → (w'.cell? ⟨g7, 2, none⟩ = some (.slice (some ⟨gp, 0, none⟩) n2 c2) ∧ w'.cell? ⟨g7, 1, none⟩ = some (.int .i64 (C' : Int)) ∧ w'.cell? ⟨w.heap.size, 0, none⟩ = some (.int .i64 (Rn : Int)) ∧ w'.cell? ⟨w.heap.size, 1, none⟩ = some (.int .i64 (Cn : Int)) ∧ w'.cell? ⟨w.heap.size, 2, none⟩ = some (.slice (some ⟨gs, os, none⟩) n c)) from fun w' hb => ⟨(HS7.out.up hb).cell 2 rfl, (HS7.out.up hb).cell 1 rfl, (HS0.out.up hb).cell 0 rfl, (HS0.out.up hb).cell 1 rfl, (HS0.out.up hb).cell 2 rfl⟩)
      have hkl : k < (cellsTo C' n2 k (resF Rn Cn cs)).length := by rw [cellsTo_len]; exact hlt
      have HYg := Lib.hid (show ∀ w', wr.grownBy w' (some gp) → (w'.cell? ⟨g7, 2, none⟩ = some (.slice (some ⟨gp, 0, none⟩) n2 c2) ∧ w'.cell? ⟨g7, 1, none⟩ = some (.int .i64 (C' : Int)) ∧ w'.cell? ⟨w.heap.size, 0, none⟩ = some (.int .i64 (Rn : Int)) ∧ w'.cell? ⟨w.heap.size, 1, none⟩ = some (.int .i64 (Cn : Int)) ∧ w'.cell? ⟨w.heap.size, 2, none⟩ = some (.slice (some ⟨gs, os, none⟩) n c)) from fun w' hb => ⟨(HS7.out.far hb (by intro e; have := Option.some.inj e; omega)).cell 2 rfl, (HS7.out.far hb (by intro e; have := Option.some.inj e; omega)).cell 1 rfl, (HS0.out.far hb (by intro e; have := Option.some.inj e; omega)).cell 0 rfl, (HS0.out.far hb (by intro e; have := Option.some.inj e; omega)).cell 1 rfl, (HS0.out.far hb (by intro e; have := Option.some.inj e; omega)).cell 2 rfl⟩)
      go_upto_region 7 with (fail)
      clear y2
      refine wp_region_held_drew (S := (fun w' => w'.cell? ⟨g7, 2, none⟩ = some (.slice (some ⟨gp, 0, none⟩) n2 c2) ∧ w'.cell? ⟨g7, 1, none⟩ = some (.int .i64 (C' : Int)) ∧ w'.cell? ⟨w.heap.size, 0, none⟩ = some (.int .i64 (Rn : Int)) ∧ w'.cell? ⟨w.heap.size, 1, none⟩ = some (.int .i64 (Cn : Int)) ∧ w'.cell? ⟨w.heap.size, 2, none⟩ = some (.slice (some ⟨gs, os, none⟩) n c))) (by kernel_rfl) ?_ (fun hHeld => ?_)
      · (try dsimp only); (first | (with_reducible exact HYg.out _ (grown_set (grown_set (grown_set (grown_set (grown_bw hbra (some gp)) _ _) _ _) _ _) _ _)) | (refine HY.out _ ?_; (repeat (first | with_reducible (first | assumption | exact Bw.refl _ | refine Bw.alloc ?_ _ | refine Bw.more ?_ _ _ | refine Bw.drew ?_ | refine Bw.drewN ?_ _) | ((with_reducible refine Bw.set2 ?_ ?_ _); (focus exact SZX)) | with_reducible refine Bw.trans ?_ (by assumption))); done))
      refine tkH 0 ?_ rfl (Or.inl ⟨by rfl, ?ht0⟩) ?_
      case ht0 => (intro w hSw; (try dsimp only at hSw); go_simp; try with_reducible rfl)
      (try simp only [Act.put, p1, p2, p3, p4, p5, p6])
      refine tkH 1 ?_ rfl (Or.inl ⟨by rfl, ?ht1⟩) ?_
      case ht1 => (intro w hSw; (try dsimp only at hSw); go_simp; try with_reducible rfl)
      (try simp only [Act.put, p1, p2, p3, p4, p5, p6])
      refine tkH 2 ?_ rfl (Or.inl ⟨by rfl, ?ht2⟩) ?_
      case ht2 => (intro w hSw; (try dsimp only at hSw); go_simp; try with_reducible rfl)
      (try simp only [Act.put, p1, p2, p3, p4, p5, p6])
      refine tkH 3 ?_ rfl (Or.inl ⟨by rfl, ?ht3⟩) ?_
      case ht3 => (intro w hSw; (try dsimp only at hSw); go_simp; try with_reducible rfl)
      (try simp only [Act.put, p1, p2, p3, p4, p5, p6])
      refine tkH 4 ?_ rfl (Or.inl ⟨by rfl, ?ht4⟩) ?_
      case ht4 => (intro w hSw; (try dsimp only at hSw); go_simp; try with_reducible rfl)
      (try simp only [Act.put, p1, p2, p3, p4, p5, p6])
      refine tkH 5 ?_ rfl (Or.inl ⟨by rfl, ?ht5⟩) ?_
      case ht5 => (intro w hSw; (try dsimp only at hSw); go_simp; try with_reducible rfl)
      (try simp only [Act.put, p1, p2, p3, p4, p5, p6])
      refine tkH 6 ?_ rfl (Or.inl ⟨by rfl, ?ht6⟩) ?_
      case ht6 => (intro w hSw; (try dsimp only at hSw); go_simp; try with_reducible rfl)
      (try simp only [Act.put, p1, p2, p3, p4, p5, p6])
      refine tkH 7 ?_ rfl (Or.inl ⟨by rfl, ?ht7⟩) ?_
      case ht7 => (intro w hSw; (try dsimp only at hSw); go_simp; try with_reducible rfl)
      (try simp only [Act.put, p1, p2, p3, p4, p5, p6])
      refine tkH 8 ?_ rfl (Or.inl ⟨by rfl, ?ht8⟩) ?_
      case ht8 => (intro w hSw; (try dsimp only at hSw); go_simp; try with_reducible rfl)
      (try simp only [Act.put, p1, p2, p3, p4, p5, p6])
      refine tkH 9 ?_ rfl (Or.inl ⟨by rfl, ?ht9⟩) ?_
      case ht9 => (intro w hSw; (try dsimp only at hSw); go_simp; try with_reducible rfl)
      (try simp only [Act.put, p1, p2, p3, p4, p5, p6])
      refine tkH 10 ?_ rfl (Or.inl ⟨by rfl, ?ht10⟩) ?_
      case ht10 => (intro w hSw; (try dsimp only at hSw); go_simp; try with_reducible rfl)
      (try simp only [Act.put, p1, p2, p3, p4, p5, p6])
      refine tkH 11 ?_ rfl (Or.inl ⟨by rfl, ?ht11⟩) ?_
      case ht11 => (intro w hSw; (try dsimp only at hSw); go_simp; try with_reducible rfl)
      (try simp only [Act.put, p1, p2, p3, p4, p5, p6])
      refine tkH 12 ?_ rfl (Or.inl ⟨by rfl, ?ht12⟩) ?_
      case ht12 => (intro w hSw; (try dsimp only at hSw); go_simp; try with_reducible rfl)
      (try simp only [Act.put, p1, p2, p3, p4, p5, p6])
      refine wpAnyH_ready (rs := [13]) (by kernel_rfl) (by simp) ?_
      refine AllReadyH.cons rfl (fun K hK => ?_) ?_
      · go_simp
        (try rw [hwr]); (try rw [hqt]); refine (rat_any Rn Cn (some ⟨gs, os, none⟩) n c cs r q 32 0 0 0 _ hR2 hC2 (HNL.out.symm.trans HL.out) (HRG.out.up BWX) hn hc).mono ?_; rintro ee wa ⟨rfl, hba⟩; rw [← HXX.out]; dsimp only [c4V]; have hbra : Bw wr wa := Bw.trans (show Bw wr _ from BWX) hba; have HWa := Lib.hid (HWC.out.up hbra); obtain ⟨a1, a2, a3, a4⟩ := HWa.out.cells k hkl; have f1 := HWa.out.free (k * 4); have f2 := HWa.out.free (k * 4 + 1); have f3 := HWa.out.free (k * 4 + 2); have f4 := HWa.out.free (k * 4 + 3); clear hba; go_wp2_with fail
        refine hK.out _ _ ?_ (fun hHeld => ?_)
        · (try dsimp only); (first | (with_reducible exact HYg.out _ (grown_set (grown_set (grown_set (grown_set (grown_bw hbra (some gp)) _ _) _ _) _ _) _ _)) | (refine HY.out _ ?_; (repeat (first | with_reducible (first | assumption | exact Bw.refl _ | refine Bw.alloc ?_ _ | refine Bw.more ?_ _ _ | refine Bw.drew ?_ | refine Bw.drewN ?_ _) | ((with_reducible refine Bw.set2 ?_ ?_ _); (focus exact SZX)) | with_reducible refine Bw.trans ?_ (by assumption))); done))
        clear hK K
        (try simp only [Act.put, p1, p2, p3, p4, p5, p6])
        refine wpAnyH_ready (rs := [14]) (by kernel_rfl) (by simp) ?_
        refine AllReadyH.cons rfl (fun K hK => ?_) ?_
        · go_simp
          refine hK.out _ _ ?_ (fun hHeld => ?_)
          · (try dsimp only); (first | (with_reducible exact HYg.out _ (grown_set (grown_set (grown_set (grown_set (grown_bw hbra (some gp)) _ _) _ _) _ _) _ _)) | (refine HY.out _ ?_; (repeat (first | with_reducible (first | assumption | exact Bw.refl _ | refine Bw.alloc ?_ _ | refine Bw.more ?_ _ _ | refine Bw.drew ?_ | refine Bw.drewN ?_ _) | ((with_reducible refine Bw.set2 ?_ ?_ _); (focus exact SZX)) | with_reducible refine Bw.trans ?_ (by assumption))); done))
          clear hK K
          (try simp only [Act.put, p1, p2, p3, p4, p5, p6])
          refine wpAnyH_ready (rs := [15]) (by kernel_rfl) (by simp) ?_
          refine AllReadyH.cons rfl (fun K hK => ?_) ?_
          · go_simp
            refine hK.out _ _ ?_ (fun hHeld => ?_)
            · (try dsimp only); (first | (with_reducible exact HYg.out _ (grown_set (grown_set (grown_set (grown_set (grown_bw hbra (some gp)) _ _) _ _) _ _) _ _)) | (refine HY.out _ ?_; (repeat (first | with_reducible (first | assumption | exact Bw.refl _ | refine Bw.alloc ?_ _ | refine Bw.more ?_ _ _ | refine Bw.drew ?_ | refine Bw.drewN ?_ _) | ((with_reducible refine Bw.set2 ?_ ?_ _); (focus exact SZX)) | with_reducible refine Bw.trans ?_ (by assumption))); done))
            clear hK K
            (try simp only [Act.put, p1, p2, p3, p4, p5, p6])
            refine wpAnyH_done (by kernel_rfl) ?_ _
            go_wp2_with fail
            go_roundw
            case rel =>
              have hst := HWa.out.store k hkl (x1, x2, x3, x4)
              rw [HLAW.out] at hst
              have hgg := grown_bw hbra (some gp)
              have hg4 : wr.grownBy ((((wa.setCell ⟨gp, k * 4, none⟩ (.int .i64 x1)).setCell ⟨gp, k * 4 + 1, none⟩ (.int .i64 x2)).setCell ⟨gp, k * 4 + 2, none⟩ (.int .i64 x3)).setCell ⟨gp, k * 4 + 3, none⟩ (.int .i64 x4)) (some gp) := grown_set (grown_set (grown_set (grown_set hgg _ _) _ _) _ _) _ _
              exact ⟨k + 1, by go_num, by omega, HS0.out.far hg4 (by intro e; have := Option.some.inj e; omega), HS7.out.far hg4 (by intro e; have := Option.some.inj e; omega), Exists.elim HOLD.out (fun old h => ⟨old, h.1.far hg4 (by intro e; have := Option.some.inj e; omega), h.2⟩), hst, HRG.out.far hg4 (fun ad e e2 => by cases e; exact hgn (Option.some.inj e2).symm), Bw.grown HBW.out hg4 (fun j hj => by cases hj; omega)⟩
            case measure => simp [intOf]; omega
          exact AllReadyH.nil
        exact AllReadyH.nil
      exact AllReadyH.nil
    · have hkM : ¬ (k : Int) < n2 := by omega
      obtain rfl : k = n2 := by omega
      have hall : cellsTo C' k k (resF Rn Cn cs) = tab R' C' (resF Rn Cn cs) := by
        have h := HN2.out
        conv => lhs; rw [h]
        exact cellsTo_all _ _ _
      have HALL := Lib.hid hall
      clear hall
      have y0 := HS7.out.cell 0 (v := .int .i64 R') rfl
      have y1 := HS7.out.cell 1 (v := .int .i64 C') rfl
      go_wp2_with (first
        | ((with_reducible refine wpList_store_gr (R' : Int) (C' : Int) (some ⟨gp, 0, none⟩) k c2 (w.heap.size + 1) (.tmp 6) (.tmp 38) rfl rfl ?_ ?_ ?_ ?_); (focus rfl); (focus rfl); (focus (exact HOLD.out)); intro w4 hS4 hg4; have HS4 := Lib.hid hS4; have HG4 := Lib.hid hg4; clear hS4 hg4)
        | fail)
      refine bodyPost_ret (results_gr rfl _ _ (w.heap.size + 1) R' C' (some ⟨gp, 0, none⟩) k c2 (by rfl) HS4.out) rfl ?_
      have hrg := HWC.out.rg
      rw [cellsTo_len, HALL.out] at hrg
      exact ⟨_, k, c2, rfl, hrg.far HG4.out (fun ad e e2 => by cases e; have := Option.some.inj e2; simp at this; omega), hn2, hc2, (fun ad e => by cases e; show w.heap.size ≤ gp; omega), Bw.grown HBW.out HG4.out (fun j hj => by cases hj; omega)⟩

/-- The reference's Resize, at whatever arguments. -/
theorem rresize_any (R C : Int) (A : Option Addr) (n c : Nat) (cs : List C4) (rows cols : Int) (w : World) (hr : Rg w A n cs) (hn : n ≤ c) (hc : c ≤ 9223372036854775807) :
    Calls Try.prog 29 #[.agg #[.int .i64 R, .int .i64 C, .slice A n c], .int .i64 rows, .int .i64 cols] w (GrP w (rsR R C cs rows) (rsC R C cs cols) (rsG R C cs rows cols)) := by
  cases hv : gridB R C cs
  · rw [show rsR R C cs rows = R by unfold rsR; rw [hv]; simp, show rsC R C cs cols = C by unfold rsC; rw [hv]; simp, show rsG R C cs rows cols = cs by unfold rsG; rw [hv]; simp]
    refine rresize_no R C A n c cs rows cols w hr hn hc (fun h0 ad e => ?_) hv
    obtain ⟨g, o, e2, hx⟩ := hr.2 (by have := hr.1; omega)
    rw [e2] at e
    cases e
    simpa using lt_of_cell (hx 0 h0).1
  · rw [show rsR R C cs rows = clamp rows 30 by unfold rsR; rw [if_pos hv], show rsC R C cs cols = clamp cols 100 by unfold rsC; rw [if_pos hv], show rsG R C cs rows cols = tab (clamp rows 30).toNat (clamp cols 100).toNat (resF R.toNat C.toNat cs) by unfold rsG; rw [if_pos hv]]
    obtain ⟨Rn, Cn, rfl, rfl, h1, h2, h3, h4, h5, -⟩ := gridB_out hv
    exact (rresize_go Rn Cn A n c cs rows cols w hr hn hc h1 h2 h3 h4 h5 hv).mono fun _ _ h => h.toP
end Go.Proofs.Ytccfpehcadpkiaa

/- The law GridResizes. -/
namespace Go.Proofs.Ytccfpehcadpkiaa
open Go.RowKit


set_option maxRecDepth 100000 in
set_option maxHeartbeats 8000000 in
theorem resizes_any (A : Option Addr) (n c : Nat) (xs : List Int) (rows cols what at_ : Int) (w : World) (hr : RdI w A n xs) (hA : 0 < n → ∀ ad, A = some ad → ad.block < w.heap.size) (hn : n ≤ 9223372036854775807) :
    Calls Try.prog 6 #[.slice A n c, .int .i64 rows, .int .i64 cols, .int .i64 what, .int .i64 at_] w fun e w' => e = .returned (.bool true) ∧ Bw w w' := by
  have HR := Lib.hid hr
  have HAA := Lib.hid hA
  clear hr hA
  go_enter Try.func6, Try.ntmps6
  go_upto_region 4 with (first
    | (go_at_call 8; refine (sane16_any _).mono ?_; rintro ee ws ⟨rfl, hbs⟩; have hzs := hbs.size)
    | (go_at_call 9; refine (made16_any A n c xs _ (HR.out.up (fun hz ad e => HAA.out hz ad e) hbs) (fun h0 ad e => by have := HAA.out h0 ad e; have := (hbs : Bw w _).size; omega) hn).mono ?_; rintro ee w2 ⟨Rn, Cn, Ag, ng, cg, cs, rfl, ⟨b1, b2, b3, b4⟩, hng, hrg, hgv, hngc, hcg, hnew, hb2⟩; have HRG := Lib.hid hrg; have HGV := Lib.hid hgv; have HNEW := Lib.hid hnew; have HNG := Lib.hid hng; have hbw2 : Bw w w2 := Bw.trans hbs hb2; have hz2 := hb2.size; clear hrg hgv hnew hng)
    | ((with_reducible refine wpList_store_gr (Rn : Int) (Cn : Int) Ag ng cg w2.heap.size (.tmp 11) (.tmp 19) rfl rfl ?_ ?_ ?_ ?_); (focus rfl); (focus rfl); (focus (exact ⟨_, heap_at rfl, rfl⟩)); intro w3 hS3 hg3; have HS3 := Lib.hid hS3; have HG3 := Lib.hid hg3; clear hS3 hg3)
    | fail)
  have hg3 := HG3.out
  have hng := HNG.out
  have hng1 : 1 ≤ ng := by rw [hng]; exact Nat.mul_pos (by omega) (by omega)
  have hng2 : ng ≤ 45 := by rw [hng]; exact Nat.le_trans (Nat.mul_le_mul b2 b4) (by omega)
  have hglt := HRG.out.lt (by have := HRG.out.1; omega)
  have hb23 : Bw w2 w3 := Bw.grown (show Bw w2 (w2.alloc _) from BWX) hg3 (fun k hk => by cases hk; omega)
  have hbw3 : Bw w w3 := Bw.trans hbw2 hb23
  obtain ⟨g, hgg⟩ : ∃ g, w2.heap.size = g := ⟨_, rfl⟩
  rw [hgg] at HS3
  simp only [hgg]
  have HR3 := Lib.hid (HRG.out.up hb23)
  have hgz : w.heap.size ≤ g := by rw [← hgg]; exact hbw2.size
  have hgne : ∀ ad, Ag = some ad → ad.block ≠ g := fun ad e => by have := hglt ad e; omega
  have HNE := Lib.hid hgne
  have hg3z : g < w3.heap.size := HS3.out.lt
  clear hg3 hng hglt hb23 hgg hgne HG3 HRG HNEW hbw2 hz2 hb2 hbs hzs HAA HR
  have HY := Lib.hid (show ∀ w', Bw w3 w' → (w'.cell? ⟨g, 0, none⟩ = some (.int .i64 (Rn : Int)) ∧ w'.cell? ⟨g, 1, none⟩ = some (.int .i64 (Cn : Int)) ∧ w'.cell? ⟨g, 2, none⟩ = some (.slice Ag ng cg)) from fun w' hb => ⟨(HS3.out.up hb).cell 0 rfl, (HS3.out.up hb).cell 1 rfl, (HS3.out.up hb).cell 2 rfl⟩)
  dsimp only [Act.put]
  go_cut [25, 26, 27] (fun s25 s26 s27 w' => ∃ G, s25 = .slice (some ⟨G, 0, none⟩) 2 2 ∧ s26 = .int .i64 2 ∧ s27 = .int .i64 0 ∧ GAt w' G 0 ∧ GAt w' G 1 ∧ Bw w3 w')
  case first =>
    refine wp_region_held_drew (S := (fun w' => w'.cell? ⟨g, 0, none⟩ = some (.int .i64 (Rn : Int)) ∧ w'.cell? ⟨g, 1, none⟩ = some (.int .i64 (Cn : Int)) ∧ w'.cell? ⟨g, 2, none⟩ = some (.slice Ag ng cg))) (by kernel_rfl) ?_ (fun hHeld => ?_)
    · (try dsimp only); (refine HY.out _ ?_; exact BWX)
    refine tkH 0 ?_ rfl (Or.inl ⟨by rfl, ?ht0⟩) ?_
    case ht0 => (intro w hSw; (try dsimp only at hSw); go_simp; try with_reducible rfl)
    (try simp only [Act.put, p1, p2, p3, p4, p5, p6])
    refine tkH 1 ?_ rfl (Or.inl ⟨by rfl, ?ht1⟩) ?_
    case ht1 => (intro w hSw; (try dsimp only at hSw); go_simp; try with_reducible rfl)
    (try simp only [Act.put, p1, p2, p3, p4, p5, p6])
    refine tkH 2 ?_ rfl (Or.inl ⟨by rfl, ?ht2⟩) ?_
    case ht2 => (intro w hSw; (try dsimp only at hSw); go_simp; try with_reducible rfl)
    (try simp only [Act.put, p1, p2, p3, p4, p5, p6])
    refine tkH 3 ?_ rfl (Or.inl ⟨by rfl, ?ht3⟩) ?_
    case ht3 => (intro w hSw; (try dsimp only at hSw); go_simp; try with_reducible rfl)
    (try simp only [Act.put, p1, p2, p3, p4, p5, p6])
    refine tkH 7 ?_ rfl (Or.inl ⟨by rfl, ?ht7⟩) ?_
    case ht7 => (intro w hSw; (try dsimp only at hSw); go_simp; try with_reducible rfl)
    (try simp only [Act.put, p1, p2, p3, p4, p5, p6])
    refine wpAnyH_ready (rs := [4]) (by kernel_rfl) (by simp) ?_
    refine AllReadyH.cons rfl (fun K hK => ?_) ?_
    · go_simp
      refine (bad16_any Rn Cn Ag ng cg cs _ _ _ (HR3.out.up BWX) hng1 (by omega) (by omega) hngc hcg).mono ?_; rintro ee wb ⟨Rb, Cb, Ab, nb, cb, csb, rfl, hrb, hnb, hnbc, hcb, hbb⟩; have HRB := Lib.hid hrb; have hb3b : Bw w3 wb := Bw.trans (show Bw w3 _ from BWX) hbb; have hzb := hb3b.size; clear hrb hbb; go_wp2_with fail
      refine hK.out _ _ ?_ (fun hHeld => ?_)
      · (try dsimp only); (refine HY.out _ ?_; exact BWX)
      clear hK K
      (try simp only [Act.put, p1, p2, p3, p4, p5, p6])
      refine wpAnyH_ready (rs := [5]) (by kernel_rfl) (by simp) ?_
      refine AllReadyH.cons rfl (fun K hK => ?_) ?_
      · go_simp
        refine hK.out _ _ ?_ (fun hHeld => ?_)
        · (try dsimp only); (refine HY.out _ ?_; exact BWX)
        clear hK K
        (try simp only [Act.put, p1, p2, p3, p4, p5, p6])
        refine tkH 6 ?_ rfl (Or.inl ⟨by rfl, ?ht6⟩) ?_
        case ht6 => (intro w hSw; (try dsimp only at hSw); go_simp; try with_reducible rfl)
        (try simp only [Act.put, p1, p2, p3, p4, p5, p6])
        refine wpAnyH_done (by kernel_rfl) ?_ _
        go_wp2_with fail
        go_meet
        case rel =>
          refine ⟨wb.heap.size, rfl, rfl, rfl, ⟨Rn, Cn, Ag, ng, cg, cs, CELX, CELX, CELX, HR3.out.up BWX, by omega, hngc, hcg⟩, ⟨Rb, Cb, Ab, nb, cb, csb, CELX, CELX, CELX, HRB.out.up BWX, hnb, hnbc, hcb⟩, BWX⟩
      exact AllReadyH.nil
    exact AllReadyH.nil
  case rest =>
  obtain ⟨G, rfl, rfl, rfl, hG0, hG1, hb3c⟩ := hcut
  obtain ⟨wo, hwo⟩ : ∃ wo : World, wo = wc := ⟨_, rfl⟩
  subst hwo
  have HG0 := Lib.hid hG0
  have HG1 := Lib.hid hG1
  have HBW := Lib.hid (Bw.trans hbw3 hb3c)
  have hGz : G < wo.heap.size := by obtain ⟨_, _, _, _, _, _, h, _⟩ := hG0; simpa using lt_of_cell h
  clear hG0 hG1 HY hb3c hbw3 HS3 HR3 HGV HNE HNG hgz hg3z hng1 hng2 b1 b2 b3 b4 hngc hcg
  go_wp2_with fail
  go_loopw [27] (fun i wr => ∃ k : Nat, i = .int .i64 k ∧ k ≤ 2 ∧ Bw wo wr) (fun i _ => 2 - (intOf i).toNat)
  case atStart => exact ⟨0, rfl, by omega, BWX⟩
  case round =>
    obtain ⟨wz, hwz⟩ : ∃ wz : World, wz = wr := ⟨_, rfl⟩
    subst hwz
    obtain ⟨k, rfl, hk, hwr⟩ := hrel
    by_cases hlt : k < 2
    · have hGA : GAt wz G k := by
        rcases (show k = 0 ∨ k = 1 by omega) with rfl | rfl
        · exact HG0.out.up hwr
        · exact HG1.out.up hwr
      obtain ⟨R, C, Az, nz, cz, ds, h1, h2, h3, hrz, hnz, hncz, hcz⟩ := hGA
      have HRZ := Lib.hid hrz
      clear hrz
      have e1 : (0 : Int) ≤ k := by omega
      have e2 : (k : Int) < 2 := by omega
      go_upto_region 7 with (fail)
      generalize hwx : wz.alloc (.cells #[.int .i64 R, .int .i64 C, .slice Az nz cz] 25) = wx
      obtain ⟨hbx, hbwx, hzx⟩ := sb1 hwx
      have HBX := Lib.hid hbx
      have HRX := Lib.hid (HRZ.out.up hbwx)
      have hzzx : wz.heap.size < wx.heap.size := by omega
      clear hwx hbx h1 h2 h3 hzx
      go_wp2_with (go_at_call 13; refine (mmod_any _ _ _ (by omega) (by omega)).mono ?_; rintro ee ww ⟨rfl, rfl⟩)
      go_loopw [41] (fun i wr => ∃ k2 : Nat, i = .int .i64 k2 ∧ k2 ≤ 2 ∧ Bw (wx.alloc (.cells #[.int .i64 rows, .int .i64 cols, .int .i64 (rows % 8), .int .i64 (cols % 12)] 47)) wr) (fun i _ => 2 - (intOf i).toNat)
      case atStart => exact ⟨0, rfl, by omega, BWX⟩
      case round =>
        obtain ⟨wy, hwy⟩ : ∃ wy : World, wy = wr := ⟨_, rfl⟩
        subst hwy
        obtain ⟨k2, rfl, hk2, hwr2⟩ := hrel
        have hbxy : Bw wx wy := Bw.trans (show Bw wx (wx.alloc _) from BWX) hwr2
        by_cases hlt2 : k2 < 2
        · obtain ⟨u, v, hu, hv⟩ : ∃ u v : Int, wy.cell? ⟨wx.heap.size, k2 * 2, none⟩ = some (.int .i64 u) ∧ wy.cell? ⟨wx.heap.size, k2 * 2 + 1, none⟩ = some (.int .i64 v) := by
            rcases (show k2 = 0 ∨ k2 = 1 by omega) with rfl | rfl
            · exact ⟨rows, cols, cell_up CELX hwr2, cell_up CELX hwr2⟩
            · exact ⟨rows % 8, cols % 12, cell_up CELX hwr2, cell_up CELX hwr2⟩
          have e3 : (0 : Int) ≤ k2 := by omega
          have e4 : (k2 : Int) < 2 := by omega
          have HRY := Lib.hid (HRX.out.up hbxy)
          go_upto_region 10 with (fail)
          have HY := Lib.hid (show ∀ w', Bw (wy.alloc (.cells #[.int .i64 u, .int .i64 v] 47)) w' → (w'.cell? ⟨wz.heap.size, 0, none⟩ = some (.int .i64 R) ∧ w'.cell? ⟨wz.heap.size, 1, none⟩ = some (.int .i64 C) ∧ w'.cell? ⟨wz.heap.size, 2, none⟩ = some (.slice Az nz cz) ∧ w'.cell? ⟨wy.heap.size, 0, none⟩ = some (.int .i64 u) ∧ w'.cell? ⟨wy.heap.size, 1, none⟩ = some (.int .i64 v)) from fun w' hb => ⟨((HBX.out.up hbxy).up (Bw.trans (show Bw wy (wy.alloc _) from BWX) hb)).cell 0 rfl, ((HBX.out.up hbxy).up (Bw.trans (show Bw wy (wy.alloc _) from BWX) hb)).cell 1 rfl, ((HBX.out.up hbxy).up (Bw.trans (show Bw wy (wy.alloc _) from BWX) hb)).cell 2 rfl, cell_up CELX hb, cell_up CELX hb⟩)
          clear hu hv
          refine wp_region_held_drew (S := (fun w' => w'.cell? ⟨wz.heap.size, 0, none⟩ = some (.int .i64 R) ∧ w'.cell? ⟨wz.heap.size, 1, none⟩ = some (.int .i64 C) ∧ w'.cell? ⟨wz.heap.size, 2, none⟩ = some (.slice Az nz cz) ∧ w'.cell? ⟨wy.heap.size, 0, none⟩ = some (.int .i64 u) ∧ w'.cell? ⟨wy.heap.size, 1, none⟩ = some (.int .i64 v))) (by kernel_rfl) ?_ (fun hHeld => ?_)
          · (try dsimp only); (refine HY.out _ ?_; exact BWX)
          refine tkH 0 ?_ rfl (Or.inl ⟨by rfl, ?ht0⟩) ?_
          case ht0 => (intro w hSw; (try dsimp only at hSw); go_simp; try with_reducible rfl)
          (try simp only [Act.put, p1, p2, p3, p4, p5, p6])
          refine tkH 1 ?_ rfl (Or.inl ⟨by rfl, ?ht1⟩) ?_
          case ht1 => (intro w hSw; (try dsimp only at hSw); go_simp; try with_reducible rfl)
          (try simp only [Act.put, p1, p2, p3, p4, p5, p6])
          refine tkH 2 ?_ rfl (Or.inl ⟨by rfl, ?ht2⟩) ?_
          case ht2 => (intro w hSw; (try dsimp only at hSw); go_simp; try with_reducible rfl)
          (try simp only [Act.put, p1, p2, p3, p4, p5, p6])
          refine tkH 3 ?_ rfl (Or.inl ⟨by rfl, ?ht3⟩) ?_
          case ht3 => (intro w hSw; (try dsimp only at hSw); go_simp; try with_reducible rfl)
          (try simp only [Act.put, p1, p2, p3, p4, p5, p6])
          refine tkH 4 ?_ rfl (Or.inl ⟨by rfl, ?ht4⟩) ?_
          case ht4 => (intro w hSw; (try dsimp only at hSw); go_simp; try with_reducible rfl)
          (try simp only [Act.put, p1, p2, p3, p4, p5, p6])
          refine tkH 6 ?_ rfl (Or.inl ⟨by rfl, ?ht6⟩) ?_
          case ht6 => (intro w hSw; (try dsimp only at hSw); go_simp; try with_reducible rfl)
          (try simp only [Act.put, p1, p2, p3, p4, p5, p6])
          refine tkH 7 ?_ rfl (Or.inl ⟨by rfl, ?ht7⟩) ?_
          case ht7 => (intro w hSw; (try dsimp only at hSw); go_simp; try with_reducible rfl)
          (try simp only [Act.put, p1, p2, p3, p4, p5, p6])
          refine tkH 8 ?_ rfl (Or.inl ⟨by rfl, ?ht8⟩) ?_
          case ht8 => (intro w hSw; (try dsimp only at hSw); go_simp; try with_reducible rfl)
          (try simp only [Act.put, p1, p2, p3, p4, p5, p6])
          refine tkH 9 ?_ rfl (Or.inl ⟨by rfl, ?ht9⟩) ?_
          case ht9 => (intro w hSw; (try dsimp only at hSw); go_simp; try with_reducible rfl)
          (try simp only [Act.put, p1, p2, p3, p4, p5, p6])
          refine tkH 10 ?_ rfl (Or.inl ⟨by rfl, ?ht10⟩) ?_
          case ht10 => (intro w hSw; (try dsimp only at hSw); go_simp; try with_reducible rfl)
          (try simp only [Act.put, p1, p2, p3, p4, p5, p6])
          refine wpAnyH_ready (rs := [5]) (by kernel_rfl) (by simp) ?_
          refine AllReadyH.cons rfl (fun K hK => ?_) ?_
          · go_simp
            refine (gresize_any R C Az nz cz ds u v _ (HRY.out.up BWX) hncz (by omega) hcz).mono ?_; rintro ee w5 ⟨A5, n5, c5, rfl, hr5, hn5, hc5, hnew5, hb5⟩; have HR5 := Lib.hid hr5; clear hr5 hnew5; go_wp2_with fail
            refine hK.out _ _ ?_ (fun hHeld => ?_)
            · (try dsimp only); (refine HY.out _ ?_; exact BWX)
            clear hK K
            (try simp only [Act.put, p1, p2, p3, p4, p5, p6])
            refine wpAnyH_ready (rs := [11]) (by kernel_rfl) (by simp) ?_
            refine AllReadyH.cons rfl (fun K hK => ?_) ?_
            · go_simp
              refine (rresize_any R C Az nz cz ds u v _ (HRY.out.up BWX) hncz hcz).mono ?_; rintro ee w6 ⟨A6, n6, c6, rfl, hr6, hn6, hc6, hb6⟩; have HR6 := Lib.hid hr6; clear hr6; go_wp2_with fail
              refine hK.out _ _ ?_ (fun hHeld => ?_)
              · (try dsimp only); (refine HY.out _ ?_; exact BWX)
              clear hK K
              (try simp only [Act.put, p1, p2, p3, p4, p5, p6])
              refine wpAnyH_ready (rs := [12]) (by kernel_rfl) (by simp) ?_
              refine AllReadyH.cons rfl (fun K hK => ?_) ?_
              · go_simp
                refine (rsame_any _ _ _ _ A5 A6 n5 c5 n6 c6 _ _ _ (HR5.out.up BWX) hn5 hc5 (HR6.out.up BWX) hn6 hc6).mono ?_; rintro ee w7 ⟨rfl, hb7⟩; (try simp only [decide_true, Bool.and_true, Bool.and_self]); go_wp2_with fail
                refine hK.out _ _ ?_ (fun hHeld => ?_)
                · (try dsimp only); (refine HY.out _ ?_; exact BWX)
                clear hK K
                (try simp only [Act.put, p1, p2, p3, p4, p5, p6])
                refine tkH 13 ?_ rfl (Or.inl ⟨by rfl, ?ht13⟩) ?_
                case ht13 => (intro w hSw; (try dsimp only at hSw); go_simp; try with_reducible rfl)
                (try simp only [Act.put, p1, p2, p3, p4, p5, p6])
                refine wpAnyH_done (by kernel_rfl) ?_ _
                go_wp2_with fail
                go_roundw
                case rel => exact ⟨k2 + 1, by go_num, by omega, Bw.trans hwr2 BWX⟩
                case measure => simp [intOf]; omega
              exact AllReadyH.nil
            exact AllReadyH.nil
          exact AllReadyH.nil
        · obtain rfl : k2 = 2 := by omega
          go_wp2_with fail
          go_roundw
          case rel => exact ⟨k + 1, by go_num, by omega, Bw.trans hwr (Bw.trans hbwx hbxy)⟩
          case measure => simp [intOf]; omega
    · obtain rfl : k = 2 := by omega
      go_wp2_with fail
      go_ret
      exact ⟨rfl, Bw.trans HBW.out hwr⟩
end Go.Proofs.Ytccfpehcadpkiaa
