/- Parts of the proof, one after the other. -/
import Derived.Test.YtccfpehcadpkiaaM35
import Derived.Deep.RegionHeld3
set_option linter.unusedSimpArgs false
set_option linter.unusedVariables false
/- The law GridMoves. -/
namespace Go.Proofs.Ytccfpehcadpkiaa
open Go.RowKit


set_option maxRecDepth 100000 in
set_option maxHeartbeats 16000000 in
theorem moves16_any (A : Option Addr) (n c : Nat) (xs : List Int) (a b c_ num d1 d2 d3 d4 what : Int) (w : World) (hr : RdI w A n xs) (hA : 0 < n → ∀ ad, A = some ad → ad.block < w.heap.size) (hn : n ≤ 9223372036854775807) (hnum : -9223372036854775808 ≤ num ∧ num ≤ 9223372036854775807) :
    Calls Try.prog 4 #[.slice A n c, .int .i64 a, .int .i64 b, .int .i64 c_, .int .i64 num, .agg #[.int .i64 d1, .int .i64 d2, .int .i64 d3, .int .i64 d4], .int .i64 what] w fun e w' => e = .returned (.bool true) ∧ Bw w w' := by
  have HR := Lib.hid hr
  have HAA := Lib.hid hA
  clear hr hA
  go_enter Try.func4, Try.ntmps4
  go_upto_region 1 with (fail)
  generalize hw0 : w.alloc (.cells #[.int .i64 d1, .int .i64 d2, .int .i64 d3, .int .i64 d4] 39) = w0
  obtain ⟨hbc, hbw0, hz0⟩ := sb1 hw0
  have HBC := Lib.hid hbc
  clear hw0 hbc hz0
  go_upto_region 4 with (first
    | (go_at_call 8; refine (sane16_any _).mono ?_; rintro ee ws ⟨rfl, hbs⟩; have hzs := hbs.size)
    | (go_at_call 9; refine (made16_any A n c xs _ (HR.out.up (fun hz ad e => HAA.out hz ad e) (Bw.trans hbw0 hbs)) (fun h0 ad e => by have := HAA.out h0 ad e; have := ((Bw.trans hbw0 hbs) : Bw w _).size; omega) hn).mono ?_; rintro ee w2 ⟨Rn, Cn, Ag, ng, cg, cs, rfl, ⟨b1, b2, b3, b4⟩, hng, hrg, hgv, hngc, hcg, hnew, hb2⟩; have HRG := Lib.hid hrg; have HGV := Lib.hid hgv; have HNEW := Lib.hid hnew; have HNG := Lib.hid hng; have hbw2 : Bw w w2 := Bw.trans (Bw.trans hbw0 hbs) hb2; have hz2 := hb2.size; clear hrg hgv hnew hng)
    | ((with_reducible refine wpList_store_gr (Rn : Int) (Cn : Int) Ag ng cg w2.heap.size (.tmp 15) (.tmp 25) rfl rfl ?_ ?_ ?_ ?_); (focus rfl); (focus rfl); (focus (exact ⟨_, heap_at rfl, rfl⟩)); intro w3 hS3 hg3; have HS3 := Lib.hid hS3; have HG3 := Lib.hid hg3; clear hS3 hg3)
    | fail)
  have hg3 := HG3.out
  have hng := HNG.out
  have hng1 : 1 ≤ ng := by rw [hng]; exact Nat.mul_pos (by omega) (by omega)
  have hng2 : ng ≤ 45 := by rw [hng]; exact Nat.le_trans (Nat.mul_le_mul b2 b4) (by omega)
  have hglt := HRG.out.lt (by have := HRG.out.1; omega)
  have hb23 : Bw w2 w3 := Bw.grown (show Bw w2 (w2.alloc _) from BWX) hg3 (fun k hk => by cases hk; omega)
  have hbw3 : Bw w w3 := Bw.trans hbw2 hb23
  obtain ⟨g, hgg⟩ : ∃ g, w2.heap.size = g := ⟨_, rfl⟩
  rw [hgg] at HS3
  simp only [hgg]
  have HR3 := Lib.hid (HRG.out.up hb23)
  have hgz : w.heap.size ≤ g := by rw [← hgg]; exact hbw2.size
  have hgne : ∀ ad, Ag = some ad → ad.block ≠ g := fun ad e => by have := hglt ad e; omega
  have HNE := Lib.hid hgne
  have hg3z : g < w3.heap.size := HS3.out.lt
  clear hg3 hng hglt hgg hgne HG3 HRG HNEW hbw2 hz2 hzs HAA HR
  have HY := Lib.hid (show ∀ w', Bw w3 w' → (w'.cell? ⟨g, 0, none⟩ = some (.int .i64 (Rn : Int)) ∧ w'.cell? ⟨g, 1, none⟩ = some (.int .i64 (Cn : Int)) ∧ w'.cell? ⟨g, 2, none⟩ = some (.slice Ag ng cg)) from fun w' hb => ⟨(HS3.out.up hb).cell 0 rfl, (HS3.out.up hb).cell 1 rfl, (HS3.out.up hb).cell 2 rfl⟩)
  dsimp only [Act.put]
  go_cut [31, 32, 33] (fun s25 s26 s27 w' => ∃ G, s25 = .slice (some ⟨G, 0, none⟩) 2 2 ∧ s26 = .int .i64 2 ∧ s27 = .int .i64 0 ∧ GAt w' G 0 ∧ GAt w' G 1 ∧ Bw w3 w')
  case first =>
    refine wp_region_held_drew (S := (fun w' => w'.cell? ⟨g, 0, none⟩ = some (.int .i64 (Rn : Int)) ∧ w'.cell? ⟨g, 1, none⟩ = some (.int .i64 (Cn : Int)) ∧ w'.cell? ⟨g, 2, none⟩ = some (.slice Ag ng cg))) (by kernel_rfl) ?_ (fun hHeld => ?_)
    · (try dsimp only); (refine HY.out _ ?_; exact BWX)
    refine tkH 0 ?_ rfl (Or.inl ⟨by rfl, ?ht0⟩) ?_
    case ht0 => (intro w hSw; (try dsimp only at hSw); go_simp; try with_reducible rfl)
    (try simp only [Act.put, p1, p2, p3, p4, p5, p6])
    refine tkH 1 ?_ rfl (Or.inl ⟨by rfl, ?ht1⟩) ?_
    case ht1 => (intro w hSw; (try dsimp only at hSw); go_simp; try with_reducible rfl)
    (try simp only [Act.put, p1, p2, p3, p4, p5, p6])
    refine tkH 2 ?_ rfl (Or.inl ⟨by rfl, ?ht2⟩) ?_
    case ht2 => (intro w hSw; (try dsimp only at hSw); go_simp; try with_reducible rfl)
    (try simp only [Act.put, p1, p2, p3, p4, p5, p6])
    refine tkH 3 ?_ rfl (Or.inl ⟨by rfl, ?ht3⟩) ?_
    case ht3 => (intro w hSw; (try dsimp only at hSw); go_simp; try with_reducible rfl)
    (try simp only [Act.put, p1, p2, p3, p4, p5, p6])
    refine tkH 7 ?_ rfl (Or.inl ⟨by rfl, ?ht7⟩) ?_
    case ht7 => (intro w hSw; (try dsimp only at hSw); go_simp; try with_reducible rfl)
    (try simp only [Act.put, p1, p2, p3, p4, p5, p6])
    refine wpAnyH_ready (rs := [4]) (by kernel_rfl) (by simp) ?_
    refine AllReadyH.cons rfl (fun K hK => ?_) ?_
    · go_simp
      refine (bad16_any Rn Cn Ag ng cg cs _ _ _ (HR3.out.up BWX) hng1 (by omega) (by omega) hngc hcg).mono ?_; rintro ee wb ⟨Rb, Cb, Ab, nb, cb, csb, rfl, hrb, hnb, hnbc, hcb, hbb⟩; have HRB := Lib.hid hrb; have hb3b : Bw w3 wb := Bw.trans (show Bw w3 _ from BWX) hbb; have hzb := hb3b.size; clear hrb hbb; go_wp2_with fail
      refine hK.out _ _ ?_ (fun hHeld => ?_)
      · (try dsimp only); (refine HY.out _ ?_; exact BWX)
      clear hK K
      (try simp only [Act.put, p1, p2, p3, p4, p5, p6])
      refine wpAnyH_ready (rs := [5]) (by kernel_rfl) (by simp) ?_
      refine AllReadyH.cons rfl (fun K hK => ?_) ?_
      · go_simp
        refine hK.out _ _ ?_ (fun hHeld => ?_)
        · (try dsimp only); (refine HY.out _ ?_; exact BWX)
        clear hK K
        (try simp only [Act.put, p1, p2, p3, p4, p5, p6])
        refine tkH 6 ?_ rfl (Or.inl ⟨by rfl, ?ht6⟩) ?_
        case ht6 => (intro w hSw; (try dsimp only at hSw); go_simp; try with_reducible rfl)
        (try simp only [Act.put, p1, p2, p3, p4, p5, p6])
        refine wpAnyH_done (by kernel_rfl) ?_ _
        go_wp2_with fail
        go_meet
        case rel =>
          refine ⟨wb.heap.size, rfl, rfl, rfl, ⟨Rn, Cn, Ag, ng, cg, cs, CELX, CELX, CELX, HR3.out.up BWX, by omega, hngc, hcg⟩, ⟨Rb, Cb, Ab, nb, cb, csb, CELX, CELX, CELX, HRB.out.up BWX, hnb, hnbc, hcb⟩, BWX⟩
      exact AllReadyH.nil
    exact AllReadyH.nil
  case rest =>
  obtain ⟨G, rfl, rfl, rfl, hG0, hG1, hb3c⟩ := hcut
  obtain ⟨wo, hwo⟩ : ∃ wo : World, wo = wc := ⟨_, rfl⟩
  subst hwo
  have HBCo := Lib.hid (HBC.out.up (show Bw w0 wo from Bw.trans (Bw.trans (Bw.trans hbs hb2) hb23) hb3c))
  have HG0 := Lib.hid hG0
  have HG1 := Lib.hid hG1
  have HBW := Lib.hid (Bw.trans hbw3 hb3c)
  have hGz : G < wo.heap.size := by obtain ⟨_, _, _, _, _, _, h, _⟩ := hG0; simpa using lt_of_cell h
  clear hG0 hG1 HY hb3c hbw3 hbs hb2 hb23 HBC hbw0 HS3 HR3 HGV HNE HNG hgz hg3z hng1 hng2 b1 b2 b3 b4 hngc hcg
  go_wp2_with fail
  go_loopw [33] (fun i wr => ∃ k : Nat, i = .int .i64 k ∧ k ≤ 2 ∧ Bw wo wr) (fun i _ => 2 - (intOf i).toNat)
  case atStart => exact ⟨0, rfl, by omega, BWX⟩
  case round =>
    obtain ⟨wz, hwz⟩ : ∃ wz : World, wz = wr := ⟨_, rfl⟩
    subst hwz
    obtain ⟨k, rfl, hk, hwr⟩ := hrel
    by_cases hlt : k < 2
    · have hGA : GAt wz G k := by
        rcases (show k = 0 ∨ k = 1 by omega) with rfl | rfl
        · exact HG0.out.up hwr
        · exact HG1.out.up hwr
      obtain ⟨R, C, Az, nz, cz, ds, h1, h2, h3, hrz, hnz, hncz, hcz⟩ := hGA
      have HRZ := Lib.hid hrz
      clear hrz
      have e1 : (0 : Int) ≤ k := by omega
      have e2 : (k : Int) < 2 := by omega
      go_upto_region 7 with (fail)
      generalize hwx : wz.alloc (.cells #[.int .i64 R, .int .i64 C, .slice Az nz cz] 25) = wx
      obtain ⟨hbx, hbwx, hzx⟩ := sb1 hwx
      have HBX := Lib.hid hbx
      have HRX := Lib.hid (HRZ.out.up hbwx)
      have hzzx : wz.heap.size < wx.heap.size := by omega
      have hcx := HBCo.out.up (Bw.trans hwr hbwx)
      have c0 := hcx.cell 0 (v := .int .i64 d1) rfl
      have c1 := hcx.cell 1 (v := .int .i64 d2) rfl
      have c2 := hcx.cell 2 (v := .int .i64 d3) rfl
      have c3 := hcx.cell 3 (v := .int .i64 d4) rfl
      clear hwx hbx h1 h2 h3 hzx hcx
      go_upto_region 8 with (fail)
      clear c0 c1 c2 c3
      go_wp2_with fail
      go_loopw [42] (fun i wr => ∃ k2 : Nat, i = .int .i64 k2 ∧ k2 ≤ 2 ∧ Bw (wx.alloc (.cells #[.int .i64 d1, .int .i64 d2, .int .i64 d3, .int .i64 d4, .int .i64 122, .int .i64 0, .int .i64 0, .int .i64 3] 39)) wr) (fun i _ => 2 - (intOf i).toNat)
      case atStart => exact ⟨0, rfl, by omega, BWX⟩
      case round =>
        obtain ⟨wy, hwy⟩ : ∃ wy : World, wy = wr := ⟨_, rfl⟩
        subst hwy
        obtain ⟨k2, rfl, hk2, hwr2⟩ := hrel
        have hbxy : Bw wx wy := Bw.trans (show Bw wx (wx.alloc _) from BWX) hwr2
        by_cases hlt2 : k2 < 2
        · obtain ⟨f1, f2, f3, f4, hf1, hf2, hf3, hf4⟩ : ∃ f1 f2 f3 f4 : Int, wy.cell? ⟨wx.heap.size, k2 * 4, none⟩ = some (.int .i64 f1) ∧ wy.cell? ⟨wx.heap.size, k2 * 4 + 1, none⟩ = some (.int .i64 f2) ∧ wy.cell? ⟨wx.heap.size, k2 * 4 + 2, none⟩ = some (.int .i64 f3) ∧ wy.cell? ⟨wx.heap.size, k2 * 4 + 3, none⟩ = some (.int .i64 f4) := by
            rcases (show k2 = 0 ∨ k2 = 1 by omega) with rfl | rfl
            · exact ⟨d1, d2, d3, d4, cell_up CELX hwr2, cell_up CELX hwr2, cell_up CELX hwr2, cell_up CELX hwr2⟩
            · exact ⟨122, 0, 0, 3, cell_up CELX hwr2, cell_up CELX hwr2, cell_up CELX hwr2, cell_up CELX hwr2⟩
          have e3 : (0 : Int) ≤ k2 := by omega
          have e4 : (k2 : Int) < 2 := by omega
          have HRY := Lib.hid (HRX.out.up hbxy)
          have HBY := Lib.hid (HBX.out.up hbxy)
          have hzzy : wz.heap.size < wy.heap.size := by have := hbxy.size; omega
          go_upto_region 10 with (fail)
          generalize hwt : wy.alloc (.cells #[.int .i64 f1, .int .i64 f2, .int .i64 f3, .int .i64 f4] 39) = wt
          obtain ⟨hbt, hbwt, hzt⟩ := sb1 hwt
          have HBT := Lib.hid hbt
          have HBX2 := Lib.hid (HBY.out.up hbwt)
          have HRT := Lib.hid (HRY.out.up hbwt)
          have hzzt : wy.heap.size < wt.heap.size := by omega
          clear hwt hbt hf1 hf2 hf3 hf4 hzt
          go_wp2_with (go_at_call 13; refine (mmod_any _ _ _ (by omega) (by omega)).mono ?_; rintro ee ww ⟨rfl, rfl⟩)
          go_loopw [66] (fun i wr => ∃ k3 : Nat, i = .int .i64 k3 ∧ k3 ≤ 2 ∧ Bw (wt.alloc (.cells #[.int .i64 a, .int .i64 b, .int .i64 c_, .int .i64 num, .int .i64 (a % 6 - 1), .int .i64 (b % 9 - 1), .int .i64 (c_ % 11 - 1), .int .i64 (num % 13 - 6)] 42)) wr) (fun i _ => 2 - (intOf i).toNat)
          case atStart => exact ⟨0, rfl, by omega, BWX⟩
          case round =>
            obtain ⟨wv, hwv⟩ : ∃ wv : World, wv = wr := ⟨_, rfl⟩
            subst hwv
            obtain ⟨k3, rfl, hk3, hwr3⟩ := hrel
            have hbtv : Bw wt wv := Bw.trans (show Bw wt (wt.alloc _) from BWX) hwr3
            by_cases hlt3 : k3 < 2
            · obtain ⟨u1, u2, u3, u4, hu1, hu2, hu3, hu4⟩ : ∃ u1 u2 u3 u4 : Int, wv.cell? ⟨wt.heap.size, k3 * 4, none⟩ = some (.int .i64 u1) ∧ wv.cell? ⟨wt.heap.size, k3 * 4 + 1, none⟩ = some (.int .i64 u2) ∧ wv.cell? ⟨wt.heap.size, k3 * 4 + 2, none⟩ = some (.int .i64 u3) ∧ wv.cell? ⟨wt.heap.size, k3 * 4 + 3, none⟩ = some (.int .i64 u4) := by
                rcases (show k3 = 0 ∨ k3 = 1 by omega) with rfl | rfl
                · exact ⟨a, b, c_, num, cell_up CELX hwr3, cell_up CELX hwr3, cell_up CELX hwr3, cell_up CELX hwr3⟩
                · exact ⟨a % 6 - 1, b % 9 - 1, c_ % 11 - 1, num % 13 - 6, cell_up CELX hwr3, cell_up CELX hwr3, cell_up CELX hwr3, cell_up CELX hwr3⟩
              have e5 : (0 : Int) ≤ k3 := by omega
              have e6 : (k3 : Int) < 2 := by omega
              have HRV := Lib.hid (HRT.out.up hbtv)
              have HBTv := Lib.hid (HBT.out.up hbtv)
              have HBXv := Lib.hid (HBX2.out.up hbtv)
              have hzzv : wy.heap.size < wv.heap.size := by have := hbtv.size; omega
              go_upto_region 13 with (fail)
              generalize hwq : wv.alloc (.cells #[.int .i64 u1, .int .i64 u2, .int .i64 u3, .int .i64 u4] 42) = wq
              obtain ⟨hbq, hbwq, hzq⟩ := sb1 hwq
              have HBQ := Lib.hid hbq
              have HRQ := Lib.hid (HRV.out.up hbwq)
              have HY := Lib.hid (show ∀ w', Bw wq w' → (w'.cell? ⟨wz.heap.size, 0, none⟩ = some (.int .i64 R) ∧ w'.cell? ⟨wz.heap.size, 1, none⟩ = some (.int .i64 C) ∧ w'.cell? ⟨wz.heap.size, 2, none⟩ = some (.slice Az nz cz) ∧ w'.cell? ⟨wy.heap.size, 0, none⟩ = some (.int .i64 f1) ∧ w'.cell? ⟨wy.heap.size, 1, none⟩ = some (.int .i64 f2) ∧ w'.cell? ⟨wy.heap.size, 2, none⟩ = some (.int .i64 f3) ∧ w'.cell? ⟨wy.heap.size, 3, none⟩ = some (.int .i64 f4) ∧ w'.cell? ⟨wv.heap.size, 0, none⟩ = some (.int .i64 u1) ∧ w'.cell? ⟨wv.heap.size, 1, none⟩ = some (.int .i64 u2) ∧ w'.cell? ⟨wv.heap.size, 2, none⟩ = some (.int .i64 u3) ∧ w'.cell? ⟨wv.heap.size, 3, none⟩ = some (.int .i64 u4)) from fun w' hb => ⟨((HBXv.out.up hbwq).up hb).cell 0 rfl, ((HBXv.out.up hbwq).up hb).cell 1 rfl, ((HBXv.out.up hbwq).up hb).cell 2 rfl, ((HBTv.out.up hbwq).up hb).cell 0 rfl, ((HBTv.out.up hbwq).up hb).cell 1 rfl, ((HBTv.out.up hbwq).up hb).cell 2 rfl, ((HBTv.out.up hbwq).up hb).cell 3 rfl, (HBQ.out.up hb).cell 0 rfl, (HBQ.out.up hb).cell 1 rfl, (HBQ.out.up hb).cell 2 rfl, (HBQ.out.up hb).cell 3 rfl⟩)
              clear hwq hbq hu1 hu2 hu3 hu4 hzq
              refine wp_region_held_drew (S := (fun w' => w'.cell? ⟨wz.heap.size, 0, none⟩ = some (.int .i64 R) ∧ w'.cell? ⟨wz.heap.size, 1, none⟩ = some (.int .i64 C) ∧ w'.cell? ⟨wz.heap.size, 2, none⟩ = some (.slice Az nz cz) ∧ w'.cell? ⟨wy.heap.size, 0, none⟩ = some (.int .i64 f1) ∧ w'.cell? ⟨wy.heap.size, 1, none⟩ = some (.int .i64 f2) ∧ w'.cell? ⟨wy.heap.size, 2, none⟩ = some (.int .i64 f3) ∧ w'.cell? ⟨wy.heap.size, 3, none⟩ = some (.int .i64 f4) ∧ w'.cell? ⟨wv.heap.size, 0, none⟩ = some (.int .i64 u1) ∧ w'.cell? ⟨wv.heap.size, 1, none⟩ = some (.int .i64 u2) ∧ w'.cell? ⟨wv.heap.size, 2, none⟩ = some (.int .i64 u3) ∧ w'.cell? ⟨wv.heap.size, 3, none⟩ = some (.int .i64 u4))) (by kernel_rfl) ?_ (fun hHeld => ?_)
              · (try dsimp only); (refine HY.out _ ?_; exact BWX)
              refine tkH 0 ?_ rfl (Or.inl ⟨by rfl, ?ht0⟩) ?_
              case ht0 => (intro w hSw; (try dsimp only at hSw); go_simp; try with_reducible rfl)
              (try simp only [Act.put, p1, p2, p3, p4, p5, p6])
              refine tkH 1 ?_ rfl (Or.inl ⟨by rfl, ?ht1⟩) ?_
              case ht1 => (intro w hSw; (try dsimp only at hSw); go_simp; try with_reducible rfl)
              (try simp only [Act.put, p1, p2, p3, p4, p5, p6])
              refine tkH 2 ?_ rfl (Or.inl ⟨by rfl, ?ht2⟩) ?_
              case ht2 => (intro w hSw; (try dsimp only at hSw); go_simp; try with_reducible rfl)
              (try simp only [Act.put, p1, p2, p3, p4, p5, p6])
              refine tkH 3 ?_ rfl (Or.inl ⟨by rfl, ?ht3⟩) ?_
              case ht3 => (intro w hSw; (try dsimp only at hSw); go_simp; try with_reducible rfl)
              (try simp only [Act.put, p1, p2, p3, p4, p5, p6])
              refine tkH 4 ?_ rfl (Or.inl ⟨by rfl, ?ht4⟩) ?_
              case ht4 => (intro w hSw; (try dsimp only at hSw); go_simp; try with_reducible rfl)
              (try simp only [Act.put, p1, p2, p3, p4, p5, p6])
              refine tkH 5 ?_ rfl (Or.inl ⟨by rfl, ?ht5⟩) ?_
              case ht5 => (intro w hSw; (try dsimp only at hSw); go_simp; try with_reducible rfl)
              (try simp only [Act.put, p1, p2, p3, p4, p5, p6])
              refine tkH 6 ?_ rfl (Or.inl ⟨by rfl, ?ht6⟩) ?_
              case ht6 => (intro w hSw; (try dsimp only at hSw); go_simp; try with_reducible rfl)
              (try simp only [Act.put, p1, p2, p3, p4, p5, p6])
              refine tkH 7 ?_ rfl (Or.inl ⟨by rfl, ?ht7⟩) ?_
              case ht7 => (intro w hSw; (try dsimp only at hSw); go_simp; try with_reducible rfl)
              (try simp only [Act.put, p1, p2, p3, p4, p5, p6])
              refine tkH 9 ?_ rfl (Or.inl ⟨by rfl, ?ht9⟩) ?_
              case ht9 => (intro w hSw; (try dsimp only at hSw); go_simp; try with_reducible rfl)
              (try simp only [Act.put, p1, p2, p3, p4, p5, p6])
              refine tkH 10 ?_ rfl (Or.inl ⟨by rfl, ?ht10⟩) ?_
              case ht10 => (intro w hSw; (try dsimp only at hSw); go_simp; try with_reducible rfl)
              (try simp only [Act.put, p1, p2, p3, p4, p5, p6])
              refine tkH 11 ?_ rfl (Or.inl ⟨by rfl, ?ht11⟩) ?_
              case ht11 => (intro w hSw; (try dsimp only at hSw); go_simp; try with_reducible rfl)
              (try simp only [Act.put, p1, p2, p3, p4, p5, p6])
              refine tkH 12 ?_ rfl (Or.inl ⟨by rfl, ?ht12⟩) ?_
              case ht12 => (intro w hSw; (try dsimp only at hSw); go_simp; try with_reducible rfl)
              (try simp only [Act.put, p1, p2, p3, p4, p5, p6])
              refine tkH 13 ?_ rfl (Or.inl ⟨by rfl, ?ht13⟩) ?_
              case ht13 => (intro w hSw; (try dsimp only at hSw); go_simp; try with_reducible rfl)
              (try simp only [Act.put, p1, p2, p3, p4, p5, p6])
              refine tkH 14 ?_ rfl (Or.inl ⟨by rfl, ?ht14⟩) ?_
              case ht14 => (intro w hSw; (try dsimp only at hSw); go_simp; try with_reducible rfl)
              (try simp only [Act.put, p1, p2, p3, p4, p5, p6])
              refine tkH 15 ?_ rfl (Or.inl ⟨by rfl, ?ht15⟩) ?_
              case ht15 => (intro w hSw; (try dsimp only at hSw); go_simp; try with_reducible rfl)
              (try simp only [Act.put, p1, p2, p3, p4, p5, p6])
              refine tkH 16 ?_ rfl (Or.inl ⟨by rfl, ?ht16⟩) ?_
              case ht16 => (intro w hSw; (try dsimp only at hSw); go_simp; try with_reducible rfl)
              (try simp only [Act.put, p1, p2, p3, p4, p5, p6])
              refine wpAnyH_ready (rs := [8]) (by kernel_rfl) (by simp) ?_
              refine AllReadyH.cons rfl (fun K hK => ?_) ?_
              · go_simp
                refine (gfill_any R C Az nz cz ds u1 u2 u3 f1 f2 f3 f4 _ (HRQ.out.up BWX) hncz (by omega) hcz).mono ?_; rintro ee w18 ⟨A18, n18, c18, rfl, hr18, hn18, hc18, hnew18, hb18⟩; have HR18 := Lib.hid hr18; clear hr18 hnew18; go_wp2_with fail
                refine hK.out _ _ ?_ (fun hHeld => ?_)
                · (try dsimp only); (refine HY.out _ ?_; exact BWX)
                clear hK K
                (try simp only [Act.put, p1, p2, p3, p4, p5, p6])
                refine wpAnyH_ready (rs := [17]) (by kernel_rfl) (by simp) ?_
                refine AllReadyH.cons rfl (fun K hK => ?_) ?_
                · go_simp
                  refine (rfill_any R C Az nz cz ds u1 u2 u3 f1 f2 f3 f4 _ (HRQ.out.up BWX) hncz hcz).mono ?_; rintro ee w27 ⟨A27, n27, c27, rfl, hr27, hn27, hc27, hb27⟩; have HR27 := Lib.hid hr27; clear hr27; go_wp2_with fail
                  refine hK.out _ _ ?_ (fun hHeld => ?_)
                  · (try dsimp only); (refine HY.out _ ?_; exact BWX)
                  clear hK K
                  (try simp only [Act.put, p1, p2, p3, p4, p5, p6])
                  refine wpAnyH_ready (rs := [18]) (by kernel_rfl) (by simp) ?_
                  refine AllReadyH.cons rfl (fun K hK => ?_) ?_
                  · go_simp
                    refine (rsame_any _ _ _ _ A18 A27 n18 c18 n27 c27 _ _ _ (HR18.out.up BWX) hn18 hc18 (HR27.out.up BWX) hn27 hc27).mono ?_; rintro ee w28 ⟨rfl, hb28⟩; (try simp only [decide_true, Bool.and_true, Bool.and_self]); clear HR18 HR27; go_wp2_with fail
                    refine hK.out _ _ ?_ (fun hHeld => ?_)
                    · (try dsimp only); (refine HY.out _ ?_; exact BWX)
                    clear hK K
                    (try simp only [Act.put, p1, p2, p3, p4, p5, p6])
                    refine tkH 19 ?_ rfl (Or.inl ⟨by rfl, ?ht19⟩) ?_
                    case ht19 => (intro w hSw; (try dsimp only at hSw); go_simp; try with_reducible rfl)
                    (try simp only [Act.put, p1, p2, p3, p4, p5, p6])
                    refine tkH 20 ?_ rfl (Or.inl ⟨by rfl, ?ht20⟩) ?_
                    case ht20 => (intro w hSw; (try dsimp only at hSw); go_simp; try with_reducible rfl)
                    (try simp only [Act.put, p1, p2, p3, p4, p5, p6])
                    refine tkH 21 ?_ rfl (Or.inl ⟨by rfl, ?ht21⟩) ?_
                    case ht21 => (intro w hSw; (try dsimp only at hSw); go_simp; try with_reducible rfl)
                    (try simp only [Act.put, p1, p2, p3, p4, p5, p6])
                    refine tkH 22 ?_ rfl (Or.inl ⟨by rfl, ?ht22⟩) ?_
                    case ht22 => (intro w hSw; (try dsimp only at hSw); go_simp; try with_reducible rfl)
                    (try simp only [Act.put, p1, p2, p3, p4, p5, p6])
                    refine tkH 23 ?_ rfl (Or.inl ⟨by rfl, ?ht23⟩) ?_
                    case ht23 => (intro w hSw; (try dsimp only at hSw); go_simp; try with_reducible rfl)
                    (try simp only [Act.put, p1, p2, p3, p4, p5, p6])
                    refine tkH 24 ?_ rfl (Or.inl ⟨by rfl, ?ht24⟩) ?_
                    case ht24 => (intro w hSw; (try dsimp only at hSw); go_simp; try with_reducible rfl)
                    (try simp only [Act.put, p1, p2, p3, p4, p5, p6])
                    refine tkH 25 ?_ rfl (Or.inl ⟨by rfl, ?ht25⟩) ?_
                    case ht25 => (intro w hSw; (try dsimp only at hSw); go_simp; try with_reducible rfl)
                    (try simp only [Act.put, p1, p2, p3, p4, p5, p6])
                    refine tkH 26 ?_ rfl (Or.inl ⟨by rfl, ?ht26⟩) ?_
                    case ht26 => (intro w hSw; (try dsimp only at hSw); go_simp; try with_reducible rfl)
                    (try simp only [Act.put, p1, p2, p3, p4, p5, p6])
                    refine tkH 27 ?_ rfl (Or.inl ⟨by rfl, ?ht27⟩) ?_
                    case ht27 => (intro w hSw; (try dsimp only at hSw); go_simp; try with_reducible rfl)
                    (try simp only [Act.put, p1, p2, p3, p4, p5, p6])
                    refine tkH 28 ?_ rfl (Or.inl ⟨by rfl, ?ht28⟩) ?_
                    case ht28 => (intro w hSw; (try dsimp only at hSw); go_simp; try with_reducible rfl)
                    (try simp only [Act.put, p1, p2, p3, p4, p5, p6])
                    refine tkH 30 ?_ rfl (Or.inl ⟨by rfl, ?ht30⟩) ?_
                    case ht30 => (intro w hSw; (try dsimp only at hSw); go_simp; try with_reducible rfl)
                    (try simp only [Act.put, p1, p2, p3, p4, p5, p6])
                    refine tkH 31 ?_ rfl (Or.inl ⟨by rfl, ?ht31⟩) ?_
                    case ht31 => (intro w hSw; (try dsimp only at hSw); go_simp; try with_reducible rfl)
                    (try simp only [Act.put, p1, p2, p3, p4, p5, p6])
                    refine tkH 32 ?_ rfl (Or.inl ⟨by rfl, ?ht32⟩) ?_
                    case ht32 => (intro w hSw; (try dsimp only at hSw); go_simp; try with_reducible rfl)
                    (try simp only [Act.put, p1, p2, p3, p4, p5, p6])
                    refine tkH 33 ?_ rfl (Or.inl ⟨by rfl, ?ht33⟩) ?_
                    case ht33 => (intro w hSw; (try dsimp only at hSw); go_simp; try with_reducible rfl)
                    (try simp only [Act.put, p1, p2, p3, p4, p5, p6])
                    refine tkH 34 ?_ rfl (Or.inl ⟨by rfl, ?ht34⟩) ?_
                    case ht34 => (intro w hSw; (try dsimp only at hSw); go_simp; try with_reducible rfl)
                    (try simp only [Act.put, p1, p2, p3, p4, p5, p6])
                    refine tkH 35 ?_ rfl (Or.inl ⟨by rfl, ?ht35⟩) ?_
                    case ht35 => (intro w hSw; (try dsimp only at hSw); go_simp; try with_reducible rfl)
                    (try simp only [Act.put, p1, p2, p3, p4, p5, p6])
                    refine tkH 36 ?_ rfl (Or.inl ⟨by rfl, ?ht36⟩) ?_
                    case ht36 => (intro w hSw; (try dsimp only at hSw); go_simp; try with_reducible rfl)
                    (try simp only [Act.put, p1, p2, p3, p4, p5, p6])
                    refine tkH 37 ?_ rfl (Or.inl ⟨by rfl, ?ht37⟩) ?_
                    case ht37 => (intro w hSw; (try dsimp only at hSw); go_simp; try with_reducible rfl)
                    (try simp only [Act.put, p1, p2, p3, p4, p5, p6])
                    refine wpAnyH_ready (rs := [29]) (by kernel_rfl) (by simp) ?_
                    refine AllReadyH.cons rfl (fun K hK => ?_) ?_
                    · go_simp
                      refine (gscroll_any R C Az nz cz ds u1 u2 u4 f1 f2 f3 f4 _ (HRQ.out.up BWX) hncz (by omega) hcz).mono ?_; rintro ee w39 ⟨A39, n39, c39, rfl, hr39, hn39, hc39, hnew39, hb39⟩; have HR39 := Lib.hid hr39; clear hr39 hnew39; go_wp2_with fail
                      refine hK.out _ _ ?_ (fun hHeld => ?_)
                      · (try dsimp only); (refine HY.out _ ?_; exact BWX)
                      clear hK K
                      (try simp only [Act.put, p1, p2, p3, p4, p5, p6])
                      refine wpAnyH_ready (rs := [38]) (by kernel_rfl) (by simp) ?_
                      refine AllReadyH.cons rfl (fun K hK => ?_) ?_
                      · go_simp
                        refine (rscroll_any R C Az nz cz ds u1 u2 u4 f1 f2 f3 f4 _ (HRQ.out.up BWX) hncz hcz).mono ?_; rintro ee w48 ⟨A48, n48, c48, rfl, hr48, hn48, hc48, hb48⟩; have HR48 := Lib.hid hr48; clear hr48; go_wp2_with fail
                        refine hK.out _ _ ?_ (fun hHeld => ?_)
                        · (try dsimp only); (refine HY.out _ ?_; exact BWX)
                        clear hK K
                        (try simp only [Act.put, p1, p2, p3, p4, p5, p6])
                        refine wpAnyH_ready (rs := [39]) (by kernel_rfl) (by simp) ?_
                        refine AllReadyH.cons rfl (fun K hK => ?_) ?_
                        · go_simp
                          refine (rsame_any _ _ _ _ A39 A48 n39 c39 n48 c48 _ _ _ (HR39.out.up BWX) hn39 hc39 (HR48.out.up BWX) hn48 hc48).mono ?_; rintro ee w49 ⟨rfl, hb49⟩; (try simp only [decide_true, Bool.and_true, Bool.and_self]); clear HR39 HR48; go_wp2_with fail
                          refine hK.out _ _ ?_ (fun hHeld => ?_)
                          · (try dsimp only); (refine HY.out _ ?_; exact BWX)
                          clear hK K
                          (try simp only [Act.put, p1, p2, p3, p4, p5, p6])
                          refine tkH 40 ?_ rfl (Or.inl ⟨by rfl, ?ht40⟩) ?_
                          case ht40 => (intro w hSw; (try dsimp only at hSw); go_simp; try with_reducible rfl)
                          (try simp only [Act.put, p1, p2, p3, p4, p5, p6])
                          refine tkH 41 ?_ rfl (Or.inl ⟨by rfl, ?ht41⟩) ?_
                          case ht41 => (intro w hSw; (try dsimp only at hSw); go_simp; try with_reducible rfl)
                          (try simp only [Act.put, p1, p2, p3, p4, p5, p6])
                          refine tkH 42 ?_ rfl (Or.inl ⟨by rfl, ?ht42⟩) ?_
                          case ht42 => (intro w hSw; (try dsimp only at hSw); go_simp; try with_reducible rfl)
                          (try simp only [Act.put, p1, p2, p3, p4, p5, p6])
                          refine tkH 43 ?_ rfl (Or.inl ⟨by rfl, ?ht43⟩) ?_
                          case ht43 => (intro w hSw; (try dsimp only at hSw); go_simp; try with_reducible rfl)
                          (try simp only [Act.put, p1, p2, p3, p4, p5, p6])
                          refine tkH 44 ?_ rfl (Or.inl ⟨by rfl, ?ht44⟩) ?_
                          case ht44 => (intro w hSw; (try dsimp only at hSw); go_simp; try with_reducible rfl)
                          (try simp only [Act.put, p1, p2, p3, p4, p5, p6])
                          refine tkH 45 ?_ rfl (Or.inl ⟨by rfl, ?ht45⟩) ?_
                          case ht45 => (intro w hSw; (try dsimp only at hSw); go_simp; try with_reducible rfl)
                          (try simp only [Act.put, p1, p2, p3, p4, p5, p6])
                          refine tkH 46 ?_ rfl (Or.inl ⟨by rfl, ?ht46⟩) ?_
                          case ht46 => (intro w hSw; (try dsimp only at hSw); go_simp; try with_reducible rfl)
                          (try simp only [Act.put, p1, p2, p3, p4, p5, p6])
                          refine tkH 47 ?_ rfl (Or.inl ⟨by rfl, ?ht47⟩) ?_
                          case ht47 => (intro w hSw; (try dsimp only at hSw); go_simp; try with_reducible rfl)
                          (try simp only [Act.put, p1, p2, p3, p4, p5, p6])
                          refine tkH 48 ?_ rfl (Or.inl ⟨by rfl, ?ht48⟩) ?_
                          case ht48 => (intro w hSw; (try dsimp only at hSw); go_simp; try with_reducible rfl)
                          (try simp only [Act.put, p1, p2, p3, p4, p5, p6])
                          refine tkH 49 ?_ rfl (Or.inl ⟨by rfl, ?ht49⟩) ?_
                          case ht49 => (intro w hSw; (try dsimp only at hSw); go_simp; try with_reducible rfl)
                          (try simp only [Act.put, p1, p2, p3, p4, p5, p6])
                          refine tkH 50 ?_ rfl (Or.inl ⟨by rfl, ?ht50⟩) ?_
                          case ht50 => (intro w hSw; (try dsimp only at hSw); go_simp; try with_reducible rfl)
                          (try simp only [Act.put, p1, p2, p3, p4, p5, p6])
                          refine tkH 52 ?_ rfl (Or.inl ⟨by rfl, ?ht52⟩) ?_
                          case ht52 => (intro w hSw; (try dsimp only at hSw); go_simp; try with_reducible rfl)
                          (try simp only [Act.put, p1, p2, p3, p4, p5, p6])
                          refine tkH 53 ?_ rfl (Or.inl ⟨by rfl, ?ht53⟩) ?_
                          case ht53 => (intro w hSw; (try dsimp only at hSw); go_simp; try with_reducible rfl)
                          (try simp only [Act.put, p1, p2, p3, p4, p5, p6])
                          refine tkH 54 ?_ rfl (Or.inl ⟨by rfl, ?ht54⟩) ?_
                          case ht54 => (intro w hSw; (try dsimp only at hSw); go_simp; try with_reducible rfl)
                          (try simp only [Act.put, p1, p2, p3, p4, p5, p6])
                          refine tkH 55 ?_ rfl (Or.inl ⟨by rfl, ?ht55⟩) ?_
                          case ht55 => (intro w hSw; (try dsimp only at hSw); go_simp; try with_reducible rfl)
                          (try simp only [Act.put, p1, p2, p3, p4, p5, p6])
                          refine tkH 56 ?_ rfl (Or.inl ⟨by rfl, ?ht56⟩) ?_
                          case ht56 => (intro w hSw; (try dsimp only at hSw); go_simp; try with_reducible rfl)
                          (try simp only [Act.put, p1, p2, p3, p4, p5, p6])
                          refine tkH 57 ?_ rfl (Or.inl ⟨by rfl, ?ht57⟩) ?_
                          case ht57 => (intro w hSw; (try dsimp only at hSw); go_simp; try with_reducible rfl)
                          (try simp only [Act.put, p1, p2, p3, p4, p5, p6])
                          refine tkH 58 ?_ rfl (Or.inl ⟨by rfl, ?ht58⟩) ?_
                          case ht58 => (intro w hSw; (try dsimp only at hSw); go_simp; try with_reducible rfl)
                          (try simp only [Act.put, p1, p2, p3, p4, p5, p6])
                          refine tkH 59 ?_ rfl (Or.inl ⟨by rfl, ?ht59⟩) ?_
                          case ht59 => (intro w hSw; (try dsimp only at hSw); go_simp; try with_reducible rfl)
                          (try simp only [Act.put, p1, p2, p3, p4, p5, p6])
                          refine wpAnyH_ready (rs := [51]) (by kernel_rfl) (by simp) ?_
                          refine AllReadyH.cons rfl (fun K hK => ?_) ?_
                          · go_simp
                            refine (gshift_any R C Az nz cz ds u1 u2 u4 f1 f2 f3 f4 _ (HRQ.out.up BWX) hncz (by omega) hcz).mono ?_; rintro ee w61 ⟨A61, n61, c61, rfl, hr61, hn61, hc61, hnew61, hb61⟩; have HR61 := Lib.hid hr61; clear hr61 hnew61; go_wp2_with fail
                            refine hK.out _ _ ?_ (fun hHeld => ?_)
                            · (try dsimp only); (refine HY.out _ ?_; exact BWX)
                            clear hK K
                            (try simp only [Act.put, p1, p2, p3, p4, p5, p6])
                            refine wpAnyH_ready (rs := [60]) (by kernel_rfl) (by simp) ?_
                            refine AllReadyH.cons rfl (fun K hK => ?_) ?_
                            · go_simp
                              refine (rshift_any R C Az nz cz ds u1 u2 u4 f1 f2 f3 f4 _ (HRQ.out.up BWX) hncz hcz).mono ?_; rintro ee w70 ⟨A70, n70, c70, rfl, hr70, hn70, hc70, hb70⟩; have HR70 := Lib.hid hr70; clear hr70; go_wp2_with fail
                              refine hK.out _ _ ?_ (fun hHeld => ?_)
                              · (try dsimp only); (refine HY.out _ ?_; exact BWX)
                              clear hK K
                              (try simp only [Act.put, p1, p2, p3, p4, p5, p6])
                              refine wpAnyH_ready (rs := [61]) (by kernel_rfl) (by simp) ?_
                              refine AllReadyH.cons rfl (fun K hK => ?_) ?_
                              · go_simp
                                refine (rsame_any _ _ _ _ A61 A70 n61 c61 n70 c70 _ _ _ (HR61.out.up BWX) hn61 hc61 (HR70.out.up BWX) hn70 hc70).mono ?_; rintro ee w71 ⟨rfl, hb71⟩; (try simp only [decide_true, Bool.and_true, Bool.and_self]); clear HR61 HR70; go_wp2_with fail
                                refine hK.out _ _ ?_ (fun hHeld => ?_)
                                · (try dsimp only); (refine HY.out _ ?_; exact BWX)
                                clear hK K
                                (try simp only [Act.put, p1, p2, p3, p4, p5, p6])
                                refine tkH 62 ?_ rfl (Or.inl ⟨by rfl, ?ht62⟩) ?_
                                case ht62 => (intro w hSw; (try dsimp only at hSw); go_simp; try with_reducible rfl)
                                (try simp only [Act.put, p1, p2, p3, p4, p5, p6])
                                refine tkH 63 ?_ rfl (Or.inl ⟨by rfl, ?ht63⟩) ?_
                                case ht63 => (intro w hSw; (try dsimp only at hSw); go_simp; try with_reducible rfl)
                                (try simp only [Act.put, p1, p2, p3, p4, p5, p6])
                                refine wpAnyH_done (by kernel_rfl) ?_ _
                                go_wp2_with fail
                                go_roundw
                                case rel => exact ⟨k3 + 1, by go_num, by omega, Bw.trans hwr3 (Bw.trans hbwq BWX)⟩
                                case measure => simp [intOf]; omega
                              exact AllReadyH.nil
                            exact AllReadyH.nil
                          exact AllReadyH.nil
                        exact AllReadyH.nil
                      exact AllReadyH.nil
                    exact AllReadyH.nil
                  exact AllReadyH.nil
                exact AllReadyH.nil
              exact AllReadyH.nil
            · obtain rfl : k3 = 2 := by omega
              go_wp2_with fail
              go_roundw
              case rel => exact ⟨k2 + 1, by go_num, by omega, Bw.trans hwr2 (Bw.trans hbwt hbtv)⟩
              case measure => simp [intOf]; omega
        · obtain rfl : k2 = 2 := by omega
          go_wp2_with fail
          go_roundw
          case rel => exact ⟨k + 1, by go_num, by omega, Bw.trans hwr (Bw.trans hbwx hbxy)⟩
          case measure => simp [intOf]; omega
    · obtain rfl : k = 2 := by omega
      go_wp2_with fail
      go_ret
      exact ⟨rfl, Bw.trans HBW.out hwr⟩
end Go.Proofs.Ytccfpehcadpkiaa
