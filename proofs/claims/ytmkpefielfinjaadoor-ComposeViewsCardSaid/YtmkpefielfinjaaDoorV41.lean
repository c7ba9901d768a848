/- Parts of the proof, one after the other. -/
import Derived.Test.YtmkpefielfinjaaDoorV38
import Derived.Test.YtmkpefielfinjaaDoorV39
import Derived.Test.YtmkpefielfinjaaDoorV40
import Derived.Deep.RegionHeld3
import Derived.Test.YtmkpefielfinjaaDoorV05
import Derived.OpenShut
import Derived.WideShapes
import Derived.Lib.SmallJoins
import Derived.Deep.Strs
import Derived.Test.YtmkpefielfinjaaDoorV06
import Derived.Deep.Slices
import Derived.Test.YtmkpefielfinjaaDoorV31
import Derived.LaidMore
import Derived.Lay
import Derived.LaidSub
import Derived.MakeChecks
import Derived.Lib.LaidTab
import Derived.Test.YtmkpefielfinjaaDoorV34
import Derived.SizedLaws
set_option linter.unusedSimpArgs false
set_option linter.unusedVariables false
/- The law ComposeViews. -/
namespace Go.Proofs.YtmkpefielfinjaaDoor
open Go.RowKit

theorem composeC_len (Rn Cn : Nat) (sts : List St) (shown pR pC prow pcol : Int) (ps : List C4) (hR : 1 ≤ Rn) : (composeC Rn Cn sts shown (viewB pR pC ps prow pcol) pR pC ps).length = Rn * Cn := by
 have hb := baseC_len Rn Cn sts shown
 unfold composeC
 split
 ·rename_i h
  unfold viewB gridB at h
  simp only [Bool.and_eq_true, decide_eq_true_eq] at h
  obtain ⟨⟨⟨h1, h2, h3, h4, h5⟩, -⟩, -⟩ := h
  have hp : ps.length = pR.toNat * pC.toNat := by
   have e1 : pR = (pR.toNat : Int) := by omega
   have e2 : pC = (pC.toNat : Int) := by omega
   rw [e1, e2, ← Int.natCast_mul] at h5
   omega
  have hk := (kk_lt sts.length (Rn := Rn) hR).1
  rw [paneC_len Rn Cn _ pR.toNat pC.toNat ps _ hb hp _ (by omega) (by omega)]
  exact hb
 ·exact hb
def VAt (w : World) (g i : Nat) : Prop := ∃ (R C : Int) (Ap : Option Addr) (np cp : Nat) (cs : List C4) (row col : Int) (hid : Bool), w.cell? ⟨g, i * 6, none⟩ = some (.int .i64 R) ∧ w.cell? ⟨g, i * 6 + 1, none⟩ = some (.int .i64 C) ∧ w.cell? ⟨g, i * 6 + 2, none⟩ = some (.slice Ap np cp) ∧ w.cell? ⟨g, i * 6 + 3, none⟩ = some (.int .i64 row) ∧ w.cell? ⟨g, i * 6 + 4, none⟩ = some (.int .i64 col) ∧ w.cell? ⟨g, i * 6 + 5, none⟩ = some (.bool hid) ∧ Rg w Ap np cs ∧ np ≤ cp ∧ cp ≤ 9223372036854775807
theorem VAt.up {w w' : World} {g i : Nat} (h : VAt w g i) (hb : Bw w w') : VAt w' g i := by
 obtain ⟨R, C, Ap, np, cp, cs, row, col, hid, h0, h1, h2, h3, h4, h5, hr, hn, hc⟩ := h
 exact ⟨R, C, Ap, np, cp, cs, row, col, hid, cell_bw hb h0, cell_bw hb h1, cell_bw hb h2, cell_bw hb h3, cell_bw hb h4, cell_bw hb h5, hr.up hb, hn, hc⟩
def StsAt (w : World) (g i : Nat) : Prop := ∃ (Ax : Option Addr) (nx cx : Nat) (sts : List St), w.cell? ⟨g, i, none⟩ = some (.slice Ax nx cx) ∧ RS w Ax nx sts ∧ nx ≤ cx ∧ cx ≤ 9223372036854775807 ∧ ∀ s ∈ sts, stOk s
theorem StsAt.up {w w' : World} {g i : Nat} (h : StsAt w g i) (hb : Bw w w') : StsAt w' g i := by
 obtain ⟨Ax, nx, cx, sts, h0, hr, hn, hc, hs⟩ := h
 exact ⟨Ax, nx, cx, sts, cell_bw hb h0, hr.up hb, hn, hc, hs⟩
def KAt (w : World) (g i : Nat) : Prop := ∃ k : Int, w.cell? ⟨g, i, none⟩ = some (.int .i64 k) ∧ -9223372036854775808 ≤ k ∧ k ≤ 9223372036854775807
theorem KAt.up {w w' : World} {g i : Nat} (h : KAt w g i) (hb : Bw w w') : KAt w' g i := by
 obtain ⟨k, h0, h1, h2⟩ := h
 exact ⟨k, cell_bw hb h0, h1, h2⟩

set_option maxRecDepth 100000 in
set_option maxHeartbeats 8000000 in
theorem views30_any (A : Option Addr) (n c : Nat) (xs : List Int) (rows cols shown : Int) (vR vC : Int) (vA : Option Addr) (vn vc : Nat) (vcs : List C4) (vrow vcol : Int) (vhid : Bool) (nA : Option Addr) (nn ncap : Nat) (nst : List St) (w : World) (hr : RdI w A n xs) (hA : 0 < n → ∀ ad, A = some ad → ad.block < w.heap.size) (hn : n ≤ 9223372036854775807) (hsb : -9223372036854775808 ≤ shown ∧ shown ≤ 9223372036854775807) (hrv : Rg w vA vn vcs) (hvn : vn ≤ vc) (hvc : vc ≤ 9223372036854775807) (hrs : RS w nA nn nst) (hnn : nn ≤ ncap) (hncm : ncap ≤ 9223372036854775807) (hst : ∀ s ∈ nst, stOk s) (hT : WordT w) (hP : PowT w.heap.size w) :
  Calls Tryd.prog 4 #[.slice A n c, .int .i64 rows, .int .i64 cols, .int .i64 shown, .agg #[.int .i64 vR, .int .i64 vC, .slice vA vn vc, .int .i64 vrow, .int .i64 vcol, .bool vhid], .slice nA nn ncap] w fun e w' => e = .returned (.bool true) ∧ Bw w w' := by
 have HR := Lib.hid hr
 have HAA := Lib.hid hA
 have HT := Lib.hid hT
 have HP := Lib.hid hP
 have HSB := Lib.hid hsb
 have HRV := Lib.hid hrv
 have HRS := Lib.hid hrs
 have HST := Lib.hid hst
 clear hr hA hT hP hsb hrv hrs hst
 go_enter Tryd.func4, Tryd.ntmps4
 go_upto_region 1 with (fail)
 generalize hw0 : w.alloc _ = w0
 obtain ⟨hb0, hbw0, hz0⟩ := sb1 hw0
 have HBR := Lib.hid (show Sb w0 w.heap.size (vwV vR vC vA vn vc vrow vcol vhid) 34 from hb0)
 clear hw0 hb0
 go_upto_region 3 with (first
  | (go_at_call 7; refine (sane30_any w0 (HT.out.up hbw0) (PowT.up30 HP.out hbw0)).mono ?_; rintro ee w1 ⟨rfl, hb1⟩; have HB01 := Lib.hid hb1; have HB1 := Lib.hid (Bw.trans hbw0 hb1); have hz1 := hb1.size; clear hb1)
  | fail)
 have x2 := (HBR.out.up HB01.out).cell 2 (v := .slice vA vn vc) rfl
 by_cases h50 : (50 : Int) < (vn : Int)
 ·go_wp2_with fail
  go_ret
  exact ⟨rfl, HB1.out⟩
 by_cases h8 : (8 : Int) < (nn : Int)
 ·go_wp2_with fail
  go_ret
  exact ⟨rfl, HB1.out⟩
 go_upto_region 8 with (first
  | (go_at_call 13; refine (mnew_any A n c _).mono ?_; rintro ee wn ⟨rfl, rfl⟩)
  | (go_at_call 14; refine (made30_dk w1.heap.size A n c xs _ (Dk2.made (HR.out.up HAA.out HB1.out) (fun h0 ad e => by have := HAA.out h0 ad e; omega) hn)).mono ?_; rintro ee w3 ⟨As, ns, cs, sts, rfl, hs3, hnc3, hcm3, hns3, hsm3, hnew3, hD3, hg3⟩; have HS3 := Lib.hid hs3; have HSM := Lib.hid hsm3; have HD3 := Lib.hid hD3; have HNW := Lib.hid hnew3; have hb3 : Bw w w3 := Bw.grown (Bw.alloc HB1.out _) hg3 (fun k hk => by cases hk; omega); have HB3 := Lib.hid hb3; have hb13 : Bw w1 w3 := Bw.grown (Bw.alloc (Bw.refl _) _) hg3 (fun k hk => by cases hk; omega); have HB13 := Lib.hid hb13; have hz3 := hb13.size; clear hs3 hsm3 hnew3 hD3 hg3 hb3 hb13)
  | (go_at_call 16; refine (mterm_dk w1.heap.size A n c xs _ HD3.out).mono ?_; rintro ee w4 ⟨t, rfl, ht, ⟨t1, t2, t3, t4⟩, htn, hD4, hg4⟩; have HOKT := Lib.hid ht; have HG4 := Lib.hid hg4; have hb4 : Bw w w4 := Bw.grown HB3.out hg4 (fun k hk => by cases hk; omega); have HB4 := Lib.hid hb4; have hb14 : Bw w1 w4 := Bw.grown HB13.out hg4 (fun k hk => by cases hk; omega); have HB14 := Lib.hid hb14; have hz4 := hb14.size; clear ht htn hD4 hg4 hb4 hb14)
  | (go_at_call 15; refine (rpane_any t _).mono ?_; rintro ee w5 ⟨rfl, hb5⟩; have HB45 := Lib.hid hb5; have HB5 := Lib.hid (Bw.trans HB4.out hb5); have HB15 := Lib.hid (Bw.trans HB14.out hb5); have hz5 := hb5.size; clear hb5)
  | fail)
 generalize hw6 : w5.alloc _ = w6
 obtain ⟨hb6, hbw6, hz6⟩ := sb1 hw6
 obtain ⟨⟨-, k2, -, k4, -, knc, kcm, ps, hrp, hgp⟩, -, -⟩ := HOKT.out.1
 have HRP := Lib.hid ((hrp.up HB45.out).up hbw6)
 have HBP := Lib.hid (show Sb w6 w5.heap.size (vwV (t.s.Rn : Int) (t.s.Cn : Int) t.s.A t.s.n t.s.c t.s.row t.s.col t.s.hid) 34 from hb6)
 have HB6 := Lib.hid (Bw.trans HB5.out hbw6)
 have HB06 := Lib.hid (Bw.trans (Bw.trans HB01.out HB15.out) hbw6)
 have HS6 := Lib.hid (((HS3.out.far HG4.out (fun ad e e2 => by have := HNW.out ad e; rw [heapsz] at this; have e3 := Option.some.inj e2; omega)).up HB45.out).up hbw6)
 clear hw6 hb6 hrp hgp HD3 HNW HG4 HOKT HB45 hbw6 x2 hz6
 have y0 := HBP.out.cell 0 (v := .int .i64 (t.s.Rn : Int)) rfl
 have y1 := HBP.out.cell 1 (v := .int .i64 (t.s.Cn : Int)) rfl
 have y2 := HBP.out.cell 2 (v := .slice t.s.A t.s.n t.s.c) rfl
 have y3 := HBP.out.cell 3 (v := .int .i64 t.s.row) rfl
 have y4 := HBP.out.cell 4 (v := .int .i64 t.s.col) rfl
 have y5 := HBP.out.cell 5 (v := .bool t.s.hid) rfl
 have x0 := (HBR.out.up HB06.out).cell 0 (v := .int .i64 vR) rfl
 have x1 := (HBR.out.up HB06.out).cell 1 (v := .int .i64 vC) rfl
 have x2 := (HBR.out.up HB06.out).cell 2 (v := .slice vA vn vc) rfl
 have x3 := (HBR.out.up HB06.out).cell 3 (v := .int .i64 vrow) rfl
 have x4 := (HBR.out.up HB06.out).cell 4 (v := .int .i64 vcol) rfl
 have x5 := (HBR.out.up HB06.out).cell 5 (v := .bool vhid) rfl
 go_upto_region 9 with (fail)
 clear x0 x1 x2 x3 x4 x5 y0 y1 y2 y3 y4 y5
 generalize hw7 : w6.alloc _ = w7
 obtain ⟨hb7, hbw7, hz7⟩ := sb1 hw7
 have HV0 := Lib.hid (show VAt w7 w6.heap.size 0 from ⟨_, _, _, _, _, ps, _, _, _, hb7.cell 0 rfl, hb7.cell 1 rfl, hb7.cell 2 rfl, hb7.cell 3 rfl, hb7.cell 4 rfl, hb7.cell 5 rfl, HRP.out.up hbw7, knc, kcm⟩)
 have HV1 := Lib.hid (show VAt w7 w6.heap.size 1 from ⟨_, _, _, _, _, vcs, _, _, _, hb7.cell 6 rfl, hb7.cell 7 rfl, hb7.cell 8 rfl, hb7.cell 9 rfl, hb7.cell 10 rfl, hb7.cell 11 rfl, HRV.out.up (Bw.trans HB6.out hbw7), hvn, hvc⟩)
 have HV2 := Lib.hid (show VAt w7 w6.heap.size 2 from ⟨_, _, _, _, _, [], _, _, _, hb7.cell 12 rfl, hb7.cell 13 rfl, hb7.cell 14 rfl, hb7.cell 15 rfl, hb7.cell 16 rfl, hb7.cell 17 rfl, Rg.nil_ _ _, by omega, by omega⟩)
 have HB7 := Lib.hid (Bw.trans HB6.out hbw7)
 have HS7 := Lib.hid (HS6.out.up hbw7)
 have HSO := Lib.hid (show ∀ s ∈ sts, stOk s from fun s hs => (HSM.out s hs).ok)
 have hg7 : w6.heap.size < w7.heap.size := hb7.lt
 obtain ⟨gv, hgv⟩ : ∃ gv, gv = w6.heap.size := ⟨_, rfl⟩
 simp only [← hgv] at HV0 HV1 HV2 hg7 ⊢
 clear hw7 hb7 hbw7 hz7 HRP HBP HB6 HB06 HS6 HSM HBR HB01 HB1 HB3 HB13 HB4 HB14 HB5 HB15 hgv
 go_wp2_with fail
 go_loopw [46] (fun i wr => ∃ k : Nat, i = .int .i64 (k : Int) ∧ k ≤ 3 ∧ Bw w7 wr) (fun i _ => 3 - (intOf i).toNat)
 case atStart => exact ⟨0, rfl, by omega, Bw.refl _⟩
 case round =>
  obtain ⟨wz, hwz⟩ : ∃ wz : World, wz = wr := ⟨_, rfl⟩
  subst hwz
  obtain ⟨k, rfl, hk, hbz⟩ := hrel
  have HBZ := Lib.hid hbz
  clear hbz
  by_cases hlt : k < 3
  ·have hVA : VAt wz gv k := by
    rcases (show k = 0 ∨ k = 1 ∨ k = 2 by omega) with rfl | rfl | rfl
    ·exact HV0.out.up HBZ.out
    ·exact HV1.out.up HBZ.out
    ·exact HV2.out.up HBZ.out
   obtain ⟨R, C, Ap, np, cp, cv, row, col, hid, h0, h1, h2, h3, h4, h5, hrp, hnp, hcp⟩ := hVA
   have HRP := Lib.hid hrp
   have e1 : (0 : Int) ≤ k := by omega
   have e2 : (k : Int) < 3 := by omega
   clear hrp
   go_upto_region 11 with (fail)
   generalize hwx : wz.alloc (.cells #[.int .i64 R, .int .i64 C, .slice Ap np cp, .int .i64 row, .int .i64 col, .bool hid] 34) = wx
   obtain ⟨hbx, hbwx, hzx⟩ := sb1 hwx
   have HBX := Lib.hid (show Sb wx wz.heap.size (vwV R C Ap np cp row col hid) 34 from hbx)
   have HRX := Lib.hid (HRP.out.up hbwx)
   have HB0X := Lib.hid (Bw.trans HB7.out (Bw.trans HBZ.out hbwx))
   have HB7X := Lib.hid (Bw.trans HBZ.out hbwx)
   clear hwx hbx h0 h1 h2 h3 h4 h5 hbwx HRP hzx
   go_upto_region 12 with (fail)
   generalize hwy : wx.alloc _ = wy
   obtain ⟨hby, hbwy, hzy⟩ := sb1 hwy
   have HS0 := Lib.hid (show StsAt wy wx.heap.size 0 from ⟨_, _, _, sts, hby.cell 0 rfl, HS7.out.up (Bw.trans HB7X.out hbwy), hnc3, hcm3, HSO.out⟩)
   have HS1 := Lib.hid (show StsAt wy wx.heap.size 1 from ⟨_, _, _, nst, hby.cell 1 rfl, HRS.out.up (Bw.trans HB0X.out hbwy), hnn, hncm, HST.out⟩)
   have HXY := Lib.hid hbwy
   have hgy : wx.heap.size < wy.heap.size := hby.lt
   obtain ⟨gs, hgs⟩ : ∃ gs, gs = wx.heap.size := ⟨_, rfl⟩
   simp only [← hgs] at HS0 HS1 hgy ⊢
   clear hwy hby hbwy hzy hgs
   go_wp2_with fail
   go_loopw [54] (fun i wr => ∃ k2 : Nat, i = .int .i64 (k2 : Int) ∧ k2 ≤ 2 ∧ Bw wy wr) (fun i _ => 2 - (intOf i).toNat)
   case atStart => exact ⟨0, rfl, by omega, Bw.refl _⟩
   case round =>
    obtain ⟨wq, hwq⟩ : ∃ wq : World, wq = wr := ⟨_, rfl⟩
    subst hwq
    obtain ⟨k2, rfl, hk2, hbq⟩ := hrel
    have HBQ := Lib.hid hbq
    clear hbq
    by_cases hlt2 : k2 < 2
    ·have hSA : StsAt wq gs k2 := by
      rcases (show k2 = 0 ∨ k2 = 1 by omega) with rfl | rfl
      ·exact HS0.out.up HBQ.out
      ·exact HS1.out.up HBQ.out
     obtain ⟨Ax, nx, cx, stx, h0, hrx, hnx, hcx, hsx⟩ := hSA
     have HRSX := Lib.hid hrx
     have HSX := Lib.hid hsx
     have e3 : (0 : Int) ≤ k2 := by omega
     have e4 : (k2 : Int) < 2 := by omega
     clear hrx hsx
     go_upto_region 15 with (first
      | (go_at_call 8; refine (mmod_any _ _ _ (by omega) (by omega)).mono ?_; rintro ee ww ⟨rfl, rfl⟩)
      | fail)
     clear h0
     generalize hwp : wq.alloc _ = wp
     obtain ⟨hbp, hbwp, hzp⟩ := sb1 hwp
     have hmb := Int.emod_nonneg shown (show (8 : Int) ≠ 0 by omega)
     have hmb2 := Int.emod_lt_of_pos shown (show (0 : Int) < 8 by omega)
     have HK0 := Lib.hid (show KAt wp wq.heap.size 0 from ⟨shown, hbp.cell 0 rfl, HSB.out⟩)
     have HK1 := Lib.hid (show KAt wp wq.heap.size 1 from ⟨shown % 8, hbp.cell 1 rfl, by omega, by omega⟩)
     have HBQP := Lib.hid hbwp
     have hgp : wq.heap.size < wp.heap.size := hbp.lt
     obtain ⟨gk, hgk⟩ : ∃ gk, gk = wq.heap.size := ⟨_, rfl⟩
     simp only [← hgk] at HK0 HK1 hgp ⊢
     clear hwp hbp hbwp hzp hgk hmb hmb2
     go_wp2_with fail
     go_loopw [63] (fun i wr => ∃ k3 : Nat, i = .int .i64 (k3 : Int) ∧ k3 ≤ 2 ∧ Bw wp wr) (fun i _ => 2 - (intOf i).toNat)
     case atStart => exact ⟨0, rfl, by omega, Bw.refl _⟩
     case round =>
      obtain ⟨wo, hwo⟩ : ∃ wo : World, wo = wr := ⟨_, rfl⟩
      subst hwo
      obtain ⟨k3, rfl, hk3, hbo⟩ := hrel
      have HBO := Lib.hid hbo
      clear hbo
      by_cases hlt3 : k3 < 2
      ·have hKA : KAt wo gk k3 := by
        rcases (show k3 = 0 ∨ k3 = 1 by omega) with rfl | rfl
        ·exact HK0.out.up HBO.out
        ·exact HK1.out.up HBO.out
       obtain ⟨kv, h0, hkb⟩ := hKA
       have HKB := Lib.hid hkb
       have e5 : (0 : Int) ≤ k3 := by omega
       have e6 : (k3 : Int) < 2 := by omega
       clear hkb
       go_upto_region 17 with (fail)
       clear h0
       have HXO := Lib.hid (Bw.trans HXY.out (Bw.trans HBQ.out (Bw.trans HBQP.out HBO.out)))
       have HWO := Lib.hid (Bw.trans HB0X.out HXO.out)
       have HRO := Lib.hid (HRX.out.up HXO.out)
       have HRSO := Lib.hid (HRSX.out.up (Bw.trans HBQP.out HBO.out))
       have HY := Lib.hid (show ∀ w', Bw wo w' → (w'.cell? ⟨wz.heap.size, 0, none⟩ = some (.int .i64 R) ∧ w'.cell? ⟨wz.heap.size, 1, none⟩ = some (.int .i64 C) ∧ w'.cell? ⟨wz.heap.size, 2, none⟩ = some (.slice Ap np cp) ∧ w'.cell? ⟨wz.heap.size, 3, none⟩ = some (.int .i64 row) ∧ w'.cell? ⟨wz.heap.size, 4, none⟩ = some (.int .i64 col) ∧ w'.cell? ⟨wz.heap.size, 5, none⟩ = some (.bool hid)) from fun w' hb => by
        have h := HBX.out.up (Bw.trans HXO.out hb)
        exact ⟨h.cell 0 rfl, h.cell 1 rfl, h.cell 2 rfl, h.cell 3 rfl, h.cell 4 rfl, h.cell 5 rfl⟩)
       refine wp_region_held_drew (S := (fun w' => w'.cell? ⟨wz.heap.size, 0, none⟩ = some (.int .i64 R) ∧ w'.cell? ⟨wz.heap.size, 1, none⟩ = some (.int .i64 C) ∧ w'.cell? ⟨wz.heap.size, 2, none⟩ = some (.slice Ap np cp) ∧ w'.cell? ⟨wz.heap.size, 3, none⟩ = some (.int .i64 row) ∧ w'.cell? ⟨wz.heap.size, 4, none⟩ = some (.int .i64 col) ∧ w'.cell? ⟨wz.heap.size, 5, none⟩ = some (.bool hid))) (by kernel_rfl) ?_ (fun hHeld => ?_)
       ·(try dsimp only); (refine HY.out _ ?_; exact BWX)
       refine tkH 0 ?_ rfl (Or.inl ⟨by rfl, ?ht0⟩) ?_
       case ht0 => (intro w hSw; (try dsimp only at hSw); go_simp; try with_reducible rfl)
       (try simp only [Act.put, zP1, zP2, zP3, zP4, zP5, zP6])
       refine tkH 2 ?_ rfl (Or.inl ⟨by rfl, ?ht2⟩) ?_
       case ht2 => (intro w hSw; (try dsimp only at hSw); go_simp; try with_reducible rfl)
       (try simp only [Act.put, zP1, zP2, zP3, zP4, zP5, zP6])
       refine tkH 4 ?_ rfl (Or.inl ⟨by rfl, ?ht4⟩) ?_
       case ht4 => (intro w hSw; (try dsimp only at hSw); go_simp; try with_reducible rfl)
       (try simp only [Act.put, zP1, zP2, zP3, zP4, zP5, zP6])
       refine tkH 5 ?_ rfl (Or.inl ⟨by rfl, ?ht5⟩) ?_
       case ht5 => (intro w hSw; (try dsimp only at hSw); go_simp; try with_reducible rfl)
       (try simp only [Act.put, zP1, zP2, zP3, zP4, zP5, zP6])
       refine tkH 6 ?_ rfl (Or.inl ⟨by rfl, ?ht6⟩) ?_
       case ht6 => (intro w hSw; (try dsimp only at hSw); go_simp; try with_reducible rfl)
       (try simp only [Act.put, zP1, zP2, zP3, zP4, zP5, zP6])
       refine tkH 8 ?_ rfl (Or.inl ⟨by rfl, ?ht8⟩) ?_
       case ht8 => (intro w hSw; (try dsimp only at hSw); go_simp; try with_reducible rfl)
       (try simp only [Act.put, zP1, zP2, zP3, zP4, zP5, zP6])
       refine tkH 10 ?_ rfl (Or.inl ⟨by rfl, ?ht10⟩) ?_
       case ht10 => (intro w hSw; (try dsimp only at hSw); go_simp; try with_reducible rfl)
       (try simp only [Act.put, zP1, zP2, zP3, zP4, zP5, zP6])
       refine tkH 12 ?_ rfl (Or.inl ⟨by rfl, ?ht12⟩) ?_
       case ht12 => (intro w hSw; (try dsimp only at hSw); go_simp; try with_reducible rfl)
       (try simp only [Act.put, zP1, zP2, zP3, zP4, zP5, zP6])
       refine tkH 13 ?_ rfl (Or.inl ⟨by rfl, ?ht13⟩) ?_
       case ht13 => (intro w hSw; (try dsimp only at hSw); go_simp; try with_reducible rfl)
       (try simp only [Act.put, zP1, zP2, zP3, zP4, zP5, zP6])
       refine tkH 14 ?_ rfl (Or.inl ⟨by rfl, ?ht14⟩) ?_
       case ht14 => (intro w hSw; (try dsimp only at hSw); go_simp; try with_reducible rfl)
       (try simp only [Act.put, zP1, zP2, zP3, zP4, zP5, zP6])
       refine wpAnyH_ready (rs := [1]) (by kernel_rfl) (by simp) ?_
       refine AllReadyH.cons rfl (fun K hK => ?_) ?_
       ·go_simp
        refine (mmod_any _ _ _ (by omega) (by omega)).mono ?_; rintro ee ww ⟨rfl, rfl⟩; go_wp2_with fail
        refine hK.out _ _ ?_ (fun hHeld => ?_)
        ·(try dsimp only); (refine HY.out _ ?_; exact BWX)
        clear hK K
        (try simp only [Act.put, zP1, zP2, zP3, zP4, zP5, zP6])
        refine wpAnyH_ready (rs := [3]) (by kernel_rfl) (by simp) ?_
        refine AllReadyH.cons rfl (fun K hK => ?_) ?_
        ·go_simp
         refine (mmod_any _ _ _ (by omega) (by omega)).mono ?_; rintro ee ww ⟨rfl, rfl⟩; go_wp2_with fail
         refine hK.out _ _ ?_ (fun hHeld => ?_)
         ·(try dsimp only); (refine HY.out _ ?_; exact BWX)
         clear hK K
         (try simp only [Act.put, zP1, zP2, zP3, zP4, zP5, zP6])
         refine wpAnyH_ready (rs := [7]) (by kernel_rfl) (by simp) ?_
         refine AllReadyH.cons rfl (fun K hK => ?_) ?_
         ·go_simp
          refine (compose_any (rows % 12) (cols % 24) Ax nx cx stx kv R C Ap np cp cv row col hid _ (HRSO.out.up BWX) hnx hcx HSX.out (HRO.out.up BWX) hnp hcp HKB.out (HT.out.up (Bw.trans HWO.out BWX)) (PowT.up30 HP.out (Bw.trans HWO.out BWX))).mono ?_; rintro ee w8 ⟨g8, Rn, Cn, hRn, hCn, hgz8, hb8, hW8, rfl⟩; have HW8 := Lib.hid hW8; have HRN := Lib.hid hRn; have HCN := Lib.hid hCn; generalize hq1 : (if curB Rn Cn (kkN stx.length Rn) (viewB R C cv row col) row col hid = true then (kkN stx.length Rn : Int) + 1 + row else 0) = q1; generalize hq2 : (if curB Rn Cn (kkN stx.length Rn) (viewB R C cv row col) row col hid = true then col else 0) = q2; generalize hq3 : (!curB Rn Cn (kkN stx.length Rn) (viewB R C cv row col) row col hid) = q3; have HQ1 := Lib.hid hq1; have HQ2 := Lib.hid hq2; have HQ3 := Lib.hid hq3; clear hW8 hRn hCn hq1 hq2 hq3; go_wp2_with fail
          refine hK.out _ _ ?_ (fun hHeld => ?_)
          ·(try dsimp only); (refine HY.out _ ?_; exact BWX)
          clear hK K
          (try simp only [Act.put, zP1, zP2, zP3, zP4, zP5, zP6])
          refine wpAnyH_ready (rs := [9]) (by kernel_rfl) (by simp) ?_
          refine AllReadyH.cons rfl (fun K hK => ?_) ?_
          ·go_simp
           refine (mmod_any _ _ _ (by omega) (by omega)).mono ?_; rintro ee ww ⟨rfl, rfl⟩; go_wp2_with fail
           refine hK.out _ _ ?_ (fun hHeld => ?_)
           ·(try dsimp only); (refine HY.out _ ?_; exact BWX)
           clear hK K
           (try simp only [Act.put, zP1, zP2, zP3, zP4, zP5, zP6])
           refine wpAnyH_ready (rs := [11]) (by kernel_rfl) (by simp) ?_
           refine AllReadyH.cons rfl (fun K hK => ?_) ?_
           ·go_simp
            refine (mmod_any _ _ _ (by omega) (by omega)).mono ?_; rintro ee ww ⟨rfl, rfl⟩; go_wp2_with fail
            refine hK.out _ _ ?_ (fun hHeld => ?_)
            ·(try dsimp only); (refine HY.out _ ?_; exact BWX)
            clear hK K
            (try simp only [Act.put, zP1, zP2, zP3, zP4, zP5, zP6])
            refine wpAnyH_ready (rs := [15]) (by kernel_rfl) (by simp) ?_
            refine AllReadyH.cons rfl (fun K hK => ?_) ?_
            ·go_simp
             refine (rcompose_any (rows % 12) (cols % 24) Ax nx cx stx kv R C Ap np cp cv row col hid _ (HRSO.out.up BWX) hnx hcx HSX.out (HRO.out.up BWX) hnp hcp HKB.out).mono ?_; rintro ee w9 ⟨Rm, Cm, A9, n9, c9, cs9, hRm, hCm, hb9, hr9, hn9, hc9, hcs9, rfl⟩; obtain rfl : Rm = Rn := hRm.trans HRN.out.symm; obtain rfl : Cm = Cn := hCm.trans HCN.out.symm; rw [hcs9] at hr9; have HR9 := Lib.hid hr9; clear hr9 hcs9 hRm hCm; rw [HQ1.out, HQ2.out, HQ3.out]; go_wp2_with fail
             refine hK.out _ _ ?_ (fun hHeld => ?_)
             ·(try dsimp only); (refine HY.out _ ?_; exact BWX)
             clear hK K
             (try simp only [Act.put, zP1, zP2, zP3, zP4, zP5, zP6])
             refine wpAnyH_ready (rs := [16]) (by kernel_rfl) (by simp) ?_
             refine AllReadyH.cons rfl (fun K hK => ?_) ?_
             ·go_simp
              (have hl8 : 1 ≤ Rm := by (have h9 := clamp_bd (rows % 12) 30 (by omega)); have h10 := HRN.out; omega); (have hr8 := HW8.out.rg); rw [composeC_len Rm Cm stx kv R C row col cv hl8] at hr8; have HR8 := Lib.hid hr8; clear hr8; (have hl9 : Rm ≤ 30 := by (have h9 := clamp_bd (rows % 12) 30 (by omega)); have h10 := HRN.out; omega); (have hl10 : Cm ≤ 100 := by (have h9 := clamp_bd (cols % 24) 100 (by omega)); have h10 := HCN.out; omega); (have hl11 : Rm * Cm ≤ 3000 := Nat.mul_le_mul hl9 hl10); refine (rsameV_any _ _ _ _ _ (some ⟨g8, 0, none⟩) A9 (Rm * Cm) (Rm * Cm) n9 c9 _ _ (HR8.out.up BWX) (Nat.le_refl _) (by omega) (HR9.out.up BWX) hn9 hc9).mono ?_; rintro ee w10 ⟨rfl, hb10⟩; go_wp2_with fail
              refine hK.out _ _ ?_ (fun hHeld => ?_)
              ·(try dsimp only); (refine HY.out _ ?_; exact BWX)
              clear hK K
              (try simp only [Act.put, zP1, zP2, zP3, zP4, zP5, zP6])
              refine tkH 17 ?_ rfl (Or.inl ⟨by rfl, ?ht17⟩) ?_
              case ht17 => (intro w hSw; (try dsimp only at hSw); go_simp; try with_reducible rfl)
              (try simp only [Act.put, zP1, zP2, zP3, zP4, zP5, zP6])
              refine wpAnyH_done (by kernel_rfl) ?_ _
              go_wp2_with fail
              go_roundw
              case rel => exact ⟨k3 + 1, by go_num, by omega, Bw.trans HBO.out BWX⟩
              case measure => simp [intOf]; omega
             exact AllReadyH.nil
            exact AllReadyH.nil
           exact AllReadyH.nil
          exact AllReadyH.nil
         exact AllReadyH.nil
        exact AllReadyH.nil
       exact AllReadyH.nil
      ·obtain rfl : k3 = 2 := by omega
       go_wp2_with fail
       go_roundw
       case rel => exact ⟨k2 + 1, by go_num, by omega, Bw.trans HBQ.out (Bw.trans HBQP.out HBO.out)⟩
       case measure => simp [intOf]; omega
    ·obtain rfl : k2 = 2 := by omega
     go_wp2_with fail
     go_roundw
     case rel => exact ⟨k + 1, by go_num, by omega, Bw.trans HB7X.out (Bw.trans HXY.out HBQ.out)⟩
     case measure => simp [intOf]; omega
  ·obtain rfl : k = 3 := by omega
   go_wp2_with fail
   go_ret
   exact ⟨rfl, Bw.trans HB7.out HBZ.out⟩
end Go.Proofs.YtmkpefielfinjaaDoor

/- Arguments of structs: what the row's shell tells of a cell. -/
namespace Go.Proofs.YtmkpefielfinjaaDoor
open Go.RowKit Go.ChangeShapes Go.WideShapes Go.ChangeAt Go.Joins Go.Deep

theorem cells_int : Tryd.prog.cellsOf 3 = 1 := by kernel_rfl
theorem cells_attr : Tryd.prog.cellsOf 43 = 3 := by kernel_rfl
theorem cells_cell : Tryd.prog.cellsOf 64 = 4 := by kernel_rfl
theorem trod_cell {H : Type} {enc : TypeId × Value → H} {W : World} {base : Nat} {sp : Nat → Bool} {held : Bool} {fuel : Nat} {c0 c1 c2 c3 : Value} {x : DataW H × List MemPlace}
  (hf : DataW.trod enc Tryd.prog W base sp held fuel 64 [c0, c1, c2, c3] = some x) : ∃ x1 x2 x3 x4 : Int, c0 = .int .i64 x1 ∧ c1 = .int .i64 x2 ∧ c2 = .int .i64 x3 ∧ c3 = .int .i64 x4 := by
 obtain ⟨y0, y1, n, hx, _, h0, h1⟩ := trod_struct2 Tryd.underlying64 hf
 have h0' : DataW.trod enc Tryd.prog W base sp held n 3 [c0] = some y0 := by simpa [cells_int] using h0
 have h1' : DataW.trod enc Tryd.prog W base sp held n 43 [c1, c2, c3] = some y1 := by simpa [cells_attr] using h1
 obtain ⟨z0, z1, z2, m, hz, _, k0, k1, k2⟩ := trod_struct3 Tryd.underlying43 h1'
 have k0' : DataW.trod enc Tryd.prog W base sp held m 3 [c1] = some z0 := by simpa [cells_int] using k0
 have k1' : DataW.trod enc Tryd.prog W base sp held m 3 [c2] = some z1 := by simpa [cells_int] using k1
 have k2' : DataW.trod enc Tryd.prog W base sp held m 3 [c3] = some z2 := by simpa [cells_int] using k2
 obtain ⟨x1, e1, -, -⟩ := DataW.trod_int Tryd.underlying3 h0'
 obtain ⟨x2, e2, -, -⟩ := DataW.trod_int Tryd.underlying3 k0'
 obtain ⟨x3, e3, -, -⟩ := DataW.trod_int Tryd.underlying3 k1'
 obtain ⟨x4, e4, -, -⟩ := DataW.trod_int Tryd.underlying3 k2'
 cases e1; cases e2; cases e3; cases e4
 exact ⟨x1, x2, x3, x4, rfl, rfl, rfl, rfl⟩
end Go.Proofs.YtmkpefielfinjaaDoor

/- Arguments of structs: what the row's shell tells of attributes and of a grid. -/
namespace Go.Proofs.YtmkpefielfinjaaDoor
open Go.RowKit Go.ChangeShapes Go.WideShapes Go.ChangeAt Go.Joins Go.Deep

/-- Four cells that are read as a cell. -/
theorem ce_of {H : Type} {enc : TypeId × Value → H} {W : World} {base : Nat} {sp : Nat → Bool} {held : Bool} {fuel g o : Nat} {cs' : List Value} {x : DataW H × List MemPlace}
  (hc : W.cells? base ⟨g, o, none⟩ 4 = some cs') (hf : DataW.trod enc Tryd.prog W base sp held fuel 64 cs' = some x) : ∃ c : C4, Ce W g o c := by
 obtain ⟨-, hl, hx⟩ := World.cells?_some hc
 obtain ⟨c0, c1, c2, c3, rfl⟩ : ∃ c0 c1 c2 c3, cs' = [c0, c1, c2, c3] := by
  match cs', hl with
  | [c0, c1, c2, c3], _ => exact ⟨c0, c1, c2, c3, rfl⟩
 obtain ⟨x1, x2, x3, x4, rfl, rfl, rfl, rfl⟩ := trod_cell hf
 have k := fun i hi => hx i hi
 have a0 := k 0 (by omega)
 have a1 := k 1 (by omega)
 have a2 := k 2 (by omega)
 have a3 := k 3 (by omega)
 exact ⟨(x1, x2, x3, x4), by simpa [Addr.add] using a0, by simpa [Addr.add] using a1, by simpa [Addr.add] using a2, by simpa [Addr.add] using a3⟩
end Go.Proofs.YtmkpefielfinjaaDoor

/- Arguments: a status; what the row's condition tells of the table of words. -/
namespace Go.Proofs.YtmkpefielfinjaaDoor
open Go.RowKit Go.ChangeShapes Go.WideShapes Go.ChangeAt Go.Joins Go.Deep

theorem cells_intS : Tryd.prog.cellsOf 3 = 1 := by kernel_rfl
theorem cells_strS : Tryd.prog.cellsOf 9 = 1 := by kernel_rfl
theorem cells_status : Tryd.prog.cellsOf 23 = 4 := by kernel_rfl
theorem wf_bd {n : Int} (h : (Lit.int .i64 n).wf = true) : -9223372036854775808 ≤ n ∧ n ≤ 9223372036854775807 := by simpa [Lit.wf, IntKind.min, IntKind.max, IntKind.signed, IntKind.bits] using h
theorem cells_of_strs {H : Type} {enc : TypeId × Value → H} {P : Program} {w : World} {base : Nat} {sp : Nat → Bool} {held : Bool} {fuel : Nat} {t e : TypeId} {n : Nat} {cs : List Value} {zs : List (List UInt8)} {p : List MemPlace}
  (ht : P.underlying t = some (.array n e)) (he : P.underlying e = some .string) (hce : P.cellsOf e = 1) (hct : P.cellsOf t = n)
  (h : DataW.trod enc P w base sp held fuel t cs = some (.agg (zs.map fun z => .lit (.string z)), p)) : cs = zs.map fun z => Value.string ⟨z.toArray⟩ := by
 cases fuel with
 | zero => simp [DataW.trod] at h
 | succ fuel =>
  simp only [DataW.trod, ht, hce, hct, Nat.mul_one] at h
  split at h
  ·rename_i hl
   obtain ⟨xs, hm, hx⟩ := Option.map_eq_some_iff.1 h
   have hxs : xs.map (·.1) = zs.map fun z => (DataW.lit (.string z) : DataW H) := by
    have := congrArg Prod.fst hx
    simpa using this
   have hxl : xs.length = n := by simpa using Lib.mapM_length hm
   have hzl : zs.length = n := by
    have := congrArg List.length hxs
    simp at this
    omega
   apply List.ext_getElem?
   intro i
   by_cases hi : i < n
   ·obtain ⟨b, hb, hf⟩ := Lib.mapM_at hm i i (by simp [hi])
    obtain ⟨s, hc, rfl, _⟩ := DataW.trod_string he hf
    have h1 : cs[i]? = some (.string s) := by
     have := congrArg (·[0]?) hc
     simpa [List.getElem?_take, List.getElem?_drop] using this
    have h2 : (xs.map (·.1))[i]? = some (DataW.lit (.string s.data.toList) : DataW H) := by simp [hb]
    rw [hxs] at h2
    simp only [List.getElem?_map, Option.map_eq_some_iff, DataW.lit.injEq, Lit.string.injEq] at h2
    obtain ⟨z', hz', e9⟩ := h2
    have e8 : s = ⟨z'.toArray⟩ := by rw [e9]
    simp [h1, hz', e8]
   ·rw [List.getElem?_eq_none (by omega), List.getElem?_eq_none (by simp; omega)]
  ·cases h
/-- From the row's condition: the table of words. -/
theorem word_of_head {W : World} {rest : List (String × DataW Unit)} {t : TypeId}
  (hg : Tryd.prog.globalNamed "jobmux/compose.words" = some 0) (hty : (Tryd.prog.globals[0]?).map (·.type) = some t) (ht : Tryd.prog.underlying t = some (.array 10 9)) (hct : Tryd.prog.cellsOf t = 10)
  (h : laidMet Tryd.prog (("jobmux/compose.words", .agg ((wordL.map fun b => b.data.toList).map fun z => .lit (.string z))) :: rest) W) : WordT W := by
 obtain ⟨ps, ⟨g', t', cs, fuel, p, q, hg', ht', hvar, hd, _, _⟩, _⟩ := h
 obtain rfl := Option.some.inj (hg.symm.trans hg')
 obtain rfl := Option.some.inj (hty.symm.trans ht')
 have e := cells_of_strs ht Tryd.underlying9 cells_strS hct hd
 intro i hi
 have := World.var?_cell hg hvar i
 rw [this, ← Array.getElem?_toList, e]
 have key : ∀ (l : List ByteArray) (i : Nat) (h : i < l.length), ((l.map fun b => b.data.toList).map fun z => Value.string ⟨z.toArray⟩)[i]? = some (.string (l.getD i ⟨#[63]⟩)) := by
  intro l i h
  simp [h]
 exact key wordL i hi
end Go.Proofs.YtmkpefielfinjaaDoor

/- Arguments: a view; a list of statuses, with their sizes. -/
namespace Go.Proofs.YtmkpefielfinjaaDoor
open Go.RowKit Go.ChangeShapes Go.WideShapes Go.ChangeAt Go.Joins Go.Deep

theorem cells_gridV : Tryd.prog.cellsOf 32 = 3 := by kernel_rfl
theorem cells_viewV : Tryd.prog.cellsOf 34 = 6 := by kernel_rfl
theorem cells_boolV : Tryd.prog.cellsOf 4 = 1 := by kernel_rfl
theorem cells_celsV : Tryd.prog.cellsOf 30 = 1 := by kernel_rfl
set_option maxRecDepth 100000 in
theorem rg_of_trod {H : Type} {enc : TypeId × Value → H} {W : World} {base : Nat} {sp : Nat → Bool} {held : Bool} {fuel : Nat} {v : Value} {y : DataW H × List MemPlace}
  (k2 : DataW.trod enc Tryd.prog W base sp held fuel 30 [v] = some y) : ∃ (A : Option Addr) (n c : Nat) (cs : List C4), v = .slice A n c ∧ Rg W A n cs ∧ n ≤ c ∧ c ≤ 9223372036854775807 := by
 rcases open_slice Tryd.underlying30 k2 with ⟨e, -⟩ | ⟨a, len, cap, m, n', D, Pl, e, hb, hl, hm, hme, -, hel⟩
 ·cases e
  exact ⟨none, 0, 0, [], rfl, Rg.nil_ _ _, by omega, by omega⟩
 ·cases e
  have hmx : len ≤ m := by rw [hme]; split <;> omega
  obtain ⟨g, o, fi⟩ := a
  cases fi with
  | some f =>
   by_cases h0 : len = 0
   ·subst h0
    exact ⟨_, 0, cap, [], rfl, Rg.nil_ _ _, by omega, by unfold maxLen at hm; omega⟩
   ·exfalso
    obtain ⟨cs', hc, hf⟩ := hel 0 (by omega)
    rw [cells_cell] at hc
    obtain ⟨-, hl4, hx⟩ := World.cells?_some hc
    obtain ⟨c0, c1, c2, c3, rfl⟩ : ∃ c0 c1 c2 c3, cs' = [c0, c1, c2, c3] := by
     match cs', hl4 with
     | [c0, c1, c2, c3], _ => exact ⟨c0, c1, c2, c3, rfl⟩
    obtain ⟨x1, x2, x3, x4, rfl, rfl, rfl, rfl⟩ := trod_cell hf
    have h1 := hx 0 (by omega)
    obtain ⟨b, off, e, -⟩ := ints_at (w := W) (k := .i64) (a := (⟨g, o, some f⟩ : Addr)) (zs := [x1]) (fun i hi => by
     have hi0 : i = 0 := by simpa using hi
     subst hi0
     simpa [Addr.add] using h1) (by simp)
    cases e
  | none =>
   have key : ∀ i, i < len → ∃ c : C4, Ce W g (o + i * 4) c := fun i hi => by
    obtain ⟨cs', hc, hf⟩ := hel i (by omega)
    rw [cells_cell] at hc
    have e : (⟨g, o, none⟩ : Addr).add (i * 4) = ⟨g, o + i * 4, none⟩ := by
     by_cases h0 : i * 4 = 0
     ·rw [h0]; rfl
     ·simp [Addr.add, h0]
    rw [e] at hc
    exact ce_of hc hf
   refine ⟨_, len, cap, (List.range len).map (fun i => if hi : i < len then (key i hi).choose else (0, 0, 0, 0)), rfl, ⟨by simp, fun _ => ⟨g, o, rfl, fun i hi => ?_⟩⟩, hl, by unfold maxLen at hm; omega⟩
   have hi' : i < len := by simpa using hi
   simp only [List.getElem_map, List.getElem_range, dif_pos hi']
   exact (key i hi').choose_spec
set_option maxRecDepth 100000 in
theorem open_view {H : Type} {enc : TypeId × Value → H} {W : World} {base : Nat} {sp : Nat → Bool} {held : Bool} {r : Reach} {b0 : Nat} {v : Value} {d : DataW H} {p : List MemPlace}
  (hv : Value.okWide Tryd.prog W r b0 34 v) (h : DataW.Trod enc Tryd.prog W base sp held 34 v d p) :
  ∃ (R C : Int) (A : Option Addr) (n c : Nat) (cs : List C4) (row col : Int) (hid : Bool), v = .agg #[.int .i64 R, .int .i64 C, .slice A n c, .int .i64 row, .int .i64 col, .bool hid] ∧ Rg W A n cs ∧ n ≤ c ∧ c ≤ 9223372036854775807 := by
 obtain ⟨cs, rfl, hsz⟩ := okWide_struct Tryd.underlying34 hv
 rw [cells_viewV] at hsz
 obtain ⟨c0, c1, c2, c3, c4, c5, rfl⟩ : ∃ c0 c1 c2 c3 c4 c5, cs = #[c0, c1, c2, c3, c4, c5] := by
  obtain ⟨l⟩ := cs
  match l, hsz with
  | [a, b, c, d, e, f], _ => exact ⟨a, b, c, d, e, f, rfl⟩
 obtain ⟨fuel, hf⟩ := h
 obtain ⟨y0, y1, y2, y3, n, -, -, h0, h1, h2, h3⟩ := trod_struct4 Tryd.underlying34 hf
 have h0' : DataW.trod enc Tryd.prog W base sp held n 32 [c0, c1, c2] = some y0 := by simpa [Value.cells, cells_gridV] using h0
 have h1' : DataW.trod enc Tryd.prog W base sp held n 3 [c3] = some y1 := by simpa [Value.cells, cells_intS] using h1
 have h2' : DataW.trod enc Tryd.prog W base sp held n 3 [c4] = some y2 := by simpa [Value.cells, cells_intS] using h2
 have h3' : DataW.trod enc Tryd.prog W base sp held n 4 [c5] = some y3 := by simpa [Value.cells, cells_boolV] using h3
 obtain ⟨x3, e3, -, -⟩ := DataW.trod_int Tryd.underlying3 h1'
 obtain ⟨x4, e4, -, -⟩ := DataW.trod_int Tryd.underlying3 h2'
 obtain ⟨x5, e5, -⟩ := DataW.trod_bool Tryd.underlying4 h3'
 obtain ⟨z0, z1, z2, m, -, -, g0, g1, g2⟩ := trod_struct3 Tryd.underlying32 h0'
 have g0' : DataW.trod enc Tryd.prog W base sp held m 3 [c0] = some z0 := by simpa [cells_intS] using g0
 have g1' : DataW.trod enc Tryd.prog W base sp held m 3 [c1] = some z1 := by simpa [cells_intS] using g1
 have g2' : DataW.trod enc Tryd.prog W base sp held m 30 [c2] = some z2 := by simpa [cells_celsV] using g2
 obtain ⟨x0, e0, -, -⟩ := DataW.trod_int Tryd.underlying3 g0'
 obtain ⟨x1, e1, -, -⟩ := DataW.trod_int Tryd.underlying3 g1'
 obtain ⟨A, n2, c, cl, rfl, hr, hn, hc⟩ := rg_of_trod g2'
 cases e0; cases e1; cases e3; cases e4; cases e5
 exact ⟨x0, x1, A, n2, c, cl, x3, x4, x5, rfl, hr, hn, hc⟩

theorem weightsAll_mem {H : Type} {P : Program} {e : TypeId} : ∀ {l : List (DataW H)} {d : DataW H}, d ∈ l → ∀ n ∈ d.weights P e, n ∈ DataW.weightsAll P e l
 | d' :: r, d, hd, n, hn => by
  simp only [DataW.weightsAll, List.mem_append]
  rcases List.mem_cons.1 hd with rfl | h
  ·exact Or.inl hn
  ·exact Or.inr (weightsAll_mem h n hn)
set_option maxRecDepth 100000 in
theorem trod_statusW {H : Type} {enc : TypeId × Value → H} {W : World} {base : Nat} {sp : Nat → Bool} {held : Bool} {fuel : Nat} {c0 c1 c2 c3 : Value} {x : DataW H × List MemPlace}
  (hf : DataW.trod enc Tryd.prog W base sp held fuel 23 [c0, c1, c2, c3] = some x) : ∃ (s : ByteArray) (x2 x3 x4 : Int), c0 = .string s ∧ c1 = .int .i64 x2 ∧ c2 = .int .i64 x3 ∧ c3 = .int .i64 x4 ∧ (-9223372036854775808 ≤ x3 ∧ x3 ≤ 9223372036854775807) ∧ (-9223372036854775808 ≤ x4 ∧ x4 ≤ 9223372036854775807) ∧ ((∀ k ∈ x.1.weights Tryd.prog 23, k ≤ reachBytes) → s.size ≤ 140737488351232) := by
 obtain ⟨y0, y1, y2, y3, n, hx, _, h0, h1, h2, h3⟩ := trod_struct4 Tryd.underlying23 hf
 have h0' : DataW.trod enc Tryd.prog W base sp held n 9 [c0] = some y0 := by simpa [cells_strS] using h0
 have h1' : DataW.trod enc Tryd.prog W base sp held n 3 [c1] = some y1 := by simpa [cells_intS] using h1
 have h2' : DataW.trod enc Tryd.prog W base sp held n 3 [c2] = some y2 := by simpa [cells_intS] using h2
 have h3' : DataW.trod enc Tryd.prog W base sp held n 3 [c3] = some y3 := by simpa [cells_intS] using h3
 obtain ⟨s, e1, q1, -⟩ := DataW.trod_string Tryd.underlying9 h0'
 obtain ⟨x2, e2, -, -⟩ := DataW.trod_int Tryd.underlying3 h1'
 obtain ⟨x3, e3, -, q3⟩ := DataW.trod_int Tryd.underlying3 h2'
 obtain ⟨x4, e4, -, q4⟩ := DataW.trod_int Tryd.underlying3 h3'
 cases e1; cases e2; cases e3; cases e4
 refine ⟨s, x2, x3, x4, rfl, rfl, rfl, rfl, wf_bd q3, wf_bd q4, fun hw => ?_⟩
 have hm : s.size ∈ x.1.weights Tryd.prog 23 := by
  rw [hx, q1]
  simp only [DataW.weights, Tryd.underlying23]
  exact DataW.weights_mem_each (j := 0) (t := 9) (d := .lit (.string s.data.toList)) rfl rfl _ (by simp [DataW.weights])
 have := hw _ hm
 simpa [reachBytes] using this
set_option maxRecDepth 100000 in
theorem st_of {H : Type} {enc : TypeId × Value → H} {W : World} {base : Nat} {sp : Nat → Bool} {held : Bool} {fuel g o : Nat} {cs' : List Value} {x : DataW H × List MemPlace}
  (hc : W.cells? base ⟨g, o, none⟩ 4 = some cs') (hf : DataW.trod enc Tryd.prog W base sp held fuel 23 cs' = some x) (hw : ∀ k ∈ x.1.weights Tryd.prog 23, k ≤ reachBytes) : ∃ s : St, Se W g o s ∧ stOk s := by
 obtain ⟨-, hl, hx⟩ := World.cells?_some hc
 obtain ⟨c0, c1, c2, c3, rfl⟩ : ∃ c0 c1 c2 c3, cs' = [c0, c1, c2, c3] := by
  match cs', hl with
  | [c0, c1, c2, c3], _ => exact ⟨c0, c1, c2, c3, rfl⟩
 obtain ⟨s, x2, x3, x4, rfl, rfl, rfl, rfl, b1, b2, b3⟩ := trod_statusW hf
 have k := fun i hi => hx i hi
 have a0 := k 0 (by omega)
 have a1 := k 1 (by omega)
 have a2 := k 2 (by omega)
 have a3 := k 3 (by omega)
 exact ⟨(s, x2, x3, x4), ⟨by simpa [Addr.add] using a0, by simpa [Addr.add] using a1, by simpa [Addr.add] using a2, by simpa [Addr.add] using a3⟩, b3 hw, b1, b2⟩
theorem RS.nil_ (w : World) (A : Option Addr) : RS w A 0 [] := ⟨rfl, fun h => by omega⟩
set_option maxRecDepth 100000 in
theorem open_statuses {H : Type} {enc : TypeId × Value → H} {W : World} {base : Nat} {sp : Nat → Bool} {held : Bool} {r : Reach} {b0 : Nat} {v : Value} {d : DataW H} {p : List MemPlace}
  (hv : Value.okWide Tryd.prog W r b0 35 v) (h : DataW.Trod enc Tryd.prog W base sp held 35 v d p) (hw : ∀ k ∈ d.weights Tryd.prog 35, k ≤ reachBytes) :
  ∃ (A : Option Addr) (n c : Nat) (sts : List St), v = .slice A n c ∧ RS W A n sts ∧ n ≤ c ∧ c ≤ 9223372036854775807 ∧ ∀ s ∈ sts, stOk s := by
 obtain ⟨a0, len0, cap0, rfl⟩ := okWide_slice Tryd.underlying35 hv
 obtain ⟨fuel, hf⟩ := h
 have k2 : DataW.trod enc Tryd.prog W base sp held fuel 35 [.slice a0 len0 cap0] = some (d, p) := by simpa [Value.cells] using hf
 obtain ⟨vv, hvv⟩ : ∃ vv, vv = Value.slice a0 len0 cap0 := ⟨_, rfl⟩
 rw [← hvv] at k2 ⊢
 clear hvv hf hv
 rcases open_slice Tryd.underlying35 k2 with ⟨e, -⟩ | ⟨a, len, cap, m, n', D, Pl, e, hb, hl, hm, hme, hd, hel⟩
 ·cases e
  exact ⟨none, 0, 0, [], rfl, RS.nil_ _ _, by omega, by omega, fun s hs => by cases hs⟩
 ·cases e
  have hmx : len ≤ m := by rw [hme]; split <;> omega
  have hwi : ∀ i, i < len → ∀ k ∈ (D i).weights Tryd.prog 23, k ≤ reachBytes := fun i hi k hk => by
   refine hw k ?_
   obtain rfl := congrArg Prod.fst hd
   simp only [DataW.weights, Tryd.underlying35]
   exact List.mem_cons_of_mem _ (List.mem_append_left _ (weightsAll_mem (List.mem_map.2 ⟨i, List.mem_range.2 hi, rfl⟩) k hk))
  obtain ⟨g, o, fi⟩ := a
  cases fi with
  | some f =>
   by_cases h0 : len = 0
   ·subst h0
    exact ⟨_, 0, cap, [], rfl, RS.nil_ _ _, by omega, by unfold maxLen at hm; omega, fun s hs => by cases hs⟩
   ·exfalso
    obtain ⟨cs', hc, hf⟩ := hel 0 (by omega)
    rw [cells_status] at hc
    obtain ⟨-, hl4, hx⟩ := World.cells?_some hc
    obtain ⟨c0, c1, c2, c3, rfl⟩ : ∃ c0 c1 c2 c3, cs' = [c0, c1, c2, c3] := by
     match cs', hl4 with
     | [c0, c1, c2, c3], _ => exact ⟨c0, c1, c2, c3, rfl⟩
    have h1 := World.cell?_spot (hx 0 (by simp))
    simp [Addr.add] at h1
  | none =>
   have key : ∀ i, i < len → ∃ s : St, Se W g (o + i * 4) s ∧ stOk s := fun i hi => by
    obtain ⟨cs', hc, hf⟩ := hel i (by omega)
    rw [cells_status] at hc
    have e : (⟨g, o, none⟩ : Addr).add (i * 4) = ⟨g, o + i * 4, none⟩ := by
     by_cases h0 : i * 4 = 0
     ·rw [h0]; rfl
     ·simp [Addr.add, h0]
    rw [e] at hc
    exact st_of hc hf (hwi i hi)
   refine ⟨_, len, cap, (List.range len).map (fun i => if hi : i < len then (key i hi).choose else st0), rfl, ⟨by simp, fun _ => ⟨g, o, rfl, fun i hi => ?_⟩⟩, hl, by unfold maxLen at hm; omega, fun s hs => ?_⟩
   ·have hi' : i < len := by simpa using hi
    simp only [List.getElem_map, List.getElem_range, dif_pos hi']
    exact (key i hi').choose_spec.1
   ·obtain ⟨i, hi, rfl⟩ := List.mem_map.1 hs
    have hi' : i < len := List.mem_range.1 hi
    rw [dif_pos hi']
    exact (key i hi').choose_spec.2
end Go.Proofs.YtmkpefielfinjaaDoor
