/- Parts of the proof, one after the other. -/
import Derived.Test.YtmkpefielfinjaaDoorF45
import Derived.Test.YtmkpefielfinjaaDoorF36
import Derived.Test.YtmkpefielfinjaaDoorF47
import Derived.Test.YtmkpefielfinjaaDoorF38
import Derived.Deep.RegionHeld3
import Derived.Test.YtmkpefielfinjaaDoorF39
import Derived.LaidMore
import Derived.Lay
import Derived.LaidSub
import Derived.MakeChecks
import Derived.Lib.LaidTab
import Derived.OpenShut
import Derived.WideShapes
import Derived.Lib.SmallJoins
import Derived.Deep.Strs
set_option linter.unusedSimpArgs false
set_option linter.unusedVariables false
/- The reference's View. -/
namespace Go.Proofs.YtmkpefielfinjaaDoor
open Go.RowKit

set_option maxRecDepth 100000 in
set_option maxHeartbeats 2000000 in
theorem rpane_any (t : Trm) (w : World) : Calls Tryd.prog 15 #[.agg t.vals.toArray] w fun e w' => e = .returned (.agg #[.int .i64 (t.s.Rn : Int), .int .i64 (t.s.Cn : Int), .slice t.s.A t.s.n t.s.c, .int .i64 t.s.row, .int .i64 t.s.col, .bool t.s.hid]) ∧ Bw w w' := by
  go_enter Tryd.func15, Tryd.ntmps15
  go_upto_region 1 with (fail)
  generalize hw0 : (w.alloc (.cells t.vals.toArray 55)).alloc _ = w0
  obtain ⟨hb0, hb1, hbw0, hz0⟩ := sb2 hw0
  have HB0 := Lib.hid hb0
  have HB1 := Lib.hid (show ∃ old, Sb w0 (w.heap.size + 1) old 34 ∧ old.size = 6 from ⟨_, hb1, rfl⟩)
  clear hw0 hb0 hb1
  have x0 := HB0.out.cell 0 (v := .int .i64 (t.s.Rn : Int)) rfl
  have x1 := HB0.out.cell 1 (v := .int .i64 (t.s.Cn : Int)) rfl
  have x2 := HB0.out.cell 2 (v := .slice t.s.A t.s.n t.s.c) rfl
  have x3 := HB0.out.cell 3 (v := .int .i64 t.s.row) rfl
  have x4 := HB0.out.cell 4 (v := .int .i64 t.s.col) rfl
  have x5 := HB0.out.cell 5 (v := .bool t.s.wrap) rfl
  have x17 := HB0.out.cell 17 (v := .bool t.s.hid) rfl
  have hlz := HB0.out.lt
  go_wp2_with (first
    | ((with_reducible refine wpList_store_vw (t.s.Rn : Int) (t.s.Cn : Int) t.s.A t.s.n t.s.c t.s.row t.s.col t.s.hid (w.heap.size + 1) (.tmp 2) (.tmp 17) rfl rfl ?_ ?_ ?_ ?_); (focus rfl); (focus rfl); (focus (exact Exists.elim HB1.out (fun old h => ⟨old, h.1.up BWX, h.2⟩))); intro w5 hS5 hg5; have HS5 := Lib.hid hS5; have HG5 := Lib.hid hg5; clear hS5 hg5)
    | fail)
  refine bodyPost_ret (results_vw rfl _ _ (w.heap.size + 1) (t.s.Rn : Int) (t.s.Cn : Int) t.s.A t.s.n t.s.c t.s.row t.s.col t.s.hid (by rfl) HS5.out) rfl ?_
  exact ⟨rfl, Bw.grown (show Bw w _ from BWX) HG5.out (fun k hk => by cases hk; omega)⟩
end Go.Proofs.YtmkpefielfinjaaDoor

/- The law ComposeFits. -/
namespace Go.Proofs.YtmkpefielfinjaaDoor
open Go.RowKit

theorem Se.far {w w' : World} {g o : Nat} {s : St} {row : Option Nat} (h : Se w g o s) (hg : w.grownBy w' row) (hne : some g ≠ row) : Se w' g o s := ⟨cell_far h.1 hg hne, cell_far h.2.1 hg hne, cell_far h.2.2.1 hg hne, cell_far h.2.2.2 hg hne⟩
theorem RS.far {w w' : World} {A : Option Addr} {n : Nat} {sts : List St} {row : Option Nat} (h : RS w A n sts) (hg : w.grownBy w' row) (hne : ∀ ad, A = some ad → some ad.block ≠ row) : RS w' A n sts := by
  refine ⟨h.1, fun h0 => ?_⟩
  obtain ⟨g, o, e, hx⟩ := h.2 h0
  exact ⟨g, o, e, fun i hi => (hx i hi).far hg (by have := hne ⟨g, o, none⟩ e; exact this)⟩
theorem Wb.at {w : World} {g i : Nat} {cs : List C4} {x : C4} (h : Wb w g cs) (hi : i < cs.length) (hx : cs.getD i blk = x) : Ce w g (i * 4) x := by
  have := h.cells i hi
  rw [List.getD_eq_getElem?_getD, List.getElem?_eq_getElem hi] at hx
  simp only [Option.getD_some] at hx
  rw [← hx]
  exact this

set_option maxRecDepth 100000 in
set_option maxHeartbeats 2000000 in
theorem fits30_any (A : Option Addr) (n c : Nat) (xs : List Int) (rows cols shown : Int) (w : World) (hr : RdI w A n xs) (hA : 0 < n → ∀ ad, A = some ad → ad.block < w.heap.size) (hn : n ≤ 9223372036854775807) (hsb : -9223372036854775808 ≤ shown ∧ shown ≤ 9223372036854775807) (hT : WordT w) (hP : PowT w.heap.size w) :
    Calls Tryd.prog 5 #[.slice A n c, .int .i64 rows, .int .i64 cols, .int .i64 shown] w fun e w' => e = .returned (.bool true) ∧ Bw w w' := by
  have HR := Lib.hid hr
  have HAA := Lib.hid hA
  have HT := Lib.hid hT
  have HP := Lib.hid hP
  have HSB := Lib.hid hsb
  clear hr hA hT hP hsb
  go_enter Tryd.func5, Tryd.ntmps5
  go_upto_region 6 with (first
    | (go_at_call 7; refine (sane30_any w HT.out HP.out).mono ?_; rintro ee w1 ⟨rfl, hb1⟩; have HB1 := Lib.hid hb1; have hz1 := hb1.size; clear hb1)
    | (go_at_call 13; refine (mnew_any A n c _).mono ?_; rintro ee wn ⟨rfl, rfl⟩)
    | (go_at_call 14; refine (made30_dk w1.heap.size A n c xs _ (Dk2.made (HR.out.up HAA.out HB1.out) (fun h0 ad e => by have := HAA.out h0 ad e; omega) hn)).mono ?_; rintro ee w3 ⟨As, ns, cs, sts, rfl, hs3, hnc3, hcm3, hns3, hsm3, hnew3, hD3, hg3⟩; have HS3 := Lib.hid hs3; have HSM := Lib.hid hsm3; have HD3 := Lib.hid hD3; have HNW := Lib.hid hnew3; have hb3 : Bw w w3 := Bw.grown (Bw.alloc HB1.out _) hg3 (fun k hk => by cases hk; exact hz1); have HB3 := Lib.hid hb3; have hz3 := hb3.size; clear hs3 hsm3 hnew3 hD3 hg3 hb3)
    | (go_at_call 16; refine (mterm_dk w1.heap.size A n c xs _ HD3.out).mono ?_; rintro ee w4 ⟨t, rfl, ht, ⟨t1, t2, t3, t4⟩, htn, hD4, hg4⟩; have HOKT := Lib.hid ht; have hb4 : Bw w w4 := Bw.grown HB3.out hg4 (fun k hk => by cases hk; exact hz1); have HG4 := Lib.hid hg4; have HB4 := Lib.hid hb4; have hz4 := hb4.size; clear ht htn hD4 hg4 hb4)
    | (go_at_call 15; refine (rpane_any t _).mono ?_; rintro ee w5 ⟨rfl, hb5⟩; have HB45 := Lib.hid hb5; have HB5 := Lib.hid (Bw.trans HB4.out hb5); have hz5 := hb5.size; clear hb5)
    | fail)
  generalize hw6 : w5.alloc _ = w6
  obtain ⟨hb6, hbw6, hz6⟩ := sb1 hw6
  obtain ⟨⟨-, k2, -, k4, kn, knc, kcm, ps, hrp, hgp⟩, ⟨r0, r1, c0, c1⟩, -⟩ := HOKT.out.1
  have hpall : ps.all cellB = true := by
    unfold gridB at hgp
    rw [Bool.and_eq_true] at hgp
    exact hgp.2
  have hpl : ps.length = t.s.Rn * t.s.Cn := by rw [← kn]; exact hrp.1
  have hvb : viewB (t.s.Rn : Int) (t.s.Cn : Int) ps t.s.row t.s.col = true := by
    unfold viewB
    rw [hgp, Bool.true_and]
    exact decide_eq_true ⟨r0, r1, c0, c1⟩
  have HPA := Lib.hid hpall
  have HPL := Lib.hid hpl
  have HVB := Lib.hid hvb
  have HPN := Lib.hid kn
  have HRP := Lib.hid ((hrp.up HB45.out).up hbw6)
  have HBP := Lib.hid (show Sb w6 w5.heap.size (vwV (t.s.Rn : Int) (t.s.Cn : Int) t.s.A t.s.n t.s.c t.s.row t.s.col t.s.hid) 34 from hb6)
  have HB6 := Lib.hid (Bw.trans HB5.out hbw6)
  have HS6 := Lib.hid (((HS3.out.far HG4.out (fun ad e e2 => by have := HNW.out ad e; rw [heapsz] at this; have e3 := Option.some.inj e2; omega)).up HB45.out).up hbw6)
  have hpn : t.s.n ≤ 45 := by rw [kn]; exact Nat.le_trans (Nat.mul_le_mul t2 t4) (by omega)
  clear hw6 hb6 hbw6 hpall hpl hvb kn hrp hgp HD3 HNW HG4 HOKT HB45
  obtain ⟨Rn, hRn⟩ : ∃ Rn : Nat, 1 + rows % 14 = (Rn : Int) := ⟨(1 + rows % 14).toNat, by have := Int.emod_nonneg rows (show (14 : Int) ≠ 0 by omega); omega⟩
  have hR1 : 1 ≤ Rn ∧ Rn ≤ 14 := by have := Int.emod_nonneg rows (show (14 : Int) ≠ 0 by omega); have := Int.emod_lt_of_pos rows (show (0 : Int) < 14 by omega); omega
  obtain ⟨Cn, hCn⟩ : ∃ Cn : Nat, 1 + cols % 30 = (Cn : Int) := ⟨(1 + cols % 30).toNat, by have := Int.emod_nonneg cols (show (30 : Int) ≠ 0 by omega); omega⟩
  have hC1 : 1 ≤ Cn ∧ Cn ≤ 30 := by have := Int.emod_nonneg cols (show (30 : Int) ≠ 0 by omega); have := Int.emod_lt_of_pos cols (show (0 : Int) < 30 by omega); omega
  obtain ⟨hR1, hR2⟩ := hR1
  obtain ⟨hC1, hC2⟩ := hC1
  obtain ⟨q1, hq1⟩ : ∃ q, rows % 14 = q := ⟨_, rfl⟩
  obtain ⟨q2, hq2⟩ : ∃ q, cols % 30 = q := ⟨_, rfl⟩
  rw [hq1] at hRn
  rw [hq2] at hCn
  have hq1b : 0 ≤ q1 ∧ q1 < 14 := by omega
  have hq2b : 0 ≤ q2 ∧ q2 < 30 := by omega
  have HQ1 := Lib.hid hq1
  have HQ2 := Lib.hid hq2
  have HRN := Lib.hid hRn
  have HCN := Lib.hid hCn
  clear hq1 hq2 hRn hCn
  go_cut [1, 2] (fun s1 s2 w' => s1 = .int .i64 (Rn : Int) ∧ s2 = .int .i64 (Cn : Int) ∧ w6 = w')
  case first =>
    go_wp2_with (first
      | (go_at_call 8; refine (mmod_any _ _ _ (by omega) (by omega)).mono ?_; rintro ee ww ⟨rfl, rfl⟩; rw [HQ1.out])
      | (go_at_call 8; refine (mmod_any _ _ _ (by omega) (by omega)).mono ?_; rintro ee ww ⟨rfl, rfl⟩; rw [HQ2.out])
      | fail)
    go_meet
    case rel => exact ⟨congrArg (Value.int .i64) HRN.out, congrArg (Value.int .i64) HCN.out, rfl⟩
  case rest =>
  obtain ⟨rfl, rfl, rfl⟩ := hcut
  have hsl := HS6.out.1
  obtain ⟨kk, hkk⟩ : ∃ kk, kk = kkN sts.length Rn := ⟨_, rfl⟩
  obtain ⟨sh, hsh⟩ : ∃ sh, sh = shN sts.length shown := ⟨_, rfl⟩
  obtain ⟨ff, hff⟩ : ∃ ff, ff = firstN kk sh := ⟨_, rfl⟩
  have hkb : kk < Rn ∧ kk ≤ ns := by have := kk_lt sts.length (Rn := Rn) (by omega); rw [hsl] at this; rw [hkk, hsl]; exact this
  obtain ⟨hkb1, hkb2⟩ := hkb
  have hkd : (kk : Int) = if (ns : Int) < (Rn : Int) / 2 then (ns : Int) else (Rn : Int) / 2 := by rw [hkk]; unfold kkN; rw [hsl]; split <;> omega
  have hshb : 0 < ns → sh < ns := fun h => by have := sh_lt (n := sts.length) shown (by omega); rw [← hsh] at this; omega
  have hmk : kk = 0 ∨ mkN ff sh kk = 1 := by
    rcases Nat.eq_zero_or_pos kk with h | h
    · exact .inl h
    · right
      have := hshb (by omega)
      unfold mkN
      rw [hff]
      unfold firstN
      split
      · rw [if_pos (by omega)]
      · rw [if_pos (by omega)]
  have hclR : clamp (Rn : Int) 30 = (Rn : Int) := by rcases clamp_cases (Rn : Int) 30 (by omega) with ⟨h, _⟩ | ⟨_, h⟩ | ⟨⟨_, h⟩, _⟩ <;> omega
  have hclC : clamp (Cn : Int) 100 = (Cn : Int) := by rcases clamp_cases (Cn : Int) 100 (by omega) with ⟨h, _⟩ | ⟨_, h⟩ | ⟨⟨_, h⟩, _⟩ <;> omega
  obtain ⟨vr, hvr⟩ : ∃ vr : Int, vr = if curB Rn Cn kk (viewB (t.s.Rn : Int) (t.s.Cn : Int) ps t.s.row t.s.col) t.s.row t.s.col t.s.hid = true then (kk : Int) + 1 + t.s.row else 0 := ⟨_, rfl⟩
  obtain ⟨vc, hvc⟩ : ∃ vc : Int, vc = if curB Rn Cn kk (viewB (t.s.Rn : Int) (t.s.Cn : Int) ps t.s.row t.s.col) t.s.row t.s.col t.s.hid = true then t.s.col else 0 := ⟨_, rfl⟩
  obtain ⟨vh, hvh⟩ : ∃ vh : Bool, vh = !curB Rn Cn kk (viewB (t.s.Rn : Int) (t.s.Cn : Int) ps t.s.row t.s.col) t.s.row t.s.col t.s.hid := ⟨_, rfl⟩
  have hvd : (vr = (kk : Int) + 1 + t.s.row ∧ vc = t.s.col ∧ vh = false ∧ t.s.row < (Rn : Int) - (kk : Int) - 1 ∧ t.s.col < (Cn : Int)) ∨ (vr = 0 ∧ vc = 0 ∧ vh = true) := by
    cases hcb : curB Rn Cn kk (viewB (t.s.Rn : Int) (t.s.Cn : Int) ps t.s.row t.s.col) t.s.row t.s.col t.s.hid
    · rw [hcb] at hvr hvc hvh
      exact .inr ⟨by simpa using hvr, by simpa using hvc, by simpa using hvh⟩
    · rw [hcb] at hvr hvc hvh
      unfold curB at hcb
      simp only [Bool.and_eq_true, decide_eq_true_eq] at hcb
      exact .inl ⟨by simpa using hvr, by simpa using hvc, by simpa using hvh, hcb.2.1, hcb.2.2⟩
  have hvd2 : 0 ≤ vr ∧ vr < Rn ∧ 0 ≤ vc ∧ vc < Cn := by rcases hvd with ⟨h, h', _, h2, h3⟩ | ⟨h, h', _⟩ <;> omega
  have HKK := Lib.hid hkk
  have HSH := Lib.hid hsh
  have HFF := Lib.hid hff
  have HKD := Lib.hid hkd
  have HMK := Lib.hid hmk
  have HCR := Lib.hid hclR
  have HCC := Lib.hid hclC
  have HVR := Lib.hid hvr
  have HVC := Lib.hid hvc
  have HVH := Lib.hid hvh
  have HVD := Lib.hid hvd
  have HVD2 := Lib.hid hvd2
  clear hkk hsh hff hkd hmk hclR hclC hvr hvc hvh hvd hvd2 hshb
  have y0 := HBP.out.cell 0 (v := .int .i64 (t.s.Rn : Int)) rfl
  have y1 := HBP.out.cell 1 (v := .int .i64 (t.s.Cn : Int)) rfl
  have y2 := HBP.out.cell 2 (v := .slice t.s.A t.s.n t.s.c) rfl
  have y3 := HBP.out.cell 3 (v := .int .i64 t.s.row) rfl
  have y4 := HBP.out.cell 4 (v := .int .i64 t.s.col) rfl
  have y5 := HBP.out.cell 5 (v := .bool t.s.hid) rfl
  go_upto_region 8 with (first
    | (go_at_call 18; refine (compose_any (Rn : Int) (Cn : Int) As ns cs sts shown (t.s.Rn : Int) (t.s.Cn : Int) t.s.A t.s.n t.s.c ps t.s.row t.s.col t.s.hid _ HS6.out hnc3 hcm3 (fun s hs => (HSM.out s hs).ok) HRP.out knc kcm HSB.out (HT.out.up HB6.out) (PowT.up30 HP.out HB6.out)).mono ?_; rintro ee w7 ⟨g, Rm, Cm, hRm, hCm, hgz, hb7, hW, rfl⟩; rw [HCR.out, Int.toNat_natCast] at hRm; rw [HCC.out, Int.toNat_natCast] at hCm; subst hRm; subst hCm; rw [← HKK.out, ← HVR.out, ← HVC.out, ← HVH.out]; have HW := Lib.hid hW; have HB7 := Lib.hid hb7; have hz7 := hb7.size; have hgl := hW.lt; clear hW hb7 y0 y1 y2 y3 y4 y5)
    | fail)
  generalize hw8 : w7.alloc _ = w8
  obtain ⟨hb8, hbw8, hz8⟩ := sb1 hw8
  have hce : composeC Rm Cm sts shown (viewB (t.s.Rn : Int) (t.s.Cn : Int) ps t.s.row t.s.col) (t.s.Rn : Int) (t.s.Cn : Int) ps = compV Rm Cm sts shown t.s.Rn t.s.Cn ps := by
    unfold composeC
    rw [HVB.out, if_pos rfl, Int.toNat_natCast, Int.toNat_natCast]
    rfl
  rw [hce] at HW
  obtain ⟨X, hX⟩ : ∃ X, X = compV Rm Cm sts shown t.s.Rn t.s.Cn ps := ⟨_, rfl⟩
  rw [← hX] at HW
  have hXl : X.length = Rm * Cm := by rw [hX]; exact compV_len Rm Cm sts shown t.s.Rn t.s.Cn ps hR1 HPL.out
  have hXg : gridB (Rm : Int) (Cm : Int) X = true := by rw [hX]; exact compV_grid Rm Cm sts shown t.s.Rn t.s.Cn ps (by omega) (by omega) (by omega) (by omega) HPL.out HPA.out
  have hXm : ∀ r, r < kk → (X.getD (r * Cm) blk).1 = if ff + r = sh then 62 else 32 := fun r hr => by
    have h9 := compV_mark Rm Cm sts shown t.s.Rn t.s.Cn ps hR1 hC1 HPL.out r (by rw [← HKK.out]; exact hr)
    rw [← hX, ← HKK.out, ← HSH.out, ← HFF.out] at h9
    exact h9
  have hXr : ∀ c, c < Cm → X.getD (kk * Cm + c) blk = (45, 0, 0, 0) := fun c hc => by
    have h9 := compV_rule Rm Cm sts shown t.s.Rn t.s.Cn ps hR1 hC1 HPL.out c hc
    rw [← hX, ← HKK.out] at h9
    exact h9
  have hXp : ∀ r c, r < t.s.Rn → kk + 1 + r < Rm → c < Cm → c < t.s.Cn → X.getD ((kk + 1 + r) * Cm + c) blk = ps.getD (r * t.s.Cn + c) blk := fun r c a1 a2 a3 a4 => by
    have h9 := compV_pane Rm Cm sts shown t.s.Rn t.s.Cn ps hR1 hC1 HPL.out r c a1 (by rw [← HKK.out]; exact a2) a3 a4
    rw [← hX, ← HKK.out] at h9
    exact h9
  have HXL := Lib.hid hXl
  have HXG := Lib.hid hXg
  have HXM := Lib.hid hXm
  have HXR := Lib.hid hXr
  have HXP := Lib.hid hXp
  obtain ⟨N, hN⟩ : ∃ N, N = Rm * Cm := ⟨_, rfl⟩
  have HN := Lib.hid hN
  have hN1 : N ≤ 420 := by rw [hN]; exact Nat.le_trans (Nat.mul_le_mul hR2 hC2) (by omega)
  rw [← hN] at hb8
  simp only [← hN]
  have HBV := Lib.hid (show Sb w8 w7.heap.size (vwV (Rm : Int) (Cm : Int) (some ⟨g, 0, none⟩) N N vr vc vh) 34 from hb8)
  have HB68 := Lib.hid (Bw.trans HB7.out hbw8)
  have HB8 := Lib.hid (Bw.trans HB6.out HB68.out)
  have HW8 := Lib.hid (HW.out.up hbw8)
  have HRP8 := Lib.hid (HRP.out.up HB68.out)
  have HBP8 := Lib.hid (HBP.out.up HB68.out)
  clear hw8 hb8 hbw8 hce hX hXl hXg hXm hXr hXp hN HW HRP HBP HB7
  have x0 := HBV.out.cell 0 (v := .int .i64 (Rm : Int)) rfl
  have x1 := HBV.out.cell 1 (v := .int .i64 (Cm : Int)) rfl
  have x2 := HBV.out.cell 2 (v := .slice (some ⟨g, 0, none⟩) N N) rfl
  have x3 := HBV.out.cell 3 (v := .int .i64 vr) rfl
  have x4 := HBV.out.cell 4 (v := .int .i64 vc) rfl
  have x5 := HBV.out.cell 5 (v := .bool vh) rfl
  have hvX : viewB (Rm : Int) (Cm : Int) X vr vc = true := by
    unfold viewB
    rw [HXG.out, Bool.true_and]
    exact decide_eq_true HVD2.out
  have HVX := Lib.hid hvX
  have hrgX : Rg w8 (some ⟨g, 0, none⟩) N X := by have := HW8.out.rg; rw [HXL.out, ← HN.out] at this; exact this
  have HRX := Lib.hid hrgX
  clear hvX hrgX
  go_upto_region 10 with (first
    | (go_at_call 20; refine (rview_any (Rm : Int) (Cm : Int) (some ⟨g, 0, none⟩) N N X vr vc vh _ HRX.out (Nat.le_refl _) (by omega)).mono ?_; rintro ee w9 ⟨rfl, hb9⟩; rw [HVX.out]; clear x0 x1 x2 x3 x4 x5; have x0 := (HBV.out.up hb9).cell 0 (v := .int .i64 (Rm : Int)) rfl; have x1 := (HBV.out.up hb9).cell 1 (v := .int .i64 (Cm : Int)) rfl)
    | fail)
  have HBV9 := Lib.hid (HBV.out.up hb9)
  have HW9 := Lib.hid (HW8.out.up hb9)
  have HRP9 := Lib.hid (HRP8.out.up hb9)
  have HBP9 := Lib.hid (HBP8.out.up hb9)
  have HB9 := Lib.hid (Bw.trans HB8.out hb9)
  clear x0 x1 HBV HW8 HRP8 HBP8 HB8 HRX hb9
  go_cut [13] (fun s w' => s = .int .i64 (kk : Int) ∧ w9 = w')
  case first =>
    go_wp2_with fail
    all_goals
      go_meet
      case rel => exact ⟨congrArg (Value.int .i64) (by have h9 := HKD.out; (repeat' split at h9) <;> omega), rfl⟩
  case rest =>
  obtain ⟨rfl, rfl⟩ := hcut
  have x2 := HBV9.out.cell 2 (v := .slice (some ⟨g, 0, none⟩) N N) rfl
  go_wp2_with fail
  go_loopw [14, 15] (fun s14 i wr => ∃ j : Nat, s14 = .int .i64 (mkN ff sh j : Int) ∧ i = .int .i64 (j : Int) ∧ j ≤ kk ∧ w9 = wr) (fun _ i _ => kk - (intOf i).toNat)
  case atStart => exact ⟨0, by unfold mkN; rw [if_neg (by omega)]; rfl, rfl, by omega, rfl⟩
  case round =>
    obtain ⟨j, rfl, rfl, hj, rfl⟩ := hrel
    have hmb : mkN ff sh j ≤ 1 := by unfold mkN; split <;> omega
    by_cases hlt : j < kk
    · obtain ⟨p, hp⟩ : ∃ p : Nat, j * Cm = p := ⟨_, rfl⟩
      have hpi : (j : Int) * (Cm : Int) = (p : Int) := by rw [← hp]; exact (Int.natCast_mul _ _).symm
      have hpN : p < N := by
        have := Nat.mul_le_mul_right Cm (show j + 1 ≤ Rm by omega)
        rw [Nat.add_mul, Nat.one_mul] at this
        rw [HN.out]
        omega
      have hm := HXM.out j hlt
      rw [hp] at hm
      have hc1 := (HW9.out.at (x := X.getD p blk) (by rw [HXL.out, ← HN.out]; exact hpN) rfl).1
      rw [hm] at hc1
      clear hp hm
      by_cases hh : ff + j = sh
      · rw [if_pos hh] at hc1
        have HM1 := Lib.hid (mkN_hit hh)
        clear hh
        go_wp2_with fail
        go_roundw
        case rel => exact ⟨j + 1, by rw [HM1.out]; go_num, by go_num, by omega, trivial⟩
        case measure => simp [intOf]; omega
      · rw [if_neg hh] at hc1
        have HM1 := Lib.hid (mkN_miss hh)
        clear hh
        go_wp2_with fail
        go_roundw
        case rel => exact ⟨j + 1, by rw [HM1.out], by go_num, by omega, trivial⟩
        case measure => simp [intOf]; omega
    · obtain rfl : j = kk := by omega
      go_upto_region 17 with (fail)
      clear x2
      go_cut [83] (fun s w' => s = .bool false ∧ w9 = w')
      case first =>
        rcases HMK.out with h0 | h1
        · subst h0
          go_wp2_with fail
          go_meet
          case rel => exact ⟨by first | rfl | (simp; done) | (simp; omega), rfl⟩
        · have hm1 : (mkN ff sh j : Int) = 1 := by omega
          by_cases h0 : 0 < j
          · go_wp2_with fail
            go_meet
            case rel => exact ⟨by first | rfl | (simp; done) | (simp; omega), rfl⟩
          · go_wp2_with fail
            go_meet
            case rel => exact ⟨by first | rfl | (simp; done) | (simp; omega), rfl⟩
      case rest =>
      obtain ⟨rfl, rfl⟩ := hcut
      go_wp2_with fail
      go_loopw [16] (fun i wr => ∃ k : Nat, i = .int .i64 (k : Int) ∧ k ≤ Cm ∧ Bw w9 wr) (fun i _ => Cm - (intOf i).toNat)
      case atStart => exact ⟨0, rfl, by omega, Bw.refl _⟩
      case round =>
        obtain ⟨k, rfl, hk, hbr⟩ := hrel
        obtain ⟨wc, hwc⟩ : ∃ wc, wc = wr := ⟨_, rfl⟩
        subst hwc
        have HBC := Lib.hid hbr
        have hzc := hbr.size
        clear hbr
        have x2 := (HBV9.out.up HBC.out).cell 2 (v := .slice (some ⟨g, 0, none⟩) N N) rfl
        by_cases hlt : k < Cm
        · obtain ⟨p, hp⟩ : ∃ p : Nat, j * Cm = p := ⟨_, rfl⟩
          have hpi : (j : Int) * (Cm : Int) = (p : Int) := by rw [← hp]; exact (Int.natCast_mul _ _).symm
          have hpN : p + Cm ≤ N := by
            have := Nat.mul_le_mul_right Cm (show j + 1 ≤ Rm by omega)
            rw [Nat.add_mul, Nat.one_mul] at this
            rw [HN.out]
            omega
          have hpk : p + k < N := by omega
          have hm := HXR.out k hlt
          rw [hp] at hm
          obtain ⟨a1, a2, a3, a4⟩ := (HW9.out.up HBC.out).at (x := (45, 0, 0, 0)) (by rw [HXL.out, ← HN.out]; exact hpk) hm
          clear hp hm
          go_upto_region 24 with (fail)
          clear a1 a2 a3 a4 x2
          go_wp2_with fail
          go_loopw [17] (fun i wr => ∃ r : Nat, i = .int .i64 (r : Int) ∧ r ≤ t.s.Rn ∧ Bw wc wr) (fun i _ => t.s.Rn - (intOf i).toNat)
          case atStart => exact ⟨0, rfl, by omega, Bw.refl _⟩
          case round =>
            obtain ⟨r, rfl, hrR, hbi⟩ := hrel
            have HBX := Lib.hid hbi
            have HBI := Lib.hid (Bw.trans HBC.out hbi)
            have hzi := hbi.size
            clear hbi
            have hst : k < Cm := hlt
            have z0 := (HBP9.out.up HBI.out).cell 0 (v := .int .i64 (t.s.Rn : Int)) rfl
            have z1 := (HBP9.out.up HBI.out).cell 1 (v := .int .i64 (t.s.Cn : Int)) rfl
            rcases (show (¬ (r : Int) < (t.s.Rn : Int)) ∨ ((r : Int) < (t.s.Rn : Int) ∧ ¬ (j : Int) + 1 + (r : Int) < (Rm : Int)) ∨ ((r : Int) < (t.s.Rn : Int) ∧ (j : Int) + 1 + (r : Int) < (Rm : Int) ∧ ¬ (k : Int) < (t.s.Cn : Int)) ∨ ((r : Int) < (t.s.Rn : Int) ∧ (j : Int) + 1 + (r : Int) < (Rm : Int) ∧ (k : Int) < (t.s.Cn : Int)) by omega) with h1 | ⟨h1, h2⟩ | ⟨h1, h2, h3⟩ | ⟨h1, h2, h3⟩
            iterate 3
              · go_wp2_with fail
                go_roundw
                case rel => exact ⟨k + 1, by go_num, by omega, HBI.out⟩
                case measure => simp [intOf]; omega
            obtain ⟨d, hd⟩ : ∃ d : Nat, (j + 1 + r) * Cm = d := ⟨_, rfl⟩
            obtain ⟨s, hs⟩ : ∃ s : Nat, r * t.s.Cn = s := ⟨_, rfl⟩
            have hdi : ((j : Int) + 1 + (r : Int)) * (Cm : Int) = (d : Int) := by rw [← hd, show (j : Int) + 1 + (r : Int) = ((j + 1 + r : Nat) : Int) by omega]; exact (Int.natCast_mul _ _).symm
            have hsi : (r : Int) * (t.s.Cn : Int) = (s : Int) := by rw [← hs]; exact (Int.natCast_mul _ _).symm
            have hdN : d + Cm ≤ N := by
              have := Nat.mul_le_mul_right Cm (show j + 1 + r + 1 ≤ Rm by omega)
              rw [Nat.add_mul, Nat.one_mul] at this
              rw [HN.out]
              omega
            have hsN : s + t.s.Cn ≤ t.s.n := by
              have := Nat.mul_le_mul_right t.s.Cn (show r + 1 ≤ t.s.Rn by omega)
              rw [Nat.add_mul, Nat.one_mul] at this
              rw [HPN.out]
              omega
            have hdk : d + k < N := by omega
            have hsk : s + k < t.s.n := by omega
            obtain ⟨gp, op, eA, hxp⟩ := HRP9.out.2 (by omega)
            have hskl : s + k < ps.length := by rw [HRP9.out.1]; exact hsk
            obtain ⟨y, hy⟩ : ∃ y, y = ps[s + k] := ⟨_, rfl⟩
            obtain ⟨y1, y2, y3, y4⟩ := y
            have hpk := hxp (s + k) hskl
            rw [← hy] at hpk
            have hgd : X.getD (d + k) blk = (y1, y2, y3, y4) := by
              have h9 := HXP.out r k (by omega) (by omega) hst (by omega)
              rw [hd, hs] at h9
              rw [h9, List.getD_eq_getElem?_getD, List.getElem?_eq_getElem hskl, hy]
              rfl
            have HY : Hid (∀ w', Bw wr w' → (w'.cell? ⟨w7.heap.size, 2, none⟩ = some (.slice (some ⟨g, 0, none⟩) N N) ∧ w'.cell? ⟨w5.heap.size, 1, none⟩ = some (.int .i64 (t.s.Cn : Int)) ∧ w'.cell? ⟨w5.heap.size, 2, none⟩ = some (.slice (some ⟨gp, op, none⟩) t.s.n t.s.c)) ∧ (w'.cell? ⟨g, (d + k) * 4, none⟩ = some (.int .i64 y1) ∧ w'.cell? ⟨g, (d + k) * 4 + 1, none⟩ = some (.int .i64 y2) ∧ w'.cell? ⟨g, (d + k) * 4 + 2, none⟩ = some (.int .i64 y3) ∧ w'.cell? ⟨g, (d + k) * 4 + 3, none⟩ = some (.int .i64 y4)) ∧ w'.cell? ⟨gp, op + (s + k) * 4, none⟩ = some (.int .i64 y1) ∧ w'.cell? ⟨gp, op + (s + k) * 4 + 1, none⟩ = some (.int .i64 y2) ∧ w'.cell? ⟨gp, op + (s + k) * 4 + 2, none⟩ = some (.int .i64 y3) ∧ w'.cell? ⟨gp, op + (s + k) * 4 + 3, none⟩ = some (.int .i64 y4)) := Lib.hid (fun w' hb' => by
              have hb := Bw.trans HBI.out hb'
              refine ⟨⟨(HBV9.out.up hb).cell 2 rfl, (HBP9.out.up hb).cell 1 rfl, ?_⟩, (HW9.out.up hb).at (by rw [HXL.out, ← HN.out]; exact hdk) hgd, hpk.up hb⟩
              have := (HBP9.out.up hb).cell 2 (v := .slice t.s.A t.s.n t.s.c) rfl
              rw [eA] at this
              exact this)
            have hw1 : IntKind.i64.wrap (IntKind.i64.wrap ((j : Int) + 1) + (r : Int)) = (j : Int) + 1 + (r : Int) := by rw [IntWalk.i64_in ((j : Int) + 1) (by omega), IntWalk.i64_in _ (by omega)]
            have hw2 : IntKind.i64.wrap (d : Int) = (d : Int) := IntWalk.i64_in _ (by omega)
            have hw3 : IntKind.i64.wrap ((d : Int) + (k : Int)) = ((d + k : Nat) : Int) := by rw [IntWalk.i64_in _ (by omega)]; omega
            have hw4 : IntKind.i64.wrap (s : Int) = (s : Int) := IntWalk.i64_in _ (by omega)
            have hw5 : IntKind.i64.wrap ((s : Int) + (k : Int)) = ((s + k : Nat) : Int) := by rw [IntWalk.i64_in _ (by omega)]; omega
            have hn1 : (0 : Int) ≤ (d : Int) + (k : Int) := by omega
            have hn2 : (d : Int) + (k : Int) < (N : Int) := by omega
            have hn3 : ((d : Int) + (k : Int)).toNat = d + k := by omega
            have hn4 : (0 : Int) ≤ (s : Int) + (k : Int) := by omega
            have hn5 : (s : Int) + (k : Int) < (t.s.n : Int) := by omega
            have hn6 : ((s : Int) + (k : Int)).toNat = s + k := by omega
            clear hd hs eA hxp hy hpk hgd
            go_upto_region 27 with (fail)
            clear z0 z1
            refine wp_region_held_drew (S := (fun w' => (w'.cell? ⟨w7.heap.size, 2, none⟩ = some (.slice (some ⟨g, 0, none⟩) N N) ∧ w'.cell? ⟨w5.heap.size, 1, none⟩ = some (.int .i64 (t.s.Cn : Int)) ∧ w'.cell? ⟨w5.heap.size, 2, none⟩ = some (.slice (some ⟨gp, op, none⟩) t.s.n t.s.c)) ∧ (w'.cell? ⟨g, (d + k) * 4, none⟩ = some (.int .i64 y1) ∧ w'.cell? ⟨g, (d + k) * 4 + 1, none⟩ = some (.int .i64 y2) ∧ w'.cell? ⟨g, (d + k) * 4 + 2, none⟩ = some (.int .i64 y3) ∧ w'.cell? ⟨g, (d + k) * 4 + 3, none⟩ = some (.int .i64 y4)) ∧ w'.cell? ⟨gp, op + (s + k) * 4, none⟩ = some (.int .i64 y1) ∧ w'.cell? ⟨gp, op + (s + k) * 4 + 1, none⟩ = some (.int .i64 y2) ∧ w'.cell? ⟨gp, op + (s + k) * 4 + 2, none⟩ = some (.int .i64 y3) ∧ w'.cell? ⟨gp, op + (s + k) * 4 + 3, none⟩ = some (.int .i64 y4))) (by kernel_rfl) ?_ (fun hHeld => ?_)
            · (try dsimp only); (first | (exact HY.out _ BWX) | fail)
            refine tkH 0 ?_ rfl (Or.inl ⟨by rfl, ?ht0⟩) ?_
            case ht0 => (intro w hSw; (try dsimp only at hSw); go_simp; try with_reducible rfl)
            (try simp only [Act.put, zP1, zP2, zP3, zP4, zP5, zP6])
            refine tkH 1 ?_ rfl (Or.inl ⟨by rfl, ?ht1⟩) ?_
            case ht1 => (intro w hSw; (try dsimp only at hSw); go_simp; try with_reducible rfl)
            (try simp only [Act.put, zP1, zP2, zP3, zP4, zP5, zP6])
            refine tkH 2 ?_ rfl (Or.inl ⟨by rfl, ?ht2⟩) ?_
            case ht2 => (intro w hSw; (try dsimp only at hSw); go_simp; try with_reducible rfl)
            (try simp only [Act.put, zP1, zP2, zP3, zP4, zP5, zP6])
            refine tkH 3 ?_ rfl (Or.inl ⟨by rfl, ?ht3⟩) ?_
            case ht3 => (intro w hSw; (try dsimp only at hSw); go_simp; try with_reducible rfl)
            (try simp only [Act.put, zP1, zP2, zP3, zP4, zP5, zP6])
            refine tkH 4 ?_ rfl (Or.inl ⟨by rfl, ?ht4⟩) ?_
            case ht4 => (intro w hSw; (try dsimp only at hSw); go_simp; try with_reducible rfl)
            (try simp only [Act.put, zP1, zP2, zP3, zP4, zP5, zP6])
            refine tkH 5 ?_ rfl (Or.inl ⟨by rfl, ?ht5⟩) ?_
            case ht5 => (intro w hSw; (try dsimp only at hSw); go_simp; try with_reducible rfl)
            (try simp only [Act.put, zP1, zP2, zP3, zP4, zP5, zP6])
            refine tkH 6 ?_ rfl (Or.inl ⟨by rfl, ?ht6⟩) ?_
            case ht6 => (intro w hSw; (try dsimp only at hSw); go_simp; try with_reducible rfl)
            (try simp only [Act.put, zP1, zP2, zP3, zP4, zP5, zP6])
            refine tkH 7 ?_ rfl (Or.inl ⟨by rfl, ?ht7⟩) ?_
            case ht7 => (intro w hSw; (try dsimp only at hSw); go_simp; try with_reducible rfl)
            (try simp only [Act.put, zP1, zP2, zP3, zP4, zP5, zP6])
            refine tkH 8 ?_ rfl (Or.inl ⟨by rfl, ?ht8⟩) ?_
            case ht8 => (intro w hSw; (try dsimp only at hSw); go_simp; try with_reducible rfl)
            (try simp only [Act.put, zP1, zP2, zP3, zP4, zP5, zP6])
            refine tkH 9 ?_ rfl (Or.inl ⟨by rfl, ?ht9⟩) ?_
            case ht9 => (intro w hSw; (try dsimp only at hSw); go_simp; try with_reducible rfl)
            (try simp only [Act.put, zP1, zP2, zP3, zP4, zP5, zP6])
            refine tkH 10 ?_ rfl (Or.inl ⟨by rfl, ?ht10⟩) ?_
            case ht10 => (intro w hSw; (try dsimp only at hSw); go_simp; try with_reducible rfl)
            (try simp only [Act.put, zP1, zP2, zP3, zP4, zP5, zP6])
            refine tkH 11 ?_ rfl (Or.inl ⟨by rfl, ?ht11⟩) ?_
            case ht11 => (intro w hSw; (try dsimp only at hSw); go_simp; try with_reducible rfl)
            (try simp only [Act.put, zP1, zP2, zP3, zP4, zP5, zP6])
            refine tkH 12 ?_ rfl (Or.inl ⟨by rfl, ?ht12⟩) ?_
            case ht12 => (intro w hSw; (try dsimp only at hSw); go_simp; try with_reducible rfl)
            (try simp only [Act.put, zP1, zP2, zP3, zP4, zP5, zP6])
            refine tkH 13 ?_ rfl (Or.inl ⟨by rfl, ?ht13⟩) ?_
            case ht13 => (intro w hSw; (try dsimp only at hSw); go_simp; try with_reducible rfl)
            (try simp only [Act.put, zP1, zP2, zP3, zP4, zP5, zP6])
            refine tkH 14 ?_ rfl (Or.inl ⟨by rfl, ?ht14⟩) ?_
            case ht14 => (intro w hSw; (try dsimp only at hSw); go_simp; try with_reducible rfl)
            (try simp only [Act.put, zP1, zP2, zP3, zP4, zP5, zP6])
            refine tkH 15 ?_ rfl (Or.inl ⟨by rfl, ?ht15⟩) ?_
            case ht15 => (intro w hSw; (try dsimp only at hSw); go_simp; try with_reducible rfl)
            (try simp only [Act.put, zP1, zP2, zP3, zP4, zP5, zP6])
            refine tkH 16 ?_ rfl (Or.inl ⟨by rfl, ?ht16⟩) ?_
            case ht16 => (intro w hSw; (try dsimp only at hSw); go_simp; try with_reducible rfl)
            (try simp only [Act.put, zP1, zP2, zP3, zP4, zP5, zP6])
            refine tkH 17 ?_ rfl (Or.inl ⟨by rfl, ?ht17⟩) ?_
            case ht17 => (intro w hSw; (try dsimp only at hSw); go_simp; try with_reducible rfl)
            (try simp only [Act.put, zP1, zP2, zP3, zP4, zP5, zP6])
            refine tkH 18 ?_ rfl (Or.inl ⟨by rfl, ?ht18⟩) ?_
            case ht18 => (intro w hSw; (try dsimp only at hSw); go_simp; try with_reducible rfl)
            (try simp only [Act.put, zP1, zP2, zP3, zP4, zP5, zP6])
            refine tkH 19 ?_ rfl (Or.inl ⟨by rfl, ?ht19⟩) ?_
            case ht19 => (intro w hSw; (try dsimp only at hSw); go_simp; try with_reducible rfl)
            (try simp only [Act.put, zP1, zP2, zP3, zP4, zP5, zP6])
            refine tkH 20 ?_ rfl (Or.inl ⟨by rfl, ?ht20⟩) ?_
            case ht20 => (intro w hSw; (try dsimp only at hSw); go_simp; try with_reducible rfl)
            (try simp only [Act.put, zP1, zP2, zP3, zP4, zP5, zP6])
            refine tkH 21 ?_ rfl (Or.inl ⟨by rfl, ?ht21⟩) ?_
            case ht21 => (intro w hSw; (try dsimp only at hSw); go_simp; try with_reducible rfl)
            (try simp only [Act.put, zP1, zP2, zP3, zP4, zP5, zP6])
            refine tkH 22 ?_ rfl (Or.inl ⟨by rfl, ?ht22⟩) ?_
            case ht22 => (intro w hSw; (try dsimp only at hSw); go_simp; try with_reducible rfl)
            (try simp only [Act.put, zP1, zP2, zP3, zP4, zP5, zP6])
            refine tkH 23 ?_ rfl (Or.inl ⟨by rfl, ?ht23⟩) ?_
            case ht23 => (intro w hSw; (try dsimp only at hSw); go_simp; try with_reducible rfl)
            (try simp only [Act.put, zP1, zP2, zP3, zP4, zP5, zP6])
            refine tkH 24 ?_ rfl (Or.inl ⟨by rfl, ?ht24⟩) ?_
            case ht24 => (intro w hSw; (try dsimp only at hSw); go_simp; try with_reducible rfl)
            (try simp only [Act.put, zP1, zP2, zP3, zP4, zP5, zP6])
            refine tkH 25 ?_ rfl (Or.inl ⟨by rfl, ?ht25⟩) ?_
            case ht25 => (intro w hSw; (try dsimp only at hSw); go_simp; try with_reducible rfl)
            (try simp only [Act.put, zP1, zP2, zP3, zP4, zP5, zP6])
            refine wpAnyH_done (by kernel_rfl) ?_ _
            go_wp2_with fail
            go_roundw
            case rel => exact ⟨r + 1, by go_num, by omega, Bw.trans HBX.out (show Bw wr _ from BWX)⟩
            case measure => simp [intOf]; omega
        · have hkc : ¬ (k : Int) < (Cm : Int) := by omega
          have z3 := (HBP9.out.up HBC.out).cell 3 (v := .int .i64 t.s.row) rfl
          have z4 := (HBP9.out.up HBC.out).cell 4 (v := .int .i64 t.s.col) rfl
          have x3 := (HBV9.out.up HBC.out).cell 3 (v := .int .i64 vr) rfl
          have x4 := (HBV9.out.up HBC.out).cell 4 (v := .int .i64 vc) rfl
          have x5 := (HBV9.out.up HBC.out).cell 5 (v := .bool vh) rfl
          rcases HVD.out with ⟨v1, v2, v3, v4, v5⟩ | ⟨v1, v2, v3⟩
          · subst v2 v3
            have hv1 : (j : Int) < vr := by omega
            have hv2 : vr - (j : Int) - 1 = t.s.row := by omega
            have hv3 : (vr - (j : Int) - 1 == t.s.row) = true := by rw [hv2]; simp
            have hv4 : -9223372036854775808 ≤ vr - (j : Int) ∧ vr - (j : Int) ≤ 9223372036854775807 := by omega
            clear v1
            go_wp2_with fail
            go_ret
            exact ⟨by first | rfl | (simp; done) | (simp; omega), Bw.trans HB9.out HBC.out⟩
          · subst v1 v2 v3
            go_wp2_with fail
            go_ret
            exact ⟨by first | rfl | (simp; done) | (simp; omega), Bw.trans HB9.out HBC.out⟩
end Go.Proofs.YtmkpefielfinjaaDoor

/- Arguments: a status; what the row's condition tells of the table of words. -/
namespace Go.Proofs.YtmkpefielfinjaaDoor
open Go.RowKit Go.ChangeShapes Go.WideShapes Go.ChangeAt Go.Joins Go.Deep

theorem cells_strS : Tryd.prog.cellsOf 9 = 1 := by kernel_rfl
theorem cells_of_strs {H : Type} {enc : TypeId × Value → H} {P : Program} {w : World} {base : Nat} {sp : Nat → Bool} {held : Bool} {fuel : Nat} {t e : TypeId} {n : Nat} {cs : List Value} {zs : List (List UInt8)} {p : List MemPlace}
    (ht : P.underlying t = some (.array n e)) (he : P.underlying e = some .string) (hce : P.cellsOf e = 1) (hct : P.cellsOf t = n)
    (h : DataW.trod enc P w base sp held fuel t cs = some (.agg (zs.map fun z => .lit (.string z)), p)) : cs = zs.map fun z => Value.string ⟨z.toArray⟩ := by
  cases fuel with
  | zero => simp [DataW.trod] at h
  | succ fuel =>
    simp only [DataW.trod, ht, hce, hct, Nat.mul_one] at h
    split at h
    · rename_i hl
      obtain ⟨xs, hm, hx⟩ := Option.map_eq_some_iff.1 h
      have hxs : xs.map (·.1) = zs.map fun z => (DataW.lit (.string z) : DataW H) := by
        have := congrArg Prod.fst hx
        simpa using this
      have hxl : xs.length = n := by simpa using Lib.mapM_length hm
      have hzl : zs.length = n := by
        have := congrArg List.length hxs
        simp at this
        omega
      apply List.ext_getElem?
      intro i
      by_cases hi : i < n
      · obtain ⟨b, hb, hf⟩ := Lib.mapM_at hm i i (by simp [hi])
        obtain ⟨s, hc, rfl, _⟩ := DataW.trod_string he hf
        have h1 : cs[i]? = some (.string s) := by
          have := congrArg (·[0]?) hc
          simpa [List.getElem?_take, List.getElem?_drop] using this
        have h2 : (xs.map (·.1))[i]? = some (DataW.lit (.string s.data.toList) : DataW H) := by simp [hb]
        rw [hxs] at h2
        simp only [List.getElem?_map, Option.map_eq_some_iff, DataW.lit.injEq, Lit.string.injEq] at h2
        obtain ⟨z', hz', e9⟩ := h2
        have e8 : s = ⟨z'.toArray⟩ := by rw [e9]
        simp [h1, hz', e8]
      · rw [List.getElem?_eq_none (by omega), List.getElem?_eq_none (by simp; omega)]
    · cases h
/-- From the row's condition: the table of words. -/
theorem word_of_head {W : World} {rest : List (String × DataW Unit)} {t : TypeId}
    (hg : Tryd.prog.globalNamed "jobmux/compose.words" = some 0) (hty : (Tryd.prog.globals[0]?).map (·.type) = some t) (ht : Tryd.prog.underlying t = some (.array 10 9)) (hct : Tryd.prog.cellsOf t = 10)
    (h : laidMet Tryd.prog (("jobmux/compose.words", .agg ((wordL.map fun b => b.data.toList).map fun z => .lit (.string z))) :: rest) W) : WordT W := by
  obtain ⟨ps, ⟨g', t', cs, fuel, p, q, hg', ht', hvar, hd, _, _⟩, _⟩ := h
  obtain rfl := Option.some.inj (hg.symm.trans hg')
  obtain rfl := Option.some.inj (hty.symm.trans ht')
  have e := cells_of_strs ht Tryd.underlying9 cells_strS hct hd
  intro i hi
  have := World.var?_cell hg hvar i
  rw [this, ← Array.getElem?_toList, e]
  have key : ∀ (l : List ByteArray) (i : Nat) (h : i < l.length), ((l.map fun b => b.data.toList).map fun z => Value.string ⟨z.toArray⟩)[i]? = some (.string (l.getD i ⟨#[63]⟩)) := by
    intro l i h
    simp [h]
  exact key wordL i hi
end Go.Proofs.YtmkpefielfinjaaDoor
