/- The law GridValid. -/
import Derived.Test.YtccfpehcadpkiaaM35
import Derived.Deep.RegionHeld3
set_option linter.unusedSimpArgs false
set_option linter.unusedVariables false
namespace Go.Proofs.Ytccfpehcadpkiaa
open Go.RowKit
theorem tkY {p : Prop} (h : p := by intro w hSw; (try dsimp only at hSw); go_simp; try with_reducible rfl) : p := h
theorem tkQ {P : Program} {ops : Array Oper} {Q : Exit → Act → World → Prop} {md : Region.Mode} {S : World → Prop} (i : Nat) {oi : Oper} {v : Value} {fuel : Nat} {listed : Array Bool} {a : Act} {w : World} (hi : ops[i]? = some oi) (hy : YieldsIf P ops S oi v a)
  (h : wpAnyH P md ops Q S fuel (listed.setIfInBounds i true) (a.put oi.dst v) w) (hs : Region.noSelect ops = true := by kernel_rfl) (hf : Region.free md ops listed i = true := by kernel_rfl) (hr : (Region.ready md ops listed).contains i = true := by kernel_rfl)
  (hQ : ∀ c a w, Q (.panic c) (a.put oi.dst v) w → Q (.panic c) a w := by exact fun _ _ _ h => h) (hS : S w := by assumption) : wpAnyH P md ops Q S (fuel + 1) listed a w := wpAnyH_take hi hs hf hr hQ hy hS h


set_option maxRecDepth 100000 in
set_option maxHeartbeats 8000000 in
theorem valid16_any (rows cols : Int) (A : Option Addr) (n c : Nat) (xs : List Int) (what at_ R0 C0 : Int) (Ar : Option Addr) (nr cr : Nat) (csr : List C4) (f g_ b : Int) (w : World) (hr : RdI w A n xs) (hA : 0 < n → ∀ ad, A = some ad → ad.block < w.heap.size) (hn : n ≤ 9223372036854775807) (hrr : Rg w Ar nr csr) (hnr : nr ≤ cr) (hcr : cr ≤ 9223372036854775807) :
  Calls Try.prog 3 #[.int .i64 rows, .int .i64 cols, .slice A n c, .int .i64 what, .int .i64 at_, .agg #[.int .i64 R0, .int .i64 C0, .slice Ar nr cr], .agg #[.int .i64 f, .int .i64 g_, .int .i64 b]] w fun e w' => e = .returned (.bool true) ∧ Bw w w' := by
 have HR := Lib.hid hr
 have HAA := Lib.hid hA
 have HRR := Lib.hid hrr
 clear hr hA hrr
 go_enter Try.func3, Try.ntmps3
 go_upto_region 1 with (fail)
 generalize hw0 : (w.alloc (.cells #[.int .i64 R0, .int .i64 C0, .slice Ar nr cr] 25)).alloc (.cells #[.int .i64 f, .int .i64 g_, .int .i64 b] 27) = w0
 obtain ⟨hbg, hba, hbw0, hz0⟩ := sb2 hw0
 have HBG := Lib.hid hbg
 have HBA := Lib.hid hba
 clear hw0 hbg hba hz0
 by_cases h50 : 50 < nr
 ·have h50i : (50 : Int) < (nr : Int) := by omega
  go_wp2_with (first
   | (go_at_call 8; refine (sane16_any _).mono ?_; rintro ee ws ⟨rfl, hbs⟩; have hzs := hbs.size; have x2 := (HBG.out.up hbs).cell 2 (v := .slice Ar nr cr) rfl)
   | fail)
  go_ret
  exact ⟨rfl, Bw.trans hbw0 hbs⟩
 have h50i : ¬ (50 : Int) < (nr : Int) := by omega
 go_upto_region 6 with (first
  | (go_at_call 8; refine (sane16_any _).mono ?_; rintro ee ws ⟨rfl, hbs⟩; have hzs := hbs.size; have x2 := (HBG.out.up hbs).cell 2 (v := .slice Ar nr cr) rfl)
  | (go_at_call 9; refine (made16_any A n c xs _ (HR.out.up (fun hz ad e => HAA.out hz ad e) (Bw.trans hbw0 hbs)) (fun h0 ad e => by have := HAA.out h0 ad e; have := (Bw.trans hbw0 hbs).size; omega) hn).mono ?_; rintro ee w2 ⟨Rn, Cn, Ag, ng, cg, cs, rfl, ⟨b1, b2, b3, b4⟩, hng, hrg, hgv, hngc, hcg, hnew, hb2⟩; have HRG := Lib.hid hrg; have HNG := Lib.hid hng; have hz2 := hb2.size; clear hrg hgv hnew hng x2)
  | ((with_reducible refine wpList_store_gr (Rn : Int) (Cn : Int) Ag ng cg w2.heap.size (.tmp 15) (.tmp 28) rfl rfl ?_ ?_ ?_ ?_); (focus rfl); (focus rfl); (focus (exact ⟨_, heap_at rfl, rfl⟩)); intro w3 hS3 hg3; have HS3 := Lib.hid hS3; have HG3 := Lib.hid hg3; clear hS3 hg3)
  | fail)
 have hng := HNG.out
 have hng1 : 1 ≤ ng := by rw [hng]; exact Nat.mul_pos (by omega) (by omega)
 have hng2 : ng ≤ 45 := by rw [hng]; exact Nat.le_trans (Nat.mul_le_mul b2 b4) (by omega)
 have hb23 : Bw w2 w3 := Bw.grown (show Bw w2 (w2.alloc _) from BWX) HG3.out (fun k hk => by cases hk; omega)
 obtain ⟨g, hgg⟩ : ∃ g, w2.heap.size = g := ⟨_, rfl⟩
 rw [hgg] at HS3
 simp only [hgg]
 have HR3 := Lib.hid (HRG.out.up hb23)
 have hb03 : Bw w0 w3 := Bw.trans (Bw.trans hbs hb2) hb23
 clear hng hgg HG3 HRG hb23 hb2 hbs hz2 hzs
 have x0 := HS3.out.cell 0 (v := .int .i64 (Rn : Int)) rfl
 have x1 := HS3.out.cell 1 (v := .int .i64 (Cn : Int)) rfl
 have x2 := HS3.out.cell 2 (v := .slice Ag ng cg) rfl
 go_upto_region 7 with (first
  | (go_at_call 10; refine (bad16_any Rn Cn Ag ng cg cs _ _ _ HR3.out hng1 (by omega) (by omega) hngc hcg).mono ?_; rintro ee wb ⟨Rb, Cb, Ab, nb, cb, csb, rfl, hrb, hnb, hnbc, hcb, hbb⟩; have HRB := Lib.hid hrb; have hzb := hbb.size; clear hrb x0 x1 x2)
  | ((with_reducible refine wpList_store_gr Rb Cb Ab nb cb wb.heap.size (.tmp 16) (.tmp 32) rfl rfl ?_ ?_ ?_ ?_); (focus rfl); (focus rfl); (focus (exact ⟨_, heap_at rfl, rfl⟩)); intro w4 hS4 hg4; have HS4 := Lib.hid hS4; have HG4 := Lib.hid hg4; clear hS4 hg4)
  | fail)
 have hbb4 : Bw wb w4 := Bw.grown (show Bw wb (wb.alloc _) from BWX) HG4.out (fun k hk => by cases hk; omega)
 have hb34 : Bw w3 w4 := Bw.trans hbb hbb4
 have hb04 : Bw w0 w4 := Bw.trans hb03 hb34
 obtain ⟨gh, hgh⟩ : ∃ gh, wb.heap.size = gh := ⟨_, rfl⟩
 rw [hgh] at HS4
 simp only [hgh]
 have x0 := (HS3.out.up hb34).cell 0 (v := .int .i64 (Rn : Int)) rfl
 have x1 := (HS3.out.up hb34).cell 1 (v := .int .i64 (Cn : Int)) rfl
 have x2 := (HS3.out.up hb34).cell 2 (v := .slice Ag ng cg) rfl
 have y0 := HS4.out.cell 0 (v := .int .i64 Rb) rfl
 have y1 := HS4.out.cell 1 (v := .int .i64 Cb) rfl
 have y2 := HS4.out.cell 2 (v := .slice Ab nb cb) rfl
 have z0 := (HBG.out.up hb04).cell 0 (v := .int .i64 R0) rfl
 have z1 := (HBG.out.up hb04).cell 1 (v := .int .i64 C0) rfl
 have z2 := (HBG.out.up hb04).cell 2 (v := .slice Ar nr cr) rfl
 clear HG4 hgh hzb
 go_upto_region 8 with (fail)
 have HG0 := Lib.hid (show GAt (w4.alloc (.cells #[.int .i64 (Rn : Int), .int .i64 (Cn : Int), .slice Ag ng cg, .int .i64 Rb, .int .i64 Cb, .slice Ab nb cb, .int .i64 R0, .int .i64 C0, .slice Ar nr cr] 25)) w4.heap.size 0 from ⟨Rn, Cn, Ag, ng, cg, cs, CELX, CELX, CELX, (HR3.out.up hb34).up BWX, by omega, hngc, hcg⟩)
 have HG1 := Lib.hid (show GAt (w4.alloc (.cells #[.int .i64 (Rn : Int), .int .i64 (Cn : Int), .slice Ag ng cg, .int .i64 Rb, .int .i64 Cb, .slice Ab nb cb, .int .i64 R0, .int .i64 C0, .slice Ar nr cr] 25)) w4.heap.size 1 from ⟨Rb, Cb, Ab, nb, cb, csb, CELX, CELX, CELX, (HRB.out.up hbb4).up BWX, hnb, hnbc, hcb⟩)
 have HG2 := Lib.hid (show GAt (w4.alloc (.cells #[.int .i64 (Rn : Int), .int .i64 (Cn : Int), .slice Ag ng cg, .int .i64 Rb, .int .i64 Cb, .slice Ab nb cb, .int .i64 R0, .int .i64 C0, .slice Ar nr cr] 25)) w4.heap.size 2 from ⟨R0, C0, Ar, nr, cr, csr, CELX, CELX, CELX, (HRR.out.up (Bw.trans hbw0 hb04)).up BWX, by omega, hnr, hcr⟩)
 generalize hwo : World.alloc w4 (.cells #[.int .i64 (Rn : Int), .int .i64 (Cn : Int), .slice Ag ng cg, .int .i64 Rb, .int .i64 Cb, .slice Ab nb cb, .int .i64 R0, .int .i64 C0, .slice Ar nr cr] 25) = wo
 rw [hwo] at HG0 HG1 HG2
 have hb4o : Bw w4 wo := by rw [← hwo]; exact BWX
 have hGz : w4.heap.size < wo.heap.size := by rw [← hwo]; simp
 obtain ⟨G, hG⟩ : ∃ G, w4.heap.size = G := ⟨_, rfl⟩
 rw [hG] at HG0 HG1 HG2 hGz
 simp only [hG]
 have HBW := Lib.hid (show Bw w wo from Bw.trans hbw0 (Bw.trans hb04 hb4o))
 have HBAo := Lib.hid (HBA.out.up (Bw.trans hb04 hb4o))
 clear hwo hG x0 x1 x2 y0 y1 y2 z0 z1 z2 HS3 HS4 HR3 HRB HBG HBA HRR HAA HR hbb4 hb34 hb04 hb03 hbb hb4o hbw0 HNG hng1 hng2 b1 b2 b3 b4 hngc hcg hnb hnbc hcb hnr hcr h50 h50i
 go_wp2_with fail
 go_loopw [38] (fun i wr => ∃ k : Nat, i = .int .i64 k ∧ k ≤ 3 ∧ Bw wo wr) (fun i _ => 3 - (intOf i).toNat)
 case atStart => exact ⟨0, rfl, by omega, BWX⟩
 case round =>
  obtain ⟨wz, hwz⟩ : ∃ wz : World, wz = wr := ⟨_, rfl⟩
  subst hwz
  obtain ⟨k, rfl, hk, hwr⟩ := hrel
  by_cases hlt : k < 3
  ·have hGA : GAt wz G k := by
    rcases (show k = 0 ∨ k = 1 ∨ k = 2 by omega) with rfl | rfl | rfl
    ·exact HG0.out.up hwr
    ·exact HG1.out.up hwr
    ·exact HG2.out.up hwr
   obtain ⟨R, C, Az, nz, cz, ds, h1, h2, h3, hrz, hnz, hncz, hcz⟩ := hGA
   have HRZ := Lib.hid hrz
   clear hrz
   have e1 : (0 : Int) ≤ k := by omega
   have e2 : (k : Int) < 3 := by omega
   go_upto_region 10 with (fail)
   generalize hwx : wz.alloc (.cells #[.int .i64 R, .int .i64 C, .slice Az nz cz] 25) = wx
   obtain ⟨hbx, hbwx, hzx⟩ := sb1 hwx
   have HBX := Lib.hid hbx
   have HRX := Lib.hid (HRZ.out.up hbwx)
   have hzzx : wz.heap.size < wx.heap.size := by omega
   clear hwx hbx h1 h2 h3 hzx
   have HY := Lib.hid (show ∀ w', Bw wx w' → (w'.cell? ⟨wz.heap.size, 0, none⟩ = some (.int .i64 R) ∧ w'.cell? ⟨wz.heap.size, 1, none⟩ = some (.int .i64 C) ∧ w'.cell? ⟨wz.heap.size, 2, none⟩ = some (.slice Az nz cz)) from fun w' hb => ⟨(HBX.out.up hb).cell 0 rfl, (HBX.out.up hb).cell 1 rfl, (HBX.out.up hb).cell 2 rfl⟩)
   obtain ⟨vb, hvb⟩ : ∃ vb, gridB R C ds = vb := ⟨_, rfl⟩
   have HVB := Lib.hid hvb
   clear hvb
   go_cut [46] (fun s w' => s = .bool false ∧ Bw wx w')
   case first =>
    cases vb
    all_goals
     refine wp_region_held_drew (S := (fun w' => w'.cell? ⟨wz.heap.size, 0, none⟩ = some (.int .i64 R) ∧ w'.cell? ⟨wz.heap.size, 1, none⟩ = some (.int .i64 C) ∧ w'.cell? ⟨wz.heap.size, 2, none⟩ = some (.slice Az nz cz))) (by kernel_rfl) ?_ (fun hHeld => ?_)
     ·(try dsimp only); (refine HY.out _ ?_; exact BWX)
     refine tkQ 0 rfl (Or.inl ⟨by rfl, tkY⟩) ?_
     refine tkQ 2 rfl (Or.inl ⟨by rfl, tkY⟩) ?_
     (try simp only [Act.put, p1, p2, p3, p4, p5, p6])
     refine wpAnyH_ready (rs := [1]) (by kernel_rfl) (by simp) ?_
     refine AllReadyH.cons rfl (fun K hK => ?_) ?_
     ·go_simp
      refine (ggvalid_any R C Az nz cz ds _ (HRX.out.up BWX) hncz hcz).mono ?_; rintro ee v1 ⟨rfl, hv1⟩; rw [HVB.out]; go_wp2_with fail
      refine hK.out _ _ ?_ (fun hHeld => ?_)
      ·(try dsimp only); (refine HY.out _ ?_; exact BWX)
      clear hK K
      (try simp only [Act.put, p1, p2, p3, p4, p5, p6])
      refine wpAnyH_ready (rs := [3]) (by kernel_rfl) (by simp) ?_
      refine AllReadyH.cons rfl (fun K hK => ?_) ?_
      ·go_simp
       refine (rgvalid_any R C Az nz cz ds _ (HRX.out.up BWX) hncz hcz).mono ?_; rintro ee v2 ⟨rfl, hv2⟩; rw [HVB.out]; go_wp2_with fail
       refine hK.out _ _ ?_ (fun hHeld => ?_)
       ·(try dsimp only); (refine HY.out _ ?_; exact BWX)
       clear hK K
       (try simp only [Act.put, p1, p2, p3, p4, p5, p6])
       refine tkQ 4 rfl (Or.inl ⟨by rfl, tkY⟩) ?_
       (try simp only [Act.put, p1, p2, p3, p4, p5, p6])
       refine wpAnyH_done (by kernel_rfl) ?_ _
       go_wp2_with fail
       go_meet
       case rel => exact ⟨rfl, BWX⟩
      exact AllReadyH.nil
     exact AllReadyH.nil
   case rest =>
   obtain ⟨rfl, hbxc⟩ := hcut
   obtain ⟨wq, hwq⟩ : ∃ wq : World, wq = wc := ⟨_, rfl⟩
   subst hwq
   have HBXq := Lib.hid (HBX.out.up hbxc)
   have HRXq := Lib.hid (HRX.out.up hbxc)
   have hzzq : wz.heap.size < wq.heap.size := by have := hbxc.size; omega
   go_wp2_with (go_at_call 13; refine (mmod_any _ _ _ (by omega) (by omega)).mono ?_; rintro ee ww ⟨rfl, rfl⟩)
   go_loopw [53] (fun i wr => ∃ k2 : Nat, i = .int .i64 k2 ∧ k2 ≤ 2 ∧ Bw (wq.alloc (.cells #[.int .i64 rows, .int .i64 (rows % 6 - 1)] 3)) wr) (fun i _ => 2 - (intOf i).toNat)
   case atStart => exact ⟨0, rfl, by omega, BWX⟩
   case round =>
    obtain ⟨wy, hwy⟩ : ∃ wy : World, wy = wr := ⟨_, rfl⟩
    subst hwy
    obtain ⟨k2, rfl, hk2, hwr2⟩ := hrel
    have hbqy : Bw wq wy := Bw.trans (show Bw wq (wq.alloc _) from BWX) hwr2
    by_cases hlt2 : k2 < 2
    ·obtain ⟨u, hu⟩ : ∃ u : Int, wy.cell? ⟨wq.heap.size, k2, none⟩ = some (.int .i64 u) := by
      rcases (show k2 = 0 ∨ k2 = 1 by omega) with rfl | rfl
      ·exact ⟨rows, cell_up CELX hwr2⟩
      ·exact ⟨rows % 6 - 1, cell_up CELX hwr2⟩
     have e3 : (0 : Int) ≤ k2 := by omega
     have e4 : (k2 : Int) < 2 := by omega
     have HRY := Lib.hid (HRXq.out.up hbqy)
     go_upto_region 15 with (fail)
     have HZ := Lib.hid (show ∀ w', Bw wy w' → (w'.cell? ⟨wz.heap.size, 0, none⟩ = some (.int .i64 R) ∧ w'.cell? ⟨wz.heap.size, 1, none⟩ = some (.int .i64 C) ∧ w'.cell? ⟨wz.heap.size, 2, none⟩ = some (.slice Az nz cz)) from fun w' hb => ⟨((HBXq.out.up hbqy).up hb).cell 0 rfl, ((HBXq.out.up hbqy).up hb).cell 1 rfl, ((HBXq.out.up hbqy).up hb).cell 2 rfl⟩)
     clear hu
     refine wp_region_held_drew (S := (fun w' => w'.cell? ⟨wz.heap.size, 0, none⟩ = some (.int .i64 R) ∧ w'.cell? ⟨wz.heap.size, 1, none⟩ = some (.int .i64 C) ∧ w'.cell? ⟨wz.heap.size, 2, none⟩ = some (.slice Az nz cz))) (by kernel_rfl) ?_ (fun hHeld => ?_)
     ·(try dsimp only); (refine HZ.out _ ?_; (repeat (first | with_reducible (first | assumption | exact Bw.refl _ | refine Bw.alloc ?_ _ | refine Bw.more ?_ _ _ | refine Bw.drew ?_ | refine Bw.drewN ?_ _) | ((with_reducible refine Bw.set2 ?_ ?_ _); (focus exact SZX)) | with_reducible refine Bw.trans ?_ (by assumption))); done)
     refine tkQ 0 rfl (Or.inl ⟨by rfl, tkY⟩) ?_
     refine tkQ 1 rfl (Or.inl ⟨by rfl, tkY⟩) ?_
     refine tkQ 3 rfl (Or.inl ⟨by rfl, tkY⟩) ?_
     (try simp only [Act.put, p1, p2, p3, p4, p5, p6])
     refine tkQ 4 rfl (Or.inl ⟨by rfl, tkY⟩) ?_
     (try simp only [Act.put, p1, p2, p3, p4, p5, p6])
     refine wpAnyH_ready (rs := [2]) (by kernel_rfl) (by simp) ?_
     refine AllReadyH.cons rfl (fun K hK => ?_) ?_
     ·go_simp
      refine (grow_any R C Az nz cz ds u _ (HRY.out.up BWX) hncz (by omega) hcz).mono ?_; rintro ee u1 ⟨B1, k1, d1, rfl, hq1, hk1, hd1, hnw1, hu1⟩; have HQ1 := Lib.hid hq1; clear hq1 hnw1; go_wp2_with fail
      refine hK.out _ _ ?_ (fun hHeld => ?_)
      ·(try dsimp only); (refine HZ.out _ ?_; (repeat (first | with_reducible (first | assumption | exact Bw.refl _ | refine Bw.alloc ?_ _ | refine Bw.more ?_ _ _ | refine Bw.drew ?_ | refine Bw.drewN ?_ _) | ((with_reducible refine Bw.set2 ?_ ?_ _); (focus exact SZX)) | with_reducible refine Bw.trans ?_ (by assumption))); done)
      clear hK K
      (try simp only [Act.put, p1, p2, p3, p4, p5, p6])
      refine wpAnyH_ready (rs := [5]) (by kernel_rfl) (by simp) ?_
      refine AllReadyH.cons rfl (fun K hK => ?_) ?_
      ·go_simp
       refine (rrow_any R C Az nz cz ds u _ (HRY.out.up BWX) hncz (by omega) hcz).mono ?_; rintro ee u2 ⟨B2, k2', d2, rfl, hq2, hk2', hd2, hnw2, hu2⟩; have HQ2 := Lib.hid hq2; clear hq2 hnw2; go_wp2_with fail
       refine hK.out _ _ ?_ (fun hHeld => ?_)
       ·(try dsimp only); (refine HZ.out _ ?_; (repeat (first | with_reducible (first | assumption | exact Bw.refl _ | refine Bw.alloc ?_ _ | refine Bw.more ?_ _ _ | refine Bw.drew ?_ | refine Bw.drewN ?_ _) | ((with_reducible refine Bw.set2 ?_ ?_ _); (focus exact SZX)) | with_reducible refine Bw.trans ?_ (by assumption))); done)
       clear hK K
       (try simp only [Act.put, p1, p2, p3, p4, p5, p6])
       refine wpAnyH_ready (rs := [6]) (by kernel_rfl) (by simp) ?_
       refine AllReadyH.cons rfl (fun K hK => ?_) ?_
       ·go_simp
        refine (rsc_any B1 B2 k1 d1 k2' d2 _ _ _ (HQ1.out.up BWX) hk1 hd1 (HQ2.out.up BWX) hk2' hd2).mono ?_; rintro ee u3 ⟨rfl, hu3⟩; (try simp only [decide_true, Bool.and_true, Bool.and_self]); go_wp2_with fail
        refine hK.out _ _ ?_ (fun hHeld => ?_)
        ·(try dsimp only); (refine HZ.out _ ?_; (repeat (first | with_reducible (first | assumption | exact Bw.refl _ | refine Bw.alloc ?_ _ | refine Bw.more ?_ _ _ | refine Bw.drew ?_ | refine Bw.drewN ?_ _) | ((with_reducible refine Bw.set2 ?_ ?_ _); (focus exact SZX)) | with_reducible refine Bw.trans ?_ (by assumption))); done)
        clear hK K
        (try simp only [Act.put, p1, p2, p3, p4, p5, p6])
        refine tkQ 7 rfl (Or.inl ⟨by rfl, tkY⟩) ?_
        (try simp only [Act.put, p1, p2, p3, p4, p5, p6])
        refine wpAnyH_done (by kernel_rfl) ?_ _
        go_wp2_with fail
        go_roundw
        case rel => exact ⟨k2 + 1, by go_num, by omega, Bw.trans hwr2 BWX⟩
        case measure => simp [intOf]; omega
       exact AllReadyH.nil
      exact AllReadyH.nil
     exact AllReadyH.nil
    ·obtain rfl : k2 = 2 := by omega
     go_wp2_with fail
     go_roundw
     case rel => exact ⟨k + 1, by go_num, by omega, Bw.trans hwr (Bw.trans hbwx (Bw.trans hbxc hbqy))⟩
     case measure => simp [intOf]; omega
  ·obtain rfl : k = 3 := by omega
   go_upto_region 19 with (fail)
   have HZ := Lib.hid (show ∀ w', Bw wz w' → (w'.cell? ⟨w.heap.size + 1, 0, none⟩ = some (.int .i64 f) ∧ w'.cell? ⟨w.heap.size + 1, 1, none⟩ = some (.int .i64 g_) ∧ w'.cell? ⟨w.heap.size + 1, 2, none⟩ = some (.int .i64 b)) from fun w' hb => ⟨((HBAo.out.up hwr).up hb).cell 0 rfl, ((HBAo.out.up hwr).up hb).cell 1 rfl, ((HBAo.out.up hwr).up hb).cell 2 rfl⟩)
   refine wp_region_held_drew (S := (fun w' => w'.cell? ⟨w.heap.size + 1, 0, none⟩ = some (.int .i64 f) ∧ w'.cell? ⟨w.heap.size + 1, 1, none⟩ = some (.int .i64 g_) ∧ w'.cell? ⟨w.heap.size + 1, 2, none⟩ = some (.int .i64 b))) (by kernel_rfl) ?_ (fun hHeld => ?_)
   ·(try dsimp only); (refine HZ.out _ ?_; (repeat (first | with_reducible (first | assumption | exact Bw.refl _ | refine Bw.alloc ?_ _ | refine Bw.more ?_ _ _ | refine Bw.drew ?_ | refine Bw.drewN ?_ _) | ((with_reducible refine Bw.set2 ?_ ?_ _); (focus exact SZX)) | with_reducible refine Bw.trans ?_ (by assumption))); done)
   refine tkQ 0 rfl (Or.inl ⟨by rfl, tkY⟩) ?_
   (try simp only [Act.put, p1, p2, p3, p4, p5, p6])
   refine tkQ 1 rfl (Or.inl ⟨by rfl, tkY⟩) ?_
   refine tkQ 3 rfl (Or.inl ⟨by rfl, tkY⟩) ?_
   refine tkQ 4 rfl (Or.inl ⟨by rfl, tkY⟩) ?_
   (try simp only [Act.put, p1, p2, p3, p4, p5, p6])
   refine wpAnyH_ready (rs := [2]) (by kernel_rfl) (by simp) ?_
   refine AllReadyH.cons rfl (fun K hK => ?_) ?_
   ·go_simp
    refine (gnew16_any rows cols _).mono ?_; rintro ee v1 ⟨A1, n1, c1, rfl, hr1, hn1, hc1, hnew1, hv1⟩; have HR1 := Lib.hid hr1; clear hr1 hnew1; go_wp2_with fail
    refine hK.out _ _ ?_ (fun hHeld => ?_)
    ·(try dsimp only); (refine HZ.out _ ?_; (repeat (first | with_reducible (first | assumption | exact Bw.refl _ | refine Bw.alloc ?_ _ | refine Bw.more ?_ _ _ | refine Bw.drew ?_ | refine Bw.drewN ?_ _) | ((with_reducible refine Bw.set2 ?_ ?_ _); (focus exact SZX)) | with_reducible refine Bw.trans ?_ (by assumption))); done)
    clear hK K
    (try simp only [Act.put, p1, p2, p3, p4, p5, p6])
    refine wpAnyH_ready (rs := [5]) (by kernel_rfl) (by simp) ?_
    refine AllReadyH.cons rfl (fun K hK => ?_) ?_
    ·go_simp
     refine (rnew16_any rows cols _).mono ?_; rintro ee v2 ⟨A2, n2, c2, rfl, hr2, hn2, hc2, hnew2, hv2⟩; have HR2 := Lib.hid hr2; clear hr2 hnew2; go_wp2_with fail
     refine hK.out _ _ ?_ (fun hHeld => ?_)
     ·(try dsimp only); (refine HZ.out _ ?_; (repeat (first | with_reducible (first | assumption | exact Bw.refl _ | refine Bw.alloc ?_ _ | refine Bw.more ?_ _ _ | refine Bw.drew ?_ | refine Bw.drewN ?_ _) | ((with_reducible refine Bw.set2 ?_ ?_ _); (focus exact SZX)) | with_reducible refine Bw.trans ?_ (by assumption))); done)
     clear hK K
     (try simp only [Act.put, p1, p2, p3, p4, p5, p6])
     refine wpAnyH_ready (rs := [6]) (by kernel_rfl) (by simp) ?_
     refine AllReadyH.cons rfl (fun K hK => ?_) ?_
     ·go_simp
      refine (rsame_any _ _ _ _ A1 A2 n1 c1 n2 c2 _ _ _ (HR1.out.up BWX) hn1 hc1 (HR2.out.up BWX) hn2 hc2).mono ?_; rintro ee v3 ⟨rfl, hv3⟩; (try simp only [decide_true, Bool.and_true, Bool.and_self]); go_wp2_with fail
      refine hK.out _ _ ?_ (fun hHeld => ?_)
      ·(try dsimp only); (refine HZ.out _ ?_; (repeat (first | with_reducible (first | assumption | exact Bw.refl _ | refine Bw.alloc ?_ _ | refine Bw.more ?_ _ _ | refine Bw.drew ?_ | refine Bw.drewN ?_ _) | ((with_reducible refine Bw.set2 ?_ ?_ _); (focus exact SZX)) | with_reducible refine Bw.trans ?_ (by assumption))); done)
      clear hK K
      (try simp only [Act.put, p1, p2, p3, p4, p5, p6])
      refine tkQ 7 rfl (Or.inl ⟨by rfl, tkY⟩) ?_
      refine tkQ 8 rfl (Or.inl ⟨by rfl, tkY⟩) ?_
      refine tkQ 11 rfl (Or.inl ⟨by rfl, tkY⟩) ?_
      (try simp only [Act.put, p1, p2, p3, p4, p5, p6])
      refine tkQ 15 rfl (Or.inl ⟨by rfl, tkY⟩) ?_
      refine tkQ 18 rfl (Or.inl ⟨by rfl, tkY⟩) ?_
      (try simp only [Act.put, p1, p2, p3, p4, p5, p6])
      refine wpAnyH_ready (rs := [9]) (by kernel_rfl) (by simp) ?_
      refine AllReadyH.cons rfl (fun K hK => ?_) ?_
      ·go_simp
       refine (mmod_any _ _ _ (by omega) (by omega)).mono ?_; rintro ee ww ⟨rfl, rfl⟩; go_wp2_with fail
       refine hK.out _ _ ?_ (fun hHeld => ?_)
       ·(try dsimp only); (refine HZ.out _ ?_; (repeat (first | with_reducible (first | assumption | exact Bw.refl _ | refine Bw.alloc ?_ _ | refine Bw.more ?_ _ _ | refine Bw.drew ?_ | refine Bw.drewN ?_ _) | ((with_reducible refine Bw.set2 ?_ ?_ _); (focus exact SZX)) | with_reducible refine Bw.trans ?_ (by assumption))); done)
       clear hK K
       (try simp only [Act.put, p1, p2, p3, p4, p5, p6])
       refine tkQ 10 rfl (Or.inl ⟨by rfl, tkY⟩) ?_
       (try simp only [Act.put, p1, p2, p3, p4, p5, p6])
       refine wpAnyH_ready (rs := [12]) (by kernel_rfl) (by simp) ?_
       refine AllReadyH.cons rfl (fun K hK => ?_) ?_
       ·go_simp
        refine (mmod_any _ _ _ (by omega) (by omega)).mono ?_; rintro ee ww ⟨rfl, rfl⟩; go_wp2_with fail
        refine hK.out _ _ ?_ (fun hHeld => ?_)
        ·(try dsimp only); (refine HZ.out _ ?_; (repeat (first | with_reducible (first | assumption | exact Bw.refl _ | refine Bw.alloc ?_ _ | refine Bw.more ?_ _ _ | refine Bw.drew ?_ | refine Bw.drewN ?_ _) | ((with_reducible refine Bw.set2 ?_ ?_ _); (focus exact SZX)) | with_reducible refine Bw.trans ?_ (by assumption))); done)
        clear hK K
        (try simp only [Act.put, p1, p2, p3, p4, p5, p6])
        refine tkQ 13 rfl (Or.inl ⟨by rfl, tkY⟩) ?_
        (try simp only [Act.put, p1, p2, p3, p4, p5, p6])
        refine wpAnyH_ready (rs := [14]) (by kernel_rfl) (by simp) ?_
        refine AllReadyH.cons rfl (fun K hK => ?_) ?_
        ·go_simp
         refine (gnew16_any _ _ _).mono ?_; rintro ee v4 ⟨A4, n4, c4, rfl, hr4, hn4, hc4, hnew4, hv4⟩; have HR4 := Lib.hid hr4; clear hr4 hnew4; go_wp2_with fail
         refine hK.out _ _ ?_ (fun hHeld => ?_)
         ·(try dsimp only); (refine HZ.out _ ?_; (repeat (first | with_reducible (first | assumption | exact Bw.refl _ | refine Bw.alloc ?_ _ | refine Bw.more ?_ _ _ | refine Bw.drew ?_ | refine Bw.drewN ?_ _) | ((with_reducible refine Bw.set2 ?_ ?_ _); (focus exact SZX)) | with_reducible refine Bw.trans ?_ (by assumption))); done)
         clear hK K
         (try simp only [Act.put, p1, p2, p3, p4, p5, p6])
         refine wpAnyH_ready (rs := [16]) (by kernel_rfl) (by simp) ?_
         refine AllReadyH.cons rfl (fun K hK => ?_) ?_
         ·go_simp
          refine (mmod_any _ _ _ (by omega) (by omega)).mono ?_; rintro ee ww ⟨rfl, rfl⟩; go_wp2_with fail
          refine hK.out _ _ ?_ (fun hHeld => ?_)
          ·(try dsimp only); (refine HZ.out _ ?_; (repeat (first | with_reducible (first | assumption | exact Bw.refl _ | refine Bw.alloc ?_ _ | refine Bw.more ?_ _ _ | refine Bw.drew ?_ | refine Bw.drewN ?_ _) | ((with_reducible refine Bw.set2 ?_ ?_ _); (focus exact SZX)) | with_reducible refine Bw.trans ?_ (by assumption))); done)
          clear hK K
          (try simp only [Act.put, p1, p2, p3, p4, p5, p6])
          refine tkQ 17 rfl (Or.inl ⟨by rfl, tkY⟩) ?_
          (try simp only [Act.put, p1, p2, p3, p4, p5, p6])
          refine wpAnyH_ready (rs := [19]) (by kernel_rfl) (by simp) ?_
          refine AllReadyH.cons rfl (fun K hK => ?_) ?_
          ·go_simp
           refine (mmod_any _ _ _ (by omega) (by omega)).mono ?_; rintro ee ww ⟨rfl, rfl⟩; go_wp2_with fail
           refine hK.out _ _ ?_ (fun hHeld => ?_)
           ·(try dsimp only); (refine HZ.out _ ?_; (repeat (first | with_reducible (first | assumption | exact Bw.refl _ | refine Bw.alloc ?_ _ | refine Bw.more ?_ _ _ | refine Bw.drew ?_ | refine Bw.drewN ?_ _) | ((with_reducible refine Bw.set2 ?_ ?_ _); (focus exact SZX)) | with_reducible refine Bw.trans ?_ (by assumption))); done)
           clear hK K
           (try simp only [Act.put, p1, p2, p3, p4, p5, p6])
           refine tkQ 20 rfl (Or.inl ⟨by rfl, tkY⟩) ?_
           (try simp only [Act.put, p1, p2, p3, p4, p5, p6])
           refine wpAnyH_ready (rs := [21]) (by kernel_rfl) (by simp) ?_
           refine AllReadyH.cons rfl (fun K hK => ?_) ?_
           ·go_simp
            refine (rnew16_any _ _ _).mono ?_; rintro ee v5 ⟨A5, n5, c5, rfl, hr5, hn5, hc5, hnew5, hv5⟩; have HR5 := Lib.hid hr5; clear hr5 hnew5; go_wp2_with fail
            refine hK.out _ _ ?_ (fun hHeld => ?_)
            ·(try dsimp only); (refine HZ.out _ ?_; (repeat (first | with_reducible (first | assumption | exact Bw.refl _ | refine Bw.alloc ?_ _ | refine Bw.more ?_ _ _ | refine Bw.drew ?_ | refine Bw.drewN ?_ _) | ((with_reducible refine Bw.set2 ?_ ?_ _); (focus exact SZX)) | with_reducible refine Bw.trans ?_ (by assumption))); done)
            clear hK K
            (try simp only [Act.put, p1, p2, p3, p4, p5, p6])
            refine wpAnyH_ready (rs := [22]) (by kernel_rfl) (by simp) ?_
            refine AllReadyH.cons rfl (fun K hK => ?_) ?_
            ·go_simp
             refine (rsame_any _ _ _ _ A4 A5 n4 c4 n5 c5 _ _ _ (HR4.out.up BWX) hn4 hc4 (HR5.out.up BWX) hn5 hc5).mono ?_; rintro ee v6 ⟨rfl, hv6⟩; (try simp only [decide_true, Bool.and_true, Bool.and_self]); go_wp2_with fail
             refine hK.out _ _ ?_ (fun hHeld => ?_)
             ·(try dsimp only); (refine HZ.out _ ?_; (repeat (first | with_reducible (first | assumption | exact Bw.refl _ | refine Bw.alloc ?_ _ | refine Bw.more ?_ _ _ | refine Bw.drew ?_ | refine Bw.drewN ?_ _) | ((with_reducible refine Bw.set2 ?_ ?_ _); (focus exact SZX)) | with_reducible refine Bw.trans ?_ (by assumption))); done)
             clear hK K
             (try simp only [Act.put, p1, p2, p3, p4, p5, p6])
             refine tkQ 23 rfl (Or.inl ⟨by rfl, tkY⟩) ?_
             refine tkQ 24 rfl (Or.inl ⟨by rfl, tkY⟩) ?_
             refine tkQ 25 rfl (Or.inl ⟨by rfl, tkY⟩) ?_
             (try simp only [Act.put, p1, p2, p3, p4, p5, p6])
             refine tkQ 27 rfl (Or.inl ⟨by rfl, tkY⟩) ?_
             (try simp only [Act.put, p1, p2, p3, p4, p5, p6])
             refine wpAnyH_ready (rs := [26]) (by kernel_rfl) (by simp) ?_
             refine AllReadyH.cons rfl (fun K hK => ?_) ?_
             ·go_simp
              refine (gblank_any f g_ b _).mono ?_; rintro ee v7 ⟨rfl, hv7⟩; go_wp2_with fail
              refine hK.out _ _ ?_ (fun hHeld => ?_)
              ·(try dsimp only); (refine HZ.out _ ?_; (repeat (first | with_reducible (first | assumption | exact Bw.refl _ | refine Bw.alloc ?_ _ | refine Bw.more ?_ _ _ | refine Bw.drew ?_ | refine Bw.drewN ?_ _) | ((with_reducible refine Bw.set2 ?_ ?_ _); (focus exact SZX)) | with_reducible refine Bw.trans ?_ (by assumption))); done)
              clear hK K
              (try simp only [Act.put, p1, p2, p3, p4, p5, p6])
              refine wpAnyH_ready (rs := [28]) (by kernel_rfl) (by simp) ?_
              refine AllReadyH.cons rfl (fun K hK => ?_) ?_
              ·go_simp
               refine (rblank_any f g_ b _).mono ?_; rintro ee v8 ⟨rfl, hv8⟩; go_wp2_with fail
               refine hK.out _ _ ?_ (fun hHeld => ?_)
               ·(try dsimp only); (refine HZ.out _ ?_; (repeat (first | with_reducible (first | assumption | exact Bw.refl _ | refine Bw.alloc ?_ _ | refine Bw.more ?_ _ _ | refine Bw.drew ?_ | refine Bw.drewN ?_ _) | ((with_reducible refine Bw.set2 ?_ ?_ _); (focus exact SZX)) | with_reducible refine Bw.trans ?_ (by assumption))); done)
               clear hK K
               (try simp only [Act.put, p1, p2, p3, p4, p5, p6])
               refine tkQ 29 rfl (Or.inl ⟨by rfl, tkY⟩) ?_
               refine tkQ 30 rfl (Or.inl ⟨by rfl, tkY⟩) ?_
               (try simp only [Act.put, p1, p2, p3, p4, p5, p6])
               refine wpAnyH_ready (rs := [31]) (by kernel_rfl) (by simp) ?_
               refine AllReadyH.cons rfl (fun K hK => ?_) ?_
               ·go_simp
                refine hK.out _ _ ?_ (fun hHeld => ?_)
                ·(try dsimp only); (refine HZ.out _ ?_; (repeat (first | with_reducible (first | assumption | exact Bw.refl _ | refine Bw.alloc ?_ _ | refine Bw.more ?_ _ _ | refine Bw.drew ?_ | refine Bw.drewN ?_ _) | ((with_reducible refine Bw.set2 ?_ ?_ _); (focus exact SZX)) | with_reducible refine Bw.trans ?_ (by assumption))); done)
                clear hK K
                (try simp only [Act.put, p1, p2, p3, p4, p5, p6])
                refine wpAnyH_done (by kernel_rfl) ?_ _
                go_wp2_with fail
                go_ret
                exact ⟨rfl, Bw.trans HBW.out (Bw.trans hwr BWX)⟩
               exact AllReadyH.nil
              exact AllReadyH.nil
             exact AllReadyH.nil
            exact AllReadyH.nil
           exact AllReadyH.nil
          exact AllReadyH.nil
         exact AllReadyH.nil
        exact AllReadyH.nil
       exact AllReadyH.nil
      exact AllReadyH.nil
     exact AllReadyH.nil
    exact AllReadyH.nil
   exact AllReadyH.nil
end Go.Proofs.Ytccfpehcadpkiaa
