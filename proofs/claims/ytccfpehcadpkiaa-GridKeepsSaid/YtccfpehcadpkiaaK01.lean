/- The law GridKeeps. -/
import Derived.Test.YtccfpehcadpkiaaM34
import Derived.Test.YtccfpehcadpkiaaK05
import Derived.Deep.RegionHeld3
set_option linter.unusedSimpArgs false
set_option linter.unusedVariables false
namespace Go.Proofs.Ytccfpehcadpkiaa
open Go.RowKit

theorem wp_store_gr {o : Oper} {a : Act} {w : World} {K : Act → World → Prop} {Q : Exit → Act → World → Prop} (R C : Int) (A : Option Addr) (n c : Nat) (g : Nat) (x y : Operand) (ho : o.op = .store 25 x y)
  (hx : a.eval x = .pointer (some ⟨g, 0, none⟩)) (hy : a.eval y = .agg (grV R C A n c)) (hg : ∃ old, Sb w g old 25 ∧ old.size = 3)
  (h : ∀ w', Sb w' g (grV R C A n c) 25 → w.grownBy w' (some g) → K (a.put o.dst undef) w') : Oper.wp Try.prog o a w K Q := by
 obtain ⟨old, hg, hold⟩ := hg
 exact wp_store_row 25 x y ho g (grV R C A n c) hx hy 25 old hg infoGr hold (grV_one R C A n c)
  (h _ (setRow_heap w g old _ _ _ hg) ⟨rfl, rfl, rfl, by simp [World.setRow], fun k hk hne => setRow_other w g k _ (fun e => hne (by rw [e]))⟩)
theorem atF_getK {Rn Cn : Nat} {cs : List C4} {r k : Nat} {d : C4} (hr : r < Rn) (hk : k < Cn) (hl : cs.length = Rn * Cn) : cs[r * Cn + k]? = some (atF Rn Cn cs r k d) := by
 rw [atF_in hr hk hl]
 exact List.getElem?_eq_getElem _
theorem tab_atK {Rn Cn r k : Nat} (F : Nat → Nat → C4) (hr : r < Rn) (hk : k < Cn) : (tab Rn Cn F)[r * Cn + k]? = some (F r k) := by
 have h := idx_lt (Rn := Rn) (Cn := Cn) hr hk
 rw [List.getElem?_eq_getElem (by rw [tab_len]; exact h), tab_get, (idx_parts hk).1, (idx_parts hk).2]
theorem atF_tabK {Rn Cn r k : Nat} (F : Nat → Nat → C4) (d : C4) (hr : r < Rn) (hk : k < Cn) : atF Rn Cn (tab Rn Cn F) r k d = F r k := by
 have h := atF_getK (cs := tab Rn Cn F) (d := d) hr hk (tab_len _ _ _)
 rw [tab_atK F hr hk] at h
 exact (Option.some.inj h).symm
/-- A grid scrolled up, and down again. -/
theorem keeps_plain {Rn Cn : Nat} {cs : List C4} {n : Nat} {q : C4} (hg : gridB Rn Cn cs = true) (hq : cellB q = true) :
  gridB Rn Cn (scrollG Rn Cn cs 0 ((Rn : Int) - 1) n q) = true ∧ gridB Rn Cn (scrollG Rn Cn (scrollG Rn Cn cs 0 ((Rn : Int) - 1) n q) 0 ((Rn : Int) - 1) (-(n : Int)) q) = true ∧
  ∀ r : Nat, n ≤ r → r < Rn → rowF Rn Cn (scrollG Rn Cn (scrollG Rn Cn cs 0 ((Rn : Int) - 1) n q) 0 ((Rn : Int) - 1) (-(n : Int)) q) r = rowF Rn Cn cs r := by
 obtain ⟨Rm, Cm, e1, e2, h1, h2, h3, h4, hl, hall⟩ := gridB_out hg
 obtain rfl : Rn = Rm := by omega
 obtain rfl : Cn = Cm := by omega
 have hT : scrollG Rn Cn cs 0 ((Rn : Int) - 1) n q = tab Rn Cn (scrollF Rn Cn cs 0 ((Rn : Int) - 1) (clampS Rn n) q) := by
  unfold scrollG
  rw [if_pos ⟨hg, hq, by omega, by omega, by omega⟩]
  simp
 have hgT : gridB Rn Cn (tab Rn Cn (scrollF Rn Cn cs 0 ((Rn : Int) - 1) (clampS Rn n) q)) = true := gridB_tab h1 h2 h3 h4 (fun r k _ _ => scrollF_ok hall hq r k)
 have hB : scrollG Rn Cn (tab Rn Cn (scrollF Rn Cn cs 0 ((Rn : Int) - 1) (clampS Rn n) q)) 0 ((Rn : Int) - 1) (-(n : Int)) q = tab Rn Cn (scrollF Rn Cn (tab Rn Cn (scrollF Rn Cn cs 0 ((Rn : Int) - 1) (clampS Rn n) q)) 0 ((Rn : Int) - 1) (clampS Rn (-(n : Int))) q) := by
  unfold scrollG
  rw [if_pos ⟨hgT, hq, by omega, by omega, by omega⟩]
  simp
 rw [hT, hB]
 refine ⟨hgT, gridB_tab h1 h2 h3 h4 (fun r k _ _ => scrollF_ok (gridB_all hgT) hq r k), fun r hn hr => ?_⟩
 have hc1 : clampS Rn n = n := by unfold clampS; rw [if_neg (by omega), if_neg (by omega)]
 have hc2 : clampS Rn (-(n : Int)) = -(n : Int) := by unfold clampS; rw [if_neg (by omega), if_neg (by omega)]
 rw [hc1, hc2]
 have hcond : (0 ≤ (r : Int) ∧ (r : Int) < (Rn : Int) ∧ 1 ≤ (Cn : Int) ∧ (r : Int) < ((Rn * Cn : Nat) : Int) / (Cn : Int)) := by
  refine ⟨by omega, by omega, by omega, ?_⟩
  rw [show ((Rn * Cn : Nat) : Int) = (Rn : Int) * (Cn : Int) by simp, Int.mul_ediv_cancel _ (by omega)]
  omega
 unfold rowF
 rw [tab_len, if_pos hcond, hl, if_pos hcond]
 have ep : ((r : Int) * (Cn : Int)).toNat = r * Cn := by
  rw [show (r : Int) * (Cn : Int) = ((r * Cn : Nat) : Int) by simp]
  rfl
 rw [ep, show ((Cn : Nat) : Int).toNat = Cn from rfl]
 refine List.ext_getElem? (fun j => ?_)
 rw [List.getElem?_take, List.getElem?_take]
 by_cases hj : j < Cn
 ·rw [if_pos hj, if_pos hj, List.getElem?_drop, List.getElem?_drop, tab_atK _ hr hj, atF_getK (d := q) hr hj hl]
  congr 1
  have hr2 : r - n < Rn := by omega
  have e3 : scrollF Rn Cn (tab Rn Cn (scrollF Rn Cn cs 0 ((Rn : Int) - 1) n q)) 0 ((Rn : Int) - 1) (-(n : Int)) q r j = atF Rn Cn (tab Rn Cn (scrollF Rn Cn cs 0 ((Rn : Int) - 1) n q)) ((r : Int) + -(n : Int)) j q := by
   unfold scrollF
   rw [if_pos (by omega), if_pos (by omega)]
  rw [e3, show (r : Int) + -(n : Int) = ((r - n : Nat) : Int) by omega, atF_tabK _ _ hr2 hj]
  unfold scrollF
  rw [if_pos (by omega), if_pos (by omega), show ((r - n : Nat) : Int) + (n : Int) = (r : Int) by omega]
 ·rw [if_neg hj, if_neg hj]
/-- A grid grown, and shrunk back. -/
theorem grow_back {Rn Cn a b : Nat} {cs : List C4} (hg : gridB Rn Cn cs = true) (ha : Rn + a ≤ 30) (hb : Cn + b ≤ 100) :
  rsR Rn Cn cs ((Rn : Int) + a) = (Rn : Int) + a ∧ rsC Rn Cn cs ((Cn : Int) + b) = (Cn : Int) + b ∧ gridB ((Rn : Int) + a) ((Cn : Int) + b) (rsG Rn Cn cs ((Rn : Int) + a) ((Cn : Int) + b)) = true ∧
  rsR ((Rn : Int) + a) ((Cn : Int) + b) (rsG Rn Cn cs ((Rn : Int) + a) ((Cn : Int) + b)) Rn = Rn ∧ rsC ((Rn : Int) + a) ((Cn : Int) + b) (rsG Rn Cn cs ((Rn : Int) + a) ((Cn : Int) + b)) Cn = Cn ∧
  rsG ((Rn : Int) + a) ((Cn : Int) + b) (rsG Rn Cn cs ((Rn : Int) + a) ((Cn : Int) + b)) Rn Cn = cs := by
 obtain ⟨Rm, Cm, e1, e2, h1, h2, h3, h4, hl, hall⟩ := gridB_out hg
 obtain rfl : Rn = Rm := by omega
 obtain rfl : Cn = Cm := by omega
 have k1 : clamp ((Rn : Int) + a) 30 = (Rn : Int) + a := by unfold clamp; rw [if_neg (by omega), if_neg (by omega)]
 have k2 : clamp ((Cn : Int) + b) 100 = (Cn : Int) + b := by unfold clamp; rw [if_neg (by omega), if_neg (by omega)]
 have k3 : clamp (Rn : Int) 30 = Rn := by unfold clamp; rw [if_neg (by omega), if_neg (by omega)]
 have k4 : clamp (Cn : Int) 100 = Cn := by unfold clamp; rw [if_neg (by omega), if_neg (by omega)]
 have hG : rsG Rn Cn cs ((Rn : Int) + a) ((Cn : Int) + b) = tab (Rn + a) (Cn + b) (resF Rn Cn cs) := by
  unfold rsG
  rw [if_pos hg, k1, k2]
  rfl
 have hv : gridB ((Rn : Int) + a) ((Cn : Int) + b) (tab (Rn + a) (Cn + b) (resF Rn Cn cs)) = true := by
  have h := gridB_tab (Rn := Rn + a) (Cn := Cn + b) (F := resF Rn Cn cs) (by omega) ha (by omega) hb (fun r k _ _ => by unfold resF; exact atF_ok hall (by decide))
  simpa using h
 rw [hG]
 refine ⟨by unfold rsR; rw [if_pos hg, k1], by unfold rsC; rw [if_pos hg, k2], hv, by unfold rsR; rw [if_pos hv, k3], by unfold rsC; rw [if_pos hv, k4], ?_⟩
 unfold rsG
 rw [if_pos hv, k3, k4]
 rw [show ((Rn : Int) + a).toNat = Rn + a by omega, show ((Cn : Int) + b).toNat = Cn + b by omega]
 refine tab_same blk h3 hl (fun r k hr hk => ?_)
 show atF (Rn + a) (Cn + b) (tab (Rn + a) (Cn + b) (resF Rn Cn cs)) r k blk = _
 rw [atF_tabK _ _ (by omega) (by omega)]
 rfl

set_option maxRecDepth 100000 in
set_option maxHeartbeats 8000000 in
theorem keeps16_any (A : Option Addr) (n c : Nat) (xs : List Int) (num row col more : Int) (w : World) (hr : RdI w A n xs) (hA : 0 < n → ∀ ad, A = some ad → ad.block < w.heap.size) (hn : n ≤ 9223372036854775807) (hmore : -9223372036854775808 ≤ more ∧ more ≤ 9223372036854775807) :
  Calls Try.prog 7 #[.slice A n c, .int .i64 num, .int .i64 row, .int .i64 col, .int .i64 more] w fun e w' => e = .returned (.bool true) ∧ Bw w w' := by
 have HR := Lib.hid hr
 have HAA := Lib.hid hA
 clear hr hA
 go_enter Try.func7, Try.ntmps7
 go_upto_region 4 with (first
  | (go_at_call 8; refine (sane16_any _).mono ?_; rintro ee ws ⟨rfl, hbs⟩; have hzs := hbs.size)
  | (go_at_call 9; refine (made16_any A n c xs _ (HR.out.up (fun hz ad e => HAA.out hz ad e) hbs) (fun h0 ad e => by have := HAA.out h0 ad e; have := (hbs : Bw w _).size; omega) hn).mono ?_; rintro ee w2 ⟨Rn, Cn, Ag, ng, cg, cs, rfl, ⟨b1, b2, b3, b4⟩, hng, hrg, hgv, hngc, hcg, hnew, hb2⟩; have HRG := Lib.hid hrg; have HGV := Lib.hid hgv; have HNEW := Lib.hid hnew; have HNG := Lib.hid hng; have hbw2 : Bw w w2 := Bw.trans hbs hb2; have hz2 := hb2.size; clear hrg hgv hnew hng)
  | ((with_reducible refine wpList_store_gr (Rn : Int) (Cn : Int) Ag ng cg w2.heap.size (.tmp 11) (.tmp 20) rfl rfl ?_ ?_ ?_ ?_); (focus rfl); (focus rfl); (focus (exact ⟨_, heap_at rfl, rfl⟩)); intro w3 hS3 hg3; have HS3 := Lib.hid hS3; have HG3 := Lib.hid hg3; clear hS3 hg3)
  | fail)
 have hg3 := HG3.out
 have hng := HNG.out
 have hng1 : 1 ≤ ng := by rw [hng]; exact Nat.mul_pos (by omega) (by omega)
 have hng2 : ng ≤ 45 := by rw [hng]; exact Nat.le_trans (Nat.mul_le_mul b2 b4) (by omega)
 have hglt := HRG.out.lt (by have := HRG.out.1; omega)
 have hb23 : Bw w2 w3 := Bw.grown (show Bw w2 (w2.alloc _) from BWX) hg3 (fun k hk => by cases hk; omega)
 have hbw3 : Bw w w3 := Bw.trans hbw2 hb23
 obtain ⟨g, hgg⟩ : ∃ g, w2.heap.size = g := ⟨_, rfl⟩
 rw [hgg] at HS3
 simp only [hgg]
 have HR3 := Lib.hid (HRG.out.up hb23)
 have hgz : w.heap.size ≤ g := by rw [← hgg]; exact hbw2.size
 have hgne : ∀ ad, Ag = some ad → ad.block ≠ g := fun ad e => by have := hglt ad e; omega
 have HNE := Lib.hid hgne
 have hg3z : g < w3.heap.size := HS3.out.lt
 clear hg3 hng hglt hb23 hgg hgne HG3 HRG HNEW hbw2 hz2 hb2 hbs hzs HAA HR
 obtain ⟨m0, hm0⟩ : ∃ q : Nat, num % ((Rn : Int) + 2) = q := ⟨(num % ((Rn : Int) + 2)).toNat, by have := Int.emod_nonneg num (show (Rn : Int) + 2 ≠ 0 by omega); omega⟩
 have hm0b : m0 < Rn + 2 := by have := Int.emod_lt_of_pos num (show (0 : Int) < (Rn : Int) + 2 by omega); omega
 obtain ⟨a0, ha0⟩ : ∃ q : Nat, more % 5 = q := ⟨(more % 5).toNat, by omega⟩
 obtain ⟨b0, hb0⟩ : ∃ q : Nat, more.tdiv 5 % 5 = q := ⟨(more.tdiv 5 % 5).toNat, by omega⟩
 have ha0b : a0 < 5 := by omega
 have hb0b : b0 < 5 := by omega
 have HM := Lib.hid (And.intro hm0 (And.intro ha0 hb0))
 have HPL := Lib.hid (keeps_plain (n := m0) (q := (113, 0, 0, 0)) HGV.out (by decide))
 have HGB := Lib.hid (grow_back (a := a0) (b := b0) HGV.out (by omega) (by omega))
 clear hm0 ha0 hb0
 have x0 := HS3.out.cell 0 (v := .int .i64 (Rn : Int)) rfl
 have hwr2 : IntKind.i64.wrap ((Rn : Int) + 2) = (Rn : Int) + 2 := IntWalk.i64_in _ (by omega)
 go_upto_region 6 with (first
  | (go_at_call 13; refine (mmod_any _ _ _ (by omega) (by omega)).mono ?_; rintro ee ww ⟨rfl, rfl⟩; rw [HM.out.1])
  | fail)
 generalize hw4 : w3.alloc _ = w4
 obtain ⟨hbq, hbw4, hz4⟩ := sb1 hw4
 have HBQ := Lib.hid (show Sb w4 w3.heap.size #[.int .i64 113, .int .i64 0, .int .i64 0, .int .i64 0] 39 from hbq)
 obtain ⟨gq, hgq⟩ : ∃ gq, w3.heap.size = gq := ⟨_, rfl⟩
 rw [hgq] at HBQ
 simp only [hgq]
 have HS4 := Lib.hid (HS3.out.up hbw4)
 have HR4 := Lib.hid (HR3.out.up hbw4)
 clear hw4 hbq x0 hgq
 have x0 := HS4.out.cell 0 (v := .int .i64 (Rn : Int)) rfl
 have x1 := HS4.out.cell 1 (v := .int .i64 (Cn : Int)) rfl
 have x2 := HS4.out.cell 2 (v := .slice Ag ng cg) rfl
 have q0 := HBQ.out.cell 0 (v := .int .i64 113) rfl
 have q1 := HBQ.out.cell 1 (v := .int .i64 0) rfl
 have q2 := HBQ.out.cell 2 (v := .int .i64 0) rfl
 have q3 := HBQ.out.cell 3 (v := .int .i64 0) rfl
 go_upto_region 7 with (first
  | (go_at_call 24; refine (gscroll_any Rn Cn Ag ng cg cs 0 ((Rn : Int) - 1) m0 113 0 0 0 _ HR4.out hngc (by omega) hcg).mono ?_; rintro ee w5 ⟨A5, n5, c5, rfl, hr5, hn5, hc5, hnew5, hb45⟩; have HR5 := Lib.hid hr5; clear hr5 hnew5 x0 x1 x2 q0 q1 q2 q3)
  | ((with_reducible refine wpList_store_gr (Rn : Int) (Cn : Int) A5 n5 c5 w5.heap.size (.tmp 13) (.tmp 33) rfl rfl ?_ ?_ ?_ ?_); (focus rfl); (focus rfl); (focus (exact ⟨_, heap_at rfl, rfl⟩)); intro w6 hS6 hg6; have HS6 := Lib.hid hS6; have HG6 := Lib.hid hg6; clear hS6 hg6)
  | fail)
 have hb56 : Bw w5 w6 := Bw.grown (show Bw w5 (w5.alloc _) from BWX) HG6.out (fun k hk => by cases hk; omega)
 have hb46 : Bw w4 w6 := Bw.trans hb45 hb56
 have hlen5 : n5 = ng := by
  obtain ⟨Rm, Cm, e1, e2, -, -, -, -, hl, -⟩ := gridB_out HPL.out.1
  have h1 := HR5.out.1; have h3 := HNG.out
  obtain rfl : Rn = Rm := by omega
  obtain rfl : Cn = Cm := by omega
  rw [hl] at h1
  omega
 obtain rfl : n5 = ng := hlen5
 have HR6 := Lib.hid (HR5.out.up hb56)
 obtain ⟨g11, hg11⟩ : ∃ g11, w5.heap.size = g11 := ⟨_, rfl⟩
 rw [hg11] at HS6
 simp only [hg11]
 have x0 := (HS4.out.up hb46).cell 0 (v := .int .i64 (Rn : Int)) rfl
 have y0 := HS6.out.cell 0 (v := .int .i64 (Rn : Int)) rfl
 have y1 := HS6.out.cell 1 (v := .int .i64 (Cn : Int)) rfl
 have y2 := HS6.out.cell 2 (v := .slice A5 n5 c5) rfl
 have q0 := (HBQ.out.up hb46).cell 0 (v := .int .i64 113) rfl
 have q1 := (HBQ.out.up hb46).cell 1 (v := .int .i64 0) rfl
 have q2 := (HBQ.out.up hb46).cell 2 (v := .int .i64 0) rfl
 have q3 := (HBQ.out.up hb46).cell 3 (v := .int .i64 0) rfl
 clear HG6 hg11
 go_upto_region 8 with (first
  | (go_at_call 24; refine (gscroll_any Rn Cn A5 n5 c5 _ 0 ((Rn : Int) - 1) (-(m0 : Int)) 113 0 0 0 _ HR6.out hn5 (by omega) hc5).mono ?_; rintro ee w7 ⟨A7, n7, c7, rfl, hr7, hn7, hc7, hnew7, hb67⟩; have HR7 := Lib.hid hr7; clear hr7 hnew7 x0 y0 y1 y2 q0 q1 q2 q3)
  | ((with_reducible refine wpList_store_gr (Rn : Int) (Cn : Int) A7 n7 c7 w7.heap.size (.tmp 14) (.tmp 41) rfl rfl ?_ ?_ ?_ ?_); (focus rfl); (focus rfl); (focus (exact ⟨_, heap_at rfl, rfl⟩)); intro w8 hS8 hg8; have HS8 := Lib.hid hS8; have HG8 := Lib.hid hg8; clear hS8 hg8)
  | fail)
 have hb78 : Bw w7 w8 := Bw.grown (show Bw w7 (w7.alloc _) from BWX) HG8.out (fun k hk => by cases hk; omega)
 have hb68 : Bw w6 w8 := Bw.trans hb67 hb78
 have hb48 : Bw w4 w8 := Bw.trans hb46 hb68
 have hlen7 : n7 = n5 := by
  obtain ⟨Rm, Cm, e1, e2, -, -, -, -, hl, -⟩ := gridB_out HPL.out.2.1
  have h1 := HR7.out.1; have h3 := HNG.out
  obtain rfl : Rn = Rm := by omega
  obtain rfl : Cn = Cm := by omega
  rw [hl] at h1
  omega
 obtain rfl : n7 = n5 := hlen7
 obtain ⟨g12, hg12⟩ : ∃ g12, w7.heap.size = g12 := ⟨_, rfl⟩
 rw [hg12] at HS8
 simp only [hg12]
 have HRg := Lib.hid (HR4.out.up hb48)
 have HRu := Lib.hid (HR6.out.up hb68)
 have HRd := Lib.hid (HR7.out.up hb78)
 have HSg := Lib.hid (HS4.out.up hb48)
 have HSu := Lib.hid (HS6.out.up hb68)
 have HSq := Lib.hid (HBQ.out.up hb48)
 have HBW := Lib.hid (show Bw w w8 from Bw.trans hbw3 (Bw.trans hbw4 hb48))
 clear HG8 hg12 hb78 hb67 hb68 hb48 hb46 hb45 hb56 hbw4 HR3 HR4 HR5 HR6 HR7 HS3 HS4 HS6 HBQ hbw3 hz4 HNE hgz hg3z
 have HY := Lib.hid (show ∀ w', Bw w8 w' → (w'.cell? ⟨g, 0, none⟩ = some (.int .i64 (Rn : Int)) ∧ w'.cell? ⟨g, 1, none⟩ = some (.int .i64 (Cn : Int)) ∧ w'.cell? ⟨g, 2, none⟩ = some (.slice Ag n7 cg)) from fun w' hb => ⟨(HSg.out.up hb).cell 0 rfl, (HSg.out.up hb).cell 1 rfl, (HSg.out.up hb).cell 2 rfl⟩)
 have hq5 : IntKind.i64.wrap (more.tdiv 5) = more.tdiv 5 := by rw [IntWalk.i64_quo' _ _ (by omega)]
 have hwa : IntKind.i64.wrap ((Rn : Int) + (a0 : Int)) = (Rn : Int) + (a0 : Int) := IntWalk.i64_in _ (by omega)
 have hwb : IntKind.i64.wrap ((Cn : Int) + (b0 : Int)) = (Cn : Int) + (b0 : Int) := IntWalk.i64_in _ (by omega)
 dsimp only [Act.put]
 go_cut [15] (fun s15 w' => ∃ g15 Ab nb cb, s15 = .pointer (some ⟨g15, 0, none⟩) ∧ Sb w' g15 (grV ((Rn : Int) + a0) ((Cn : Int) + b0) Ab nb cb) 25 ∧ Rg w' Ab nb (rsG Rn Cn cs ((Rn : Int) + a0) ((Cn : Int) + b0)) ∧ nb ≤ cb ∧ cb ≤ 9223372036854775807 ∧ Bw w8 w')
 case first =>
  have HYg := Lib.hid (show ∀ w' w'' {row : Nat}, Bw w8 w' → w'.grownBy w'' (some row) → w8.heap.size ≤ row → (w''.cell? ⟨g, 0, none⟩ = some (.int .i64 (Rn : Int)) ∧ w''.cell? ⟨g, 1, none⟩ = some (.int .i64 (Cn : Int)) ∧ w''.cell? ⟨g, 2, none⟩ = some (.slice Ag n7 cg)) from fun w' w'' row hb hg hr => ⟨((HSg.out.up hb).far hg (by intro e; have := Option.some.inj e; have := HSg.out.lt; omega)).cell 0 rfl, ((HSg.out.up hb).far hg (by intro e; have := Option.some.inj e; have := HSg.out.lt; omega)).cell 1 rfl, ((HSg.out.up hb).far hg (by intro e; have := Option.some.inj e; have := HSg.out.lt; omega)).cell 2 rfl⟩)
  refine wp_region_held_drew (S := (fun w' => w'.cell? ⟨g, 0, none⟩ = some (.int .i64 (Rn : Int)) ∧ w'.cell? ⟨g, 1, none⟩ = some (.int .i64 (Cn : Int)) ∧ w'.cell? ⟨g, 2, none⟩ = some (.slice Ag n7 cg))) (by kernel_rfl) ?_ (fun hHeld => ?_)
  ·(try dsimp only); (first | (exact HYg.out _ _ BWX HG9.out (by omega)) | (refine HY.out _ ?_; (repeat (first | with_reducible (first | assumption | exact Bw.refl _ | refine Bw.alloc ?_ _ | refine Bw.more ?_ _ _ | refine Bw.drew ?_ | refine Bw.drewN ?_ _) | ((with_reducible refine Bw.set2 ?_ ?_ _); (focus exact SZX)) | with_reducible refine Bw.trans ?_ (by assumption))); done))
  refine tkQ 0 rfl (Or.inl ⟨by rfl, tkY⟩) ?_
  refine tkQ 1 rfl (Or.inl ⟨by rfl, tkY⟩) ?_
  refine tkQ 2 rfl (Or.inl ⟨by rfl, tkY⟩) ?_
  (try simp only [Act.put, p1, p2, p3, p4, p5, p6])
  refine tkQ 3 rfl (Or.inl ⟨by rfl, tkY⟩) ?_
  refine tkQ 6 rfl (Or.inl ⟨by rfl, tkY⟩) ?_
  refine tkQ 7 rfl (Or.inl ⟨by rfl, tkY⟩) ?_
  (try simp only [Act.put, p1, p2, p3, p4, p5, p6])
  refine tkQ 8 rfl (Or.inl ⟨by rfl, tkY⟩) ?_
  refine tkQ 9 rfl (Or.inl ⟨by rfl, tkY⟩) ?_
  (try simp only [Act.put, p1, p2, p3, p4, p5, p6])
  refine wpAnyH_ready (rs := [4, 13]) (by kernel_rfl) (by simp) ?_
  refine AllReadyH.cons rfl (fun K hK => ?_) ?_
  ·go_simp
   (try rw [hq5]); refine (mmod_any _ _ _ (by omega) (by omega)).mono ?_; rintro ee ww ⟨rfl, rfl⟩; (first | rw [HM.out.2.1] | rw [HM.out.2.2]); go_wp2_with fail
   refine hK.out _ _ ?_ (fun hHeld => ?_)
   ·(try dsimp only); (first | (exact HYg.out _ _ BWX HG9.out (by omega)) | (refine HY.out _ ?_; (repeat (first | with_reducible (first | assumption | exact Bw.refl _ | refine Bw.alloc ?_ _ | refine Bw.more ?_ _ _ | refine Bw.drew ?_ | refine Bw.drewN ?_ _) | ((with_reducible refine Bw.set2 ?_ ?_ _); (focus exact SZX)) | with_reducible refine Bw.trans ?_ (by assumption))); done))
   clear hK K
   (try simp only [Act.put, p1, p2, p3, p4, p5, p6])
   refine tkQ 5 rfl (Or.inl ⟨by rfl, tkY⟩) ?_
   (try simp only [Act.put, p1, p2, p3, p4, p5, p6])
   refine wpAnyH_ready (rs := [10, 13]) (by kernel_rfl) (by simp) ?_
   refine AllReadyH.cons rfl (fun K hK => ?_) ?_
   ·go_simp
    (try rw [hq5]); refine (mmod_any _ _ _ (by omega) (by omega)).mono ?_; rintro ee ww ⟨rfl, rfl⟩; (first | rw [HM.out.2.1] | rw [HM.out.2.2]); go_wp2_with fail
    refine hK.out _ _ ?_ (fun hHeld => ?_)
    ·(try dsimp only); (first | (exact HYg.out _ _ BWX HG9.out (by omega)) | (refine HY.out _ ?_; (repeat (first | with_reducible (first | assumption | exact Bw.refl _ | refine Bw.alloc ?_ _ | refine Bw.more ?_ _ _ | refine Bw.drew ?_ | refine Bw.drewN ?_ _) | ((with_reducible refine Bw.set2 ?_ ?_ _); (focus exact SZX)) | with_reducible refine Bw.trans ?_ (by assumption))); done))
    clear hK K
    (try simp only [Act.put, p1, p2, p3, p4, p5, p6])
    refine tkQ 11 rfl (Or.inl ⟨by rfl, tkY⟩) ?_
    (try simp only [Act.put, p1, p2, p3, p4, p5, p6])
    refine wpAnyH_ready (rs := [12, 13]) (by kernel_rfl) (by simp) ?_
    refine AllReadyH.cons rfl (fun K hK => ?_) ?_
    ·go_simp
     (try rw [hwa]); (try rw [hwb]); refine (gresize_any Rn Cn Ag n7 cg cs ((Rn : Int) + a0) ((Cn : Int) + b0) _ (HRg.out.up BWX) hngc (by omega) hcg).mono ?_; rintro ee w9 ⟨A9, n9, c9, rfl, hr9, hn9, hc9, hnew9, hb9⟩; rw [HGB.out.1, HGB.out.2.1]; have HR9 := Lib.hid hr9; have hz9 : w8.heap.size ≤ w9.heap.size := (show Bw w8 w9 from BWX).size; clear hr9; go_wp2_with fail
     refine hK.out _ _ ?_ (fun hHeld => ?_)
     ·(try dsimp only); (first | (exact HYg.out _ _ BWX HG9.out (by omega)) | (refine HY.out _ ?_; (repeat (first | with_reducible (first | assumption | exact Bw.refl _ | refine Bw.alloc ?_ _ | refine Bw.more ?_ _ _ | refine Bw.drew ?_ | refine Bw.drewN ?_ _) | ((with_reducible refine Bw.set2 ?_ ?_ _); (focus exact SZX)) | with_reducible refine Bw.trans ?_ (by assumption))); done))
     clear hK K
     (try simp only [Act.put, p1, p2, p3, p4, p5, p6])
     refine wpAnyH_ready (rs := [13]) (by kernel_rfl) (by simp) ?_
     refine AllReadyH.cons rfl (fun K hK => ?_) ?_
     ·go_simp
      refine hK.out _ _ ?_ (fun hHeld => ?_)
      ·(try dsimp only); (first | (exact HYg.out _ _ BWX HG9.out (by omega)) | (refine HY.out _ ?_; (repeat (first | with_reducible (first | assumption | exact Bw.refl _ | refine Bw.alloc ?_ _ | refine Bw.more ?_ _ _ | refine Bw.drew ?_ | refine Bw.drewN ?_ _) | ((with_reducible refine Bw.set2 ?_ ?_ _); (focus exact SZX)) | with_reducible refine Bw.trans ?_ (by assumption))); done))
      clear hK K
      (try simp only [Act.put, p1, p2, p3, p4, p5, p6])
      refine wpAnyH_ready (rs := [14]) (by kernel_rfl) (by simp) ?_
      refine AllReadyH.cons rfl (fun K hK => ?_) ?_
      ·(refine (if_pos (by kernel_rfl)).mpr ?_); ((with_reducible refine wp_store_gr ((Rn : Int) + a0) ((Cn : Int) + b0) A9 n9 c9 w9.heap.size (.tmp 15) (.tmp 54) ?_ ?_ ?_ ?_ ?_); (focus rfl); (focus rfl); (focus rfl); (focus (exact ⟨_, heap_at rfl, rfl⟩))); intro w10 hS10 hg10; have HS10 := Lib.hid hS10; have HG9 := Lib.hid hg10; clear hS10 hg10
       refine hK.out _ _ ?_ (fun hHeld => ?_)
       ·(try dsimp only); (first | (exact HYg.out _ _ BWX HG9.out (by omega)) | (refine HY.out _ ?_; (repeat (first | with_reducible (first | assumption | exact Bw.refl _ | refine Bw.alloc ?_ _ | refine Bw.more ?_ _ _ | refine Bw.drew ?_ | refine Bw.drewN ?_ _) | ((with_reducible refine Bw.set2 ?_ ?_ _); (focus exact SZX)) | with_reducible refine Bw.trans ?_ (by assumption))); done))
       clear hK K
       (try simp only [Act.put, p1, p2, p3, p4, p5, p6])
       refine wpAnyH_done (by kernel_rfl) ?_ _
       go_wp2_with fail
       go_meet
       case rel =>
        have hlt9 : ∀ ad, A9 = some ad → ad.block < w9.heap.size := fun ad e => HR9.out.lt0 (by have h := HGB.out.2.2.1; obtain ⟨_, _, e1, e2, h1, -, h3, -, hl, -⟩ := gridB_out h; rw [hl]; exact Nat.mul_pos (by omega) (by omega)) ad e
        refine ⟨_, A9, n9, c9, rfl, HS10.out, (HR9.out.up BWX).far HG9.out (fun ad e e2 => ?_), hn9, hc9, Bw.grown (show Bw w8 _ from BWX) HG9.out (fun k hk => by cases hk; first | omega | (simp only [szA, szD] at *; omega))⟩
        have h1 := hlt9 ad e
        have h2 := hnew9 ad e
        have h3 := Option.some.inj e2
        first | omega | (simp only [szA, szD] at *; omega)
      exact AllReadyH.nil
     exact AllReadyH.nil
    refine AllReadyH.cons rfl (fun K hK => ?_) ?_
    ·go_simp
     refine hK.out _ _ ?_ (fun hHeld => ?_)
     ·(try dsimp only); (first | (exact HYg.out _ _ BWX HG9.out (by omega)) | (refine HY.out _ ?_; (repeat (first | with_reducible (first | assumption | exact Bw.refl _ | refine Bw.alloc ?_ _ | refine Bw.more ?_ _ _ | refine Bw.drew ?_ | refine Bw.drewN ?_ _) | ((with_reducible refine Bw.set2 ?_ ?_ _); (focus exact SZX)) | with_reducible refine Bw.trans ?_ (by assumption))); done))
     clear hK K
     (try simp only [Act.put, p1, p2, p3, p4, p5, p6])
     refine wpAnyH_ready (rs := [12]) (by kernel_rfl) (by simp) ?_
     refine AllReadyH.cons rfl (fun K hK => ?_) ?_
     ·go_simp
      (try rw [hwa]); (try rw [hwb]); refine (gresize_any Rn Cn Ag n7 cg cs ((Rn : Int) + a0) ((Cn : Int) + b0) _ (HRg.out.up BWX) hngc (by omega) hcg).mono ?_; rintro ee w9 ⟨A9, n9, c9, rfl, hr9, hn9, hc9, hnew9, hb9⟩; rw [HGB.out.1, HGB.out.2.1]; have HR9 := Lib.hid hr9; have hz9 : w8.heap.size ≤ w9.heap.size := (show Bw w8 w9 from BWX).size; clear hr9; go_wp2_with fail
      refine hK.out _ _ ?_ (fun hHeld => ?_)
      ·(try dsimp only); (first | (exact HYg.out _ _ BWX HG9.out (by omega)) | (refine HY.out _ ?_; (repeat (first | with_reducible (first | assumption | exact Bw.refl _ | refine Bw.alloc ?_ _ | refine Bw.more ?_ _ _ | refine Bw.drew ?_ | refine Bw.drewN ?_ _) | ((with_reducible refine Bw.set2 ?_ ?_ _); (focus exact SZX)) | with_reducible refine Bw.trans ?_ (by assumption))); done))
      clear hK K
      (try simp only [Act.put, p1, p2, p3, p4, p5, p6])
      refine wpAnyH_ready (rs := [14]) (by kernel_rfl) (by simp) ?_
      refine AllReadyH.cons rfl (fun K hK => ?_) ?_
      ·(refine (if_pos (by kernel_rfl)).mpr ?_); ((with_reducible refine wp_store_gr ((Rn : Int) + a0) ((Cn : Int) + b0) A9 n9 c9 w8.heap.size (.tmp 15) (.tmp 54) ?_ ?_ ?_ ?_ ?_); (focus rfl); (focus rfl); (focus rfl); (focus (exact ⟨_, Sb.up (w := w8.drew.alloc (.cells #[.int .i64 0, .int .i64 0, .slice none 0 0] 25)) (heap_at rfl) (by assumption), rfl⟩))); intro w10 hS10 hg10; have HS10 := Lib.hid hS10; have HG9 := Lib.hid hg10; clear hS10 hg10
       refine hK.out _ _ ?_ (fun hHeld => ?_)
       ·(try dsimp only); (first | (exact HYg.out _ _ BWX HG9.out (by omega)) | (refine HY.out _ ?_; (repeat (first | with_reducible (first | assumption | exact Bw.refl _ | refine Bw.alloc ?_ _ | refine Bw.more ?_ _ _ | refine Bw.drew ?_ | refine Bw.drewN ?_ _) | ((with_reducible refine Bw.set2 ?_ ?_ _); (focus exact SZX)) | with_reducible refine Bw.trans ?_ (by assumption))); done))
       clear hK K
       (try simp only [Act.put, p1, p2, p3, p4, p5, p6])
       refine wpAnyH_done (by kernel_rfl) ?_ _
       go_wp2_with fail
       go_meet
       case rel =>
        have hlt9 : ∀ ad, A9 = some ad → ad.block < w9.heap.size := fun ad e => HR9.out.lt0 (by have h := HGB.out.2.2.1; obtain ⟨_, _, e1, e2, h1, -, h3, -, hl, -⟩ := gridB_out h; rw [hl]; exact Nat.mul_pos (by omega) (by omega)) ad e
        refine ⟨_, A9, n9, c9, rfl, HS10.out, (HR9.out.up BWX).far HG9.out (fun ad e e2 => ?_), hn9, hc9, Bw.grown (show Bw w8 _ from BWX) HG9.out (fun k hk => by cases hk; first | omega | (simp only [szA, szD] at *; omega))⟩
        have h1 := hlt9 ad e
        have h2 := hnew9 ad e
        have h3 := Option.some.inj e2
        first | omega | (simp only [szA, szD] at *; omega)
      exact AllReadyH.nil
     exact AllReadyH.nil
    exact AllReadyH.nil
   refine AllReadyH.cons rfl (fun K hK => ?_) ?_
   ·go_simp
    refine hK.out _ _ ?_ (fun hHeld => ?_)
    ·(try dsimp only); (first | (exact HYg.out _ _ BWX HG9.out (by omega)) | (refine HY.out _ ?_; (repeat (first | with_reducible (first | assumption | exact Bw.refl _ | refine Bw.alloc ?_ _ | refine Bw.more ?_ _ _ | refine Bw.drew ?_ | refine Bw.drewN ?_ _) | ((with_reducible refine Bw.set2 ?_ ?_ _); (focus exact SZX)) | with_reducible refine Bw.trans ?_ (by assumption))); done))
    clear hK K
    (try simp only [Act.put, p1, p2, p3, p4, p5, p6])
    refine wpAnyH_ready (rs := [10]) (by kernel_rfl) (by simp) ?_
    refine AllReadyH.cons rfl (fun K hK => ?_) ?_
    ·go_simp
     (try rw [hq5]); refine (mmod_any _ _ _ (by omega) (by omega)).mono ?_; rintro ee ww ⟨rfl, rfl⟩; (first | rw [HM.out.2.1] | rw [HM.out.2.2]); go_wp2_with fail
     refine hK.out _ _ ?_ (fun hHeld => ?_)
     ·(try dsimp only); (first | (exact HYg.out _ _ BWX HG9.out (by omega)) | (refine HY.out _ ?_; (repeat (first | with_reducible (first | assumption | exact Bw.refl _ | refine Bw.alloc ?_ _ | refine Bw.more ?_ _ _ | refine Bw.drew ?_ | refine Bw.drewN ?_ _) | ((with_reducible refine Bw.set2 ?_ ?_ _); (focus exact SZX)) | with_reducible refine Bw.trans ?_ (by assumption))); done))
     clear hK K
     (try simp only [Act.put, p1, p2, p3, p4, p5, p6])
     refine tkQ 11 rfl (Or.inl ⟨by rfl, tkY⟩) ?_
     (try simp only [Act.put, p1, p2, p3, p4, p5, p6])
     refine wpAnyH_ready (rs := [12]) (by kernel_rfl) (by simp) ?_
     refine AllReadyH.cons rfl (fun K hK => ?_) ?_
     ·go_simp
      (try rw [hwa]); (try rw [hwb]); refine (gresize_any Rn Cn Ag n7 cg cs ((Rn : Int) + a0) ((Cn : Int) + b0) _ (HRg.out.up BWX) hngc (by omega) hcg).mono ?_; rintro ee w9 ⟨A9, n9, c9, rfl, hr9, hn9, hc9, hnew9, hb9⟩; rw [HGB.out.1, HGB.out.2.1]; have HR9 := Lib.hid hr9; have hz9 : w8.heap.size ≤ w9.heap.size := (show Bw w8 w9 from BWX).size; clear hr9; go_wp2_with fail
      refine hK.out _ _ ?_ (fun hHeld => ?_)
      ·(try dsimp only); (first | (exact HYg.out _ _ BWX HG9.out (by omega)) | (refine HY.out _ ?_; (repeat (first | with_reducible (first | assumption | exact Bw.refl _ | refine Bw.alloc ?_ _ | refine Bw.more ?_ _ _ | refine Bw.drew ?_ | refine Bw.drewN ?_ _) | ((with_reducible refine Bw.set2 ?_ ?_ _); (focus exact SZX)) | with_reducible refine Bw.trans ?_ (by assumption))); done))
      clear hK K
      (try simp only [Act.put, p1, p2, p3, p4, p5, p6])
      refine wpAnyH_ready (rs := [14]) (by kernel_rfl) (by simp) ?_
      refine AllReadyH.cons rfl (fun K hK => ?_) ?_
      ·(refine (if_pos (by kernel_rfl)).mpr ?_); ((with_reducible refine wp_store_gr ((Rn : Int) + a0) ((Cn : Int) + b0) A9 n9 c9 w8.heap.size (.tmp 15) (.tmp 54) ?_ ?_ ?_ ?_ ?_); (focus rfl); (focus rfl); (focus rfl); (focus (exact ⟨_, Sb.up (w := w8.drew.alloc (.cells #[.int .i64 0, .int .i64 0, .slice none 0 0] 25)) (heap_at rfl) (by assumption), rfl⟩))); intro w10 hS10 hg10; have HS10 := Lib.hid hS10; have HG9 := Lib.hid hg10; clear hS10 hg10
       refine hK.out _ _ ?_ (fun hHeld => ?_)
       ·(try dsimp only); (first | (exact HYg.out _ _ BWX HG9.out (by omega)) | (refine HY.out _ ?_; (repeat (first | with_reducible (first | assumption | exact Bw.refl _ | refine Bw.alloc ?_ _ | refine Bw.more ?_ _ _ | refine Bw.drew ?_ | refine Bw.drewN ?_ _) | ((with_reducible refine Bw.set2 ?_ ?_ _); (focus exact SZX)) | with_reducible refine Bw.trans ?_ (by assumption))); done))
       clear hK K
       (try simp only [Act.put, p1, p2, p3, p4, p5, p6])
       refine wpAnyH_done (by kernel_rfl) ?_ _
       go_wp2_with fail
       go_meet
       case rel =>
        have hlt9 : ∀ ad, A9 = some ad → ad.block < w9.heap.size := fun ad e => HR9.out.lt0 (by have h := HGB.out.2.2.1; obtain ⟨_, _, e1, e2, h1, -, h3, -, hl, -⟩ := gridB_out h; rw [hl]; exact Nat.mul_pos (by omega) (by omega)) ad e
        refine ⟨_, A9, n9, c9, rfl, HS10.out, (HR9.out.up BWX).far HG9.out (fun ad e e2 => ?_), hn9, hc9, Bw.grown (show Bw w8 _ from BWX) HG9.out (fun k hk => by cases hk; first | omega | (simp only [szA, szD] at *; omega))⟩
        have h1 := hlt9 ad e
        have h2 := hnew9 ad e
        have h3 := Option.some.inj e2
        first | omega | (simp only [szA, szD] at *; omega)
      exact AllReadyH.nil
     exact AllReadyH.nil
    exact AllReadyH.nil
   exact AllReadyH.nil
  refine AllReadyH.cons rfl (fun K hK => ?_) ?_
  ·go_simp
   refine hK.out _ _ ?_ (fun hHeld => ?_)
   ·(try dsimp only); (first | (exact HYg.out _ _ BWX HG9.out (by omega)) | (refine HY.out _ ?_; (repeat (first | with_reducible (first | assumption | exact Bw.refl _ | refine Bw.alloc ?_ _ | refine Bw.more ?_ _ _ | refine Bw.drew ?_ | refine Bw.drewN ?_ _) | ((with_reducible refine Bw.set2 ?_ ?_ _); (focus exact SZX)) | with_reducible refine Bw.trans ?_ (by assumption))); done))
   clear hK K
   (try simp only [Act.put, p1, p2, p3, p4, p5, p6])
   refine wpAnyH_ready (rs := [4]) (by kernel_rfl) (by simp) ?_
   refine AllReadyH.cons rfl (fun K hK => ?_) ?_
   ·go_simp
    (try rw [hq5]); refine (mmod_any _ _ _ (by omega) (by omega)).mono ?_; rintro ee ww ⟨rfl, rfl⟩; (first | rw [HM.out.2.1] | rw [HM.out.2.2]); go_wp2_with fail
    refine hK.out _ _ ?_ (fun hHeld => ?_)
    ·(try dsimp only); (first | (exact HYg.out _ _ BWX HG9.out (by omega)) | (refine HY.out _ ?_; (repeat (first | with_reducible (first | assumption | exact Bw.refl _ | refine Bw.alloc ?_ _ | refine Bw.more ?_ _ _ | refine Bw.drew ?_ | refine Bw.drewN ?_ _) | ((with_reducible refine Bw.set2 ?_ ?_ _); (focus exact SZX)) | with_reducible refine Bw.trans ?_ (by assumption))); done))
    clear hK K
    (try simp only [Act.put, p1, p2, p3, p4, p5, p6])
    refine tkQ 5 rfl (Or.inl ⟨by rfl, tkY⟩) ?_
    (try simp only [Act.put, p1, p2, p3, p4, p5, p6])
    refine wpAnyH_ready (rs := [10]) (by kernel_rfl) (by simp) ?_
    refine AllReadyH.cons rfl (fun K hK => ?_) ?_
    ·go_simp
     (try rw [hq5]); refine (mmod_any _ _ _ (by omega) (by omega)).mono ?_; rintro ee ww ⟨rfl, rfl⟩; (first | rw [HM.out.2.1] | rw [HM.out.2.2]); go_wp2_with fail
     refine hK.out _ _ ?_ (fun hHeld => ?_)
     ·(try dsimp only); (first | (exact HYg.out _ _ BWX HG9.out (by omega)) | (refine HY.out _ ?_; (repeat (first | with_reducible (first | assumption | exact Bw.refl _ | refine Bw.alloc ?_ _ | refine Bw.more ?_ _ _ | refine Bw.drew ?_ | refine Bw.drewN ?_ _) | ((with_reducible refine Bw.set2 ?_ ?_ _); (focus exact SZX)) | with_reducible refine Bw.trans ?_ (by assumption))); done))
     clear hK K
     (try simp only [Act.put, p1, p2, p3, p4, p5, p6])
     refine tkQ 11 rfl (Or.inl ⟨by rfl, tkY⟩) ?_
     (try simp only [Act.put, p1, p2, p3, p4, p5, p6])
     refine wpAnyH_ready (rs := [12]) (by kernel_rfl) (by simp) ?_
     refine AllReadyH.cons rfl (fun K hK => ?_) ?_
     ·go_simp
      (try rw [hwa]); (try rw [hwb]); refine (gresize_any Rn Cn Ag n7 cg cs ((Rn : Int) + a0) ((Cn : Int) + b0) _ (HRg.out.up BWX) hngc (by omega) hcg).mono ?_; rintro ee w9 ⟨A9, n9, c9, rfl, hr9, hn9, hc9, hnew9, hb9⟩; rw [HGB.out.1, HGB.out.2.1]; have HR9 := Lib.hid hr9; have hz9 : w8.heap.size ≤ w9.heap.size := (show Bw w8 w9 from BWX).size; clear hr9; go_wp2_with fail
      refine hK.out _ _ ?_ (fun hHeld => ?_)
      ·(try dsimp only); (first | (exact HYg.out _ _ BWX HG9.out (by omega)) | (refine HY.out _ ?_; (repeat (first | with_reducible (first | assumption | exact Bw.refl _ | refine Bw.alloc ?_ _ | refine Bw.more ?_ _ _ | refine Bw.drew ?_ | refine Bw.drewN ?_ _) | ((with_reducible refine Bw.set2 ?_ ?_ _); (focus exact SZX)) | with_reducible refine Bw.trans ?_ (by assumption))); done))
      clear hK K
      (try simp only [Act.put, p1, p2, p3, p4, p5, p6])
      refine wpAnyH_ready (rs := [14]) (by kernel_rfl) (by simp) ?_
      refine AllReadyH.cons rfl (fun K hK => ?_) ?_
      ·(refine (if_pos (by kernel_rfl)).mpr ?_); ((with_reducible refine wp_store_gr ((Rn : Int) + a0) ((Cn : Int) + b0) A9 n9 c9 w8.heap.size (.tmp 15) (.tmp 54) ?_ ?_ ?_ ?_ ?_); (focus rfl); (focus rfl); (focus rfl); (focus (exact ⟨_, Sb.up (w := w8.drew.alloc (.cells #[.int .i64 0, .int .i64 0, .slice none 0 0] 25)) (heap_at rfl) (by assumption), rfl⟩))); intro w10 hS10 hg10; have HS10 := Lib.hid hS10; have HG9 := Lib.hid hg10; clear hS10 hg10
       refine hK.out _ _ ?_ (fun hHeld => ?_)
       ·(try dsimp only); (first | (exact HYg.out _ _ BWX HG9.out (by omega)) | (refine HY.out _ ?_; (repeat (first | with_reducible (first | assumption | exact Bw.refl _ | refine Bw.alloc ?_ _ | refine Bw.more ?_ _ _ | refine Bw.drew ?_ | refine Bw.drewN ?_ _) | ((with_reducible refine Bw.set2 ?_ ?_ _); (focus exact SZX)) | with_reducible refine Bw.trans ?_ (by assumption))); done))
       clear hK K
       (try simp only [Act.put, p1, p2, p3, p4, p5, p6])
       refine wpAnyH_done (by kernel_rfl) ?_ _
       go_wp2_with fail
       go_meet
       case rel =>
        have hlt9 : ∀ ad, A9 = some ad → ad.block < w9.heap.size := fun ad e => HR9.out.lt0 (by have h := HGB.out.2.2.1; obtain ⟨_, _, e1, e2, h1, -, h3, -, hl, -⟩ := gridB_out h; rw [hl]; exact Nat.mul_pos (by omega) (by omega)) ad e
        refine ⟨_, A9, n9, c9, rfl, HS10.out, (HR9.out.up BWX).far HG9.out (fun ad e e2 => ?_), hn9, hc9, Bw.grown (show Bw w8 _ from BWX) HG9.out (fun k hk => by cases hk; first | omega | (simp only [szA, szD] at *; omega))⟩
        have h1 := hlt9 ad e
        have h2 := hnew9 ad e
        have h3 := Option.some.inj e2
        first | omega | (simp only [szA, szD] at *; omega)
      exact AllReadyH.nil
     exact AllReadyH.nil
    exact AllReadyH.nil
   exact AllReadyH.nil
  exact AllReadyH.nil
 case rest =>
 obtain ⟨g15, Ab, nb, cb, rfl, hSb, hRb, hnb, hcb, hb8c⟩ := hcut
 obtain ⟨wo, hwo⟩ : ∃ wo : World, wo = wc := ⟨_, rfl⟩
 subst hwo
 have HSb := Lib.hid hSb
 have HRb := Lib.hid hRb
 have HB8 := Lib.hid hb8c
 have hnb2 : nb ≤ 3000 := by
  obtain ⟨_, _, e1, e2, h1, h2, h3, h4, hl, -⟩ := gridB_out HGB.out.2.2.1
  have := hRb.1
  rw [hl] at this
  rw [← this]
  exact Nat.le_trans (Nat.mul_le_mul h2 h4) (by omega)
 clear hSb hRb hb8c HY
 obtain ⟨r0, hr0⟩ : ∃ q : Nat, row % (Rn : Int) = q := ⟨(row % (Rn : Int)).toNat, by have := Int.emod_nonneg row (show (Rn : Int) ≠ 0 by omega); omega⟩
 obtain ⟨c0, hc0⟩ : ∃ q : Nat, col % (Cn : Int) = q := ⟨(col % (Cn : Int)).toNat, by have := Int.emod_nonneg col (show (Cn : Int) ≠ 0 by omega); omega⟩
 have HM2 := Lib.hid (And.intro hr0 hc0)
 have HSV := Lib.hid (show gridB Rn Cn (shiftG Rn Cn cs r0 c0 m0 (113, 0, 0, 0)) = true from by
  unfold shiftG
  split
  ·obtain ⟨Rm, Cm, e1, e2, h1, h2, h3, h4, hl, hall⟩ := gridB_out HGV.out
   obtain rfl : Rn = Rm := by omega
   obtain rfl : Cn = Cm := by omega
   exact gridB_tab h1 h2 h3 h4 (fun r k _ _ => shiftF_ok hall (by decide) r k)
  ·exact HGV.out)
 clear hr0 hc0
 have HY := Lib.hid (show ∀ w', Bw wo w' → (w'.cell? ⟨g, 0, none⟩ = some (.int .i64 (Rn : Int)) ∧ w'.cell? ⟨g, 1, none⟩ = some (.int .i64 (Cn : Int)) ∧ w'.cell? ⟨g, 2, none⟩ = some (.slice Ag n7 cg) ∧ w'.cell? ⟨g11, 0, none⟩ = some (.int .i64 (Rn : Int)) ∧ w'.cell? ⟨g11, 1, none⟩ = some (.int .i64 (Cn : Int)) ∧ w'.cell? ⟨g11, 2, none⟩ = some (.slice A5 n7 c5) ∧ w'.cell? ⟨g12, 0, none⟩ = some (.int .i64 (Rn : Int)) ∧ w'.cell? ⟨g12, 1, none⟩ = some (.int .i64 (Cn : Int)) ∧ w'.cell? ⟨g12, 2, none⟩ = some (.slice A7 n7 c7) ∧ w'.cell? ⟨g15, 0, none⟩ = some (.int .i64 ((Rn : Int) + a0)) ∧ w'.cell? ⟨g15, 1, none⟩ = some (.int .i64 ((Cn : Int) + b0)) ∧ w'.cell? ⟨g15, 2, none⟩ = some (.slice Ab nb cb) ∧ w'.cell? ⟨gq, 0, none⟩ = some (.int .i64 113) ∧ w'.cell? ⟨gq, 1, none⟩ = some (.int .i64 0) ∧ w'.cell? ⟨gq, 2, none⟩ = some (.int .i64 0) ∧ w'.cell? ⟨gq, 3, none⟩ = some (.int .i64 0)) from fun w' hb => ⟨(HSg.out.up (Bw.trans HB8.out hb)).cell 0 rfl, (HSg.out.up (Bw.trans HB8.out hb)).cell 1 rfl, (HSg.out.up (Bw.trans HB8.out hb)).cell 2 rfl, (HSu.out.up (Bw.trans HB8.out hb)).cell 0 rfl, (HSu.out.up (Bw.trans HB8.out hb)).cell 1 rfl, (HSu.out.up (Bw.trans HB8.out hb)).cell 2 rfl, (HS8.out.up (Bw.trans HB8.out hb)).cell 0 rfl, (HS8.out.up (Bw.trans HB8.out hb)).cell 1 rfl, (HS8.out.up (Bw.trans HB8.out hb)).cell 2 rfl, (HSb.out.up hb).cell 0 rfl, (HSb.out.up hb).cell 1 rfl, (HSb.out.up hb).cell 2 rfl, (HSq.out.up (Bw.trans HB8.out hb)).cell 0 rfl, (HSq.out.up (Bw.trans HB8.out hb)).cell 1 rfl, (HSq.out.up (Bw.trans HB8.out hb)).cell 2 rfl, (HSq.out.up (Bw.trans HB8.out hb)).cell 3 rfl⟩)
 have HRg9 := Lib.hid (HRg.out.up HB8.out)
 have HRu9 := Lib.hid (HRu.out.up HB8.out)
 have HRd9 := Lib.hid (HRd.out.up HB8.out)
 go_upto_region 9 with (fail)
 refine wp_region_held_drew (S := (fun w' => w'.cell? ⟨g, 0, none⟩ = some (.int .i64 (Rn : Int)) ∧ w'.cell? ⟨g, 1, none⟩ = some (.int .i64 (Cn : Int)) ∧ w'.cell? ⟨g, 2, none⟩ = some (.slice Ag n7 cg) ∧ w'.cell? ⟨g11, 0, none⟩ = some (.int .i64 (Rn : Int)) ∧ w'.cell? ⟨g11, 1, none⟩ = some (.int .i64 (Cn : Int)) ∧ w'.cell? ⟨g11, 2, none⟩ = some (.slice A5 n7 c5) ∧ w'.cell? ⟨g12, 0, none⟩ = some (.int .i64 (Rn : Int)) ∧ w'.cell? ⟨g12, 1, none⟩ = some (.int .i64 (Cn : Int)) ∧ w'.cell? ⟨g12, 2, none⟩ = some (.slice A7 n7 c7) ∧ w'.cell? ⟨g15, 0, none⟩ = some (.int .i64 ((Rn : Int) + a0)) ∧ w'.cell? ⟨g15, 1, none⟩ = some (.int .i64 ((Cn : Int) + b0)) ∧ w'.cell? ⟨g15, 2, none⟩ = some (.slice Ab nb cb) ∧ w'.cell? ⟨gq, 0, none⟩ = some (.int .i64 113) ∧ w'.cell? ⟨gq, 1, none⟩ = some (.int .i64 0) ∧ w'.cell? ⟨gq, 2, none⟩ = some (.int .i64 0) ∧ w'.cell? ⟨gq, 3, none⟩ = some (.int .i64 0))) (by kernel_rfl) ?_ (fun hHeld => ?_)
 ·(try dsimp only); (refine HY.out _ ?_; exact BWX)
 refine tkQ 0 rfl (Or.inl ⟨by rfl, tkY⟩) ?_
 (try simp only [Act.put, p1, p2, p3, p4, p5, p6])
 refine wpAnyH_ready (rs := [1]) (by kernel_rfl) (by simp) ?_
 refine AllReadyH.cons rfl (fun K hK => ?_) ?_
 ·go_simp
  refine (ggvalid_any Rn Cn A5 n7 c5 _ _ (HRu9.out.up BWX) hn5 hc5).mono ?_; rintro ee v1 ⟨rfl, hv1⟩; rw [HPL.out.1]; go_wp2_with fail
  refine hK.out _ _ ?_ (fun hHeld => ?_)
  ·(try dsimp only); (refine HY.out _ ?_; exact BWX)
  clear hK K
  (try simp only [Act.put, p1, p2, p3, p4, p5, p6])
  refine tkQ 2 rfl (Or.inl ⟨by rfl, tkY⟩) ?_
  (try simp only [Act.put, p1, p2, p3, p4, p5, p6])
  refine tkQ 3 rfl (Or.inl ⟨by rfl, tkY⟩) ?_
  refine tkQ 4 rfl (Or.inl ⟨by rfl, tkY⟩) ?_
  (try simp only [Act.put, p1, p2, p3, p4, p5, p6])
  refine wpAnyH_ready (rs := [5]) (by kernel_rfl) (by simp) ?_
  refine AllReadyH.cons rfl (fun K hK => ?_) ?_
  ·go_simp
   refine (ggvalid_any Rn Cn A7 n7 c7 _ _ (HRd9.out.up BWX) hn7 hc7).mono ?_; rintro ee v2 ⟨rfl, hv2⟩; rw [HPL.out.2.1]; go_wp2_with fail
   refine hK.out _ _ ?_ (fun hHeld => ?_)
   ·(try dsimp only); (refine HY.out _ ?_; exact BWX)
   clear hK K
   (try simp only [Act.put, p1, p2, p3, p4, p5, p6])
   refine tkQ 6 rfl (Or.inl ⟨by rfl, tkY⟩) ?_
   (try simp only [Act.put, p1, p2, p3, p4, p5, p6])
   refine tkQ 7 rfl (Or.inl ⟨by rfl, tkY⟩) ?_
   refine tkQ 8 rfl (Or.inl ⟨by rfl, tkY⟩) ?_
   refine tkQ 9 rfl (Or.inl ⟨by rfl, tkY⟩) ?_
   (try simp only [Act.put, p1, p2, p3, p4, p5, p6])
   refine wpAnyH_ready (rs := [10]) (by kernel_rfl) (by simp) ?_
   refine AllReadyH.cons rfl (fun K hK => ?_) ?_
   ·go_simp
    refine (ggvalid_any ((Rn : Int) + a0) ((Cn : Int) + b0) Ab nb cb _ _ (HRb.out.up BWX) hnb hcb).mono ?_; rintro ee v3 ⟨rfl, hv3⟩; rw [HGB.out.2.2.1]; go_wp2_with fail
    refine hK.out _ _ ?_ (fun hHeld => ?_)
    ·(try dsimp only); (refine HY.out _ ?_; exact BWX)
    clear hK K
    (try simp only [Act.put, p1, p2, p3, p4, p5, p6])
    refine tkQ 11 rfl (Or.inl ⟨by rfl, tkY⟩) ?_
    refine tkQ 12 rfl (Or.inl ⟨by rfl, tkY⟩) ?_
    refine tkQ 13 rfl (Or.inl ⟨by rfl, tkY⟩) ?_
    (try simp only [Act.put, p1, p2, p3, p4, p5, p6])
    refine tkQ 14 rfl (Or.inl ⟨by rfl, tkY⟩) ?_
    refine tkQ 15 rfl (Or.inl ⟨by rfl, tkY⟩) ?_
    refine tkQ 16 rfl (Or.inl ⟨by rfl, tkY⟩) ?_
    (try simp only [Act.put, p1, p2, p3, p4, p5, p6])
    refine tkQ 17 rfl (Or.inl ⟨by rfl, tkY⟩) ?_
    refine tkQ 18 rfl (Or.inl ⟨by rfl, tkY⟩) ?_
    refine tkQ 20 rfl (Or.inl ⟨by rfl, tkY⟩) ?_
    (try simp only [Act.put, p1, p2, p3, p4, p5, p6])
    refine wpAnyH_ready (rs := [19]) (by kernel_rfl) (by simp) ?_
    refine AllReadyH.cons rfl (fun K hK => ?_) ?_
    ·go_simp
     refine (gresize_any ((Rn : Int) + a0) ((Cn : Int) + b0) Ab nb cb _ Rn Cn _ (HRb.out.up BWX) hnb (by omega) hcb).mono ?_; rintro ee v4 ⟨A9, n9, c9, rfl, hr9, hn9, hc9, hnew9, hv4⟩; rw [HGB.out.2.2.2.1, HGB.out.2.2.2.2.1]; rw [HGB.out.2.2.2.2.2] at hr9; have HR9 := Lib.hid hr9; clear hr9 hnew9; go_wp2_with fail
     refine hK.out _ _ ?_ (fun hHeld => ?_)
     ·(try dsimp only); (refine HY.out _ ?_; exact BWX)
     clear hK K
     (try simp only [Act.put, p1, p2, p3, p4, p5, p6])
     refine wpAnyH_ready (rs := [21]) (by kernel_rfl) (by simp) ?_
     refine AllReadyH.cons rfl (fun K hK => ?_) ?_
     ·go_simp
      refine (rsame_any _ _ _ _ A9 Ag n9 c9 n7 cg _ _ _ (HR9.out.up BWX) hn9 hc9 (HRg9.out.up BWX) hngc hcg).mono ?_; rintro ee v5 ⟨rfl, hv5⟩; (try simp only [decide_true, Bool.and_true, Bool.and_self]); go_wp2_with fail
      refine hK.out _ _ ?_ (fun hHeld => ?_)
      ·(try dsimp only); (refine HY.out _ ?_; exact BWX)
      clear hK K
      (try simp only [Act.put, p1, p2, p3, p4, p5, p6])
      refine tkQ 22 rfl (Or.inl ⟨by rfl, tkY⟩) ?_
      refine tkQ 23 rfl (Or.inl ⟨by rfl, tkY⟩) ?_
      refine tkQ 24 rfl (Or.inl ⟨by rfl, tkY⟩) ?_
      (try simp only [Act.put, p1, p2, p3, p4, p5, p6])
      refine tkQ 25 rfl (Or.inl ⟨by rfl, tkY⟩) ?_
      refine tkQ 26 rfl (Or.inl ⟨by rfl, tkY⟩) ?_
      refine tkQ 27 rfl (Or.inl ⟨by rfl, tkY⟩) ?_
      (try simp only [Act.put, p1, p2, p3, p4, p5, p6])
      refine tkQ 28 rfl (Or.inl ⟨by rfl, tkY⟩) ?_
      refine tkQ 30 rfl (Or.inl ⟨by rfl, tkY⟩) ?_
      refine tkQ 31 rfl (Or.inl ⟨by rfl, tkY⟩) ?_
      (try simp only [Act.put, p1, p2, p3, p4, p5, p6])
      refine tkQ 32 rfl (Or.inl ⟨by rfl, tkY⟩) ?_
      refine tkQ 34 rfl (Or.inl ⟨by rfl, tkY⟩) ?_
      refine tkQ 35 rfl (Or.inl ⟨by rfl, tkY⟩) ?_
      (try simp only [Act.put, p1, p2, p3, p4, p5, p6])
      refine wpAnyH_ready (rs := [29]) (by kernel_rfl) (by simp) ?_
      refine AllReadyH.cons rfl (fun K hK => ?_) ?_
      ·go_simp
       refine (mmod_any _ _ _ (by omega) (by omega)).mono ?_; rintro ee ww ⟨rfl, rfl⟩; rw [HM2.out.1]; go_wp2_with fail
       refine hK.out _ _ ?_ (fun hHeld => ?_)
       ·(try dsimp only); (refine HY.out _ ?_; exact BWX)
       clear hK K
       (try simp only [Act.put, p1, p2, p3, p4, p5, p6])
       refine wpAnyH_ready (rs := [33]) (by kernel_rfl) (by simp) ?_
       refine AllReadyH.cons rfl (fun K hK => ?_) ?_
       ·go_simp
        refine (mmod_any _ _ _ (by omega) (by omega)).mono ?_; rintro ee ww ⟨rfl, rfl⟩; rw [HM2.out.2]; go_wp2_with fail
        refine hK.out _ _ ?_ (fun hHeld => ?_)
        ·(try dsimp only); (refine HY.out _ ?_; exact BWX)
        clear hK K
        (try simp only [Act.put, p1, p2, p3, p4, p5, p6])
        refine wpAnyH_ready (rs := [36]) (by kernel_rfl) (by simp) ?_
        refine AllReadyH.cons rfl (fun K hK => ?_) ?_
        ·go_simp
         refine (gshift_any Rn Cn Ag n7 cg cs r0 c0 m0 113 0 0 0 _ (HRg9.out.up BWX) hngc (by omega) hcg).mono ?_; rintro ee v6 ⟨A10, n10, c10, rfl, hr10, hn10, hc10, hnew10, hv6⟩; have HR10 := Lib.hid hr10; clear hr10 hnew10; go_wp2_with fail
         refine hK.out _ _ ?_ (fun hHeld => ?_)
         ·(try dsimp only); (refine HY.out _ ?_; exact BWX)
         clear hK K
         (try simp only [Act.put, p1, p2, p3, p4, p5, p6])
         refine wpAnyH_ready (rs := [37]) (by kernel_rfl) (by simp) ?_
         refine AllReadyH.cons rfl (fun K hK => ?_) ?_
         ·go_simp
          refine (ggvalid_any Rn Cn A10 n10 c10 _ _ (HR10.out.up BWX) hn10 hc10).mono ?_; rintro ee v7 ⟨rfl, hv7⟩; rw [HSV.out]; go_wp2_with fail
          refine hK.out _ _ ?_ (fun hHeld => ?_)
          ·(try dsimp only); (refine HY.out _ ?_; exact BWX)
          clear hK K
          (try simp only [Act.put, p1, p2, p3, p4, p5, p6])
          refine tkQ 38 rfl (Or.inl ⟨by rfl, tkY⟩) ?_
          refine tkQ 39 rfl (Or.inl ⟨by rfl, tkY⟩) ?_
          (try simp only [Act.put, p1, p2, p3, p4, p5, p6])
          refine wpAnyH_done (by kernel_rfl) ?_ _
          go_wp2_with fail
          go_loopw [16] (fun i wr => ∃ r : Nat, i = .int .i64 r ∧ m0 ≤ r ∧ r ≤ Rn + 2 ∧ Bw wo wr) (fun i _ => Rn + 3 - (intOf i).toNat)
          case atStart => exact ⟨m0, rfl, by omega, by omega, BWX⟩
          case round =>
           obtain ⟨wz, hwz⟩ : ∃ wz : World, wz = wr := ⟨_, rfl⟩
           subst hwz
           obtain ⟨r, rfl, hr1, hr2, hbz⟩ := hrel
           have hb8z : Bw w8 wz := Bw.trans HB8.out hbz
           have x0 := (HSg.out.up hb8z).cell 0 (v := .int .i64 (Rn : Int)) rfl
           by_cases hlt : r < Rn
           ·have hrI : (r : Int) < Rn := by omega
            have HROW := Lib.hid (HPL.out.2.2 r hr1 hlt)
            have HRgz := Lib.hid (HRg.out.up hb8z)
            have HRdz := Lib.hid (HRd.out.up hb8z)
            go_upto_region 14 with (fail)
            clear x0
            have HZ := Lib.hid (show ∀ w', Bw wz w' → (w'.cell? ⟨g, 0, none⟩ = some (.int .i64 (Rn : Int)) ∧ w'.cell? ⟨g, 1, none⟩ = some (.int .i64 (Cn : Int)) ∧ w'.cell? ⟨g, 2, none⟩ = some (.slice Ag n7 cg) ∧ w'.cell? ⟨g12, 0, none⟩ = some (.int .i64 (Rn : Int)) ∧ w'.cell? ⟨g12, 1, none⟩ = some (.int .i64 (Cn : Int)) ∧ w'.cell? ⟨g12, 2, none⟩ = some (.slice A7 n7 c7)) from fun w' hb => ⟨(HSg.out.up (Bw.trans hb8z hb)).cell 0 rfl, (HSg.out.up (Bw.trans hb8z hb)).cell 1 rfl, (HSg.out.up (Bw.trans hb8z hb)).cell 2 rfl, (HS8.out.up (Bw.trans hb8z hb)).cell 0 rfl, (HS8.out.up (Bw.trans hb8z hb)).cell 1 rfl, (HS8.out.up (Bw.trans hb8z hb)).cell 2 rfl⟩)
            refine wp_region_held_drew (S := (fun w' => w'.cell? ⟨g, 0, none⟩ = some (.int .i64 (Rn : Int)) ∧ w'.cell? ⟨g, 1, none⟩ = some (.int .i64 (Cn : Int)) ∧ w'.cell? ⟨g, 2, none⟩ = some (.slice Ag n7 cg) ∧ w'.cell? ⟨g12, 0, none⟩ = some (.int .i64 (Rn : Int)) ∧ w'.cell? ⟨g12, 1, none⟩ = some (.int .i64 (Cn : Int)) ∧ w'.cell? ⟨g12, 2, none⟩ = some (.slice A7 n7 c7))) (by kernel_rfl) ?_ (fun hHeld => ?_)
            ·(try dsimp only); (refine HZ.out _ ?_; (repeat (first | with_reducible (first | assumption | exact Bw.refl _ | refine Bw.alloc ?_ _ | refine Bw.more ?_ _ _ | refine Bw.drew ?_ | refine Bw.drewN ?_ _) | ((with_reducible refine Bw.set2 ?_ ?_ _); (focus exact SZX)) | with_reducible refine Bw.trans ?_ (by assumption))); done)
            refine tkQ 0 rfl (Or.inl ⟨by rfl, tkY⟩) ?_
            (try simp only [Act.put, p1, p2, p3, p4, p5, p6])
            refine tkQ 1 rfl (Or.inl ⟨by rfl, tkY⟩) ?_
            refine tkQ 3 rfl (Or.inl ⟨by rfl, tkY⟩) ?_
            refine tkQ 4 rfl (Or.inl ⟨by rfl, tkY⟩) ?_
            (try simp only [Act.put, p1, p2, p3, p4, p5, p6])
            refine wpAnyH_ready (rs := [2]) (by kernel_rfl) (by simp) ?_
            refine AllReadyH.cons rfl (fun K hK => ?_) ?_
            ·go_simp
             refine (grow_any Rn Cn A7 n7 c7 _ r _ (HRdz.out.up BWX) hn7 (by omega) hc7).mono ?_; rintro ee u1 ⟨B1, k1, d1, rfl, hq1, hk1, hd1, hnw1, hu1⟩; have HQ1 := Lib.hid hq1; clear hq1 hnw1; go_wp2_with fail
             refine hK.out _ _ ?_ (fun hHeld => ?_)
             ·(try dsimp only); (refine HZ.out _ ?_; (repeat (first | with_reducible (first | assumption | exact Bw.refl _ | refine Bw.alloc ?_ _ | refine Bw.more ?_ _ _ | refine Bw.drew ?_ | refine Bw.drewN ?_ _) | ((with_reducible refine Bw.set2 ?_ ?_ _); (focus exact SZX)) | with_reducible refine Bw.trans ?_ (by assumption))); done)
             clear hK K
             (try simp only [Act.put, p1, p2, p3, p4, p5, p6])
             refine wpAnyH_ready (rs := [5]) (by kernel_rfl) (by simp) ?_
             refine AllReadyH.cons rfl (fun K hK => ?_) ?_
             ·go_simp
              refine (grow_any Rn Cn Ag n7 cg cs r _ (HRgz.out.up BWX) hngc (by omega) hcg).mono ?_; rintro ee u2 ⟨B2, k2, d2, rfl, hq2, hk2, hd2, hnw2, hu2⟩; have HQ2 := Lib.hid hq2; clear hq2 hnw2; go_wp2_with fail
              refine hK.out _ _ ?_ (fun hHeld => ?_)
              ·(try dsimp only); (refine HZ.out _ ?_; (repeat (first | with_reducible (first | assumption | exact Bw.refl _ | refine Bw.alloc ?_ _ | refine Bw.more ?_ _ _ | refine Bw.drew ?_ | refine Bw.drewN ?_ _) | ((with_reducible refine Bw.set2 ?_ ?_ _); (focus exact SZX)) | with_reducible refine Bw.trans ?_ (by assumption))); done)
              clear hK K
              (try simp only [Act.put, p1, p2, p3, p4, p5, p6])
              refine wpAnyH_ready (rs := [6]) (by kernel_rfl) (by simp) ?_
              refine AllReadyH.cons rfl (fun K hK => ?_) ?_
              ·go_simp
               refine (rsc_any B1 B2 k1 d1 k2 d2 _ _ _ (HQ1.out.up BWX) hk1 hd1 (HQ2.out.up BWX) hk2 hd2).mono ?_; rintro ee u3 ⟨rfl, hu3⟩; rw [HROW.out]; (try simp only [decide_true, Bool.and_true, Bool.and_self]); go_wp2_with fail
               refine hK.out _ _ ?_ (fun hHeld => ?_)
               ·(try dsimp only); (refine HZ.out _ ?_; (repeat (first | with_reducible (first | assumption | exact Bw.refl _ | refine Bw.alloc ?_ _ | refine Bw.more ?_ _ _ | refine Bw.drew ?_ | refine Bw.drewN ?_ _) | ((with_reducible refine Bw.set2 ?_ ?_ _); (focus exact SZX)) | with_reducible refine Bw.trans ?_ (by assumption))); done)
               clear hK K
               (try simp only [Act.put, p1, p2, p3, p4, p5, p6])
               refine tkQ 7 rfl (Or.inl ⟨by rfl, tkY⟩) ?_
               (try simp only [Act.put, p1, p2, p3, p4, p5, p6])
               refine wpAnyH_done (by kernel_rfl) ?_ _
               go_wp2_with fail
               go_roundw
               case rel => exact ⟨r + 1, by go_num, by omega, by omega, Bw.trans hbz BWX⟩
               case measure => simp [intOf]; omega
              exact AllReadyH.nil
             exact AllReadyH.nil
            exact AllReadyH.nil
           ·have hrI : ¬ (r : Int) < Rn := by omega
            go_wp2_with fail
            go_ret
            exact ⟨rfl, Bw.trans HBW.out hb8z⟩
         exact AllReadyH.nil
        exact AllReadyH.nil
       exact AllReadyH.nil
      exact AllReadyH.nil
     exact AllReadyH.nil
    exact AllReadyH.nil
   exact AllReadyH.nil
  exact AllReadyH.nil
 exact AllReadyH.nil
end Go.Proofs.Ytccfpehcadpkiaa
