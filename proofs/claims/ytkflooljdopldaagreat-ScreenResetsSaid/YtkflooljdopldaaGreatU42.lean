/- Parts of the proof, one after the other. -/
import Derived.Test.YtkflooljdopldaaGreatU41
set_option linter.unusedSimpArgs false
set_option linter.unusedVariables false
/- The program's slide. -/
namespace Go.Proofs.YtkflooljdopldaaGreat
open Go.RowKit

theorem infoCs : (Tryz.prog.info? 53).map (·.size) = some 4 := by kernel_rfl
set_option maxRecDepth 100000 in
set_option maxHeartbeats 4000000 in
theorem gslide_pos (cs : List C4) (sp : List Value) (gp a n cp q r : Nat) (d1 d2 d3 d4 : Int) (w : World) (hW : Wc w gp cs sp) (ha : a + n ≤ cs.length) (hn : n ≤ cp) (hn3 : n ≤ 1000000) (hc : cp ≤ 9223372036854775807) (hqr : n = q + r) (hcq : ¬ cp = q) (hq : 0 < q) :
  Calls Tryz.prog 71 #[.slice (some ⟨gp, a * 4, none⟩) n cp, .int .i64 (q : Int), .agg #[.int .i64 d1, .int .i64 d2, .int .i64 d3, .int .i64 d4]] w fun e w' => (∃ v, e = .returned v) ∧ Wc w' gp (slideC cs a n (q : Int) (d1, d2, d3, d4)) sp ∧ w.grownBy w' (some gp) := by
 have HW := Lib.hid hW
 have HA := Lib.hid ha
 have HQR := Lib.hid hqr
 have hgl := hW.lt
 have hsub : (n : Int) - (q : Int) = (r : Int) := by omega
 have hnq : n - q = r := by omega
 have hnr : n - r = q := by omega
 have q1 : (0 : Int) ≤ (q : Int) := by omega
 have q2 : (q : Int) ≤ (n : Int) := by omega
 have q3 : (r : Int) ≤ (n : Int) := by omega
 have q4 : (q : Int) ≤ (cp : Int) := by omega
 have q5 : (r : Int) ≤ (cp : Int) := by omega
 obtain ⟨o, ho⟩ : ∃ o, a * 4 = o := ⟨_, rfl⟩
 rw [ho]
 have HO := Lib.hid ho
 clear hW ha hqr ho
 go_enter Tryz.func71, Tryz.ntmps71
 go_upto_region 1 with (fail)
 generalize hw1 : w.alloc _ = w1
 obtain ⟨hb0, hbw, hz⟩ := sb1 hw1
 have HB := Lib.hid hb0
 have HW1 := Lib.hid (HW.out.up hbw)
 have hz1 : w.heap.size < w1.heap.size := by omega
 clear hw1 hb0 hz HW
 have hcr : ¬ cp = r := by have := HQR.out; omega
 have F1 : (flat ((cs.drop (a + q)).take r)).length = Nat.min r n * 4 := by
  have h1 := HA.out
  have h2 := HQR.out
  rw [flat_len, List.length_take, List.length_drop]
  have e : min r (cs.length - (a + q)) = Nat.min r n := by show _ = min r n; omega
  rw [e]
 have F2 : ∀ j v, (flat ((cs.drop (a + q)).take r))[j]? = some v → w1.cell? ((⟨gp, o + q * 4, none⟩ : Addr).add j) = some v := fun j v hv => by
  have h1 := HA.out
  have h2 := HQR.out
  have h3 := (HW1.out.rg.sub (a + q) r (by omega)).news j v hv
  rw [show 0 + (a + q) * 4 = o + q * 4 by have := HO.out; omega] at h3
  exact h3
 have F3 : o + (flat ((cs.drop (a + q)).take r)).length ≤ (flat cs ++ sp).toArray.size := by
  have h1 := HA.out
  have h2 := HQR.out
  have h3 := HO.out
  rw [flat_len, List.length_take, List.length_drop, List.size_toArray, List.length_append, flat_len]
  omega
 have HF := Lib.hid (And.intro F1 (And.intro F2 F3))
 clear F1 F2 F3
 go_upto_region 4 with ((refine wpList_copyS rfl (.tmp 11) (.tmp 14) 24 24 rfl 53 4 Tryz.underlying24 infoCs gp (o) n cp ⟨gp, o + q * 4, none⟩ r (cp - q) rfl rfl (flat cs ++ sp).toArray 53 HW1.out (flat ((cs.drop (a + q)).take r)) HF.out.1 HF.out.2.1 HF.out.2.2 (flat_one _) ?_; intro w2 hcell hg2; have HC2 := Lib.hid hcell; have HG2 := Lib.hid hg2; clear hcell hg2))
 go_upto_region 7 with (fail)
 have HM := Lib.hid (show Wc w2 gp (movC cs (a) (a + q) r) sp from Wc.moved (by have h1 := HA.out; have h2 := HQR.out; omega) (by have h1 := HA.out; have h2 := HQR.out; omega) (by rw [show (a) * 4 = o by have := HO.out; omega]; exact HC2.out))
 have hml : (movC cs (a) (a + q) r).length = cs.length := movC_len (by have h1 := HA.out; have h2 := HQR.out; omega) (by have h1 := HA.out; have h2 := HQR.out; omega)
 obtain ⟨M, hM⟩ : ∃ M, movC cs (a) (a + q) r = M := ⟨_, rfl⟩
 rw [hM] at HM hml
 have HMe := Lib.hid hM
 clear hM HC2
 have HBx := Lib.hid (HB.out.far HG2.out (by intro e; have := Option.some.inj e; omega))
 obtain ⟨o2, ho2⟩ : ∃ o2, o + r * 4 = o2 := ⟨_, rfl⟩
 simp only [ho2]
 have HO2 := Lib.hid ho2
 clear ho2
 go_wp2_with fail
 go_loopw [34] (fun i wr => ∃ k : Nat, i = .int .i64 k ∧ k ≤ q ∧ Wc wr gp (fillL M (a + r) k (d1, d2, d3, d4)) sp ∧ w2.grownBy wr (some gp)) (fun i _ => q - (intOf i).toNat)
 case atStart => exact ⟨0, rfl, by omega, by rw [fillL_0]; exact HM.out, grown_refl _ _⟩
 case round =>
  rename_i wr
  obtain ⟨k, rfl, hk, hWr, hgr⟩ := hrel
  have HWr := Lib.hid hWr
  have HGr := Lib.hid hgr
  have HBr := Lib.hid (HBx.out.far hgr (by intro e; have := Option.some.inj e; omega))
  have y0 := HBr.out.cell 0 (v := .int .i64 d1) rfl
  have y1 := HBr.out.cell 1 (v := .int .i64 d2) rfl
  have y2 := HBr.out.cell 2 (v := .int .i64 d3) rfl
  have y3 := HBr.out.cell 3 (v := .int .i64 d4) rfl
  clear hWr hgr
  by_cases hlt : k < q
  ·have hkl : (a + r) + k < (fillL M (a + r) k (d1, d2, d3, d4)).length := by rw [fillL_len, hml]; have h1 := HA.out; have h2 := HQR.out; omega
   obtain ⟨a1, a2, a3, a4⟩ := HWr.out.cells _ hkl
   have b1 := HWr.out.free (((a + r) + k) * 4)
   have b2 := HWr.out.free (((a + r) + k) * 4 + 1)
   have b3 := HWr.out.free (((a + r) + k) * 4 + 2)
   have b4 := HWr.out.free (((a + r) + k) * 4 + 3)
   have hst := HWr.out.store ((a + r) + k) hkl (d1, d2, d3, d4)
   rw [fillL_step] at hst
   have e4 : ((a + r) + k) * 4 = o2 + k * 4 := by have h1 := HO.out; have h2 := HO2.out; omega
   rw [e4] at a1 a2 a3 a4 b1 b2 b3 b4 hst
   have HST := Lib.hid hst
   clear hst
   go_wp2_with fail
   go_roundw
   case rel => exact ⟨k + 1, by go_num, by omega, HST.out, grown_set (grown_set (grown_set (grown_set HGr.out _ _) _ _) _ _) _ _⟩
   case measure => simp [intOf]; omega
  ·obtain rfl : k = q := by omega
   go_wp2_with fail
   refine bodyPost_end (by simp [results, Tryz.results71, go_sem]; rfl) rfl ?_
   have hfin := HWr.out
   rw [← HMe.out] at hfin
   have hlaw := slide_pos (cs := cs) (a := a) (n := n) (q := k) (d := (d1, d2, d3, d4)) HA.out (by have := HQR.out; omega)
   rw [show n - k = r from hnq] at hlaw
   refine ⟨⟨_, rfl⟩, ?_, ((grown_bw hbw (some gp)).trans HG2.out).trans HGr.out⟩
   rw [← hlaw]
   exact hfin

set_option maxRecDepth 100000 in
set_option maxHeartbeats 4000000 in
theorem gslide_neg (cs : List C4) (sp : List Value) (gp a n cp q r : Nat) (d1 d2 d3 d4 : Int) (w : World) (hW : Wc w gp cs sp) (ha : a + n ≤ cs.length) (hn : n ≤ cp) (hn3 : n ≤ 1000000) (hc : cp ≤ 9223372036854775807) (hqr : n = q + r) (hcq : ¬ cp = q) (hq : 0 < q) :
  Calls Tryz.prog 71 #[.slice (some ⟨gp, a * 4, none⟩) n cp, .int .i64 (-(q : Int)), .agg #[.int .i64 d1, .int .i64 d2, .int .i64 d3, .int .i64 d4]] w fun e w' => (∃ v, e = .returned v) ∧ Wc w' gp (slideC cs a n (-(q : Int)) (d1, d2, d3, d4)) sp ∧ w.grownBy w' (some gp) := by
 have HW := Lib.hid hW
 have HA := Lib.hid ha
 have HQR := Lib.hid hqr
 have hgl := hW.lt
 have hsub : (n : Int) - (q : Int) = (r : Int) := by omega
 have hnq : n - q = r := by omega
 have hnr : n - r = q := by omega
 have q1 : (0 : Int) ≤ (q : Int) := by omega
 have q2 : (q : Int) ≤ (n : Int) := by omega
 have q3 : (r : Int) ≤ (n : Int) := by omega
 have q4 : (q : Int) ≤ (cp : Int) := by omega
 have q5 : (r : Int) ≤ (cp : Int) := by omega
 obtain ⟨o, ho⟩ : ∃ o, a * 4 = o := ⟨_, rfl⟩
 rw [ho]
 have HO := Lib.hid ho
 clear hW ha hqr ho
 have hn1 : -(q : Int) < 0 := by omega
 have hn2 : ¬ (0 : Int) ≤ -(q : Int) := by omega
 go_enter Tryz.func71, Tryz.ntmps71
 go_upto_region 1 with (fail)
 generalize hw1 : w.alloc _ = w1
 obtain ⟨hb0, hbw, hz⟩ := sb1 hw1
 have HB := Lib.hid hb0
 have HW1 := Lib.hid (HW.out.up hbw)
 have hz1 : w.heap.size < w1.heap.size := by omega
 clear hw1 hb0 hz HW
 have F1 : (flat ((cs.drop (a)).take r)).length = Nat.min n r * 4 := by
  have h1 := HA.out
  have h2 := HQR.out
  rw [flat_len, List.length_take, List.length_drop]
  have e : min r (cs.length - (a)) = Nat.min n r := by show _ = min n r; omega
  rw [e]
 have F2 : ∀ j v, (flat ((cs.drop (a)).take r))[j]? = some v → w1.cell? ((⟨gp, o, none⟩ : Addr).add j) = some v := fun j v hv => by
  have h1 := HA.out
  have h2 := HQR.out
  have h3 := (HW1.out.rg.sub (a) r (by omega)).news j v hv
  rw [show 0 + (a) * 4 = o by have := HO.out; omega] at h3
  exact h3
 have F3 : o + q * 4 + (flat ((cs.drop (a)).take r)).length ≤ (flat cs ++ sp).toArray.size := by
  have h1 := HA.out
  have h2 := HQR.out
  have h3 := HO.out
  rw [flat_len, List.length_take, List.length_drop, List.size_toArray, List.length_append, flat_len]
  omega
 have HF := Lib.hid (And.intro F1 (And.intro F2 F3))
 clear F1 F2 F3
 go_upto_region 7 with ((refine wpList_copyS rfl (.tmp 25) (.tmp 26) 24 24 rfl 53 4 Tryz.underlying24 infoCs gp (o + q * 4) r (cp - q) ⟨gp, o, none⟩ n cp rfl rfl (flat cs ++ sp).toArray 53 HW1.out (flat ((cs.drop (a)).take r)) HF.out.1 HF.out.2.1 HF.out.2.2 (flat_one _) ?_; intro w2 hcell hg2; have HC2 := Lib.hid hcell; have HG2 := Lib.hid hg2; clear hcell hg2))
 have HM := Lib.hid (show Wc w2 gp (movC cs (a + q) (a) r) sp from Wc.moved (by have h1 := HA.out; have h2 := HQR.out; omega) (by have h1 := HA.out; have h2 := HQR.out; omega) (by rw [show (a + q) * 4 = o + q * 4 by have := HO.out; omega]; exact HC2.out))
 have hml : (movC cs (a + q) (a) r).length = cs.length := movC_len (by have h1 := HA.out; have h2 := HQR.out; omega) (by have h1 := HA.out; have h2 := HQR.out; omega)
 obtain ⟨M, hM⟩ : ∃ M, movC cs (a + q) (a) r = M := ⟨_, rfl⟩
 rw [hM] at HM hml
 have HMe := Lib.hid hM
 clear hM HC2
 have HBx := Lib.hid (HB.out.far HG2.out (by intro e; have := Option.some.inj e; omega))
 obtain ⟨o2, ho2⟩ : ∃ o2, o = o2 := ⟨_, rfl⟩
 simp only [ho2]
 have HO2 := Lib.hid ho2
 clear ho2
 go_wp2_with fail
 go_loopw [34] (fun i wr => ∃ k : Nat, i = .int .i64 k ∧ k ≤ q ∧ Wc wr gp (fillL M (a) k (d1, d2, d3, d4)) sp ∧ w2.grownBy wr (some gp)) (fun i _ => q - (intOf i).toNat)
 case atStart => exact ⟨0, rfl, by omega, by rw [fillL_0]; exact HM.out, grown_refl _ _⟩
 case round =>
  rename_i wr
  obtain ⟨k, rfl, hk, hWr, hgr⟩ := hrel
  have HWr := Lib.hid hWr
  have HGr := Lib.hid hgr
  have HBr := Lib.hid (HBx.out.far hgr (by intro e; have := Option.some.inj e; omega))
  have y0 := HBr.out.cell 0 (v := .int .i64 d1) rfl
  have y1 := HBr.out.cell 1 (v := .int .i64 d2) rfl
  have y2 := HBr.out.cell 2 (v := .int .i64 d3) rfl
  have y3 := HBr.out.cell 3 (v := .int .i64 d4) rfl
  clear hWr hgr
  by_cases hlt : k < q
  ·have hkl : (a) + k < (fillL M (a) k (d1, d2, d3, d4)).length := by rw [fillL_len, hml]; have h1 := HA.out; have h2 := HQR.out; omega
   obtain ⟨a1, a2, a3, a4⟩ := HWr.out.cells _ hkl
   have b1 := HWr.out.free (((a) + k) * 4)
   have b2 := HWr.out.free (((a) + k) * 4 + 1)
   have b3 := HWr.out.free (((a) + k) * 4 + 2)
   have b4 := HWr.out.free (((a) + k) * 4 + 3)
   have hst := HWr.out.store ((a) + k) hkl (d1, d2, d3, d4)
   rw [fillL_step] at hst
   have e4 : ((a) + k) * 4 = o2 + k * 4 := by have h1 := HO.out; have h2 := HO2.out; omega
   rw [e4] at a1 a2 a3 a4 b1 b2 b3 b4 hst
   have HST := Lib.hid hst
   clear hst
   go_wp2_with fail
   go_roundw
   case rel => exact ⟨k + 1, by go_num, by omega, HST.out, grown_set (grown_set (grown_set (grown_set HGr.out _ _) _ _) _ _) _ _⟩
   case measure => simp [intOf]; omega
  ·obtain rfl : k = q := by omega
   go_wp2_with fail
   refine bodyPost_end (by simp [results, Tryz.results71, go_sem]; rfl) rfl ?_
   have hfin := HWr.out
   rw [← HMe.out] at hfin
   have hlaw := slide_neg (cs := cs) (a := a) (n := n) (q := k) (d := (d1, d2, d3, d4)) HA.out (by have := HQR.out; omega)
   rw [show n - k = r from hnq] at hlaw
   refine ⟨⟨_, rfl⟩, ?_, ((grown_bw hbw (some gp)).trans HG2.out).trans HGr.out⟩
   rw [← hlaw]
   exact hfin
end Go.Proofs.YtkflooljdopldaaGreat

/- The program's slide, where all the places are left. -/
namespace Go.Proofs.YtkflooljdopldaaGreat
open Go.RowKit

theorem Wc.same {w' : World} {g o : Nat} {cs : List C4} {sp : List Value} (h : w'.heap[g]? = some (.cells ((flat cs ++ sp).toArray.toList.take o ++ [] ++ (flat cs ++ sp).toArray.toList.drop (o + ([] : List Value).length)).toArray 53 (0, 0))) : Wc w' g cs sp := by
 unfold Wc
 rw [h]
 simp
theorem movC_0 (cs : List C4) (k p : Nat) : movC cs k p 0 = cs := by simp [movC]
set_option maxRecDepth 100000 in
set_option maxHeartbeats 4000000 in
theorem gslide_full (cs : List C4) (sp : List Value) (gp a q : Nat) (d1 d2 d3 d4 : Int) (w : World) (hW : Wc w gp cs sp) (ha : a + q ≤ cs.length) (hn3 : q ≤ 1000000) (hq : 0 < q) :
  Calls Tryz.prog 71 #[.slice (some ⟨gp, a * 4, none⟩) q q, .int .i64 (q : Int), .agg #[.int .i64 d1, .int .i64 d2, .int .i64 d3, .int .i64 d4]] w fun e w' => (∃ v, e = .returned v) ∧ Wc w' gp (slideC cs a q (q : Int) (d1, d2, d3, d4)) sp ∧ w.grownBy w' (some gp) := by
 have HW := Lib.hid hW
 have HA := Lib.hid ha
 have HQR := Lib.hid (rfl : q = q)
 have hgl := hW.lt
 have q1 : (0 : Int) ≤ (q : Int) := by omega
 have q0 : ¬ q = 0 := by omega
 have qp : (0 : Int) < (q : Int) := by omega
 obtain ⟨o, ho⟩ : ∃ o, a * 4 = o := ⟨_, rfl⟩
 rw [ho]
 have HO := Lib.hid ho
 clear hW ha ho
 go_enter Tryz.func71, Tryz.ntmps71
 go_upto_region 1 with (fail)
 generalize hw1 : w.alloc _ = w1
 obtain ⟨hb0, hbw, hz⟩ := sb1 hw1
 have HB := Lib.hid hb0
 have HW1 := Lib.hid (HW.out.up hbw)
 have hz1 : w.heap.size < w1.heap.size := by omega
 clear hw1 hb0 hz HW
 go_upto_region 7 with ((refine wpList_copyS rfl (.tmp 11) (.tmp 14) 24 24 rfl 53 4 Tryz.underlying24 infoCs gp o q q ⟨gp, o, none⟩ 0 0 rfl rfl (flat cs ++ sp).toArray 53 HW1.out [] (show 0 = min 0 q * 4 by simp) (by simp) (by have h1 := HA.out; have h2 := HO.out; rw [List.size_toArray, List.length_append, flat_len]; simp; omega) (by simp) ?_; intro w2 hcell hg2; have HC2 := Lib.hid hcell; have HG2 := Lib.hid hg2; clear hcell hg2))
 have HM := Lib.hid (Wc.same HC2.out)
 obtain ⟨M, hM⟩ : ∃ M, cs = M := ⟨_, rfl⟩
 have hml : M.length = cs.length := by rw [hM]
 have HMe := Lib.hid hM
 have HM := Lib.hid (show Wc w2 gp M sp from hM ▸ HM.out)
 clear hM HC2
 have HBx := Lib.hid (HB.out.far HG2.out (by intro e; have := Option.some.inj e; omega))
 obtain ⟨o2, ho2⟩ : ∃ o2, o = o2 := ⟨_, rfl⟩
 simp only [ho2]
 have HO2 := Lib.hid ho2
 clear ho2
 go_wp2_with fail
 go_loopw [34] (fun i wr => ∃ k : Nat, i = .int .i64 k ∧ k ≤ q ∧ Wc wr gp (fillL M (a) k (d1, d2, d3, d4)) sp ∧ w2.grownBy wr (some gp)) (fun i _ => q - (intOf i).toNat)
 case atStart => exact ⟨0, rfl, by omega, by rw [fillL_0]; exact HM.out, grown_refl _ _⟩
 case round =>
  rename_i wr
  obtain ⟨k, rfl, hk, hWr, hgr⟩ := hrel
  have HWr := Lib.hid hWr
  have HGr := Lib.hid hgr
  have HBr := Lib.hid (HBx.out.far hgr (by intro e; have := Option.some.inj e; omega))
  have y0 := HBr.out.cell 0 (v := .int .i64 d1) rfl
  have y1 := HBr.out.cell 1 (v := .int .i64 d2) rfl
  have y2 := HBr.out.cell 2 (v := .int .i64 d3) rfl
  have y3 := HBr.out.cell 3 (v := .int .i64 d4) rfl
  clear hWr hgr
  by_cases hlt : k < q
  ·have hkl : (a) + k < (fillL M (a) k (d1, d2, d3, d4)).length := by rw [fillL_len, hml]; have h1 := HA.out; have h2 := HQR.out; omega
   obtain ⟨a1, a2, a3, a4⟩ := HWr.out.cells _ hkl
   have b1 := HWr.out.free (((a) + k) * 4)
   have b2 := HWr.out.free (((a) + k) * 4 + 1)
   have b3 := HWr.out.free (((a) + k) * 4 + 2)
   have b4 := HWr.out.free (((a) + k) * 4 + 3)
   have hst := HWr.out.store ((a) + k) hkl (d1, d2, d3, d4)
   rw [fillL_step] at hst
   have e4 : ((a) + k) * 4 = o2 + k * 4 := by have h1 := HO.out; have h2 := HO2.out; omega
   rw [e4] at a1 a2 a3 a4 b1 b2 b3 b4 hst
   have HST := Lib.hid hst
   clear hst
   go_wp2_with fail
   go_roundw
   case rel => exact ⟨k + 1, by go_num, by omega, HST.out, grown_set (grown_set (grown_set (grown_set HGr.out _ _) _ _) _ _) _ _⟩
   case measure => simp [intOf]; omega
  ·obtain rfl : k = q := by omega
   go_wp2_with fail
   refine bodyPost_end (by simp [results, Tryz.results71, go_sem]; rfl) rfl ?_
   have hfin := HWr.out
   rw [← HMe.out] at hfin
   have hlaw := slide_pos (cs := cs) (a := a) (n := k) (q := k) (d := (d1, d2, d3, d4)) HA.out (Nat.le_refl _)
   rw [show k - k = 0 from Nat.sub_self k, movC_0] at hlaw
   (try rw [Nat.add_zero] at hlaw)
   refine ⟨⟨_, rfl⟩, ?_, ((grown_bw hbw (some gp)).trans HG2.out).trans HGr.out⟩
   rw [← hlaw]
   exact hfin

set_option maxRecDepth 100000 in
set_option maxHeartbeats 4000000 in
theorem gslide_nfull (cs : List C4) (sp : List Value) (gp a q : Nat) (d1 d2 d3 d4 : Int) (w : World) (hW : Wc w gp cs sp) (ha : a + q ≤ cs.length) (hn3 : q ≤ 1000000) (hq : 0 < q) :
  Calls Tryz.prog 71 #[.slice (some ⟨gp, a * 4, none⟩) q q, .int .i64 (-(q : Int)), .agg #[.int .i64 d1, .int .i64 d2, .int .i64 d3, .int .i64 d4]] w fun e w' => (∃ v, e = .returned v) ∧ Wc w' gp (slideC cs a q (-(q : Int)) (d1, d2, d3, d4)) sp ∧ w.grownBy w' (some gp) := by
 have HW := Lib.hid hW
 have HA := Lib.hid ha
 have HQR := Lib.hid (rfl : q = q)
 have hgl := hW.lt
 have q1 : (0 : Int) ≤ (q : Int) := by omega
 have q0 : ¬ q = 0 := by omega
 have qp : (0 : Int) < (q : Int) := by omega
 obtain ⟨o, ho⟩ : ∃ o, a * 4 = o := ⟨_, rfl⟩
 rw [ho]
 have HO := Lib.hid ho
 clear hW ha ho
 have hn1 : -(q : Int) < 0 := by omega
 have hn2 : ¬ (0 : Int) ≤ -(q : Int) := by omega
 go_enter Tryz.func71, Tryz.ntmps71
 go_upto_region 1 with (fail)
 generalize hw1 : w.alloc _ = w1
 obtain ⟨hb0, hbw, hz⟩ := sb1 hw1
 have HB := Lib.hid hb0
 have HW1 := Lib.hid (HW.out.up hbw)
 have hz1 : w.heap.size < w1.heap.size := by omega
 clear hw1 hb0 hz HW
 go_upto_region 7 with ((refine wpList_copyS rfl (.tmp 25) (.tmp 26) 24 24 rfl 53 4 Tryz.underlying24 infoCs gp o 0 0 ⟨gp, o, none⟩ q q rfl rfl (flat cs ++ sp).toArray 53 HW1.out [] (show 0 = min q 0 * 4 by simp) (by simp) (by have h1 := HA.out; have h2 := HO.out; rw [List.size_toArray, List.length_append, flat_len]; simp; omega) (by simp) ?_; intro w2 hcell hg2; have HC2 := Lib.hid hcell; have HG2 := Lib.hid hg2; clear hcell hg2))
 have HM := Lib.hid (Wc.same HC2.out)
 obtain ⟨M, hM⟩ : ∃ M, cs = M := ⟨_, rfl⟩
 have hml : M.length = cs.length := by rw [hM]
 have HMe := Lib.hid hM
 have HM := Lib.hid (show Wc w2 gp M sp from hM ▸ HM.out)
 clear hM HC2
 have HBx := Lib.hid (HB.out.far HG2.out (by intro e; have := Option.some.inj e; omega))
 obtain ⟨o2, ho2⟩ : ∃ o2, o = o2 := ⟨_, rfl⟩
 simp only [ho2]
 have HO2 := Lib.hid ho2
 clear ho2
 go_wp2_with fail
 go_loopw [34] (fun i wr => ∃ k : Nat, i = .int .i64 k ∧ k ≤ q ∧ Wc wr gp (fillL M (a) k (d1, d2, d3, d4)) sp ∧ w2.grownBy wr (some gp)) (fun i _ => q - (intOf i).toNat)
 case atStart => exact ⟨0, rfl, by omega, by rw [fillL_0]; exact HM.out, grown_refl _ _⟩
 case round =>
  rename_i wr
  obtain ⟨k, rfl, hk, hWr, hgr⟩ := hrel
  have HWr := Lib.hid hWr
  have HGr := Lib.hid hgr
  have HBr := Lib.hid (HBx.out.far hgr (by intro e; have := Option.some.inj e; omega))
  have y0 := HBr.out.cell 0 (v := .int .i64 d1) rfl
  have y1 := HBr.out.cell 1 (v := .int .i64 d2) rfl
  have y2 := HBr.out.cell 2 (v := .int .i64 d3) rfl
  have y3 := HBr.out.cell 3 (v := .int .i64 d4) rfl
  clear hWr hgr
  by_cases hlt : k < q
  ·have hkl : (a) + k < (fillL M (a) k (d1, d2, d3, d4)).length := by rw [fillL_len, hml]; have h1 := HA.out; have h2 := HQR.out; omega
   obtain ⟨a1, a2, a3, a4⟩ := HWr.out.cells _ hkl
   have b1 := HWr.out.free (((a) + k) * 4)
   have b2 := HWr.out.free (((a) + k) * 4 + 1)
   have b3 := HWr.out.free (((a) + k) * 4 + 2)
   have b4 := HWr.out.free (((a) + k) * 4 + 3)
   have hst := HWr.out.store ((a) + k) hkl (d1, d2, d3, d4)
   rw [fillL_step] at hst
   have e4 : ((a) + k) * 4 = o2 + k * 4 := by have h1 := HO.out; have h2 := HO2.out; omega
   rw [e4] at a1 a2 a3 a4 b1 b2 b3 b4 hst
   have HST := Lib.hid hst
   clear hst
   go_wp2_with fail
   go_roundw
   case rel => exact ⟨k + 1, by go_num, by omega, HST.out, grown_set (grown_set (grown_set (grown_set HGr.out _ _) _ _) _ _) _ _⟩
   case measure => simp [intOf]; omega
  ·obtain rfl : k = q := by omega
   go_wp2_with fail
   refine bodyPost_end (by simp [results, Tryz.results71, go_sem]; rfl) rfl ?_
   have hfin := HWr.out
   rw [← HMe.out] at hfin
   have hlaw := slide_neg (cs := cs) (a := a) (n := k) (q := k) (d := (d1, d2, d3, d4)) HA.out (Nat.le_refl _)
   rw [show k - k = 0 from Nat.sub_self k, movC_0] at hlaw
   (try rw [Nat.add_zero] at hlaw)
   refine ⟨⟨_, rfl⟩, ?_, ((grown_bw hbw (some gp)).trans HG2.out).trans HGr.out⟩
   rw [← hlaw]
   exact hfin
end Go.Proofs.YtkflooljdopldaaGreat

/- The program's slide by 0; slide at all arguments. -/
namespace Go.Proofs.YtkflooljdopldaaGreat
open Go.RowKit

set_option maxRecDepth 100000 in
set_option maxHeartbeats 4000000 in
theorem gslide_zero (cs : List C4) (sp : List Value) (gp a n cp : Nat) (d1 d2 d3 d4 : Int) (w : World) (hW : Wc w gp cs sp) (ha : a + n ≤ cs.length) (hn : n ≤ cp) (hn1 : 0 < n) (hn3 : n ≤ 1000000) (hc : cp ≤ 9223372036854775807) :
  Calls Tryz.prog 71 #[.slice (some ⟨gp, a * 4, none⟩) n cp, .int .i64 0, .agg #[.int .i64 d1, .int .i64 d2, .int .i64 d3, .int .i64 d4]] w fun e w' => (∃ v, e = .returned v) ∧ Wc w' gp (slideC cs a n 0 (d1, d2, d3, d4)) sp ∧ w.grownBy w' (some gp) := by
 have HW := Lib.hid hW
 have HA := Lib.hid ha
 have HQR := Lib.hid (rfl : n = n)
 have hgl := hW.lt
 have hn0 : ¬ n = 0 := by omega
 have hc0 : ¬ cp = 0 := by omega
 have q2 : (n : Int) ≤ (cp : Int) := by omega
 obtain ⟨o, ho⟩ : ∃ o, a * 4 = o := ⟨_, rfl⟩
 rw [ho]
 have HO := Lib.hid ho
 clear hW ha ho
 go_enter Tryz.func71, Tryz.ntmps71
 go_upto_region 1 with (fail)
 generalize hw1 : w.alloc _ = w1
 obtain ⟨hb0, hbw, hz⟩ := sb1 hw1
 have HB := Lib.hid hb0
 have HW1 := Lib.hid (HW.out.up hbw)
 have hz1 : w.heap.size < w1.heap.size := by omega
 clear hw1 hb0 hz HW
 have F1 : (flat ((cs.drop (a)).take n)).length = Nat.min n n * 4 := by
  have h1 := HA.out
  have h2 := HQR.out
  rw [flat_len, List.length_take, List.length_drop]
  have e : min n (cs.length - (a)) = Nat.min n n := by show _ = min n n; omega
  rw [e]
 have F2 : ∀ j v, (flat ((cs.drop (a)).take n))[j]? = some v → w1.cell? ((⟨gp, o, none⟩ : Addr).add j) = some v := fun j v hv => by
  have h1 := HA.out
  have h2 := HQR.out
  have h3 := (HW1.out.rg.sub (a) n (by omega)).news j v hv
  rw [show 0 + (a) * 4 = o by have := HO.out; omega] at h3
  exact h3
 have F3 : o + (flat ((cs.drop (a)).take n)).length ≤ (flat cs ++ sp).toArray.size := by
  have h1 := HA.out
  have h2 := HQR.out
  have h3 := HO.out
  rw [flat_len, List.length_take, List.length_drop, List.size_toArray, List.length_append, flat_len]
  omega
 have HF := Lib.hid (And.intro F1 (And.intro F2 F3))
 clear F1 F2 F3
 go_upto_region 4 with ((refine wpList_copyS rfl (.tmp 11) (.tmp 14) 24 24 rfl 53 4 Tryz.underlying24 infoCs gp (o) n cp ⟨gp, o, none⟩ n cp rfl rfl (flat cs ++ sp).toArray 53 HW1.out (flat ((cs.drop (a)).take n)) HF.out.1 HF.out.2.1 HF.out.2.2 (flat_one _) ?_; intro w2 hcell hg2; have HC2 := Lib.hid hcell; have HG2 := Lib.hid hg2; clear hcell hg2))
 have HM := Lib.hid (show Wc w2 gp (movC cs a a n) sp from Wc.moved (by have h1 := HA.out; omega) (by have h1 := HA.out; omega) (by rw [HO.out]; exact HC2.out))
 have hlaw : movC cs a a n = slideC cs a n 0 (d1, d2, d3, d4) := by
  have h := slide_pos (cs := cs) (a := a) (n := n) (q := 0) (d := (d1, d2, d3, d4)) HA.out (by omega)
  rw [fillL_0] at h
  simpa using h
 rw [hlaw] at HM
 clear HC2 hlaw
 by_cases hcn : cp = n
 ·subst hcn
  go_wp2_with fail
  go_loopw [34] (fun i wr => i = .int .i64 0 ∧ Wc wr gp (slideC cs a cp 0 (d1, d2, d3, d4)) sp ∧ w2.grownBy wr (some gp)) (fun _ _ => 0)
  case atStart => exact ⟨rfl, HM.out, grown_refl _ _⟩
  case round =>
   rename_i wr
   obtain ⟨rfl, hWr, hgr⟩ := hrel
   have HWr := Lib.hid hWr
   have HGr := Lib.hid hgr
   clear hWr hgr
   go_wp2_with fail
   refine bodyPost_end (by simp [results, Tryz.results71, go_sem]; rfl) rfl ?_
   exact ⟨⟨_, rfl⟩, HWr.out, ((grown_bw hbw (some gp)).trans HG2.out).trans HGr.out⟩
 ·have hcn2 : ¬ n = cp := fun e => hcn e.symm
  go_wp2_with fail
  go_loopw [34] (fun i wr => i = .int .i64 0 ∧ Wc wr gp (slideC cs a n 0 (d1, d2, d3, d4)) sp ∧ w2.grownBy wr (some gp)) (fun _ _ => 0)
  case atStart => exact ⟨rfl, HM.out, grown_refl _ _⟩
  case round =>
   rename_i wr
   obtain ⟨rfl, hWr, hgr⟩ := hrel
   have HWr := Lib.hid hWr
   have HGr := Lib.hid hgr
   clear hWr hgr
   go_wp2_with fail
   refine bodyPost_end (by simp [results, Tryz.results71, go_sem]; rfl) rfl ?_
   exact ⟨⟨_, rfl⟩, HWr.out, ((grown_bw hbw (some gp)).trans HG2.out).trans HGr.out⟩

/-- slide moves what it is said to move, at every number of places that there are. -/
theorem gslide_any (cs : List C4) (sp : List Value) (gp a n cp : Nat) (num d1 d2 d3 d4 : Int) (w : World) (hW : Wc w gp cs sp) (ha : a + n ≤ cs.length) (hn : n ≤ cp) (hn1 : 0 < n) (hn3 : n ≤ 1000000) (hc : cp ≤ 9223372036854775807) (h1 : -(n : Int) ≤ num) (h2 : num ≤ n) :
  Calls Tryz.prog 71 #[.slice (some ⟨gp, a * 4, none⟩) n cp, .int .i64 num, .agg #[.int .i64 d1, .int .i64 d2, .int .i64 d3, .int .i64 d4]] w fun e w' => (∃ v, e = .returned v) ∧ Wc w' gp (slideC cs a n num (d1, d2, d3, d4)) sp ∧ w.grownBy w' (some gp) := by
 by_cases h0 : num = 0
 ·subst h0
  exact gslide_zero cs sp gp a n cp d1 d2 d3 d4 w hW ha hn hn1 hn3 hc
 by_cases hp : 0 < num
 ·obtain ⟨q, rfl⟩ : ∃ q : Nat, num = q := ⟨num.toNat, by omega⟩
  by_cases hcq : cp = q
  ·obtain rfl : n = q := by omega
   subst hcq
   exact gslide_full cs sp gp a cp d1 d2 d3 d4 w hW ha hn3 hn1
  ·exact gslide_pos cs sp gp a n cp q (n - q) d1 d2 d3 d4 w hW ha hn hn3 hc (by omega) hcq (by omega)
 ·obtain ⟨q, rfl⟩ : ∃ q : Nat, num = -(q : Int) := ⟨(-num).toNat, by omega⟩
  by_cases hcq : cp = q
  ·obtain rfl : n = q := by omega
   subst hcq
   exact gslide_nfull cs sp gp a cp d1 d2 d3 d4 w hW ha hn3 hn1
  ·exact gslide_neg cs sp gp a n cp q (n - q) d1 d2 d3 d4 w hW ha hn hn3 hc (by omega) hcq (by omega)
end Go.Proofs.YtkflooljdopldaaGreat
