/- Parts of the proof, one after the other. -/
import Derived.Test.YtkflooljdopldaaGreatV27
import Derived.Test.YtkflooljdopldaaGreatV06
import Derived.Test.YtkflooljdopldaaGreatV26
set_option linter.unusedSimpArgs false
set_option linter.unusedVariables false
/- The program's slide, where all the places are left. -/
namespace Go.Proofs.YtkflooljdopldaaGreat
open Go.RowKit

theorem Wc.same {w' : World} {g o : Nat} {cs : List C4} {sp : List Value} (h : w'.heap[g]? = some (.cells ((flat cs ++ sp).toArray.toList.take o ++ [] ++ (flat cs ++ sp).toArray.toList.drop (o + ([] : List Value).length)).toArray 53 (0,0))) : Wc w' g cs sp:=by
 unfold Wc
 rw [h]
 simp
theorem movC_0 (cs : List C4) (k p : Nat) : movC cs k p 0 = cs:=by simp [movC]
set_option maxRecDepth 100000 in
set_option maxHeartbeats 4000000 in
theorem gslide_full (cs : List C4) (sp : List Value) (gp a q : Nat) (d1 d2 d3 d4 : Int) (w : World) (hW : Wc w gp cs sp) (ha : a + q ≤ cs.length) (hn3 : q ≤ 1000000) (hq : 0 < q) :
  Calls Tryz.prog 71 #[.slice (some ⟨gp,a * 4,none⟩) q q,.int .i64 (q : Int),.agg #[.int .i64 d1,.int .i64 d2,.int .i64 d3,.int .i64 d4]] w fun e w' => (∃ v,e = .returned v) ∧ Wc w' gp (slideC cs a q (q : Int) (d1,d2,d3,d4)) sp ∧ w.grownBy w' (some gp):=by
 have HW:=Lib.hid hW
 have HA:=Lib.hid ha
 have HQR:=Lib.hid (rfl : q = q)
 have hgl:=hW.lt
 have q1 : (0 : Int) ≤ (q : Int):=by omega
 have q0 : ¬ q = 0:=by omega
 have qp : (0 : Int) < (q : Int):=by omega
 obtain ⟨o,ho⟩ : ∃ o,a * 4 = o:=⟨_,rfl⟩
 rw [ho]
 have HO:=Lib.hid ho
 clear hW ha ho
 go_enter Tryz.func71,Tryz.ntmps71
 go_upto_region 1 with (fail)
 generalize hw1 : w.alloc _ = w1
 obtain ⟨hb0,hbw,hz⟩:=sb1 hw1
 have HB:=Lib.hid hb0
 have HW1:=Lib.hid (HW.out.up hbw)
 have hz1 : w.heap.size < w1.heap.size:=by omega
 clear hw1 hb0 hz HW
 go_upto_region 7 with ((refine wpList_copyS rfl (.tmp 11) (.tmp 14) 24 24 rfl 53 4 Tryz.underlying24 infoCs gp o q q ⟨gp,o,none⟩ 0 0 rfl rfl (flat cs ++ sp).toArray 53 HW1.out [] (show 0 = min 0 q * 4 by simp) (by simp) (by have h1:=HA.out;have h2:=HO.out;rw [List.size_toArray,List.length_append,flat_len];simp;omega) (by simp) ?_;intro w2 hcell hg2;have HC2:=Lib.hid hcell;have HG2:=Lib.hid hg2;clear hcell hg2))
 have HM:=Lib.hid (Wc.same HC2.out)
 obtain ⟨M,hM⟩ : ∃ M,cs = M:=⟨_,rfl⟩
 have hml : M.length = cs.length:=by rw [hM]
 have HMe:=Lib.hid hM
 have HM:=Lib.hid (show Wc w2 gp M sp from hM ▸ HM.out)
 clear hM HC2
 have HBx:=Lib.hid (HB.out.far HG2.out (by intro e;have:=Option.some.inj e;omega))
 obtain ⟨o2,ho2⟩ : ∃ o2,o = o2:=⟨_,rfl⟩
 simp only [ho2]
 have HO2:=Lib.hid ho2
 clear ho2
 go_wp2_with fail
 go_loopw [34] (fun i wr => ∃ k : Nat,i = .int .i64 k ∧ k ≤ q ∧ Wc wr gp (fillL M (a) k (d1,d2,d3,d4)) sp ∧ w2.grownBy wr (some gp)) (fun i _ => q - (intOf i).toNat)
 case atStart => exact ⟨0,rfl,by omega,by rw [fillL_0];exact HM.out,grown_refl _ _⟩
 case round =>
  rename_i wr
  obtain ⟨k,rfl,hk,hWr,hgr⟩:=hrel
  have HWr:=Lib.hid hWr
  have HGr:=Lib.hid hgr
  have HBr:=Lib.hid (HBx.out.far hgr (by intro e;have:=Option.some.inj e;omega))
  have y0:=HBr.out.cell 0 (v:=.int .i64 d1) rfl
  have y1:=HBr.out.cell 1 (v:=.int .i64 d2) rfl
  have y2:=HBr.out.cell 2 (v:=.int .i64 d3) rfl
  have y3:=HBr.out.cell 3 (v:=.int .i64 d4) rfl
  clear hWr hgr
  by_cases hlt : k < q
  ·have hkl : (a) + k < (fillL M (a) k (d1,d2,d3,d4)).length:=by rw [fillL_len,hml];have h1:=HA.out;have h2:=HQR.out;omega
   obtain ⟨a1,a2,a3,a4⟩:=HWr.out.cells _ hkl
   have b1:=HWr.out.free (((a) + k) * 4)
   have b2:=HWr.out.free (((a) + k) * 4 + 1)
   have b3:=HWr.out.free (((a) + k) * 4 + 2)
   have b4:=HWr.out.free (((a) + k) * 4 + 3)
   have hst:=HWr.out.store ((a) + k) hkl (d1,d2,d3,d4)
   rw [fillL_step] at hst
   have e4 : ((a) + k) * 4 = o2 + k * 4:=by have h1:=HO.out;have h2:=HO2.out;omega
   rw [e4] at a1 a2 a3 a4 b1 b2 b3 b4 hst
   have HST:=Lib.hid hst
   clear hst
   go_wp2_with fail
   go_roundw
   case rel => exact ⟨k + 1,by go_num,by omega,HST.out,grown_set (grown_set (grown_set (grown_set HGr.out _ _) _ _) _ _) _ _⟩
   case measure => simp [intOf];omega
  ·obtain rfl : k = q:=by omega
   go_wp2_with fail
   refine bodyPost_end (by simp [results,Tryz.results71,go_sem];rfl) rfl ?_
   have hfin:=HWr.out
   rw [← HMe.out] at hfin
   have hlaw:=slide_pos (cs:=cs) (a:=a) (n:=k) (q:=k) (d:=(d1,d2,d3,d4)) HA.out (Nat.le_refl _)
   rw [show k - k = 0 from Nat.sub_self k,movC_0] at hlaw
   (try rw [Nat.add_zero] at hlaw)
   refine ⟨⟨_,rfl⟩,?_,((grown_bw hbw (some gp)).trans HG2.out).trans HGr.out⟩
   rw [← hlaw]
   exact hfin

set_option maxRecDepth 100000 in
set_option maxHeartbeats 4000000 in
theorem gslide_nfull (cs : List C4) (sp : List Value) (gp a q : Nat) (d1 d2 d3 d4 : Int) (w : World) (hW : Wc w gp cs sp) (ha : a + q ≤ cs.length) (hn3 : q ≤ 1000000) (hq : 0 < q) :
  Calls Tryz.prog 71 #[.slice (some ⟨gp,a * 4,none⟩) q q,.int .i64 (-(q : Int)),.agg #[.int .i64 d1,.int .i64 d2,.int .i64 d3,.int .i64 d4]] w fun e w' => (∃ v,e = .returned v) ∧ Wc w' gp (slideC cs a q (-(q : Int)) (d1,d2,d3,d4)) sp ∧ w.grownBy w' (some gp):=by
 have HW:=Lib.hid hW
 have HA:=Lib.hid ha
 have HQR:=Lib.hid (rfl : q = q)
 have hgl:=hW.lt
 have q1 : (0 : Int) ≤ (q : Int):=by omega
 have q0 : ¬ q = 0:=by omega
 have qp : (0 : Int) < (q : Int):=by omega
 obtain ⟨o,ho⟩ : ∃ o,a * 4 = o:=⟨_,rfl⟩
 rw [ho]
 have HO:=Lib.hid ho
 clear hW ha ho
 have hn1 : -(q : Int) < 0:=by omega
 have hn2 : ¬ (0 : Int) ≤ -(q : Int):=by omega
 go_enter Tryz.func71,Tryz.ntmps71
 go_upto_region 1 with (fail)
 generalize hw1 : w.alloc _ = w1
 obtain ⟨hb0,hbw,hz⟩:=sb1 hw1
 have HB:=Lib.hid hb0
 have HW1:=Lib.hid (HW.out.up hbw)
 have hz1 : w.heap.size < w1.heap.size:=by omega
 clear hw1 hb0 hz HW
 go_upto_region 7 with ((refine wpList_copyS rfl (.tmp 25) (.tmp 26) 24 24 rfl 53 4 Tryz.underlying24 infoCs gp o 0 0 ⟨gp,o,none⟩ q q rfl rfl (flat cs ++ sp).toArray 53 HW1.out [] (show 0 = min q 0 * 4 by simp) (by simp) (by have h1:=HA.out;have h2:=HO.out;rw [List.size_toArray,List.length_append,flat_len];simp;omega) (by simp) ?_;intro w2 hcell hg2;have HC2:=Lib.hid hcell;have HG2:=Lib.hid hg2;clear hcell hg2))
 have HM:=Lib.hid (Wc.same HC2.out)
 obtain ⟨M,hM⟩ : ∃ M,cs = M:=⟨_,rfl⟩
 have hml : M.length = cs.length:=by rw [hM]
 have HMe:=Lib.hid hM
 have HM:=Lib.hid (show Wc w2 gp M sp from hM ▸ HM.out)
 clear hM HC2
 have HBx:=Lib.hid (HB.out.far HG2.out (by intro e;have:=Option.some.inj e;omega))
 obtain ⟨o2,ho2⟩ : ∃ o2,o = o2:=⟨_,rfl⟩
 simp only [ho2]
 have HO2:=Lib.hid ho2
 clear ho2
 go_wp2_with fail
 go_loopw [34] (fun i wr => ∃ k : Nat,i = .int .i64 k ∧ k ≤ q ∧ Wc wr gp (fillL M (a) k (d1,d2,d3,d4)) sp ∧ w2.grownBy wr (some gp)) (fun i _ => q - (intOf i).toNat)
 case atStart => exact ⟨0,rfl,by omega,by rw [fillL_0];exact HM.out,grown_refl _ _⟩
 case round =>
  rename_i wr
  obtain ⟨k,rfl,hk,hWr,hgr⟩:=hrel
  have HWr:=Lib.hid hWr
  have HGr:=Lib.hid hgr
  have HBr:=Lib.hid (HBx.out.far hgr (by intro e;have:=Option.some.inj e;omega))
  have y0:=HBr.out.cell 0 (v:=.int .i64 d1) rfl
  have y1:=HBr.out.cell 1 (v:=.int .i64 d2) rfl
  have y2:=HBr.out.cell 2 (v:=.int .i64 d3) rfl
  have y3:=HBr.out.cell 3 (v:=.int .i64 d4) rfl
  clear hWr hgr
  by_cases hlt : k < q
  ·have hkl : (a) + k < (fillL M (a) k (d1,d2,d3,d4)).length:=by rw [fillL_len,hml];have h1:=HA.out;have h2:=HQR.out;omega
   obtain ⟨a1,a2,a3,a4⟩:=HWr.out.cells _ hkl
   have b1:=HWr.out.free (((a) + k) * 4)
   have b2:=HWr.out.free (((a) + k) * 4 + 1)
   have b3:=HWr.out.free (((a) + k) * 4 + 2)
   have b4:=HWr.out.free (((a) + k) * 4 + 3)
   have hst:=HWr.out.store ((a) + k) hkl (d1,d2,d3,d4)
   rw [fillL_step] at hst
   have e4 : ((a) + k) * 4 = o2 + k * 4:=by have h1:=HO.out;have h2:=HO2.out;omega
   rw [e4] at a1 a2 a3 a4 b1 b2 b3 b4 hst
   have HST:=Lib.hid hst
   clear hst
   go_wp2_with fail
   go_roundw
   case rel => exact ⟨k + 1,by go_num,by omega,HST.out,grown_set (grown_set (grown_set (grown_set HGr.out _ _) _ _) _ _) _ _⟩
   case measure => simp [intOf];omega
  ·obtain rfl : k = q:=by omega
   go_wp2_with fail
   refine bodyPost_end (by simp [results,Tryz.results71,go_sem];rfl) rfl ?_
   have hfin:=HWr.out
   rw [← HMe.out] at hfin
   have hlaw:=slide_neg (cs:=cs) (a:=a) (n:=k) (q:=k) (d:=(d1,d2,d3,d4)) HA.out (Nat.le_refl _)
   rw [show k - k = 0 from Nat.sub_self k,movC_0] at hlaw
   (try rw [Nat.add_zero] at hlaw)
   refine ⟨⟨_,rfl⟩,?_,((grown_bw hbw (some gp)).trans HG2.out).trans HGr.out⟩
   rw [← hlaw]
   exact hfin

set_option maxRecDepth 100000 in
set_option maxHeartbeats 4000000 in
theorem gslide_zero (cs : List C4) (sp : List Value) (gp a n cp : Nat) (d1 d2 d3 d4 : Int) (w : World) (hW : Wc w gp cs sp) (ha : a + n ≤ cs.length) (hn : n ≤ cp) (hn1 : 0 < n) (hn3 : n ≤ 1000000) (hc : cp ≤ 9223372036854775807) :
  Calls Tryz.prog 71 #[.slice (some ⟨gp,a * 4,none⟩) n cp,.int .i64 0,.agg #[.int .i64 d1,.int .i64 d2,.int .i64 d3,.int .i64 d4]] w fun e w' => (∃ v,e = .returned v) ∧ Wc w' gp (slideC cs a n 0 (d1,d2,d3,d4)) sp ∧ w.grownBy w' (some gp):=by
 have HW:=Lib.hid hW
 have HA:=Lib.hid ha
 have HQR:=Lib.hid (rfl : n = n)
 have hgl:=hW.lt
 have hn0 : ¬ n = 0:=by omega
 have hc0 : ¬ cp = 0:=by omega
 have q2 : (n : Int) ≤ (cp : Int):=by omega
 obtain ⟨o,ho⟩ : ∃ o,a * 4 = o:=⟨_,rfl⟩
 rw [ho]
 have HO:=Lib.hid ho
 clear hW ha ho
 go_enter Tryz.func71,Tryz.ntmps71
 go_upto_region 1 with (fail)
 generalize hw1 : w.alloc _ = w1
 obtain ⟨hb0,hbw,hz⟩:=sb1 hw1
 have HB:=Lib.hid hb0
 have HW1:=Lib.hid (HW.out.up hbw)
 have hz1 : w.heap.size < w1.heap.size:=by omega
 clear hw1 hb0 hz HW
 have F1 : (flat ((cs.drop (a)).take n)).length = Nat.min n n * 4:=by
  have h1:=HA.out
  have h2:=HQR.out
  rw [flat_len,List.length_take,List.length_drop]
  have e : min n (cs.length - (a)) = Nat.min n n:=by show _ = min n n;omega
  rw [e]
 have F2 : ∀ j v,(flat ((cs.drop (a)).take n))[j]? = some v → w1.cell? ((⟨gp,o,none⟩ : Addr).add j) = some v:=fun j v hv => by
  have h1:=HA.out
  have h2:=HQR.out
  have h3:=(HW1.out.rg.sub (a) n (by omega)).news j v hv
  rw [show 0 + (a) * 4 = o by have:=HO.out;omega] at h3
  exact h3
 have F3 : o + (flat ((cs.drop (a)).take n)).length ≤ (flat cs ++ sp).toArray.size:=by
  have h1:=HA.out
  have h2:=HQR.out
  have h3:=HO.out
  rw [flat_len,List.length_take,List.length_drop,List.size_toArray,List.length_append,flat_len]
  omega
 have HF:=Lib.hid (And.intro F1 (And.intro F2 F3))
 clear F1 F2 F3
 go_upto_region 4 with ((refine wpList_copyS rfl (.tmp 11) (.tmp 14) 24 24 rfl 53 4 Tryz.underlying24 infoCs gp (o) n cp ⟨gp,o,none⟩ n cp rfl rfl (flat cs ++ sp).toArray 53 HW1.out (flat ((cs.drop (a)).take n)) HF.out.1 HF.out.2.1 HF.out.2.2 (flat_one _) ?_;intro w2 hcell hg2;have HC2:=Lib.hid hcell;have HG2:=Lib.hid hg2;clear hcell hg2))
 have HM:=Lib.hid (show Wc w2 gp (movC cs a a n) sp from Wc.moved (by have h1:=HA.out;omega) (by have h1:=HA.out;omega) (by rw [HO.out];exact HC2.out))
 have hlaw : movC cs a a n = slideC cs a n 0 (d1,d2,d3,d4):=by
  have h:=slide_pos (cs:=cs) (a:=a) (n:=n) (q:=0) (d:=(d1,d2,d3,d4)) HA.out (by omega)
  rw [fillL_0] at h
  simpa using h
 rw [hlaw] at HM
 clear HC2 hlaw
 by_cases hcn : cp = n
 ·subst hcn
  go_wp2_with fail
  go_loopw [34] (fun i wr => i = .int .i64 0 ∧ Wc wr gp (slideC cs a cp 0 (d1,d2,d3,d4)) sp ∧ w2.grownBy wr (some gp)) (fun _ _ => 0)
  case atStart => exact ⟨rfl,HM.out,grown_refl _ _⟩
  case round =>
   rename_i wr
   obtain ⟨rfl,hWr,hgr⟩:=hrel
   have HWr:=Lib.hid hWr
   have HGr:=Lib.hid hgr
   clear hWr hgr
   go_wp2_with fail
   refine bodyPost_end (by simp [results,Tryz.results71,go_sem];rfl) rfl ?_
   exact ⟨⟨_,rfl⟩,HWr.out,((grown_bw hbw (some gp)).trans HG2.out).trans HGr.out⟩
 ·have hcn2 : ¬ n = cp:=fun e => hcn e.symm
  go_wp2_with fail
  go_loopw [34] (fun i wr => i = .int .i64 0 ∧ Wc wr gp (slideC cs a n 0 (d1,d2,d3,d4)) sp ∧ w2.grownBy wr (some gp)) (fun _ _ => 0)
  case atStart => exact ⟨rfl,HM.out,grown_refl _ _⟩
  case round =>
   rename_i wr
   obtain ⟨rfl,hWr,hgr⟩:=hrel
   have HWr:=Lib.hid hWr
   have HGr:=Lib.hid hgr
   clear hWr hgr
   go_wp2_with fail
   refine bodyPost_end (by simp [results,Tryz.results71,go_sem];rfl) rfl ?_
   exact ⟨⟨_,rfl⟩,HWr.out,((grown_bw hbw (some gp)).trans HG2.out).trans HGr.out⟩

/-- slide moves what it is said to move, at every number of places that there are. -/
theorem gslide_any (cs : List C4) (sp : List Value) (gp a n cp : Nat) (num d1 d2 d3 d4 : Int) (w : World) (hW : Wc w gp cs sp) (ha : a + n ≤ cs.length) (hn : n ≤ cp) (hn1 : 0 < n) (hn3 : n ≤ 1000000) (hc : cp ≤ 9223372036854775807) (h1 : -(n : Int) ≤ num) (h2 : num ≤ n) :
  Calls Tryz.prog 71 #[.slice (some ⟨gp,a * 4,none⟩) n cp,.int .i64 num,.agg #[.int .i64 d1,.int .i64 d2,.int .i64 d3,.int .i64 d4]] w fun e w' => (∃ v,e = .returned v) ∧ Wc w' gp (slideC cs a n num (d1,d2,d3,d4)) sp ∧ w.grownBy w' (some gp):=by
 by_cases h0 : num = 0
 ·subst h0
  exact gslide_zero cs sp gp a n cp d1 d2 d3 d4 w hW ha hn hn1 hn3 hc
 by_cases hp : 0 < num
 ·obtain ⟨q,rfl⟩ : ∃ q : Nat,num = q:=⟨num.toNat,by omega⟩
  by_cases hcq : cp = q
  ·obtain rfl : n = q:=by omega
   subst hcq
   exact gslide_full cs sp gp a cp d1 d2 d3 d4 w hW ha hn3 hn1
  ·exact gslide_pos cs sp gp a n cp q (n - q) d1 d2 d3 d4 w hW ha hn hn3 hc (by omega) hcq (by omega)
 ·obtain ⟨q,rfl⟩ : ∃ q : Nat,num = -(q : Int):=⟨(-num).toNat,by omega⟩
  by_cases hcq : cp = q
  ·obtain rfl : n = q:=by omega
   subst hcq
   exact gslide_nfull cs sp gp a cp d1 d2 d3 d4 w hW ha hn3 hn1
  ·exact gslide_neg cs sp gp a n cp q (n - q) d1 d2 d3 d4 w hW ha hn hn3 hc (by omega) hcq (by omega)

theorem le_row {A R k C : Int} (h0 : 0 ≤ k) (h1 : k < C) : A * C ≤ R * C + k ↔ A ≤ R:=by
 constructor
 ·intro h
  rcases (show R < A ∨ A ≤ R by omega) with h2|h2
  ·have h3:=Int.mul_le_mul_of_nonneg_right (show R + 1 ≤ A by omega) (show 0 ≤ C by omega)
   rw [Int.add_mul] at h3
   omega
  ·exact h2
 ·intro h
  have h3:=Int.mul_le_mul_of_nonneg_right h (show 0 ≤ C by omega)
  omega
theorem lt_row {B R k C : Int} (h0 : 0 ≤ k) (h1 : k < C) : R * C + k < B * C ↔ R < B:=by
 have:=le_row (A:=B) (R:=R) h0 h1
 omega
theorem atF_getD {Rn Cn : Nat} {cs : List C4} {r : Int} {k : Nat} {d : C4} (hr : 0 ≤ r ∧ r < Rn) (hk : k < Cn) : atF Rn Cn cs r k d = cs.getD (r * Cn + k).toNat d:=by
 obtain ⟨m,rfl⟩ : ∃ m : Nat,r = m:=⟨r.toNat,by omega⟩
 unfold atF
 rw [if_pos (by omega)]
 have e : (m : Int) * (Cn : Int) + (k : Int) = ((m * Cn + k : Nat) : Int):=by simp
 rw [e]
 rfl
theorem slide_scroll {Rn Cn tp h : Nat} {cs : List C4} {d : C4} (nn : Int) (hC : 0 < Cn) (hl : cs.length = Rn * Cn) (hb : tp + h ≤ Rn) : slideC cs (tp * Cn) (h * Cn) (nn * Cn) d = tab Rn Cn (scrollF Rn Cn cs tp ((tp : Int) + h - 1) nn d):=by
 refine List.ext_getElem (by rw [slideC_len,tab_len,hl]) (fun i h1 h2 => ?_)
 rw [tab_get]
 simp only [slideC,List.getElem_map,List.getElem_range]
 rw [tab_len] at h2
 obtain ⟨r,hr⟩ : ∃ r,i / Cn = r:=⟨_,rfl⟩
 obtain ⟨k,hk⟩ : ∃ k,i % Cn = k:=⟨_,rfl⟩
 have hkC : k < Cn:=by rw [← hk];exact Nat.mod_lt _ hC
 have hrR : r < Rn:=by rw [← hr];exact Nat.div_lt_of_lt_mul (by rw [Nat.mul_comm];exact h2)
 have hi : i = r * Cn + k:=by rw [← hr,← hk,Nat.mul_comm];exact (Nat.div_add_mod i Cn).symm
 rw [hr,hk]
 have hiI : (i : Int) = (r : Int) * (Cn : Int) + (k : Int):=by rw [hi];simp
 have e1 : ((tp * Cn : Nat) : Int) = (tp : Int) * (Cn : Int):=by simp
 have e2 : ((tp * Cn : Nat) : Int) + ((h * Cn : Nat) : Int) = ((tp : Int) + (h : Int)) * (Cn : Int):=by rw [Int.add_mul];simp
 have e3 : (i : Int) + nn * (Cn : Int) = ((r : Int) + nn) * (Cn : Int) + (k : Int):=by rw [hiI,Int.add_mul];omega
 rw [e2,e3,e1,hiI]
 have k0 : (0 : Int) ≤ (k : Int):=by omega
 have k1 : (k : Int) < (Cn : Int):=by omega
 have c1:=le_row (A:=(tp : Int)) (R:=(r : Int)) k0 k1
 have c2:=lt_row (B:=(tp : Int) + h) (R:=(r : Int)) k0 k1
 have c3:=le_row (A:=(tp : Int)) (R:=(r : Int) + nn) k0 k1
 have c4:=lt_row (B:=(tp : Int) + h) (R:=(r : Int) + nn) k0 k1
 unfold scrollF
 by_cases hin : (tp : Int) ≤ r ∧ (r : Int) ≤ (tp : Int) + h - 1
 ·rw [if_pos hin,if_pos ⟨c1.mpr hin.1,c2.mpr (by omega)⟩]
  by_cases hin2 : (tp : Int) ≤ (r : Int) + nn ∧ (r : Int) + nn ≤ (tp : Int) + h - 1
  ·rw [if_pos hin2,if_pos ⟨c3.mpr hin2.1,c4.mpr (by omega)⟩,atF_getD (by omega) hkC]
  ·rw [if_neg hin2,if_neg (fun hh => hin2 ⟨c3.mp hh.1,by have:=c4.mp hh.2;omega⟩)]
 ·rw [if_neg hin,if_neg (fun hh => hin ⟨c1.mp hh.1,by have:=c2.mp hh.2;omega⟩),atF_getD (by omega) hkC,← hiI]
  simp
/-- The reference clamps by the rows, the program by the height: the same. -/
theorem scroll_clamp {Rn Cn tp h : Nat} {cs : List C4} {d : C4} (num : Int) (hC : 0 < Cn) (hb : tp + h ≤ Rn) (hh : 0 < h) : tab Rn Cn (scrollF Rn Cn cs tp ((tp : Int) + h - 1) (clampS Rn num) d) = tab Rn Cn (scrollF Rn Cn cs tp ((tp : Int) + h - 1) (clampS h num) d):=by
 refine tab_ext hC (fun r k hr hk => ?_)
 unfold scrollF
 by_cases h1 : (tp : Int) ≤ r ∧ (r : Int) ≤ (tp : Int) + h - 1
 ·rw [if_pos h1,if_pos h1]
  by_cases h2 : -(h : Int) ≤ num ∧ num ≤ h
  ·rw [show clampS Rn num = num by unfold clampS;rw [if_neg (by omega),if_neg (by omega)],show clampS h num = num by unfold clampS;rw [if_neg (by omega),if_neg (by omega)]]
  ·rw [if_neg (by unfold clampS;(repeat' split) <;> omega),if_neg (by unfold clampS;(repeat' split) <;> omega)]
 ·rw [if_neg h1,if_neg h1]

set_option maxRecDepth 100000 in
set_option maxHeartbeats 8000000 in
theorem gscroll1_go (Rn Cn : Nat) (cs : List C4) (sp : List Value) (gp cp bt bb bg bn bc : Nat) (tp btm num d1 d2 d3 d4 : Int) (w : World) (hR1 : 1 ≤ Rn) (hR2 : Rn ≤ 30) (hC1 : 1 ≤ Cn) (hC2 : Cn ≤ 100) (hl : cs.length = Rn * Cn) (hW : Wc w gp cs sp) (hcp : Rn * Cn ≤ cp) (hcp2 : cp ≤ 9223372036854775807)
  (y0 : w.cell? ⟨bt,0,none⟩ = some (.int .i64 tp)) (y0' : w.cell? ⟨bb,0,none⟩ = some (.int .i64 btm)) (y1 : w.cell? ⟨bg,0,none⟩ = some (.int .i64 (Rn : Int))) (y2 : w.cell? ⟨bg,1,none⟩ = some (.int .i64 (Cn : Int))) (y3 : w.cell? ⟨bn,0,none⟩ = some (.int .i64 num))
  (y5 : w.cell? ⟨bc,0,none⟩ = some (.int .i64 d1)) (y6 : w.cell? ⟨bc,1,none⟩ = some (.int .i64 d2)) (y7 : w.cell? ⟨bc,2,none⟩ = some (.int .i64 d3)) (y8 : w.cell? ⟨bc,3,none⟩ = some (.int .i64 d4)) (hne : bt ≠ gp ∧ bb ≠ gp ∧ bg ≠ gp ∧ bn ≠ gp ∧ bc ≠ gp) :
  Calls Tryz.prog 70 #[.slice (some ⟨gp,0,none⟩) (Rn * Cn) cp,.pointer (some ⟨bt,0,none⟩),.pointer (some ⟨bb,0,none⟩),.pointer (some ⟨bg,0,none⟩),.pointer (some ⟨bn,0,none⟩),.pointer (some ⟨bc,0,none⟩)] w fun e w' => (∃ v,e = .returned v) ∧ Wc w' gp (if 0 ≤ tp ∧ tp ≤ btm ∧ btm < Rn then tab Rn Cn (scrollF Rn Cn cs tp btm (clampS Rn num) (d1,d2,d3,d4)) else cs) sp ∧ w.grownBy w' (some gp):=by
 obtain ⟨n,hn⟩ : ∃ n,n = Rn * Cn:=⟨_,rfl⟩
 have HN:=Lib.hid hn
 rw [← hn] at hl hcp ⊢
 clear hn
 have HL:=Lib.hid hl
 have HW:=Lib.hid hW
 clear hl hW
 have hz : tp < 0 ∨ (0 ≤ tp ∧ btm < tp) ∨ ((0 ≤ tp ∧ tp ≤ btm) ∧ (Rn : Int) ≤ btm) ∨ ((0 ≤ tp ∧ tp ≤ btm) ∧ btm < Rn):=by omega
 rcases hz with h|⟨h1,h2⟩|⟨⟨h1,h2⟩,h3⟩|⟨⟨h1,h2⟩,h3⟩
 iterate 3
  ·have HE:=Lib.hid (show (if 0 ≤ tp ∧ tp ≤ btm ∧ btm < Rn then tab Rn Cn (scrollF Rn Cn cs tp btm (clampS Rn num) (d1,d2,d3,d4)) else cs) = cs from if_neg (by omega))
   go_enter Tryz.func70,Tryz.ntmps70
   go_wp2_with fail
   refine bodyPost_ret (by simp [results,Tryz.results70,go_sem];rfl) rfl ?_
   exact ⟨⟨_,rfl⟩,by first|(rw [HE.out];exact HW.out)|exact HW.out,grown_refl _ _⟩
 have HE:=Lib.hid (show (if 0 ≤ tp ∧ tp ≤ btm ∧ btm < Rn then tab Rn Cn (scrollF Rn Cn cs tp btm (clampS Rn num) (d1,d2,d3,d4)) else cs) = tab Rn Cn (scrollF Rn Cn cs tp btm (clampS Rn num) (d1,d2,d3,d4)) from if_pos (by omega))
 obtain ⟨tn,rfl⟩ : ∃ tn : Nat,tp = tn:=⟨tp.toNat,by omega⟩
 obtain ⟨h,hh⟩ : ∃ h : Nat,btm - (tn : Int) + 1 = h:=⟨(btm - tn + 1).toNat,by omega⟩
 have hbt : btm = (tn : Int) + h - 1:=by omega
 have HBT:=Lib.hid hbt
 have hh1 : 1 ≤ h:=by omega
 have hth : tn + h ≤ Rn:=by omega
 have hh3 : h ≤ 30:=by omega
 obtain ⟨p,hp⟩ : ∃ p : Nat,tn * Cn = p:=⟨_,rfl⟩
 obtain ⟨m,hm⟩ : ∃ m : Nat,h * Cn = m:=⟨_,rfl⟩
 obtain ⟨p2,hp2⟩ : ∃ p2 : Nat,p + m = p2:=⟨_,rfl⟩
 have hpi : (tn : Int) * (Cn : Int) = (p : Int):=by rw [← hp];simp
 have hpj : (btm + 1) * (Cn : Int) = (p2 : Int):=by rw [hbt,show (tn : Int) + h - 1 + 1 = tn + h by omega,Int.add_mul,hpi,← hp2,← hm];simp
 have hp2n : p2 ≤ n:=by rw [HN.out,← hp2,← hp,← hm,← Nat.add_mul];exact Nat.mul_le_mul_right _ hth
 have hm1 : 1 ≤ m:=by rw [← hm];exact Nat.mul_pos (by omega) (by omega)
 have hm2 : m ≤ 3000:=by rw [← hm];exact Nat.le_trans (Nat.mul_le_mul hh3 hC2) (by omega)
 have hpd : p2 - p = m:=by omega
 have hpl : p < p2:=by omega
 have hpc : p2 ≤ cp:=by omega
 have hb1 : (0 : Int) ≤ (p : Int):=by omega
 have hb2 : (p : Int) ≤ (p2 : Int):=by omega
 have hb3 : (p2 : Int) ≤ (cp : Int):=by omega
 have hcq : ¬ cp = p:=by omega
 obtain ⟨nn,hnn⟩ : ∃ nn,clampS h num = nn:=⟨_,rfl⟩
 have hnb:=clampS_bd h num
 rw [hnn] at hnb
 obtain ⟨hnb1,hnb2⟩:=hnb
 obtain ⟨z,hz⟩ : ∃ z,nn * (Cn : Int) = z:=⟨_,rfl⟩
 have hz1 : -(m : Int) ≤ z:=by
  have:=Int.mul_le_mul_of_nonneg_right hnb1 (show (0 : Int) ≤ (Cn : Int) by omega)
  rw [hz,Int.neg_mul,show (h : Int) * (Cn : Int) = (m : Int) by rw [← hm];simp] at this
  exact this
 have hz2 : z ≤ (m : Int):=by
  have:=Int.mul_le_mul_of_nonneg_right hnb2 (show (0 : Int) ≤ (Cn : Int) by omega)
  rw [hz,show (h : Int) * (Cn : Int) = (m : Int) by rw [← hm];simp] at this
  exact this
 have HLAW:=Lib.hid (show slideC cs p m z (d1,d2,d3,d4) = tab Rn Cn (scrollF Rn Cn cs tn btm (clampS Rn num) (d1,d2,d3,d4)) from by
  rw [hbt,scroll_clamp num (by omega) hth (by omega),hnn,← slide_scroll nn (by omega) (HL.out.trans HN.out) hth,hp,hm,hz])
 have HP:=Lib.hid hp
 have HM:=Lib.hid hm
 have HP2:=Lib.hid hp2
 clear hp hm hp2 hbt
 have hways : (num < -(h : Int) ∧ nn = -(h : Int)) ∨ ((-(h : Int) ≤ num ∧ num ≤ h) ∧ nn = num) ∨ ((h : Int) < num ∧ nn = h):=by
  unfold clampS at hnn
  split at hnn
  ·left;omega
  ·split at hnn
   ·right;right;omega
   ·right;left;omega
 clear hnn
 have hnu1 : -1000000 ≤ nn:=by omega
 obtain ⟨e1,e2,e3,e4,e5⟩:=hne
 have HY:=Lib.hid (show ∀ w',Bw w w' → (w'.cell? ⟨bt,0,none⟩ = some (.int .i64 (tn : Int)) ∧ w'.cell? ⟨bb,0,none⟩ = some (.int .i64 btm) ∧ w'.cell? ⟨bg,1,none⟩ = some (.int .i64 (Cn : Int)) ∧ w'.cell? ⟨bc,0,none⟩ = some (.int .i64 d1) ∧ w'.cell? ⟨bc,1,none⟩ = some (.int .i64 d2) ∧ w'.cell? ⟨bc,2,none⟩ = some (.int .i64 d3) ∧ w'.cell? ⟨bc,3,none⟩ = some (.int .i64 d4)) from fun w' hb => ⟨cell_up y0 hb,cell_up y0' hb,cell_up y2 hb,cell_up y5 hb,cell_up y6 hb,cell_up y7 hb,cell_up y8 hb⟩)
 have HYg:=Lib.hid (show ∀ w' w'',Bw w w' → w'.grownBy w'' (some gp) → (w''.cell? ⟨bt,0,none⟩ = some (.int .i64 (tn : Int)) ∧ w''.cell? ⟨bb,0,none⟩ = some (.int .i64 btm) ∧ w''.cell? ⟨bg,1,none⟩ = some (.int .i64 (Cn : Int)) ∧ w''.cell? ⟨bc,0,none⟩ = some (.int .i64 d1) ∧ w''.cell? ⟨bc,1,none⟩ = some (.int .i64 d2) ∧ w''.cell? ⟨bc,2,none⟩ = some (.int .i64 d3) ∧ w''.cell? ⟨bc,3,none⟩ = some (.int .i64 d4)) from fun w' w'' hb hg => ⟨cell_far (cell_up y0 hb) hg (by intro e;exact e1 (Option.some.inj e)),cell_far (cell_up y0' hb) hg (by intro e;exact e2 (Option.some.inj e)),cell_far (cell_up y2 hb) hg (by intro e;exact e3 (Option.some.inj e)),cell_far (cell_up y5 hb) hg (by intro e;exact e5 (Option.some.inj e)),cell_far (cell_up y6 hb) hg (by intro e;exact e5 (Option.some.inj e)),cell_far (cell_up y7 hb) hg (by intro e;exact e5 (Option.some.inj e)),cell_far (cell_up y8 hb) hg (by intro e;exact e5 (Option.some.inj e))⟩)
 have hz0 : nn * (Cn : Int) = z:=hz
 have hw1 : IntKind.i64.wrap (btm + 1) = btm + 1:=IntWalk.i64_in _ (by omega)
 have hw2 : IntKind.i64.wrap (p : Int) = (p : Int):=IntWalk.i64_in _ (by omega)
 have hw3 : IntKind.i64.wrap (p2 : Int) = (p2 : Int):=IntWalk.i64_in _ (by omega)
 have hw4 : IntKind.i64.wrap z = z:=IntWalk.i64_in _ (by omega)
 rcases hways with ⟨k1,k2⟩|⟨⟨k1,k1'⟩,k2⟩|⟨k1,k2⟩
 ·have hz'' : -((h : Int)) * (Cn : Int) = z:=by rw [← k2];exact hz0
  have HNN:=Lib.hid k2
  clear hz0 hz k2
  go_enter Tryz.func70,Tryz.ntmps70
  go_upto_region 3 with (fail)
  refine wp_region_held_drew (S:=(fun w' => w'.cell? ⟨bt,0,none⟩ = some (.int .i64 (tn : Int)) ∧ w'.cell? ⟨bb,0,none⟩ = some (.int .i64 btm) ∧ w'.cell? ⟨bg,1,none⟩ = some (.int .i64 (Cn : Int)) ∧ w'.cell? ⟨bc,0,none⟩ = some (.int .i64 d1) ∧ w'.cell? ⟨bc,1,none⟩ = some (.int .i64 d2) ∧ w'.cell? ⟨bc,2,none⟩ = some (.int .i64 d3) ∧ w'.cell? ⟨bc,3,none⟩ = some (.int .i64 d4))) (by kernel_rfl) ?_ (fun hHeld => ?_)
  ·(try dsimp only);(first|(exact HYg.out _ _ BWX HG2.out)|(refine HY.out _ ?_;exact BWX))
  refine tkQ 0 ?_
  refine tkQ 1 ?_
  refine tkQ 2 ?_
  (try simp only [Act.put,zP1,zP2,zP3,zP4,zP5,zP6])
  refine tkQ 3 ?_
  refine tkQ 4 ?_
  refine tkQ 5 ?_
  (try simp only [Act.put,zP1,zP2,zP3,zP4,zP5,zP6])
  refine tkQ 6 ?_
  refine tkQ 7 ?_
  refine tkQ 8 ?_
  (try simp only [Act.put,zP1,zP2,zP3,zP4,zP5,zP6])
  refine tkQ 9 ?_
  refine tkQ 10 ?_
  refine tkQ 11 ?_
  (try simp only [Act.put,zP1,zP2,zP3,zP4,zP5,zP6])
  refine tkQ 12 ?_
  refine tkQ 13 ?_
  refine tkQ 14 ?_
  (try simp only [Act.put,zP1,zP2,zP3,zP4,zP5,zP6])
  refine tkQ 15 ?_
  (try simp only [Act.put,zP1,zP2,zP3,zP4,zP5,zP6])
  refine wpAnyH_ready (rs:=[16]) (by kernel_rfl) (by simp) ?_
  refine AllReadyH.cons rfl (fun K hK => ?_) ?_
  ·go_simp
   (try rw [hz'']);refine (gslide_any cs sp gp p m (cp - p) z d1 d2 d3 d4 _ (HW.out.up BWX) (by have h1:=HL.out;have h2:=HP2.out;omega) (by omega) (by omega) (by omega) (by omega) hz1 hz2).mono ?_;rintro ee w2 ⟨⟨rv,rfl⟩,hW2,hg2⟩;have HW2:=Lib.hid hW2;have HG2:=Lib.hid hg2;clear hW2 hg2;go_wp2_with fail
   refine hK.out _ _ ?_ (fun hHeld => ?_)
   ·(try dsimp only);(first|(exact HYg.out _ _ BWX HG2.out)|(refine HY.out _ ?_;exact BWX))
   clear hK K
   (try simp only [Act.put,zP1,zP2,zP3,zP4,zP5,zP6])
   refine wpAnyH_done (by kernel_rfl) ?_ _
   go_wp2_with fail
   refine bodyPost_end (by simp [results,Tryz.results70,go_sem];rfl) rfl ?_
   have hW:=HW2.out
   rw [HLAW.out] at hW
   exact ⟨⟨_,rfl⟩,by first|exact hW|(rw [HE.out];exact hW),(grown_bw (show Bw w _ from BWX) (some gp)).trans HG2.out⟩
  exact AllReadyH.nil
 ·have hz'' : num * (Cn : Int) = z:=by rw [← k2];exact hz0
  have HNN:=Lib.hid k2
  clear hz0 hz k2
  go_enter Tryz.func70,Tryz.ntmps70
  go_upto_region 3 with (fail)
  refine wp_region_held_drew (S:=(fun w' => w'.cell? ⟨bt,0,none⟩ = some (.int .i64 (tn : Int)) ∧ w'.cell? ⟨bb,0,none⟩ = some (.int .i64 btm) ∧ w'.cell? ⟨bg,1,none⟩ = some (.int .i64 (Cn : Int)) ∧ w'.cell? ⟨bc,0,none⟩ = some (.int .i64 d1) ∧ w'.cell? ⟨bc,1,none⟩ = some (.int .i64 d2) ∧ w'.cell? ⟨bc,2,none⟩ = some (.int .i64 d3) ∧ w'.cell? ⟨bc,3,none⟩ = some (.int .i64 d4))) (by kernel_rfl) ?_ (fun hHeld => ?_)
  ·(try dsimp only);(first|(exact HYg.out _ _ BWX HG2.out)|(refine HY.out _ ?_;exact BWX))
  refine tkQ 0 ?_
  refine tkQ 1 ?_
  (try simp only [Act.put,zP1,zP2,zP3,zP4,zP5,zP6])
  refine tkQ 2 ?_
  refine tkQ 3 ?_
  refine tkQ 4 ?_
  (try simp only [Act.put,zP1,zP2,zP3,zP4,zP5,zP6])
  refine tkQ 5 ?_
  refine tkQ 6 ?_
  refine tkQ 7 ?_
  (try simp only [Act.put,zP1,zP2,zP3,zP4,zP5,zP6])
  refine tkQ 8 ?_
  refine tkQ 9 ?_
  refine tkQ 10 ?_
  (try simp only [Act.put,zP1,zP2,zP3,zP4,zP5,zP6])
  refine tkQ 11 ?_
  refine tkQ 12 ?_
  refine tkQ 13 ?_
  (try simp only [Act.put,zP1,zP2,zP3,zP4,zP5,zP6])
  refine tkQ 14 ?_
  refine tkQ 15 ?_
  (try simp only [Act.put,zP1,zP2,zP3,zP4,zP5,zP6])
  refine wpAnyH_ready (rs:=[16]) (by kernel_rfl) (by simp) ?_
  refine AllReadyH.cons rfl (fun K hK => ?_) ?_
  ·go_simp
   (try rw [hz'']);refine (gslide_any cs sp gp p m (cp - p) z d1 d2 d3 d4 _ (HW.out.up BWX) (by have h1:=HL.out;have h2:=HP2.out;omega) (by omega) (by omega) (by omega) (by omega) hz1 hz2).mono ?_;rintro ee w2 ⟨⟨rv,rfl⟩,hW2,hg2⟩;have HW2:=Lib.hid hW2;have HG2:=Lib.hid hg2;clear hW2 hg2;go_wp2_with fail
   refine hK.out _ _ ?_ (fun hHeld => ?_)
   ·(try dsimp only);(first|(exact HYg.out _ _ BWX HG2.out)|(refine HY.out _ ?_;exact BWX))
   clear hK K
   (try simp only [Act.put,zP1,zP2,zP3,zP4,zP5,zP6])
   refine wpAnyH_done (by kernel_rfl) ?_ _
   go_wp2_with fail
   refine bodyPost_end (by simp [results,Tryz.results70,go_sem];rfl) rfl ?_
   have hW:=HW2.out
   rw [HLAW.out] at hW
   exact ⟨⟨_,rfl⟩,by first|exact hW|(rw [HE.out];exact hW),(grown_bw (show Bw w _ from BWX) (some gp)).trans HG2.out⟩
  exact AllReadyH.nil
 ·have hz'' : (h : Int) * (Cn : Int) = z:=by rw [← k2];exact hz0
  have HNN:=Lib.hid k2
  clear hz0 hz k2
  go_enter Tryz.func70,Tryz.ntmps70
  go_upto_region 3 with (fail)
  refine wp_region_held_drew (S:=(fun w' => w'.cell? ⟨bt,0,none⟩ = some (.int .i64 (tn : Int)) ∧ w'.cell? ⟨bb,0,none⟩ = some (.int .i64 btm) ∧ w'.cell? ⟨bg,1,none⟩ = some (.int .i64 (Cn : Int)) ∧ w'.cell? ⟨bc,0,none⟩ = some (.int .i64 d1) ∧ w'.cell? ⟨bc,1,none⟩ = some (.int .i64 d2) ∧ w'.cell? ⟨bc,2,none⟩ = some (.int .i64 d3) ∧ w'.cell? ⟨bc,3,none⟩ = some (.int .i64 d4))) (by kernel_rfl) ?_ (fun hHeld => ?_)
  ·(try dsimp only);(first|(exact HYg.out _ _ BWX HG2.out)|(refine HY.out _ ?_;exact BWX))
  refine tkQ 0 ?_
  (try simp only [Act.put,zP1,zP2,zP3,zP4,zP5,zP6])
  refine tkQ 1 ?_
  refine tkQ 2 ?_
  refine tkQ 3 ?_
  (try simp only [Act.put,zP1,zP2,zP3,zP4,zP5,zP6])
  refine tkQ 4 ?_
  refine tkQ 5 ?_
  refine tkQ 6 ?_
  (try simp only [Act.put,zP1,zP2,zP3,zP4,zP5,zP6])
  refine tkQ 7 ?_
  refine tkQ 8 ?_
  refine tkQ 9 ?_
  (try simp only [Act.put,zP1,zP2,zP3,zP4,zP5,zP6])
  refine tkQ 10 ?_
  refine tkQ 11 ?_
  refine tkQ 12 ?_
  (try simp only [Act.put,zP1,zP2,zP3,zP4,zP5,zP6])
  refine tkQ 13 ?_
  refine tkQ 14 ?_
  refine tkQ 15 ?_
  (try simp only [Act.put,zP1,zP2,zP3,zP4,zP5,zP6])
  refine wpAnyH_ready (rs:=[16]) (by kernel_rfl) (by simp) ?_
  refine AllReadyH.cons rfl (fun K hK => ?_) ?_
  ·go_simp
   (try rw [hz'']);refine (gslide_any cs sp gp p m (cp - p) z d1 d2 d3 d4 _ (HW.out.up BWX) (by have h1:=HL.out;have h2:=HP2.out;omega) (by omega) (by omega) (by omega) (by omega) hz1 hz2).mono ?_;rintro ee w2 ⟨⟨rv,rfl⟩,hW2,hg2⟩;have HW2:=Lib.hid hW2;have HG2:=Lib.hid hg2;clear hW2 hg2;go_wp2_with fail
   refine hK.out _ _ ?_ (fun hHeld => ?_)
   ·(try dsimp only);(first|(exact HYg.out _ _ BWX HG2.out)|(refine HY.out _ ?_;exact BWX))
   clear hK K
   (try simp only [Act.put,zP1,zP2,zP3,zP4,zP5,zP6])
   refine wpAnyH_done (by kernel_rfl) ?_ _
   go_wp2_with fail
   refine bodyPost_end (by simp [results,Tryz.results70,go_sem];rfl) rfl ?_
   have hW:=HW2.out
   rw [HLAW.out] at hW
   exact ⟨⟨_,rfl⟩,by first|exact hW|(rw [HE.out];exact hW),(grown_bw (show Bw w _ from BWX) (some gp)).trans HG2.out⟩
  exact AllReadyH.nil

set_option maxRecDepth 100000 in
set_option maxHeartbeats 8000000 in
theorem gchangescroll_ok (R C : Int) (A : Option Addr) (n c : Nat) (cs : List C4) (tp btm num d1 d2 d3 d4 : Int) (bt bb bg bn bc : Nat) (w : World) (hr : Rg w A n cs) (hn : n ≤ c) (hn3 : n ≤ 4398046511103) (hc : c ≤ 9223372036854775807) (y0 : w.cell? ⟨bt,0,none⟩ = some (.int .i64 tp)) (y1 : w.cell? ⟨bb,0,none⟩ = some (.int .i64 btm)) (y2 : w.cell? ⟨bg,0,none⟩ = some (.int .i64 R)) (y3 : w.cell? ⟨bg,1,none⟩ = some (.int .i64 C)) (y4 : w.cell? ⟨bn,0,none⟩ = some (.int .i64 num)) (y5 : w.cell? ⟨bc,0,none⟩ = some (.int .i64 d1)) (y6 : w.cell? ⟨bc,1,none⟩ = some (.int .i64 d2)) (y7 : w.cell? ⟨bc,2,none⟩ = some (.int .i64 d3)) (y8 : w.cell? ⟨bc,3,none⟩ = some (.int .i64 d4)) :
  Calls Tryz.prog 69 #[.agg #[.int .i64 R,.int .i64 C,.slice A n c],.agg #[.int .i64 d1,.int .i64 d2,.int .i64 d3,.int .i64 d4],.func (.func 70) #[] #[.pointer (some ⟨bt,0,none⟩),.pointer (some ⟨bb,0,none⟩),.pointer (some ⟨bg,0,none⟩),.pointer (some ⟨bn,0,none⟩),.pointer (some ⟨bc,0,none⟩)]] w (GrN w R C (scrollG R C cs tp btm num (d1,d2,d3,d4))):=by
 have HR:=Lib.hid hr
 have HY:=Lib.hid (And.intro y0 (And.intro y1 (And.intro y2 (And.intro y3 (And.intro y4 (And.intro y5 (And.intro y6 (And.intro y7 y8))))))))
 clear hr y0 y1 y2 y3 y4 y5 y6 y7 y8
 cases hv : gridB R C cs
 ·have HV:=Lib.hid hv
  have HE:=Lib.hid (show scrollG R C cs tp btm num (d1,d2,d3,d4) = cs from if_neg (by rw [hv];simp))
  clear hv
  go_enter Tryz.func69,Tryz.ntmps69
  go_upto_region 1 with (fail)
  generalize hw1 : ((w.alloc (.cells #[.int .i64 R,.int .i64 C,.slice A n c] 26)).alloc _).alloc _ = w1
  obtain ⟨hb0,hb1,hb2,hbw,hz⟩:=sb3 hw1
  have HB0:=Lib.hid hb0
  have HB1:=Lib.hid (show Sb w1 (w.heap.size + 1) #[.int .i64 d1,.int .i64 d2,.int .i64 d3,.int .i64 d4] 53 from hb1)
  have HB2:=Lib.hid (show ∃ old,Sb w1 (w.heap.size + 2) old 26 ∧ old.size = 3 from ⟨_,hb2,rfl⟩)
  have hz1 : w.heap.size + 2 < w1.heap.size:=by omega
  clear hw1 hb0 hb1 hb2 hz
  have x0:=HB0.out.cell 0 (v:=.int .i64 R) rfl
  have x1:=HB0.out.cell 1 (v:=.int .i64 C) rfl
  have x2:=HB0.out.cell 2 (v:=.slice A n c) rfl
  go_upto_region 3 with (first
   | (go_at_call 31;refine (ggvalid_any R C A n c cs _ (by exact HR.out.up BWX) hn hc).mono ?_;rintro ee wv ⟨rfl,hbv⟩;rw [HV.out];clear x0 x1 x2;have x2:=(HB0.out.up hbv).cell 2 (v:=.slice A n c) rfl;have f2:=(HB0.out.up hbv).free 2;have c0:=(HB1.out.up hbv).cell 0 (v:=.int .i64 d1) rfl;have c1:=(HB1.out.up hbv).cell 1 (v:=.int .i64 d2) rfl;have c2:=(HB1.out.up hbv).cell 2 (v:=.int .i64 d3) rfl;have c3:=(HB1.out.up hbv).cell 3 (v:=.int .i64 d4) rfl;have hb1k:=hbv;have hzv:=hbv.size)
   | (go_at_call 67;refine (gcell_any d1 d2 d3 d4 _).mono ?_;rintro ee wu ⟨rfl,hbu⟩;rw [HCV.out];clear x2 f2 c0 c1 c2 c3;have hb1k:=Bw.trans hbv hbu;have hzu:=hbu.size;have x2:=(HB0.out.up hb1k).cell 2 (v:=.slice A n c) rfl;have f2:=(HB0.out.up hb1k).free 2)
   | (go_at_call 30;refine (gclone_any A n c cs _ (by exact HR.out.up BWX) hn hn3 hc).mono ?_;rintro ee wk ⟨vk,rfl,hown,hbk⟩;have hzk:=hbk.size;have hb1q:=Bw.trans hb1k hbk;clear x2 f2;have x2:=(HB0.out.up hb1q).cell 2 (v:=.slice A n c) rfl;have f2:=(HB0.out.up hb1q).free 2;obtain ⟨Ak,ck,rfl,hkc,hkm⟩:=own_form hown;have HOWN:=Lib.hid (own_mono hown (show w.heap.size + 3 ≤ _ by omega));clear hown)
   | fail)
  have hbq:=hb1q
  have HB0k:=Lib.hid (HB0.out.up hbq)
  have HB2k:=Lib.hid (Exists.elim HB2.out (fun old h => (⟨old,h.1.up hbq,h.2⟩ : ∃ old,Sb wk (w.heap.size + 2) old 26 ∧ old.size = 3)))
  have hbwk : Bw w wk:=Bw.trans hbw hbq
  have hzk3 : w.heap.size + 2 < wk.heap.size:=by have:=hbq.size;omega
  clear x2 f2
  generalize hw3 : World.setCell wk ⟨w.heap.size,2,none⟩ (.slice Ak n ck) = w3
  have HS3:=Lib.hid (show Sb w3 w.heap.size (grV R C Ak n ck) 26 from by rw [← hw3];exact HB0k.out.set 2 _ rfl)
  have hg3 : wk.grownBy w3 (some w.heap.size):=by rw [← hw3];exact grown_set (grown_refl wk _) _ _
  have HO3:=Lib.hid (show w3.ownsRow (w.heap.size + 3) 53 4 (.slice Ak n ck) n (flat cs) from by rw [← hw3];exact own_set_below HOWN.out (by omega) _)
  have HB23:=Lib.hid (Exists.elim HB2k.out (fun old h => (⟨old,h.1.far hg3 (by intro e;have:=Option.some.inj e;omega),h.2⟩ : ∃ old,Sb w3 (w.heap.size + 2) old 26 ∧ old.size = 3)))
  have hbw3 : Bw w w3:=Bw.grown hbwk hg3 (fun k hk => by cases hk;omega)
  have hz3 : w.heap.size + 2 < w3.heap.size:=by have:=hg3.size;omega
  have HG3k:=Lib.hid hg3
  clear hw3 hg3 HOWN HB0k HB2k hb1q hbq
  have z0:=HS3.out.cell 0 (v:=.int .i64 R) rfl
  have z1:=HS3.out.cell 1 (v:=.int .i64 C) rfl
  have z2:=HS3.out.cell 2 (v:=.slice Ak n ck) rfl
  go_wp2_with (first
   | ((with_reducible refine wpList_store_gr R C Ak n ck (w.heap.size + 2) (.tmp 6) (.tmp 23) rfl rfl ?_ ?_ ?_ ?_);(focus rfl);(focus rfl);(focus (exact HB23.out));intro w4 hS4 hg4;have HS4:=Lib.hid hS4;have HG4:=Lib.hid hg4;clear hS4 hg4)
   | fail)
  refine bodyPost_ret (results_gr rfl _ _ (w.heap.size + 2) R C Ak n ck (by rfl) HS4.out) rfl ?_
  have hO4:=HO3.out.kept HG4.out (.inr (fun e => by have:=(HO3.out.lt _ e).1;omega))
  exact ⟨Ak,n,ck,rfl,by rw [HE.out];exact Rg.of_own hO4,hkc,hkm,(fun ad e => by have:=own_new hO4 ad e;omega),Bw.grown hbw3 HG4.out (fun k hk => by cases hk;omega)⟩
 ·cases hcv : cellB (d1,d2,d3,d4)
  ·have HV:=Lib.hid hv
   have HCV:=Lib.hid hcv
   have HE:=Lib.hid (show scrollG R C cs tp btm num (d1,d2,d3,d4) = cs from if_neg (by rw [hcv];simp))
   clear hv hcv
   go_enter Tryz.func69,Tryz.ntmps69
   go_upto_region 1 with (fail)
   generalize hw1 : ((w.alloc (.cells #[.int .i64 R,.int .i64 C,.slice A n c] 26)).alloc _).alloc _ = w1
   obtain ⟨hb0,hb1,hb2,hbw,hz⟩:=sb3 hw1
   have HB0:=Lib.hid hb0
   have HB1:=Lib.hid (show Sb w1 (w.heap.size + 1) #[.int .i64 d1,.int .i64 d2,.int .i64 d3,.int .i64 d4] 53 from hb1)
   have HB2:=Lib.hid (show ∃ old,Sb w1 (w.heap.size + 2) old 26 ∧ old.size = 3 from ⟨_,hb2,rfl⟩)
   have hz1 : w.heap.size + 2 < w1.heap.size:=by omega
   clear hw1 hb0 hb1 hb2 hz
   have x0:=HB0.out.cell 0 (v:=.int .i64 R) rfl
   have x1:=HB0.out.cell 1 (v:=.int .i64 C) rfl
   have x2:=HB0.out.cell 2 (v:=.slice A n c) rfl
   go_upto_region 3 with (first
    | (go_at_call 31;refine (ggvalid_any R C A n c cs _ (by exact HR.out.up BWX) hn hc).mono ?_;rintro ee wv ⟨rfl,hbv⟩;rw [HV.out];clear x0 x1 x2;have x2:=(HB0.out.up hbv).cell 2 (v:=.slice A n c) rfl;have f2:=(HB0.out.up hbv).free 2;have c0:=(HB1.out.up hbv).cell 0 (v:=.int .i64 d1) rfl;have c1:=(HB1.out.up hbv).cell 1 (v:=.int .i64 d2) rfl;have c2:=(HB1.out.up hbv).cell 2 (v:=.int .i64 d3) rfl;have c3:=(HB1.out.up hbv).cell 3 (v:=.int .i64 d4) rfl;have hb1k:=hbv;have hzv:=hbv.size)
    | (go_at_call 67;refine (gcell_any d1 d2 d3 d4 _).mono ?_;rintro ee wu ⟨rfl,hbu⟩;rw [HCV.out];clear x2 f2 c0 c1 c2 c3;have hb1k:=Bw.trans hbv hbu;have hzu:=hbu.size;have x2:=(HB0.out.up hb1k).cell 2 (v:=.slice A n c) rfl;have f2:=(HB0.out.up hb1k).free 2)
    | (go_at_call 30;refine (gclone_any A n c cs _ (by exact HR.out.up BWX) hn hn3 hc).mono ?_;rintro ee wk ⟨vk,rfl,hown,hbk⟩;have hzk:=hbk.size;have hb1q:=Bw.trans hb1k hbk;clear x2 f2;have x2:=(HB0.out.up hb1q).cell 2 (v:=.slice A n c) rfl;have f2:=(HB0.out.up hb1q).free 2;obtain ⟨Ak,ck,rfl,hkc,hkm⟩:=own_form hown;have HOWN:=Lib.hid (own_mono hown (show w.heap.size + 3 ≤ _ by omega));clear hown)
    | fail)
   have hbq:=hb1q
   have HB0k:=Lib.hid (HB0.out.up hbq)
   have HB2k:=Lib.hid (Exists.elim HB2.out (fun old h => (⟨old,h.1.up hbq,h.2⟩ : ∃ old,Sb wk (w.heap.size + 2) old 26 ∧ old.size = 3)))
   have hbwk : Bw w wk:=Bw.trans hbw hbq
   have hzk3 : w.heap.size + 2 < wk.heap.size:=by have:=hbq.size;omega
   clear x2 f2
   generalize hw3 : World.setCell wk ⟨w.heap.size,2,none⟩ (.slice Ak n ck) = w3
   have HS3:=Lib.hid (show Sb w3 w.heap.size (grV R C Ak n ck) 26 from by rw [← hw3];exact HB0k.out.set 2 _ rfl)
   have hg3 : wk.grownBy w3 (some w.heap.size):=by rw [← hw3];exact grown_set (grown_refl wk _) _ _
   have HO3:=Lib.hid (show w3.ownsRow (w.heap.size + 3) 53 4 (.slice Ak n ck) n (flat cs) from by rw [← hw3];exact own_set_below HOWN.out (by omega) _)
   have HB23:=Lib.hid (Exists.elim HB2k.out (fun old h => (⟨old,h.1.far hg3 (by intro e;have:=Option.some.inj e;omega),h.2⟩ : ∃ old,Sb w3 (w.heap.size + 2) old 26 ∧ old.size = 3)))
   have hbw3 : Bw w w3:=Bw.grown hbwk hg3 (fun k hk => by cases hk;omega)
   have hz3 : w.heap.size + 2 < w3.heap.size:=by have:=hg3.size;omega
   have HG3k:=Lib.hid hg3
   clear hw3 hg3 HOWN HB0k HB2k hb1q hbq
   have z0:=HS3.out.cell 0 (v:=.int .i64 R) rfl
   have z1:=HS3.out.cell 1 (v:=.int .i64 C) rfl
   have z2:=HS3.out.cell 2 (v:=.slice Ak n ck) rfl
   go_wp2_with (first
    | ((with_reducible refine wpList_store_gr R C Ak n ck (w.heap.size + 2) (.tmp 6) (.tmp 23) rfl rfl ?_ ?_ ?_ ?_);(focus rfl);(focus rfl);(focus (exact HB23.out));intro w4 hS4 hg4;have HS4:=Lib.hid hS4;have HG4:=Lib.hid hg4;clear hS4 hg4)
    | fail)
   refine bodyPost_ret (results_gr rfl _ _ (w.heap.size + 2) R C Ak n ck (by rfl) HS4.out) rfl ?_
   have hO4:=HO3.out.kept HG4.out (.inr (fun e => by have:=(HO3.out.lt _ e).1;omega))
   exact ⟨Ak,n,ck,rfl,by rw [HE.out];exact Rg.of_own hO4,hkc,hkm,(fun ad e => by have:=own_new hO4 ad e;omega),Bw.grown hbw3 HG4.out (fun k hk => by cases hk;omega)⟩
  ·obtain ⟨Rn,Cn,rfl,rfl,h1,h2,h3,h4,hl,-⟩:=gridB_out hv
   have HE:=Lib.hid (show scrollG (Rn : Int) (Cn : Int) cs tp btm num (d1,d2,d3,d4) = (if 0 ≤ tp ∧ tp ≤ btm ∧ btm < (Rn : Int) then tab Rn Cn (scrollF Rn Cn cs tp btm (clampS Rn num) (d1,d2,d3,d4)) else cs) from by
    unfold scrollG
    rw [Int.toNat_natCast,Int.toNat_natCast]
    by_cases hg : 0 ≤ tp ∧ tp ≤ btm ∧ btm < (Rn : Int)
    ·rw [if_pos hg,if_pos ⟨hv,hcv,hg⟩]
    ·rw [if_neg hg,if_neg (fun hh => hg hh.2.2)])
   have HV:=Lib.hid hv
   have HCV:=Lib.hid hcv
   have HR1:=Lib.hid h1
   have HR2:=Lib.hid h2
   have HC1:=Lib.hid h3
   have HC2:=Lib.hid h4
   have HLN:=Lib.hid hl
   clear hv hcv hl
   go_enter Tryz.func69,Tryz.ntmps69
   go_upto_region 1 with (fail)
   generalize hw1 : ((w.alloc (.cells #[.int .i64 (Rn : Int),.int .i64 (Cn : Int),.slice A n c] 26)).alloc _).alloc _ = w1
   obtain ⟨hb0,hb1,hb2,hbw,hz⟩:=sb3 hw1
   have HB0:=Lib.hid hb0
   have HB1:=Lib.hid (show Sb w1 (w.heap.size + 1) #[.int .i64 d1,.int .i64 d2,.int .i64 d3,.int .i64 d4] 53 from hb1)
   have HB2:=Lib.hid (show ∃ old,Sb w1 (w.heap.size + 2) old 26 ∧ old.size = 3 from ⟨_,hb2,rfl⟩)
   have hz1 : w.heap.size + 2 < w1.heap.size:=by omega
   clear hw1 hb0 hb1 hb2 hz
   have x0:=HB0.out.cell 0 (v:=.int .i64 (Rn : Int)) rfl
   have x1:=HB0.out.cell 1 (v:=.int .i64 (Cn : Int)) rfl
   have x2:=HB0.out.cell 2 (v:=.slice A n c) rfl
   go_upto_region 3 with (first
    | (go_at_call 31;refine (ggvalid_any (Rn : Int) (Cn : Int) A n c cs _ (by exact HR.out.up BWX) hn hc).mono ?_;rintro ee wv ⟨rfl,hbv⟩;rw [HV.out];clear x0 x1 x2;have x2:=(HB0.out.up hbv).cell 2 (v:=.slice A n c) rfl;have f2:=(HB0.out.up hbv).free 2;have c0:=(HB1.out.up hbv).cell 0 (v:=.int .i64 d1) rfl;have c1:=(HB1.out.up hbv).cell 1 (v:=.int .i64 d2) rfl;have c2:=(HB1.out.up hbv).cell 2 (v:=.int .i64 d3) rfl;have c3:=(HB1.out.up hbv).cell 3 (v:=.int .i64 d4) rfl;have hb1k:=hbv;have hzv:=hbv.size)
    | (go_at_call 67;refine (gcell_any d1 d2 d3 d4 _).mono ?_;rintro ee wu ⟨rfl,hbu⟩;rw [HCV.out];clear x2 f2 c0 c1 c2 c3;have hb1k:=Bw.trans hbv hbu;have hzu:=hbu.size;have x2:=(HB0.out.up hb1k).cell 2 (v:=.slice A n c) rfl;have f2:=(HB0.out.up hb1k).free 2)
    | (go_at_call 30;refine (gclone_any A n c cs _ (by exact HR.out.up BWX) hn hn3 hc).mono ?_;rintro ee wk ⟨vk,rfl,hown,hbk⟩;have hzk:=hbk.size;have hb1q:=Bw.trans hb1k hbk;clear x2 f2;have x2:=(HB0.out.up hb1q).cell 2 (v:=.slice A n c) rfl;have f2:=(HB0.out.up hb1q).free 2;obtain ⟨Ak,ck,rfl,hkc,hkm⟩:=own_form hown;have HOWN:=Lib.hid (own_mono hown (show w.heap.size + 3 ≤ _ by omega));clear hown)
    | fail)
   have hbq:=hb1q
   have HB0k:=Lib.hid (HB0.out.up hbq)
   have HB2k:=Lib.hid (Exists.elim HB2.out (fun old h => (⟨old,h.1.up hbq,h.2⟩ : ∃ old,Sb wk (w.heap.size + 2) old 26 ∧ old.size = 3)))
   have hbwk : Bw w wk:=Bw.trans hbw hbq
   have hzk3 : w.heap.size + 2 < wk.heap.size:=by have:=hbq.size;omega
   clear x2 f2
   generalize hw3 : World.setCell wk ⟨w.heap.size,2,none⟩ (.slice Ak n ck) = w3
   have HS3:=Lib.hid (show Sb w3 w.heap.size (grV (Rn : Int) (Cn : Int) Ak n ck) 26 from by rw [← hw3];exact HB0k.out.set 2 _ rfl)
   have hg3 : wk.grownBy w3 (some w.heap.size):=by rw [← hw3];exact grown_set (grown_refl wk _) _ _
   have HO3:=Lib.hid (show w3.ownsRow (w.heap.size + 3) 53 4 (.slice Ak n ck) n (flat cs) from by rw [← hw3];exact own_set_below HOWN.out (by omega) _)
   have HB23:=Lib.hid (Exists.elim HB2k.out (fun old h => (⟨old,h.1.far hg3 (by intro e;have:=Option.some.inj e;omega),h.2⟩ : ∃ old,Sb w3 (w.heap.size + 2) old 26 ∧ old.size = 3)))
   have hbw3 : Bw w w3:=Bw.grown hbwk hg3 (fun k hk => by cases hk;omega)
   have hz3 : w.heap.size + 2 < w3.heap.size:=by have:=hg3.size;omega
   have HG3k:=Lib.hid hg3
   clear hw3 hg3 HOWN HB0k HB2k hb1q hbq
   have hlen : n = Rn * Cn:=HR.out.1.symm.trans HLN.out
   have hpos : 0 < n:=by rw [hlen];exact Nat.mul_pos (by omega) (by omega)
   obtain ⟨gp,sp,rfl,hgp,hWc⟩:=Wc.of_own HO3.out hpos
   have HW:=Lib.hid hWc
   obtain ⟨a0,a1,a2,a3,a4,a5,a6,a7,a8⟩:=HY.out
   have l0:=lt_of_cell a0
   have l1:=lt_of_cell a1
   have l3:=lt_of_cell a2
   have l4:=lt_of_cell a4
   have l5:=lt_of_cell a5
   dsimp only at l0 l1 l3 l4 l5
   clear a0 a1 a2 a3 a4 a5 a6 a7 a8 hWc
   have HLE:=Lib.hid hlen
   clear hlen
   have z2:=HS3.out.cell 2 (v:=.slice (some ⟨gp,0,none⟩) n ck) rfl
   go_upto_region 5 with (first
    | (go_at_call 70;rw [HLE.out];refine (gscroll1_go Rn Cn cs sp gp ck bt bb bg bn bc tp btm num d1 d2 d3 d4 w3 HR1.out HR2.out HC1.out HC2.out HLN.out HW.out (by rw [← HLE.out];exact hkc) hkm (cell_up HY.out.1 hbw3) (cell_up HY.out.2.1 hbw3) (cell_up HY.out.2.2.1 hbw3) (cell_up HY.out.2.2.2.1 hbw3) (cell_up HY.out.2.2.2.2.1 hbw3) (cell_up HY.out.2.2.2.2.2.1 hbw3) (cell_up HY.out.2.2.2.2.2.2.1 hbw3) (cell_up HY.out.2.2.2.2.2.2.2.1 hbw3) (cell_up HY.out.2.2.2.2.2.2.2.2 hbw3) ⟨by omega,by omega,by omega,by omega,by omega⟩).mono ?_;rintro ee w5 ⟨⟨rv,rfl⟩,hW5,hg5⟩;have HW5:=Lib.hid hW5;have HG5:=Lib.hid hg5;clear hW5 hg5)
    | fail)
   have hg5:=HG5.out
   have hgb : ∀ k,k < w.heap.size + 3 → some k ≠ some gp:=fun k hk e => by have:=Option.some.inj e;omega
   have HS5:=Lib.hid (HS3.out.far hg5 (hgb _ (by omega)))
   have HB25:=Lib.hid (Exists.elim HB23.out (fun old h => (⟨old,h.1.far hg5 (hgb _ (by omega)),h.2⟩ : ∃ old,Sb w5 (w.heap.size + 2) old 26 ∧ old.size = 3)))
   have hbw5 : Bw w w5:=Bw.grown hbw3 hg5 (fun k hk => by cases hk;omega)
   clear z2
   have z0:=HS5.out.cell 0 (v:=.int .i64 (Rn : Int)) rfl
   have z1:=HS5.out.cell 1 (v:=.int .i64 (Cn : Int)) rfl
   have z2:=HS5.out.cell 2 (v:=.slice (some ⟨gp,0,none⟩) n ck) rfl
   go_wp2_with (first
    | ((with_reducible refine wpList_store_gr (Rn : Int) (Cn : Int) (some ⟨gp,0,none⟩) n ck (w.heap.size + 2) (.tmp 6) (.tmp 23) rfl rfl ?_ ?_ ?_ ?_);(focus rfl);(focus rfl);(focus (exact HB25.out));intro w6 hS6 hg6;have HS6:=Lib.hid hS6;have HG6:=Lib.hid hg6;clear hS6 hg6)
    | fail)
   refine bodyPost_ret (results_gr rfl _ _ (w.heap.size + 2) (Rn : Int) (Cn : Int) (some ⟨gp,0,none⟩) n ck (by rfl) HS6.out) rfl ?_
   have hW6 : Wc w6 gp _ sp:=(HG6.out.block gp HW5.out.lt (by intro e;have:=Option.some.inj e;omega)).trans HW5.out
   have hrg:=hW6.rg
   rw [show (if 0 ≤ tp ∧ tp ≤ btm ∧ btm < (Rn : Int) then tab Rn Cn (scrollF Rn Cn cs tp btm (clampS Rn num) (d1,d2,d3,d4)) else cs).length = n from by split;exact (tab_len _ _ _).trans HLE.out.symm;exact HLN.out.trans HLE.out.symm] at hrg
   exact ⟨some ⟨gp,0,none⟩,n,ck,rfl,by rw [HE.out];exact hrg,hkc,hkm,(fun ad e => by cases e;dsimp only;omega),Bw.grown hbw5 HG6.out (fun k hk => by cases hk;omega)⟩

end Go.Proofs.YtkflooljdopldaaGreat
