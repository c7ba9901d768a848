/- Parts of the proof, one after the other. -/
import Derived.Test.YteebdjmjeahccaaGreatDoorC07
import Derived.Deep.DeepCutAuto
set_option linter.unusedSimpArgs false
set_option linter.unusedVariables false
set_option maxRecDepth 100000
set_option maxHeartbeats 16000000
namespace Go.Proofs.YteebdjmjeahccaaGreatDoor
open Go.RowKit
def clampS (n : Nat) (x : Int) : Int:=if x < -(n : Int) then -(n : Int) else if (n : Int) < x then n else x
theorem clampS_bd (n : Nat) (x : Int) : -(n : Int) ≤ clampS n x ∧ clampS n x ≤ n:=by unfold clampS;split <;> (try split) <;> omega
def scrollF (Rn Cn : Nat) (cs : List C4) (tp bt nn : Int) (d : C4) (r k : Nat) : C4:=if tp ≤ r ∧ (r : Int) ≤ bt then (if tp ≤ r + nn ∧ r + nn ≤ bt then atF Rn Cn cs (r + nn) k d else d) else atF Rn Cn cs r k d
theorem rscroll_go (Rn Cn : Nat) (A : Option Addr) (n c : Nat) (cs : List C4) (tp bt num d1 d2 d3 d4 : Int) (w : World) (hR1 : 1 ≤ Rn) (hR2 : Rn ≤ 30) (hC1 : 1 ≤ Cn) (hC2 : Cn ≤ 100) (hl : n = Rn * Cn) (hr : Rg w A n cs) (hn : n ≤ c) (hc : c ≤ 9223372036854775807)
  (hv : gridB Rn Cn cs = true) (hcv : cellB (d1,d2,d3,d4) = true) (ht0 : 0 ≤ tp) (ht1 : tp ≤ bt) (ht2 : bt < (Rn : Int)) :
  Calls Tryz.prog 73 #[.agg #[.int .i64 Rn,.int .i64 Cn,.slice A n c],.int .i64 tp,.int .i64 bt,.int .i64 num,.agg #[.int .i64 d1,.int .i64 d2,.int .i64 d3,.int .i64 d4]] w (GrN w Rn Cn (tab Rn Cn (scrollF Rn Cn cs tp bt (clampS Rn num) (d1,d2,d3,d4)))):=by
 have HR:=Lib.hid hr
 have HL:=Lib.hid hl
 have HV:=Lib.hid hv
 have HCV:=Lib.hid hcv
 have hm3 : n ≤ 3000:=by rw [hl];have:=Nat.mul_le_mul hR2 hC2;omega
 obtain ⟨j0,hj,hj0,hj1,hj2⟩:=info_parts infoC
 obtain ⟨FF,hFF⟩ : ∃ FF,FF = scrollF Rn Cn cs tp bt (clampS Rn num) (d1,d2,d3,d4):=⟨_,rfl⟩
 have HFF:=Lib.hid hFF
 rw [← hFF]
 clear hr hl hv hcv hFF
 go_enter Tryz.func73,Tryz.ntmps73
 go_upto_if 37 with (first
  | (go_at_call 42;refine (rgvalid_any _ _ _ _ _ cs _ (by exact HR.out.up BWX) hn hc).mono ?_;rintro ee wv ⟨rfl,hbv⟩;rw [HV.out];have HB0:=Lib.hid (((Bx.lit (w:=w) (cs:=#[.int .i64 Rn,.int .i64 Cn,.slice A n c]) (T:=25) rfl rfl).up (show Bw _ (((w.alloc _).alloc _).alloc _) from BWX)).up hbv);have HB1:=Lib.hid (((Bx.lit (w:=w.alloc (.cells #[.int .i64 Rn,.int .i64 Cn,.slice A n c] 25)) (g:=w.heap.size + 1) (cs:=#[.int .i64 d1,.int .i64 d2,.int .i64 d3,.int .i64 d4]) (T:=70) SZX rfl).up (show Bw _ (((w.alloc _).alloc _).alloc _) from BWX)).up hbv);have HB2:=Lib.hid ((Bx.lit (w:=(w.alloc (.cells #[.int .i64 Rn,.int .i64 Cn,.slice A n c] 25)).alloc (.cells #[.int .i64 d1,.int .i64 d2,.int .i64 d3,.int .i64 d4] 70)) (g:=w.heap.size + 1 + 1) (cs:=#[.int .i64 0,.int .i64 0,.slice none 0 0]) (T:=25) SZX rfl).up hbv);have hbw0 : Bw w wv:=Bw.trans (show Bw w _ from BWX) hbv;(have x0:=(HB0.out 0 (by simp)).1;have x1:=(HB0.out 1 (by simp)).1;have x2:=(HB0.out 2 (by simp)).1;simp only [List.getElem_cons_zero,List.getElem_cons_succ] at x0 x1 x2);(have y0:=(HB1.out 0 (by simp)).1;have y1:=(HB1.out 1 (by simp)).1;have y2:=(HB1.out 2 (by simp)).1;have y3:=(HB1.out 3 (by simp)).1;simp only [List.getElem_cons_zero,List.getElem_cons_succ] at y0 y1 y2 y3);clear hbv)
  | (go_at_call 66;refine (rcell_any d1 d2 d3 d4 _).mono ?_;rintro ee wu ⟨rfl,hbc⟩;rw [HCV.out];have HC0:=Lib.hid (HB0.out.up hbc);have HC1:=Lib.hid (HB1.out.up hbc);have HC2:=Lib.hid (HB2.out.up hbc);have hbw1 : Bw w wu:=Bw.trans hbw0 hbc;clear hbc x0 x1 x2 y0 y1 y2 y3;(have x0:=(HC0.out 0 (by simp)).1;have x1:=(HC0.out 1 (by simp)).1;have x2:=(HC0.out 2 (by simp)).1;simp only [List.getElem_cons_zero,List.getElem_cons_succ] at x0 x1 x2);(have y0:=(HC1.out 0 (by simp)).1;have y1:=(HC1.out 1 (by simp)).1;have y2:=(HC1.out 2 (by simp)).1;have y3:=(HC1.out 3 (by simp)).1;simp only [List.getElem_cons_zero,List.getElem_cons_succ] at y0 y1 y2 y3))
  | fail)
 go_cut [] (fun w' => wu = w')
 case first =>
  go_wp2_with fail
  go_meet
  case rel => exact rfl
 case rest =>
 obtain rfl:=hcut
 clear HB0 HB1 HB2 hbw0
 obtain ⟨wo,hwo⟩ : ∃ wo : World,wo = wu:=⟨_,rfl⟩
 subst hwo
 have HB0:=HC0
 have HB1:=HC1
 have HB2:=HC2
 have hz2:=HB2.out.lt (by simp)
 have hbwo:=hbw1
 clear HC0 HC1 HC2 hbw1
 obtain ⟨nn,hnn⟩ : ∃ nn,nn = clampS Rn num:=⟨_,rfl⟩
 have hnb:=clampS_bd Rn num
 rw [← hnn] at hnb HFF
 have HNN:=Lib.hid hnn
 obtain ⟨hnb1,hnb2⟩:=hnb
 clear hnn
 go_upto_region 3 with (fail)
 go_cut [3] (fun s w' => s = .int .i64 nn ∧ wo = w')
 case first =>
  go_wp2_with fail
  all_goals
   go_meet
   case rel => exact ⟨congrArg (Value.int .i64) (by rw [HNN.out];unfold clampS;(repeat' split) <;> omega),rfl⟩
 case rest =>
 obtain ⟨rfl,rfl⟩:=hcut
 go_wp2_with fail
 clear x0 x1 x2 y0 y1 y2 y3
 go_loopw [12] (fun i wr => ∃ (r m5 : Nat) (v : Value),i = .int .i64 r ∧ r ≤ Rn ∧ m5 = r * Cn ∧ Bx wr wo.heap.size [.int .i64 Rn,.int .i64 Cn,v] ∧ wr.ownsRow (wo.heap.size + 1) 70 4 v m5 (flat (tabK Cn (r * Cn) FF)) ∧ Bw wo wr) (fun i _ => Rn - (intOf i).toNat)
 case atStart => exact ⟨0,0,.slice none 0 0,rfl,by omega,by omega,Bx.lit rfl rfl,by rw [Nat.zero_mul];exact World.ownsRow_nil _ _ _ _,BWX⟩
 case round =>
  obtain ⟨wz,hwz⟩ : ∃ wz : World,wz = wr:=⟨_,rfl⟩
  subst hwz
  obtain ⟨r,m5,v,rfl,hr,hm5,hBo,hown,hbwz⟩:=hrel
  obtain ⟨A5,c5,rfl,hc5,hc5m⟩:=own_form hown
  have HO:=Lib.hid hown
  have HBo:=Lib.hid hBo
  have HM5:=Lib.hid hm5
  have HB0z:=Lib.hid (HB0.out.up hbwz)
  have hz0z:=HB0z.out.lt (by simp)
  have hzoz:=hBo.lt (by simp)
  (have s0:=(HB0z.out 0 (by simp)).1;have s1:=(HB0z.out 1 (by simp)).1;have s2:=(HB0z.out 2 (by simp)).1;simp only [List.getElem_cons_zero,List.getElem_cons_succ] at s0 s1 s2)
  (have u0:=(HBo.out 0 (by simp)).1;have u1:=(HBo.out 1 (by simp)).1;have u2:=(HBo.out 2 (by simp)).1;have uf0:=(HBo.out 0 (by simp)).2;have uf1:=(HBo.out 1 (by simp)).2;have uf2:=(HBo.out 2 (by simp)).2;simp only [List.getElem_cons_zero,List.getElem_cons_succ] at u0 u1 u2)
  clear hown hBo hm5
  by_cases hlt : r < Rn
  ·go_wp2_with fail
   clear s0 s1 s2 u0 u1 u2 uf0 uf1 uf2
   go_loopw [13] (fun i wr => ∃ (k m5 : Nat) (v : Value),i = .int .i64 k ∧ k ≤ Cn ∧ m5 = r * Cn + k ∧ Bx wr wo.heap.size [.int .i64 Rn,.int .i64 Cn,v] ∧ wr.ownsRow (wo.heap.size + 1) 70 4 v m5 (flat (tabK Cn (r * Cn + k) FF)) ∧ Bw wo wr) (fun i _ => Cn - (intOf i).toNat)
   case atStart => exact ⟨0,m5,.slice A5 m5 c5,rfl,by omega,HM5.out,HBo.out,HO.out,hbwz⟩
   case round =>
    clear HO HBo HM5 HB0z hc5 hc5m hbwz hz0z hzoz
    obtain ⟨wy,hwy⟩ : ∃ wy : World,wy = wr:=⟨_,rfl⟩
    subst hwy
    obtain ⟨k,m5,v,rfl,hk,hm5,hBo,hown,hbwy⟩:=hrel
    obtain ⟨A5,c5,rfl,hc5,hc5m⟩:=own_form hown
    have HO4:=Lib.hid hown
    have HBo4:=Lib.hid hBo
    have HB0y:=Lib.hid (HB0.out.up hbwy)
    have HB1y:=Lib.hid (HB1.out.up hbwy)
    have HM5:=Lib.hid hm5
    have hzoy:=hBo.lt (by simp)
    have hz0y:=HB1y.out.lt (by simp)
    clear hown hBo
    (have s0:=(HB0y.out 0 (by simp)).1;have s1:=(HB0y.out 1 (by simp)).1;have s2:=(HB0y.out 2 (by simp)).1;simp only [List.getElem_cons_zero,List.getElem_cons_succ] at s0 s1 s2)
    (have t0:=(HB1y.out 0 (by simp)).1;have t1:=(HB1y.out 1 (by simp)).1;have t2:=(HB1y.out 2 (by simp)).1;have t3:=(HB1y.out 3 (by simp)).1;simp only [List.getElem_cons_zero,List.getElem_cons_succ] at t0 t1 t2 t3)
    (have u0:=(HBo4.out 0 (by simp)).1;have u1:=(HBo4.out 1 (by simp)).1;have u2:=(HBo4.out 2 (by simp)).1;have uf0:=(HBo4.out 0 (by simp)).2;have uf1:=(HBo4.out 1 (by simp)).2;have uf2:=(HBo4.out 2 (by simp)).2;simp only [List.getElem_cons_zero,List.getElem_cons_succ] at u0 u1 u2)
    by_cases hlk : k < Cn
    ·have hm5b : m5 < 3000:=by have:=idx_lt hlt hlk;rw [← HL.out] at this;omega
     obtain ⟨⟨x1,x2,x3,x4⟩,hx⟩ : ∃ x,atF Rn Cn cs r k (d1,d2,d3,d4) = x:=⟨_,rfl⟩
     have HX:=Lib.hid hx
     have HTS:=Lib.hid (tab_snoc (r:=r) FF hlk)
     clear hx hm5
     have hw : ((r : Int) < tp) ∨ (tp ≤ (r : Int) ∧ bt < (r : Int)) ∨ (tp ≤ (r : Int) ∧ (r : Int) ≤ bt ∧ (r : Int) + nn < tp) ∨ (tp ≤ (r : Int) ∧ (r : Int) ≤ bt ∧ tp ≤ (r : Int) + nn ∧ bt < (r : Int) + nn) ∨ (tp ≤ (r : Int) ∧ (r : Int) ≤ bt ∧ tp ≤ (r : Int) + nn ∧ (r : Int) + nn ≤ bt):=by omega
     rcases hw with h|⟨h,h2⟩|⟨h,h2,h3⟩|⟨h,h2,h3,h4⟩|⟨h,h2,h3,h4⟩
     ·have HFk:=Lib.hid (show FF r k = (x1,x2,x3,x4) by rw [HFF.out];unfold scrollF;rw [if_neg (by omega)];exact HX.out)
      go_wp2_with (first|(go_at_call 98;refine (rat_any Rn Cn A n c cs r k d1 d2 d3 d4 _ hR2 hC2 HL.out (by exact HR.out.up BWX) hn hc).mono ?_;rintro ee wa ⟨rfl,hba⟩;rw [HX.out];dsimp only [c4V];have hbwa : Bw wo wa:=Bw.trans (show Bw wo _ from BWX) hba;have HB0a:=Lib.hid (HB0.out.up hbwa);have HB1a:=Lib.hid (HB1.out.up hbwa);have HBo5:=Lib.hid (HBo4.out.up hba);have HO5:=Lib.hid (HO4.out.bw hba);clear s0 s1 s2 t0 t1 t2 t3 u0 u1 u2 uf0 uf1 uf2;(have s0:=(HB0a.out 0 (by simp)).1;have s1:=(HB0a.out 1 (by simp)).1;have s2:=(HB0a.out 2 (by simp)).1;simp only [List.getElem_cons_zero,List.getElem_cons_succ] at s0 s1 s2);(have t0:=(HB1a.out 0 (by simp)).1;have t1:=(HB1a.out 1 (by simp)).1;have t2:=(HB1a.out 2 (by simp)).1;have t3:=(HB1a.out 3 (by simp)).1;simp only [List.getElem_cons_zero,List.getElem_cons_succ] at t0 t1 t2 t3);(have u0:=(HBo5.out 0 (by simp)).1;have u1:=(HBo5.out 1 (by simp)).1;have u2:=(HBo5.out 2 (by simp)).1;have uf0:=(HBo5.out 0 (by simp)).2;have uf1:=(HBo5.out 1 (by simp)).2;have uf2:=(HBo5.out 2 (by simp)).2;simp only [List.getElem_cons_zero,List.getElem_cons_succ] at u0 u1 u2);have hza:=HBo5.out.lt (by simp);have hzb:=HB1a.out.lt (by simp);have hzc:=HB0a.out.lt (by simp);have hzz:=hza;clear hba)|(at_builtin;refine wpList_append_srcG (by rfl) (.tmp 95) (.tmp 97) 23 rfl (wo.heap.size + 1) 70 j0 (.agg #[.int .i64 0,.int .i64 0,.int .i64 0,.int .i64 0]) 4 32 Tryz.underlying23 hj hj0 hj1 hj2 rfl (by decide) (.slice A5 m5 c5) m5 _ (by rfl) (by exact HO5.out.bw BWX) (some ⟨_,0,none⟩) 1 1 (c4L (x1,x2,x3,x4)) (by rfl) rfl (fun e => by cases e) (fun ad e => by cases e;exact news4 (heap_at SZX) rfl) (c4_one _) (by unfold maxLen;omega) (by omega) SZX ?_;intro v7 w7 hown7 hg7;obtain ⟨A7,c7,rfl,hc7,hc7m⟩:=own_form hown7;have hbw7 : Bw wo w7:=Bw.row (show Bw wo _ from BWX) (by exact HO5.out.bw BWX) hg7 (by omega);have HB7:=Lib.hid ((HBo5.out.up BWX).row (by exact HO5.out.bw BWX) hg7 (by omega));have HO7:=Lib.hid hown7;(have q0:=(HB7.out 0 (by simp)).1;have q1:=(HB7.out 1 (by simp)).1;have q2:=(HB7.out 2 (by simp)).1;have g0:=(HB7.out 0 (by simp)).2;have g1:=(HB7.out 1 (by simp)).2;have g2:=(HB7.out 2 (by simp)).2;simp only [List.getElem_cons_zero,List.getElem_cons_succ] at q0 q1 q2);have hz7:=HB7.out.lt (by simp);clear hown7 hg7)|fail)
      go_roundw
      case rel => exact ⟨k + 1,m5 + 1,.slice A7 (m5 + 1) c7,by go_num,by omega,by rw [HM5.out,Nat.add_assoc],HB7.out.put (i:=2) (by simp) _,by rw [← Nat.add_assoc,HTS.out,HFk.out];exact own_set_below HO7.out (by omega) _,BWX⟩
      case measure => simp [intOf];omega
     ·have HFk:=Lib.hid (show FF r k = (x1,x2,x3,x4) by rw [HFF.out];unfold scrollF;rw [if_neg (by omega)];exact HX.out)
      go_wp2_with (first|(go_at_call 98;refine (rat_any Rn Cn A n c cs r k d1 d2 d3 d4 _ hR2 hC2 HL.out (by exact HR.out.up BWX) hn hc).mono ?_;rintro ee wa ⟨rfl,hba⟩;rw [HX.out];dsimp only [c4V];have hbwa : Bw wo wa:=Bw.trans (show Bw wo _ from BWX) hba;have HB0a:=Lib.hid (HB0.out.up hbwa);have HB1a:=Lib.hid (HB1.out.up hbwa);have HBo5:=Lib.hid (HBo4.out.up hba);have HO5:=Lib.hid (HO4.out.bw hba);clear s0 s1 s2 t0 t1 t2 t3 u0 u1 u2 uf0 uf1 uf2;(have s0:=(HB0a.out 0 (by simp)).1;have s1:=(HB0a.out 1 (by simp)).1;have s2:=(HB0a.out 2 (by simp)).1;simp only [List.getElem_cons_zero,List.getElem_cons_succ] at s0 s1 s2);(have t0:=(HB1a.out 0 (by simp)).1;have t1:=(HB1a.out 1 (by simp)).1;have t2:=(HB1a.out 2 (by simp)).1;have t3:=(HB1a.out 3 (by simp)).1;simp only [List.getElem_cons_zero,List.getElem_cons_succ] at t0 t1 t2 t3);(have u0:=(HBo5.out 0 (by simp)).1;have u1:=(HBo5.out 1 (by simp)).1;have u2:=(HBo5.out 2 (by simp)).1;have uf0:=(HBo5.out 0 (by simp)).2;have uf1:=(HBo5.out 1 (by simp)).2;have uf2:=(HBo5.out 2 (by simp)).2;simp only [List.getElem_cons_zero,List.getElem_cons_succ] at u0 u1 u2);have hza:=HBo5.out.lt (by simp);have hzb:=HB1a.out.lt (by simp);have hzc:=HB0a.out.lt (by simp);have hzz:=hza;clear hba)|(at_builtin;refine wpList_append_srcG (by rfl) (.tmp 95) (.tmp 97) 23 rfl (wo.heap.size + 1) 70 j0 (.agg #[.int .i64 0,.int .i64 0,.int .i64 0,.int .i64 0]) 4 32 Tryz.underlying23 hj hj0 hj1 hj2 rfl (by decide) (.slice A5 m5 c5) m5 _ (by rfl) (by exact HO5.out.bw BWX) (some ⟨_,0,none⟩) 1 1 (c4L (x1,x2,x3,x4)) (by rfl) rfl (fun e => by cases e) (fun ad e => by cases e;exact news4 (heap_at SZX) rfl) (c4_one _) (by unfold maxLen;omega) (by omega) SZX ?_;intro v7 w7 hown7 hg7;obtain ⟨A7,c7,rfl,hc7,hc7m⟩:=own_form hown7;have hbw7 : Bw wo w7:=Bw.row (show Bw wo _ from BWX) (by exact HO5.out.bw BWX) hg7 (by omega);have HB7:=Lib.hid ((HBo5.out.up BWX).row (by exact HO5.out.bw BWX) hg7 (by omega));have HO7:=Lib.hid hown7;(have q0:=(HB7.out 0 (by simp)).1;have q1:=(HB7.out 1 (by simp)).1;have q2:=(HB7.out 2 (by simp)).1;have g0:=(HB7.out 0 (by simp)).2;have g1:=(HB7.out 1 (by simp)).2;have g2:=(HB7.out 2 (by simp)).2;simp only [List.getElem_cons_zero,List.getElem_cons_succ] at q0 q1 q2);have hz7:=HB7.out.lt (by simp);clear hown7 hg7)|fail)
      go_roundw
      case rel => exact ⟨k + 1,m5 + 1,.slice A7 (m5 + 1) c7,by go_num,by omega,by rw [HM5.out,Nat.add_assoc],HB7.out.put (i:=2) (by simp) _,by rw [← Nat.add_assoc,HTS.out,HFk.out];exact own_set_below HO7.out (by omega) _,BWX⟩
      case measure => simp [intOf];omega
     ·have HFk:=Lib.hid (show FF r k = (d1,d2,d3,d4) by rw [HFF.out];unfold scrollF;rw [if_pos ⟨h,h2⟩,if_neg (by omega)])
      go_wp2_with (first|(go_at_call 98;refine (rat_any Rn Cn A n c cs r k d1 d2 d3 d4 _ hR2 hC2 HL.out (by exact HR.out.up BWX) hn hc).mono ?_;rintro ee wa ⟨rfl,hba⟩;rw [HX.out];dsimp only [c4V];have hbwa : Bw wo wa:=Bw.trans (show Bw wo _ from BWX) hba;have HB0a:=Lib.hid (HB0.out.up hbwa);have HB1a:=Lib.hid (HB1.out.up hbwa);have HBo5:=Lib.hid (HBo4.out.up hba);have HO5:=Lib.hid (HO4.out.bw hba);clear s0 s1 s2 t0 t1 t2 t3 u0 u1 u2 uf0 uf1 uf2;(have s0:=(HB0a.out 0 (by simp)).1;have s1:=(HB0a.out 1 (by simp)).1;have s2:=(HB0a.out 2 (by simp)).1;simp only [List.getElem_cons_zero,List.getElem_cons_succ] at s0 s1 s2);(have t0:=(HB1a.out 0 (by simp)).1;have t1:=(HB1a.out 1 (by simp)).1;have t2:=(HB1a.out 2 (by simp)).1;have t3:=(HB1a.out 3 (by simp)).1;simp only [List.getElem_cons_zero,List.getElem_cons_succ] at t0 t1 t2 t3);(have u0:=(HBo5.out 0 (by simp)).1;have u1:=(HBo5.out 1 (by simp)).1;have u2:=(HBo5.out 2 (by simp)).1;have uf0:=(HBo5.out 0 (by simp)).2;have uf1:=(HBo5.out 1 (by simp)).2;have uf2:=(HBo5.out 2 (by simp)).2;simp only [List.getElem_cons_zero,List.getElem_cons_succ] at u0 u1 u2);have hza:=HBo5.out.lt (by simp);have hzb:=HB1a.out.lt (by simp);have hzc:=HB0a.out.lt (by simp);have hzz:=hza;clear hba)|(at_builtin;refine wpList_append_srcG (by rfl) (.tmp 95) (.tmp 97) 23 rfl (wo.heap.size + 1) 70 j0 (.agg #[.int .i64 0,.int .i64 0,.int .i64 0,.int .i64 0]) 4 32 Tryz.underlying23 hj hj0 hj1 hj2 rfl (by decide) (.slice A5 m5 c5) m5 _ (by rfl) (by exact HO5.out.bw BWX) (some ⟨_,0,none⟩) 1 1 (c4L (d1,d2,d3,d4)) (by rfl) rfl (fun e => by cases e) (fun ad e => by cases e;exact news4 (heap_at SZX) rfl) (c4_one _) (by unfold maxLen;omega) (by omega) SZX ?_;intro v7 w7 hown7 hg7;obtain ⟨A7,c7,rfl,hc7,hc7m⟩:=own_form hown7;have hbw7 : Bw wo w7:=Bw.row (show Bw wo _ from BWX) (by exact HO5.out.bw BWX) hg7 (by omega);have HB7:=Lib.hid ((HBo5.out.up BWX).row (by exact HO5.out.bw BWX) hg7 (by omega));have HO7:=Lib.hid hown7;(have q0:=(HB7.out 0 (by simp)).1;have q1:=(HB7.out 1 (by simp)).1;have q2:=(HB7.out 2 (by simp)).1;have g0:=(HB7.out 0 (by simp)).2;have g1:=(HB7.out 1 (by simp)).2;have g2:=(HB7.out 2 (by simp)).2;simp only [List.getElem_cons_zero,List.getElem_cons_succ] at q0 q1 q2);have hz7:=HB7.out.lt (by simp);clear hown7 hg7)|fail)
      go_roundw
      case rel => exact ⟨k + 1,m5 + 1,.slice A7 (m5 + 1) c7,by go_num,by omega,by rw [HM5.out,Nat.add_assoc],HB7.out.put (i:=2) (by simp) _,by rw [← Nat.add_assoc,HTS.out,HFk.out];exact own_set_below HO7.out (by omega) _,BWX⟩
      case measure => simp [intOf];omega
     ·have HFk:=Lib.hid (show FF r k = (d1,d2,d3,d4) by rw [HFF.out];unfold scrollF;rw [if_pos ⟨h,h2⟩,if_neg (by omega)])
      go_wp2_with (first|(go_at_call 98;refine (rat_any Rn Cn A n c cs r k d1 d2 d3 d4 _ hR2 hC2 HL.out (by exact HR.out.up BWX) hn hc).mono ?_;rintro ee wa ⟨rfl,hba⟩;rw [HX.out];dsimp only [c4V];have hbwa : Bw wo wa:=Bw.trans (show Bw wo _ from BWX) hba;have HB0a:=Lib.hid (HB0.out.up hbwa);have HB1a:=Lib.hid (HB1.out.up hbwa);have HBo5:=Lib.hid (HBo4.out.up hba);have HO5:=Lib.hid (HO4.out.bw hba);clear s0 s1 s2 t0 t1 t2 t3 u0 u1 u2 uf0 uf1 uf2;(have s0:=(HB0a.out 0 (by simp)).1;have s1:=(HB0a.out 1 (by simp)).1;have s2:=(HB0a.out 2 (by simp)).1;simp only [List.getElem_cons_zero,List.getElem_cons_succ] at s0 s1 s2);(have t0:=(HB1a.out 0 (by simp)).1;have t1:=(HB1a.out 1 (by simp)).1;have t2:=(HB1a.out 2 (by simp)).1;have t3:=(HB1a.out 3 (by simp)).1;simp only [List.getElem_cons_zero,List.getElem_cons_succ] at t0 t1 t2 t3);(have u0:=(HBo5.out 0 (by simp)).1;have u1:=(HBo5.out 1 (by simp)).1;have u2:=(HBo5.out 2 (by simp)).1;have uf0:=(HBo5.out 0 (by simp)).2;have uf1:=(HBo5.out 1 (by simp)).2;have uf2:=(HBo5.out 2 (by simp)).2;simp only [List.getElem_cons_zero,List.getElem_cons_succ] at u0 u1 u2);have hza:=HBo5.out.lt (by simp);have hzb:=HB1a.out.lt (by simp);have hzc:=HB0a.out.lt (by simp);have hzz:=hza;clear hba)|(at_builtin;refine wpList_append_srcG (by rfl) (.tmp 95) (.tmp 97) 23 rfl (wo.heap.size + 1) 70 j0 (.agg #[.int .i64 0,.int .i64 0,.int .i64 0,.int .i64 0]) 4 32 Tryz.underlying23 hj hj0 hj1 hj2 rfl (by decide) (.slice A5 m5 c5) m5 _ (by rfl) (by exact HO5.out.bw BWX) (some ⟨_,0,none⟩) 1 1 (c4L (d1,d2,d3,d4)) (by rfl) rfl (fun e => by cases e) (fun ad e => by cases e;exact news4 (heap_at SZX) rfl) (c4_one _) (by unfold maxLen;omega) (by omega) SZX ?_;intro v7 w7 hown7 hg7;obtain ⟨A7,c7,rfl,hc7,hc7m⟩:=own_form hown7;have hbw7 : Bw wo w7:=Bw.row (show Bw wo _ from BWX) (by exact HO5.out.bw BWX) hg7 (by omega);have HB7:=Lib.hid ((HBo5.out.up BWX).row (by exact HO5.out.bw BWX) hg7 (by omega));have HO7:=Lib.hid hown7;(have q0:=(HB7.out 0 (by simp)).1;have q1:=(HB7.out 1 (by simp)).1;have q2:=(HB7.out 2 (by simp)).1;have g0:=(HB7.out 0 (by simp)).2;have g1:=(HB7.out 1 (by simp)).2;have g2:=(HB7.out 2 (by simp)).2;simp only [List.getElem_cons_zero,List.getElem_cons_succ] at q0 q1 q2);have hz7:=HB7.out.lt (by simp);clear hown7 hg7)|fail)
      go_roundw
      case rel => exact ⟨k + 1,m5 + 1,.slice A7 (m5 + 1) c7,by go_num,by omega,by rw [HM5.out,Nat.add_assoc],HB7.out.put (i:=2) (by simp) _,by rw [← Nat.add_assoc,HTS.out,HFk.out];exact own_set_below HO7.out (by omega) _,BWX⟩
      case measure => simp [intOf];omega
     ·obtain ⟨⟨z1,z2,z3,z4⟩,hz⟩ : ∃ x,atF Rn Cn cs ((r : Int) + nn) (k : Int) (d1,d2,d3,d4) = x:=⟨_,rfl⟩
      have HFk:=Lib.hid (show FF r k = (z1,z2,z3,z4) by rw [HFF.out];unfold scrollF;rw [if_pos ⟨h,h2⟩,if_pos ⟨h3,h4⟩];exact hz)
      have HZ:=Lib.hid hz
      clear hz
      have tok1 : True:=trivial
      have tok2 : True:=trivial
      go_wp2_with (first|(have _t1:=tok1;clear tok1;go_at_call 98;refine (rat_any Rn Cn A n c cs r k d1 d2 d3 d4 _ hR2 hC2 HL.out (by exact HR.out.up BWX) hn hc).mono ?_;rintro ee wa ⟨rfl,hba⟩;rw [HX.out];dsimp only [c4V];have hbwa : Bw wo wa:=Bw.trans (show Bw wo _ from BWX) hba;have HB0a:=Lib.hid (HB0.out.up hbwa);have HB1a:=Lib.hid (HB1.out.up hbwa);have HBo5:=Lib.hid (HBo4.out.up hba);have HO5:=Lib.hid (HO4.out.bw hba);clear s0 s1 s2 t0 t1 t2 t3 u0 u1 u2 uf0 uf1 uf2;(have s0:=(HB0a.out 0 (by simp)).1;have s1:=(HB0a.out 1 (by simp)).1;have s2:=(HB0a.out 2 (by simp)).1;simp only [List.getElem_cons_zero,List.getElem_cons_succ] at s0 s1 s2);(have t0:=(HB1a.out 0 (by simp)).1;have t1:=(HB1a.out 1 (by simp)).1;have t2:=(HB1a.out 2 (by simp)).1;have t3:=(HB1a.out 3 (by simp)).1;simp only [List.getElem_cons_zero,List.getElem_cons_succ] at t0 t1 t2 t3);(have u0:=(HBo5.out 0 (by simp)).1;have u1:=(HBo5.out 1 (by simp)).1;have u2:=(HBo5.out 2 (by simp)).1;have uf0:=(HBo5.out 0 (by simp)).2;have uf1:=(HBo5.out 1 (by simp)).2;have uf2:=(HBo5.out 2 (by simp)).2;simp only [List.getElem_cons_zero,List.getElem_cons_succ] at u0 u1 u2);have hza:=HBo5.out.lt (by simp);have hzb:=HB1a.out.lt (by simp);have hzc:=HB0a.out.lt (by simp);have hzz:=hza;clear hba)|(have _t2:=tok2;go_at_call 98;refine (rat_any Rn Cn A n c cs ((r : Int) + nn) (k : Int) d1 d2 d3 d4 _ hR2 hC2 HL.out (by exact HR.out.up BWX) hn hc).mono ?_;rintro ee wb ⟨rfl,hbb⟩;rw [HZ.out];dsimp only [c4V];have hbwb : Bw wo wb:=Bw.trans (show Bw wo _ from BWX) hbb;have HXb:=Lib.hid ((Bx.lit (w:=wa) (cs:=#[.int .i64 d1,.int .i64 d2,.int .i64 d3,.int .i64 d4]) (T:=70) rfl rfl).up hbb);have HBo6:=Lib.hid (HBo5.out.up (Bw.trans (show Bw wa (wa.alloc _) from BWX) hbb));have HO6:=Lib.hid (HO5.out.bw (Bw.trans (show Bw wa (wa.alloc _) from BWX) hbb));(have v0:=(HBo6.out 0 (by simp)).1;have v1:=(HBo6.out 1 (by simp)).1;have v2:=(HBo6.out 2 (by simp)).1;have l0:=(HBo6.out 0 (by simp)).2;have l1:=(HBo6.out 1 (by simp)).2;have l2:=(HBo6.out 2 (by simp)).2;simp only [List.getElem_cons_zero,List.getElem_cons_succ] at v0 v1 v2);(have p0:=(HXb.out 0 (by simp)).1;have p1:=(HXb.out 1 (by simp)).1;have p2:=(HXb.out 2 (by simp)).1;have p3:=(HXb.out 3 (by simp)).1;have o0:=(HXb.out 0 (by simp)).2;have o1:=(HXb.out 1 (by simp)).2;have o2:=(HXb.out 2 (by simp)).2;have o3:=(HXb.out 3 (by simp)).2;simp only [List.getElem_cons_zero,List.getElem_cons_succ] at p0 p1 p2 p3);have hzx:=HXb.out.lt (by simp);have HO6s:=Lib.hid (own_set4 HO6.out (X:=wa.heap.size) (fun e => by have:=(HO5.out.lt _ e).2;omega));have HBo6s:=Lib.hid (HBo6.out.away4 (X:=wa.heap.size) (by omega));clear hbb u0 u1 u2 uf0 uf1 uf2 hzz)|(at_builtin;refine wpList_append_srcG (by rfl) (.tmp 95) (.tmp 97) 23 rfl (wo.heap.size + 1) 70 j0 (.agg #[.int .i64 0,.int .i64 0,.int .i64 0,.int .i64 0]) 4 32 Tryz.underlying23 hj hj0 hj1 hj2 rfl (by decide) (.slice A5 m5 c5) m5 _ (by rfl) (by exact (HO6s.out _ _ _ _).bw BWX) (some ⟨_,0,none⟩) 1 1 (c4L (z1,z2,z3,z4)) (by rfl) rfl (fun e => by cases e) (fun ad e => by cases e;exact news4 (heap_at SZX) rfl) (c4_one _) (by unfold maxLen;omega) (by omega) SZX ?_;intro v7 w7 hown7 hg7;obtain ⟨A7,c7,rfl,hc7,hc7m⟩:=own_form hown7;have hbw7 : Bw wo w7:=Bw.row (show Bw wo _ from BWX) (by exact (HO6s.out _ _ _ _).bw BWX) hg7 (by omega);have HB7:=Lib.hid (((HBo6s.out _ _ _ _).up BWX).row (by exact (HO6s.out _ _ _ _).bw BWX) hg7 (by omega));have HO7:=Lib.hid hown7;(have q0:=(HB7.out 0 (by simp)).1;have q1:=(HB7.out 1 (by simp)).1;have q2:=(HB7.out 2 (by simp)).1;have g0:=(HB7.out 0 (by simp)).2;have g1:=(HB7.out 1 (by simp)).2;have g2:=(HB7.out 2 (by simp)).2;simp only [List.getElem_cons_zero,List.getElem_cons_succ] at q0 q1 q2);have hz7:=HB7.out.lt (by simp);clear hown7 hg7)|fail)
      go_roundw
      case rel => exact ⟨k + 1,m5 + 1,.slice A7 (m5 + 1) c7,by go_num,by omega,by rw [HM5.out,Nat.add_assoc],HB7.out.put (i:=2) (by simp) _,by rw [← Nat.add_assoc,HTS.out,HFk.out];exact own_set_below HO7.out (by omega) _,BWX⟩
      case measure => simp [intOf];omega
    ·obtain rfl : k = Cn:=by omega
     clear t0 t1 t2 t3
     go_wp2_with fail
     go_roundw
     case rel => exact ⟨r + 1,m5,.slice A5 m5 c5,by go_num,by omega,by rw [HM5.out,Nat.succ_mul],HBo4.out,by rw [Nat.succ_mul];exact HO4.out,hbwy⟩
     case measure => simp [intOf];omega
  ·obtain rfl : r = Rn:=by omega
   have HB2z:=Lib.hid (HB2.out.up hbwz)
   (have x0:=(HB2z.out 0 (by simp)).1;have x1:=(HB2z.out 1 (by simp)).1;have x2:=(HB2z.out 2 (by simp)).1;have z0:=(HB2z.out 0 (by simp)).2;have z1:=(HB2z.out 1 (by simp)).2;have z2:=(HB2z.out 2 (by simp)).2;simp only [List.getElem_cons_zero,List.getElem_cons_succ] at x0 x1 x2)
   have hz2z:=HB2z.out.lt (by simp)
   go_wp2_with fail
   refine bodyPost_ret (by simp [results,Tryz.results73,go_sem,x0,x1,x2,z0,z1,z2];rfl) rfl ?_
   refine ⟨A5,m5,c5,rfl,?_,hc5,hc5m,fun ad e => by have:=own_new HO.out ad e;have:=hbwo.size;omega,BWX⟩
   exact Rg.of_own (own_set_below (own_set_below (own_set_below HO.out (by omega) _) (by omega) _) (by omega) _)
def shiftF (Rn Cn : Nat) (cs : List C4) (row col nn : Int) (d : C4) (r k : Nat) : C4:=if (r : Int) = row ∧ col ≤ k then (if col ≤ k - nn then atF Rn Cn cs r (k - nn) d else d) else atF Rn Cn cs r k d
theorem rshift_go (Rn Cn : Nat) (A : Option Addr) (n c : Nat) (cs : List C4) (row col num d1 d2 d3 d4 : Int) (w : World) (hR1 : 1 ≤ Rn) (hR2 : Rn ≤ 30) (hC1 : 1 ≤ Cn) (hC2 : Cn ≤ 100) (hl : n = Rn * Cn) (hr : Rg w A n cs) (hn : n ≤ c) (hc : c ≤ 9223372036854775807)
  (hv : gridB Rn Cn cs = true) (hcv : cellB (d1,d2,d3,d4) = true) (ht0 : 0 ≤ row) (ht1 : row < (Rn : Int)) (ht2 : 0 ≤ col) (ht3 : col < (Cn : Int)) :
  Calls Tryz.prog 109 #[.agg #[.int .i64 Rn,.int .i64 Cn,.slice A n c],.int .i64 row,.int .i64 col,.int .i64 num,.agg #[.int .i64 d1,.int .i64 d2,.int .i64 d3,.int .i64 d4]] w (GrN w Rn Cn (tab Rn Cn (shiftF Rn Cn cs row col (clampS Cn num) (d1,d2,d3,d4)))):=by
 have HR:=Lib.hid hr
 have HL:=Lib.hid hl
 have HV:=Lib.hid hv
 have HCV:=Lib.hid hcv
 have hm3 : n ≤ 3000:=by rw [hl];have:=Nat.mul_le_mul hR2 hC2;omega
 obtain ⟨j0,hj,hj0,hj1,hj2⟩:=info_parts infoC
 obtain ⟨FF,hFF⟩ : ∃ FF,FF = shiftF Rn Cn cs row col (clampS Cn num) (d1,d2,d3,d4):=⟨_,rfl⟩
 have HFF:=Lib.hid hFF
 rw [← hFF]
 clear hr hl hv hcv hFF
 go_enter Tryz.func109,Tryz.ntmps109
 go_upto_if 42 with (first
  | (go_at_call 42;refine (rgvalid_any _ _ _ _ _ cs _ (by exact HR.out.up BWX) hn hc).mono ?_;rintro ee wv ⟨rfl,hbv⟩;rw [HV.out];have HB0:=Lib.hid (((Bx.lit (w:=w) (cs:=#[.int .i64 Rn,.int .i64 Cn,.slice A n c]) (T:=25) rfl rfl).up (show Bw _ (((w.alloc _).alloc _).alloc _) from BWX)).up hbv);have HB1:=Lib.hid (((Bx.lit (w:=w.alloc (.cells #[.int .i64 Rn,.int .i64 Cn,.slice A n c] 25)) (g:=w.heap.size + 1) (cs:=#[.int .i64 d1,.int .i64 d2,.int .i64 d3,.int .i64 d4]) (T:=70) SZX rfl).up (show Bw _ (((w.alloc _).alloc _).alloc _) from BWX)).up hbv);have HB2:=Lib.hid ((Bx.lit (w:=(w.alloc (.cells #[.int .i64 Rn,.int .i64 Cn,.slice A n c] 25)).alloc (.cells #[.int .i64 d1,.int .i64 d2,.int .i64 d3,.int .i64 d4] 70)) (g:=w.heap.size + 1 + 1) (cs:=#[.int .i64 0,.int .i64 0,.slice none 0 0]) (T:=25) SZX rfl).up hbv);have hbw0 : Bw w wv:=Bw.trans (show Bw w _ from BWX) hbv;(have x0:=(HB0.out 0 (by simp)).1;have x1:=(HB0.out 1 (by simp)).1;have x2:=(HB0.out 2 (by simp)).1;simp only [List.getElem_cons_zero,List.getElem_cons_succ] at x0 x1 x2);(have y0:=(HB1.out 0 (by simp)).1;have y1:=(HB1.out 1 (by simp)).1;have y2:=(HB1.out 2 (by simp)).1;have y3:=(HB1.out 3 (by simp)).1;simp only [List.getElem_cons_zero,List.getElem_cons_succ] at y0 y1 y2 y3);clear hbv)
  | (go_at_call 66;refine (rcell_any d1 d2 d3 d4 _).mono ?_;rintro ee wu ⟨rfl,hbc⟩;rw [HCV.out];have HC0:=Lib.hid (HB0.out.up hbc);have HC1:=Lib.hid (HB1.out.up hbc);have HC2:=Lib.hid (HB2.out.up hbc);have hbw1 : Bw w wu:=Bw.trans hbw0 hbc;clear hbc x0 x1 x2 y0 y1 y2 y3;(have x0:=(HC0.out 0 (by simp)).1;have x1:=(HC0.out 1 (by simp)).1;have x2:=(HC0.out 2 (by simp)).1;simp only [List.getElem_cons_zero,List.getElem_cons_succ] at x0 x1 x2);(have y0:=(HC1.out 0 (by simp)).1;have y1:=(HC1.out 1 (by simp)).1;have y2:=(HC1.out 2 (by simp)).1;have y3:=(HC1.out 3 (by simp)).1;simp only [List.getElem_cons_zero,List.getElem_cons_succ] at y0 y1 y2 y3))
  | fail)
 go_cut [] (fun w' => wu = w')
 case first =>
  go_wp2_with fail
  go_meet
  case rel => exact rfl
 case rest =>
 obtain rfl:=hcut
 clear HB0 HB1 HB2 hbw0
 obtain ⟨wo,hwo⟩ : ∃ wo : World,wo = wu:=⟨_,rfl⟩
 subst hwo
 have HB0:=HC0
 have HB1:=HC1
 have HB2:=HC2
 have hz2:=HB2.out.lt (by simp)
 have hbwo:=hbw1
 clear HC0 HC1 HC2 hbw1
 obtain ⟨nn,hnn⟩ : ∃ nn,nn = clampS Cn num:=⟨_,rfl⟩
 have hnb:=clampS_bd Cn num
 rw [← hnn] at hnb HFF
 have HNN:=Lib.hid hnn
 obtain ⟨hnb1,hnb2⟩:=hnb
 clear hnn
 go_upto_region 3 with (fail)
 go_cut [3] (fun s w' => s = .int .i64 nn ∧ wo = w')
 case first =>
  go_wp2_with fail
  all_goals
   go_meet
   case rel => exact ⟨congrArg (Value.int .i64) (by rw [HNN.out];unfold clampS;(repeat' split) <;> omega),rfl⟩
 case rest =>
 obtain ⟨rfl,rfl⟩:=hcut
 go_wp2_with fail
 clear x0 x1 x2 y0 y1 y2 y3
 go_loopw [12] (fun i wr => ∃ (r m5 : Nat) (v : Value),i = .int .i64 r ∧ r ≤ Rn ∧ m5 = r * Cn ∧ Bx wr wo.heap.size [.int .i64 Rn,.int .i64 Cn,v] ∧ wr.ownsRow (wo.heap.size + 1) 70 4 v m5 (flat (tabK Cn (r * Cn) FF)) ∧ Bw wo wr) (fun i _ => Rn - (intOf i).toNat)
 case atStart => exact ⟨0,0,.slice none 0 0,rfl,by omega,by omega,Bx.lit rfl rfl,by rw [Nat.zero_mul];exact World.ownsRow_nil _ _ _ _,BWX⟩
 case round =>
  obtain ⟨wz,hwz⟩ : ∃ wz : World,wz = wr:=⟨_,rfl⟩
  subst hwz
  obtain ⟨r,m5,v,rfl,hr,hm5,hBo,hown,hbwz⟩:=hrel
  obtain ⟨A5,c5,rfl,hc5,hc5m⟩:=own_form hown
  have HO:=Lib.hid hown
  have HBo:=Lib.hid hBo
  have HM5:=Lib.hid hm5
  have HB0z:=Lib.hid (HB0.out.up hbwz)
  have hz0z:=HB0z.out.lt (by simp)
  have hzoz:=hBo.lt (by simp)
  (have s0:=(HB0z.out 0 (by simp)).1;have s1:=(HB0z.out 1 (by simp)).1;have s2:=(HB0z.out 2 (by simp)).1;simp only [List.getElem_cons_zero,List.getElem_cons_succ] at s0 s1 s2)
  (have u0:=(HBo.out 0 (by simp)).1;have u1:=(HBo.out 1 (by simp)).1;have u2:=(HBo.out 2 (by simp)).1;have uf0:=(HBo.out 0 (by simp)).2;have uf1:=(HBo.out 1 (by simp)).2;have uf2:=(HBo.out 2 (by simp)).2;simp only [List.getElem_cons_zero,List.getElem_cons_succ] at u0 u1 u2)
  clear hown hBo hm5
  by_cases hlt : r < Rn
  ·go_wp2_with fail
   clear s0 s1 s2 u0 u1 u2 uf0 uf1 uf2
   go_loopw [13] (fun i wr => ∃ (k m5 : Nat) (v : Value),i = .int .i64 k ∧ k ≤ Cn ∧ m5 = r * Cn + k ∧ Bx wr wo.heap.size [.int .i64 Rn,.int .i64 Cn,v] ∧ wr.ownsRow (wo.heap.size + 1) 70 4 v m5 (flat (tabK Cn (r * Cn + k) FF)) ∧ Bw wo wr) (fun i _ => Cn - (intOf i).toNat)
   case atStart => exact ⟨0,m5,.slice A5 m5 c5,rfl,by omega,HM5.out,HBo.out,HO.out,hbwz⟩
   case round =>
    clear HO HBo HM5 HB0z hc5 hc5m hbwz hz0z hzoz
    obtain ⟨wy,hwy⟩ : ∃ wy : World,wy = wr:=⟨_,rfl⟩
    subst hwy
    obtain ⟨k,m5,v,rfl,hk,hm5,hBo,hown,hbwy⟩:=hrel
    obtain ⟨A5,c5,rfl,hc5,hc5m⟩:=own_form hown
    have HO4:=Lib.hid hown
    have HBo4:=Lib.hid hBo
    have HB0y:=Lib.hid (HB0.out.up hbwy)
    have HB1y:=Lib.hid (HB1.out.up hbwy)
    have HM5:=Lib.hid hm5
    have hzoy:=hBo.lt (by simp)
    have hz0y:=HB1y.out.lt (by simp)
    clear hown hBo
    (have s0:=(HB0y.out 0 (by simp)).1;have s1:=(HB0y.out 1 (by simp)).1;have s2:=(HB0y.out 2 (by simp)).1;simp only [List.getElem_cons_zero,List.getElem_cons_succ] at s0 s1 s2)
    (have t0:=(HB1y.out 0 (by simp)).1;have t1:=(HB1y.out 1 (by simp)).1;have t2:=(HB1y.out 2 (by simp)).1;have t3:=(HB1y.out 3 (by simp)).1;simp only [List.getElem_cons_zero,List.getElem_cons_succ] at t0 t1 t2 t3)
    (have u0:=(HBo4.out 0 (by simp)).1;have u1:=(HBo4.out 1 (by simp)).1;have u2:=(HBo4.out 2 (by simp)).1;have uf0:=(HBo4.out 0 (by simp)).2;have uf1:=(HBo4.out 1 (by simp)).2;have uf2:=(HBo4.out 2 (by simp)).2;simp only [List.getElem_cons_zero,List.getElem_cons_succ] at u0 u1 u2)
    by_cases hlk : k < Cn
    ·have hm5b : m5 < 3000:=by have:=idx_lt hlt hlk;rw [← HL.out] at this;omega
     obtain ⟨⟨x1,x2,x3,x4⟩,hx⟩ : ∃ x,atF Rn Cn cs r k (d1,d2,d3,d4) = x:=⟨_,rfl⟩
     have HX:=Lib.hid hx
     have HTS:=Lib.hid (tab_snoc (r:=r) FF hlk)
     clear hx hm5
     have hw : (¬ (r : Int) = row) ∨ ((r : Int) = row ∧ (k : Int) < col) ∨ ((r : Int) = row ∧ col ≤ (k : Int) ∧ (k : Int) - nn < col) ∨ ((r : Int) = row ∧ col ≤ (k : Int) ∧ col ≤ (k : Int) - nn):=by omega
     rcases hw with h|⟨h,h2⟩|⟨h,h2,h3⟩|⟨h,h2,h3⟩
     ·have hq1 : ((r : Int) == row) = false:=by simpa using h
      have HFk:=Lib.hid (show FF r k = (x1,x2,x3,x4) by rw [HFF.out];unfold shiftF;rw [if_neg (by omega)];exact HX.out)
      clear h
      go_wp2_with (first|(go_at_call 98;refine (rat_any Rn Cn A n c cs r k d1 d2 d3 d4 _ hR2 hC2 HL.out (by exact HR.out.up BWX) hn hc).mono ?_;rintro ee wa ⟨rfl,hba⟩;rw [HX.out];dsimp only [c4V];have hbwa : Bw wo wa:=Bw.trans (show Bw wo _ from BWX) hba;have HB0a:=Lib.hid (HB0.out.up hbwa);have HB1a:=Lib.hid (HB1.out.up hbwa);have HBo5:=Lib.hid (HBo4.out.up hba);have HO5:=Lib.hid (HO4.out.bw hba);clear s0 s1 s2 t0 t1 t2 t3 u0 u1 u2 uf0 uf1 uf2;(have s0:=(HB0a.out 0 (by simp)).1;have s1:=(HB0a.out 1 (by simp)).1;have s2:=(HB0a.out 2 (by simp)).1;simp only [List.getElem_cons_zero,List.getElem_cons_succ] at s0 s1 s2);(have t0:=(HB1a.out 0 (by simp)).1;have t1:=(HB1a.out 1 (by simp)).1;have t2:=(HB1a.out 2 (by simp)).1;have t3:=(HB1a.out 3 (by simp)).1;simp only [List.getElem_cons_zero,List.getElem_cons_succ] at t0 t1 t2 t3);(have u0:=(HBo5.out 0 (by simp)).1;have u1:=(HBo5.out 1 (by simp)).1;have u2:=(HBo5.out 2 (by simp)).1;have uf0:=(HBo5.out 0 (by simp)).2;have uf1:=(HBo5.out 1 (by simp)).2;have uf2:=(HBo5.out 2 (by simp)).2;simp only [List.getElem_cons_zero,List.getElem_cons_succ] at u0 u1 u2);have hza:=HBo5.out.lt (by simp);have hzb:=HB1a.out.lt (by simp);have hzc:=HB0a.out.lt (by simp);have hzz:=hza;clear hba)|(at_builtin;refine wpList_append_srcG (by rfl) (.tmp 93) (.tmp 95) 23 rfl (wo.heap.size + 1) 70 j0 (.agg #[.int .i64 0,.int .i64 0,.int .i64 0,.int .i64 0]) 4 32 Tryz.underlying23 hj hj0 hj1 hj2 rfl (by decide) (.slice A5 m5 c5) m5 _ (by rfl) (by exact HO5.out.bw BWX) (some ⟨_,0,none⟩) 1 1 (c4L (x1,x2,x3,x4)) (by rfl) rfl (fun e => by cases e) (fun ad e => by cases e;exact news4 (heap_at SZX) rfl) (c4_one _) (by unfold maxLen;omega) (by omega) SZX ?_;intro v7 w7 hown7 hg7;obtain ⟨A7,c7,rfl,hc7,hc7m⟩:=own_form hown7;have hbw7 : Bw wo w7:=Bw.row (show Bw wo _ from BWX) (by exact HO5.out.bw BWX) hg7 (by omega);have HB7:=Lib.hid ((HBo5.out.up BWX).row (by exact HO5.out.bw BWX) hg7 (by omega));have HO7:=Lib.hid hown7;(have q0:=(HB7.out 0 (by simp)).1;have q1:=(HB7.out 1 (by simp)).1;have q2:=(HB7.out 2 (by simp)).1;have g0:=(HB7.out 0 (by simp)).2;have g1:=(HB7.out 1 (by simp)).2;have g2:=(HB7.out 2 (by simp)).2;simp only [List.getElem_cons_zero,List.getElem_cons_succ] at q0 q1 q2);have hz7:=HB7.out.lt (by simp);clear hown7 hg7)|fail)
      go_roundw
      case rel => exact ⟨k + 1,m5 + 1,.slice A7 (m5 + 1) c7,by go_num,by omega,by rw [HM5.out,Nat.add_assoc],HB7.out.put (i:=2) (by simp) _,by rw [← Nat.add_assoc,HTS.out,HFk.out];exact own_set_below HO7.out (by omega) _,BWX⟩
      case measure => simp [intOf];omega
     ·have hq1 : ((r : Int) == row) = true:=by simpa using h
      have HFk:=Lib.hid (show FF r k = (x1,x2,x3,x4) by rw [HFF.out];unfold shiftF;rw [if_neg (by omega)];exact HX.out)
      clear h
      go_wp2_with (first|(go_at_call 98;refine (rat_any Rn Cn A n c cs r k d1 d2 d3 d4 _ hR2 hC2 HL.out (by exact HR.out.up BWX) hn hc).mono ?_;rintro ee wa ⟨rfl,hba⟩;rw [HX.out];dsimp only [c4V];have hbwa : Bw wo wa:=Bw.trans (show Bw wo _ from BWX) hba;have HB0a:=Lib.hid (HB0.out.up hbwa);have HB1a:=Lib.hid (HB1.out.up hbwa);have HBo5:=Lib.hid (HBo4.out.up hba);have HO5:=Lib.hid (HO4.out.bw hba);clear s0 s1 s2 t0 t1 t2 t3 u0 u1 u2 uf0 uf1 uf2;(have s0:=(HB0a.out 0 (by simp)).1;have s1:=(HB0a.out 1 (by simp)).1;have s2:=(HB0a.out 2 (by simp)).1;simp only [List.getElem_cons_zero,List.getElem_cons_succ] at s0 s1 s2);(have t0:=(HB1a.out 0 (by simp)).1;have t1:=(HB1a.out 1 (by simp)).1;have t2:=(HB1a.out 2 (by simp)).1;have t3:=(HB1a.out 3 (by simp)).1;simp only [List.getElem_cons_zero,List.getElem_cons_succ] at t0 t1 t2 t3);(have u0:=(HBo5.out 0 (by simp)).1;have u1:=(HBo5.out 1 (by simp)).1;have u2:=(HBo5.out 2 (by simp)).1;have uf0:=(HBo5.out 0 (by simp)).2;have uf1:=(HBo5.out 1 (by simp)).2;have uf2:=(HBo5.out 2 (by simp)).2;simp only [List.getElem_cons_zero,List.getElem_cons_succ] at u0 u1 u2);have hza:=HBo5.out.lt (by simp);have hzb:=HB1a.out.lt (by simp);have hzc:=HB0a.out.lt (by simp);have hzz:=hza;clear hba)|(at_builtin;refine wpList_append_srcG (by rfl) (.tmp 93) (.tmp 95) 23 rfl (wo.heap.size + 1) 70 j0 (.agg #[.int .i64 0,.int .i64 0,.int .i64 0,.int .i64 0]) 4 32 Tryz.underlying23 hj hj0 hj1 hj2 rfl (by decide) (.slice A5 m5 c5) m5 _ (by rfl) (by exact HO5.out.bw BWX) (some ⟨_,0,none⟩) 1 1 (c4L (x1,x2,x3,x4)) (by rfl) rfl (fun e => by cases e) (fun ad e => by cases e;exact news4 (heap_at SZX) rfl) (c4_one _) (by unfold maxLen;omega) (by omega) SZX ?_;intro v7 w7 hown7 hg7;obtain ⟨A7,c7,rfl,hc7,hc7m⟩:=own_form hown7;have hbw7 : Bw wo w7:=Bw.row (show Bw wo _ from BWX) (by exact HO5.out.bw BWX) hg7 (by omega);have HB7:=Lib.hid ((HBo5.out.up BWX).row (by exact HO5.out.bw BWX) hg7 (by omega));have HO7:=Lib.hid hown7;(have q0:=(HB7.out 0 (by simp)).1;have q1:=(HB7.out 1 (by simp)).1;have q2:=(HB7.out 2 (by simp)).1;have g0:=(HB7.out 0 (by simp)).2;have g1:=(HB7.out 1 (by simp)).2;have g2:=(HB7.out 2 (by simp)).2;simp only [List.getElem_cons_zero,List.getElem_cons_succ] at q0 q1 q2);have hz7:=HB7.out.lt (by simp);clear hown7 hg7)|fail)
      go_roundw
      case rel => exact ⟨k + 1,m5 + 1,.slice A7 (m5 + 1) c7,by go_num,by omega,by rw [HM5.out,Nat.add_assoc],HB7.out.put (i:=2) (by simp) _,by rw [← Nat.add_assoc,HTS.out,HFk.out];exact own_set_below HO7.out (by omega) _,BWX⟩
      case measure => simp [intOf];omega
     ·have hq1 : ((r : Int) == row) = true:=by simpa using h
      have HFk:=Lib.hid (show FF r k = (d1,d2,d3,d4) by rw [HFF.out];unfold shiftF;rw [if_pos ⟨h,h2⟩,if_neg (by omega)])
      clear h
      go_wp2_with (first|(go_at_call 98;refine (rat_any Rn Cn A n c cs r k d1 d2 d3 d4 _ hR2 hC2 HL.out (by exact HR.out.up BWX) hn hc).mono ?_;rintro ee wa ⟨rfl,hba⟩;rw [HX.out];dsimp only [c4V];have hbwa : Bw wo wa:=Bw.trans (show Bw wo _ from BWX) hba;have HB0a:=Lib.hid (HB0.out.up hbwa);have HB1a:=Lib.hid (HB1.out.up hbwa);have HBo5:=Lib.hid (HBo4.out.up hba);have HO5:=Lib.hid (HO4.out.bw hba);clear s0 s1 s2 t0 t1 t2 t3 u0 u1 u2 uf0 uf1 uf2;(have s0:=(HB0a.out 0 (by simp)).1;have s1:=(HB0a.out 1 (by simp)).1;have s2:=(HB0a.out 2 (by simp)).1;simp only [List.getElem_cons_zero,List.getElem_cons_succ] at s0 s1 s2);(have t0:=(HB1a.out 0 (by simp)).1;have t1:=(HB1a.out 1 (by simp)).1;have t2:=(HB1a.out 2 (by simp)).1;have t3:=(HB1a.out 3 (by simp)).1;simp only [List.getElem_cons_zero,List.getElem_cons_succ] at t0 t1 t2 t3);(have u0:=(HBo5.out 0 (by simp)).1;have u1:=(HBo5.out 1 (by simp)).1;have u2:=(HBo5.out 2 (by simp)).1;have uf0:=(HBo5.out 0 (by simp)).2;have uf1:=(HBo5.out 1 (by simp)).2;have uf2:=(HBo5.out 2 (by simp)).2;simp only [List.getElem_cons_zero,List.getElem_cons_succ] at u0 u1 u2);have hza:=HBo5.out.lt (by simp);have hzb:=HB1a.out.lt (by simp);have hzc:=HB0a.out.lt (by simp);have hzz:=hza;clear hba)|(at_builtin;refine wpList_append_srcG (by rfl) (.tmp 93) (.tmp 95) 23 rfl (wo.heap.size + 1) 70 j0 (.agg #[.int .i64 0,.int .i64 0,.int .i64 0,.int .i64 0]) 4 32 Tryz.underlying23 hj hj0 hj1 hj2 rfl (by decide) (.slice A5 m5 c5) m5 _ (by rfl) (by exact HO5.out.bw BWX) (some ⟨_,0,none⟩) 1 1 (c4L (d1,d2,d3,d4)) (by rfl) rfl (fun e => by cases e) (fun ad e => by cases e;exact news4 (heap_at SZX) rfl) (c4_one _) (by unfold maxLen;omega) (by omega) SZX ?_;intro v7 w7 hown7 hg7;obtain ⟨A7,c7,rfl,hc7,hc7m⟩:=own_form hown7;have hbw7 : Bw wo w7:=Bw.row (show Bw wo _ from BWX) (by exact HO5.out.bw BWX) hg7 (by omega);have HB7:=Lib.hid ((HBo5.out.up BWX).row (by exact HO5.out.bw BWX) hg7 (by omega));have HO7:=Lib.hid hown7;(have q0:=(HB7.out 0 (by simp)).1;have q1:=(HB7.out 1 (by simp)).1;have q2:=(HB7.out 2 (by simp)).1;have g0:=(HB7.out 0 (by simp)).2;have g1:=(HB7.out 1 (by simp)).2;have g2:=(HB7.out 2 (by simp)).2;simp only [List.getElem_cons_zero,List.getElem_cons_succ] at q0 q1 q2);have hz7:=HB7.out.lt (by simp);clear hown7 hg7)|fail)
      go_roundw
      case rel => exact ⟨k + 1,m5 + 1,.slice A7 (m5 + 1) c7,by go_num,by omega,by rw [HM5.out,Nat.add_assoc],HB7.out.put (i:=2) (by simp) _,by rw [← Nat.add_assoc,HTS.out,HFk.out];exact own_set_below HO7.out (by omega) _,BWX⟩
      case measure => simp [intOf];omega
     ·have hq1 : ((r : Int) == row) = true:=by simpa using h
      obtain ⟨⟨z1,z2,z3,z4⟩,hz⟩ : ∃ x,atF Rn Cn cs (r : Int) ((k : Int) - nn) (d1,d2,d3,d4) = x:=⟨_,rfl⟩
      have HFk:=Lib.hid (show FF r k = (z1,z2,z3,z4) by rw [HFF.out];unfold shiftF;rw [if_pos ⟨h,h2⟩,if_pos h3];exact hz)
      have HZ:=Lib.hid hz
      clear hz h
      have tok1 : True:=trivial
      have tok2 : True:=trivial
      go_wp2_with (first|(have _t1:=tok1;clear tok1;go_at_call 98;refine (rat_any Rn Cn A n c cs r k d1 d2 d3 d4 _ hR2 hC2 HL.out (by exact HR.out.up BWX) hn hc).mono ?_;rintro ee wa ⟨rfl,hba⟩;rw [HX.out];dsimp only [c4V];have hbwa : Bw wo wa:=Bw.trans (show Bw wo _ from BWX) hba;have HB0a:=Lib.hid (HB0.out.up hbwa);have HB1a:=Lib.hid (HB1.out.up hbwa);have HBo5:=Lib.hid (HBo4.out.up hba);have HO5:=Lib.hid (HO4.out.bw hba);clear s0 s1 s2 t0 t1 t2 t3 u0 u1 u2 uf0 uf1 uf2;(have s0:=(HB0a.out 0 (by simp)).1;have s1:=(HB0a.out 1 (by simp)).1;have s2:=(HB0a.out 2 (by simp)).1;simp only [List.getElem_cons_zero,List.getElem_cons_succ] at s0 s1 s2);(have t0:=(HB1a.out 0 (by simp)).1;have t1:=(HB1a.out 1 (by simp)).1;have t2:=(HB1a.out 2 (by simp)).1;have t3:=(HB1a.out 3 (by simp)).1;simp only [List.getElem_cons_zero,List.getElem_cons_succ] at t0 t1 t2 t3);(have u0:=(HBo5.out 0 (by simp)).1;have u1:=(HBo5.out 1 (by simp)).1;have u2:=(HBo5.out 2 (by simp)).1;have uf0:=(HBo5.out 0 (by simp)).2;have uf1:=(HBo5.out 1 (by simp)).2;have uf2:=(HBo5.out 2 (by simp)).2;simp only [List.getElem_cons_zero,List.getElem_cons_succ] at u0 u1 u2);have hza:=HBo5.out.lt (by simp);have hzb:=HB1a.out.lt (by simp);have hzc:=HB0a.out.lt (by simp);have hzz:=hza;clear hba)|(have _t2:=tok2;go_at_call 98;refine (rat_any Rn Cn A n c cs (r : Int) ((k : Int) - nn) d1 d2 d3 d4 _ hR2 hC2 HL.out (by exact HR.out.up BWX) hn hc).mono ?_;rintro ee wb ⟨rfl,hbb⟩;rw [HZ.out];dsimp only [c4V];have hbwb : Bw wo wb:=Bw.trans (show Bw wo _ from BWX) hbb;have HXb:=Lib.hid ((Bx.lit (w:=wa) (cs:=#[.int .i64 d1,.int .i64 d2,.int .i64 d3,.int .i64 d4]) (T:=70) rfl rfl).up hbb);have HBo6:=Lib.hid (HBo5.out.up (Bw.trans (show Bw wa (wa.alloc _) from BWX) hbb));have HO6:=Lib.hid (HO5.out.bw (Bw.trans (show Bw wa (wa.alloc _) from BWX) hbb));(have v0:=(HBo6.out 0 (by simp)).1;have v1:=(HBo6.out 1 (by simp)).1;have v2:=(HBo6.out 2 (by simp)).1;have l0:=(HBo6.out 0 (by simp)).2;have l1:=(HBo6.out 1 (by simp)).2;have l2:=(HBo6.out 2 (by simp)).2;simp only [List.getElem_cons_zero,List.getElem_cons_succ] at v0 v1 v2);(have p0:=(HXb.out 0 (by simp)).1;have p1:=(HXb.out 1 (by simp)).1;have p2:=(HXb.out 2 (by simp)).1;have p3:=(HXb.out 3 (by simp)).1;have o0:=(HXb.out 0 (by simp)).2;have o1:=(HXb.out 1 (by simp)).2;have o2:=(HXb.out 2 (by simp)).2;have o3:=(HXb.out 3 (by simp)).2;simp only [List.getElem_cons_zero,List.getElem_cons_succ] at p0 p1 p2 p3);have hzx:=HXb.out.lt (by simp);have HO6s:=Lib.hid (own_set4 HO6.out (X:=wa.heap.size) (fun e => by have:=(HO5.out.lt _ e).2;omega));have HBo6s:=Lib.hid (HBo6.out.away4 (X:=wa.heap.size) (by omega));clear hbb u0 u1 u2 uf0 uf1 uf2 hzz)|(at_builtin;refine wpList_append_srcG (by rfl) (.tmp 93) (.tmp 95) 23 rfl (wo.heap.size + 1) 70 j0 (.agg #[.int .i64 0,.int .i64 0,.int .i64 0,.int .i64 0]) 4 32 Tryz.underlying23 hj hj0 hj1 hj2 rfl (by decide) (.slice A5 m5 c5) m5 _ (by rfl) (by exact (HO6s.out _ _ _ _).bw BWX) (some ⟨_,0,none⟩) 1 1 (c4L (z1,z2,z3,z4)) (by rfl) rfl (fun e => by cases e) (fun ad e => by cases e;exact news4 (heap_at SZX) rfl) (c4_one _) (by unfold maxLen;omega) (by omega) SZX ?_;intro v7 w7 hown7 hg7;obtain ⟨A7,c7,rfl,hc7,hc7m⟩:=own_form hown7;have hbw7 : Bw wo w7:=Bw.row (show Bw wo _ from BWX) (by exact (HO6s.out _ _ _ _).bw BWX) hg7 (by omega);have HB7:=Lib.hid (((HBo6s.out _ _ _ _).up BWX).row (by exact (HO6s.out _ _ _ _).bw BWX) hg7 (by omega));have HO7:=Lib.hid hown7;(have q0:=(HB7.out 0 (by simp)).1;have q1:=(HB7.out 1 (by simp)).1;have q2:=(HB7.out 2 (by simp)).1;have g0:=(HB7.out 0 (by simp)).2;have g1:=(HB7.out 1 (by simp)).2;have g2:=(HB7.out 2 (by simp)).2;simp only [List.getElem_cons_zero,List.getElem_cons_succ] at q0 q1 q2);have hz7:=HB7.out.lt (by simp);clear hown7 hg7)|fail)
      go_roundw
      case rel => exact ⟨k + 1,m5 + 1,.slice A7 (m5 + 1) c7,by go_num,by omega,by rw [HM5.out,Nat.add_assoc],HB7.out.put (i:=2) (by simp) _,by rw [← Nat.add_assoc,HTS.out,HFk.out];exact own_set_below HO7.out (by omega) _,BWX⟩
      case measure => simp [intOf];omega
    ·obtain rfl : k = Cn:=by omega
     clear t0 t1 t2 t3
     go_wp2_with fail
     go_roundw
     case rel => exact ⟨r + 1,m5,.slice A5 m5 c5,by go_num,by omega,by rw [HM5.out,Nat.succ_mul],HBo4.out,by rw [Nat.succ_mul];exact HO4.out,hbwy⟩
     case measure => simp [intOf];omega
  ·obtain rfl : r = Rn:=by omega
   have HB2z:=Lib.hid (HB2.out.up hbwz)
   (have x0:=(HB2z.out 0 (by simp)).1;have x1:=(HB2z.out 1 (by simp)).1;have x2:=(HB2z.out 2 (by simp)).1;have z0:=(HB2z.out 0 (by simp)).2;have z1:=(HB2z.out 1 (by simp)).2;have z2:=(HB2z.out 2 (by simp)).2;simp only [List.getElem_cons_zero,List.getElem_cons_succ] at x0 x1 x2)
   have hz2z:=HB2z.out.lt (by simp)
   go_wp2_with fail
   refine bodyPost_ret (by simp [results,Tryz.results109,go_sem,x0,x1,x2,z0,z1,z2];rfl) rfl ?_
   refine ⟨A5,m5,c5,rfl,?_,hc5,hc5m,fun ad e => by have:=own_new HO.out ad e;have:=hbwo.size;omega,BWX⟩
   exact Rg.of_own (own_set_below (own_set_below (own_set_below HO.out (by omega) _) (by omega) _) (by omega) _)
theorem take_eq_snoc {xs ys : List C4} {k : Nat} (hx : k < xs.length) (hy : k < ys.length) (h : xs.take k = ys.take k) (e : xs[k] = ys[k]) : xs.take (k + 1) = ys.take (k + 1):=by
 rw [List.take_succ_eq_append_getElem hx,List.take_succ_eq_append_getElem hy,h,e]
theorem ne_of_get {xs ys : List C4} {k : Nat} (hx : k < xs.length) (hy : k < ys.length) (e : xs[k] ≠ ys[k]) : xs ≠ ys:=by
 intro h;subst h;exact e rfl
end Go.Proofs.YteebdjmjeahccaaGreatDoor
