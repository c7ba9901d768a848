/- Parts of the proof, one after the other. -/
import Derived.Test.YteebdjmjeahccaaGreatDoorC06
set_option linter.unusedSimpArgs false
set_option linter.unusedVariables false
set_option maxRecDepth 100000
set_option maxHeartbeats 16000000
namespace Go.Proofs.YteebdjmjeahccaaGreatDoor
open Go.RowKit
/-- The cell at a place, d if there is none. -/
def atF (Rn Cn : Nat) (cs : List C4) (r k : Int) (d : C4) : C4:=if 0 ≤ r ∧ r < Rn ∧ 0 ≤ k ∧ k < Cn then cs.getD (r.toNat * Cn + k.toNat) d else d
theorem idx_lt {Rn Cn r k : Nat} (hr : r < Rn) (hk : k < Cn) : r * Cn + k < Rn * Cn:=by
 have:=Nat.mul_le_mul_right Cn (show r + 1 ≤ Rn by omega)
 rw [Nat.add_mul] at this
 omega
theorem atF_in {Rn Cn : Nat} {cs : List C4} {r k : Nat} {d : C4} (hr : r < Rn) (hk : k < Cn) (hl : cs.length = Rn * Cn) : atF Rn Cn cs r k d = cs[r * Cn + k]'(by rw [hl];exact idx_lt hr hk):=by
 unfold atF
 rw [if_pos (by omega)]
 have h1 : r * Cn + k < cs.length:=by rw [hl];exact idx_lt hr hk
 simp [List.getD_eq_getElem?_getD,h1]
theorem atF_out {Rn Cn : Nat} {cs : List C4} {r k : Int} {d : C4} (h : ¬ (0 ≤ r ∧ r < Rn ∧ 0 ≤ k ∧ k < Cn)) : atF Rn Cn cs r k d = d:=if_neg h
theorem rat_any (Rn Cn : Nat) (A : Option Addr) (n c : Nat) (cs : List C4) (r k d1 d2 d3 d4 : Int) (w : World) (hR : Rn ≤ 30) (hC : Cn ≤ 100) (hl : n = Rn * Cn) (hr : Rg w A n cs) (hn : n ≤ c) (hc : c ≤ 9223372036854775807) :
  Calls Tryz.prog 98 #[.agg #[.int .i64 Rn,.int .i64 Cn,.slice A n c],.int .i64 r,.int .i64 k,.agg #[.int .i64 d1,.int .i64 d2,.int .i64 d3,.int .i64 d4]] w fun e w' => e = .returned (c4V (atF Rn Cn cs r k (d1,d2,d3,d4))) ∧ Bw w w':=by
 have HR:=Lib.hid hr
 have HL:=Lib.hid hl
 clear hr hl
 have hz : r < 0 ∨ (0 ≤ r ∧ (Rn : Int) ≤ r) ∨ ((0 ≤ r ∧ r < Rn) ∧ k < 0) ∨ ((0 ≤ r ∧ r < Rn) ∧ 0 ≤ k ∧ (Cn : Int) ≤ k) ∨ ((0 ≤ r ∧ r < Rn) ∧ 0 ≤ k ∧ k < Cn):=by omega
 rcases hz with h|⟨h1,h2⟩|⟨⟨h1,h2⟩,h3⟩|⟨⟨h1,h2⟩,h3,h4⟩|⟨⟨h1,h2⟩,h3,h4⟩
 iterate 4
  ·have HE:=Lib.hid (atF_out (Rn:=Rn) (Cn:=Cn) (cs:=cs) (r:=r) (k:=k) (d:=(d1,d2,d3,d4)) (by omega))
   go_enter Tryz.func98,Tryz.ntmps98
   go_wp2_with fail
   refine bodyPost_ret (by simp [results,Tryz.results98,go_sem];rfl) rfl ?_
   exact ⟨by rw [HE.out];rfl,BWX⟩
 obtain ⟨rn,rfl⟩ : ∃ rn : Nat,r = rn:=⟨r.toNat,by omega⟩
 obtain ⟨kn,rfl⟩ : ∃ kn : Nat,k = kn:=⟨k.toNat,by omega⟩
 have hi:=idx_lt (Rn:=Rn) (Cn:=Cn) (r:=rn) (k:=kn) (by omega) (by omega)
 have hic : rn * Cn + kn < cs.length:=by rw [HR.out.1,HL.out];exact hi
 obtain ⟨g,o,rfl,hx⟩:=HR.out.2 (by rw [HL.out];omega)
 have HE:=Lib.hid (atF_in (Rn:=Rn) (Cn:=Cn) (cs:=cs) (r:=rn) (k:=kn) (d:=(d1,d2,d3,d4)) (by omega) (by omega) (by rw [HR.out.1,HL.out]))
 have hce:=hx _ hic
 obtain ⟨⟨x1,x2,x3,x4⟩,hxx⟩ : ∃ x,x = cs[rn * Cn + kn]:=⟨_,rfl⟩
 have HXX:=Lib.hid hxx
 rw [← hxx] at hce
 obtain ⟨p,hp⟩ : ∃ p : Nat,rn * Cn = p:=⟨_,rfl⟩
 have hpi : (rn : Int) * (Cn : Int) = (p : Int):=by rw [← hp];simp
 have hpb : p ≤ 3000:=by rw [← hp];have:=Nat.mul_le_mul (show rn ≤ 30 by omega) hC;omega
 rw [hp] at hce
 have hpn : p + kn < n:=by rw [HL.out,← hp];exact hi
 obtain ⟨f1,f2,f3,f4⟩:=hce
 dsimp only at f1 f2 f3 f4
 have hgl:=lt_of_cell f1
 dsimp only at hgl
 clear hp hx hxx
 have e1 : (0 : Int) ≤ (p : Int) + kn:=by omega
 have e2 : (p : Int) + kn < n:=by omega
 go_enter Tryz.func98,Tryz.ntmps98
 go_wp2_with fail
 refine bodyPost_ret (by simp [results,Tryz.results98,go_sem];rfl) rfl ?_
 exact ⟨by rw [HE.out,← HXX.out];rfl,BWX⟩
theorem heap_at {w : World} {g : Nat} {o : Obj} (hg : g = w.heap.size) : (w.alloc o).heap[g]? = some o:=by subst hg;exact heap_alloc_new w o
theorem own_set4 {w : World} {base X : Nat} {e : TypeId} {s : Nat} {v : Value} {n : Nat} {xs : List Value} (h : w.ownsRow base e s v n xs) (hne : v.ownBlock ≠ some X) (a b c d : Value) : ((((w.setCell ⟨X,0,none⟩ a).setCell ⟨X,1,none⟩ b).setCell ⟨X,2,none⟩ c).setCell ⟨X,3,none⟩ d).ownsRow base e s v n xs :=
 ownsRow_setCell_other (ownsRow_setCell_other (ownsRow_setCell_other (ownsRow_setCell_other h hne a) hne b) hne c) hne d
theorem Bx.away4 {w : World} {g X : Nat} {vs : List Value} (h : Bx w g vs) (hne : g ≠ X) (a b c d : Value) : Bx ((((w.setCell ⟨X,0,none⟩ a).setCell ⟨X,1,none⟩ b).setCell ⟨X,2,none⟩ c).setCell ⟨X,3,none⟩ d) g vs :=
 (((h.away hne a).away hne b).away hne c).away hne d
/-- The first m cells of a table of rows of Cn cells. -/
def tabK (Cn m : Nat) (F : Nat → Nat → C4) : List C4:=(List.range m).map fun i => F (i / Cn) (i % Cn)
theorem tab_snoc {Cn r k : Nat} (F : Nat → Nat → C4) (hk : k < Cn) : flat (tabK Cn (r * Cn + k + 1) F) = flat (tabK Cn (r * Cn + k) F) ++ c4L (F r k):=by
 unfold tabK
 rw [List.range_succ,List.map_append,flat_app]
 have h1 : (r * Cn + k) / Cn = r:=by rw [Nat.mul_comm,Nat.mul_add_div (by omega),Nat.div_eq_of_lt hk,Nat.add_zero]
 have h2 : (r * Cn + k) % Cn = k:=by rw [Nat.mul_comm,Nat.mul_add_mod,Nat.mod_eq_of_lt hk]
 rw [List.map_cons,List.map_nil,h1,h2]
 unfold flat
 simp
theorem tabK_len (Cn m : Nat) (F : Nat → Nat → C4) : (tabK Cn m F).length = m:=by unfold tabK;simp
/-- A whole table. -/
def tab (Rn Cn : Nat) (F : Nat → Nat → C4) : List C4:=tabK Cn (Rn * Cn) F
def fillF (Rn Cn : Nat) (cs : List C4) (row fr tt : Int) (d : C4) (r k : Nat) : C4:=if (r : Int) = row ∧ fr ≤ k ∧ (k : Int) < tt then d else atF Rn Cn cs r k d
theorem rfill_go (Rn Cn : Nat) (A : Option Addr) (n c : Nat) (cs : List C4) (row fr tt d1 d2 d3 d4 : Int) (w : World) (hR1 : 1 ≤ Rn) (hR2 : Rn ≤ 30) (hC1 : 1 ≤ Cn) (hC2 : Cn ≤ 100) (hl : n = Rn * Cn) (hr : Rg w A n cs) (hn : n ≤ c) (hc : c ≤ 9223372036854775807)
  (hv : gridB Rn Cn cs = true) (hcv : cellB (d1,d2,d3,d4) = true) :
  Calls Tryz.prog 103 #[.agg #[.int .i64 Rn,.int .i64 Cn,.slice A n c],.int .i64 row,.int .i64 fr,.int .i64 tt,.agg #[.int .i64 d1,.int .i64 d2,.int .i64 d3,.int .i64 d4]] w (GrN w Rn Cn (tab Rn Cn (fillF Rn Cn cs row fr tt (d1,d2,d3,d4)))):=by
 have HR:=Lib.hid hr
 have HL:=Lib.hid hl
 have HV:=Lib.hid hv
 have HCV:=Lib.hid hcv
 have hm3 : n ≤ 3000:=by rw [hl];have:=Nat.mul_le_mul hR2 hC2;omega
 obtain ⟨j0,hj,hj0,hj1,hj2⟩:=info_parts infoC
 obtain ⟨FF,hFF⟩ : ∃ FF,FF = fillF Rn Cn cs row fr tt (d1,d2,d3,d4):=⟨_,rfl⟩
 have HFF:=Lib.hid hFF
 rw [← hFF]
 clear hr hl hv hcv hFF
 go_enter Tryz.func103,Tryz.ntmps103
 go_upto_if 22 with (first
  | (go_at_call 42;refine (rgvalid_any _ _ _ _ _ cs _ (by exact HR.out.up BWX) hn hc).mono ?_;rintro ee wv ⟨rfl,hbv⟩;rw [HV.out];have HB0:=Lib.hid (((Bx.lit (w:=w) (cs:=#[.int .i64 Rn,.int .i64 Cn,.slice A n c]) (T:=25) rfl rfl).up (show Bw _ (((w.alloc _).alloc _).alloc _) from BWX)).up hbv);have HB1:=Lib.hid (((Bx.lit (w:=w.alloc (.cells #[.int .i64 Rn,.int .i64 Cn,.slice A n c] 25)) (g:=w.heap.size + 1) (cs:=#[.int .i64 d1,.int .i64 d2,.int .i64 d3,.int .i64 d4]) (T:=70) SZX rfl).up (show Bw _ (((w.alloc _).alloc _).alloc _) from BWX)).up hbv);have HB2:=Lib.hid ((Bx.lit (w:=(w.alloc (.cells #[.int .i64 Rn,.int .i64 Cn,.slice A n c] 25)).alloc (.cells #[.int .i64 d1,.int .i64 d2,.int .i64 d3,.int .i64 d4] 70)) (g:=w.heap.size + 1 + 1) (cs:=#[.int .i64 0,.int .i64 0,.slice none 0 0]) (T:=25) SZX rfl).up hbv);have hbw0 : Bw w wv:=Bw.trans (show Bw w _ from BWX) hbv;(have x0:=(HB0.out 0 (by simp)).1;have x1:=(HB0.out 1 (by simp)).1;have x2:=(HB0.out 2 (by simp)).1;simp only [List.getElem_cons_zero,List.getElem_cons_succ] at x0 x1 x2);(have y0:=(HB1.out 0 (by simp)).1;have y1:=(HB1.out 1 (by simp)).1;have y2:=(HB1.out 2 (by simp)).1;have y3:=(HB1.out 3 (by simp)).1;simp only [List.getElem_cons_zero,List.getElem_cons_succ] at y0 y1 y2 y3);clear hbv)
  | (go_at_call 66;refine (rcell_any d1 d2 d3 d4 _).mono ?_;rintro ee wu ⟨rfl,hbc⟩;rw [HCV.out];have HC0:=Lib.hid (HB0.out.up hbc);have HC1:=Lib.hid (HB1.out.up hbc);have HC2:=Lib.hid (HB2.out.up hbc);have hbw1 : Bw w wu:=Bw.trans hbw0 hbc;clear hbc x0 x1 x2 y0 y1 y2 y3;(have x0:=(HC0.out 0 (by simp)).1;have x1:=(HC0.out 1 (by simp)).1;have x2:=(HC0.out 2 (by simp)).1;simp only [List.getElem_cons_zero,List.getElem_cons_succ] at x0 x1 x2);(have y0:=(HC1.out 0 (by simp)).1;have y1:=(HC1.out 1 (by simp)).1;have y2:=(HC1.out 2 (by simp)).1;have y3:=(HC1.out 3 (by simp)).1;simp only [List.getElem_cons_zero,List.getElem_cons_succ] at y0 y1 y2 y3))
  | fail)
 go_cut [] (fun w' => wu = w')
 case first =>
  go_wp2_with fail
  go_meet
  case rel => exact rfl
 case rest =>
 obtain rfl:=hcut
 clear HB0 HB1 HB2 hbw0
 obtain ⟨wo,hwo⟩ : ∃ wo : World,wo = wu:=⟨_,rfl⟩
 subst hwo
 have HB0:=HC0
 have HB1:=HC1
 have HB2:=HC2
 have hz2:=HB2.out.lt (by simp)
 have hbwo:=hbw1
 clear HC0 HC1 HC2 hbw1
 go_wp2_with fail
 clear x0 x1 x2 y0 y1 y2 y3
 go_loopw [12] (fun i wr => ∃ (r m5 : Nat) (v : Value),i = .int .i64 r ∧ r ≤ Rn ∧ m5 = r * Cn ∧ Bx wr wo.heap.size [.int .i64 Rn,.int .i64 Cn,v] ∧ wr.ownsRow (wo.heap.size + 1) 70 4 v m5 (flat (tabK Cn (r * Cn) FF)) ∧ Bw wo wr) (fun i _ => Rn - (intOf i).toNat)
 case atStart => exact ⟨0,0,.slice none 0 0,rfl,by omega,by omega,Bx.lit rfl rfl,by rw [Nat.zero_mul];exact World.ownsRow_nil _ _ _ _,BWX⟩
 case round =>
  obtain ⟨wz,hwz⟩ : ∃ wz : World,wz = wr:=⟨_,rfl⟩
  subst hwz
  obtain ⟨r,m5,v,rfl,hr,hm5,hBo,hown,hbwz⟩:=hrel
  obtain ⟨A5,c5,rfl,hc5,hc5m⟩:=own_form hown
  have HO:=Lib.hid hown
  have HBo:=Lib.hid hBo
  have HM5:=Lib.hid hm5
  have HB0z:=Lib.hid (HB0.out.up hbwz)
  have hz0z:=HB0z.out.lt (by simp)
  have hzoz:=hBo.lt (by simp)
  (have s0:=(HB0z.out 0 (by simp)).1;have s1:=(HB0z.out 1 (by simp)).1;have s2:=(HB0z.out 2 (by simp)).1;simp only [List.getElem_cons_zero,List.getElem_cons_succ] at s0 s1 s2)
  (have u0:=(HBo.out 0 (by simp)).1;have u1:=(HBo.out 1 (by simp)).1;have u2:=(HBo.out 2 (by simp)).1;have uf0:=(HBo.out 0 (by simp)).2;have uf1:=(HBo.out 1 (by simp)).2;have uf2:=(HBo.out 2 (by simp)).2;simp only [List.getElem_cons_zero,List.getElem_cons_succ] at u0 u1 u2)
  clear hown hBo hm5
  by_cases hlt : r < Rn
  ·go_wp2_with fail
   clear s0 s1 s2 u0 u1 u2 uf0 uf1 uf2
   go_loopw [13] (fun i wr => ∃ (k m5 : Nat) (v : Value),i = .int .i64 k ∧ k ≤ Cn ∧ m5 = r * Cn + k ∧ Bx wr wo.heap.size [.int .i64 Rn,.int .i64 Cn,v] ∧ wr.ownsRow (wo.heap.size + 1) 70 4 v m5 (flat (tabK Cn (r * Cn + k) FF)) ∧ Bw wo wr) (fun i _ => Cn - (intOf i).toNat)
   case atStart => exact ⟨0,m5,.slice A5 m5 c5,rfl,by omega,HM5.out,HBo.out,HO.out,hbwz⟩
   case round =>
    clear HO HBo HM5 HB0z hc5 hc5m hbwz hz0z hzoz
    obtain ⟨wy,hwy⟩ : ∃ wy : World,wy = wr:=⟨_,rfl⟩
    subst hwy
    obtain ⟨k,m5,v,rfl,hk,hm5,hBo,hown,hbwy⟩:=hrel
    obtain ⟨A5,c5,rfl,hc5,hc5m⟩:=own_form hown
    have HO4:=Lib.hid hown
    have HBo4:=Lib.hid hBo
    have HB0y:=Lib.hid (HB0.out.up hbwy)
    have HB1y:=Lib.hid (HB1.out.up hbwy)
    have HM5:=Lib.hid hm5
    have hzoy:=hBo.lt (by simp)
    have hz0y:=HB1y.out.lt (by simp)
    clear hown hBo
    (have s0:=(HB0y.out 0 (by simp)).1;have s1:=(HB0y.out 1 (by simp)).1;have s2:=(HB0y.out 2 (by simp)).1;simp only [List.getElem_cons_zero,List.getElem_cons_succ] at s0 s1 s2)
    (have t0:=(HB1y.out 0 (by simp)).1;have t1:=(HB1y.out 1 (by simp)).1;have t2:=(HB1y.out 2 (by simp)).1;have t3:=(HB1y.out 3 (by simp)).1;simp only [List.getElem_cons_zero,List.getElem_cons_succ] at t0 t1 t2 t3)
    (have u0:=(HBo4.out 0 (by simp)).1;have u1:=(HBo4.out 1 (by simp)).1;have u2:=(HBo4.out 2 (by simp)).1;have uf0:=(HBo4.out 0 (by simp)).2;have uf1:=(HBo4.out 1 (by simp)).2;have uf2:=(HBo4.out 2 (by simp)).2;simp only [List.getElem_cons_zero,List.getElem_cons_succ] at u0 u1 u2)
    by_cases hlk : k < Cn
    ·have hm5b : m5 < 3000:=by have:=idx_lt hlt hlk;rw [← HL.out] at this;omega
     obtain ⟨⟨x1,x2,x3,x4⟩,hx⟩ : ∃ x,atF Rn Cn cs r k (d1,d2,d3,d4) = x:=⟨_,rfl⟩
     have HX:=Lib.hid hx
     have HTS:=Lib.hid (tab_snoc (r:=r) FF hlk)
     clear hx hm5
     have hw : (¬ (r : Int) = row) ∨ ((r : Int) = row ∧ (k : Int) < fr) ∨ ((r : Int) = row ∧ fr ≤ (k : Int) ∧ tt ≤ (k : Int)) ∨ ((r : Int) = row ∧ fr ≤ (k : Int) ∧ (k : Int) < tt):=by omega
     rcases hw with h|⟨h,h2⟩|⟨h,h2,h3⟩|⟨h,h2,h3⟩
     ·have hq1 : ((r : Int) == row) = false:=by simpa using h
      have HFk:=Lib.hid (show FF r k = (x1,x2,x3,x4) by rw [HFF.out];unfold fillF;rw [if_neg (fun hh => h hh.1)];exact HX.out)
      clear h
      go_wp2_with (first|(go_at_call 98;refine (rat_any Rn Cn A n c cs r k d1 d2 d3 d4 _ hR2 hC2 HL.out (by exact HR.out.up BWX) hn hc).mono ?_;rintro ee wa ⟨rfl,hba⟩;rw [HX.out];dsimp only [c4V];have hbwa : Bw wo wa:=Bw.trans (show Bw wo _ from BWX) hba;have HB0a:=Lib.hid (HB0.out.up hbwa);have HB1a:=Lib.hid (HB1.out.up hbwa);have HBo5:=Lib.hid (HBo4.out.up hba);have HO5:=Lib.hid (HO4.out.bw hba);clear s0 s1 s2 t0 t1 t2 t3 u0 u1 u2 uf0 uf1 uf2;(have s0:=(HB0a.out 0 (by simp)).1;have s1:=(HB0a.out 1 (by simp)).1;have s2:=(HB0a.out 2 (by simp)).1;simp only [List.getElem_cons_zero,List.getElem_cons_succ] at s0 s1 s2);(have t0:=(HB1a.out 0 (by simp)).1;have t1:=(HB1a.out 1 (by simp)).1;have t2:=(HB1a.out 2 (by simp)).1;have t3:=(HB1a.out 3 (by simp)).1;simp only [List.getElem_cons_zero,List.getElem_cons_succ] at t0 t1 t2 t3);(have u0:=(HBo5.out 0 (by simp)).1;have u1:=(HBo5.out 1 (by simp)).1;have u2:=(HBo5.out 2 (by simp)).1;have uf0:=(HBo5.out 0 (by simp)).2;have uf1:=(HBo5.out 1 (by simp)).2;have uf2:=(HBo5.out 2 (by simp)).2;simp only [List.getElem_cons_zero,List.getElem_cons_succ] at u0 u1 u2);have hza:=HBo5.out.lt (by simp);have hzb:=HB1a.out.lt (by simp);have hzc:=HB0a.out.lt (by simp);have hzz:=hza;clear hba)|(at_builtin;refine wpList_append_srcG (by rfl) (.tmp 58) (.tmp 60) 23 rfl (wo.heap.size + 1) 70 j0 (.agg #[.int .i64 0,.int .i64 0,.int .i64 0,.int .i64 0]) 4 32 Tryz.underlying23 hj hj0 hj1 hj2 rfl (by decide) (.slice A5 m5 c5) m5 _ (by rfl) (by exact HO5.out.bw BWX) (some ⟨_,0,none⟩) 1 1 (c4L (x1,x2,x3,x4)) (by rfl) rfl (fun e => by cases e) (fun ad e => by cases e;exact news4 (heap_at SZX) rfl) (c4_one _) (by unfold maxLen;omega) (by omega) SZX ?_;intro v7 w7 hown7 hg7;obtain ⟨A7,c7,rfl,hc7,hc7m⟩:=own_form hown7;have hbw7 : Bw wo w7:=Bw.row (show Bw wo _ from BWX) (by exact HO5.out.bw BWX) hg7 (by omega);have HB7:=Lib.hid ((HBo5.out.up BWX).row (by exact HO5.out.bw BWX) hg7 (by omega));have HO7:=Lib.hid hown7;(have q0:=(HB7.out 0 (by simp)).1;have q1:=(HB7.out 1 (by simp)).1;have q2:=(HB7.out 2 (by simp)).1;have g0:=(HB7.out 0 (by simp)).2;have g1:=(HB7.out 1 (by simp)).2;have g2:=(HB7.out 2 (by simp)).2;simp only [List.getElem_cons_zero,List.getElem_cons_succ] at q0 q1 q2);have hz7:=HB7.out.lt (by simp);clear hown7 hg7)|fail)
      go_roundw
      case rel => exact ⟨k + 1,m5 + 1,.slice A7 (m5 + 1) c7,by go_num,by omega,by rw [HM5.out,Nat.add_assoc],HB7.out.put (i:=2) (by simp) _,by rw [← Nat.add_assoc,HTS.out,HFk.out];exact own_set_below HO7.out (by omega) _,BWX⟩
      case measure => simp [intOf];omega
     ·have hq1 : ((r : Int) == row) = true:=by simpa using h
      have HFk:=Lib.hid (show FF r k = (x1,x2,x3,x4) by rw [HFF.out];unfold fillF;rw [if_neg (by omega)];exact HX.out)
      clear h
      go_wp2_with (first|(go_at_call 98;refine (rat_any Rn Cn A n c cs r k d1 d2 d3 d4 _ hR2 hC2 HL.out (by exact HR.out.up BWX) hn hc).mono ?_;rintro ee wa ⟨rfl,hba⟩;rw [HX.out];dsimp only [c4V];have hbwa : Bw wo wa:=Bw.trans (show Bw wo _ from BWX) hba;have HB0a:=Lib.hid (HB0.out.up hbwa);have HB1a:=Lib.hid (HB1.out.up hbwa);have HBo5:=Lib.hid (HBo4.out.up hba);have HO5:=Lib.hid (HO4.out.bw hba);clear s0 s1 s2 t0 t1 t2 t3 u0 u1 u2 uf0 uf1 uf2;(have s0:=(HB0a.out 0 (by simp)).1;have s1:=(HB0a.out 1 (by simp)).1;have s2:=(HB0a.out 2 (by simp)).1;simp only [List.getElem_cons_zero,List.getElem_cons_succ] at s0 s1 s2);(have t0:=(HB1a.out 0 (by simp)).1;have t1:=(HB1a.out 1 (by simp)).1;have t2:=(HB1a.out 2 (by simp)).1;have t3:=(HB1a.out 3 (by simp)).1;simp only [List.getElem_cons_zero,List.getElem_cons_succ] at t0 t1 t2 t3);(have u0:=(HBo5.out 0 (by simp)).1;have u1:=(HBo5.out 1 (by simp)).1;have u2:=(HBo5.out 2 (by simp)).1;have uf0:=(HBo5.out 0 (by simp)).2;have uf1:=(HBo5.out 1 (by simp)).2;have uf2:=(HBo5.out 2 (by simp)).2;simp only [List.getElem_cons_zero,List.getElem_cons_succ] at u0 u1 u2);have hza:=HBo5.out.lt (by simp);have hzb:=HB1a.out.lt (by simp);have hzc:=HB0a.out.lt (by simp);have hzz:=hza;clear hba)|(at_builtin;refine wpList_append_srcG (by rfl) (.tmp 58) (.tmp 60) 23 rfl (wo.heap.size + 1) 70 j0 (.agg #[.int .i64 0,.int .i64 0,.int .i64 0,.int .i64 0]) 4 32 Tryz.underlying23 hj hj0 hj1 hj2 rfl (by decide) (.slice A5 m5 c5) m5 _ (by rfl) (by exact HO5.out.bw BWX) (some ⟨_,0,none⟩) 1 1 (c4L (x1,x2,x3,x4)) (by rfl) rfl (fun e => by cases e) (fun ad e => by cases e;exact news4 (heap_at SZX) rfl) (c4_one _) (by unfold maxLen;omega) (by omega) SZX ?_;intro v7 w7 hown7 hg7;obtain ⟨A7,c7,rfl,hc7,hc7m⟩:=own_form hown7;have hbw7 : Bw wo w7:=Bw.row (show Bw wo _ from BWX) (by exact HO5.out.bw BWX) hg7 (by omega);have HB7:=Lib.hid ((HBo5.out.up BWX).row (by exact HO5.out.bw BWX) hg7 (by omega));have HO7:=Lib.hid hown7;(have q0:=(HB7.out 0 (by simp)).1;have q1:=(HB7.out 1 (by simp)).1;have q2:=(HB7.out 2 (by simp)).1;have g0:=(HB7.out 0 (by simp)).2;have g1:=(HB7.out 1 (by simp)).2;have g2:=(HB7.out 2 (by simp)).2;simp only [List.getElem_cons_zero,List.getElem_cons_succ] at q0 q1 q2);have hz7:=HB7.out.lt (by simp);clear hown7 hg7)|fail)
      go_roundw
      case rel => exact ⟨k + 1,m5 + 1,.slice A7 (m5 + 1) c7,by go_num,by omega,by rw [HM5.out,Nat.add_assoc],HB7.out.put (i:=2) (by simp) _,by rw [← Nat.add_assoc,HTS.out,HFk.out];exact own_set_below HO7.out (by omega) _,BWX⟩
      case measure => simp [intOf];omega
     ·have hq1 : ((r : Int) == row) = true:=by simpa using h
      have HFk:=Lib.hid (show FF r k = (x1,x2,x3,x4) by rw [HFF.out];unfold fillF;rw [if_neg (by omega)];exact HX.out)
      clear h
      go_wp2_with (first|(go_at_call 98;refine (rat_any Rn Cn A n c cs r k d1 d2 d3 d4 _ hR2 hC2 HL.out (by exact HR.out.up BWX) hn hc).mono ?_;rintro ee wa ⟨rfl,hba⟩;rw [HX.out];dsimp only [c4V];have hbwa : Bw wo wa:=Bw.trans (show Bw wo _ from BWX) hba;have HB0a:=Lib.hid (HB0.out.up hbwa);have HB1a:=Lib.hid (HB1.out.up hbwa);have HBo5:=Lib.hid (HBo4.out.up hba);have HO5:=Lib.hid (HO4.out.bw hba);clear s0 s1 s2 t0 t1 t2 t3 u0 u1 u2 uf0 uf1 uf2;(have s0:=(HB0a.out 0 (by simp)).1;have s1:=(HB0a.out 1 (by simp)).1;have s2:=(HB0a.out 2 (by simp)).1;simp only [List.getElem_cons_zero,List.getElem_cons_succ] at s0 s1 s2);(have t0:=(HB1a.out 0 (by simp)).1;have t1:=(HB1a.out 1 (by simp)).1;have t2:=(HB1a.out 2 (by simp)).1;have t3:=(HB1a.out 3 (by simp)).1;simp only [List.getElem_cons_zero,List.getElem_cons_succ] at t0 t1 t2 t3);(have u0:=(HBo5.out 0 (by simp)).1;have u1:=(HBo5.out 1 (by simp)).1;have u2:=(HBo5.out 2 (by simp)).1;have uf0:=(HBo5.out 0 (by simp)).2;have uf1:=(HBo5.out 1 (by simp)).2;have uf2:=(HBo5.out 2 (by simp)).2;simp only [List.getElem_cons_zero,List.getElem_cons_succ] at u0 u1 u2);have hza:=HBo5.out.lt (by simp);have hzb:=HB1a.out.lt (by simp);have hzc:=HB0a.out.lt (by simp);have hzz:=hza;clear hba)|(at_builtin;refine wpList_append_srcG (by rfl) (.tmp 58) (.tmp 60) 23 rfl (wo.heap.size + 1) 70 j0 (.agg #[.int .i64 0,.int .i64 0,.int .i64 0,.int .i64 0]) 4 32 Tryz.underlying23 hj hj0 hj1 hj2 rfl (by decide) (.slice A5 m5 c5) m5 _ (by rfl) (by exact HO5.out.bw BWX) (some ⟨_,0,none⟩) 1 1 (c4L (x1,x2,x3,x4)) (by rfl) rfl (fun e => by cases e) (fun ad e => by cases e;exact news4 (heap_at SZX) rfl) (c4_one _) (by unfold maxLen;omega) (by omega) SZX ?_;intro v7 w7 hown7 hg7;obtain ⟨A7,c7,rfl,hc7,hc7m⟩:=own_form hown7;have hbw7 : Bw wo w7:=Bw.row (show Bw wo _ from BWX) (by exact HO5.out.bw BWX) hg7 (by omega);have HB7:=Lib.hid ((HBo5.out.up BWX).row (by exact HO5.out.bw BWX) hg7 (by omega));have HO7:=Lib.hid hown7;(have q0:=(HB7.out 0 (by simp)).1;have q1:=(HB7.out 1 (by simp)).1;have q2:=(HB7.out 2 (by simp)).1;have g0:=(HB7.out 0 (by simp)).2;have g1:=(HB7.out 1 (by simp)).2;have g2:=(HB7.out 2 (by simp)).2;simp only [List.getElem_cons_zero,List.getElem_cons_succ] at q0 q1 q2);have hz7:=HB7.out.lt (by simp);clear hown7 hg7)|fail)
      go_roundw
      case rel => exact ⟨k + 1,m5 + 1,.slice A7 (m5 + 1) c7,by go_num,by omega,by rw [HM5.out,Nat.add_assoc],HB7.out.put (i:=2) (by simp) _,by rw [← Nat.add_assoc,HTS.out,HFk.out];exact own_set_below HO7.out (by omega) _,BWX⟩
      case measure => simp [intOf];omega
     ·have hq1 : ((r : Int) == row) = true:=by simpa using h
      have HFk:=Lib.hid (show FF r k = (d1,d2,d3,d4) by rw [HFF.out];unfold fillF;rw [if_pos ⟨h,h2,h3⟩])
      clear h
      go_wp2_with (first|(go_at_call 98;refine (rat_any Rn Cn A n c cs r k d1 d2 d3 d4 _ hR2 hC2 HL.out (by exact HR.out.up BWX) hn hc).mono ?_;rintro ee wa ⟨rfl,hba⟩;rw [HX.out];dsimp only [c4V];have hbwa : Bw wo wa:=Bw.trans (show Bw wo _ from BWX) hba;have HB0a:=Lib.hid (HB0.out.up hbwa);have HB1a:=Lib.hid (HB1.out.up hbwa);have HBo5:=Lib.hid (HBo4.out.up hba);have HO5:=Lib.hid (HO4.out.bw hba);clear s0 s1 s2 t0 t1 t2 t3 u0 u1 u2 uf0 uf1 uf2;(have s0:=(HB0a.out 0 (by simp)).1;have s1:=(HB0a.out 1 (by simp)).1;have s2:=(HB0a.out 2 (by simp)).1;simp only [List.getElem_cons_zero,List.getElem_cons_succ] at s0 s1 s2);(have t0:=(HB1a.out 0 (by simp)).1;have t1:=(HB1a.out 1 (by simp)).1;have t2:=(HB1a.out 2 (by simp)).1;have t3:=(HB1a.out 3 (by simp)).1;simp only [List.getElem_cons_zero,List.getElem_cons_succ] at t0 t1 t2 t3);(have u0:=(HBo5.out 0 (by simp)).1;have u1:=(HBo5.out 1 (by simp)).1;have u2:=(HBo5.out 2 (by simp)).1;have uf0:=(HBo5.out 0 (by simp)).2;have uf1:=(HBo5.out 1 (by simp)).2;have uf2:=(HBo5.out 2 (by simp)).2;simp only [List.getElem_cons_zero,List.getElem_cons_succ] at u0 u1 u2);have hza:=HBo5.out.lt (by simp);have hzb:=HB1a.out.lt (by simp);have hzc:=HB0a.out.lt (by simp);have hzz:=hza;clear hba)|(at_builtin;refine wpList_append_srcG (by rfl) (.tmp 58) (.tmp 60) 23 rfl (wo.heap.size + 1) 70 j0 (.agg #[.int .i64 0,.int .i64 0,.int .i64 0,.int .i64 0]) 4 32 Tryz.underlying23 hj hj0 hj1 hj2 rfl (by decide) (.slice A5 m5 c5) m5 _ (by rfl) (by exact HO5.out.bw BWX) (some ⟨_,0,none⟩) 1 1 (c4L (d1,d2,d3,d4)) (by rfl) rfl (fun e => by cases e) (fun ad e => by cases e;exact news4 (heap_at SZX) rfl) (c4_one _) (by unfold maxLen;omega) (by omega) SZX ?_;intro v7 w7 hown7 hg7;obtain ⟨A7,c7,rfl,hc7,hc7m⟩:=own_form hown7;have hbw7 : Bw wo w7:=Bw.row (show Bw wo _ from BWX) (by exact HO5.out.bw BWX) hg7 (by omega);have HB7:=Lib.hid ((HBo5.out.up BWX).row (by exact HO5.out.bw BWX) hg7 (by omega));have HO7:=Lib.hid hown7;(have q0:=(HB7.out 0 (by simp)).1;have q1:=(HB7.out 1 (by simp)).1;have q2:=(HB7.out 2 (by simp)).1;have g0:=(HB7.out 0 (by simp)).2;have g1:=(HB7.out 1 (by simp)).2;have g2:=(HB7.out 2 (by simp)).2;simp only [List.getElem_cons_zero,List.getElem_cons_succ] at q0 q1 q2);have hz7:=HB7.out.lt (by simp);clear hown7 hg7)|fail)
      go_roundw
      case rel => exact ⟨k + 1,m5 + 1,.slice A7 (m5 + 1) c7,by go_num,by omega,by rw [HM5.out,Nat.add_assoc],HB7.out.put (i:=2) (by simp) _,by rw [← Nat.add_assoc,HTS.out,HFk.out];exact own_set_below HO7.out (by omega) _,BWX⟩
      case measure => simp [intOf];omega
    ·obtain rfl : k = Cn:=by omega
     clear t0 t1 t2 t3
     go_wp2_with fail
     go_roundw
     case rel => exact ⟨r + 1,m5,.slice A5 m5 c5,by go_num,by omega,by rw [HM5.out,Nat.succ_mul],HBo4.out,by rw [Nat.succ_mul];exact HO4.out,hbwy⟩
     case measure => simp [intOf];omega
  ·obtain rfl : r = Rn:=by omega
   have HB2z:=Lib.hid (HB2.out.up hbwz)
   (have x0:=(HB2z.out 0 (by simp)).1;have x1:=(HB2z.out 1 (by simp)).1;have x2:=(HB2z.out 2 (by simp)).1;have z0:=(HB2z.out 0 (by simp)).2;have z1:=(HB2z.out 1 (by simp)).2;have z2:=(HB2z.out 2 (by simp)).2;simp only [List.getElem_cons_zero,List.getElem_cons_succ] at x0 x1 x2)
   have hz2z:=HB2z.out.lt (by simp)
   go_wp2_with fail
   refine bodyPost_ret (by simp [results,Tryz.results103,go_sem,x0,x1,x2,z0,z1,z2];rfl) rfl ?_
   refine ⟨A5,m5,c5,rfl,?_,hc5,hc5m,fun ad e => by have:=own_new HO.out ad e;have:=hbwo.size;omega,BWX⟩
   exact Rg.of_own (own_set_below (own_set_below (own_set_below HO.out (by omega) _) (by omega) _) (by omega) _)
/-- Block g is a row: the cells cs, and behind them spare room. -/
def Wc (w : World) (g : Nat) (cs : List C4) (sp : List Value) : Prop:=w.heap[g]? = some (.cells (flat cs ++ sp).toArray 70 (0,0))
theorem Wc.lt {w : World} {g : Nat} {cs : List C4} {sp : List Value} (h : Wc w g cs sp) : g < w.heap.size:=lt_of_block h
theorem Wc.up {w w' : World} {g : Nat} {cs : List C4} {sp : List Value} (h : Wc w g cs sp) (hb : Bw w w') : Wc w' g cs sp:=(hb.block g h.lt).trans h
theorem Wc.away {w : World} {g h j : Nat} {cs : List C4} {sp : List Value} (hW : Wc w g cs sp) (hne : g ≠ h) (v : Value) : Wc (w.setCell ⟨h,j,none⟩ v) g cs sp:=(Below.heap_setCell _ _ _ _ hne).trans hW
theorem Wc.cells {w : World} {g : Nat} {cs : List C4} {sp : List Value} (h : Wc w g cs sp) (k : Nat) (hk : k < cs.length) : Ce w g (k * 4) cs[k]:=by
 have key : ∀ j,(hj : j < 4) → w.cell? ⟨g,k * 4 + j,none⟩ = (c4L cs[k])[j]?:=fun j hj => by
  rw [← flat_get cs k j hk hj,← List.getElem?_append_left (l₂:=sp) (by rw [flat_len];omega)]
  simp [World.cell?,show w.heap[g]? = _ from h]
 exact ⟨key 0 (by omega),key 1 (by omega),key 2 (by omega),key 3 (by omega)⟩
theorem Wc.free {w : World} {g : Nat} {cs : List C4} {sp : List Value} (h : Wc w g cs sp) (i : Nat) : w.frozen? ⟨g,i,none⟩ = false:=by
 simp [World.frozen?,show w.heap[g]? = _ from h]
theorem Wc.store {w : World} {g : Nat} {cs : List C4} {sp : List Value} (h : Wc w g cs sp) (k : Nat) (hk : k < cs.length) (c : C4) :
  Wc ((((w.setCell ⟨g,k * 4,none⟩ (.int .i64 c.1)).setCell ⟨g,k * 4 + 1,none⟩ (.int .i64 c.2.1)).setCell ⟨g,k * 4 + 2,none⟩ (.int .i64 c.2.2.1)).setCell ⟨g,k * 4 + 3,none⟩ (.int .i64 c.2.2.2)) g (cs.set k c) sp:=by
 unfold Wc
 have e : flat (cs.set k c) ++ sp = ((((flat cs ++ sp).set (k * 4) (.int .i64 c.1)).set (k * 4 + 1) (.int .i64 c.2.1)).set (k * 4 + 2) (.int .i64 c.2.2.1)).set (k * 4 + 3) (.int .i64 c.2.2.2):=by
  rw [← flat_set cs k c hk]
  rw [List.set_append_left _ _ (by rw [flat_len];omega),List.set_append_left _ _ (by rw [List.length_set,flat_len];omega),List.set_append_left _ _ (by rw [List.length_set,List.length_set,flat_len];omega),List.set_append_left _ _ (by rw [List.length_set,List.length_set,List.length_set,flat_len];omega)]
 rw [e]
 exact block_set (block_set (block_set (block_set h _) _) _) _
theorem Wc.of_own {w : World} {base n c : Nat} {A : Option Addr} {cs : List C4} (h : w.ownsRow base 70 4 (.slice A n c) n (flat cs)) (h0 : 0 < n) : ∃ g sp,A = some ⟨g,0,none⟩ ∧ base ≤ g ∧ Wc w g cs sp:=by
 have hl:=h.1
 rcases h.2 with ⟨e1,h1⟩|⟨g',cap,cur,e1,hb,hh,hnc,hm,hs,htake⟩
 ·omega
 ·cases e1
  refine ⟨g',cur.toList.drop (n * 4),rfl,hb,?_⟩
  unfold Wc
  rw [hh,← htake,List.take_append_drop]
theorem Rg.news {w : World} {ad : Addr} {n : Nat} {cs : List C4} (h : Rg w (some ad) n cs) : ∀ j u,(flat cs)[j]? = some u → w.cell? (ad.add j) = some u:=by
 intro j u hj
 have hlt : j < (flat cs).length:=by
  rcases Nat.lt_or_ge j (flat cs).length with h|h
  ·exact h
  ·rw [List.getElem?_eq_none h] at hj;cases hj
 rw [flat_len] at hlt
 obtain ⟨g,o,e,hx⟩:=h.2 (by have:=h.1;omega)
 cases e
 have hk : j / 4 < cs.length:=by omega
 have hc:=hx (j / 4) hk
 have e : j = (j / 4) * 4 + j % 4:=by omega
 have h3:=flat_get cs (j / 4) (j % 4) hk (by omega)
 rw [← e,hj] at h3
 rw [Addr.add_mid]
 have h4 : j % 4 = 0 ∨ j % 4 = 1 ∨ j % 4 = 2 ∨ j % 4 = 3:=by omega
 obtain ⟨c1,c2,c3,c4⟩:=hc
 rcases h4 with h4|h4|h4|h4 <;> rw [h4] at h3
 ·rw [show o + j = o + j / 4 * 4 by omega,c1];exact h3.symm
 ·rw [show o + j = o + j / 4 * 4 + 1 by omega,c2];exact h3.symm
 ·rw [show o + j = o + j / 4 * 4 + 2 by omega,c3];exact h3.symm
 ·rw [show o + j = o + j / 4 * 4 + 3 by omega,c4];exact h3.symm
theorem Rg.sub {w : World} {g o n : Nat} {cs : List C4} (h : Rg w (some ⟨g,o,none⟩) n cs) (p m : Nat) (hp : p + m ≤ n) : Rg w (some ⟨g,o + p * 4,none⟩) m ((cs.drop p).take m):=by
 have hl:=h.1
 refine ⟨by simp;omega,fun h0 => ?_⟩
 obtain ⟨g',o',e,hx⟩:=h.2 (by omega)
 cases e
 refine ⟨_,_,rfl,fun i hi => ?_⟩
 have:=hx (p + i) (by simp at hi;omega)
 rw [show o + p * 4 + i * 4 = o + (p + i) * 4 by omega]
 simpa using this
/-- The call returns the list of cells cs, in new memory. -/
def RwP (w : World) (cs : List C4) (e : Ending) (w' : World) : Prop :=
 ∃ A n c,e = .returned (.slice A n c) ∧ Rg w' A n cs ∧ n ≤ c ∧ c ≤ 9223372036854775807 ∧ (∀ ad,A = some ad → w.heap.size ≤ ad.block) ∧ Bw w w'
def rowF (R C : Int) (cs : List C4) (row : Int) : List C4:=if 0 ≤ row ∧ row < R ∧ 1 ≤ C ∧ row < (cs.length : Int) / C then (cs.drop (row * C).toNat).take C.toNat else []
theorem rrow_any (R C : Int) (A : Option Addr) (n c : Nat) (cs : List C4) (row : Int) (w : World) (hr : Rg w A n cs) (hn : n ≤ c) (hn3 : n ≤ 4398046511103) (hc : c ≤ 9223372036854775807) :
  Calls Tryz.prog 37 #[.agg #[.int .i64 R,.int .i64 C,.slice A n c],.int .i64 row] w (RwP w (rowF R C cs row)):=by
 have HR:=Lib.hid hr
 clear hr
 obtain ⟨q,hq⟩ : ∃ q,(n : Int) / C = q:=⟨_,rfl⟩
 have hz : row < 0 ∨ (0 ≤ row ∧ R ≤ row) ∨ ((0 ≤ row ∧ row < R) ∧ C < 1) ∨ ((0 ≤ row ∧ row < R) ∧ 1 ≤ C ∧ q ≤ row) ∨ ((0 ≤ row ∧ row < R) ∧ 1 ≤ C ∧ row < q):=by omega
 have hqb : 1 ≤ C → 0 ≤ q ∧ q ≤ n:=fun h => by rw [← hq];exact ⟨Int.ediv_nonneg (by omega) (by omega),Int.ediv_le_self _ (by omega)⟩
 rcases hz with h|⟨h1,h2⟩|⟨⟨h1,h2⟩,h3⟩|⟨⟨h1,h2⟩,h3,h4⟩|⟨⟨h1,h2⟩,h3,h4⟩
 iterate 4
  ·have HE:=Lib.hid (show rowF R C cs row = [] from if_neg (by rw [HR.out.1,hq];omega))
   (try have hqq:=hqb h3;obtain ⟨hq0,hq1⟩:=hqq)
   clear hqb
   go_enter Tryz.func37,Tryz.ntmps37
   go_wp2_with fail
   go_ret
   exact ⟨none,0,0,rfl,by rw [HE.out];exact Rg.nil_ _ _,by omega,by omega,(fun ad e => by cases e),BWX⟩
 obtain ⟨hq0,hq1⟩:=hqb h3
 clear hqb
 obtain ⟨Cn,rfl⟩ : ∃ Cn : Nat,C = Cn:=⟨C.toNat,by omega⟩
 have hm : (row + 1) * (Cn : Int) ≤ n:=(Int.le_ediv_iff_mul_le (by omega)).1 (by rw [hq];omega)
 obtain ⟨p,hp⟩ : ∃ p : Nat,row * (Cn : Int) = p:=⟨(row * (Cn : Int)).toNat,by have:=Int.mul_nonneg h1 (show (0 : Int) ≤ Cn by omega);omega⟩
 have hp2 : (row + 1) * (Cn : Int) = ((p + Cn : Nat) : Int):=by rw [Int.add_mul,hp];omega
 have hpn : p + Cn ≤ n:=by rw [hp2] at hm;omega
 have HE:=Lib.hid (show rowF R (Cn : Int) cs row = (cs.drop p).take Cn by unfold rowF;rw [if_pos (by rw [HR.out.1,hq];omega),hp];rfl)
 obtain ⟨j0,hj,hj0,hj1,hj2⟩:=info_parts infoC
 obtain ⟨g,o,rfl,hx⟩:=HR.out.2 (by omega)
 have HS:=Lib.hid (HR.out.sub p Cn hpn)
 have hC1 : 1 ≤ Cn:=by omega
 have hpc : p < c:=by omega
 have hb1 : (0 : Int) ≤ (p : Int):=by omega
 have hb2 : ((p : Nat) : Int) ≤ ((p + Cn : Nat) : Int):=by omega
 have hb3 : ((p + Cn : Nat) : Int) ≤ (c : Int):=by omega
 obtain ⟨p2,hpp⟩ : ∃ p2,p2 = p + Cn:=⟨_,rfl⟩
 rw [← hpp] at hp2 hb2 hb3
 have hpn2 : p2 ≤ n:=by omega
 have hpl : p < p2:=by omega
 have hpd : p2 - p = Cn:=by omega
 have HPD:=Lib.hid hpd
 clear hx hm hpp hpd
 go_enter Tryz.func37,Tryz.ntmps37
 go_wp2_with (first|(at_builtin;refine wpList_append_srcG (by rfl) (.tmp 28) (.tmp 40) 23 rfl (w.heap.size + 1) 70 j0 (.agg #[.int .i64 0,.int .i64 0,.int .i64 0,.int .i64 0]) 4 32 Tryz.underlying23 hj hj0 hj1 hj2 rfl (by decide) _ 0 [] (by rfl) (own_made SZX (Nat.le_refl _)) (some ⟨g,o + p * 4,none⟩) (p2 - p) (c - p) (flat ((cs.drop p).take Cn)) (by rfl) (by rw [flat_len,HS.out.1,HPD.out]) (fun e => by cases e) (fun ad e => by cases e;exact (HS.out.up BWX).news) (flat_one _) (by unfold maxLen;omega) (by omega) SZX ?_;intro v1 w1 hown1 hg1;simp only [Nat.zero_add,List.nil_append] at hown1;obtain ⟨A1,c1,rfl,hc1,hc1m⟩:=own_form hown1;have hbw1 : Bw w w1:=Bw.row (show Bw w _ from BWX) (own_made (size:=4) SZX (Nat.le_refl _)) hg1 (by omega);have HO1:=Lib.hid hown1;clear hown1 hg1)|fail)
 go_ret
 have h9:=HO1.out
 rw [HPD.out] at h9 hc1
 exact ⟨A1,Cn,c1,by rw [HPD.out];rfl,by rw [HE.out];exact Rg.of_own h9,hc1,hc1m,(fun ad e => by have:=own_new h9 ad e;omega),hbw1⟩
end Go.Proofs.YteebdjmjeahccaaGreatDoor
