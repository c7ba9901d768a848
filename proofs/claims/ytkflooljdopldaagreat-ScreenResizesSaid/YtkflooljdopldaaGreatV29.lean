/- Parts of the proof, one after the other. -/
import Derived.Test.YtkflooljdopldaaGreatV28
import Derived.Test.YtkflooljdopldaaGreatV27
import Derived.Deep.RegionHeld3
import Derived.Test.YtkflooljdopldaaGreatV01
import Derived.Test.YtkflooljdopldaaGreatV16
import Derived.Deep.MidRow
set_option linter.unusedSimpArgs false
set_option linter.unusedVariables false
/- The program's Scroll, at whatever arguments. -/
namespace Go.Proofs.YtkflooljdopldaaGreat
open Go.RowKit

set_option maxRecDepth 100000 in
set_option maxHeartbeats 4000000 in
theorem gscroll_any (R C : Int) (A : Option Addr) (n c : Nat) (cs : List C4) (tp btm num d1 d2 d3 d4 : Int) (w : World) (hr : Rg w A n cs) (hn : n ≤ c) (hn3 : n ≤ 4398046511103) (hc : c ≤ 9223372036854775807) :
  Calls Tryz.prog 36 #[.agg #[.int .i64 R,.int .i64 C,.slice A n c],.int .i64 tp,.int .i64 btm,.int .i64 num,.agg #[.int .i64 d1,.int .i64 d2,.int .i64 d3,.int .i64 d4]] w (GrN w R C (scrollG R C cs tp btm num (d1,d2,d3,d4))):=by
 have HR:=Lib.hid hr
 clear hr
 go_enter Tryz.func36,Tryz.ntmps36
 go_upto_region 1 with (fail)
 generalize hw6 : (((((w.alloc (.cells #[.int .i64 R,.int .i64 C,.slice A n c] 26)).alloc (.cells #[.int .i64 tp] 3)).alloc (.cells #[.int .i64 btm] 3)).alloc (.cells #[.int .i64 num] 3)).alloc (.cells #[.int .i64 d1,.int .i64 d2,.int .i64 d3,.int .i64 d4] 53)).alloc _ = w6
 have hbw : Bw w w6:=by rw [← hw6];exact BWX
 have y0 : w6.cell? ⟨w.heap.size + 1,0,none⟩ = some (.int .i64 tp):=by rw [← hw6];exact CELX
 have y1 : w6.cell? ⟨w.heap.size,0,none⟩ = some (.int .i64 R):=by rw [← hw6];exact CELX
 have y2 : w6.cell? ⟨w.heap.size,1,none⟩ = some (.int .i64 C):=by rw [← hw6];exact CELX
 have y2' : w6.cell? ⟨w.heap.size,2,none⟩ = some (.slice A n c):=by rw [← hw6];exact CELX
 have y3 : w6.cell? ⟨w.heap.size + 1 + 1,0,none⟩ = some (.int .i64 btm):=by rw [← hw6];exact CELX
 have y4 : w6.cell? ⟨w.heap.size + 1 + 1 + 1,0,none⟩ = some (.int .i64 num):=by rw [← hw6];exact CELX
 have y5 : w6.cell? ⟨w.heap.size + 1 + 1 + 1 + 1,0,none⟩ = some (.int .i64 d1):=by rw [← hw6];exact CELX
 have y6 : w6.cell? ⟨w.heap.size + 1 + 1 + 1 + 1,1,none⟩ = some (.int .i64 d2):=by rw [← hw6];exact CELX
 have y7 : w6.cell? ⟨w.heap.size + 1 + 1 + 1 + 1,2,none⟩ = some (.int .i64 d3):=by rw [← hw6];exact CELX
 have y8 : w6.cell? ⟨w.heap.size + 1 + 1 + 1 + 1,3,none⟩ = some (.int .i64 d4):=by rw [← hw6];exact CELX
 have HB:=Lib.hid (show ∃ old,Sb w6 (w.heap.size + 1 + 1 + 1 + 1 + 1) old 26 ∧ old.size = 3 from by rw [← hw6];exact ⟨_,heap_at (by simp),rfl⟩)
 have hz6 : w.heap.size + 1 + 1 + 1 + 1 + 1 < w6.heap.size:=by rw [← hw6];simp
 clear hw6
 go_wp2_with (first
  | (go_at_call 69;refine (gchangescroll_ok R C A n c cs tp btm num d1 d2 d3 d4 (w.heap.size + 1) (w.heap.size + 1 + 1) w.heap.size (w.heap.size + 1 + 1 + 1) (w.heap.size + 1 + 1 + 1 + 1) w6 (HR.out.up hbw) hn hn3 hc y0 y3 y1 y2 y4 y5 y6 y7 y8).mono ?_;rintro ee w7 ⟨A',n',c',rfl,hRg,hn',hc',hnew,hb7⟩;have HRg:=Lib.hid hRg;have HB7:=Lib.hid hb7;have hlt:=Lib.hid hRg.1;clear hRg hb7)
  | ((with_reducible refine wpList_store_gr R C A' n' c' (w.heap.size + 1 + 1 + 1 + 1 + 1) (.tmp 10) (.tmp 14) rfl rfl ?_ ?_ ?_ ?_);(focus rfl);(focus rfl);(focus (exact Exists.elim HB.out (fun old h => ⟨old,h.1.up HB7.out,h.2⟩)));intro w8 hS8 hg8;have HS8:=Lib.hid hS8;have HG8:=Lib.hid hg8;clear hS8 hg8)
  | fail)
 refine bodyPost_ret (results_gr rfl _ _ (w.heap.size + 1 + 1 + 1 + 1 + 1) R C A' n' c' (by rfl) HS8.out) rfl ?_
 have hz:=hbw.size
 exact ⟨A',n',c',rfl,HRg.out.far HG8.out (fun ad e e2 => by have:=hnew ad e;have e3:=Option.some.inj e2;omega),hn',hc',(fun ad e => by have:=hnew ad e;omega),Bw.grown (Bw.trans hbw HB7.out) HG8.out (fun k hk => by cases hk;omega)⟩

/-- What a screen's numbers are. -/
def ScX (s : Scr) : Prop:=(1 ≤ s.Rn ∧ s.Rn ≤ 30 ∧ 1 ≤ s.Cn ∧ s.Cn ≤ 100) ∧ (0 ≤ s.row ∧ s.row < s.Rn ∧ 0 ≤ s.col ∧ s.col < s.Cn) ∧ avB s.f s.g s.b = true ∧ (0 ≤ s.top ∧ s.top ≤ s.bot ∧ s.bot < s.Rn) ∧ (0 ≤ s.srow ∧ s.srow < s.Rn ∧ 0 ≤ s.scol ∧ s.scol < s.Cn) ∧ avB s.sf s.sg s.sb = true
/-- A canvas at block g, known whole, its cells too. -/
def CvI (w : World) (g : Nat) (s : Scr) (cs : List C4) (L : Option Addr) (m k : Nat) (fr : Bool) : Prop :=
 Sb w g (cvV s L m k fr) 75 ∧ Rg w s.A s.n cs ∧ s.n ≤ s.c ∧ s.c ≤ 9223372036854775807 ∧ s.n ≤ 3000 ∧ ∀ ad,s.A = some ad → some ad.block ≠ some g
/-- A method of a canvas: afterwards the screen is s, with the cells cs, and m rows went away. -/
def CvR (w : World) (g : Nat) (s : Scr) (cs : List C4) (m : Nat) (fr : Bool) (e : Ending) (w' : World) : Prop :=
 e = .returned (.tuple #[]) ∧ ∃ A n c L k,CvI w' g (s.gr A n c) cs L m k fr ∧ w.grownBy w' (some g) ∧ ((A = s.A ∧ n = s.n ∧ c = s.c) ∨ ∀ ad,A = some ad → w.heap.size ≤ ad.block)
theorem CvI.up {w w' : World} {g : Nat} {s : Scr} {cs : List C4} {L : Option Addr} {m k : Nat} {fr : Bool} (h : CvI w g s cs L m k fr) (hb : Bw w w') : CvI w' g s cs L m k fr:=⟨h.1.up hb,h.2.1.up hb,h.2.2⟩
/-- How many rows go away. -/
def lostN (s : Scr) (nn : Int) : Nat:=if s.top = 0 ∧ 0 < nn then (min nn (s.bot + 1)).toNat else 0
theorem len_tab {R C : Int} {cs : List C4} {F : Nat → Nat → C4} (h : gridB R C cs = true) : (tab R.toNat C.toNat F).length = cs.length:=by
 unfold gridB at h
 rw [Bool.and_eq_true] at h
 obtain ⟨h1,h2,h3,h4,h5⟩:=of_decide_eq_true h.1
 rw [tab_len]
 have : ((R.toNat * C.toNat : Nat) : Int) = R * C:=by rw [Int.natCast_mul,Int.toNat_of_nonneg (by omega),Int.toNat_of_nonneg (by omega)]
 omega
theorem scrollG_len (R C : Int) (cs : List C4) (tp bt num : Int) (d : C4) : (scrollG R C cs tp bt num d).length = cs.length:=by
 unfold scrollG;split
 ·rename_i h;exact len_tab h.1
 ·rfl
theorem fillG_len (R C : Int) (cs : List C4) (row fr tt : Int) (d : C4) : (fillG R C cs row fr tt d).length = cs.length:=by
 unfold fillG;split
 ·rename_i h;exact len_tab h.1
 ·rfl

set_option maxRecDepth 100000 in
set_option maxHeartbeats 4000000 in
theorem cvscroll_any (s : Scr) (fr : Bool) (cs : List C4) (nn : Int) (g : Nat) (w : World) (h : CvI w g s cs none 0 0 fr) (hs : ScX s) (hn0 : -1000000 ≤ nn) (hn1 : nn ≤ 1000000) :
  Calls Tryz.prog 92 #[.pointer (some ⟨g,0,none⟩),.int .i64 nn] w (CvR w g s (scrollG s.Rn s.Cn cs s.top s.bot nn (32,0,0,s.b)) (lostN s nn) true):=by
 obtain ⟨hS,hr,hn,hc,hn3,hne⟩:=h
 obtain ⟨⟨k1,k2,k3,k4⟩,-,-,⟨k5,k6,k7⟩,-,-⟩:=hs
 have HS0:=Lib.hid hS
 have HR:=Lib.hid hr
 have HNE:=Lib.hid hne
 have hlt:=hS.lt
 have HL:=Lib.hid (scrollG_len s.Rn s.Cn cs s.top s.bot nn (32,0,0,s.b))
 (have x9:=hS.cell 9 (v:=.int .i64 s.top) rfl;have x10:=hS.cell 10 (v:=.int .i64 s.bot) rfl)
 clear hS hr hne
 go_enter Tryz.func92,Tryz.ntmps92
 go_upto_region 1 with (fail)
 generalize hw1 : w.alloc _ = w1
 obtain ⟨hb0,hbw,hz⟩:=sb1 hw1
 have HM:=Lib.hid hb0
 have HB1:=Lib.hid (HS0.out.up hbw)
 have HR1:=Lib.hid (HR.out.up hbw)
 have y0:=hb0.cell 0 (v:=.int .i64 s.top) rfl
 have y1:=hb0.cell 1 (v:=.int .i64 s.bot) rfl
 have hzz : w.heap.size < w1.heap.size:=by omega
 have hgne : some w.heap.size ≠ some g:=fun e => by have:=Option.some.inj e;omega
 clear hw1 hb0 hz x9 x10
 obtain ⟨t,ht⟩ : ∃ t,t = decide (s.top = 0 ∧ 0 < nn):=⟨_,rfl⟩
 have HT:=Lib.hid ht
 clear ht
 go_cut [16] (fun v w' => v = .bool t ∧ w1 = w')
 case first =>
  have hways : (s.top = 0 ∧ 0 < nn) ∨ (s.top = 0 ∧ nn ≤ 0) ∨ ¬ s.top = 0:=by omega
  rcases hways with ⟨c1,c2⟩|⟨c1,c2⟩|c1
  ·have c4 : (s.top == 0) = true:=by simpa using c1
   have HTT:=Lib.hid (show t = true by rw [HT.out];exact decide_eq_true ⟨c1,c2⟩)
   clear c1
   go_wp2_with fail
   go_meet
   case rel => exact ⟨congrArg Value.bool HTT.out.symm,rfl⟩
  ·have c4 : (s.top == 0) = true:=by simpa using c1
   have HTT:=Lib.hid (show t = false by rw [HT.out];exact decide_eq_false (by omega))
   clear c1
   go_wp2_with fail
   go_meet
   case rel => exact ⟨congrArg Value.bool ((decide_eq_false (by omega)).trans HTT.out.symm),rfl⟩
  ·have c4 : (s.top == 0) = false:=by simpa using c1
   have HTT:=Lib.hid (show t = false by rw [HT.out];exact decide_eq_false (by omega))
   clear c1
   go_wp2_with fail
   go_meet
   case rel => exact ⟨congrArg Value.bool HTT.out.symm,rfl⟩
 case rest =>
 obtain ⟨rfl,rfl⟩:=hcut
 go_upto_if 16 with (fail)
 go_cut [] (fun w' => ∃ L k,Sb w' g (cvV s L (lostN s nn) k fr) 75 ∧ w1.grownBy w' (some g))
 case first =>
  cases t
  ·have HLN:=Lib.hid (show lostN s nn = 0 from if_neg (of_decide_eq_false HT.out.symm))
   go_wp2_with fail
   go_meet
   case rel => exact ⟨none,0,by rw [HLN.out];exact HB1.out,grown_refl _ _⟩
  ·have HLN:=Lib.hid (show lostN s nn = (min nn (s.bot + 1)).toNat from if_pos (of_decide_eq_true HT.out.symm))
   obtain ⟨q,hq⟩ : ∃ q,(if s.bot + 1 < nn then s.bot + 1 else nn) = q:=⟨_,rfl⟩
   have hqm : q = min nn (s.bot + 1):=by rw [← hq];split <;> omega
   have hq0:=(of_decide_eq_true HT.out.symm).2
   have hmn : q ≤ 1000000:=by omega
   have hmn0 : 0 ≤ q:=by omega
   rw [← hqm] at HLN
   have HQ:=Lib.hid hq
   clear hq hqm hq0
   go_wp2_with (first
    | (go_at_call 35;rw [HQ.out];refine (cvlose_any s fr cs q g _ (HB1.out.up BWX) (HR1.out.up BWX) hn (by omega) hc HNE.out hmn0 hmn).mono ?_;rintro ee w2 ⟨L,k,rfl,hS2,hg2⟩;have HS2:=Lib.hid hS2;have HG2:=Lib.hid hg2;clear hS2 hg2)
    | fail)
   go_meet
   case rel => exact ⟨L,k,by rw [HLN.out];exact HS2.out,(grown_bw (show Bw w1 _ from BWX) _).trans HG2.out⟩
 case rest =>
 obtain ⟨L,k,hSc,hgc⟩:=hcut
 have HBc:=Lib.hid hSc
 have HGc:=Lib.hid hgc
 have HMc:=Lib.hid (HM.out.far hgc hgne)
 have HRc:=Lib.hid (HR1.out.far hgc HNE.out)
 have hltc:=hSc.lt
 have hzc:=hgc.size
 (have x0:=HBc.out.cell 0 (v:=.int .i64 (s.Rn : Int)) rfl;have x1:=HBc.out.cell 1 (v:=.int .i64 (s.Cn : Int)) rfl;have x2:=HBc.out.cell 2 (v:=.slice s.A s.n s.c) rfl)
 clear hSc hgc y0 y1
 have HY:=Lib.hid (show ∀ w',Bw wc w' → (w'.cell? ⟨w.heap.size,0,none⟩ = some (.int .i64 s.top) ∧ w'.cell? ⟨w.heap.size,1,none⟩ = some (.int .i64 s.bot)) from fun w' hb => ⟨(HMc.out.up hb).cell 0 rfl,(HMc.out.up hb).cell 1 rfl⟩)
 go_upto_region 3 with (fail)
 refine wp_region_held_drew (S:=(fun w' => w'.cell? ⟨w.heap.size,0,none⟩ = some (.int .i64 s.top) ∧ w'.cell? ⟨w.heap.size,1,none⟩ = some (.int .i64 s.bot))) (by kernel_rfl) ?_ (fun hHeld => ?_)
 ·(try dsimp only);(first|exact ⟨cell_far hHeld.1 HG6.out hgne,cell_far hHeld.2 HG6.out hgne⟩|(refine HY.out _ ?_;exact BWX))
 refine tkQ 0 ?_
 refine tkQ 1 ?_
 refine tkQ 2 ?_
 (try simp only [Act.put,zP1,zP2,zP3,zP4,zP5,zP6])
 refine tkQ 3 ?_
 refine tkQ 4 ?_
 refine tkQ 6 ?_
 (try simp only [Act.put,zP1,zP2,zP3,zP4,zP5,zP6])
 refine tkQ 7 ?_
 refine tkQ 8 ?_
 refine tkQ 9 ?_
 (try simp only [Act.put,zP1,zP2,zP3,zP4,zP5,zP6])
 refine tkQ 10 ?_
 refine tkQ 11 ?_
 (try simp only [Act.put,zP1,zP2,zP3,zP4,zP5,zP6])
 refine wpAnyH_ready (rs:=[5,12]) (by kernel_rfl) (by simp) ?_
 refine AllReadyH.cons rfl (fun K hK => ?_) ?_
 ·go_simp
  refine hK.out _ _ ?_ (fun hHeld => ?_)
  ·(try dsimp only);(first|exact ⟨cell_far hHeld.1 HG6.out hgne,cell_far hHeld.2 HG6.out hgne⟩|(refine HY.out _ ?_;exact BWX))
  clear hK K
  (try simp only [Act.put,zP1,zP2,zP3,zP4,zP5,zP6])
  refine wpAnyH_ready (rs:=[12]) (by kernel_rfl) (by simp) ?_
  refine AllReadyH.cons rfl (fun K hK => ?_) ?_
  ·go_simp
   refine (cvempty_any s L (lostN s nn) k fr g _ (HBc.out.up BWX)).mono ?_;rintro ee w4 ⟨rfl,hb4⟩;have hbw4 : Bw wc w4:=Bw.trans (show Bw wc _ from BWX) hb4;have HB4:=Lib.hid (HBc.out.up (show Bw wc w4 from Bw.trans (show Bw wc _ from BWX) hb4));(try clear x0 x1 x2);(have x0:=HB4.out.cell 0 (v:=.int .i64 (s.Rn : Int)) rfl;have x1:=HB4.out.cell 1 (v:=.int .i64 (s.Cn : Int)) rfl;have x2:=HB4.out.cell 2 (v:=.slice s.A s.n s.c) rfl);go_wp2_with fail
   refine hK.out _ _ ?_ (fun hHeld => ?_)
   ·(try dsimp only);(first|exact ⟨cell_far hHeld.1 HG6.out hgne,cell_far hHeld.2 HG6.out hgne⟩|(refine HY.out _ ?_;exact BWX))
   clear hK K
   (try simp only [Act.put,zP1,zP2,zP3,zP4,zP5,zP6])
   refine wpAnyH_ready (rs:=[13]) (by kernel_rfl) (by simp) ?_
   refine AllReadyH.cons rfl (fun K hK => ?_) ?_
   ·go_simp
    refine (gscroll_any s.Rn s.Cn s.A s.n s.c cs s.top s.bot nn 32 0 0 s.b _ (HRc.out.up BWX) hn (by omega) hc).mono ?_;rintro ee w5 ⟨A',n',c',rfl,hr5,hn5,hc5,hnew5,hb5⟩;have hbw5 : Bw wc w5:=Bw.trans (show Bw wc _ from BWX) hb5;have HR5:=Lib.hid hr5;have HNW:=Lib.hid (show ∀ ad,A' = some ad → wc.heap.size ≤ ad.block from fun ad e => by have h1:=hnew5 ad e;(have h2:=(show Bw wc _ from hbw4).size);first|omega|(simp only [szA,szS,szD,szN] at h1;omega));clear hr5 hnew5;go_wp2_with fail
    refine hK.out _ _ ?_ (fun hHeld => ?_)
    ·(try dsimp only);(first|exact ⟨cell_far hHeld.1 HG6.out hgne,cell_far hHeld.2 HG6.out hgne⟩|(refine HY.out _ ?_;exact BWX))
    clear hK K
    (try simp only [Act.put,zP1,zP2,zP3,zP4,zP5,zP6])
    refine wpAnyH_ready (rs:=[14]) (by kernel_rfl) (by simp) ?_
    refine AllReadyH.cons rfl (fun K hK => ?_) ?_
    ·go_simp
     refine (cvpaint_any s L (lostN s nn) k fr s.Rn s.Cn A' n' c' g _ (HBc.out.up BWX)).mono ?_;rintro ee w6 ⟨rfl,hS6,hg6⟩;have hg56 : w5.grownBy w6 (some g):=(grown_bw (show Bw w5 _ from BWX) _).trans hg6;have HS6:=Lib.hid hS6;have HG6:=Lib.hid hg6;have HG56:=Lib.hid hg56;clear hS6 hg6 hg56;go_wp2_with fail
     refine hK.out _ _ ?_ (fun hHeld => ?_)
     ·(try dsimp only);(first|exact ⟨cell_far hHeld.1 HG6.out hgne,cell_far hHeld.2 HG6.out hgne⟩|(refine HY.out _ ?_;exact BWX))
     clear hK K
     (try simp only [Act.put,zP1,zP2,zP3,zP4,zP5,zP6])
     refine wpAnyH_done (by kernel_rfl) ?_ _
     go_wp2_with fail
     go_end0
     have hnn : ∀ ad,A' = some ad → some ad.block ≠ some g:=fun ad e e2 => by have:=HNW.out ad e;have:=Option.some.inj e2;omega
     have hl : n' ≤ 3000:=by have h1:=HR5.out.1;have h2:=HR.out.1;have h3:=HL.out;omega
     exact ⟨rfl,A',n',c',L,k,⟨HS6.out,HR5.out.far HG56.out hnn,hn5,hc5,hl,hnn⟩,(grown_bw hbw _).trans (HGc.out.trans ((grown_bw hbw5 _).trans HG56.out)),.inr (fun ad e => by have:=HNW.out ad e;omega)⟩
    exact AllReadyH.nil
   exact AllReadyH.nil
  exact AllReadyH.nil
 refine AllReadyH.cons rfl (fun K hK => ?_) ?_
 ·go_simp
  refine (cvempty_any s L (lostN s nn) k fr g _ (HBc.out.up BWX)).mono ?_;rintro ee w4 ⟨rfl,hb4⟩;have hbw4 : Bw wc w4:=Bw.trans (show Bw wc _ from BWX) hb4;have HB4:=Lib.hid (HBc.out.up (show Bw wc w4 from Bw.trans (show Bw wc _ from BWX) hb4));(try clear x0 x1 x2);(have x0:=HB4.out.cell 0 (v:=.int .i64 (s.Rn : Int)) rfl;have x1:=HB4.out.cell 1 (v:=.int .i64 (s.Cn : Int)) rfl;have x2:=HB4.out.cell 2 (v:=.slice s.A s.n s.c) rfl);go_wp2_with fail
  refine hK.out _ _ ?_ (fun hHeld => ?_)
  ·(try dsimp only);(first|exact ⟨cell_far hHeld.1 HG6.out hgne,cell_far hHeld.2 HG6.out hgne⟩|(refine HY.out _ ?_;exact BWX))
  clear hK K
  (try simp only [Act.put,zP1,zP2,zP3,zP4,zP5,zP6])
  refine wpAnyH_ready (rs:=[5]) (by kernel_rfl) (by simp) ?_
  refine AllReadyH.cons rfl (fun K hK => ?_) ?_
  ·go_simp
   refine hK.out _ _ ?_ (fun hHeld => ?_)
   ·(try dsimp only);(first|exact ⟨cell_far hHeld.1 HG6.out hgne,cell_far hHeld.2 HG6.out hgne⟩|(refine HY.out _ ?_;exact BWX))
   clear hK K
   (try simp only [Act.put,zP1,zP2,zP3,zP4,zP5,zP6])
   refine wpAnyH_ready (rs:=[13]) (by kernel_rfl) (by simp) ?_
   refine AllReadyH.cons rfl (fun K hK => ?_) ?_
   ·go_simp
    refine (gscroll_any s.Rn s.Cn s.A s.n s.c cs s.top s.bot nn 32 0 0 s.b _ (HRc.out.up BWX) hn (by omega) hc).mono ?_;rintro ee w5 ⟨A',n',c',rfl,hr5,hn5,hc5,hnew5,hb5⟩;have hbw5 : Bw wc w5:=Bw.trans (show Bw wc _ from BWX) hb5;have HR5:=Lib.hid hr5;have HNW:=Lib.hid (show ∀ ad,A' = some ad → wc.heap.size ≤ ad.block from fun ad e => by have h1:=hnew5 ad e;(have h2:=(show Bw wc _ from hbw4).size);first|omega|(simp only [szA,szS,szD,szN] at h1;omega));clear hr5 hnew5;go_wp2_with fail
    refine hK.out _ _ ?_ (fun hHeld => ?_)
    ·(try dsimp only);(first|exact ⟨cell_far hHeld.1 HG6.out hgne,cell_far hHeld.2 HG6.out hgne⟩|(refine HY.out _ ?_;exact BWX))
    clear hK K
    (try simp only [Act.put,zP1,zP2,zP3,zP4,zP5,zP6])
    refine wpAnyH_ready (rs:=[14]) (by kernel_rfl) (by simp) ?_
    refine AllReadyH.cons rfl (fun K hK => ?_) ?_
    ·go_simp
     refine (cvpaint_any s L (lostN s nn) k fr s.Rn s.Cn A' n' c' g _ (HBc.out.up BWX)).mono ?_;rintro ee w6 ⟨rfl,hS6,hg6⟩;have hg56 : w5.grownBy w6 (some g):=(grown_bw (show Bw w5 _ from BWX) _).trans hg6;have HS6:=Lib.hid hS6;have HG6:=Lib.hid hg6;have HG56:=Lib.hid hg56;clear hS6 hg6 hg56;go_wp2_with fail
     refine hK.out _ _ ?_ (fun hHeld => ?_)
     ·(try dsimp only);(first|exact ⟨cell_far hHeld.1 HG6.out hgne,cell_far hHeld.2 HG6.out hgne⟩|(refine HY.out _ ?_;exact BWX))
     clear hK K
     (try simp only [Act.put,zP1,zP2,zP3,zP4,zP5,zP6])
     refine wpAnyH_done (by kernel_rfl) ?_ _
     go_wp2_with fail
     go_end0
     have hnn : ∀ ad,A' = some ad → some ad.block ≠ some g:=fun ad e e2 => by have:=HNW.out ad e;have:=Option.some.inj e2;omega
     have hl : n' ≤ 3000:=by have h1:=HR5.out.1;have h2:=HR.out.1;have h3:=HL.out;omega
     exact ⟨rfl,A',n',c',L,k,⟨HS6.out,HR5.out.far HG56.out hnn,hn5,hc5,hl,hnn⟩,(grown_bw hbw _).trans (HGc.out.trans ((grown_bw hbw5 _).trans HG56.out)),.inr (fun ad e => by have:=HNW.out ad e;omega)⟩
    exact AllReadyH.nil
   exact AllReadyH.nil
  exact AllReadyH.nil
 exact AllReadyH.nil

set_option maxRecDepth 100000 in
set_option maxHeartbeats 2000000 in
theorem cvfeed_scroll (s : Scr) (fr : Bool) (cs : List C4) (g : Nat) (w : World) (h : CvI w g s cs none 0 0 fr) (hs : ScX s) (hq : s.row = s.bot) :
  Calls Tryz.prog 54 #[.pointer (some ⟨g,0,none⟩)] w (CvR w g ({ s with wrap:=false } : Scr) (scrollG s.Rn s.Cn cs s.top s.bot 1 (32,0,0,s.b)) (lostN s 1) true):=by
 have c4 : (s.row == s.bot) = true:=by simpa using hq
 have HI:=Lib.hid h
 have hS:=h.1
 have hlt:=hS.lt
 (have x3:=hS.cell 3 (v:=.int .i64 s.row) rfl;have x10:=hS.cell 10 (v:=.int .i64 s.bot) rfl)
 clear h hS hq
 go_enter Tryz.func54,Tryz.ntmps54
 go_upto_region 0 with (fail)
 have HY:=Lib.hid (show ∀ w',Bw w w' → (w'.cell? ⟨g,3,none⟩ = some (.int .i64 s.row) ∧ w'.cell? ⟨g,10,none⟩ = some (.int .i64 s.bot)) from fun w' hb => ⟨(HI.out.1.up hb).cell 3 rfl,(HI.out.1.up hb).cell 10 rfl⟩)
 refine wp_region_held_drew (S:=(fun w' => w'.cell? ⟨g,3,none⟩ = some (.int .i64 s.row) ∧ w'.cell? ⟨g,10,none⟩ = some (.int .i64 s.bot))) (by kernel_rfl) ?_ (fun hHeld => ?_)
 ·(try dsimp only);(refine HY.out _ ?_;exact BWX)
 refine tkQ 0 ?_
 (try simp only [Act.put,zP1,zP2,zP3,zP4,zP5,zP6])
 refine tkQ 1 ?_
 refine tkQ 2 ?_
 refine tkQ 3 ?_
 (try simp only [Act.put,zP1,zP2,zP3,zP4,zP5,zP6])
 refine tkQ 4 ?_
 refine tkQ 5 ?_
 refine tkQ 6 ?_
 (try simp only [Act.put,zP1,zP2,zP3,zP4,zP5,zP6])
 refine tkQ 7 ?_
 refine tkQ 8 ?_
 refine tkQ 9 ?_
 (try simp only [Act.put,zP1,zP2,zP3,zP4,zP5,zP6])
 refine tkQ 10 ?_
 refine tkQ 11 ?_
 refine tkQ 12 ?_
 (try simp only [Act.put,zP1,zP2,zP3,zP4,zP5,zP6])
 refine wpAnyH_done (by kernel_rfl) ?_ _
 go_wp2_with (first
  | (go_at_call 92;refine (cvscroll_any s fr cs 1 g _ (HI.out.up BWX) hs (by omega) (by omega)).mono ?_;rintro ee w2 ⟨rfl,A,n,c,L,k,⟨hS2,hR2⟩,hg2,hA2⟩;have HB2:=Lib.hid hS2;have hg02:=(grown_bw (show Bw w _ from BWX) (some g)).trans hg2;have z5:=HB2.out.free 5;have y5:=HB2.out.cell 5 (v:=.bool s.wrap) rfl;have hsz2:=(show Bw w _ from BWX).size;clear hS2 x3 x10)
  | fail)
 go_end0
 obtain ⟨q1,q2,q3,q4,q5⟩:=hR2
 refine ⟨rfl,A,n,c,L,k,⟨HB2.out.set 5 _ rfl,q1.far (grown_set (grown_refl _ _) 5 _) q5,q2,q3,q4,q5⟩,grown_set hg02 5 _,?_⟩
 rcases hA2 with hA2|hA2
 ·exact .inl hA2
 ·exact .inr (fun ad e => Nat.le_trans hsz2 (hA2 ad e))

set_option maxRecDepth 100000 in
set_option maxHeartbeats 2000000 in
theorem cvfeed_move (s : Scr) (fr : Bool) (cs : List C4) (L : Option Addr) (m k g : Nat) (w : World) (h : CvI w g s cs L m k fr) (hs : ScX s) (hq : ¬ s.row = s.bot) :
  Calls Tryz.prog 54 #[.pointer (some ⟨g,0,none⟩)] w (CvR w g ({ s with row:=(mv s.row s.col s.wrap 2 1 s.top s.bot s.Rn s.Cn).1,col:=(mv s.row s.col s.wrap 2 1 s.top s.bot s.Rn s.Cn).2.1,wrap:=false } : Scr) cs m fr):=by
 have c4 : (s.row == s.bot) = false:=by simpa using hq
 have HI:=Lib.hid h
 have hS:=h.1
 have hlt:=hS.lt
 obtain ⟨⟨k1,k2,k3,k4⟩,-⟩:=hs
 (have x3:=hS.cell 3 (v:=.int .i64 s.row) rfl;have x10:=hS.cell 10 (v:=.int .i64 s.bot) rfl)
 clear h hS hq
 go_enter Tryz.func54,Tryz.ntmps54
 go_upto_region 0 with (fail)
 have HY:=Lib.hid (show ∀ w',Bw w w' → (w'.cell? ⟨g,3,none⟩ = some (.int .i64 s.row) ∧ w'.cell? ⟨g,10,none⟩ = some (.int .i64 s.bot)) from fun w' hb => ⟨(HI.out.1.up hb).cell 3 rfl,(HI.out.1.up hb).cell 10 rfl⟩)
 refine wp_region_held_drew (S:=(fun w' => w'.cell? ⟨g,3,none⟩ = some (.int .i64 s.row) ∧ w'.cell? ⟨g,10,none⟩ = some (.int .i64 s.bot))) (by kernel_rfl) ?_ (fun hHeld => ?_)
 ·(try dsimp only);(refine HY.out _ ?_;exact BWX)
 refine tkQ 0 ?_
 refine tkQ 1 ?_
 refine tkQ 2 ?_
 (try simp only [Act.put,zP1,zP2,zP3,zP4,zP5,zP6])
 refine tkQ 3 ?_
 refine tkQ 4 ?_
 refine tkQ 5 ?_
 (try simp only [Act.put,zP1,zP2,zP3,zP4,zP5,zP6])
 refine tkQ 6 ?_
 refine tkQ 7 ?_
 refine tkQ 8 ?_
 (try simp only [Act.put,zP1,zP2,zP3,zP4,zP5,zP6])
 refine tkQ 9 ?_
 refine tkQ 10 ?_
 refine tkQ 11 ?_
 (try simp only [Act.put,zP1,zP2,zP3,zP4,zP5,zP6])
 refine tkQ 12 ?_
 (try simp only [Act.put,zP1,zP2,zP3,zP4,zP5,zP6])
 refine wpAnyH_done (by kernel_rfl) ?_ _
 go_wp2_with (first
  | (go_at_call 57;refine (cvmove_any s L m k fr 2 1 g _ (HI.out.up BWX).1 k2 k4 (by omega)).mono ?_;rintro ee w2 ⟨rfl,hS2,hg2⟩;have HB2:=Lib.hid hS2;have hg02:=(grown_bw (show Bw w _ from BWX) (some g)).trans hg2;have HR2:=Lib.hid ((HI.out.2.1).far hg02 HI.out.2.2.2.2.2);have z5:=HB2.out.free 5;have y5:=HB2.out.cell 5 (v:=.bool (mv s.row s.col s.wrap 2 1 s.top s.bot s.Rn s.Cn).2.2) rfl;clear hS2 x3 x10)
  | fail)
 go_end0
 obtain ⟨q1,q2,q3,q4,q5⟩:=HI.out.2
 exact ⟨rfl,s.A,s.n,s.c,L,k,⟨HB2.out.set 5 _ rfl,HR2.out.far (grown_set (grown_refl _ _) 5 _) q5,q2,q3,q4,q5⟩,grown_set hg02 5 _,.inl ⟨rfl,rfl,rfl⟩⟩

/-- What a line feed makes of a screen, of its cells; how many rows go away; is the grid new. -/
def fdS (s : Scr) : Scr:=if s.row = s.bot then { s with wrap:=false } else { s with row:=(mv s.row s.col s.wrap 2 1 s.top s.bot s.Rn s.Cn).1,col:=(mv s.row s.col s.wrap 2 1 s.top s.bot s.Rn s.Cn).2.1,wrap:=false }
def fdC (s : Scr) (cs : List C4) : List C4:=if s.row = s.bot then scrollG s.Rn s.Cn cs s.top s.bot 1 (32,0,0,s.b) else cs
def fdN (s : Scr) (m : Nat) : Nat:=if s.row = s.bot then lostN s 1 else m
def fdF (s : Scr) (fr : Bool) : Bool:=if s.row = s.bot then true else fr
theorem cvfeed_any (s : Scr) (fr : Bool) (cs : List C4) (g : Nat) (w : World) (h : CvI w g s cs none 0 0 fr) (hs : ScX s) :
  Calls Tryz.prog 54 #[.pointer (some ⟨g,0,none⟩)] w (CvR w g (fdS s) (fdC s cs) (fdN s 0) (fdF s fr)):=by
 unfold fdS fdC fdN fdF
 by_cases hq : s.row = s.bot
 ·simp only [if_pos hq]
  exact cvfeed_scroll s fr cs g w h hs hq
 ·simp only [if_neg hq]
  exact cvfeed_move s fr cs none 0 0 g w h hs hq
theorem fdS_nums (s : Scr) : (fdS s).Rn = s.Rn ∧ (fdS s).Cn = s.Cn ∧ (fdS s).A = s.A ∧ (fdS s).n = s.n ∧ (fdS s).c = s.c:=by unfold fdS;split <;> exact ⟨rfl,rfl,rfl,rfl,rfl⟩
theorem fdS_ok {s : Scr} (hs : ScX s) : ScX (fdS s):=by
 obtain ⟨h1,h2,h3,h4,h5,h6⟩:=hs
 unfold fdS
 split
 ·exact ⟨h1,h2,h3,h4,h5,h6⟩
 ·exact ⟨h1,mv_bd h2 h4,h3,h4,h5,h6⟩
theorem fdC_len (s : Scr) (cs : List C4) : (fdC s cs).length = cs.length:=by unfold fdC;split;exact scrollG_len _ _ _ _ _ _ _;rfl
theorem Scr.gr_gr (s : Scr) (A : Option Addr) (n c : Nat) (A' : Option Addr) (n' c' : Nat) : (s.gr A n c).gr A' n' c' = s.gr A' n' c':=rfl

/-- What put makes of a screen: first the line feed, if there is one. -/
def pfS (s : Scr) : Scr:=if (s.wrap && !s.now) = true then fdS { s with col:=0 } else s
def pfC (s : Scr) (cs : List C4) : List C4:=if (s.wrap && !s.now) = true then fdC { s with col:=0 } cs else cs
def pfN (s : Scr) : Nat:=if (s.wrap && !s.now) = true then fdN { s with col:=0 } 0 else 0
def ptE (s : Scr) : Scr:=if s.col = s.Cn - 1 then { s with wrap := !s.now } else { s with col:=s.col + 1,wrap:=false }
def ptS (s : Scr) : Scr:=ptE (pfS s)
def ptC (s : Scr) (cs : List C4) (x : Int) : List C4:=fillG s.Rn s.Cn (pfC s cs) (pfS s).row (pfS s).col ((pfS s).col + 1) (x,s.f,s.g,s.b)
theorem pfS_nums (s : Scr) : (pfS s).Rn = s.Rn ∧ (pfS s).Cn = s.Cn ∧ (pfS s).A = s.A ∧ (pfS s).n = s.n ∧ (pfS s).c = s.c:=by
 unfold pfS;split
 ·exact fdS_nums _
 ·exact ⟨rfl,rfl,rfl,rfl,rfl⟩
theorem pfS_ok {s : Scr} (hs : ScX s) : ScX (pfS s):=by
 unfold pfS;split
 ·refine fdS_ok ?_
  obtain ⟨h1,⟨h2,h3,h4,h5⟩,h6⟩:=hs
  exact ⟨h1,⟨h2,h3,by show (0 : Int) ≤ 0;omega,by show (0 : Int) < s.Cn;omega⟩,h6⟩
 ·exact hs
theorem ptE_ok {s : Scr} (hs : ScX s) : ScX (ptE s):=by
 obtain ⟨h1,⟨h2,h3,h4,h5⟩,h6⟩:=hs
 unfold ptE;split
 ·exact ⟨h1,⟨h2,h3,h4,h5⟩,h6⟩
 ·exact ⟨h1,⟨h2,h3,by show (0 : Int) ≤ s.col + 1;omega,by show s.col + 1 < s.Cn;omega⟩,h6⟩
theorem pfC_len (s : Scr) (cs : List C4) : (pfC s cs).length = cs.length:=by unfold pfC;split;exact fdC_len _ _;rfl
theorem cvI_col {w : World} {g : Nat} {s : Scr} {cs : List C4} {L : Option Addr} {m k : Nat} {fr : Bool} (h : CvI w g s cs L m k fr) (x : Int) : CvI (w.setCell ⟨g,4,none⟩ (.int .i64 x)) g { s with col:=x } cs L m k fr :=
 ⟨h.1.set 4 _ rfl,h.2.1.far (grown_set (grown_refl _ _) 4 _) h.2.2.2.2.2,h.2.2⟩

set_option maxRecDepth 100000 in
set_option maxHeartbeats 4000000 in
theorem cvput_any (s : Scr) (fr : Bool) (cs : List C4) (x : Int) (g : Nat) (w : World) (h : CvI w g s cs none 0 0 fr) (hs : ScX s) (hv : cellB (x,s.f,s.g,s.b) = true) :
  Calls Tryz.prog 25 #[.pointer (some ⟨g,0,none⟩),.int .i64 x] w (CvR w g (ptS s) (ptC s cs x) (pfN s) true):=by
 have HI:=Lib.hid h
 have hS:=h.1
 have hlt:=hS.lt
 have HG:=Lib.hid (show gridB 1 1 [(x,s.f,s.g,s.b)] = true by unfold gridB;rw [Bool.and_eq_true];refine ⟨decide_eq_true ⟨by omega,by omega,by omega,by omega,by simp⟩,?_⟩;simpa using hv)
 have HSX:=Lib.hid hs
 (have x6:=hS.cell 6 (v:=.int .i64 s.f) rfl;have x7:=hS.cell 7 (v:=.int .i64 s.g) rfl;have x8:=hS.cell 8 (v:=.int .i64 s.b) rfl)
 clear h hS hv hs
 go_enter Tryz.func25,Tryz.ntmps25
 go_upto_region 1 with (fail)
 generalize hw1 : w.alloc _ = w1
 obtain ⟨hb0,hbw,hz⟩:=sb1 hw1
 have HC:=Lib.hid hb0
 have HI1:=Lib.hid (HI.out.up hbw)
 have hzz : w.heap.size < w1.heap.size:=by omega
 have hgne : some w.heap.size ≠ some g:=fun e => by have:=Option.some.inj e;omega
 have y0:=hb0.cell 0 (v:=.int .i64 x) rfl
 have y1:=hb0.cell 1 (v:=.int .i64 s.f) rfl
 have y2:=hb0.cell 2 (v:=.int .i64 s.g) rfl
 have y3:=hb0.cell 3 (v:=.int .i64 s.b) rfl
 clear hw1 hb0 hz x6 x7 x8
 go_upto_region 2 with (first
  | (go_at_call 31;refine (ggvalid_any 1 1 (some ⟨w1.heap.size,0,none⟩) 1 1 [(x,s.f,s.g,s.b)] _ ⟨rfl,fun _ => ⟨w1.heap.size,0,rfl,fun i hi => by
    obtain rfl : i = 0:=by simp at hi;omega
    exact ⟨CELX,CELX,CELX,CELX⟩⟩⟩ (by omega) (by omega)).mono ?_;rintro ee w2 ⟨rfl,hb2⟩;rw [HG.out];have hbw2 : Bw w1 w2:=Bw.trans (show Bw w1 _ from BWX) hb2;clear hb2 y0 y1 y2 y3)
  | fail)
 have HI2:=Lib.hid (HI1.out.up hbw2)
 have HC2:=Lib.hid (HC.out.up hbw2)
 have hS2:=HI2.out.1
 have hlt2:=hS2.lt
 have hz2:=hbw2.size
 (have x4:=hS2.cell 4 (v:=.int .i64 s.col) rfl;have x5:=hS2.cell 5 (v:=.bool s.wrap) rfl;have x18:=hS2.cell 18 (v:=.bool s.now) rfl)
 (have z4:=hS2.free 4)
 obtain ⟨t,ht⟩ : ∃ t,t = (s.wrap && !s.now):=⟨_,rfl⟩
 have HT:=Lib.hid ht
 clear ht
 go_cut [32] (fun v w' => v = .bool t ∧ w2 = w')
 case first =>
  cases hwr : s.wrap with
  | false =>
   rw [hwr] at x5
   have HTT:=Lib.hid (show t = false by rw [HT.out,hwr];rfl)
   clear hwr
   go_wp2_with fail
   go_meet
   case rel => exact ⟨congrArg Value.bool HTT.out.symm,rfl⟩
  | true =>
   rw [hwr] at x5
   cases hnw : s.now with
   | true =>
    rw [hnw] at x18
    have HTT:=Lib.hid (show t = false by rw [HT.out,hwr,hnw];rfl)
    clear hwr hnw
    go_wp2_with fail
    go_meet
    case rel => exact ⟨congrArg Value.bool HTT.out.symm,rfl⟩
   | false =>
    rw [hnw] at x18
    have HTT:=Lib.hid (show t = true by rw [HT.out,hwr,hnw];rfl)
    clear hwr hnw
    go_wp2_with fail
    go_meet
    case rel => exact ⟨congrArg Value.bool HTT.out.symm,rfl⟩
 case rest =>
 obtain ⟨rfl,rfl⟩:=hcut
 go_upto_if 32 with (fail)
 go_cut [] (fun w' => ∃ A n c L k fr',CvI w' g ((pfS s).gr A n c) (pfC s cs) L (pfN s) k fr' ∧ w2.grownBy w' (some g) ∧ ((A = s.A ∧ n = s.n ∧ c = s.c) ∨ ∀ ad,A = some ad → w2.heap.size ≤ ad.block))
 case first =>
  cases t with
  | false =>
   have E:=Lib.hid (show pfS s = s ∧ pfC s cs = cs ∧ pfN s = 0 from by unfold pfS pfC pfN;rw [← HT.out];exact ⟨rfl,rfl,rfl⟩)
   go_wp2_with fail
   go_meet
   case rel => exact ⟨s.A,s.n,s.c,none,0,fr,by rw [E.out.1,E.out.2.1,E.out.2.2];exact HI2.out,grown_refl _ _,.inl ⟨rfl,rfl,rfl⟩⟩
  | true =>
   have E:=Lib.hid (show pfS s = fdS { s with col:=0 } ∧ pfC s cs = fdC { s with col:=0 } cs ∧ pfN s = fdN { s with col:=0 } 0 from by unfold pfS pfC pfN;rw [← HT.out];exact ⟨rfl,rfl,rfl⟩)
   have HSX0:=Lib.hid (show ScX { s with col:=0 } from by
    obtain ⟨h1,⟨h2,h3,h4,h5⟩,h6⟩:=HSX.out
    exact ⟨h1,⟨h2,h3,by show (0 : Int) ≤ 0;omega,by show (0 : Int) < s.Cn;omega⟩,h6⟩)
   go_wp2_with (first
    | (go_at_call 54;refine (cvfeed_any { s with col:=0 } fr cs g _ ((cvI_col HI2.out 0).up BWX) HSX0.out).mono ?_;rintro ee w3 ⟨rfl,A,n,c,L,k,hI3,hg3,hA3⟩;have HI3:=Lib.hid hI3;have HG3:=Lib.hid ((grown_bw (show Bw (w2.setCell ⟨g,4,none⟩ (.int .i64 0)) _ from BWX) (some g)).trans hg3);have hsz3:=(show Bw (w2.setCell ⟨g,4,none⟩ (.int .i64 0)) _ from BWX).size;clear hI3 hg3)
    | fail)
   go_meet
   case rel =>
    refine ⟨A,n,c,L,k,_,by rw [E.out.1,E.out.2.1,E.out.2.2];exact HI3.out,(grown_set (grown_refl _ _) 4 _).trans HG3.out,?_⟩
    rcases hA3 with hA3|hA3
    ·left
     obtain ⟨-,-,a1,a2,a3⟩:=fdS_nums { s with col:=0 }
     rw [a1,a2,a3] at hA3
     exact hA3
    ·exact .inr (fun ad e => Nat.le_trans (Nat.le_of_eq (szS _ _ _).symm) (hA3 ad e))
 case rest =>
 obtain ⟨A,n,c,L,k,fr',hI,hgc,hA⟩:=hcut
 have HN:=Lib.hid (pfS_nums s)
 have HX:=Lib.hid (pfS_ok HSX.out)
 have HLN:=Lib.hid (pfC_len s cs)
 have HAt:=Lib.hid (show (pfS s).f = s.f ∧ (pfS s).g = s.g ∧ (pfS s).b = s.b from by unfold pfS;split;unfold fdS;split <;> exact ⟨rfl,rfl,rfl⟩;exact ⟨rfl,rfl,rfl⟩)
 obtain ⟨s1,hs1⟩ : ∃ s1,s1 = pfS s:=⟨_,rfl⟩
 obtain ⟨cs1,hcs1⟩ : ∃ cs1,cs1 = pfC s cs:=⟨_,rfl⟩
 have HS1:=Lib.hid hs1
 have HCS1:=Lib.hid hcs1
 rw [← hs1] at hI HN HX HAt
 rw [← hcs1] at hI HLN
 clear hs1 hcs1
 have HIc:=Lib.hid hI
 have HGc:=Lib.hid hgc
 have HCc:=Lib.hid (HC2.out.far hgc hgne)
 have hSc:=hI.1
 have hltc:=hSc.lt
 have hzc:=hgc.size
 have hcol0 : (0 : Int) ≤ s1.col:=HX.out.2.1.2.2.1
 have hcol1 : s1.col < 100:=by have h1:=HX.out.2.1.2.2.2;have h2:=HX.out.1.2.2.2;omega
 have HCN:=Lib.hid (show s1.Cn ≤ 100 from HX.out.1.2.2.2)
 have hA':=Lib.hid hA
 clear x4 x5 x18 z4 hS2
 have x3:=hSc.cell 3 (v:=.int .i64 s1.row) rfl
 have x4:=hSc.cell 4 (v:=.int .i64 s1.col) rfl
 clear hI hgc HX HI2 HI1 HI hA
 go_upto_region 5 with (fail)
 have HY:=Lib.hid (show ∀ w',Bw wc w' → (w'.cell? ⟨g,3,none⟩ = some (.int .i64 s1.row) ∧ w'.cell? ⟨g,4,none⟩ = some (.int .i64 s1.col)) from fun w' hb => ⟨(hSc.up hb).cell 3 rfl,(hSc.up hb).cell 4 rfl⟩)
 refine wp_region_held_drew (S:=(fun w' => w'.cell? ⟨g,3,none⟩ = some (.int .i64 s1.row) ∧ w'.cell? ⟨g,4,none⟩ = some (.int .i64 s1.col))) (by kernel_rfl) ?_ (fun hHeld => ?_)
 ·(try dsimp only);(refine HY.out _ ?_;exact BWX)
 refine tkQ 0 ?_
 refine tkQ 1 ?_
 (try simp only [Act.put,zP1,zP2,zP3,zP4,zP5,zP6])
 refine tkQ 2 ?_
 refine tkQ 3 ?_
 refine tkQ 4 ?_
 (try simp only [Act.put,zP1,zP2,zP3,zP4,zP5,zP6])
 refine tkQ 5 ?_
 refine tkQ 6 ?_
 refine tkQ 7 ?_
 (try simp only [Act.put,zP1,zP2,zP3,zP4,zP5,zP6])
 refine tkQ 8 ?_
 refine tkQ 9 ?_
 refine tkQ 10 ?_
 (try simp only [Act.put,zP1,zP2,zP3,zP4,zP5,zP6])
 refine tkQ 11 ?_
 (try simp only [Act.put,zP1,zP2,zP3,zP4,zP5,zP6])
 refine wpAnyH_ready (rs:=[12]) (by kernel_rfl) (by simp) ?_
 refine AllReadyH.cons rfl (fun K hK => ?_) ?_
 ·go_simp
  refine hK.out _ _ ?_ (fun hHeld => ?_)
  ·(try dsimp only);(refine HY.out _ ?_;exact BWX)
  clear hK K
  (try simp only [Act.put,zP1,zP2,zP3,zP4,zP5,zP6])
  refine wpAnyH_ready (rs:=[13]) (by kernel_rfl) (by simp) ?_
  refine AllReadyH.cons rfl (fun K hK => ?_) ?_
  ·go_simp
   refine hK.out _ _ ?_ (fun hHeld => ?_)
   ·(try dsimp only);(refine HY.out _ ?_;exact BWX)
   clear hK K
   (try simp only [Act.put,zP1,zP2,zP3,zP4,zP5,zP6])
   refine wpAnyH_done (by kernel_rfl) ?_ _
   go_upto_region 6 with (fail)
   have x0:=hSc.cell 0 (v:=.int .i64 (s1.Rn : Int)) rfl
   have x1:=hSc.cell 1 (v:=.int .i64 (s1.Cn : Int)) rfl
   have x2:=hSc.cell 2 (v:=.slice A n c) rfl
   have HY:=Lib.hid (show ∀ w',Bw wc w' → (w'.cell? ⟨w.heap.size,0,none⟩ = some (.int .i64 x) ∧ w'.cell? ⟨w.heap.size,1,none⟩ = some (.int .i64 s.f) ∧ w'.cell? ⟨w.heap.size,2,none⟩ = some (.int .i64 s.g) ∧ w'.cell? ⟨w.heap.size,3,none⟩ = some (.int .i64 s.b)) from fun w' hb => ⟨(HCc.out.up hb).cell 0 rfl,(HCc.out.up hb).cell 1 rfl,(HCc.out.up hb).cell 2 rfl,(HCc.out.up hb).cell 3 rfl⟩)
   refine wp_region_held_drew (S:=(fun w' => w'.cell? ⟨w.heap.size,0,none⟩ = some (.int .i64 x) ∧ w'.cell? ⟨w.heap.size,1,none⟩ = some (.int .i64 s.f) ∧ w'.cell? ⟨w.heap.size,2,none⟩ = some (.int .i64 s.g) ∧ w'.cell? ⟨w.heap.size,3,none⟩ = some (.int .i64 s.b))) (by kernel_rfl) ?_ (fun hHeld => ?_)
   ·(try dsimp only);(first|exact HK6.out|(refine HY.out _ ?_;exact BWX))
   refine tkQ 0 ?_
   refine tkQ 1 ?_
   (try simp only [Act.put,zP1,zP2,zP3,zP4,zP5,zP6])
   refine tkQ 2 ?_
   refine tkQ 3 ?_
   refine tkQ 4 ?_
   (try simp only [Act.put,zP1,zP2,zP3,zP4,zP5,zP6])
   refine tkQ 6 ?_
   refine tkQ 7 ?_
   refine tkQ 8 ?_
   (try simp only [Act.put,zP1,zP2,zP3,zP4,zP5,zP6])
   refine tkQ 9 ?_
   refine tkQ 10 ?_
   (try simp only [Act.put,zP1,zP2,zP3,zP4,zP5,zP6])
   refine wpAnyH_ready (rs:=[5]) (by kernel_rfl) (by simp) ?_
   refine AllReadyH.cons rfl (fun K hK => ?_) ?_
   ·go_simp
    refine hK.out _ _ ?_ (fun hHeld => ?_)
    ·(try dsimp only);(first|exact HK6.out|(refine HY.out _ ?_;exact BWX))
    clear hK K
    (try simp only [Act.put,zP1,zP2,zP3,zP4,zP5,zP6])
    refine wpAnyH_ready (rs:=[11]) (by kernel_rfl) (by simp) ?_
    refine AllReadyH.cons rfl (fun K hK => ?_) ?_
    ·go_simp
     rw [IntWalk.i64_in (s1.col + 1) (by omega)];refine (gfill_any s1.Rn s1.Cn A n c cs1 s1.row s1.col (s1.col + 1) x s.f s.g s.b _ (HIc.out.2.1.up BWX) HIc.out.2.2.1 (by have:=(show n ≤ 3000 from HIc.out.2.2.2.2.1);omega) HIc.out.2.2.2.1).mono ?_;rintro ee w5 ⟨A',n',c',rfl,hr5,hn5,hc5,hnew5,hb5⟩;have hbw5 : Bw wc w5:=Bw.trans (show Bw wc _ from BWX) hb5;have HR5:=Lib.hid hr5;have HNW:=Lib.hid (show ∀ ad,A' = some ad → wc.heap.size ≤ ad.block from fun ad e => by have h1:=hnew5 ad e;first|omega|(simp only [szA,szS,szD,szN] at h1;omega));clear hr5 hnew5;go_wp2_with fail
     refine hK.out _ _ ?_ (fun hHeld => ?_)
     ·(try dsimp only);(first|exact HK6.out|(refine HY.out _ ?_;exact BWX))
     clear hK K
     (try simp only [Act.put,zP1,zP2,zP3,zP4,zP5,zP6])
     refine wpAnyH_ready (rs:=[12]) (by kernel_rfl) (by simp) ?_
     refine AllReadyH.cons rfl (fun K hK => ?_) ?_
     ·go_simp
      refine (cvpaint_any (s1.gr A n c) L (pfN s) k fr' s1.Rn s1.Cn A' n' c' g _ (HIc.out.1.up BWX)).mono ?_;rintro ee w6 ⟨rfl,hS6,hg6⟩;have hg56 : w5.grownBy w6 (some g):=(grown_bw (show Bw w5 _ from BWX) _).trans hg6;have HK6:=Lib.hid (And.intro (cell_far hHeld.1 hg6 hgne) (And.intro (cell_far hHeld.2.1 hg6 hgne) (And.intro (cell_far hHeld.2.2.1 hg6 hgne) (cell_far hHeld.2.2.2 hg6 hgne))));have HS6:=Lib.hid hS6;have HG6:=Lib.hid hg6;have HG56:=Lib.hid hg56;have x61:=hS6.cell 1 (v:=.int .i64 (s1.Cn : Int)) rfl;have x63:=hS6.cell 3 (v:=.int .i64 s1.row) rfl;have x64:=hS6.cell 4 (v:=.int .i64 s1.col) rfl;have x65:=hS6.cell 5 (v:=.bool s1.wrap) rfl;have x68:=hS6.cell 18 (v:=.bool s1.now) rfl;have z63:=hS6.free 3;have z64:=hS6.free 4;have z65:=hS6.free 5;clear hS6 hg6 hg56 x0 x1 x2 x3 x4;go_wp2_with fail
      refine hK.out _ _ ?_ (fun hHeld => ?_)
      ·(try dsimp only);(first|exact HK6.out|(refine HY.out _ ?_;exact BWX))
      clear hK K
      (try simp only [Act.put,zP1,zP2,zP3,zP4,zP5,zP6])
      refine wpAnyH_done (by kernel_rfl) ?_ _
      have hnn : ∀ ad,A' = some ad → some ad.block ≠ some g:=fun ad e e2 => by have:=HNW.out ad e;have:=Option.some.inj e2;omega
      have hl : n' ≤ 3000:=by have h1:=HR5.out.1;have h2:=(show cs1.length = n from HIc.out.2.1.1);have h3:=(show n ≤ 3000 from HIc.out.2.2.2.2.1);rw [fillG_len] at h1;omega
      have hgW : w.grownBy w6 (some g):=(grown_bw (Bw.trans hbw hbw2) _).trans (HGc.out.trans ((grown_bw hbw5 _).trans HG56.out))
      have hR6:=HR5.out.far HG56.out hnn
      have hnw : ∀ ad,A' = some ad → w.heap.size ≤ ad.block:=fun ad e => by have:=HNW.out ad e;omega
      have HF:=Lib.hid (And.intro hnn (And.intro hl (And.intro hgW (And.intro hR6 hnw))))
      clear hnn hl hgW hR6 hnw
      have hcn:=HCN.out
      by_cases hq : s1.col = (s1.Cn : Int) - 1
      ·have c4 : (s1.col == (s1.Cn : Int) - 1) = true:=by simpa using hq
       have HQ:=Lib.hid (show ptE s1 = { s1 with wrap := !s1.now } from if_pos hq)
       clear hq
       go_wp2_with fail
       go_end0
       obtain ⟨f1,f2,f3,f4,f5⟩:=HF.out
       unfold ptS ptC
       rw [← HS1.out,← HCS1.out,HQ.out,← HN.out.1,← HN.out.2.1]
       exact ⟨rfl,A',n',c',L,k,⟨HS6.out.set 5 _ rfl,f4.far (grown_set (grown_refl _ _) 5 _) f1,hn5,hc5,f2,f1⟩,grown_set f3 5 _,.inr f5⟩
      ·have c4 : (s1.col == (s1.Cn : Int) - 1) = false:=by simpa using hq
       have HQ:=Lib.hid (show ptE s1 = { s1 with col:=s1.col + 1,wrap:=false } from if_neg hq)
       clear hq
       go_wp2_with fail
       go_end0
       obtain ⟨f1,f2,f3,f4,f5⟩:=HF.out
       unfold ptS ptC
       rw [← HS1.out,← HCS1.out,HQ.out,← HN.out.1,← HN.out.2.1]
       exact ⟨rfl,A',n',c',L,k,⟨((HS6.out.set 3 _ rfl).set 4 _ rfl).set 5 _ rfl,f4.far (grown_set (grown_set (grown_set (grown_refl _ _) 3 _) 4 _) 5 _) f1,hn5,hc5,f2,f1⟩,grown_set (grown_set (grown_set f3 3 _) 4 _) 5 _,.inr f5⟩
     exact AllReadyH.nil
    exact AllReadyH.nil
   exact AllReadyH.nil
  exact AllReadyH.nil
 exact AllReadyH.nil

theorem Sb.drew {w : World} {g : Nat} {cs : Array Value} {T : TypeId} (h : Sb w g cs T) : Sb w.drew g cs T:=h
theorem avalid_agg (f g b : Int) (w : World) : Calls Tryz.prog 33 #[.agg #[.int .i64 f,.int .i64 g,.int .i64 b]] w fun e w' => e = .returned (.bool (avB f g b)) ∧ w.alloc (.cells #[.int .i64 f,.int .i64 g,.int .i64 b] 30) = w':=avalid_any f g b w
set_option maxRecDepth 100000 in
set_option maxHeartbeats 1000000 in
theorem svalid_ok (s : Scr) (w : World) (hs : s.Ok w) : Calls Tryz.prog 11 #[.agg s.vals.toArray] w fun e w' => e = .returned (.bool true) ∧ Bw w w':=by
 obtain ⟨Rn,Cn,A,n,c,row,col,wrap,f,g,b,top,bot,srow,scol,swrap,sf,sg,sb,hid,now⟩:=s
 obtain ⟨⟨h1,h2,h3,h4,h5,h6,h7,cs,hr,hv⟩,k1,k2,k3,k4,k5⟩:=hs
 dsimp only at h1 h2 h3 h4 h5 h6 h7 hr hv k1 k2 k3 k4 k5
 have HR:=Lib.hid hr
 have HV:=Lib.hid hv
 have HA:=Lib.hid k2
 have HS:=Lib.hid k5
 have V1:=Lib.hid (vld_yes k1)
 have V2:=Lib.hid (vld_yes k4)
 obtain ⟨t0,t1,t2⟩:=k3
 clear hr hv k2 k5 h5 k1 k4
 unfold Scr.vals
 dsimp only
 go_enter Tryz.func11,Tryz.ntmps11
 go_upto_region 1 with (fail)
 generalize hw1 : w.alloc _ = w1
 obtain ⟨hb0,hbw,hz⟩:=sb1 hw1
 have HB:=Lib.hid hb0
 have hzz : w.heap.size < w1.heap.size:=by omega
 have HY:=Lib.hid (show ∀ w',Bw w1 w' → (w'.cell? ⟨w.heap.size,0,none⟩ = some (.int .i64 (Rn : Int)) ∧ w'.cell? ⟨w.heap.size,1,none⟩ = some (.int .i64 (Cn : Int)) ∧ w'.cell? ⟨w.heap.size,2,none⟩ = some (.slice A n c) ∧ w'.cell? ⟨w.heap.size,9,none⟩ = some (.int .i64 top) ∧ w'.cell? ⟨w.heap.size,10,none⟩ = some (.int .i64 bot)) from fun w' hb => ⟨(HB.out.up hb).cell 0 rfl,(HB.out.up hb).cell 1 rfl,(HB.out.up hb).cell 2 rfl,(HB.out.up hb).cell 9 rfl,(HB.out.up hb).cell 10 rfl⟩)
 clear hw1 hb0 hz
 go_cut [3,4] (fun a b w' => ∃ ga gb,a = .pointer (some ⟨ga,0,none⟩) ∧ b = .pointer (some ⟨gb,0,none⟩) ∧ Sb w' ga #[.int .i64 (Rn : Int),.int .i64 (Cn : Int),.slice A n c] 26 ∧ Sb w' gb #[.int .i64 top,.int .i64 bot] 32 ∧ Bw w1 w')
 case first =>
  refine wp_region_held_drew (S:=(fun w' => w'.cell? ⟨w.heap.size,0,none⟩ = some (.int .i64 (Rn : Int)) ∧ w'.cell? ⟨w.heap.size,1,none⟩ = some (.int .i64 (Cn : Int)) ∧ w'.cell? ⟨w.heap.size,2,none⟩ = some (.slice A n c) ∧ w'.cell? ⟨w.heap.size,9,none⟩ = some (.int .i64 top) ∧ w'.cell? ⟨w.heap.size,10,none⟩ = some (.int .i64 bot))) (by kernel_rfl) ?_ (fun hHeld => ?_)
  ·(try dsimp only);(refine HY.out _ ?_;exact BWX)
  refine tkQ 0 ?_
  (try simp only [Act.put,zP1,zP2,zP3,zP4,zP5,zP6])
  refine tkQ 1 ?_
  refine tkQ 2 ?_
  refine tkQ 3 ?_
  (try simp only [Act.put,zP1,zP2,zP3,zP4,zP5,zP6])
  refine wpAnyH_ready (rs:=[4,5]) (by kernel_rfl) (by simp) ?_
  refine AllReadyH.cons rfl (fun K hK => ?_) ?_
  ·go_simp
   refine hK.out _ _ ?_ (fun hHeld => ?_)
   ·(try dsimp only);(refine HY.out _ ?_;exact BWX)
   clear hK K
   (try simp only [Act.put,zP1,zP2,zP3,zP4,zP5,zP6])
   refine wpAnyH_ready (rs:=[5]) (by kernel_rfl) (by simp) ?_
   refine AllReadyH.cons rfl (fun K hK => ?_) ?_
   ·go_simp
    refine hK.out _ _ ?_ (fun hHeld => ?_)
    ·(try dsimp only);(refine HY.out _ ?_;exact BWX)
    clear hK K
    (try simp only [Act.put,zP1,zP2,zP3,zP4,zP5,zP6])
    refine wpAnyH_ready (rs:=[6]) (by kernel_rfl) (by simp) ?_
    refine AllReadyH.cons rfl (fun K hK => ?_) ?_
    ·go_simp
     refine hK.out _ _ ?_ (fun hHeld => ?_)
     ·(try dsimp only);(refine HY.out _ ?_;exact BWX)
     clear hK K
     (try simp only [Act.put,zP1,zP2,zP3,zP4,zP5,zP6])
     refine wpAnyH_ready (rs:=[7]) (by kernel_rfl) (by simp) ?_
     refine AllReadyH.cons rfl (fun K hK => ?_) ?_
     ·go_simp
      refine hK.out _ _ ?_ (fun hHeld => ?_)
      ·(try dsimp only);(refine HY.out _ ?_;exact BWX)
      clear hK K
      (try simp only [Act.put,zP1,zP2,zP3,zP4,zP5,zP6])
      refine wpAnyH_done (by kernel_rfl) ?_ _
      go_wp2_with fail
      go_meet
      case rel => first
       | exact ⟨w1.heap.size,w1.heap.size + 1,rfl,rfl,(sb2 rfl).1.drew,(sb2 rfl).2.1.drew,BWX⟩
       | exact ⟨w1.heap.size + 1,w1.heap.size,rfl,rfl,(sb2 rfl).2.1.drew,(sb2 rfl).1.drew,BWX⟩
     exact AllReadyH.nil
    exact AllReadyH.nil
   exact AllReadyH.nil
  refine AllReadyH.cons rfl (fun K hK => ?_) ?_
  ·go_simp
   refine hK.out _ _ ?_ (fun hHeld => ?_)
   ·(try dsimp only);(refine HY.out _ ?_;exact BWX)
   clear hK K
   (try simp only [Act.put,zP1,zP2,zP3,zP4,zP5,zP6])
   refine wpAnyH_ready (rs:=[4]) (by kernel_rfl) (by simp) ?_
   refine AllReadyH.cons rfl (fun K hK => ?_) ?_
   ·go_simp
    refine hK.out _ _ ?_ (fun hHeld => ?_)
    ·(try dsimp only);(refine HY.out _ ?_;exact BWX)
    clear hK K
    (try simp only [Act.put,zP1,zP2,zP3,zP4,zP5,zP6])
    refine wpAnyH_ready (rs:=[6]) (by kernel_rfl) (by simp) ?_
    refine AllReadyH.cons rfl (fun K hK => ?_) ?_
    ·go_simp
     refine hK.out _ _ ?_ (fun hHeld => ?_)
     ·(try dsimp only);(refine HY.out _ ?_;exact BWX)
     clear hK K
     (try simp only [Act.put,zP1,zP2,zP3,zP4,zP5,zP6])
     refine wpAnyH_ready (rs:=[7]) (by kernel_rfl) (by simp) ?_
     refine AllReadyH.cons rfl (fun K hK => ?_) ?_
     ·go_simp
      refine hK.out _ _ ?_ (fun hHeld => ?_)
      ·(try dsimp only);(refine HY.out _ ?_;exact BWX)
      clear hK K
      (try simp only [Act.put,zP1,zP2,zP3,zP4,zP5,zP6])
      refine wpAnyH_done (by kernel_rfl) ?_ _
      go_wp2_with fail
      go_meet
      case rel => first
       | exact ⟨w1.heap.size,w1.heap.size + 1,rfl,rfl,(sb2 rfl).1.drew,(sb2 rfl).2.1.drew,BWX⟩
       | exact ⟨w1.heap.size + 1,w1.heap.size,rfl,rfl,(sb2 rfl).2.1.drew,(sb2 rfl).1.drew,BWX⟩
     exact AllReadyH.nil
    exact AllReadyH.nil
   exact AllReadyH.nil
  exact AllReadyH.nil
 case rest =>
 obtain ⟨ga,gb,rfl,rfl,hga,hgb,hbc⟩:=hcut
 have hzc:=hbc.size
 have hla:=hga.lt
 have hlb:=hgb.lt
 have HBc:=Lib.hid (HB.out.up hbc)
 have HRc:=Lib.hid (HR.out.up (Bw.trans hbw hbc))
 have a0:=hga.cell 0 (v:=.int .i64 (Rn : Int)) rfl
 have a1:=hga.cell 1 (v:=.int .i64 (Cn : Int)) rfl
 have a2:=hga.cell 2 (v:=.slice A n c) rfl
 have b0:=hgb.cell 0 (v:=.int .i64 top) rfl
 have b1:=hgb.cell 1 (v:=.int .i64 bot) rfl
 have x3:=HBc.out.cell 3 (v:=.int .i64 row) rfl
 have x4:=HBc.out.cell 4 (v:=.int .i64 col) rfl
 have x5:=HBc.out.cell 5 (v:=.bool wrap) rfl
 have x6:=HBc.out.cell 6 (v:=.int .i64 f) rfl
 have x7:=HBc.out.cell 7 (v:=.int .i64 g) rfl
 have x8:=HBc.out.cell 8 (v:=.int .i64 b) rfl
 have x11:=HBc.out.cell 11 (v:=.int .i64 srow) rfl
 have x12:=HBc.out.cell 12 (v:=.int .i64 scol) rfl
 have x13:=HBc.out.cell 13 (v:=.bool swrap) rfl
 have x14:=HBc.out.cell 14 (v:=.int .i64 sf) rfl
 have x15:=HBc.out.cell 15 (v:=.int .i64 sg) rfl
 have x16:=HBc.out.cell 16 (v:=.int .i64 sb) rfl
 have hbwc : Bw w wc:=Bw.trans hbw hbc
 have hzcc : w.heap.size < wc.heap.size:=by omega
 clear hga hgb hbc HY HB HBc
 go_wp2_with (first
  | (go_at_call 31;refine (ggvalid_any _ _ _ _ _ cs _ (by exact HRc.out.up BWX) h6 h7).mono ?_;rintro ee wv ⟨rfl,hbv⟩;rw [HV.out];obtain ⟨L,d,rfl⟩:=Bw.isPlus hbv;clear hbv)
  | (go_at_call 32;((with_reducible refine (cvalid_any row col _ _ wrap _).mono ?_);rintro ee ww ⟨rfl,rfl⟩;rw [V1.out]))
  | (go_at_call 32;((with_reducible refine (cvalid_any srow scol _ _ swrap _).mono ?_);rintro ee ww ⟨rfl,rfl⟩;rw [V2.out]))
  | (go_at_call 33;((with_reducible refine (avalid_agg f g b _).mono ?_);rintro ee ww ⟨rfl,rfl⟩;rw [HA.out]))
  | (go_at_call 33;((with_reducible refine (avalid_agg sf sg sb _).mono ?_);rintro ee ww ⟨rfl,rfl⟩;rw [HS.out]))
  | fail)
 go_ret
 exact ⟨rfl,BWX⟩

/-- A new screen. -/
def newSc (R C : Nat) (A : Option Addr) (n c : Nat) : Scr:=⟨R,C,A,n,c,0,0,false,0,0,0,0,(R : Int) - 1,0,0,false,0,0,0,false,false⟩
set_option maxRecDepth 100000 in
set_option maxHeartbeats 1000000 in
theorem snew_any (rows cols : Int) (Rn Cn : Nat) (w : World) (hR : clamp rows 30 = Rn) (hC : clamp cols 100 = Cn) : Calls Tryz.prog 18 #[.int .i64 rows,.int .i64 cols] w fun e w' => ∃ A n c,e = .returned (.agg (newSc Rn Cn A n c).vals.toArray) ∧ Rg w' A n (List.replicate (Rn * Cn) blk) ∧ n ≤ c ∧ c ≤ 9223372036854775807 ∧ (∀ ad,A = some ad → w.heap.size ≤ ad.block) ∧ Bw w w':=by
 have hbd:=clamp_bd rows 30 (by omega)
 have HRn:=Lib.hid hR
 have HCn:=Lib.hid hC
 rw [hR] at hbd
 clear hR hC
 go_enter Tryz.func18,Tryz.ntmps18
 go_upto_region 1 with (fail)
 generalize hw1 : w.alloc _ = w1
 obtain ⟨hb0,hbw,hz⟩:=sb1 hw1
 have HB0:=Lib.hid (show ∃ old,Sb w1 w.heap.size old 34 ∧ old.size = 19 from ⟨_,hb0,rfl⟩)
 have hz1 : w.heap.size < w1.heap.size:=by omega
 clear hw1 hb0 hz
 go_upto_region 2 with (go_at_call 34;refine (gnew16_any _ _ _).mono ?_;rw [HRn.out,HCn.out];rintro ee w2 ⟨A,n,c,rfl,hG,hnc,hc,hN,hb2⟩;have HB02:=Lib.hid (show ∃ old,Sb w2 w.heap.size old 34 ∧ old.size = 19 from (Exists.elim HB0.out (fun old h => ⟨old,h.1.up hb2,h.2⟩)));have hbw2:=Bw.trans hbw hb2;have hz2:=hb2.size;have HG2:=Lib.hid hG;have HN:=Lib.hid hN;clear hG hN hb2)
 generalize hw3 : w2.alloc _ = w3
 obtain ⟨hb3,hbw3,hz3⟩:=sb1 hw3
 have HG3:=Lib.hid (HG2.out.up hbw3)
 have HB03:=Lib.hid (show ∃ old,Sb w3 w.heap.size old 34 ∧ old.size = 19 from (Exists.elim HB02.out (fun old h => ⟨old,h.1.up hbw3,h.2⟩)))
 have y0:=hb3.cell 0 (v:=.int .i64 (Rn : Int)) rfl
 have y1:=hb3.cell 1 (v:=.int .i64 (Cn : Int)) rfl
 have y2:=hb3.cell 2 (v:=.slice A n c) rfl
 clear hw3 hb3
 go_wp2_with (first
  | ((with_reducible refine wpList_store_sc (newSc Rn Cn A n c) w.heap.size (.tmp 4) (.tmp 14) rfl rfl ?_ ?_ ?_ ?_);(focus rfl);(focus rfl);(focus (exact HB03.out));intro w5 hS5 hg5;have HS5:=Lib.hid hS5;have HG5:=Lib.hid hg5;clear hS5 hg5)
  | fail)
 refine bodyPost_ret (results_sc rfl _ _ w.heap.size (newSc Rn Cn A n c) (by rfl) HS5.out) rfl ?_
 have hne : ∀ ad,A = some ad → some ad.block ≠ some w.heap.size:=fun ad e e2 => by have:=HN.out ad e;have:=Option.some.inj e2;omega
 refine ⟨A,n,c,rfl,?_,hnc,hc,(fun ad e => by have:=HN.out ad e;omega),Bw.grown (Bw.trans hbw2 hbw3) HG5.out (fun k hk => by cases hk;omega)⟩
 have h:=HG3.out.far HG5.out hne
 rw [show ((Rn : Int) * (Cn : Int)).toNat = Rn * Cn by rw [← Int.natCast_mul];exact Int.toNat_natCast _] at h
 exact h

theorem infoCv : (Tryz.prog.info? 75).map (·.size) = some 21:=by kernel_rfl
theorem infoCz (s : Scr) (L : Option Addr) (m k : Nat) (fr : Bool) : (Tryz.prog.info? 75).map (·.size) = some (cvV s L m k fr).size:=infoCv
theorem cvV_one (s : Scr) (L : Option Addr) (m k : Nat) (fr : Bool) : (cvV s L m k fr).all (·.oneCell') = true:=all_oneCell_toArray (fun v hv => by
 rcases List.mem_append.mp hv with h|h
 ·exact (Array.all_eq_true_iff_forall_mem.1 s.one) v (by simpa using h)
 ·simp only [List.mem_cons,List.not_mem_nil,or_false] at h
  rcases h with rfl|rfl <;> rfl)
theorem cvRange {w : World} {g : Nat} {s : Scr} {L : Option Addr} {m k : Nat} {fr : Bool} (h : Sb w g (cvV s L m k fr) 75) : w.rangeAt g 0 s.vals:=fun j v hv => by
 have hj : j < s.vals.length:=(List.getElem?_eq_some_iff.1 hv).1
 rw [Nat.zero_add]
 refine h.cell j ?_
 show (s.vals ++ _).toArray[j]? = some v
 rw [List.getElem?_toArray,List.getElem?_append_left hj]
 exact hv
theorem cv_built (s : Scr) : Tryz.prog.built 75 [(0,.agg s.vals.toArray)] = some (cvV s none 0 0 false):=by kernel_rfl
theorem wpList_build_cv {ops : Array Oper} {rest : List Oper} {o : Oper} {a : Act} {w : World} {Q : Exit → Act → World → Prop} (s : Scr) (x : Operand) (ho : o.op = .build 75 #[(0,x)]) (hgd : o.guard = none) (hx : a.eval x = .agg s.vals.toArray)
  (h : wpList Tryz.prog ops Q rest (a.put o.dst (.agg (cvV s none 0 0 false))) w) : wpList Tryz.prog ops Q (o :: rest) a w:=by
 have e : ((#[(0,x)] : Array (Nat × Operand)).map fun (i,x) => (i,a.eval x)).toList = [(0,.agg s.vals.toArray)]:=by
  simp only [List.map_toArray,List.map_cons,List.map_nil,hx]
 refine wpList_build hgd 75 _ ho ?_ ?_
 ·rw [e,cv_built];rfl
 ·rw [e,cv_built];exact h
/-- Apply returns the screen s with the cells cs, and m rows. -/
def ApP (w : World) (A0 : Option Addr) (s : Scr) (cs : List C4) (m : Nat) (e : Ending) (w' : World) : Prop :=
 ∃ A n c L k,e = .returned (.tuple #[.agg (s.gr A n c).vals.toArray,.slice L m k]) ∧ Rg w' A n cs ∧ n ≤ c ∧ c ≤ 9223372036854775807 ∧ An w A0 A ∧ Bw w w'
theorem Scr.Ok.num {w : World} {s : Scr} (h : s.Ok w) : ScX s:=by
 obtain ⟨⟨h1,h2,h3,h4,-⟩,k1,k2,k3,k4,k5⟩:=h
 exact ⟨⟨h1,h2,h3,h4⟩,k1,k2,k3,k4,k5⟩

set_option maxRecDepth 100000 in
set_option maxHeartbeats 800000 in
theorem sapply_gen (kd nm pv : Int) (PA : Option Addr) (pn pc : Nat) (f : FuncId) (s s' : Scr) (cs cs' : List C4) (m : Nat) (fr' : Bool) (w : World) (hs : s.Ok w) (hr : Rg w s.A s.n cs) (hsA : s'.A = s.A)
  (hk : (kd = 1 ∧ f = 25) ∨ (kd = 2 ∧ f = 26) ∨ (kd = 3 ∧ f = 27))
  (hm : ∀ g w1,CvI w1 g s cs none 0 0 false → Calls Tryz.prog f #[.pointer (some ⟨g,0,none⟩),.int .i64 nm] w1 (CvR w1 g s' cs' m fr')) :
  Calls Tryz.prog 10 #[.agg s.vals.toArray,.agg #[.int .i64 kd,.int .i64 nm,.int .i64 pv,.slice PA pn pc]] w (ApP w s.A s' cs' m):=by
 have HOK:=Lib.hid hs
 have HR:=Lib.hid hr
 have HM:=Lib.hid hm
 have HSA:=Lib.hid hsA
 have HK:=Lib.hid hk
 have HN:=Lib.hid (show s.n ≤ s.c ∧ s.c ≤ 9223372036854775807 ∧ s.n ≤ 3000 from by
  obtain ⟨⟨h1,h2,h3,h4,h5,h6,h7,-⟩,-⟩:=hs
  exact ⟨h6,h7,by rw [h5];have:=Nat.mul_le_mul h2 h4;omega⟩)
 clear hs hr hm hsA hk
 go_enter Tryz.func10,Tryz.ntmps10
 go_upto_region 1 with (fail)
 generalize hwa : w.alloc (.cells s.vals.toArray 34) = wa
 obtain ⟨ha0,hbwa,hza⟩:=sb1 hwa
 generalize hwb : wa.alloc _ = wb
 obtain ⟨hb0,hbwb,hzb⟩:=sb1 hwb
 generalize hw1 : wb.alloc _ = w1
 obtain ⟨hc0,hbwc,hzc⟩:=sb1 hw1
 rw [hzb,hza] at hc0
 rw [hza] at hb0
 have HA:=Lib.hid ((ha0.up hbwb).up hbwc)
 have HB:=Lib.hid (hb0.up hbwc)
 have HT:=Lib.hid (show ∃ old,Sb w1 (w.heap.size + 1 + 1) old 34 ∧ old.size = 19 from ⟨_,hc0,rfl⟩)
 have hbw:=Bw.trans (Bw.trans hbwa hbwb) hbwc
 have hz1 : w.heap.size + 1 + 1 < w1.heap.size:=by omega
 clear hwa ha0 hbwa hza hwb hb0 hbwb hzb hw1 hc0 hbwc hzc
 go_upto_region 2 with (first
  | ((with_reducible refine wpList_load_sc s w.heap.size (.tmp 2) rfl rfl ?_ ?_ ?_);(focus rfl);(focus (exact HA.out)))
  | ((with_reducible refine wpList_build_cv s _ rfl rfl ?_ ?_);(focus rfl))
  | ((with_reducible refine wpList_store_cs 75 (cvV s none 0 0 false) w1.heap.size (.tmp 6) (.tmp 8) (infoCz s none 0 0 false) (cvV_one s none 0 0 false) rfl rfl ?_ ?_ ?_ ?_);(focus rfl);(focus rfl);(focus (exact ⟨_,heap_at (by simp),rfl⟩));intro w2 hS2 hg2;have HS2:=Lib.hid hS2;have hbw2 : Bw w1 w2:=Bw.grown (show Bw w1 _ from BWX) hg2 (fun k hk => by cases hk;omega);clear hS2 hg2)
  | fail)
 have hlt2:=HS2.out.lt
 obtain ⟨g,hg⟩ : ∃ g,g = w1.heap.size:=⟨_,rfl⟩
 rw [← hg] at HS2 hlt2 ⊢
 have hgz : w.heap.size + 1 + 1 < g:=by omega
 have hbw02:=Bw.trans hbw hbw2
 clear hg
 go_upto_if 10 with (first
  | ((with_reducible refine wpList_load_sc s w.heap.size (.tmp 2) rfl rfl ?_ ?_ ?_);(focus rfl);(focus (exact HA.out.up hbw2)))
  | (go_at_call 11;refine (svalid_ok s _ (HOK.out.up BWX)).mono ?_;rintro ee w3 ⟨rfl,hb3⟩;have hbw3 : Bw w2 w3:=Bw.trans (show Bw w2 _ from BWX) hb3;clear hb3)
  | fail)
 have HI:=Lib.hid (show CvI w3 g s cs none 0 0 false from ⟨HS2.out.up hbw3,HR.out.up (Bw.trans hbw02 hbw3),HN.out.1,HN.out.2.1,HN.out.2.2,fun ad e e2 => by
  have h0 : 0 < s.n:=by
   obtain ⟨⟨h1,h2,h3,h4,h5,-⟩,-⟩:=HOK.out
   rw [h5];exact Nat.mul_pos (by omega) (by omega)
  obtain ⟨b,o,e3,hx⟩:=HR.out.2 h0
  have h4:=lt_of_cell (hx 0 (by rw [HR.out.1];exact h0)).1
  rw [e] at e3
  have e5:=Option.some.inj e2
  have e6:=congrArg Addr.block (Option.some.inj e3)
  simp only at e6 h4
  omega⟩)
 have HB3:=Lib.hid (HB.out.up (Bw.trans hbw2 hbw3))
 have HT3:=Lib.hid (show ∃ old,Sb w3 (w.heap.size + 1 + 1) old 34 ∧ old.size = 19 from Exists.elim HT.out (fun old h => ⟨old,h.1.up (Bw.trans hbw2 hbw3),h.2⟩))
 have hbw03:=Bw.trans hbw02 hbw3
 have hlt3:=HI.out.1.lt
 have x0:=HB3.out.cell 0 (v:=.int .i64 kd) rfl
 have x1:=HB3.out.cell 1 (v:=.int .i64 nm) rfl
 clear hbw hbw2 hbw3 hbw02 HS2 HA HB HT hlt2 HN HR
 go_cut [] (fun w' => ∃ A n c L k,CvI w' g (s'.gr A n c) cs' L m k fr' ∧ w3.grownBy w' (some g) ∧ ((A = s'.A ∧ n = s'.n ∧ c = s'.c) ∨ ∀ ad,A = some ad → w3.heap.size ≤ ad.block))
 case first =>
  have ARM:=HM.out g
  rcases HK.out with ⟨rfl,rfl⟩|⟨rfl,rfl⟩|⟨rfl,rfl⟩
  ·go_wp2_with (first
    | (go_at_call 25;refine (ARM _ (HI.out.up BWX)).mono ?_;rintro ee w4 ⟨rfl,A,n,c,L,k,hI4,hg4,hA4⟩;have HI4:=Lib.hid hI4;have hb34:=(show Bw w3 _ from BWX);have HG4:=Lib.hid ((grown_bw hb34 (some g)).trans hg4);have hsz:=hb34.size;clear hI4 hg4)
    | fail)
   go_meet
   case rel => exact ⟨A,n,c,L,k,HI4.out,HG4.out,hA4.imp id (fun h ad e => Nat.le_trans hsz (h ad e))⟩
  ·go_wp2_with (first
    | (go_at_call 26;refine (ARM _ (HI.out.up BWX)).mono ?_;rintro ee w4 ⟨rfl,A,n,c,L,k,hI4,hg4,hA4⟩;have HI4:=Lib.hid hI4;have hb34:=(show Bw w3 _ from BWX);have HG4:=Lib.hid ((grown_bw hb34 (some g)).trans hg4);have hsz:=hb34.size;clear hI4 hg4)
    | fail)
   go_meet
   case rel => exact ⟨A,n,c,L,k,HI4.out,HG4.out,hA4.imp id (fun h ad e => Nat.le_trans hsz (h ad e))⟩
  ·go_wp2_with (first
    | (go_at_call 27;refine (ARM _ (HI.out.up BWX)).mono ?_;rintro ee w4 ⟨rfl,A,n,c,L,k,hI4,hg4,hA4⟩;have HI4:=Lib.hid hI4;have hb34:=(show Bw w3 _ from BWX);have HG4:=Lib.hid ((grown_bw hb34 (some g)).trans hg4);have hsz:=hb34.size;clear hI4 hg4)
    | fail)
   go_meet
   case rel => exact ⟨A,n,c,L,k,HI4.out,HG4.out,hA4.imp id (fun h ad e => Nat.le_trans hsz (h ad e))⟩
 case rest =>
 obtain ⟨wq,hwq⟩ : ∃ wq : World,wq = wc:=⟨_,rfl⟩
 subst hwq
 obtain ⟨A,n,c,L,k,hI,hgc,hA⟩:=hcut
 have HIc:=Lib.hid hI
 have HGc:=Lib.hid hgc
 have HAc:=Lib.hid hA
 have hltc:=hI.1.lt
 have hzc:=hgc.size
 have x20:=hI.1.cell 20 (v:=.bool fr') rfl
 have x2:=hI.1.cell 2 (v:=.slice A n c) rfl
 have z2:=hI.1.free 2
 have hn3 : n ≤ 3000:=hI.2.2.2.2.1
 clear hI hgc hA x0 x1
 go_upto_if 37 with (fail)
 go_cut [] (fun w' => ∃ A n c L k,Sb w' g (cvV (s'.gr A n c) L m k fr') 75 ∧ Rg w' A n cs' ∧ n ≤ c ∧ c ≤ 9223372036854775807 ∧ (A = s'.A ∨ ∀ ad,A = some ad → w3.heap.size ≤ ad.block) ∧ (∀ ad,A = some ad → some ad.block ≠ some g) ∧ wq.grownBy w' (some g))
 case first =>
  cases fr' with
  | true =>
   go_wp2_with fail
   go_meet
   case rel => exact ⟨A,n,c,L,k,HIc.out.1,HIc.out.2.1,HIc.out.2.2.1,HIc.out.2.2.2.1,HAc.out.imp (fun h => h.1) id,HIc.out.2.2.2.2.2,grown_refl _ _⟩
  | false =>
   go_wp2_with (first
    | (go_at_call 30;refine (gclone_any A n c cs' _ (HIc.out.2.1.up BWX) HIc.out.2.2.1 (by omega) HIc.out.2.2.2.1).mono ?_;rintro ee w4 ⟨v,rfl,hown,hb4⟩;obtain ⟨A4,c4,rfl,hc4,hc4m⟩:=own_form hown;have hbw4 : Bw wq w4:=Bw.trans (show Bw wq _ from BWX) hb4;have HO4:=Lib.hid hown;have HB4:=Lib.hid (HIc.out.1.up hbw4);have y2:=HB4.out.cell 2 (v:=.slice A n c) rfl;have v2:=HB4.out.free 2;clear hown hb4 x2 x20 z2)
    | fail)
   go_meet
   case rel =>
    have hnw : ∀ ad,A4 = some ad → wq.heap.size ≤ ad.block:=fun ad e => own_new HO4.out ad e
    exact ⟨A4,n,c4,L,k,HB4.out.set 2 _ rfl,(Rg.of_own HO4.out).far (grown_set (grown_refl _ _) 2 _) (fun ad e e2 => by have:=hnw ad e;have:=Option.some.inj e2;omega),hc4,hc4m,.inr (fun ad e => by have:=hnw ad e;omega),(fun ad e e2 => by have:=hnw ad e;have:=Option.some.inj e2;omega),grown_set (grown_bw hbw4 _) 2 _⟩
 case rest =>
 obtain ⟨A5,n5,c5,L5,k5,hS5,hr5,hn5,hc5,hA5,hne5,hg5⟩:=hcut
 have HS5:=Lib.hid hS5
 have HR5:=Lib.hid hr5
 have HG5:=Lib.hid hg5
 have HA5:=Lib.hid hA5
 have HN5:=Lib.hid hne5
 have hgt : some (w.heap.size + 1 + 1) ≠ some g:=fun e => by have:=Option.some.inj e;omega
 have HT5:=Lib.hid (show ∃ old,Sb wc (w.heap.size + 1 + 1) old 34 ∧ old.size = 19 from Exists.elim HT3.out (fun old h => ⟨old,(h.1.far HGc.out hgt).far hg5 hgt,h.2⟩))
 have hlt5:=hS5.lt
 have hz5:=hg5.size
 have HY:=Lib.hid (show ∀ w',Bw wc w' → (w'.cell? ⟨g,19,none⟩ = some (.slice L5 m k5)) from fun w' hb => (HS5.out.up hb).cell 19 rfl)
 clear hS5 hr5 hg5 hA5 hne5 x20 x2 z2
 go_upto_region 15 with (fail)
 refine wp_region_held_drew (S:=(fun w' => w'.cell? ⟨g,19,none⟩ = some (.slice L5 m k5))) (by kernel_rfl) ?_ (fun hHeld => ?_)
 ·(try dsimp only);(first|exact cell_far (HY.out _ (Bw.refl _)) HG6.out (fun e => hgt e.symm)|(refine HY.out _ ?_;exact BWX))
 refine tkQ 0 ?_
 refine tkQ 2 ?_
 refine tkQ 3 ?_
 (try simp only [Act.put,zP1,zP2,zP3,zP4,zP5,zP6])
 refine wpAnyH_ready (rs:=[1]) (by kernel_rfl) (by simp) ?_
 refine AllReadyH.cons rfl (fun K hK => ?_) ?_
 ·(refine (if_pos (by kernel_rfl)).mpr ?_);(refine wp_load_mid 34 (.tmp 46) ?ho g 0 ?_ (s'.gr A5 n5 c5).vals _ (cvRange (HS5.out.up ?hb)) Tryz.underlying34 rfl infoSc ?_);(case ho => rfl);(focus rfl);(case hb => ((repeat (first|with_reducible (first|assumption|exact Bw.refl _|refine Bw.alloc ?_ _|refine Bw.more ?_ _ _|refine Bw.drew ?_|refine Bw.drewN ?_ _)|((with_reducible refine Bw.set2 ?_ ?_ _);(focus exact SZX))|with_reducible refine Bw.trans ?_ (by assumption)));done))
  refine hK.out _ _ ?_ (fun hHeld => ?_)
  ·(try dsimp only);(first|exact cell_far (HY.out _ (Bw.refl _)) HG6.out (fun e => hgt e.symm)|(refine HY.out _ ?_;exact BWX))
  clear hK K
  (try simp only [Act.put,zP1,zP2,zP3,zP4,zP5,zP6])
  refine wpAnyH_ready (rs:=[4]) (by kernel_rfl) (by simp) ?_
  refine AllReadyH.cons rfl (fun K hK => ?_) ?_
  ·(refine (if_pos (by kernel_rfl)).mpr ?_);(with_reducible refine wp_store_sc (s'.gr A5 n5 c5) (w.heap.size + 1 + 1) (.tmp 4) (.tmp 47) ?ho2 ?_ ?_ ?_ ?_);(case ho2 => rfl);(focus rfl);(focus rfl);(focus (exact Exists.elim HT5.out (fun old h => ⟨old,h.1.up BWX,h.2⟩)));intro w6 hS6 hg6;have HS6:=Lib.hid hS6;have HG6:=Lib.hid ((grown_bw (show Bw wc _ from BWX) _).trans hg6);clear hS6 hg6
   refine hK.out _ _ ?_ (fun hHeld => ?_)
   ·(try dsimp only);(first|exact cell_far (HY.out _ (Bw.refl _)) HG6.out (fun e => hgt e.symm)|(refine HY.out _ ?_;exact BWX))
   clear hK K
   (try simp only [Act.put,zP1,zP2,zP3,zP4,zP5,zP6])
   refine wpAnyH_ready (rs:=[5]) (by kernel_rfl) (by simp) ?_
   refine AllReadyH.cons rfl (fun K hK => ?_) ?_
   ·go_simp
    refine hK.out _ _ ?_ (fun hHeld => ?_)
    ·(try dsimp only);(first|exact cell_far (HY.out _ (Bw.refl _)) HG6.out (fun e => hgt e.symm)|(refine HY.out _ ?_;exact BWX))
    clear hK K
    (try simp only [Act.put,zP1,zP2,zP3,zP4,zP5,zP6])
    refine wpAnyH_done (by kernel_rfl) ?_ _
    go_wp2_with fail
    refine bodyPost_ret (results_sc2 rfl _ _ (w.heap.size + 1 + 1) (s'.gr A5 n5 c5) (by rfl) HS6.out) rfl ?_
    have h35 : w3.grownBy w6 (some g) ∨ True:=.inr trivial
    refine ⟨A5,n5,c5,L5,k5,rfl,?_,hn5,hc5,?_,?_⟩
    ·refine HR5.out.far HG6.out (fun ad e e2 => ?_)
     rcases HA5.out with h|h
     ·have e3:=Option.some.inj e2
      rw [h,HSA.out] at e
      obtain ⟨⟨h1,h2,h3,h4,h5,h6,h7,cs0,hr0,-⟩,-⟩:=HOK.out
      have h0 : 0 < s.n:=by rw [h5];exact Nat.mul_pos (by omega) (by omega)
      obtain ⟨b,oo,e4,hx⟩:=hr0.2 h0
      have h8:=lt_of_cell (hx 0 (by rw [hr0.1];exact h0)).1
      rw [e] at e4
      have e6:=congrArg Addr.block (Option.some.inj e4)
      simp only at e6 h8
      omega
     ·have:=h ad e
      have e3:=Option.some.inj e2
      omega
    ·rcases HA5.out with h|h
     ·exact .inl (h.trans HSA.out)
     ·exact .inr (fun ad e => by have:=h ad e;have:=hbw03.size;omega)
    ·exact Bw.grown (Bw.grown hbw03 (HGc.out.trans HG5.out) (fun k hk => by cases hk;omega)) HG6.out (fun k hk => by cases hk;omega)
   exact AllReadyH.nil
  exact AllReadyH.nil
 exact AllReadyH.nil
end Go.Proofs.YtkflooljdopldaaGreat
