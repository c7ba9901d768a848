/- Parts of the proof, one after the other. -/
import Derived.Test.YteebdjmjeahccaaGreatDoorC14
set_option linter.unusedSimpArgs false
set_option linter.unusedVariables false
set_option maxRecDepth 100000
set_option maxHeartbeats 16000000
namespace Go.Proofs.YteebdjmjeahccaaGreatDoor
open Go.RowKit
theorem clamp_in {x hi : Int} (h : 1 ≤ x) (h2 : x ≤ hi) : clamp x hi = x:=by unfold clamp;rw [if_neg (by omega),if_neg (by omega)]
theorem rsescape_ok (s : Scr) (nn : Int) (w : World) (hs : s.Ok w) : Calls Tryz.prog 82 #[.agg s.vals.toArray,.int .i64 nn] w (ScL w s):=by
 have HOk:=Lib.hid hs
 have HAl:=Lib.hid hs.1.lt
 clear hs
 go_enter Tryz.func82,Tryz.ntmps82
 go_upto_region 1 with (fail)
 generalize hw1 : (w.alloc (.cells s.vals.toArray 46)).alloc _ = w1
 obtain ⟨hb0,hb1,hbw,hz⟩:=sb2 hw1
 have HB0:=Lib.hid hb0
 have HB1:=Lib.hid hb1
 have hz1 : w.heap.size + 1 < w1.heap.size:=by omega
 have HOk1:=Lib.hid (HOk.out.up hbw)
 have HNe0:=Lib.hid (show ∀ ad,s.A = some ad → ad.block ≠ w.heap.size from fun ad e => by have:=HAl.out ad e;omega)
 have HNe1:=Lib.hid (show ∀ ad,s.A = some ad → ad.block ≠ w.heap.size + 1 from fun ad e => by have:=HAl.out ad e;omega)
 have hne10 : w.heap.size + 1 ≠ w.heap.size:=by omega
 clear hw1 hb0 hb1 hz
 have hways : nn = 55 ∨ nn = 56 ∨ nn = 68 ∨ nn = 69 ∨ nn = 77 ∨ nn = 99 ∨ (¬ nn = 55 ∧ ¬ nn = 56 ∧ ¬ nn = 68 ∧ ¬ nn = 69 ∧ ¬ nn = 77 ∧ ¬ nn = 99):=by omega
 rcases hways with rfl|rfl|rfl|rfl|rfl|rfl|⟨q1,q2,q3,q4,q5,q6⟩
 ·(have x3:=HB0.out.cell 3 (v:=.int .i64 s.row) rfl;have x4:=HB0.out.cell 4 (v:=.int .i64 s.col) rfl;have x5:=HB0.out.cell 5 (v:=.bool s.wrap) rfl;have x6:=HB0.out.cell 6 (v:=.int .i64 s.f) rfl;have x7:=HB0.out.cell 7 (v:=.int .i64 s.g) rfl;have x8:=HB0.out.cell 8 (v:=.int .i64 s.b) rfl;have x11:=HB0.out.cell 11 (v:=.int .i64 s.srow) rfl;have x12:=HB0.out.cell 12 (v:=.int .i64 s.scol) rfl;have x13:=HB0.out.cell 13 (v:=.bool s.swrap) rfl;have x14:=HB0.out.cell 14 (v:=.int .i64 s.sf) rfl;have x15:=HB0.out.cell 15 (v:=.int .i64 s.sg) rfl;have x16:=HB0.out.cell 16 (v:=.int .i64 s.sb) rfl)
  (have z11:=HB0.out.free 11;have z12:=HB0.out.free 12;have z13:=HB0.out.free 13;have z14:=HB0.out.free 14;have z15:=HB0.out.free 15;have z16:=HB0.out.free 16)
  go_wp2_with (first
   | ((with_reducible refine wpList_load_sc ({ s with srow:=s.row,scol:=s.col,swrap:=s.wrap,sf:=s.f,sg:=s.g,sb:=s.b } : Scr) (w.heap.size) (.tmp 2) rfl rfl ?_ ?_ ?_);(focus rfl);(focus (exact ((((((HB0.out).set 11 _ rfl).set 12 _ rfl).set 13 _ rfl).set 14 _ rfl).set 15 _ rfl).set 16 _ rfl)))
   | ((with_reducible refine wpList_store_sc ({ s with srow:=s.row,scol:=s.col,swrap:=s.wrap,sf:=s.f,sg:=s.g,sb:=s.b } : Scr) (w.heap.size + 1) (.tmp 4) (.tmp 76) rfl rfl ?_ ?_ ?_ ?_);(focus rfl);(focus rfl);(focus (exact ⟨_,((((((HB1.out).away hne10 _).away hne10 _).away hne10 _).away hne10 _).away hne10 _).away hne10 _,rfl⟩));intro w3 hS3 hg3;have HS3:=Lib.hid hS3;have HG3:=Lib.hid hg3;clear hS3 hg3)
   | fail)
  have hO : s.Ok w3:=(((((((HOk1.out).away HNe0.out _ _).away HNe0.out _ _).away HNe0.out _ _).away HNe0.out _ _).away HNe0.out _ _).away HNe0.out _ _).far HG3.out (ne_some HNe1.out)
  refine bodyPost_ret (results_sc2 rfl _ _ (w.heap.size + 1) ({ s with srow:=s.row,scol:=s.col,swrap:=s.wrap,sf:=s.f,sg:=s.g,sb:=s.b } : Scr) (by rfl) HS3.out) rfl ?_
  exact ⟨({ s with srow:=s.row,scol:=s.col,swrap:=s.wrap,sf:=s.f,sg:=s.g,sb:=s.b } : Scr),none,0,0,rfl,rfl,rfl,⟨hO.1,hO.2.1,hO.2.2.1,hO.2.2.2.1,hO.2.1,hO.2.2.1⟩,.inl rfl,Ls.nil_ _ _,(fun ad e => by cases e),by omega,by omega,by omega,Bw.grown (show Bw w _ from BWX) HG3.out (fun k hk => by cases hk;omega)⟩
 ·(have x3:=HB0.out.cell 3 (v:=.int .i64 s.row) rfl;have x4:=HB0.out.cell 4 (v:=.int .i64 s.col) rfl;have x5:=HB0.out.cell 5 (v:=.bool s.wrap) rfl;have x6:=HB0.out.cell 6 (v:=.int .i64 s.f) rfl;have x7:=HB0.out.cell 7 (v:=.int .i64 s.g) rfl;have x8:=HB0.out.cell 8 (v:=.int .i64 s.b) rfl;have x11:=HB0.out.cell 11 (v:=.int .i64 s.srow) rfl;have x12:=HB0.out.cell 12 (v:=.int .i64 s.scol) rfl;have x13:=HB0.out.cell 13 (v:=.bool s.swrap) rfl;have x14:=HB0.out.cell 14 (v:=.int .i64 s.sf) rfl;have x15:=HB0.out.cell 15 (v:=.int .i64 s.sg) rfl;have x16:=HB0.out.cell 16 (v:=.int .i64 s.sb) rfl)
  (have z3:=HB0.out.free 3;have z4:=HB0.out.free 4;have z5:=HB0.out.free 5;have z6:=HB0.out.free 6;have z7:=HB0.out.free 7;have z8:=HB0.out.free 8)
  go_wp2_with (first
   | ((with_reducible refine wpList_load_sc ({ s with row:=s.srow,col:=s.scol,wrap:=s.swrap,f:=s.sf,g:=s.sg,b:=s.sb } : Scr) (w.heap.size) (.tmp 2) rfl rfl ?_ ?_ ?_);(focus rfl);(focus (exact ((((((HB0.out).set 3 _ rfl).set 4 _ rfl).set 5 _ rfl).set 6 _ rfl).set 7 _ rfl).set 8 _ rfl)))
   | ((with_reducible refine wpList_store_sc ({ s with row:=s.srow,col:=s.scol,wrap:=s.swrap,f:=s.sf,g:=s.sg,b:=s.sb } : Scr) (w.heap.size + 1) (.tmp 4) (.tmp 76) rfl rfl ?_ ?_ ?_ ?_);(focus rfl);(focus rfl);(focus (exact ⟨_,((((((HB1.out).away hne10 _).away hne10 _).away hne10 _).away hne10 _).away hne10 _).away hne10 _,rfl⟩));intro w3 hS3 hg3;have HS3:=Lib.hid hS3;have HG3:=Lib.hid hg3;clear hS3 hg3)
   | fail)
  have hO : s.Ok w3:=(((((((HOk1.out).away HNe0.out _ _).away HNe0.out _ _).away HNe0.out _ _).away HNe0.out _ _).away HNe0.out _ _).away HNe0.out _ _).far HG3.out (ne_some HNe1.out)
  refine bodyPost_ret (results_sc2 rfl _ _ (w.heap.size + 1) ({ s with row:=s.srow,col:=s.scol,wrap:=s.swrap,f:=s.sf,g:=s.sg,b:=s.sb } : Scr) (by rfl) HS3.out) rfl ?_
  exact ⟨({ s with row:=s.srow,col:=s.scol,wrap:=s.swrap,f:=s.sf,g:=s.sg,b:=s.sb } : Scr),none,0,0,rfl,rfl,rfl,⟨hO.1,hO.2.2.2.2.1,hO.2.2.2.2.2,hO.2.2.2.1,hO.2.2.2.2.1,hO.2.2.2.2.2⟩,.inl rfl,Ls.nil_ _ _,(fun ad e => by cases e),by omega,by omega,by omega,Bw.grown (show Bw w _ from BWX) HG3.out (fun k hk => by cases hk;omega)⟩
 ·go_upto_region 7 with (fail)
  go_wp2_with (first
   | ((with_reducible refine wpList_load_sc (s) (w.heap.size) (.tmp 2) rfl rfl ?_ ?_ ?_);(focus rfl);(focus (exact HB0.out)))
   | (go_at_call 102;refine (rsfeed_ok (s) _ (HOk1.out)).mono ?_;rintro ee w2 ⟨s',L,m,cap,e1,e2,rfl,hOk',hAn,hLs,hLn,hm,hmc,hcap,hb2⟩;have HB12:=Lib.hid ((HB1.out).up hb2);have hbm2:=hb2;have hzm2:=hb2.size;have HOk':=Lib.hid hOk';have HAn:=Lib.hid hAn;have HLs:=Lib.hid hLs;have HLn:=Lib.hid hLn;have HE:=Lib.hid (And.intro e1 e2);clear hOk' hAn hLs hLn hb2 e1 e2)
   | ((with_reducible refine wpList_store_sc (s') (w.heap.size + 1) (.tmp 4) (.tmp 27) rfl rfl ?_ ?_ ?_ ?_);(focus rfl);(focus rfl);(focus (exact ⟨_,HB12.out,rfl⟩));intro w3 hS3 hg3;have HS3:=Lib.hid hS3;have HG3:=Lib.hid hg3;clear hS3 hg3)
   | fail)
  refine bodyPost_ret (results_sc2 rfl _ _ (w.heap.size + 1) (s') (by rfl) HS3.out) rfl ?_
  have hAnw : An w s.A s'.A:=HAn.out.more (by omega)
  have hne : ∀ ad,s'.A = some ad → ad.block ≠ w.heap.size + 1:=HAn.out.ne (fun ad e => by have:=HAl.out ad e;omega) (by omega)
  have hnL : ∀ ad,L = some ad → w1.heap.size ≤ ad.block:=fun ad e => by have:=HLn.out ad e;first|omega|(simp at this;omega)
  exact ⟨s',L,m,cap,HE.out.1,HE.out.2,rfl,HOk'.out.far HG3.out (ne_some hne),hAnw,HLs.out.far HG3.out (ne_some (fun ad e => by have:=hnL ad e;omega)),fun ad e => by have:=hnL ad e;omega,hm,hmc,hcap,Bw.grown (Bw.trans hbw hbm2) HG3.out (fun k hk => by cases hk;omega)⟩
 ·go_upto_region 9 with (fail)
  go_wp2_with (first
   | ((with_reducible refine wpList_load_sc (s) (w.heap.size) (.tmp 2) rfl rfl ?_ ?_ ?_);(focus rfl);(focus (exact HB0.out)))
   | (go_at_call 104;refine (rsmove_ok (s) 5 0 _ (HOk1.out) (by omega)).mono ?_;rintro ee w2 ⟨r2,c2,b2,rfl,hrc2,hb2⟩;have HB12:=Lib.hid ((HB1.out).up hb2);have hbm2:=hb2;have hzm2:=hb2.size;have HRC2:=Lib.hid hrc2;clear hb2 hrc2)
   | (go_at_call 102;refine (rsfeed_ok ({ s with row:=r2,col:=c2,wrap:=b2 } : Scr) _ ((HOk1.out.up hbm2).cur b2 HRC2.out)).mono ?_;rintro ee w4 ⟨s',L,m,cap,e1,e2,rfl,hOk',hAn,hLs,hLn,hm,hmc,hcap,hb4⟩;have HB14:=Lib.hid ((HB12.out).up hb4);have hbm4:=hb4;have hzm4:=hb4.size;have HOk':=Lib.hid hOk';have HAn:=Lib.hid hAn;have HLs:=Lib.hid hLs;have HLn:=Lib.hid hLn;have HE:=Lib.hid (And.intro e1 e2);clear hOk' hAn hLs hLn hb4 e1 e2)
   | ((with_reducible refine wpList_store_sc (s') (w.heap.size + 1) (.tmp 4) (.tmp 34) rfl rfl ?_ ?_ ?_ ?_);(focus rfl);(focus rfl);(focus (exact ⟨_,HB14.out,rfl⟩));intro w3 hS3 hg3;have HS3:=Lib.hid hS3;have HG3:=Lib.hid hg3;clear hS3 hg3)
   | fail)
  refine bodyPost_ret (results_sc2 rfl _ _ (w.heap.size + 1) (s') (by rfl) HS3.out) rfl ?_
  have hAnw : An w s.A s'.A:=HAn.out.more (by omega)
  have hne : ∀ ad,s'.A = some ad → ad.block ≠ w.heap.size + 1:=HAn.out.ne (fun ad e => by have:=HAl.out ad e;omega) (by omega)
  have hnL : ∀ ad,L = some ad → w1.heap.size ≤ ad.block:=fun ad e => by have:=HLn.out ad e;first|omega|(simp at this;omega)
  exact ⟨s',L,m,cap,HE.out.1,HE.out.2,rfl,HOk'.out.far HG3.out (ne_some hne),hAnw,HLs.out.far HG3.out (ne_some (fun ad e => by have:=hnL ad e;omega)),fun ad e => by have:=hnL ad e;omega,hm,hmc,hcap,Bw.grown (Bw.trans (Bw.trans hbw hbm2) hbm4) HG3.out (fun k hk => by cases hk;omega)⟩
 ·(have x3:=HB0.out.cell 3 (v:=.int .i64 s.row) rfl;have x5:=HB0.out.cell 5 (v:=.bool s.wrap) rfl;have x9:=HB0.out.cell 9 (v:=.int .i64 s.top) rfl)
  (have z3:=HB0.out.free 3;have z5:=HB0.out.free 5)
  obtain ⟨s1,hs1⟩ : ∃ s1 : Scr,({ s with wrap:=false } : Scr) = s1:=⟨_,rfl⟩
  have HS1:=Lib.hid hs1
  by_cases q1 : s.row = s.top
  ·have q2 : (s.row == s.top) = true:=by simpa using q1
   clear q1
   go_upto_region 13 with (fail)
   generalize hwo : w1.setCell ⟨w.heap.size,5,none⟩ _ = wo
   have hSo : Sb wo w.heap.size s1.vals.toArray 46:=by rw [← hwo,← hs1];exact HB0.out.set 5 _ rfl
   have hOldo : ∃ old,Sb wo (w.heap.size + 1) old 46 ∧ old.size = 19:=⟨_,by rw [← hwo];exact HB1.out.away hne10 _,rfl⟩
   have hOko : s1.Ok wo:=by rw [← hwo,← hs1];exact HOk1.out.away HNe0.out _ _
   have hbwo : Bw w wo:=by rw [← hwo];exact BWX
   have hzo : w.heap.size + 1 < wo.heap.size:=by rw [← hwo];simpa using hz1
   have hRs : s1.Rn = s.Rn ∧ s1.Cn = s.Cn ∧ s1.A = s.A:=by rw [← hs1];exact ⟨rfl,rfl,rfl⟩
   have HSo:=Lib.hid hSo
   have HOldo:=Lib.hid hOldo
   have HOko:=Lib.hid hOko
   have HGk:=Lib.hid hOko.1
   have HRs:=Lib.hid hRs
   have HBl:=Lib.hid (blankC_ok hOko.2.2.1)
   have HT3:=Lib.hid hOko.2.2.2.1
   clear hwo hSo hOldo hOko hRs x3 x5 x9 z3 z5 q2 hs1
   (have x0:=HSo.out.cell 0 (v:=.int .i64 (s1.Rn : Int)) rfl;have x1:=HSo.out.cell 1 (v:=.int .i64 (s1.Cn : Int)) rfl;have x2:=HSo.out.cell 2 (v:=.slice s1.A s1.n s1.c) rfl)
   (have z0:=HSo.out.free 0;have z1:=HSo.out.free 1;have z2:=HSo.out.free 2)
   have hY:=(show ∀ w',Bw wo w' → (w'.cell? ⟨w.heap.size,9,none⟩ = some (.int .i64 s1.top) ∧ w'.cell? ⟨w.heap.size,10,none⟩ = some (.int .i64 s1.bot) ∧ w'.cell? ⟨w.heap.size,6,none⟩ = some (.int .i64 s1.f) ∧ w'.cell? ⟨w.heap.size,7,none⟩ = some (.int .i64 s1.g) ∧ w'.cell? ⟨w.heap.size,8,none⟩ = some (.int .i64 s1.b)) from fun w' hb => ⟨(HSo.out.up hb).cell 9 rfl,(HSo.out.up hb).cell 10 rfl,(HSo.out.up hb).cell 6 rfl,(HSo.out.up hb).cell 7 rfl,(HSo.out.up hb).cell 8 rfl⟩)
   have hYs:=(show ∀ w' (hb : Bw wo w') (c : Value),((((w'.setCell ⟨w.heap.size,0,none⟩ (.int .i64 (s1.Rn : Int))).setCell ⟨w.heap.size,1,none⟩ (.int .i64 (s1.Cn : Int))).setCell ⟨w.heap.size,2,none⟩ c).cell? ⟨w.heap.size,9,none⟩ = some (.int .i64 s1.top) ∧ (((w'.setCell ⟨w.heap.size,0,none⟩ (.int .i64 (s1.Rn : Int))).setCell ⟨w.heap.size,1,none⟩ (.int .i64 (s1.Cn : Int))).setCell ⟨w.heap.size,2,none⟩ c).cell? ⟨w.heap.size,10,none⟩ = some (.int .i64 s1.bot) ∧ (((w'.setCell ⟨w.heap.size,0,none⟩ (.int .i64 (s1.Rn : Int))).setCell ⟨w.heap.size,1,none⟩ (.int .i64 (s1.Cn : Int))).setCell ⟨w.heap.size,2,none⟩ c).cell? ⟨w.heap.size,6,none⟩ = some (.int .i64 s1.f) ∧ (((w'.setCell ⟨w.heap.size,0,none⟩ (.int .i64 (s1.Rn : Int))).setCell ⟨w.heap.size,1,none⟩ (.int .i64 (s1.Cn : Int))).setCell ⟨w.heap.size,2,none⟩ c).cell? ⟨w.heap.size,7,none⟩ = some (.int .i64 s1.g) ∧ (((w'.setCell ⟨w.heap.size,0,none⟩ (.int .i64 (s1.Rn : Int))).setCell ⟨w.heap.size,1,none⟩ (.int .i64 (s1.Cn : Int))).setCell ⟨w.heap.size,2,none⟩ c).cell? ⟨w.heap.size,8,none⟩ = some (.int .i64 s1.b)) from fun w' hb c => ⟨cell_ne (cell_ne (cell_ne ((hY w' hb).1) (by omega)) (by omega)) (by omega),cell_ne (cell_ne (cell_ne ((hY w' hb).2.1) (by omega)) (by omega)) (by omega),cell_ne (cell_ne (cell_ne ((hY w' hb).2.2.1) (by omega)) (by omega)) (by omega),cell_ne (cell_ne (cell_ne ((hY w' hb).2.2.2.1) (by omega)) (by omega)) (by omega),cell_ne (cell_ne (cell_ne ((hY w' hb).2.2.2.2) (by omega)) (by omega)) (by omega)⟩)
   have HY:=Lib.hid hY
   have HYs:=Lib.hid hYs
   clear hY hYs
   refine wp_region_held_drew (S:=(fun w' => w'.cell? ⟨w.heap.size,9,none⟩ = some (.int .i64 s1.top) ∧ w'.cell? ⟨w.heap.size,10,none⟩ = some (.int .i64 s1.bot) ∧ w'.cell? ⟨w.heap.size,6,none⟩ = some (.int .i64 s1.f) ∧ w'.cell? ⟨w.heap.size,7,none⟩ = some (.int .i64 s1.g) ∧ w'.cell? ⟨w.heap.size,8,none⟩ = some (.int .i64 s1.b))) (by kernel_rfl) ?_ (fun hHeld => ?_)
   ·(try dsimp only);(first|(exact HYs.out _ BWX _)|(refine HY.out _ ?_;exact BWX))
   refine tkQ 0 ?_
   refine tkQ 2 ?_
   refine tkQ 3 ?_
   (try simp only [Act.put,zP4,zP5,zP6])
   refine tkQ 4 ?_
   refine tkQ 5 ?_
   refine tkQ 6 ?_
   (try simp only [Act.put,zP4,zP5,zP6])
   refine tkQ 7 ?_
   refine tkQ 8 ?_
   refine tkQ 9 ?_
   (try simp only [Act.put,zP4,zP5,zP6])
   refine wpAnyH_ready (rs:=[1,10]) (by kernel_rfl) (by simp) ?_
   refine AllReadyH.cons rfl (fun K hK => ?_) ?_
   ·go_simp
    refine hK.out _ _ ?_ (fun hHeld => ?_)
    ·(try dsimp only);(first|(exact HYs.out _ BWX _)|(refine HY.out _ ?_;exact BWX))
    clear hK K
    (try simp only [Act.put,zP4,zP5,zP6])
    refine arO 10 (fun K hK => ?_)
    go_simp
    refine (rblank_any s1.f s1.g s1.b _).mono ?_;rintro ee wb ⟨rfl,hbb⟩;have hbwb : Bw wo wb:=Bw.trans (show Bw wo _ from BWX) hbb;have HB0b:=Lib.hid (HSo.out.up hbwb);have hzb:=HB0b.out.lt;(have u0:=HB0b.out.cell 0 (v:=.int .i64 (s1.Rn : Int)) rfl;have u1:=HB0b.out.cell 1 (v:=.int .i64 (s1.Cn : Int)) rfl;have u2:=HB0b.out.cell 2 (v:=.slice s1.A s1.n s1.c) rfl);clear hbb;go_wp2_with fail
    refine hK.out _ _ ?_ (fun hHeld => ?_)
    ·(try dsimp only);(first|(exact HYs.out _ BWX _)|(refine HY.out _ ?_;exact BWX))
    clear hK K
    (try simp only [Act.put,zP4,zP5,zP6])
    refine arO 11 (fun K hK => ?_)
    go_simp
    refine (rscroll_ok s1.Rn s1.Cn s1.A s1.n s1.c s1.top s1.bot (-1) 32 0 0 s1.b _ (by exact HGk.out.up BWX) HBl.out HT3.out).mono ?_;rintro ee wd ⟨A',n',c',rfl,hGd,hnd,hbd⟩;have hbwd : Bw wo wd:=Bw.trans (show Bw wo _ from BWX) hbd;have hzwb : wo.heap.size ≤ wb.heap.size:=hbwb.size;have HGd:=Lib.hid hGd;have HNd:=Lib.hid hnd;have HB0d:=Lib.hid (HSo.out.up hbwd);have HB1d:=(show Hid (∃ old,Sb wd (w.heap.size + 1) old 46 ∧ old.size = 19) from Lib.hid (Exists.elim HOldo.out (fun old h => ⟨old,h.1.up hbwd,h.2⟩)));have hzd:=HB0d.out.lt;(have q0:=HB0d.out.cell 0 (v:=.int .i64 (s1.Rn : Int)) rfl;have q1:=HB0d.out.cell 1 (v:=.int .i64 (s1.Cn : Int)) rfl;have q2:=HB0d.out.cell 2 (v:=.slice s1.A s1.n s1.c) rfl);(have p0:=HB0d.out.free 0;have p1:=HB0d.out.free 1;have p2:=HB0d.out.free 2);clear hGd hnd hbd;go_wp2_with fail
    refine hK.out _ _ ?_ (fun hHeld => ?_)
    ·(try dsimp only);(first|(exact HYs.out _ BWX _)|(refine HY.out _ ?_;exact BWX))
    clear hK K
    (try simp only [Act.put,zP4,zP5,zP6])
    refine arO 12 (fun K hK => ?_)
    go_simp
    refine hK.out _ _ ?_ (fun hHeld => ?_)
    ·(try dsimp only);(first|(exact HYs.out _ BWX _)|(refine HY.out _ ?_;exact BWX))
    clear hK K
    (try simp only [Act.put,zP4,zP5,zP6])
    refine arO 13 (fun K hK => ?_)
    go_simp
    refine hK.out _ _ ?_ (fun hHeld => ?_)
    ·(try dsimp only);(first|(exact HYs.out _ BWX _)|(refine HY.out _ ?_;exact BWX))
    clear hK K
    (try simp only [Act.put,zP4,zP5,zP6])
    refine wpAnyH_done (by kernel_rfl) ?_ _
    have hnb : ∀ ad,A' = some ad → wo.heap.size ≤ ad.block:=fun ad e => by have:=HNd.out ad e;first|omega|(simp only [szA,szS,szD,szN,plus_size] at this;omega)
    have hne : ∀ ad,A' = some ad → ad.block ≠ w.heap.size:=fun ad e => by have:=hnb ad e;omega
    go_wp2_with (first
     | ((with_reducible refine wpList_load_sc (s1.gr A' n' c') (w.heap.size) (.tmp 2) rfl rfl ?_ ?_ ?_);(focus rfl);(focus (exact ((HB0d.out.set 0 _ rfl).set 1 _ rfl).set 2 _ rfl)))
     | ((with_reducible refine wpList_store_sc (s1.gr A' n' c') (w.heap.size + 1) (.tmp 4) (.tmp 76) rfl rfl ?_ ?_ ?_ ?_);(focus rfl);(focus rfl);(focus (exact (Exists.elim HB1d.out (fun old h => ⟨old,((h.1.away hne10 _).away hne10 _).away hne10 _,h.2⟩))));intro w3 hS3 hg3;have HS3:=Lib.hid hS3;have HG3:=Lib.hid hg3;clear hS3 hg3)
     | fail)
    have hA1 : ∀ ad,A' = some ad → ad.block ≠ w.heap.size + 1:=fun ad e => by have:=hnb ad e;omega
    refine bodyPost_ret (results_sc2 rfl _ _ (w.heap.size + 1) (s1.gr A' n' c') (by rfl) HS3.out) rfl ?_
    exact ⟨(s1.gr A' n' c'),none,0,0,HRs.out.1,HRs.out.2.1,rfl,(show (s1.gr A' n' c').Ok _ from ⟨((HGd.out.away hne _ _).away hne _ _).away hne _ _,HOko.out.2⟩).far HG3.out (ne_some hA1),.inr (fun ad e => by have:=hnb ad e;omega),Ls.nil_ _ _,(fun ad e => by cases e),by omega,by omega,by omega,Bw.grown (show Bw w _ from BWX) HG3.out (fun k hk => by cases hk;omega)⟩
   refine AllReadyH.cons rfl (fun K hK => ?_) ?_
   ·go_simp
    refine (rblank_any s1.f s1.g s1.b _).mono ?_;rintro ee wb ⟨rfl,hbb⟩;have hbwb : Bw wo wb:=Bw.trans (show Bw wo _ from BWX) hbb;have HB0b:=Lib.hid (HSo.out.up hbwb);have hzb:=HB0b.out.lt;(have u0:=HB0b.out.cell 0 (v:=.int .i64 (s1.Rn : Int)) rfl;have u1:=HB0b.out.cell 1 (v:=.int .i64 (s1.Cn : Int)) rfl;have u2:=HB0b.out.cell 2 (v:=.slice s1.A s1.n s1.c) rfl);clear hbb;go_wp2_with fail
    refine hK.out _ _ ?_ (fun hHeld => ?_)
    ·(try dsimp only);(first|(exact HYs.out _ BWX _)|(refine HY.out _ ?_;exact BWX))
    clear hK K
    (try simp only [Act.put,zP4,zP5,zP6])
    refine arO 1 (fun K hK => ?_)
    go_simp
    refine hK.out _ _ ?_ (fun hHeld => ?_)
    ·(try dsimp only);(first|(exact HYs.out _ BWX _)|(refine HY.out _ ?_;exact BWX))
    clear hK K
    (try simp only [Act.put,zP4,zP5,zP6])
    refine arO 11 (fun K hK => ?_)
    go_simp
    refine (rscroll_ok s1.Rn s1.Cn s1.A s1.n s1.c s1.top s1.bot (-1) 32 0 0 s1.b _ (by exact HGk.out.up BWX) HBl.out HT3.out).mono ?_;rintro ee wd ⟨A',n',c',rfl,hGd,hnd,hbd⟩;have hbwd : Bw wo wd:=Bw.trans (show Bw wo _ from BWX) hbd;have hzwb : wo.heap.size ≤ wb.heap.size:=hbwb.size;have HGd:=Lib.hid hGd;have HNd:=Lib.hid hnd;have HB0d:=Lib.hid (HSo.out.up hbwd);have HB1d:=(show Hid (∃ old,Sb wd (w.heap.size + 1) old 46 ∧ old.size = 19) from Lib.hid (Exists.elim HOldo.out (fun old h => ⟨old,h.1.up hbwd,h.2⟩)));have hzd:=HB0d.out.lt;(have q0:=HB0d.out.cell 0 (v:=.int .i64 (s1.Rn : Int)) rfl;have q1:=HB0d.out.cell 1 (v:=.int .i64 (s1.Cn : Int)) rfl;have q2:=HB0d.out.cell 2 (v:=.slice s1.A s1.n s1.c) rfl);(have p0:=HB0d.out.free 0;have p1:=HB0d.out.free 1;have p2:=HB0d.out.free 2);clear hGd hnd hbd;go_wp2_with fail
    refine hK.out _ _ ?_ (fun hHeld => ?_)
    ·(try dsimp only);(first|(exact HYs.out _ BWX _)|(refine HY.out _ ?_;exact BWX))
    clear hK K
    (try simp only [Act.put,zP4,zP5,zP6])
    refine arO 12 (fun K hK => ?_)
    go_simp
    refine hK.out _ _ ?_ (fun hHeld => ?_)
    ·(try dsimp only);(first|(exact HYs.out _ BWX _)|(refine HY.out _ ?_;exact BWX))
    clear hK K
    (try simp only [Act.put,zP4,zP5,zP6])
    refine arO 13 (fun K hK => ?_)
    go_simp
    refine hK.out _ _ ?_ (fun hHeld => ?_)
    ·(try dsimp only);(first|(exact HYs.out _ BWX _)|(refine HY.out _ ?_;exact BWX))
    clear hK K
    (try simp only [Act.put,zP4,zP5,zP6])
    refine wpAnyH_done (by kernel_rfl) ?_ _
    have hnb : ∀ ad,A' = some ad → wo.heap.size ≤ ad.block:=fun ad e => by have:=HNd.out ad e;first|omega|(simp only [szA,szS,szD,szN,plus_size] at this;omega)
    have hne : ∀ ad,A' = some ad → ad.block ≠ w.heap.size:=fun ad e => by have:=hnb ad e;omega
    go_wp2_with (first
     | ((with_reducible refine wpList_load_sc (s1.gr A' n' c') (w.heap.size) (.tmp 2) rfl rfl ?_ ?_ ?_);(focus rfl);(focus (exact ((HB0d.out.set 0 _ rfl).set 1 _ rfl).set 2 _ rfl)))
     | ((with_reducible refine wpList_store_sc (s1.gr A' n' c') (w.heap.size + 1) (.tmp 4) (.tmp 76) rfl rfl ?_ ?_ ?_ ?_);(focus rfl);(focus rfl);(focus (exact (Exists.elim HB1d.out (fun old h => ⟨old,((h.1.away hne10 _).away hne10 _).away hne10 _,h.2⟩))));intro w3 hS3 hg3;have HS3:=Lib.hid hS3;have HG3:=Lib.hid hg3;clear hS3 hg3)
     | fail)
    have hA1 : ∀ ad,A' = some ad → ad.block ≠ w.heap.size + 1:=fun ad e => by have:=hnb ad e;omega
    refine bodyPost_ret (results_sc2 rfl _ _ (w.heap.size + 1) (s1.gr A' n' c') (by rfl) HS3.out) rfl ?_
    exact ⟨(s1.gr A' n' c'),none,0,0,HRs.out.1,HRs.out.2.1,rfl,(show (s1.gr A' n' c').Ok _ from ⟨((HGd.out.away hne _ _).away hne _ _).away hne _ _,HOko.out.2⟩).far HG3.out (ne_some hA1),.inr (fun ad e => by have:=hnb ad e;omega),Ls.nil_ _ _,(fun ad e => by cases e),by omega,by omega,by omega,Bw.grown (show Bw w _ from BWX) HG3.out (fun k hk => by cases hk;omega)⟩
   exact AllReadyH.nil
  ·have q2 : (s.row == s.top) = false:=by simpa using q1
   clear q1 hs1
   have HRb:=Lib.hid HOk1.out.2.1
   have hr0:=HOk1.out.2.1.1
   have hr1:=HOk1.out.2.1.2.1
   have hR2:=HOk1.out.1.2.1
   have hways : s.row ≤ 1 ∨ 2 ≤ s.row:=by omega
   rcases hways with q3|q3
   ·go_wp2_with (first
     | ((with_reducible refine wpList_load_sc ({ s with wrap:=false,row:=0 } : Scr) (w.heap.size) (.tmp 2) rfl rfl ?_ ?_ ?_);(focus rfl);(focus (exact ((HB0.out).set 5 _ rfl).set 3 _ rfl)))
     | ((with_reducible refine wpList_store_sc ({ s with wrap:=false,row:=0 } : Scr) (w.heap.size + 1) (.tmp 4) (.tmp 76) rfl rfl ?_ ?_ ?_ ?_);(focus rfl);(focus rfl);(focus (exact ⟨_,((HB1.out).away hne10 _).away hne10 _,rfl⟩));intro w3 hS3 hg3;have HS3:=Lib.hid hS3;have HG3:=Lib.hid hg3;clear hS3 hg3)
     | fail)
    have hO : s.Ok w3:=(((HOk1.out).away HNe0.out _ _).away HNe0.out _ _).far HG3.out (ne_some HNe1.out)
    refine bodyPost_ret (results_sc2 rfl _ _ (w.heap.size + 1) ({ s with wrap:=false,row:=0 } : Scr) (by rfl) HS3.out) rfl ?_
    exact ⟨({ s with wrap:=false,row:=0 } : Scr),none,0,0,rfl,rfl,rfl,⟨hO.1,⟨by show (0 : Int) ≤ 0;omega,by show 0 < (s.Rn : Int);omega,HRb.out.2.2.1,HRb.out.2.2.2⟩,hO.2.2⟩,.inl rfl,Ls.nil_ _ _,(fun ad e => by cases e),by omega,by omega,by omega,Bw.grown (show Bw w _ from BWX) HG3.out (fun k hk => by cases hk;omega)⟩
   ·go_wp2_with (first
     | ((with_reducible refine wpList_load_sc ({ s with wrap:=false,row:=s.row - 1 } : Scr) (w.heap.size) (.tmp 2) rfl rfl ?_ ?_ ?_);(focus rfl);(focus (exact ((HB0.out).set 5 _ rfl).set 3 _ rfl)))
     | ((with_reducible refine wpList_store_sc ({ s with wrap:=false,row:=s.row - 1 } : Scr) (w.heap.size + 1) (.tmp 4) (.tmp 76) rfl rfl ?_ ?_ ?_ ?_);(focus rfl);(focus rfl);(focus (exact ⟨_,((HB1.out).away hne10 _).away hne10 _,rfl⟩));intro w3 hS3 hg3;have HS3:=Lib.hid hS3;have HG3:=Lib.hid hg3;clear hS3 hg3)
     | fail)
    have hO : s.Ok w3:=(((HOk1.out).away HNe0.out _ _).away HNe0.out _ _).far HG3.out (ne_some HNe1.out)
    refine bodyPost_ret (results_sc2 rfl _ _ (w.heap.size + 1) ({ s with wrap:=false,row:=s.row - 1 } : Scr) (by rfl) HS3.out) rfl ?_
    exact ⟨({ s with wrap:=false,row:=s.row - 1 } : Scr),none,0,0,rfl,rfl,rfl,⟨hO.1,⟨by show (0 : Int) ≤ s.row - 1;omega,by show s.row - 1 < (s.Rn : Int);omega,HRb.out.2.2.1,HRb.out.2.2.2⟩,hO.2.2⟩,.inl rfl,Ls.nil_ _ _,(fun ad e => by cases e),by omega,by omega,by omega,Bw.grown (show Bw w _ from BWX) HG3.out (fun k hk => by cases hk;omega)⟩
 ·(have x0:=HB0.out.cell 0 (v:=.int .i64 (s.Rn : Int)) rfl;have x1:=HB0.out.cell 1 (v:=.int .i64 (s.Cn : Int)) rfl)
  go_upto_region 16 with (fail)
  have HRs:=Lib.hid (clamp_in (x:=(s.Rn : Int)) (hi:=30) (by have:=HOk1.out.1.1;omega) (by have:=HOk1.out.1.2.1;omega))
  have HCs:=Lib.hid (clamp_in (x:=(s.Cn : Int)) (hi:=100) (by have:=HOk1.out.1.2.2.1;omega) (by have:=HOk1.out.1.2.2.2.1;omega))
  go_wp2_with (first
   | (go_at_call 51;refine (rsnew_ok _ _ _).mono ?_;rintro ee w2 ⟨s',e1,e2,rfl,hOk',hN,hb2⟩;have HB12:=Lib.hid (HB1.out.up hb2);have hbm2:=hb2;have hzm2:=hb2.size;have HOk':=Lib.hid hOk';have HN:=Lib.hid hN;have HE:=Lib.hid (And.intro e1 e2);clear hOk' hN hb2 e1 e2)
   | ((with_reducible refine wpList_store_sc (s') (w.heap.size + 1) (.tmp 4) (.tmp 75) rfl rfl ?_ ?_ ?_ ?_);(focus rfl);(focus rfl);(focus (exact ⟨_,HB12.out,rfl⟩));intro w3 hS3 hg3;have HS3:=Lib.hid hS3;have HG3:=Lib.hid hg3;clear hS3 hg3)
   | fail)
  have hA1 : ∀ ad,s'.A = some ad → ad.block ≠ w.heap.size + 1:=fun ad e => by have:=HN.out ad e;omega
  have eR : s'.Rn = s.Rn:=by have:=HE.out.1;have:=HRs.out;omega
  have eC : s'.Cn = s.Cn:=by have:=HE.out.2;have:=HCs.out;omega
  refine bodyPost_ret (results_sc2 rfl _ _ (w.heap.size + 1) (s') (by rfl) HS3.out) rfl ?_
  exact ⟨(s'),none,0,0,eR,eC,rfl,HOk'.out.far HG3.out (ne_some hA1),.inr (fun ad e => by have:=HN.out ad e;omega),Ls.nil_ _ _,(fun ad e => by cases e),by omega,by omega,by omega,Bw.grown (Bw.trans hbw hbm2) HG3.out (fun k hk => by cases hk;omega)⟩
 ·have h1 : (nn == 55) = false:=by simpa using q1
  have h2 : (nn == 56) = false:=by simpa using q2
  have h3 : (nn == 68) = false:=by simpa using q3
  have h4 : (nn == 69) = false:=by simpa using q4
  have h5 : (nn == 77) = false:=by simpa using q5
  have h6 : (nn == 99) = false:=by simpa using q6
  clear q1 q2 q3 q4 q5 q6
  go_upto_region 17 with (fail)
  go_wp2_with (first
   | ((with_reducible refine wpList_load_sc (s) (w.heap.size) (.tmp 2) rfl rfl ?_ ?_ ?_);(focus rfl);(focus (exact HB0.out)))
   | ((with_reducible refine wpList_store_sc (s) (w.heap.size + 1) (.tmp 4) (.tmp 76) rfl rfl ?_ ?_ ?_ ?_);(focus rfl);(focus rfl);(focus (exact ⟨_,HB1.out,rfl⟩));intro w3 hS3 hg3;have HS3:=Lib.hid hS3;have HG3:=Lib.hid hg3;clear hS3 hg3)
   | fail)
  refine bodyPost_ret (results_sc2 rfl _ _ (w.heap.size + 1) (s) (by rfl) HS3.out) rfl ?_
  exact ⟨(s),none,0,0,rfl,rfl,rfl,HOk1.out.far HG3.out (ne_some HNe1.out),.inl rfl,Ls.nil_ _ _,(fun ad e => by cases e),by omega,by omega,by omega,Bw.grown (hbw) HG3.out (fun k hk => by cases hk;omega)⟩
/-- The screen with other modes. -/
def Scr.md (s : Scr) (p q : Bool) : Scr:={ s with hid:=p,now:=q }
theorem Scr.Ok.md {w : World} {s : Scr} (h : s.Ok w) (p q : Bool) : (s.md p q).Ok w:=h
theorem rsmodes_ok (s : Scr) (A : Option Addr) (n c : Nat) (xs : List Int) (on : Bool) (w : World) (hs : s.Ok w) (hx : Rd (.int .i64) w A n xs) (hn : n ≤ c) (hc : c ≤ 9223372036854775807) : Calls Tryz.prog 85 #[.agg s.vals.toArray,.slice A n c,.bool on] w (ScO w s):=by
 have HX:=Lib.hid hx
 clear hx
 have HOk:=Lib.hid hs
 have HAl:=Lib.hid hs.1.lt
 clear hs
 go_enter Tryz.func85,Tryz.ntmps85
 go_upto_region 1 with (fail)
 generalize hw1 : (w.alloc (.cells s.vals.toArray 46)).alloc _ = w1
 obtain ⟨hb0,hb1,hbw,hz⟩:=sb2 hw1
 have HB0:=Lib.hid hb0
 have HB1:=Lib.hid hb1
 have hz1 : w.heap.size + 1 < w1.heap.size:=by omega
 have HOk1:=Lib.hid (HOk.out.up hbw)
 have HNe0:=Lib.hid (show ∀ ad,s.A = some ad → ad.block ≠ w.heap.size from fun ad e => by have:=HAl.out ad e;omega)
 have HNe1:=Lib.hid (show ∀ ad,s.A = some ad → ad.block ≠ w.heap.size + 1 from fun ad e => by have:=HAl.out ad e;omega)
 have hne10 : w.heap.size + 1 ≠ w.heap.size:=by omega
 clear hw1 hb0 hb1 hz
 go_wp2_with fail
 go_loopw [7] (fun i wr => ∃ (k : Nat) (p q : Bool),i = .int .i64 k ∧ k ≤ n ∧ Sb wr w.heap.size (s.md p q).vals.toArray 46 ∧ (∃ old,Sb wr (w.heap.size + 1) old 46 ∧ old.size = 19) ∧ s.Ok wr ∧ Bw w wr) (fun i _ => n - (intOf i).toNat)
 case atStart => exact ⟨0,s.hid,s.now,rfl,by omega,HB0.out,⟨_,HB1.out,rfl⟩,HOk1.out,hbw⟩
 case round =>
  obtain ⟨k,p,q,rfl,hk,hS,hold,hOk,hbwr⟩:=hrel
  have HS:=Lib.hid hS
  have HOld:=Lib.hid hold
  have HOkr:=Lib.hid hOk
  have hzr : w.heap.size < wr.heap.size:=hS.lt
  clear hS hold hOk
  by_cases hlt : k < n
  ·obtain ⟨g,o,rfl,hx⟩:=HX.out.2 (by omega)
   have hkx : k < xs.length:=by rw [HX.out.1];exact hlt
   have hcx:=(hbwr.cell (lt_of_cell (hx k hkx))).trans (hx k hkx)
   obtain ⟨v,hv⟩ : ∃ v,xs[k] = v:=⟨_,rfl⟩
   rw [hv] at hcx
   have hgl:=lt_of_cell (hx k hkx)
   dsimp only at hgl
   clear hx hv
   have x17:=HS.out.cell 17 (v:=.bool p) rfl
   have x18:=HS.out.cell 18 (v:=.bool q) rfl
   have z17:=HS.out.free 17
   have z18:=HS.out.free 18
   have hways : v = 25 ∨ v = 7 ∨ (¬ v = 25 ∧ ¬ v = 7):=by omega
   rcases hways with rfl|rfl|⟨q1,q2⟩
   ·go_wp2_with fail
    go_roundw
    case rel => exact ⟨k + 1,!on,q,by go_num,by omega,HS.out.set 17 _ rfl,Exists.elim HOld.out (fun old h => ⟨old,h.1.away hne10 _,h.2⟩),HOkr.out.away HNe0.out _ _,BWX⟩
    case measure => simp [intOf];omega
   ·go_wp2_with fail
    go_roundw
    case rel => exact ⟨k + 1,p,!on,by go_num,by omega,HS.out.set 18 _ rfl,Exists.elim HOld.out (fun old h => ⟨old,h.1.away hne10 _,h.2⟩),HOkr.out.away HNe0.out _ _,BWX⟩
    case measure => simp [intOf];omega
   ·have h1 : (v == 25) = false:=by simpa using q1
    have h2 : (v == 7) = false:=by simpa using q2
    clear q1 q2
    go_wp2_with fail
    go_roundw
    case rel => exact ⟨k + 1,p,q,by go_num,by omega,HS.out,HOld.out,HOkr.out,BWX⟩
    case measure => simp [intOf];omega
  ·obtain rfl : k = n:=by omega
   go_wp2_with (first
    | ((with_reducible refine wpList_load_sc (s.md p q) (w.heap.size) (.tmp 3) rfl rfl ?_ ?_ ?_);(focus rfl);(focus (exact HS.out)))
    | ((with_reducible refine wpList_store_sc (s.md p q) (w.heap.size + 1) (.tmp 6) (.tmp 28) rfl rfl ?_ ?_ ?_ ?_);(focus rfl);(focus rfl);(focus (exact HOld.out));intro w3 hS3 hg3;have HS3:=Lib.hid hS3;have HG3:=Lib.hid hg3;clear hS3 hg3)
    | fail)
   refine bodyPost_ret (results_sc rfl _ _ (w.heap.size + 1) (s.md p q) (by rfl) HS3.out) rfl ?_
   exact ⟨(s.md p q),rfl,rfl,rfl,(HOkr.out.md p q).far HG3.out (ne_some HNe1.out),.inl rfl,Bw.grown (hbwr) HG3.out (fun k hk => by cases hk;omega)⟩
theorem rsor_0 (A : Option Addr) (n c : Nat) (d : Int) (xs : List Int) (w : World) (hx : Rd (.int .i64) w A n xs) (hn : n ≤ c) (hc : c ≤ 9223372036854775807) :
  Calls Tryz.prog 106 #[.slice A n c,.int .i64 0,.int .i64 d] w fun e w' => (∃ v,e = .returned (.int .i64 v) ∧ (v = d ∨ (v ∈ xs ∧ v ≠ 0))) ∧ Bw w w':=rsor_any A n c 0 d xs w hx hn hc (by omega)
theorem rsor_1 (A : Option Addr) (n c : Nat) (d : Int) (xs : List Int) (w : World) (hx : Rd (.int .i64) w A n xs) (hn : n ≤ c) (hc : c ≤ 9223372036854775807) :
  Calls Tryz.prog 106 #[.slice A n c,.int .i64 1,.int .i64 d] w fun e w' => (∃ v,e = .returned (.int .i64 v) ∧ (v = d ∨ (v ∈ xs ∧ v ≠ 0))) ∧ Bw w w':=rsor_any A n c 1 d xs w hx hn hc (by omega)
theorem or_bd {xs : List Int} {d v : Int} (hp : ∀ x ∈ xs,0 ≤ x ∧ x ≤ 9999) (hd : 1 ≤ d ∧ d ≤ 9999) (h : v = d ∨ (v ∈ xs ∧ v ≠ 0)) : 1 ≤ v ∧ v ≤ 9999:=by
 rcases h with rfl|⟨h1,h2⟩
 ·exact hd
 ·have:=hp v h1
  omega
theorem sb3 {w w1 : World} {a b c : Array Value} {T T' T'' : TypeId} (h : ((w.alloc (.cells a T)).alloc (.cells b T')).alloc (.cells c T'') = w1) : Sb w1 w.heap.size a T ∧ Sb w1 (w.heap.size + 1) b T' ∧ Sb w1 (w.heap.size + 2) c T'' ∧ Bw w w1 ∧ w1.heap.size = w.heap.size + 3:=by
 obtain ⟨h1,h2,h3,h4⟩:=sb2 (w:=w) (a:=a) (b:=b) (T:=T) (T':=T') rfl
 have h5 : Bw ((w.alloc (.cells a T)).alloc (.cells b T')) w1:=by rw [← h];exact BWX
 refine ⟨h1.up h5,h2.up h5,?_,Bw.trans h3 h5,by rw [← h];simp⟩
 rw [← h]
 exact heap_at (by simp)
end Go.Proofs.YteebdjmjeahccaaGreatDoor
