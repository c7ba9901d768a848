/- Parts of the proof, one after the other. -/
import Derived.Test.YteebdjmjeahccaaGreatDoorC13
set_option linter.unusedSimpArgs false
set_option linter.unusedVariables false
set_option maxRecDepth 100000
set_option maxHeartbeats 16000000
namespace Go.Proofs.YteebdjmjeahccaaGreatDoor
open Go.RowKit
theorem rslines_ok (s : Scr) (nn : Int) (w : World) (hs : s.Ok w) : Calls Tryz.prog 108 #[.agg s.vals.toArray,.int .i64 nn] w (ScO w s):=by
 have HOk:=Lib.hid hs
 have HAl:=Lib.hid hs.1.lt
 have HBl:=Lib.hid (blankC_ok hs.2.2.1)
 obtain ⟨t0,t1,t2⟩:=hs.2.2.2.1
 clear hs
 go_enter Tryz.func108,Tryz.ntmps108
 go_upto_region 1 with (fail)
 generalize hw1 : (w.alloc (.cells s.vals.toArray 46)).alloc _ = w1
 obtain ⟨hb0,hb1,hbw,hz⟩:=sb2 hw1
 have HB0:=Lib.hid hb0
 have HB1:=Lib.hid hb1
 have hz1 : w.heap.size + 1 < w1.heap.size:=by omega
 have HOk1:=Lib.hid (HOk.out.up hbw)
 have HNe0:=Lib.hid (show ∀ ad,s.A = some ad → ad.block ≠ w.heap.size from fun ad e => by have:=HAl.out ad e;omega)
 have HNe1:=Lib.hid (show ∀ ad,s.A = some ad → ad.block ≠ w.heap.size + 1 from fun ad e => by have:=HAl.out ad e;omega)
 have hne10 : w.heap.size + 1 ≠ w.heap.size:=by omega
 clear hw1 hb0 hb1 hz
 have HB1o:=Lib.hid (show ∃ old,Sb w1 (w.heap.size + 1) old 46 ∧ old.size = 19 from ⟨_,HB1.out,rfl⟩)
 (have x0:=HB0.out.cell 0 (v:=.int .i64 (s.Rn : Int)) rfl;have x1:=HB0.out.cell 1 (v:=.int .i64 (s.Cn : Int)) rfl;have x2:=HB0.out.cell 2 (v:=.slice s.A s.n s.c) rfl;have x3:=HB0.out.cell 3 (v:=.int .i64 s.row) rfl;have x9:=HB0.out.cell 9 (v:=.int .i64 s.top) rfl;have x10:=HB0.out.cell 10 (v:=.int .i64 s.bot) rfl)
 (have z0:=HB0.out.free 0;have z1:=HB0.out.free 1;have z2:=HB0.out.free 2)
 have hways : s.row < s.top ∨ (s.top ≤ s.row ∧ s.bot < s.row) ∨ (s.top ≤ s.row ∧ s.row ≤ s.bot):=by omega
 rcases hways with q1|⟨q1,q2⟩|⟨q1,q2⟩
 ·go_upto_region 2 with (fail)
  go_wp2_with (first
   | ((with_reducible refine wpList_load_sc (s) (w.heap.size) (.tmp 2) rfl rfl ?_ ?_ ?_);(focus rfl);(focus (exact HB0.out)))
   | ((with_reducible refine wpList_store_sc (s) (w.heap.size + 1) (.tmp 4) (.tmp 21) rfl rfl ?_ ?_ ?_ ?_);(focus rfl);(focus rfl);(focus (exact ⟨_,HB1.out,rfl⟩));intro w3 hS3 hg3;have HS3:=Lib.hid hS3;have HG3:=Lib.hid hg3;clear hS3 hg3)
   | fail)
  refine bodyPost_ret (results_sc rfl _ _ (w.heap.size + 1) (s) (by rfl) HS3.out) rfl ?_
  exact ⟨(s),rfl,rfl,rfl,HOk1.out.far HG3.out (ne_some HNe1.out),.inl rfl,Bw.grown (hbw) HG3.out (fun k hk => by cases hk;omega)⟩
 ·go_upto_region 2 with (fail)
  go_wp2_with (first
   | ((with_reducible refine wpList_load_sc (s) (w.heap.size) (.tmp 2) rfl rfl ?_ ?_ ?_);(focus rfl);(focus (exact HB0.out)))
   | ((with_reducible refine wpList_store_sc (s) (w.heap.size + 1) (.tmp 4) (.tmp 21) rfl rfl ?_ ?_ ?_ ?_);(focus rfl);(focus rfl);(focus (exact ⟨_,HB1.out,rfl⟩));intro w3 hS3 hg3;have HS3:=Lib.hid hS3;have HG3:=Lib.hid hg3;clear hS3 hg3)
   | fail)
  refine bodyPost_ret (results_sc rfl _ _ (w.heap.size + 1) (s) (by rfl) HS3.out) rfl ?_
  exact ⟨(s),rfl,rfl,rfl,HOk1.out.far HG3.out (ne_some HNe1.out),.inl rfl,Bw.grown (hbw) HG3.out (fun k hk => by cases hk;omega)⟩
 ·have hk3:=HOk1.out.2.1
  go_upto_region 3 with (fail)
  have HGk:=Lib.hid HOk1.out.1
  have hY:=(show ∀ w',Bw w1 w' → (w'.cell? ⟨w.heap.size,3,none⟩ = some (.int .i64 s.row) ∧ w'.cell? ⟨w.heap.size,10,none⟩ = some (.int .i64 s.bot) ∧ w'.cell? ⟨w.heap.size,6,none⟩ = some (.int .i64 s.f) ∧ w'.cell? ⟨w.heap.size,7,none⟩ = some (.int .i64 s.g) ∧ w'.cell? ⟨w.heap.size,8,none⟩ = some (.int .i64 s.b)) from fun w' hb => ⟨(HB0.out.up hb).cell 3 rfl,(HB0.out.up hb).cell 10 rfl,(HB0.out.up hb).cell 6 rfl,(HB0.out.up hb).cell 7 rfl,(HB0.out.up hb).cell 8 rfl⟩)
  have hYs:=(show ∀ w' (hb : Bw w1 w') (c : Value),((((w'.setCell ⟨w.heap.size,0,none⟩ (.int .i64 (s.Rn : Int))).setCell ⟨w.heap.size,1,none⟩ (.int .i64 (s.Cn : Int))).setCell ⟨w.heap.size,2,none⟩ c).cell? ⟨w.heap.size,3,none⟩ = some (.int .i64 s.row) ∧ (((w'.setCell ⟨w.heap.size,0,none⟩ (.int .i64 (s.Rn : Int))).setCell ⟨w.heap.size,1,none⟩ (.int .i64 (s.Cn : Int))).setCell ⟨w.heap.size,2,none⟩ c).cell? ⟨w.heap.size,10,none⟩ = some (.int .i64 s.bot) ∧ (((w'.setCell ⟨w.heap.size,0,none⟩ (.int .i64 (s.Rn : Int))).setCell ⟨w.heap.size,1,none⟩ (.int .i64 (s.Cn : Int))).setCell ⟨w.heap.size,2,none⟩ c).cell? ⟨w.heap.size,6,none⟩ = some (.int .i64 s.f) ∧ (((w'.setCell ⟨w.heap.size,0,none⟩ (.int .i64 (s.Rn : Int))).setCell ⟨w.heap.size,1,none⟩ (.int .i64 (s.Cn : Int))).setCell ⟨w.heap.size,2,none⟩ c).cell? ⟨w.heap.size,7,none⟩ = some (.int .i64 s.g) ∧ (((w'.setCell ⟨w.heap.size,0,none⟩ (.int .i64 (s.Rn : Int))).setCell ⟨w.heap.size,1,none⟩ (.int .i64 (s.Cn : Int))).setCell ⟨w.heap.size,2,none⟩ c).cell? ⟨w.heap.size,8,none⟩ = some (.int .i64 s.b)) from fun w' hb c => ⟨cell_ne (cell_ne (cell_ne ((hY w' hb).1) (by omega)) (by omega)) (by omega),cell_ne (cell_ne (cell_ne ((hY w' hb).2.1) (by omega)) (by omega)) (by omega),cell_ne (cell_ne (cell_ne ((hY w' hb).2.2.1) (by omega)) (by omega)) (by omega),cell_ne (cell_ne (cell_ne ((hY w' hb).2.2.2.1) (by omega)) (by omega)) (by omega),cell_ne (cell_ne (cell_ne ((hY w' hb).2.2.2.2) (by omega)) (by omega)) (by omega)⟩)
  have HY:=Lib.hid hY
  have HYs:=Lib.hid hYs
  clear hY hYs
  go_cut [] (fun w' => ∃ A' n' c',Sb w' w.heap.size (s.gr A' n' c').vals.toArray 46 ∧ (∃ old,Sb w' (w.heap.size + 1) old 46 ∧ old.size = 19) ∧ Gok w' s.Rn s.Cn A' n' c' ∧ (∀ ad,A' = some ad → w1.heap.size ≤ ad.block) ∧ Bw w w' ∧ w1.heap.size ≤ w'.heap.size)
  case first =>
   refine wp_region_held_drew (S:=(fun w' => w'.cell? ⟨w.heap.size,3,none⟩ = some (.int .i64 s.row) ∧ w'.cell? ⟨w.heap.size,10,none⟩ = some (.int .i64 s.bot) ∧ w'.cell? ⟨w.heap.size,6,none⟩ = some (.int .i64 s.f) ∧ w'.cell? ⟨w.heap.size,7,none⟩ = some (.int .i64 s.g) ∧ w'.cell? ⟨w.heap.size,8,none⟩ = some (.int .i64 s.b))) (by kernel_rfl) ?_ (fun hHeld => ?_)
   ·(try dsimp only);(first|(exact HYs.out _ BWX _)|(refine HY.out _ ?_;exact BWX))
   refine tkQ 0 ?_
   refine tkQ 2 ?_
   refine tkQ 3 ?_
   (try simp only [Act.put,zP4,zP5,zP6])
   refine tkQ 4 ?_
   refine tkQ 5 ?_
   refine tkQ 6 ?_
   (try simp only [Act.put,zP4,zP5,zP6])
   refine tkQ 7 ?_
   refine tkQ 8 ?_
   refine tkQ 9 ?_
   (try simp only [Act.put,zP4,zP5,zP6])
   refine tkQ 10 ?_
   (try simp only [Act.put,zP4,zP5,zP6])
   refine wpAnyH_ready (rs:=[1,11]) (by kernel_rfl) (by simp) ?_
   refine AllReadyH.cons rfl (fun K hK => ?_) ?_
   ·go_simp
    refine hK.out _ _ ?_ (fun hHeld => ?_)
    ·(try dsimp only);(first|(exact HYs.out _ BWX _)|(refine HY.out _ ?_;exact BWX))
    clear hK K
    (try simp only [Act.put,zP4,zP5,zP6])
    refine arO 11 (fun K hK => ?_)
    go_simp
    refine (rblank_any s.f s.g s.b _).mono ?_;rintro ee wb ⟨rfl,hbb⟩;have hbwb : Bw w1 wb:=Bw.trans (show Bw w1 _ from BWX) hbb;have HB0b:=Lib.hid (HB0.out.up hbwb);have hzb:=HB0b.out.lt;(have u0:=HB0b.out.cell 0 (v:=.int .i64 (s.Rn : Int)) rfl;have u1:=HB0b.out.cell 1 (v:=.int .i64 (s.Cn : Int)) rfl;have u2:=HB0b.out.cell 2 (v:=.slice s.A s.n s.c) rfl);clear hbb;go_wp2_with fail
    refine hK.out _ _ ?_ (fun hHeld => ?_)
    ·(try dsimp only);(first|(exact HYs.out _ BWX _)|(refine HY.out _ ?_;exact BWX))
    clear hK K
    (try simp only [Act.put,zP4,zP5,zP6])
    refine arO 12 (fun K hK => ?_)
    go_simp
    refine (rscroll_ok s.Rn s.Cn s.A s.n s.c s.row s.bot nn 32 0 0 s.b _ (by exact HGk.out.up BWX) HBl.out ⟨hk3.1,q2,t2⟩).mono ?_;rintro ee wd ⟨A',n',c',rfl,hGd,hnd,hbd⟩;have hbwd : Bw w1 wd:=Bw.trans (show Bw w1 _ from BWX) hbd;have hzwb : w1.heap.size ≤ wb.heap.size:=hbwb.size;have HGd:=Lib.hid hGd;have HNd:=Lib.hid hnd;have HB0d:=Lib.hid (HB0.out.up hbwd);have HB1d:=(show Hid (∃ old,Sb wd (w.heap.size + 1) old 46 ∧ old.size = 19) from Lib.hid (Exists.elim HB1o.out (fun old h => ⟨old,h.1.up hbwd,h.2⟩)));have hzd:=HB0d.out.lt;(have q0:=HB0d.out.cell 0 (v:=.int .i64 (s.Rn : Int)) rfl;have q1:=HB0d.out.cell 1 (v:=.int .i64 (s.Cn : Int)) rfl;have q2:=HB0d.out.cell 2 (v:=.slice s.A s.n s.c) rfl);(have p0:=HB0d.out.free 0;have p1:=HB0d.out.free 1;have p2:=HB0d.out.free 2);clear hGd hnd hbd;go_wp2_with fail
    refine hK.out _ _ ?_ (fun hHeld => ?_)
    ·(try dsimp only);(first|(exact HYs.out _ BWX _)|(refine HY.out _ ?_;exact BWX))
    clear hK K
    (try simp only [Act.put,zP4,zP5,zP6])
    refine arO 13 (fun K hK => ?_)
    go_simp
    refine hK.out _ _ ?_ (fun hHeld => ?_)
    ·(try dsimp only);(first|(exact HYs.out _ BWX _)|(refine HY.out _ ?_;exact BWX))
    clear hK K
    (try simp only [Act.put,zP4,zP5,zP6])
    refine arO 14 (fun K hK => ?_)
    go_simp
    refine hK.out _ _ ?_ (fun hHeld => ?_)
    ·(try dsimp only);(first|(exact HYs.out _ BWX _)|(refine HY.out _ ?_;exact BWX))
    clear hK K
    (try simp only [Act.put,zP4,zP5,zP6])
    refine wpAnyH_done (by kernel_rfl) ?_ _
    go_wp2
    go_meet
    case rel =>
     have hnb : ∀ ad,A' = some ad → w1.heap.size ≤ ad.block:=fun ad e => by have:=HNd.out ad e;first|omega|(simp only [szA,szS,szD,szN,plus_size] at this;omega)
     have hne : ∀ ad,A' = some ad → ad.block ≠ w.heap.size:=fun ad e => by have:=hnb ad e;omega
     exact ⟨A',n',c',((HB0d.out.set 0 _ rfl).set 1 _ rfl).set 2 _ rfl,Exists.elim HB1d.out (fun old h => ⟨old,((h.1.away hne10 _).away hne10 _).away hne10 _,h.2⟩),((HGd.out.away hne _ _).away hne _ _).away hne _ _,hnb,BWX,by have:=hbwd.size;simpa using this⟩
   refine AllReadyH.cons rfl (fun K hK => ?_) ?_
   ·go_simp
    refine (rblank_any s.f s.g s.b _).mono ?_;rintro ee wb ⟨rfl,hbb⟩;have hbwb : Bw w1 wb:=Bw.trans (show Bw w1 _ from BWX) hbb;have HB0b:=Lib.hid (HB0.out.up hbwb);have hzb:=HB0b.out.lt;(have u0:=HB0b.out.cell 0 (v:=.int .i64 (s.Rn : Int)) rfl;have u1:=HB0b.out.cell 1 (v:=.int .i64 (s.Cn : Int)) rfl;have u2:=HB0b.out.cell 2 (v:=.slice s.A s.n s.c) rfl);clear hbb;go_wp2_with fail
    refine hK.out _ _ ?_ (fun hHeld => ?_)
    ·(try dsimp only);(first|(exact HYs.out _ BWX _)|(refine HY.out _ ?_;exact BWX))
    clear hK K
    (try simp only [Act.put,zP4,zP5,zP6])
    refine arO 1 (fun K hK => ?_)
    go_simp
    refine hK.out _ _ ?_ (fun hHeld => ?_)
    ·(try dsimp only);(first|(exact HYs.out _ BWX _)|(refine HY.out _ ?_;exact BWX))
    clear hK K
    (try simp only [Act.put,zP4,zP5,zP6])
    refine arO 12 (fun K hK => ?_)
    go_simp
    refine (rscroll_ok s.Rn s.Cn s.A s.n s.c s.row s.bot nn 32 0 0 s.b _ (by exact HGk.out.up BWX) HBl.out ⟨hk3.1,q2,t2⟩).mono ?_;rintro ee wd ⟨A',n',c',rfl,hGd,hnd,hbd⟩;have hbwd : Bw w1 wd:=Bw.trans (show Bw w1 _ from BWX) hbd;have hzwb : w1.heap.size ≤ wb.heap.size:=hbwb.size;have HGd:=Lib.hid hGd;have HNd:=Lib.hid hnd;have HB0d:=Lib.hid (HB0.out.up hbwd);have HB1d:=(show Hid (∃ old,Sb wd (w.heap.size + 1) old 46 ∧ old.size = 19) from Lib.hid (Exists.elim HB1o.out (fun old h => ⟨old,h.1.up hbwd,h.2⟩)));have hzd:=HB0d.out.lt;(have q0:=HB0d.out.cell 0 (v:=.int .i64 (s.Rn : Int)) rfl;have q1:=HB0d.out.cell 1 (v:=.int .i64 (s.Cn : Int)) rfl;have q2:=HB0d.out.cell 2 (v:=.slice s.A s.n s.c) rfl);(have p0:=HB0d.out.free 0;have p1:=HB0d.out.free 1;have p2:=HB0d.out.free 2);clear hGd hnd hbd;go_wp2_with fail
    refine hK.out _ _ ?_ (fun hHeld => ?_)
    ·(try dsimp only);(first|(exact HYs.out _ BWX _)|(refine HY.out _ ?_;exact BWX))
    clear hK K
    (try simp only [Act.put,zP4,zP5,zP6])
    refine arO 13 (fun K hK => ?_)
    go_simp
    refine hK.out _ _ ?_ (fun hHeld => ?_)
    ·(try dsimp only);(first|(exact HYs.out _ BWX _)|(refine HY.out _ ?_;exact BWX))
    clear hK K
    (try simp only [Act.put,zP4,zP5,zP6])
    refine arO 14 (fun K hK => ?_)
    go_simp
    refine hK.out _ _ ?_ (fun hHeld => ?_)
    ·(try dsimp only);(first|(exact HYs.out _ BWX _)|(refine HY.out _ ?_;exact BWX))
    clear hK K
    (try simp only [Act.put,zP4,zP5,zP6])
    refine wpAnyH_done (by kernel_rfl) ?_ _
    go_wp2
    go_meet
    case rel =>
     have hnb : ∀ ad,A' = some ad → w1.heap.size ≤ ad.block:=fun ad e => by have:=HNd.out ad e;first|omega|(simp only [szA,szS,szD,szN,plus_size] at this;omega)
     have hne : ∀ ad,A' = some ad → ad.block ≠ w.heap.size:=fun ad e => by have:=hnb ad e;omega
     exact ⟨A',n',c',((HB0d.out.set 0 _ rfl).set 1 _ rfl).set 2 _ rfl,Exists.elim HB1d.out (fun old h => ⟨old,((h.1.away hne10 _).away hne10 _).away hne10 _,h.2⟩),((HGd.out.away hne _ _).away hne _ _).away hne _ _,hnb,BWX,by have:=hbwd.size;simpa using this⟩
   exact AllReadyH.nil
  case rest =>
  obtain ⟨A',n',c',hS,hold,hG',hnew,hbw',hzc'⟩:=hcut
  have HS:=Lib.hid hS
  have HOld:=Lib.hid hold
  have HG':=Lib.hid hG'
  have HNew:=Lib.hid hnew
  have hzc : w.heap.size < wc.heap.size:=hS.lt
  have hO2:=Lib.hid HOk1.out.2
  have HOkc:=Lib.hid (show (s.gr A' n' c').Ok wc from ⟨hG',hO2.out⟩)
  clear hS hold hG' hnew x0 x1 x2 x3 x9 x10 z0 z1 z2 hk3
  go_upto_region 4 with (fail)
  go_wp2_with (first
   | ((with_reducible refine wpList_load_sc (s.gr A' n' c') (w.heap.size) (.tmp 2) rfl rfl ?_ ?_ ?_);(focus rfl);(focus (exact HS.out)))
   | (go_at_call 104;refine (rsmove_ok (s.gr A' n' c') 5 0 _ (HOkc.out) (by omega)).mono ?_;rintro ee w2 ⟨r2,c2,b2,rfl,hrc2,hb2⟩;have HB12:=(show Hid (∃ old,Sb w2 (w.heap.size + 1) old 46 ∧ old.size = 19) from Lib.hid (Exists.elim HOld.out (fun old h => ⟨old,h.1.up hb2,h.2⟩)));have hbm2:=hb2;have hzm2:=hb2.size;have HRC2:=Lib.hid hrc2;clear hb2 hrc2)
   | ((with_reducible refine wpList_store_sc ({ s.gr A' n' c' with row:=r2,col:=c2,wrap:=b2 } : Scr) (w.heap.size + 1) (.tmp 4) (.tmp 37) rfl rfl ?_ ?_ ?_ ?_);(focus rfl);(focus rfl);(focus (exact HB12.out));intro w3 hS3 hg3;have HS3:=Lib.hid hS3;have HG3:=Lib.hid hg3;clear hS3 hg3)
   | fail)
  have hA1 : ∀ ad,A' = some ad → ad.block ≠ w.heap.size + 1:=fun ad e => by have:=HNew.out ad e;omega
  refine bodyPost_ret (results_sc rfl _ _ (w.heap.size + 1) ({ s.gr A' n' c' with row:=r2,col:=c2,wrap:=b2 } : Scr) (by rfl) HS3.out) rfl ?_
  exact ⟨({ s.gr A' n' c' with row:=r2,col:=c2,wrap:=b2 } : Scr),rfl,rfl,rfl,((HOkc.out.up hbm2).cur b2 HRC2.out).far HG3.out (ne_some hA1),.inr (fun ad e => by have:=HNew.out ad e;omega),Bw.grown (Bw.trans hbw' hbm2) HG3.out (fun k hk => by cases hk;omega)⟩
theorem rsclear_ok (s : Scr) (fr tt : Int) (w : World) (hs : s.Ok w) : Calls Tryz.prog 119 #[.agg s.vals.toArray,.int .i64 fr,.int .i64 tt] w (ScO w s):=by
 have HOk:=Lib.hid hs
 have HAl:=Lib.hid hs.1.lt
 have HBl:=Lib.hid (blankC_ok hs.2.2.1)
 have HG0:=Lib.hid hs.1
 have h2:=hs.1.2.1
 clear hs
 go_enter Tryz.func119,Tryz.ntmps119
 go_upto_region 1 with (fail)
 generalize hw1 : (w.alloc (.cells s.vals.toArray 46)).alloc _ = w1
 obtain ⟨hb0,hb1,hbw,hz⟩:=sb2 hw1
 have HB0:=Lib.hid hb0
 have HB1:=Lib.hid hb1
 have hz1 : w.heap.size + 1 < w1.heap.size:=by omega
 have HOk1:=Lib.hid (HOk.out.up hbw)
 have HNe0:=Lib.hid (show ∀ ad,s.A = some ad → ad.block ≠ w.heap.size from fun ad e => by have:=HAl.out ad e;omega)
 have HNe1:=Lib.hid (show ∀ ad,s.A = some ad → ad.block ≠ w.heap.size + 1 from fun ad e => by have:=HAl.out ad e;omega)
 have hne10 : w.heap.size + 1 ≠ w.heap.size:=by omega
 clear hw1 hb0 hb1 hz
 go_wp2_with fail
 go_loopw [7] (fun i wr => ∃ (r : Nat) (s' : Scr),i = .int .i64 r ∧ r ≤ s.Rn ∧ (∃ A' n' c',s' = s.gr A' n' c') ∧ Sb wr w.heap.size s'.vals.toArray 46 ∧ (∃ old,Sb wr (w.heap.size + 1) old 46 ∧ old.size = 19) ∧ Gok wr s'.Rn s'.Cn s'.A s'.n s'.c ∧ (∀ ad,s'.A = some ad → ad.block ≠ w.heap.size ∧ ad.block ≠ w.heap.size + 1) ∧ An w s.A s'.A ∧ Bw w wr ∧ w1.heap.size ≤ wr.heap.size) (fun i _ => s.Rn - (intOf i).toNat)
 case atStart => exact ⟨0,s,rfl,by omega,⟨s.A,s.n,s.c,rfl⟩,HB0.out,⟨_,HB1.out,rfl⟩,HOk1.out.1,fun ad e => ⟨HNe0.out ad e,HNe1.out ad e⟩,.inl rfl,hbw,Nat.le_refl _⟩
 case round =>
  obtain ⟨r,s',rfl,hr,⟨A0,n0,c0,he⟩,hS0,hold0,hG0,hne0,hAn0,hbwr,hzr⟩:=hrel
  obtain ⟨wo,hwo⟩ : ∃ wo : World,wo = wr:=⟨_,rfl⟩
  subst hwo
  have HS0:=Lib.hid hS0
  have HOld0:=Lib.hid hold0
  have HGk:=Lib.hid hG0
  have HNe:=Lib.hid hne0
  have HAn0:=Lib.hid hAn0
  have eR : s'.Rn = s.Rn:=by rw [he];rfl
  have eB : s'.b = s.b:=by rw [he];rfl
  have eO:=Lib.hid he
  have HBl':=Lib.hid (show cellB (32,0,0,s'.b) = true by rw [eB];exact HBl.out)
  have hr' : r ≤ s'.Rn:=by omega
  have hR30 : s'.Rn ≤ 30:=by omega
  have ER:=Lib.hid eR
  clear hS0 hold0 hG0 hne0 hAn0 he eR eB
  (have x0:=HS0.out.cell 0 (v:=.int .i64 (s'.Rn : Int)) rfl;have x1:=HS0.out.cell 1 (v:=.int .i64 (s'.Cn : Int)) rfl;have x2:=HS0.out.cell 2 (v:=.slice s'.A s'.n s'.c) rfl)
  (have z0:=HS0.out.free 0;have z1:=HS0.out.free 1;have z2:=HS0.out.free 2)
  have hz00:=HS0.out.lt
  have hzo1 : w.heap.size + 1 < wo.heap.size:=by omega
  by_cases hlt : r < s'.Rn
  ·go_upto_region 4 with (fail)
   have hY:=(show ∀ w',Bw wo w' → (w'.cell? ⟨w.heap.size,1,none⟩ = some (.int .i64 (s'.Cn : Int)) ∧ w'.cell? ⟨w.heap.size,6,none⟩ = some (.int .i64 s'.f) ∧ w'.cell? ⟨w.heap.size,7,none⟩ = some (.int .i64 s'.g) ∧ w'.cell? ⟨w.heap.size,8,none⟩ = some (.int .i64 s'.b)) from fun w' hb => ⟨(HS0.out.up hb).cell 1 rfl,(HS0.out.up hb).cell 6 rfl,(HS0.out.up hb).cell 7 rfl,(HS0.out.up hb).cell 8 rfl⟩)
   have hYs:=(show ∀ w' (hb : Bw wo w') (c : Value),((((w'.setCell ⟨w.heap.size,0,none⟩ (.int .i64 (s'.Rn : Int))).setCell ⟨w.heap.size,1,none⟩ (.int .i64 (s'.Cn : Int))).setCell ⟨w.heap.size,2,none⟩ c).cell? ⟨w.heap.size,1,none⟩ = some (.int .i64 (s'.Cn : Int)) ∧ (((w'.setCell ⟨w.heap.size,0,none⟩ (.int .i64 (s'.Rn : Int))).setCell ⟨w.heap.size,1,none⟩ (.int .i64 (s'.Cn : Int))).setCell ⟨w.heap.size,2,none⟩ c).cell? ⟨w.heap.size,6,none⟩ = some (.int .i64 s'.f) ∧ (((w'.setCell ⟨w.heap.size,0,none⟩ (.int .i64 (s'.Rn : Int))).setCell ⟨w.heap.size,1,none⟩ (.int .i64 (s'.Cn : Int))).setCell ⟨w.heap.size,2,none⟩ c).cell? ⟨w.heap.size,7,none⟩ = some (.int .i64 s'.g) ∧ (((w'.setCell ⟨w.heap.size,0,none⟩ (.int .i64 (s'.Rn : Int))).setCell ⟨w.heap.size,1,none⟩ (.int .i64 (s'.Cn : Int))).setCell ⟨w.heap.size,2,none⟩ c).cell? ⟨w.heap.size,8,none⟩ = some (.int .i64 s'.b)) from fun w' hb c => ⟨cell_ne (World.cell?_setCell_same _ _ _ (cell_ne ((hY w' hb).1) (by omega))) (by omega),cell_ne (cell_ne (cell_ne ((hY w' hb).2.1) (by omega)) (by omega)) (by omega),cell_ne (cell_ne (cell_ne ((hY w' hb).2.2.1) (by omega)) (by omega)) (by omega),cell_ne (cell_ne (cell_ne ((hY w' hb).2.2.2) (by omega)) (by omega)) (by omega)⟩)
   have HY:=Lib.hid hY
   have HYs:=Lib.hid hYs
   clear hY hYs
   refine wp_region_held_drew (S:=(fun w' => w'.cell? ⟨w.heap.size,1,none⟩ = some (.int .i64 (s'.Cn : Int)) ∧ w'.cell? ⟨w.heap.size,6,none⟩ = some (.int .i64 s'.f) ∧ w'.cell? ⟨w.heap.size,7,none⟩ = some (.int .i64 s'.g) ∧ w'.cell? ⟨w.heap.size,8,none⟩ = some (.int .i64 s'.b))) (by kernel_rfl) ?_ (fun hHeld => ?_)
   ·(try dsimp only);(first|(exact HYs.out _ BWX _)|(refine HY.out _ ?_;exact BWX))
   refine tkQ 0 ?_
   refine tkQ 2 ?_
   (try simp only [Act.put,zP4,zP5,zP6])
   refine tkQ 3 ?_
   refine tkQ 4 ?_
   refine tkQ 5 ?_
   (try simp only [Act.put,zP4,zP5,zP6])
   refine tkQ 6 ?_
   refine tkQ 7 ?_
   refine tkQ 8 ?_
   (try simp only [Act.put,zP4,zP5,zP6])
   refine tkQ 9 ?_
   refine tkQ 10 ?_
   refine tkQ 11 ?_
   (try simp only [Act.put,zP4,zP5,zP6])
   refine tkQ 12 ?_
   refine tkQ 13 ?_
   refine tkQ 14 ?_
   (try simp only [Act.put,zP4,zP5,zP6])
   refine tkQ 15 ?_
   refine tkQ 16 ?_
   refine tkQ 17 ?_
   (try simp only [Act.put,zP4,zP5,zP6])
   refine tkQ 18 ?_
   (try simp only [Act.put,zP4,zP5,zP6])
   refine wpAnyH_ready (rs:=[1,19]) (by kernel_rfl) (by simp) ?_
   refine AllReadyH.cons rfl (fun K hK => ?_) ?_
   ·go_simp
    refine hK.out _ _ ?_ (fun hHeld => ?_)
    ·(try dsimp only);(first|(exact HYs.out _ BWX _)|(refine HY.out _ ?_;exact BWX))
    clear hK K
    (try simp only [Act.put,zP4,zP5,zP6])
    refine arO 19 (fun K hK => ?_)
    go_simp
    refine (rblank_any s'.f s'.g s'.b _).mono ?_;rintro ee wb ⟨rfl,hbb⟩;have hbwb : Bw wo wb:=Bw.trans (show Bw wo _ from BWX) hbb;have HB0b:=Lib.hid (HS0.out.up hbwb);have hzb:=HB0b.out.lt;(have u0:=HB0b.out.cell 0 (v:=.int .i64 (s'.Rn : Int)) rfl;have u1:=HB0b.out.cell 1 (v:=.int .i64 (s'.Cn : Int)) rfl;have u2:=HB0b.out.cell 2 (v:=.slice s'.A s'.n s'.c) rfl);clear hbb;go_wp2_with fail
    refine hK.out _ _ ?_ (fun hHeld => ?_)
    ·(try dsimp only);(first|(exact HYs.out _ BWX _)|(refine HY.out _ ?_;exact BWX))
    clear hK K
    (try simp only [Act.put,zP4,zP5,zP6])
    refine arO 20 (fun K hK => ?_)
    go_simp
    refine (rfill_ok s'.Rn s'.Cn s'.A s'.n s'.c _ _ _ 32 0 0 s'.b _ (by exact HGk.out.up BWX) HBl'.out).mono ?_;rintro ee wd ⟨A',n',c',rfl,hGd,hnd,hbd⟩;have hbwd : Bw wo wd:=Bw.trans (show Bw wo _ from BWX) hbd;have hzwb : wo.heap.size ≤ wb.heap.size:=hbwb.size;have HGd:=Lib.hid hGd;have HNd:=Lib.hid hnd;have HB0d:=Lib.hid (HS0.out.up hbwd);have HB1d:=(show Hid (∃ old,Sb wd (w.heap.size + 1) old 46 ∧ old.size = 19) from Lib.hid (Exists.elim HOld0.out (fun old h => ⟨old,h.1.up hbwd,h.2⟩)));have hzd:=HB0d.out.lt;(have q0:=HB0d.out.cell 0 (v:=.int .i64 (s'.Rn : Int)) rfl;have q1:=HB0d.out.cell 1 (v:=.int .i64 (s'.Cn : Int)) rfl;have q2:=HB0d.out.cell 2 (v:=.slice s'.A s'.n s'.c) rfl);(have p0:=HB0d.out.free 0;have p1:=HB0d.out.free 1;have p2:=HB0d.out.free 2);clear hGd hnd hbd;go_wp2_with fail
    refine hK.out _ _ ?_ (fun hHeld => ?_)
    ·(try dsimp only);(first|(exact HYs.out _ BWX _)|(refine HY.out _ ?_;exact BWX))
    clear hK K
    (try simp only [Act.put,zP4,zP5,zP6])
    refine arO 21 (fun K hK => ?_)
    go_simp
    refine hK.out _ _ ?_ (fun hHeld => ?_)
    ·(try dsimp only);(first|(exact HYs.out _ BWX _)|(refine HY.out _ ?_;exact BWX))
    clear hK K
    (try simp only [Act.put,zP4,zP5,zP6])
    refine arO 22 (fun K hK => ?_)
    go_simp
    refine hK.out _ _ ?_ (fun hHeld => ?_)
    ·(try dsimp only);(first|(exact HYs.out _ BWX _)|(refine HY.out _ ?_;exact BWX))
    clear hK K
    (try simp only [Act.put,zP4,zP5,zP6])
    refine wpAnyH_done (by kernel_rfl) ?_ _
    go_wp2_with fail
    go_roundw
    case rel =>
     have hnb : ∀ ad,A' = some ad → wo.heap.size ≤ ad.block:=fun ad e => by have:=HNd.out ad e;first|omega|(simp only [szA,szS,szD,szN,plus_size] at this;omega)
     have hne : ∀ ad,A' = some ad → ad.block ≠ w.heap.size:=fun ad e => by have:=hnb ad e;omega
     exact ⟨r + 1,s'.gr A' n' c',by go_num,by have:=ER.out;omega,⟨A',n',c',by rw [eO.out];rfl⟩,((HB0d.out.set 0 _ rfl).set 1 _ rfl).set 2 _ rfl,Exists.elim HB1d.out (fun old h => ⟨old,((h.1.away hne10 _).away hne10 _).away hne10 _,h.2⟩),((HGd.out.away hne _ _).away hne _ _).away hne _ _,(fun ad e => by have:=hnb ad e;omega),.inr (fun ad e => by have:=hnb ad e;omega),BWX,by have:=hbwd.size;simp;omega⟩
    case measure => have:=ER.out;simp [intOf];omega
   refine AllReadyH.cons rfl (fun K hK => ?_) ?_
   ·go_simp
    refine (rblank_any s'.f s'.g s'.b _).mono ?_;rintro ee wb ⟨rfl,hbb⟩;have hbwb : Bw wo wb:=Bw.trans (show Bw wo _ from BWX) hbb;have HB0b:=Lib.hid (HS0.out.up hbwb);have hzb:=HB0b.out.lt;(have u0:=HB0b.out.cell 0 (v:=.int .i64 (s'.Rn : Int)) rfl;have u1:=HB0b.out.cell 1 (v:=.int .i64 (s'.Cn : Int)) rfl;have u2:=HB0b.out.cell 2 (v:=.slice s'.A s'.n s'.c) rfl);clear hbb;go_wp2_with fail
    refine hK.out _ _ ?_ (fun hHeld => ?_)
    ·(try dsimp only);(first|(exact HYs.out _ BWX _)|(refine HY.out _ ?_;exact BWX))
    clear hK K
    (try simp only [Act.put,zP4,zP5,zP6])
    refine arO 1 (fun K hK => ?_)
    go_simp
    refine hK.out _ _ ?_ (fun hHeld => ?_)
    ·(try dsimp only);(first|(exact HYs.out _ BWX _)|(refine HY.out _ ?_;exact BWX))
    clear hK K
    (try simp only [Act.put,zP4,zP5,zP6])
    refine arO 20 (fun K hK => ?_)
    go_simp
    refine (rfill_ok s'.Rn s'.Cn s'.A s'.n s'.c _ _ _ 32 0 0 s'.b _ (by exact HGk.out.up BWX) HBl'.out).mono ?_;rintro ee wd ⟨A',n',c',rfl,hGd,hnd,hbd⟩;have hbwd : Bw wo wd:=Bw.trans (show Bw wo _ from BWX) hbd;have hzwb : wo.heap.size ≤ wb.heap.size:=hbwb.size;have HGd:=Lib.hid hGd;have HNd:=Lib.hid hnd;have HB0d:=Lib.hid (HS0.out.up hbwd);have HB1d:=(show Hid (∃ old,Sb wd (w.heap.size + 1) old 46 ∧ old.size = 19) from Lib.hid (Exists.elim HOld0.out (fun old h => ⟨old,h.1.up hbwd,h.2⟩)));have hzd:=HB0d.out.lt;(have q0:=HB0d.out.cell 0 (v:=.int .i64 (s'.Rn : Int)) rfl;have q1:=HB0d.out.cell 1 (v:=.int .i64 (s'.Cn : Int)) rfl;have q2:=HB0d.out.cell 2 (v:=.slice s'.A s'.n s'.c) rfl);(have p0:=HB0d.out.free 0;have p1:=HB0d.out.free 1;have p2:=HB0d.out.free 2);clear hGd hnd hbd;go_wp2_with fail
    refine hK.out _ _ ?_ (fun hHeld => ?_)
    ·(try dsimp only);(first|(exact HYs.out _ BWX _)|(refine HY.out _ ?_;exact BWX))
    clear hK K
    (try simp only [Act.put,zP4,zP5,zP6])
    refine arO 21 (fun K hK => ?_)
    go_simp
    refine hK.out _ _ ?_ (fun hHeld => ?_)
    ·(try dsimp only);(first|(exact HYs.out _ BWX _)|(refine HY.out _ ?_;exact BWX))
    clear hK K
    (try simp only [Act.put,zP4,zP5,zP6])
    refine arO 22 (fun K hK => ?_)
    go_simp
    refine hK.out _ _ ?_ (fun hHeld => ?_)
    ·(try dsimp only);(first|(exact HYs.out _ BWX _)|(refine HY.out _ ?_;exact BWX))
    clear hK K
    (try simp only [Act.put,zP4,zP5,zP6])
    refine wpAnyH_done (by kernel_rfl) ?_ _
    go_wp2_with fail
    go_roundw
    case rel =>
     have hnb : ∀ ad,A' = some ad → wo.heap.size ≤ ad.block:=fun ad e => by have:=HNd.out ad e;first|omega|(simp only [szA,szS,szD,szN,plus_size] at this;omega)
     have hne : ∀ ad,A' = some ad → ad.block ≠ w.heap.size:=fun ad e => by have:=hnb ad e;omega
     exact ⟨r + 1,s'.gr A' n' c',by go_num,by have:=ER.out;omega,⟨A',n',c',by rw [eO.out];rfl⟩,((HB0d.out.set 0 _ rfl).set 1 _ rfl).set 2 _ rfl,Exists.elim HB1d.out (fun old h => ⟨old,((h.1.away hne10 _).away hne10 _).away hne10 _,h.2⟩),((HGd.out.away hne _ _).away hne _ _).away hne _ _,(fun ad e => by have:=hnb ad e;omega),.inr (fun ad e => by have:=hnb ad e;omega),BWX,by have:=hbwd.size;simp;omega⟩
    case measure => have:=ER.out;simp [intOf];omega
   exact AllReadyH.nil
  ·obtain rfl : r = s'.Rn:=by omega
   go_upto_region 5 with (fail)
   go_wp2_with (first
    | ((with_reducible refine wpList_load_sc (s') (w.heap.size) (.tmp 3) rfl rfl ?_ ?_ ?_);(focus rfl);(focus (exact HS0.out)))
    | ((with_reducible refine wpList_store_sc (s') (w.heap.size + 1) (.tmp 6) (.tmp 37) rfl rfl ?_ ?_ ?_ ?_);(focus rfl);(focus rfl);(focus (exact HOld0.out));intro w3 hS3 hg3;have HS3:=Lib.hid hS3;have HG3:=Lib.hid hg3;clear hS3 hg3)
    | fail)
   have hA1 : ∀ ad,s'.A = some ad → ad.block ≠ w.heap.size + 1:=fun ad e => (HNe.out ad e).2
   have hOk : s'.Ok wo:=⟨HGk.out,by have:=HOk.out.2;rw [eO.out];exact this⟩
   refine bodyPost_ret (results_sc rfl _ _ (w.heap.size + 1) (s') (by rfl) HS3.out) rfl ?_
   exact ⟨(s'),ER.out,by rw [eO.out];rfl,rfl,hOk.far HG3.out (ne_some hA1),HAn0.out,Bw.grown (hbwr) HG3.out (fun k hk => by cases hk;omega)⟩
theorem rserase_ok (s : Scr) (kd fr tt : Int) (w : World) (hs : s.Ok w) (hf : -1000000 ≤ fr ∧ fr ≤ 1000000) : Calls Tryz.prog 107 #[.agg s.vals.toArray,.int .i64 kd,.int .i64 fr,.int .i64 tt] w (ScO w s):=by
 obtain ⟨hrw0,hrw1,hcl0,hcl1⟩:=hs.2.1
 have hR2:=hs.1.2.1
 have hC2:=hs.1.2.2.2.1
 obtain ⟨p,hp⟩ : ∃ p : Int,s.row * (s.Cn : Int) = p:=⟨_,rfl⟩
 have hp0 : 0 ≤ p:=by rw [← hp];exact Int.mul_nonneg hrw0 (by omega)
 have hp1 : p ≤ 3000:=by
  rw [← hp]
  have h1 : s.row * (s.Cn : Int) ≤ 30 * (s.Cn : Int):=Int.mul_le_mul_of_nonneg_right (by omega) (by omega)
  omega
 have HOk:=Lib.hid hs
 have HAl:=Lib.hid hs.1.lt
 clear hs
 go_enter Tryz.func107,Tryz.ntmps107
 go_upto_region 1 with (fail)
 generalize hw1 : (w.alloc (.cells s.vals.toArray 46)).alloc _ = w1
 obtain ⟨hb0,hb1,hbw,hz⟩:=sb2 hw1
 have HB0:=Lib.hid hb0
 have HB1:=Lib.hid hb1
 have hz1 : w.heap.size + 1 < w1.heap.size:=by omega
 have HOk1:=Lib.hid (HOk.out.up hbw)
 have HNe0:=Lib.hid (show ∀ ad,s.A = some ad → ad.block ≠ w.heap.size from fun ad e => by have:=HAl.out ad e;omega)
 have HNe1:=Lib.hid (show ∀ ad,s.A = some ad → ad.block ≠ w.heap.size + 1 from fun ad e => by have:=HAl.out ad e;omega)
 have hne10 : w.heap.size + 1 ≠ w.heap.size:=by omega
 clear hw1 hb0 hb1 hz
 (have x1:=HB0.out.cell 1 (v:=.int .i64 (s.Cn : Int)) rfl;have x3:=HB0.out.cell 3 (v:=.int .i64 s.row) rfl;have x4:=HB0.out.cell 4 (v:=.int .i64 s.col) rfl)
 have hways : kd = 0 ∨ kd = 1 ∨ kd = 2 ∨ (¬ kd = 0 ∧ ¬ kd = 1 ∧ ¬ kd = 2):=by omega
 rcases hways with rfl|rfl|rfl|⟨q1,q2,q3⟩
 ·go_upto_region 4 with (fail)
  go_wp2_with (first
   | ((with_reducible refine wpList_load_sc (s) (w.heap.size) (.tmp 4) rfl rfl ?_ ?_ ?_);(focus rfl);(focus (exact HB0.out)))
   | (go_at_call 119;refine (rsclear_ok (s) _ _ _ (HOk1.out)).mono ?_;rintro ee w2 ⟨s',e1,e2,rfl,hOk',hAn,hb2⟩;have HB12:=Lib.hid ((HB1.out).up hb2);have hbm2:=hb2;have hzm2:=hb2.size;have HOk':=Lib.hid hOk';have HAn:=Lib.hid hAn;have HE:=Lib.hid (And.intro e1 e2);clear hOk' hAn hb2 e1 e2)
   | ((with_reducible refine wpList_store_sc (s') (w.heap.size + 1) (.tmp 8) (.tmp 27) rfl rfl ?_ ?_ ?_ ?_);(focus rfl);(focus rfl);(focus (exact ⟨_,HB12.out,rfl⟩));intro w3 hS3 hg3;have HS3:=Lib.hid hS3;have HG3:=Lib.hid hg3;clear hS3 hg3)
   | fail)
  refine bodyPost_ret (results_sc rfl _ _ (w.heap.size + 1) (s') (by rfl) HS3.out) rfl ?_
  have hAnw : An w s.A s'.A:=HAn.out.more (by omega)
  have hne : ∀ ad,s'.A = some ad → ad.block ≠ w.heap.size + 1:=HAn.out.ne (fun ad e => by have:=HAl.out ad e;omega) (by omega)
  exact ⟨s',HE.out.1,HE.out.2,rfl,HOk'.out.far HG3.out (ne_some hne),hAnw,Bw.grown (Bw.trans hbw hbm2) HG3.out (fun k hk => by cases hk;omega)⟩
 ·go_upto_region 6 with (fail)
  go_wp2_with (first
   | ((with_reducible refine wpList_load_sc (s) (w.heap.size) (.tmp 4) rfl rfl ?_ ?_ ?_);(focus rfl);(focus (exact HB0.out)))
   | (go_at_call 119;refine (rsclear_ok (s) _ _ _ (HOk1.out)).mono ?_;rintro ee w2 ⟨s',e1,e2,rfl,hOk',hAn,hb2⟩;have HB12:=Lib.hid ((HB1.out).up hb2);have hbm2:=hb2;have hzm2:=hb2.size;have HOk':=Lib.hid hOk';have HAn:=Lib.hid hAn;have HE:=Lib.hid (And.intro e1 e2);clear hOk' hAn hb2 e1 e2)
   | ((with_reducible refine wpList_store_sc (s') (w.heap.size + 1) (.tmp 8) (.tmp 34) rfl rfl ?_ ?_ ?_ ?_);(focus rfl);(focus rfl);(focus (exact ⟨_,HB12.out,rfl⟩));intro w3 hS3 hg3;have HS3:=Lib.hid hS3;have HG3:=Lib.hid hg3;clear hS3 hg3)
   | fail)
  refine bodyPost_ret (results_sc rfl _ _ (w.heap.size + 1) (s') (by rfl) HS3.out) rfl ?_
  have hAnw : An w s.A s'.A:=HAn.out.more (by omega)
  have hne : ∀ ad,s'.A = some ad → ad.block ≠ w.heap.size + 1:=HAn.out.ne (fun ad e => by have:=HAl.out ad e;omega) (by omega)
  exact ⟨s',HE.out.1,HE.out.2,rfl,HOk'.out.far HG3.out (ne_some hne),hAnw,Bw.grown (Bw.trans hbw hbm2) HG3.out (fun k hk => by cases hk;omega)⟩
 ·go_upto_region 8 with (fail)
  go_wp2_with (first
   | ((with_reducible refine wpList_load_sc (s) (w.heap.size) (.tmp 4) rfl rfl ?_ ?_ ?_);(focus rfl);(focus (exact HB0.out)))
   | (go_at_call 119;refine (rsclear_ok (s) _ _ _ (HOk1.out)).mono ?_;rintro ee w2 ⟨s',e1,e2,rfl,hOk',hAn,hb2⟩;have HB12:=Lib.hid ((HB1.out).up hb2);have hbm2:=hb2;have hzm2:=hb2.size;have HOk':=Lib.hid hOk';have HAn:=Lib.hid hAn;have HE:=Lib.hid (And.intro e1 e2);clear hOk' hAn hb2 e1 e2)
   | ((with_reducible refine wpList_store_sc (s') (w.heap.size + 1) (.tmp 8) (.tmp 40) rfl rfl ?_ ?_ ?_ ?_);(focus rfl);(focus rfl);(focus (exact ⟨_,HB12.out,rfl⟩));intro w3 hS3 hg3;have HS3:=Lib.hid hS3;have HG3:=Lib.hid hg3;clear hS3 hg3)
   | fail)
  refine bodyPost_ret (results_sc rfl _ _ (w.heap.size + 1) (s') (by rfl) HS3.out) rfl ?_
  have hAnw : An w s.A s'.A:=HAn.out.more (by omega)
  have hne : ∀ ad,s'.A = some ad → ad.block ≠ w.heap.size + 1:=HAn.out.ne (fun ad e => by have:=HAl.out ad e;omega) (by omega)
  exact ⟨s',HE.out.1,HE.out.2,rfl,HOk'.out.far HG3.out (ne_some hne),hAnw,Bw.grown (Bw.trans hbw hbm2) HG3.out (fun k hk => by cases hk;omega)⟩
 ·have h1 : (kd == 0) = false:=by simpa using q1
  have h2 : (kd == 1) = false:=by simpa using q2
  have h3 : (kd == 2) = false:=by simpa using q3
  clear q1 q2 q3
  go_upto_region 9 with (fail)
  go_wp2_with (first
   | ((with_reducible refine wpList_load_sc (s) (w.heap.size) (.tmp 4) rfl rfl ?_ ?_ ?_);(focus rfl);(focus (exact HB0.out)))
   | ((with_reducible refine wpList_store_sc (s) (w.heap.size + 1) (.tmp 8) (.tmp 41) rfl rfl ?_ ?_ ?_ ?_);(focus rfl);(focus rfl);(focus (exact ⟨_,HB1.out,rfl⟩));intro w3 hS3 hg3;have HS3:=Lib.hid hS3;have HG3:=Lib.hid hg3;clear hS3 hg3)
   | fail)
  refine bodyPost_ret (results_sc rfl _ _ (w.heap.size + 1) (s) (by rfl) HS3.out) rfl ?_
  exact ⟨(s),rfl,rfl,rfl,HOk1.out.far HG3.out (ne_some HNe1.out),.inl rfl,Bw.grown (hbw) HG3.out (fun k hk => by cases hk;omega)⟩
theorem rsor_any (A : Option Addr) (n c i : Nat) (d : Int) (xs : List Int) (w : World) (hx : Rd (.int .i64) w A n xs) (hn : n ≤ c) (hc : c ≤ 9223372036854775807) (hi : i ≤ 1000) :
  Calls Tryz.prog 106 #[.slice A n c,.int .i64 i,.int .i64 d] w fun e w' => (∃ v,e = .returned (.int .i64 v) ∧ (v = d ∨ (v ∈ xs ∧ v ≠ 0))) ∧ Bw w w':=by
 have HX:=Lib.hid hx
 clear hx
 by_cases hlt : i < n
 ·obtain ⟨g,o,rfl,hx⟩:=HX.out.2 (by omega)
  have hix : i < xs.length:=by rw [HX.out.1];exact hlt
  have hcx:=hx i hix
  have HM:=Lib.hid (List.getElem_mem hix)
  obtain ⟨v,hv⟩ : ∃ v,xs[i] = v:=⟨_,rfl⟩
  rw [hv] at hcx
  have HM' : Hid (v ∈ xs):=Lib.hid (hv ▸ HM.out)
  clear hx hv HM
  by_cases hz : v = 0
  ·subst hz
   go_enter Tryz.func106,Tryz.ntmps106
   go_wp2_with fail
   go_ret
   exact ⟨⟨d,rfl,.inl rfl⟩,BWX⟩
  ·have hq : (v != 0) = true:=by simpa using hz
   have HZ:=Lib.hid hz
   clear hz
   go_enter Tryz.func106,Tryz.ntmps106
   go_wp2_with fail
   go_ret
   exact ⟨⟨v,rfl,.inr ⟨HM'.out,HZ.out⟩⟩,BWX⟩
 ·go_enter Tryz.func106,Tryz.ntmps106
  go_wp2_with fail
  go_ret
  exact ⟨⟨d,rfl,.inl rfl⟩,BWX⟩
/-- Every parameter lies in 0..9999. -/
def propB (xs : List Int) : Bool:=xs.all (fun x => decide (0 ≤ x ∧ x ≤ 9999))
theorem rnew_gn (R C : Int) (Rn Cn : Nat) (w : World) (hR : clamp R 30 = Rn) (hC : clamp C 100 = Cn) : Calls Tryz.prog 71 #[.int .i64 R,.int .i64 C] w (Gn w Rn Cn):=by
 have h1:=clamp_bd R 30 (by omega)
 have h2:=clamp_bd C 100 (by omega)
 rw [hR] at h1
 rw [hC] at h2
 refine (rnew16_any R C w).mono ?_
 rw [hR,hC]
 rintro e w' ⟨A,n,c,k1,k2,k3,k4,k5,k6⟩
 rw [show ((Rn : Int) * (Cn : Int)).toNat = Rn * Cn by rw [← Int.natCast_mul];exact Int.toNat_natCast _] at k2
 exact ⟨A,n,c,k1,⟨by omega,by omega,by omega,by omega,by rw [← k2.1];simp,k3,k4,_,k2,gridB_rep (by omega) (by omega) (by omega) (by omega)⟩,k5,k6⟩
/-- The call returns a new valid screen of that size. -/
def ScW (w : World) (R C : Int) (e : Ending) (w' : World) : Prop:=∃ s' : Scr,(s'.Rn : Int) = clamp R 30 ∧ (s'.Cn : Int) = clamp C 100 ∧ e = .returned (.agg s'.vals.toArray) ∧ s'.Ok w' ∧ (∀ ad,s'.A = some ad → w.heap.size ≤ ad.block) ∧ Bw w w'
theorem wp_store_sc {o : Oper} {a : Act} {w : World} {K : Act → World → Prop} {Q : Exit → Act → World → Prop} (s : Scr) (g : Nat) (x y : Operand) (ho : o.op = .store 46 x y)
  (hx : a.eval x = .pointer (some ⟨g,0,none⟩)) (hy : a.eval y = .agg s.vals.toArray) (hg : ∃ old,Sb w g old 46 ∧ old.size = 19)
  (h : ∀ w',Sb w' g s.vals.toArray 46 → w.grownBy w' (some g) → K (a.put o.dst undef) w') : Oper.wp Tryz.prog o a w K Q:=by
 obtain ⟨old,hg,hold⟩:=hg
 exact wp_store_row 46 x y ho g s.vals.toArray hx hy 46 old hg (infoSz s) hold s.one
  (h _ (setRow_heap w g old _ _ _ hg) ⟨rfl,rfl,rfl,by simp [World.setRow],fun k hk hne => setRow_other w g k _ (fun e => hne (by rw [e]))⟩)
theorem sb1 {w w1 : World} {a : Array Value} {T : TypeId} (h : w.alloc (.cells a T) = w1) : Sb w1 w.heap.size a T ∧ Bw w w1 ∧ w1.heap.size = w.heap.size + 1:=by
 subst h
 exact ⟨heap_at rfl,BWX,by simp⟩
theorem rsnew_ok (R C : Int) (w : World) : Calls Tryz.prog 51 #[.int .i64 R,.int .i64 C] w (ScW w R C):=by
 obtain ⟨Rn,hRn⟩ : ∃ Rn : Nat,clamp R 30 = Rn:=⟨(clamp R 30).toNat,by have:=clamp_bd R 30 (by omega);omega⟩
 obtain ⟨Cn,hCn⟩ : ∃ Cn : Nat,clamp C 100 = Cn:=⟨(clamp C 100).toNat,by have:=clamp_bd C 100 (by omega);omega⟩
 have HRn:=Lib.hid hRn
 have HCn:=Lib.hid hCn
 clear hRn hCn
 go_enter Tryz.func51,Tryz.ntmps51
 go_upto_region 1 with (fail)
 generalize hw1 : w.alloc _ = w1
 obtain ⟨hb0,hbw,hz⟩:=sb1 hw1
 have HB0:=Lib.hid (show ∃ old,Sb w1 w.heap.size old 46 ∧ old.size = 19 from ⟨_,hb0,rfl⟩)
 have hz1 : w.heap.size < w1.heap.size:=by omega
 clear hw1 hb0 hz
 go_upto_region 2 with (go_at_call 71;refine (rnew_gn _ _ Rn Cn _ HRn.out HCn.out).mono ?_;rintro ee w2 ⟨A,n,c,rfl,hG,hN,hb2⟩;have HB02:=Lib.hid (show ∃ old,Sb w2 w.heap.size old 46 ∧ old.size = 19 from (Exists.elim HB0.out (fun old h => ⟨old,h.1.up hb2,h.2⟩)));have hbw2:=Bw.trans hbw hb2;have hz2:=hb2.size;have HG2:=Lib.hid hG;have HN:=Lib.hid hN;clear hG hN hb2)
 generalize hw3 : w2.alloc _ = w3
 obtain ⟨hb3,hbw3,hz3⟩:=sb1 hw3
 have HB3:=Lib.hid hb3
 have HG3:=Lib.hid (HG2.out.up hbw3)
 have HB03:=Lib.hid (show ∃ old,Sb w3 w.heap.size old 46 ∧ old.size = 19 from (Exists.elim HB02.out (fun old h => ⟨old,h.1.up hbw3,h.2⟩)))
 have hr1:=HG2.out.1
 have hr2:=HG2.out.2.1
 clear hw3 hb3
 have hY:=(show ∀ w',Bw w3 w' → (w'.cell? ⟨w2.heap.size,0,none⟩ = some (.int .i64 (Rn : Int)) ∧ w'.cell? ⟨w2.heap.size,1,none⟩ = some (.int .i64 (Cn : Int)) ∧ w'.cell? ⟨w2.heap.size,2,none⟩ = some (.slice A n c)) from fun w' hb => ⟨(HB3.out.up hb).cell 0 rfl,(HB3.out.up hb).cell 1 rfl,(HB3.out.up hb).cell 2 rfl⟩)
 have hYg:=(show ∀ w' w'',Bw w3 w' → w'.grownBy w'' (some w.heap.size) → (w''.cell? ⟨w2.heap.size,0,none⟩ = some (.int .i64 (Rn : Int)) ∧ w''.cell? ⟨w2.heap.size,1,none⟩ = some (.int .i64 (Cn : Int)) ∧ w''.cell? ⟨w2.heap.size,2,none⟩ = some (.slice A n c)) from fun w' w'' hb hg => by
  have h:=(HB3.out.up hb).far hg (by intro e;have:=Option.some.inj e;omega)
  exact ⟨h.cell 0 rfl,h.cell 1 rfl,h.cell 2 rfl⟩)
 have HY:=Lib.hid hY
 have HYg:=Lib.hid hYg
 clear hY hYg
 refine wp_region_held_drew (S:=(fun w' => w'.cell? ⟨w2.heap.size,0,none⟩ = some (.int .i64 (Rn : Int)) ∧ w'.cell? ⟨w2.heap.size,1,none⟩ = some (.int .i64 (Cn : Int)) ∧ w'.cell? ⟨w2.heap.size,2,none⟩ = some (.slice A n c))) (by kernel_rfl) ?_ (fun hHeld => ?_)
 ·(try dsimp only);(first|(exact HYg.out _ _ BWX HG5.out)|(refine HY.out _ ?_;exact BWX))
 refine tkQ 0 ?_
 refine tkQ 1 ?_
 (try simp only [Act.put,zP4,zP5,zP6])
 refine tkQ 2 ?_
 (try simp only [Act.put,zP4,zP5,zP6])
 refine arO 3 (fun K hK => ?_)
 go_simp
 refine (rsall_any _ _ (by omega) (by omega)).mono ?_;rintro ee w4 ⟨rfl,hb4⟩;have hbw4 : Bw w3 w4:=Bw.trans (show Bw w3 _ from BWX) hb4;have HB04:=Lib.hid (show ∃ old,Sb w4 w.heap.size old 46 ∧ old.size = 19 from (Exists.elim HB03.out (fun old h => ⟨old,h.1.up hbw4,h.2⟩)));have HG4:=Lib.hid (HG3.out.up hbw4);clear hb4;go_wp2_with fail
 refine hK.out _ _ ?_ (fun hHeld => ?_)
 ·(try dsimp only);(first|(exact HYg.out _ _ BWX HG5.out)|(refine HY.out _ ?_;exact BWX))
 clear hK K
 (try simp only [Act.put,zP4,zP5,zP6])
 refine arO 4 (fun K hK => ?_)
 go_simp
 refine hK.out _ _ ?_ (fun hHeld => ?_)
 ·(try dsimp only);(first|(exact HYg.out _ _ BWX HG5.out)|(refine HY.out _ ?_;exact BWX))
 clear hK K
 (try simp only [Act.put,zP4,zP5,zP6])
 refine arO 5 (fun K hK => ?_)
 (refine (if_pos (by kernel_rfl)).mpr ?_);(with_reducible refine wp_store_sc (⟨Rn,Cn,A,n,c,0,0,false,0,0,0,0,(Rn : Int) - 1,0,0,false,0,0,0,false,false⟩) w.heap.size (.tmp 4) (.tmp 13) ?ho ?_ ?_ ?_ ?_);(case ho => rfl);(focus rfl);(focus rfl);(focus (exact HB04.out));intro w5 hS5 hg5;have HS5:=Lib.hid hS5;have HG5:=Lib.hid hg5;clear hS5 hg5
 refine hK.out _ _ ?_ (fun hHeld => ?_)
 ·(try dsimp only);(first|(exact HYg.out _ _ BWX HG5.out)|(refine HY.out _ ?_;exact BWX))
 clear hK K
 (try simp only [Act.put,zP4,zP5,zP6])
 refine wpAnyH_done (by kernel_rfl) ?_ _
 go_wp2_with fail
 refine bodyPost_ret (results_sc rfl _ _ w.heap.size (⟨Rn,Cn,A,n,c,0,0,false,0,0,0,0,(Rn : Int) - 1,0,0,false,0,0,0,false,false⟩) (by rfl) HS5.out) rfl ?_
 have hGf:=HG4.out.far HG5.out (ne_some (fun ad e => by have:=HN.out ad e;omega))
 exact ⟨⟨Rn,Cn,A,n,c,0,0,false,0,0,0,0,(Rn : Int) - 1,0,0,false,0,0,0,false,false⟩,HRn.out.symm,HCn.out.symm,rfl,⟨hGf,⟨by show (0 : Int) ≤ 0;omega,by show (0 : Int) < (Rn : Int);omega,by show (0 : Int) ≤ 0;omega,by have:=hGf.2.2.1;show (0 : Int) < (Cn : Int);omega⟩,(show avB 0 0 0 = true by decide),⟨by show (0 : Int) ≤ 0;omega,by show (0 : Int) ≤ (Rn : Int) - 1;omega,by show (Rn : Int) - 1 < (Rn : Int);omega⟩,⟨by show (0 : Int) ≤ 0;omega,by show (0 : Int) < (Rn : Int);omega,by show (0 : Int) ≤ 0;omega,by have:=hGf.2.2.1;show (0 : Int) < (Cn : Int);omega⟩,(show avB 0 0 0 = true by decide)⟩,(fun ad e => by have:=HN.out ad e;omega),Bw.grown (Bw.trans hbw2 (Bw.trans hbw3 hbw4)) HG5.out (fun k hk => by cases hk;omega)⟩
end Go.Proofs.YteebdjmjeahccaaGreatDoor
