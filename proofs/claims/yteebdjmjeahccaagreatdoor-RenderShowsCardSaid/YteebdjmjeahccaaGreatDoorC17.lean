/- Parts of the proof, one after the other. -/
import Derived.Test.YteebdjmjeahccaaGreatDoorC15
set_option linter.unusedSimpArgs false
set_option linter.unusedVariables false
set_option maxRecDepth 100000
set_option maxHeartbeats 16000000
namespace Go.Proofs.YteebdjmjeahccaaGreatDoor
open Go.RowKit
theorem rscsi_Gd (s : Scr) (kd f pv : Int) (A : Option Addr) (n c : Nat) (xs : List Int) (w : World) (hs : s.Ok w) (hx : Rd (.int .i64) w A n xs) (hn : n ≤ c) (hc : c ≤ 9223372036854775807) (hn0 : 0 < n) (hn1 : n ≤ 1000) (hp : ∀ x ∈ xs,0 ≤ x ∧ x ≤ 9999) (hq : f = 80 ∨ f = 64 ∨ f = 88 ∨ f = 84 ∨ f = 109) : Calls Tryz.prog 84 #[.agg s.vals.toArray,.agg #[.int .i64 kd,.int .i64 f,.int .i64 pv,.slice A n c]] w (ScL w s):=by
 have HQ:=Lib.hid hq
 clear hq
 have HOk:=Lib.hid hs
 have HAl:=Lib.hid hs.1.lt
 have HX:=Lib.hid hx
 have HP:=Lib.hid hp
 have HBl:=Lib.hid (blankC_ok hs.2.2.1)
 clear hs hx hp
 go_enter Tryz.func84,Tryz.ntmps84
 go_upto_region 1 with (fail)
 generalize hwa : ((w.alloc (.cells s.vals.toArray 46)).alloc _).alloc _ = wa
 obtain ⟨hb0,hb1,hb2,hbwa,hza⟩:=sb3 hwa
 have HB0a:=Lib.hid hb0
 have HBoa:=Lib.hid hb1
 have HB1a:=Lib.hid (show ∃ old,Sb wa (w.heap.size + 2) old 46 ∧ old.size = 19 from ⟨_,hb2,rfl⟩)
 have hza' : w.heap.size + 2 < wa.heap.size:=by omega
 clear hwa hb0 hb1 hb2 hza
 (have x3:=HB0a.out.cell 3 (v:=.int .i64 s.row) rfl;have x4:=HB0a.out.cell 4 (v:=.int .i64 s.col) rfl;have x5:=HB0a.out.cell 5 (v:=.bool s.wrap) rfl)
 have xo:=HBoa.out.cell 3 (v:=.slice A n c) rfl
 go_cut [6,7,8] (fun v6 v7 v8 w' => v6 = .slice A n c ∧ (∃ num,v7 = .int .i64 num ∧ 1 ≤ num ∧ num ≤ 9999) ∧ ∃ g8,v8 = .pointer (some ⟨g8,0,none⟩) ∧ Sb w' g8 #[.int .i64 s.row,.int .i64 s.col,.bool s.wrap] 40 ∧ wa.heap.size ≤ g8 ∧ Bw wa w')
 case first =>
  have HY:=Lib.hid (show ∀ w',Bw wa w' → (w'.cell? ⟨w.heap.size,3,none⟩ = some (.int .i64 s.row) ∧ w'.cell? ⟨w.heap.size,4,none⟩ = some (.int .i64 s.col) ∧ w'.cell? ⟨w.heap.size,5,none⟩ = some (.bool s.wrap) ∧ w'.cell? ⟨w.heap.size + 1,3,none⟩ = some (.slice A n c)) from fun w' hb => ⟨(HB0a.out.up hb).cell 3 rfl,(HB0a.out.up hb).cell 4 rfl,(HB0a.out.up hb).cell 5 rfl,(HBoa.out.up hb).cell 3 rfl⟩)
  go_region_held3 (fun w' => w'.cell? ⟨w.heap.size,3,none⟩ = some (.int .i64 s.row) ∧ w'.cell? ⟨w.heap.size,4,none⟩ = some (.int .i64 s.col) ∧ w'.cell? ⟨w.heap.size,5,none⟩ = some (.bool s.wrap) ∧ w'.cell? ⟨w.heap.size + 1,3,none⟩ = some (.slice A n c)) ((refine HY.out _ ?_;exact BWX)) ((first|(go_at_call 106;refine (rsor_0 A n c 1 xs _ (by exact HX.out.up BWX) hn hc).mono ?_;rintro ee wv ⟨⟨v,rfl,hv⟩,hbv⟩;have HV:=Lib.hid hv;have hbwv : Bw wa wv:=Bw.trans (show Bw wa _ from BWX) hbv;obtain ⟨L8,d8,rfl⟩:=hbv.isPlus;clear hv hbv)|fail))
  all_goals go_wp2
  all_goals go_meet
  all_goals
   case rel =>
    refine ⟨rfl,⟨_,rfl,or_bd HP.out (by omega) HV.out⟩,_,rfl,?_,?_,?_⟩
    ·first|(refine heap_at ?_;simp [plus_size];done)|(refine Sb.up (w:=wa.alloc _) (heap_at rfl) ?_;(repeat (first|with_reducible (first|assumption|exact Bw.refl _|refine Bw.alloc ?_ _|refine Bw.more ?_ _ _|refine Bw.drew ?_|refine Bw.drewN ?_ _)|((with_reducible refine Bw.set2 ?_ ?_ _);(focus exact SZX))|with_reducible refine Bw.trans ?_ (by assumption)));done)|fail
    ·first|omega|(simp only [plus_size];omega)|fail
    ·(repeat (first|with_reducible (first|assumption|exact Bw.refl _|refine Bw.alloc ?_ _|refine Bw.more ?_ _ _|refine Bw.drew ?_|refine Bw.drewN ?_ _)|((with_reducible refine Bw.set2 ?_ ?_ _);(focus exact SZX))|with_reducible refine Bw.trans ?_ (by assumption)))
 case rest =>
 obtain ⟨rfl,⟨num,rfl,hnum1,hnum2⟩,g8,rfl,h8,hg8,hbc⟩:=hcut
 have HB0c:=Lib.hid (HB0a.out.up hbc)
 have H8c:=Lib.hid h8
 have hg8c:=h8.lt
 clear x3 x4 x5 xo h8
 (have x6:=HB0c.out.cell 6 (v:=.int .i64 s.f) rfl;have x7:=HB0c.out.cell 7 (v:=.int .i64 s.g) rfl;have x8:=HB0c.out.cell 8 (v:=.int .i64 s.b) rfl)
 go_upto_region 3 with (go_at_call 105;refine (rblank_any s.f s.g s.b _).mono ?_;rintro ee wb ⟨rfl,hbb⟩;have hbb' : Bw wc wb:=Bw.trans (show Bw wc _ from BWX) hbb;clear hbb)
 generalize hw1 : wb.alloc _ = w1
 obtain ⟨h9,hb19,hz19⟩:=sb1 hw1
 have hbc1 : Bw wc w1:=Bw.trans hbb' hb19
 have hba1 : Bw wa w1:=Bw.trans hbc hbc1
 have hbw : Bw w w1:=Bw.trans hbwa hba1
 have HB0:=Lib.hid (HB0a.out.up hba1)
 have HBo:=Lib.hid (HBoa.out.up hba1)
 obtain ⟨old1,hold1,hosz⟩:=HB1a.out
 have HB1:=Lib.hid (hold1.up hba1)
 have HOsz:=Lib.hid hosz
 have H8:=Lib.hid (H8c.out.up hbc1)
 have H9:=Lib.hid h9
 obtain ⟨g9,hg9⟩ : ∃ g9,wb.heap.size = g9:=⟨_,rfl⟩
 have hzb:=hbb'.size
 rw [hg9] at h9
 have hz1 : w.heap.size + 2 < w1.heap.size:=by have:=hba1.size;omega
 have hz8 : w.heap.size + 2 < g8:=by omega
 have hz81 : g8 < w1.heap.size:=H8.out.lt
 have hz9 : w.heap.size + 2 < g9:=by omega
 have hz91 : g9 < w1.heap.size:=h9.lt
 have HOk1:=Lib.hid (HOk.out.up hbw)
 have HX1:=Lib.hid (HX.out.up hbw)
 have HNe0:=Lib.hid (show ∀ ad,s.A = some ad → ad.block ≠ w.heap.size from fun ad e => by have:=HAl.out ad e;omega)
 have HNe1:=Lib.hid (show ∀ ad,s.A = some ad → ad.block ≠ w.heap.size + 2 from fun ad e => by have:=HAl.out ad e;omega)
 have hne10 : w.heap.size + 2 ≠ w.heap.size:=by omega
 have xo1:=HBo.out.cell 1 (v:=.int .i64 f) rfl
 clear H9
 have H9:=Lib.hid h9
 clear hw1 h9 hb19 hz19 hold1 hosz HB0a HBoa HB1a HB0c H8c hbc hbc1 hba1 hbb' hbwa hg8c x6 x7 x8 hza' hg8 hzb HX
 rw [hg9]
 clear hg9
 rcases HQ.out with rfl|rfl|rfl|rfl|rfl
 ·(have x0:=HB0.out.cell 0 (v:=.int .i64 (s.Rn : Int)) rfl;have x1:=HB0.out.cell 1 (v:=.int .i64 (s.Cn : Int)) rfl;have x2:=HB0.out.cell 2 (v:=.slice s.A s.n s.c) rfl)
  have y0:=H8.out.cell 0 (v:=.int .i64 s.row) rfl
  have y1:=H8.out.cell 1 (v:=.int .i64 s.col) rfl
  have b0:=H9.out.cell 0 (v:=.int .i64 32) rfl
  have b1:=H9.out.cell 1 (v:=.int .i64 0) rfl
  have b2:=H9.out.cell 2 (v:=.int .i64 0) rfl
  have b3:=H9.out.cell 3 (v:=.int .i64 s.b) rfl
  have hcc0:=HOk1.out.2.1.2.2.1
  have hcc1:=HOk1.out.2.1.2.2.2
  have hcc2:=HOk1.out.1.2.2.2.1
  go_upto_region 35 with (fail)
  go_wp2_with (first
   | ((with_reducible refine wpList_load_sc (s.gr A' n' c') (w.heap.size) (.tmp 2) rfl rfl ?_ ?_ ?_);(focus rfl);(focus (exact ((HB0d.out.set 0 _ rfl).set 1 _ rfl).set 2 _ rfl)))
   | (go_at_call 109;refine (rshift_ok s.Rn s.Cn s.A s.n s.c s.row s.col _ 32 0 0 s.b _ HOk1.out.1 HBl.out ⟨HOk1.out.2.1.1,HOk1.out.2.1.2.1,HOk1.out.2.1.2.2.1,HOk1.out.2.1.2.2.2⟩).mono ?_;rintro ee wd ⟨A',n',c',rfl,hGd,hNd,hbd⟩;have hbmd : Bw w1 wd:=hbd;have HB0d:=Lib.hid (HB0.out.up hbmd);have HB1d:=Lib.hid (HB1.out.up hbmd);have HGd:=Lib.hid hGd;have HNd:=Lib.hid hNd;have hzd:=HB0d.out.lt;have hzwd:=hbmd.size;(have q0:=HB0d.out.cell 0 (v:=.int .i64 (s.Rn : Int)) rfl;have q1:=HB0d.out.cell 1 (v:=.int .i64 (s.Cn : Int)) rfl;have q2:=HB0d.out.cell 2 (v:=.slice s.A s.n s.c) rfl);(have p0:=HB0d.out.free 0;have p1:=HB0d.out.free 1;have p2:=HB0d.out.free 2);clear hGd hNd hbd)
   | ((with_reducible refine wpList_store_sc (s.gr A' n' c') (w.heap.size + 2) (.tmp 4) (.tmp 216) rfl rfl ?_ ?_ ?_ ?_);(focus rfl);(focus rfl);(focus (exact ⟨_,((HB1d.out.away hne10 _).away hne10 _).away hne10 _,HOsz.out⟩));intro w3 hS3 hg3;have HS3:=Lib.hid hS3;have HG3:=Lib.hid hg3;clear hS3 hg3)
   | fail)
  have hne : ∀ ad,A' = some ad → ad.block ≠ w.heap.size:=fun ad e => by have:=HNd.out ad e;omega
  have hA1 : ∀ ad,A' = some ad → ad.block ≠ w.heap.size + 2:=fun ad e => by have:=HNd.out ad e;omega
  refine bodyPost_ret (results_sc2 rfl _ _ (w.heap.size + 2) (s.gr A' n' c') (by rfl) HS3.out) rfl ?_
  exact ⟨(s.gr A' n' c'),none,0,0,rfl,rfl,rfl,(show (s.gr A' n' c').Ok _ from ⟨((HGd.out.away hne _ _).away hne _ _).away hne _ _,HOk1.out.2⟩).far HG3.out (ne_some hA1),.inr (fun ad e => by have:=HNd.out ad e;omega),Ls.nil_ _ _,(fun ad e => by cases e),by omega,by omega,by omega,Bw.grown (show Bw w _ from BWX) HG3.out (fun k hk => by cases hk;omega)⟩
 ·(have x0:=HB0.out.cell 0 (v:=.int .i64 (s.Rn : Int)) rfl;have x1:=HB0.out.cell 1 (v:=.int .i64 (s.Cn : Int)) rfl;have x2:=HB0.out.cell 2 (v:=.slice s.A s.n s.c) rfl)
  have y0:=H8.out.cell 0 (v:=.int .i64 s.row) rfl
  have y1:=H8.out.cell 1 (v:=.int .i64 s.col) rfl
  have b0:=H9.out.cell 0 (v:=.int .i64 32) rfl
  have b1:=H9.out.cell 1 (v:=.int .i64 0) rfl
  have b2:=H9.out.cell 2 (v:=.int .i64 0) rfl
  have b3:=H9.out.cell 3 (v:=.int .i64 s.b) rfl
  have hcc0:=HOk1.out.2.1.2.2.1
  have hcc1:=HOk1.out.2.1.2.2.2
  have hcc2:=HOk1.out.1.2.2.2.1
  go_upto_region 37 with (fail)
  go_wp2_with (first
   | ((with_reducible refine wpList_load_sc (s.gr A' n' c') (w.heap.size) (.tmp 2) rfl rfl ?_ ?_ ?_);(focus rfl);(focus (exact ((HB0d.out.set 0 _ rfl).set 1 _ rfl).set 2 _ rfl)))
   | (go_at_call 109;refine (rshift_ok s.Rn s.Cn s.A s.n s.c s.row s.col _ 32 0 0 s.b _ HOk1.out.1 HBl.out ⟨HOk1.out.2.1.1,HOk1.out.2.1.2.1,HOk1.out.2.1.2.2.1,HOk1.out.2.1.2.2.2⟩).mono ?_;rintro ee wd ⟨A',n',c',rfl,hGd,hNd,hbd⟩;have hbmd : Bw w1 wd:=hbd;have HB0d:=Lib.hid (HB0.out.up hbmd);have HB1d:=Lib.hid (HB1.out.up hbmd);have HGd:=Lib.hid hGd;have HNd:=Lib.hid hNd;have hzd:=HB0d.out.lt;have hzwd:=hbmd.size;(have q0:=HB0d.out.cell 0 (v:=.int .i64 (s.Rn : Int)) rfl;have q1:=HB0d.out.cell 1 (v:=.int .i64 (s.Cn : Int)) rfl;have q2:=HB0d.out.cell 2 (v:=.slice s.A s.n s.c) rfl);(have p0:=HB0d.out.free 0;have p1:=HB0d.out.free 1;have p2:=HB0d.out.free 2);clear hGd hNd hbd)
   | ((with_reducible refine wpList_store_sc (s.gr A' n' c') (w.heap.size + 2) (.tmp 4) (.tmp 216) rfl rfl ?_ ?_ ?_ ?_);(focus rfl);(focus rfl);(focus (exact ⟨_,((HB1d.out.away hne10 _).away hne10 _).away hne10 _,HOsz.out⟩));intro w3 hS3 hg3;have HS3:=Lib.hid hS3;have HG3:=Lib.hid hg3;clear hS3 hg3)
   | fail)
  have hne : ∀ ad,A' = some ad → ad.block ≠ w.heap.size:=fun ad e => by have:=HNd.out ad e;omega
  have hA1 : ∀ ad,A' = some ad → ad.block ≠ w.heap.size + 2:=fun ad e => by have:=HNd.out ad e;omega
  refine bodyPost_ret (results_sc2 rfl _ _ (w.heap.size + 2) (s.gr A' n' c') (by rfl) HS3.out) rfl ?_
  exact ⟨(s.gr A' n' c'),none,0,0,rfl,rfl,rfl,(show (s.gr A' n' c').Ok _ from ⟨((HGd.out.away hne _ _).away hne _ _).away hne _ _,HOk1.out.2⟩).far HG3.out (ne_some hA1),.inr (fun ad e => by have:=HNd.out ad e;omega),Ls.nil_ _ _,(fun ad e => by cases e),by omega,by omega,by omega,Bw.grown (show Bw w _ from BWX) HG3.out (fun k hk => by cases hk;omega)⟩
 ·(have x0:=HB0.out.cell 0 (v:=.int .i64 (s.Rn : Int)) rfl;have x1:=HB0.out.cell 1 (v:=.int .i64 (s.Cn : Int)) rfl;have x2:=HB0.out.cell 2 (v:=.slice s.A s.n s.c) rfl)
  have y0:=H8.out.cell 0 (v:=.int .i64 s.row) rfl
  have y1:=H8.out.cell 1 (v:=.int .i64 s.col) rfl
  have b0:=H9.out.cell 0 (v:=.int .i64 32) rfl
  have b1:=H9.out.cell 1 (v:=.int .i64 0) rfl
  have b2:=H9.out.cell 2 (v:=.int .i64 0) rfl
  have b3:=H9.out.cell 3 (v:=.int .i64 s.b) rfl
  have hcc0:=HOk1.out.2.1.2.2.1
  have hcc1:=HOk1.out.2.1.2.2.2
  have hcc2:=HOk1.out.1.2.2.2.1
  go_upto_region 39 with (fail)
  go_wp2_with (first
   | ((with_reducible refine wpList_load_sc (s.gr A' n' c') (w.heap.size) (.tmp 2) rfl rfl ?_ ?_ ?_);(focus rfl);(focus (exact ((HB0d.out.set 0 _ rfl).set 1 _ rfl).set 2 _ rfl)))
   | (go_at_call 103;refine (rfill_ok s.Rn s.Cn s.A s.n s.c s.row _ _ 32 0 0 s.b _ HOk1.out.1 HBl.out).mono ?_;rintro ee wd ⟨A',n',c',rfl,hGd,hNd,hbd⟩;have hbmd : Bw w1 wd:=hbd;have HB0d:=Lib.hid (HB0.out.up hbmd);have HB1d:=Lib.hid (HB1.out.up hbmd);have HGd:=Lib.hid hGd;have HNd:=Lib.hid hNd;have hzd:=HB0d.out.lt;have hzwd:=hbmd.size;(have q0:=HB0d.out.cell 0 (v:=.int .i64 (s.Rn : Int)) rfl;have q1:=HB0d.out.cell 1 (v:=.int .i64 (s.Cn : Int)) rfl;have q2:=HB0d.out.cell 2 (v:=.slice s.A s.n s.c) rfl);(have p0:=HB0d.out.free 0;have p1:=HB0d.out.free 1;have p2:=HB0d.out.free 2);clear hGd hNd hbd)
   | ((with_reducible refine wpList_store_sc (s.gr A' n' c') (w.heap.size + 2) (.tmp 4) (.tmp 216) rfl rfl ?_ ?_ ?_ ?_);(focus rfl);(focus rfl);(focus (exact ⟨_,((HB1d.out.away hne10 _).away hne10 _).away hne10 _,HOsz.out⟩));intro w3 hS3 hg3;have HS3:=Lib.hid hS3;have HG3:=Lib.hid hg3;clear hS3 hg3)
   | fail)
  have hne : ∀ ad,A' = some ad → ad.block ≠ w.heap.size:=fun ad e => by have:=HNd.out ad e;omega
  have hA1 : ∀ ad,A' = some ad → ad.block ≠ w.heap.size + 2:=fun ad e => by have:=HNd.out ad e;omega
  refine bodyPost_ret (results_sc2 rfl _ _ (w.heap.size + 2) (s.gr A' n' c') (by rfl) HS3.out) rfl ?_
  exact ⟨(s.gr A' n' c'),none,0,0,rfl,rfl,rfl,(show (s.gr A' n' c').Ok _ from ⟨((HGd.out.away hne _ _).away hne _ _).away hne _ _,HOk1.out.2⟩).far HG3.out (ne_some hA1),.inr (fun ad e => by have:=HNd.out ad e;omega),Ls.nil_ _ _,(fun ad e => by cases e),by omega,by omega,by omega,Bw.grown (show Bw w _ from BWX) HG3.out (fun k hk => by cases hk;omega)⟩
 ·(have x0:=HB0.out.cell 0 (v:=.int .i64 (s.Rn : Int)) rfl;have x1:=HB0.out.cell 1 (v:=.int .i64 (s.Cn : Int)) rfl;have x2:=HB0.out.cell 2 (v:=.slice s.A s.n s.c) rfl;have x9:=HB0.out.cell 9 (v:=.int .i64 s.top) rfl;have x10:=HB0.out.cell 10 (v:=.int .i64 s.bot) rfl)
  have y0:=H8.out.cell 0 (v:=.int .i64 s.row) rfl
  have y1:=H8.out.cell 1 (v:=.int .i64 s.col) rfl
  have b0:=H9.out.cell 0 (v:=.int .i64 32) rfl
  have b1:=H9.out.cell 1 (v:=.int .i64 0) rfl
  have b2:=H9.out.cell 2 (v:=.int .i64 0) rfl
  have b3:=H9.out.cell 3 (v:=.int .i64 s.b) rfl
  have hcc0:=HOk1.out.2.1.2.2.1
  have hcc1:=HOk1.out.2.1.2.2.2
  have hcc2:=HOk1.out.1.2.2.2.1
  go_upto_region 43 with (fail)
  go_wp2_with (first
   | ((with_reducible refine wpList_load_sc (s.gr A' n' c') (w.heap.size) (.tmp 2) rfl rfl ?_ ?_ ?_);(focus rfl);(focus (exact ((HB0d.out.set 0 _ rfl).set 1 _ rfl).set 2 _ rfl)))
   | (go_at_call 73;refine (rscroll_ok s.Rn s.Cn s.A s.n s.c s.top s.bot _ 32 0 0 s.b _ HOk1.out.1 HBl.out HOk1.out.2.2.2.1).mono ?_;rintro ee wd ⟨A',n',c',rfl,hGd,hNd,hbd⟩;have hbmd : Bw w1 wd:=hbd;have HB0d:=Lib.hid (HB0.out.up hbmd);have HB1d:=Lib.hid (HB1.out.up hbmd);have HGd:=Lib.hid hGd;have HNd:=Lib.hid hNd;have hzd:=HB0d.out.lt;have hzwd:=hbmd.size;(have q0:=HB0d.out.cell 0 (v:=.int .i64 (s.Rn : Int)) rfl;have q1:=HB0d.out.cell 1 (v:=.int .i64 (s.Cn : Int)) rfl;have q2:=HB0d.out.cell 2 (v:=.slice s.A s.n s.c) rfl);(have p0:=HB0d.out.free 0;have p1:=HB0d.out.free 1;have p2:=HB0d.out.free 2);clear hGd hNd hbd)
   | ((with_reducible refine wpList_store_sc (s.gr A' n' c') (w.heap.size + 2) (.tmp 4) (.tmp 216) rfl rfl ?_ ?_ ?_ ?_);(focus rfl);(focus rfl);(focus (exact ⟨_,((HB1d.out.away hne10 _).away hne10 _).away hne10 _,HOsz.out⟩));intro w3 hS3 hg3;have HS3:=Lib.hid hS3;have HG3:=Lib.hid hg3;clear hS3 hg3)
   | fail)
  have hne : ∀ ad,A' = some ad → ad.block ≠ w.heap.size:=fun ad e => by have:=HNd.out ad e;omega
  have hA1 : ∀ ad,A' = some ad → ad.block ≠ w.heap.size + 2:=fun ad e => by have:=HNd.out ad e;omega
  refine bodyPost_ret (results_sc2 rfl _ _ (w.heap.size + 2) (s.gr A' n' c') (by rfl) HS3.out) rfl ?_
  exact ⟨(s.gr A' n' c'),none,0,0,rfl,rfl,rfl,(show (s.gr A' n' c').Ok _ from ⟨((HGd.out.away hne _ _).away hne _ _).away hne _ _,HOk1.out.2⟩).far HG3.out (ne_some hA1),.inr (fun ad e => by have:=HNd.out ad e;omega),Ls.nil_ _ _,(fun ad e => by cases e),by omega,by omega,by omega,Bw.grown (show Bw w _ from BWX) HG3.out (fun k hk => by cases hk;omega)⟩
 ·(have x6:=HB0.out.cell 6 (v:=.int .i64 s.f) rfl;have x7:=HB0.out.cell 7 (v:=.int .i64 s.g) rfl;have x8:=HB0.out.cell 8 (v:=.int .i64 s.b) rfl)
  go_upto_region 45 with (fail)
  go_wp2_with (first
   | ((with_reducible refine wpList_load_sc ({ s with f:=(applA xs (s.f,s.g,s.b)).1,g:=(applA xs (s.f,s.g,s.b)).2.1,b:=(applA xs (s.f,s.g,s.b)).2.2 } : Scr) (w.heap.size) (.tmp 2) rfl rfl ?_ ?_ ?_);(focus rfl);(focus (exact ((HB0d.out.set 6 _ rfl).set 7 _ rfl).set 8 _ rfl)))
   | (go_at_call 111;refine (rapply_any s.f s.g s.b A n c xs _ (HX1.out) hn hc hn1).mono ?_;rintro ee wd ⟨rfl,hbd⟩;have hbmd : Bw w1 wd:=hbd;have HB0d:=Lib.hid (HB0.out.up hbmd);have HB1d:=Lib.hid (HB1.out.up hbmd);have hzd:=HB0d.out.lt;have hzwd:=hbmd.size;(have q6:=HB0d.out.cell 6 (v:=.int .i64 s.f) rfl;have q7:=HB0d.out.cell 7 (v:=.int .i64 s.g) rfl;have q8:=HB0d.out.cell 8 (v:=.int .i64 s.b) rfl);(have p6:=HB0d.out.free 6;have p7:=HB0d.out.free 7;have p8:=HB0d.out.free 8);clear hbd;dsimp only [at3,atV])
   | ((with_reducible refine wpList_store_sc ({ s with f:=(applA xs (s.f,s.g,s.b)).1,g:=(applA xs (s.f,s.g,s.b)).2.1,b:=(applA xs (s.f,s.g,s.b)).2.2 } : Scr) (w.heap.size + 2) (.tmp 4) (.tmp 216) rfl rfl ?_ ?_ ?_ ?_);(focus rfl);(focus rfl);(focus (exact ⟨_,((HB1d.out.away hne10 _).away hne10 _).away hne10 _,HOsz.out⟩));intro w3 hS3 hg3;have HS3:=Lib.hid hS3;have HG3:=Lib.hid hg3;clear hS3 hg3)
   | fail)
  have hO : s.Ok w3:=((((HOk1.out.up hbmd).away HNe0.out _ _).away HNe0.out _ _).away HNe0.out _ _).far HG3.out (ne_some HNe1.out)
  refine bodyPost_ret (results_sc2 rfl _ _ (w.heap.size + 2) ({ s with f:=(applA xs (s.f,s.g,s.b)).1,g:=(applA xs (s.f,s.g,s.b)).2.1,b:=(applA xs (s.f,s.g,s.b)).2.2 } : Scr) (by rfl) HS3.out) rfl ?_
  exact ⟨({ s with f:=(applA xs (s.f,s.g,s.b)).1,g:=(applA xs (s.f,s.g,s.b)).2.1,b:=(applA xs (s.f,s.g,s.b)).2.2 } : Scr),none,0,0,rfl,rfl,rfl,⟨hO.1,hO.2.1,applA_keeps xs (s.f,s.g,s.b) hO.2.2.1,hO.2.2.2⟩,.inl rfl,Ls.nil_ _ _,(fun ad e => by cases e),by omega,by omega,by omega,Bw.grown (show Bw w _ from BWX) HG3.out (fun k hk => by cases hk;omega)⟩
theorem rscsi_else (s : Scr) (kd f pv : Int) (A : Option Addr) (n c : Nat) (xs : List Int) (w : World) (hs : s.Ok w) (hx : Rd (.int .i64) w A n xs) (hn : n ≤ c) (hc : c ≤ 9223372036854775807) (hn0 : 0 < n) (hn1 : n ≤ 1000) (hp : ∀ x ∈ xs,0 ≤ x ∧ x ≤ 9999) (hq : ¬ f = 65 ∧ ¬ f = 66 ∧ ¬ f = 101 ∧ ¬ f = 67 ∧ ¬ f = 97 ∧ ¬ f = 68 ∧ ¬ f = 69 ∧ ¬ f = 70 ∧ ¬ f = 71 ∧ ¬ f = 96 ∧ ¬ f = 100 ∧ ¬ f = 72 ∧ ¬ f = 102 ∧ ¬ f = 74 ∧ ¬ f = 75 ∧ ¬ f = 76 ∧ ¬ f = 77 ∧ ¬ f = 80 ∧ ¬ f = 64 ∧ ¬ f = 88 ∧ ¬ f = 83 ∧ ¬ f = 84 ∧ ¬ f = 109 ∧ ¬ f = 114 ∧ ¬ f = 115 ∧ ¬ f = 117) : Calls Tryz.prog 84 #[.agg s.vals.toArray,.agg #[.int .i64 kd,.int .i64 f,.int .i64 pv,.slice A n c]] w (ScL w s):=by
 have HQ:=Lib.hid hq
 clear hq
 have HOk:=Lib.hid hs
 have HAl:=Lib.hid hs.1.lt
 have HX:=Lib.hid hx
 have HP:=Lib.hid hp
 have HBl:=Lib.hid (blankC_ok hs.2.2.1)
 clear hs hx hp
 go_enter Tryz.func84,Tryz.ntmps84
 go_upto_region 1 with (fail)
 generalize hwa : ((w.alloc (.cells s.vals.toArray 46)).alloc _).alloc _ = wa
 obtain ⟨hb0,hb1,hb2,hbwa,hza⟩:=sb3 hwa
 have HB0a:=Lib.hid hb0
 have HBoa:=Lib.hid hb1
 have HB1a:=Lib.hid (show ∃ old,Sb wa (w.heap.size + 2) old 46 ∧ old.size = 19 from ⟨_,hb2,rfl⟩)
 have hza' : w.heap.size + 2 < wa.heap.size:=by omega
 clear hwa hb0 hb1 hb2 hza
 (have x3:=HB0a.out.cell 3 (v:=.int .i64 s.row) rfl;have x4:=HB0a.out.cell 4 (v:=.int .i64 s.col) rfl;have x5:=HB0a.out.cell 5 (v:=.bool s.wrap) rfl)
 have xo:=HBoa.out.cell 3 (v:=.slice A n c) rfl
 go_cut [6,7,8] (fun v6 v7 v8 w' => v6 = .slice A n c ∧ (∃ num,v7 = .int .i64 num ∧ 1 ≤ num ∧ num ≤ 9999) ∧ ∃ g8,v8 = .pointer (some ⟨g8,0,none⟩) ∧ Sb w' g8 #[.int .i64 s.row,.int .i64 s.col,.bool s.wrap] 40 ∧ wa.heap.size ≤ g8 ∧ Bw wa w')
 case first =>
  have HY:=Lib.hid (show ∀ w',Bw wa w' → (w'.cell? ⟨w.heap.size,3,none⟩ = some (.int .i64 s.row) ∧ w'.cell? ⟨w.heap.size,4,none⟩ = some (.int .i64 s.col) ∧ w'.cell? ⟨w.heap.size,5,none⟩ = some (.bool s.wrap) ∧ w'.cell? ⟨w.heap.size + 1,3,none⟩ = some (.slice A n c)) from fun w' hb => ⟨(HB0a.out.up hb).cell 3 rfl,(HB0a.out.up hb).cell 4 rfl,(HB0a.out.up hb).cell 5 rfl,(HBoa.out.up hb).cell 3 rfl⟩)
  go_region_held3 (fun w' => w'.cell? ⟨w.heap.size,3,none⟩ = some (.int .i64 s.row) ∧ w'.cell? ⟨w.heap.size,4,none⟩ = some (.int .i64 s.col) ∧ w'.cell? ⟨w.heap.size,5,none⟩ = some (.bool s.wrap) ∧ w'.cell? ⟨w.heap.size + 1,3,none⟩ = some (.slice A n c)) ((refine HY.out _ ?_;exact BWX)) ((first|(go_at_call 106;refine (rsor_0 A n c 1 xs _ (by exact HX.out.up BWX) hn hc).mono ?_;rintro ee wv ⟨⟨v,rfl,hv⟩,hbv⟩;have HV:=Lib.hid hv;have hbwv : Bw wa wv:=Bw.trans (show Bw wa _ from BWX) hbv;obtain ⟨L8,d8,rfl⟩:=hbv.isPlus;clear hv hbv)|fail))
  all_goals go_wp2
  all_goals go_meet
  all_goals
   case rel =>
    refine ⟨rfl,⟨_,rfl,or_bd HP.out (by omega) HV.out⟩,_,rfl,?_,?_,?_⟩
    ·first|(refine heap_at ?_;simp [plus_size];done)|(refine Sb.up (w:=wa.alloc _) (heap_at rfl) ?_;(repeat (first|with_reducible (first|assumption|exact Bw.refl _|refine Bw.alloc ?_ _|refine Bw.more ?_ _ _|refine Bw.drew ?_|refine Bw.drewN ?_ _)|((with_reducible refine Bw.set2 ?_ ?_ _);(focus exact SZX))|with_reducible refine Bw.trans ?_ (by assumption)));done)|fail
    ·first|omega|(simp only [plus_size];omega)|fail
    ·(repeat (first|with_reducible (first|assumption|exact Bw.refl _|refine Bw.alloc ?_ _|refine Bw.more ?_ _ _|refine Bw.drew ?_|refine Bw.drewN ?_ _)|((with_reducible refine Bw.set2 ?_ ?_ _);(focus exact SZX))|with_reducible refine Bw.trans ?_ (by assumption)))
 case rest =>
 obtain ⟨rfl,⟨num,rfl,hnum1,hnum2⟩,g8,rfl,h8,hg8,hbc⟩:=hcut
 have HB0c:=Lib.hid (HB0a.out.up hbc)
 have H8c:=Lib.hid h8
 have hg8c:=h8.lt
 clear x3 x4 x5 xo h8
 (have x6:=HB0c.out.cell 6 (v:=.int .i64 s.f) rfl;have x7:=HB0c.out.cell 7 (v:=.int .i64 s.g) rfl;have x8:=HB0c.out.cell 8 (v:=.int .i64 s.b) rfl)
 go_upto_region 3 with (go_at_call 105;refine (rblank_any s.f s.g s.b _).mono ?_;rintro ee wb ⟨rfl,hbb⟩;have hbb' : Bw wc wb:=Bw.trans (show Bw wc _ from BWX) hbb;clear hbb)
 generalize hw1 : wb.alloc _ = w1
 obtain ⟨h9,hb19,hz19⟩:=sb1 hw1
 have hbc1 : Bw wc w1:=Bw.trans hbb' hb19
 have hba1 : Bw wa w1:=Bw.trans hbc hbc1
 have hbw : Bw w w1:=Bw.trans hbwa hba1
 have HB0:=Lib.hid (HB0a.out.up hba1)
 have HBo:=Lib.hid (HBoa.out.up hba1)
 obtain ⟨old1,hold1,hosz⟩:=HB1a.out
 have HB1:=Lib.hid (hold1.up hba1)
 have HOsz:=Lib.hid hosz
 have H8:=Lib.hid (H8c.out.up hbc1)
 have H9:=Lib.hid h9
 obtain ⟨g9,hg9⟩ : ∃ g9,wb.heap.size = g9:=⟨_,rfl⟩
 have hzb:=hbb'.size
 rw [hg9] at h9
 have hz1 : w.heap.size + 2 < w1.heap.size:=by have:=hba1.size;omega
 have hz8 : w.heap.size + 2 < g8:=by omega
 have hz81 : g8 < w1.heap.size:=H8.out.lt
 have hz9 : w.heap.size + 2 < g9:=by omega
 have hz91 : g9 < w1.heap.size:=h9.lt
 have HOk1:=Lib.hid (HOk.out.up hbw)
 have HX1:=Lib.hid (HX.out.up hbw)
 have HNe0:=Lib.hid (show ∀ ad,s.A = some ad → ad.block ≠ w.heap.size from fun ad e => by have:=HAl.out ad e;omega)
 have HNe1:=Lib.hid (show ∀ ad,s.A = some ad → ad.block ≠ w.heap.size + 2 from fun ad e => by have:=HAl.out ad e;omega)
 have hne10 : w.heap.size + 2 ≠ w.heap.size:=by omega
 have xo1:=HBo.out.cell 1 (v:=.int .i64 f) rfl
 clear H9
 have H9:=Lib.hid h9
 clear hw1 h9 hb19 hz19 hold1 hosz HB0a HBoa HB1a HB0c H8c hbc hbc1 hba1 hbb' hbwa hg8c x6 x7 x8 hza' hg8 hzb HX
 rw [hg9]
 clear hg9
 obtain ⟨k65,k66,k101,k67,k97,k68,k69,k70,k71,k96,k100,k72,k102,k74,k75,k76,k77,k80,k64,k88,k83,k84,k109,k114,k115,k117⟩:=HQ.out
 have h65 : (f == 65) = false:=by simpa using k65
 have h66 : (f == 66) = false:=by simpa using k66
 have h101 : (f == 101) = false:=by simpa using k101
 have h67 : (f == 67) = false:=by simpa using k67
 have h97 : (f == 97) = false:=by simpa using k97
 have h68 : (f == 68) = false:=by simpa using k68
 have h69 : (f == 69) = false:=by simpa using k69
 have h70 : (f == 70) = false:=by simpa using k70
 have h71 : (f == 71) = false:=by simpa using k71
 have h96 : (f == 96) = false:=by simpa using k96
 have h100 : (f == 100) = false:=by simpa using k100
 have h72 : (f == 72) = false:=by simpa using k72
 have h102 : (f == 102) = false:=by simpa using k102
 have h74 : (f == 74) = false:=by simpa using k74
 have h75 : (f == 75) = false:=by simpa using k75
 have h76 : (f == 76) = false:=by simpa using k76
 have h77 : (f == 77) = false:=by simpa using k77
 have h80 : (f == 80) = false:=by simpa using k80
 have h64 : (f == 64) = false:=by simpa using k64
 have h88 : (f == 88) = false:=by simpa using k88
 have h83 : (f == 83) = false:=by simpa using k83
 have h84 : (f == 84) = false:=by simpa using k84
 have h109 : (f == 109) = false:=by simpa using k109
 have h114 : (f == 114) = false:=by simpa using k114
 have h115 : (f == 115) = false:=by simpa using k115
 have h117 : (f == 117) = false:=by simpa using k117
 clear k65 k66 k101 k67 k97 k68 k69 k70 k71 k96 k100 k72 k102 k74 k75 k76 k77 k80 k64 k88 k83 k84 k109 k114 k115 k117
 go_upto_region 52 with (fail)
 go_wp2_with (first
  | ((with_reducible refine wpList_load_sc (s) (w.heap.size) (.tmp 2) rfl rfl ?_ ?_ ?_);(focus rfl);(focus (exact HB0.out)))
  | ((with_reducible refine wpList_store_sc (s) (w.heap.size + 2) (.tmp 4) (.tmp 216) rfl rfl ?_ ?_ ?_ ?_);(focus rfl);(focus rfl);(focus (exact ⟨_,HB1.out,HOsz.out⟩));intro w3 hS3 hg3;have HS3:=Lib.hid hS3;have HG3:=Lib.hid hg3;clear hS3 hg3)
  | fail)
 refine bodyPost_ret (results_sc2 rfl _ _ (w.heap.size + 2) (s) (by rfl) HS3.out) rfl ?_
 exact ⟨(s),none,0,0,rfl,rfl,rfl,HOk1.out.far HG3.out (ne_some HNe1.out),.inl rfl,Ls.nil_ _ _,(fun ad e => by cases e),by omega,by omega,by omega,Bw.grown (hbw) HG3.out (fun k hk => by cases hk;omega)⟩
theorem wp_load_sc {o : Oper} {a : Act} {w : World} {K : Act → World → Prop} {Q : Exit → Act → World → Prop} (s : Scr) (g : Nat) (x : Operand) (ho : o.op = .load 46 x)
  (hx : a.eval x = .pointer (some ⟨g,0,none⟩)) (hg : Sb w g s.vals.toArray 46)
  (h : K (a.put o.dst (.agg s.vals.toArray)) w) : Oper.wp Tryz.prog o a w K Q :=
 wp_load_row 46 x ho g hx 46 s.vals.toArray (0,0) _ hg Tryz.underlying46 rfl (infoSz s) h
theorem cell_up {w w' : World} {g i : Nat} {v : Value} (h : w.cell? ⟨g,i,none⟩ = some v) (hb : Bw w w') : w'.cell? ⟨g,i,none⟩ = some v:=by
 rw [Below.cell hb (p:=⟨g,i,none⟩) (lt_of_cell h)]
 exact h
theorem cell_far {w w' : World} {g i : Nat} {v : Value} {row : Option Nat} (h : w.cell? ⟨g,i,none⟩ = some v) (hg : w.grownBy w' row) (hne : some g ≠ row) : w'.cell? ⟨g,i,none⟩ = some v:=by
 have h1:=hg.block g (lt_of_cell h) hne
 simp only [World.cell?] at h ⊢
 rw [h1]
 exact h
end Go.Proofs.YteebdjmjeahccaaGreatDoor
