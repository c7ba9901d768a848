/- Parts of the proof, one after the other. -/
import Derived.Test.YteebdjmjeahccaaGreatDoorC15
set_option linter.unusedSimpArgs false
set_option linter.unusedVariables false
set_option maxRecDepth 100000
set_option maxHeartbeats 16000000
namespace Go.Proofs.YteebdjmjeahccaaGreatDoor
open Go.RowKit
theorem rscsi_Ga (s : Scr) (kd f pv : Int) (A : Option Addr) (n c : Nat) (xs : List Int) (w : World) (hs : s.Ok w) (hx : Rd (.int .i64) w A n xs) (hn : n ≤ c) (hc : c ≤ 9223372036854775807) (hn0 : 0 < n) (hn1 : n ≤ 1000) (hp : ∀ x ∈ xs,0 ≤ x ∧ x ≤ 9999) (hq : f = 65 ∨ f = 66 ∨ f = 101 ∨ f = 67 ∨ f = 97 ∨ f = 68) : Calls Tryz.prog 84 #[.agg s.vals.toArray,.agg #[.int .i64 kd,.int .i64 f,.int .i64 pv,.slice A n c]] w (ScL w s):=by
 have HQ:=Lib.hid hq
 clear hq
 have HOk:=Lib.hid hs
 have HAl:=Lib.hid hs.1.lt
 have HX:=Lib.hid hx
 have HP:=Lib.hid hp
 have HBl:=Lib.hid (blankC_ok hs.2.2.1)
 clear hs hx hp
 go_enter Tryz.func84,Tryz.ntmps84
 go_upto_region 1 with (fail)
 generalize hwa : ((w.alloc (.cells s.vals.toArray 46)).alloc _).alloc _ = wa
 obtain ⟨hb0,hb1,hb2,hbwa,hza⟩:=sb3 hwa
 have HB0a:=Lib.hid hb0
 have HBoa:=Lib.hid hb1
 have HB1a:=Lib.hid (show ∃ old,Sb wa (w.heap.size + 2) old 46 ∧ old.size = 19 from ⟨_,hb2,rfl⟩)
 have hza' : w.heap.size + 2 < wa.heap.size:=by omega
 clear hwa hb0 hb1 hb2 hza
 (have x3:=HB0a.out.cell 3 (v:=.int .i64 s.row) rfl;have x4:=HB0a.out.cell 4 (v:=.int .i64 s.col) rfl;have x5:=HB0a.out.cell 5 (v:=.bool s.wrap) rfl)
 have xo:=HBoa.out.cell 3 (v:=.slice A n c) rfl
 go_cut [6,7,8] (fun v6 v7 v8 w' => v6 = .slice A n c ∧ (∃ num,v7 = .int .i64 num ∧ 1 ≤ num ∧ num ≤ 9999) ∧ ∃ g8,v8 = .pointer (some ⟨g8,0,none⟩) ∧ Sb w' g8 #[.int .i64 s.row,.int .i64 s.col,.bool s.wrap] 40 ∧ wa.heap.size ≤ g8 ∧ Bw wa w')
 case first =>
  have HY:=Lib.hid (show ∀ w',Bw wa w' → (w'.cell? ⟨w.heap.size,3,none⟩ = some (.int .i64 s.row) ∧ w'.cell? ⟨w.heap.size,4,none⟩ = some (.int .i64 s.col) ∧ w'.cell? ⟨w.heap.size,5,none⟩ = some (.bool s.wrap) ∧ w'.cell? ⟨w.heap.size + 1,3,none⟩ = some (.slice A n c)) from fun w' hb => ⟨(HB0a.out.up hb).cell 3 rfl,(HB0a.out.up hb).cell 4 rfl,(HB0a.out.up hb).cell 5 rfl,(HBoa.out.up hb).cell 3 rfl⟩)
  go_region_held3 (fun w' => w'.cell? ⟨w.heap.size,3,none⟩ = some (.int .i64 s.row) ∧ w'.cell? ⟨w.heap.size,4,none⟩ = some (.int .i64 s.col) ∧ w'.cell? ⟨w.heap.size,5,none⟩ = some (.bool s.wrap) ∧ w'.cell? ⟨w.heap.size + 1,3,none⟩ = some (.slice A n c)) ((refine HY.out _ ?_;exact BWX)) ((first|(go_at_call 106;refine (rsor_0 A n c 1 xs _ (by exact HX.out.up BWX) hn hc).mono ?_;rintro ee wv ⟨⟨v,rfl,hv⟩,hbv⟩;have HV:=Lib.hid hv;have hbwv : Bw wa wv:=Bw.trans (show Bw wa _ from BWX) hbv;obtain ⟨L8,d8,rfl⟩:=hbv.isPlus;clear hv hbv)|fail))
  all_goals go_wp2
  all_goals go_meet
  all_goals
   case rel =>
    refine ⟨rfl,⟨_,rfl,or_bd HP.out (by omega) HV.out⟩,_,rfl,?_,?_,?_⟩
    ·first|(refine heap_at ?_;simp [plus_size];done)|(refine Sb.up (w:=wa.alloc _) (heap_at rfl) ?_;(repeat (first|with_reducible (first|assumption|exact Bw.refl _|refine Bw.alloc ?_ _|refine Bw.more ?_ _ _|refine Bw.drew ?_|refine Bw.drewN ?_ _)|((with_reducible refine Bw.set2 ?_ ?_ _);(focus exact SZX))|with_reducible refine Bw.trans ?_ (by assumption)));done)|fail
    ·first|omega|(simp only [plus_size];omega)|fail
    ·(repeat (first|with_reducible (first|assumption|exact Bw.refl _|refine Bw.alloc ?_ _|refine Bw.more ?_ _ _|refine Bw.drew ?_|refine Bw.drewN ?_ _)|((with_reducible refine Bw.set2 ?_ ?_ _);(focus exact SZX))|with_reducible refine Bw.trans ?_ (by assumption)))
 case rest =>
 obtain ⟨rfl,⟨num,rfl,hnum1,hnum2⟩,g8,rfl,h8,hg8,hbc⟩:=hcut
 have HB0c:=Lib.hid (HB0a.out.up hbc)
 have H8c:=Lib.hid h8
 have hg8c:=h8.lt
 clear x3 x4 x5 xo h8
 (have x6:=HB0c.out.cell 6 (v:=.int .i64 s.f) rfl;have x7:=HB0c.out.cell 7 (v:=.int .i64 s.g) rfl;have x8:=HB0c.out.cell 8 (v:=.int .i64 s.b) rfl)
 go_upto_region 3 with (go_at_call 105;refine (rblank_any s.f s.g s.b _).mono ?_;rintro ee wb ⟨rfl,hbb⟩;have hbb' : Bw wc wb:=Bw.trans (show Bw wc _ from BWX) hbb;clear hbb)
 generalize hw1 : wb.alloc _ = w1
 obtain ⟨h9,hb19,hz19⟩:=sb1 hw1
 have hbc1 : Bw wc w1:=Bw.trans hbb' hb19
 have hba1 : Bw wa w1:=Bw.trans hbc hbc1
 have hbw : Bw w w1:=Bw.trans hbwa hba1
 have HB0:=Lib.hid (HB0a.out.up hba1)
 have HBo:=Lib.hid (HBoa.out.up hba1)
 obtain ⟨old1,hold1,hosz⟩:=HB1a.out
 have HB1:=Lib.hid (hold1.up hba1)
 have HOsz:=Lib.hid hosz
 have H8:=Lib.hid (H8c.out.up hbc1)
 have H9:=Lib.hid h9
 obtain ⟨g9,hg9⟩ : ∃ g9,wb.heap.size = g9:=⟨_,rfl⟩
 have hzb:=hbb'.size
 rw [hg9] at h9
 have hz1 : w.heap.size + 2 < w1.heap.size:=by have:=hba1.size;omega
 have hz8 : w.heap.size + 2 < g8:=by omega
 have hz81 : g8 < w1.heap.size:=H8.out.lt
 have hz9 : w.heap.size + 2 < g9:=by omega
 have hz91 : g9 < w1.heap.size:=h9.lt
 have HOk1:=Lib.hid (HOk.out.up hbw)
 have HX1:=Lib.hid (HX.out.up hbw)
 have HNe0:=Lib.hid (show ∀ ad,s.A = some ad → ad.block ≠ w.heap.size from fun ad e => by have:=HAl.out ad e;omega)
 have HNe1:=Lib.hid (show ∀ ad,s.A = some ad → ad.block ≠ w.heap.size + 2 from fun ad e => by have:=HAl.out ad e;omega)
 have hne10 : w.heap.size + 2 ≠ w.heap.size:=by omega
 have xo1:=HBo.out.cell 1 (v:=.int .i64 f) rfl
 clear H9
 have H9:=Lib.hid h9
 clear hw1 h9 hb19 hz19 hold1 hosz HB0a HBoa HB1a HB0c H8c hbc hbc1 hba1 hbb' hbwa hg8c x6 x7 x8 hza' hg8 hzb HX
 rw [hg9]
 clear hg9
 rcases HQ.out with rfl|rfl|rfl|rfl|rfl|rfl
 ·go_upto_region 5 with (fail)
  go_wp2_with (first
   | ((with_reducible refine wpList_load_sc (s) (w.heap.size) (.tmp 2) rfl rfl ?_ ?_ ?_);(focus rfl);(focus (exact HB0.out)))
   | (go_at_call 104;refine (rsmove_ok (s) 1 num _ (HOk1.out) (by omega)).mono ?_;rintro ee w2 ⟨r2,c2,b2,rfl,hrc2,hb2⟩;have HB12:=Lib.hid ((HB1.out).up hb2);have hbm2:=hb2;have hzm2:=hb2.size;have HRC2:=Lib.hid hrc2;clear hb2 hrc2)
   | ((with_reducible refine wpList_store_sc ({ s with row:=r2,col:=c2,wrap:=b2 } : Scr) (w.heap.size + 2) (.tmp 4) (.tmp 26) rfl rfl ?_ ?_ ?_ ?_);(focus rfl);(focus rfl);(focus (exact ⟨_,HB12.out,HOsz.out⟩));intro w3 hS3 hg3;have HS3:=Lib.hid hS3;have HG3:=Lib.hid hg3;clear hS3 hg3)
   | fail)
  refine bodyPost_ret (results_sc2 rfl _ _ (w.heap.size + 2) ({ s with row:=r2,col:=c2,wrap:=b2 } : Scr) (by rfl) HS3.out) rfl ?_
  exact ⟨({ s with row:=r2,col:=c2,wrap:=b2 } : Scr),none,0,0,rfl,rfl,rfl,((HOk1.out.up hbm2).cur b2 HRC2.out).far HG3.out (ne_some HNe1.out),.inl rfl,Ls.nil_ _ _,(fun ad e => by cases e),by omega,by omega,by omega,Bw.grown (Bw.trans hbw hbm2) HG3.out (fun k hk => by cases hk;omega)⟩
 ·go_upto_region 8 with (fail)
  go_wp2_with (first
   | ((with_reducible refine wpList_load_sc (s) (w.heap.size) (.tmp 2) rfl rfl ?_ ?_ ?_);(focus rfl);(focus (exact HB0.out)))
   | (go_at_call 104;refine (rsmove_ok (s) 2 num _ (HOk1.out) (by omega)).mono ?_;rintro ee w2 ⟨r2,c2,b2,rfl,hrc2,hb2⟩;have HB12:=Lib.hid ((HB1.out).up hb2);have hbm2:=hb2;have hzm2:=hb2.size;have HRC2:=Lib.hid hrc2;clear hb2 hrc2)
   | ((with_reducible refine wpList_store_sc ({ s with row:=r2,col:=c2,wrap:=b2 } : Scr) (w.heap.size + 2) (.tmp 4) (.tmp 32) rfl rfl ?_ ?_ ?_ ?_);(focus rfl);(focus rfl);(focus (exact ⟨_,HB12.out,HOsz.out⟩));intro w3 hS3 hg3;have HS3:=Lib.hid hS3;have HG3:=Lib.hid hg3;clear hS3 hg3)
   | fail)
  refine bodyPost_ret (results_sc2 rfl _ _ (w.heap.size + 2) ({ s with row:=r2,col:=c2,wrap:=b2 } : Scr) (by rfl) HS3.out) rfl ?_
  exact ⟨({ s with row:=r2,col:=c2,wrap:=b2 } : Scr),none,0,0,rfl,rfl,rfl,((HOk1.out.up hbm2).cur b2 HRC2.out).far HG3.out (ne_some HNe1.out),.inl rfl,Ls.nil_ _ _,(fun ad e => by cases e),by omega,by omega,by omega,Bw.grown (Bw.trans hbw hbm2) HG3.out (fun k hk => by cases hk;omega)⟩
 ·go_upto_region 8 with (fail)
  go_wp2_with (first
   | ((with_reducible refine wpList_load_sc (s) (w.heap.size) (.tmp 2) rfl rfl ?_ ?_ ?_);(focus rfl);(focus (exact HB0.out)))
   | (go_at_call 104;refine (rsmove_ok (s) 2 num _ (HOk1.out) (by omega)).mono ?_;rintro ee w2 ⟨r2,c2,b2,rfl,hrc2,hb2⟩;have HB12:=Lib.hid ((HB1.out).up hb2);have hbm2:=hb2;have hzm2:=hb2.size;have HRC2:=Lib.hid hrc2;clear hb2 hrc2)
   | ((with_reducible refine wpList_store_sc ({ s with row:=r2,col:=c2,wrap:=b2 } : Scr) (w.heap.size + 2) (.tmp 4) (.tmp 32) rfl rfl ?_ ?_ ?_ ?_);(focus rfl);(focus rfl);(focus (exact ⟨_,HB12.out,HOsz.out⟩));intro w3 hS3 hg3;have HS3:=Lib.hid hS3;have HG3:=Lib.hid hg3;clear hS3 hg3)
   | fail)
  refine bodyPost_ret (results_sc2 rfl _ _ (w.heap.size + 2) ({ s with row:=r2,col:=c2,wrap:=b2 } : Scr) (by rfl) HS3.out) rfl ?_
  exact ⟨({ s with row:=r2,col:=c2,wrap:=b2 } : Scr),none,0,0,rfl,rfl,rfl,((HOk1.out.up hbm2).cur b2 HRC2.out).far HG3.out (ne_some HNe1.out),.inl rfl,Ls.nil_ _ _,(fun ad e => by cases e),by omega,by omega,by omega,Bw.grown (Bw.trans hbw hbm2) HG3.out (fun k hk => by cases hk;omega)⟩
 ·go_upto_region 11 with (fail)
  go_wp2_with (first
   | ((with_reducible refine wpList_load_sc (s) (w.heap.size) (.tmp 2) rfl rfl ?_ ?_ ?_);(focus rfl);(focus (exact HB0.out)))
   | (go_at_call 104;refine (rsmove_ok (s) 3 num _ (HOk1.out) (by omega)).mono ?_;rintro ee w2 ⟨r2,c2,b2,rfl,hrc2,hb2⟩;have HB12:=Lib.hid ((HB1.out).up hb2);have hbm2:=hb2;have hzm2:=hb2.size;have HRC2:=Lib.hid hrc2;clear hb2 hrc2)
   | ((with_reducible refine wpList_store_sc ({ s with row:=r2,col:=c2,wrap:=b2 } : Scr) (w.heap.size + 2) (.tmp 4) (.tmp 38) rfl rfl ?_ ?_ ?_ ?_);(focus rfl);(focus rfl);(focus (exact ⟨_,HB12.out,HOsz.out⟩));intro w3 hS3 hg3;have HS3:=Lib.hid hS3;have HG3:=Lib.hid hg3;clear hS3 hg3)
   | fail)
  refine bodyPost_ret (results_sc2 rfl _ _ (w.heap.size + 2) ({ s with row:=r2,col:=c2,wrap:=b2 } : Scr) (by rfl) HS3.out) rfl ?_
  exact ⟨({ s with row:=r2,col:=c2,wrap:=b2 } : Scr),none,0,0,rfl,rfl,rfl,((HOk1.out.up hbm2).cur b2 HRC2.out).far HG3.out (ne_some HNe1.out),.inl rfl,Ls.nil_ _ _,(fun ad e => by cases e),by omega,by omega,by omega,Bw.grown (Bw.trans hbw hbm2) HG3.out (fun k hk => by cases hk;omega)⟩
 ·go_upto_region 11 with (fail)
  go_wp2_with (first
   | ((with_reducible refine wpList_load_sc (s) (w.heap.size) (.tmp 2) rfl rfl ?_ ?_ ?_);(focus rfl);(focus (exact HB0.out)))
   | (go_at_call 104;refine (rsmove_ok (s) 3 num _ (HOk1.out) (by omega)).mono ?_;rintro ee w2 ⟨r2,c2,b2,rfl,hrc2,hb2⟩;have HB12:=Lib.hid ((HB1.out).up hb2);have hbm2:=hb2;have hzm2:=hb2.size;have HRC2:=Lib.hid hrc2;clear hb2 hrc2)
   | ((with_reducible refine wpList_store_sc ({ s with row:=r2,col:=c2,wrap:=b2 } : Scr) (w.heap.size + 2) (.tmp 4) (.tmp 38) rfl rfl ?_ ?_ ?_ ?_);(focus rfl);(focus rfl);(focus (exact ⟨_,HB12.out,HOsz.out⟩));intro w3 hS3 hg3;have HS3:=Lib.hid hS3;have HG3:=Lib.hid hg3;clear hS3 hg3)
   | fail)
  refine bodyPost_ret (results_sc2 rfl _ _ (w.heap.size + 2) ({ s with row:=r2,col:=c2,wrap:=b2 } : Scr) (by rfl) HS3.out) rfl ?_
  exact ⟨({ s with row:=r2,col:=c2,wrap:=b2 } : Scr),none,0,0,rfl,rfl,rfl,((HOk1.out.up hbm2).cur b2 HRC2.out).far HG3.out (ne_some HNe1.out),.inl rfl,Ls.nil_ _ _,(fun ad e => by cases e),by omega,by omega,by omega,Bw.grown (Bw.trans hbw hbm2) HG3.out (fun k hk => by cases hk;omega)⟩
 ·go_upto_region 13 with (fail)
  go_wp2_with (first
   | ((with_reducible refine wpList_load_sc (s) (w.heap.size) (.tmp 2) rfl rfl ?_ ?_ ?_);(focus rfl);(focus (exact HB0.out)))
   | (go_at_call 104;refine (rsmove_ok (s) 4 num _ (HOk1.out) (by omega)).mono ?_;rintro ee w2 ⟨r2,c2,b2,rfl,hrc2,hb2⟩;have HB12:=Lib.hid ((HB1.out).up hb2);have hbm2:=hb2;have hzm2:=hb2.size;have HRC2:=Lib.hid hrc2;clear hb2 hrc2)
   | ((with_reducible refine wpList_store_sc ({ s with row:=r2,col:=c2,wrap:=b2 } : Scr) (w.heap.size + 2) (.tmp 4) (.tmp 43) rfl rfl ?_ ?_ ?_ ?_);(focus rfl);(focus rfl);(focus (exact ⟨_,HB12.out,HOsz.out⟩));intro w3 hS3 hg3;have HS3:=Lib.hid hS3;have HG3:=Lib.hid hg3;clear hS3 hg3)
   | fail)
  refine bodyPost_ret (results_sc2 rfl _ _ (w.heap.size + 2) ({ s with row:=r2,col:=c2,wrap:=b2 } : Scr) (by rfl) HS3.out) rfl ?_
  exact ⟨({ s with row:=r2,col:=c2,wrap:=b2 } : Scr),none,0,0,rfl,rfl,rfl,((HOk1.out.up hbm2).cur b2 HRC2.out).far HG3.out (ne_some HNe1.out),.inl rfl,Ls.nil_ _ _,(fun ad e => by cases e),by omega,by omega,by omega,Bw.grown (Bw.trans hbw hbm2) HG3.out (fun k hk => by cases hk;omega)⟩
theorem rscsi_Gb (s : Scr) (kd f pv : Int) (A : Option Addr) (n c : Nat) (xs : List Int) (w : World) (hs : s.Ok w) (hx : Rd (.int .i64) w A n xs) (hn : n ≤ c) (hc : c ≤ 9223372036854775807) (hn0 : 0 < n) (hn1 : n ≤ 1000) (hp : ∀ x ∈ xs,0 ≤ x ∧ x ≤ 9999) (hq : f = 69 ∨ f = 70 ∨ f = 71 ∨ f = 96 ∨ f = 100 ∨ f = 72 ∨ f = 102) : Calls Tryz.prog 84 #[.agg s.vals.toArray,.agg #[.int .i64 kd,.int .i64 f,.int .i64 pv,.slice A n c]] w (ScL w s):=by
 have HQ:=Lib.hid hq
 clear hq
 have HOk:=Lib.hid hs
 have HAl:=Lib.hid hs.1.lt
 have HX:=Lib.hid hx
 have HP:=Lib.hid hp
 have HBl:=Lib.hid (blankC_ok hs.2.2.1)
 clear hs hx hp
 go_enter Tryz.func84,Tryz.ntmps84
 go_upto_region 1 with (fail)
 generalize hwa : ((w.alloc (.cells s.vals.toArray 46)).alloc _).alloc _ = wa
 obtain ⟨hb0,hb1,hb2,hbwa,hza⟩:=sb3 hwa
 have HB0a:=Lib.hid hb0
 have HBoa:=Lib.hid hb1
 have HB1a:=Lib.hid (show ∃ old,Sb wa (w.heap.size + 2) old 46 ∧ old.size = 19 from ⟨_,hb2,rfl⟩)
 have hza' : w.heap.size + 2 < wa.heap.size:=by omega
 clear hwa hb0 hb1 hb2 hza
 (have x3:=HB0a.out.cell 3 (v:=.int .i64 s.row) rfl;have x4:=HB0a.out.cell 4 (v:=.int .i64 s.col) rfl;have x5:=HB0a.out.cell 5 (v:=.bool s.wrap) rfl)
 have xo:=HBoa.out.cell 3 (v:=.slice A n c) rfl
 go_cut [6,7,8] (fun v6 v7 v8 w' => v6 = .slice A n c ∧ (∃ num,v7 = .int .i64 num ∧ 1 ≤ num ∧ num ≤ 9999) ∧ ∃ g8,v8 = .pointer (some ⟨g8,0,none⟩) ∧ Sb w' g8 #[.int .i64 s.row,.int .i64 s.col,.bool s.wrap] 40 ∧ wa.heap.size ≤ g8 ∧ Bw wa w')
 case first =>
  have HY:=Lib.hid (show ∀ w',Bw wa w' → (w'.cell? ⟨w.heap.size,3,none⟩ = some (.int .i64 s.row) ∧ w'.cell? ⟨w.heap.size,4,none⟩ = some (.int .i64 s.col) ∧ w'.cell? ⟨w.heap.size,5,none⟩ = some (.bool s.wrap) ∧ w'.cell? ⟨w.heap.size + 1,3,none⟩ = some (.slice A n c)) from fun w' hb => ⟨(HB0a.out.up hb).cell 3 rfl,(HB0a.out.up hb).cell 4 rfl,(HB0a.out.up hb).cell 5 rfl,(HBoa.out.up hb).cell 3 rfl⟩)
  go_region_held3 (fun w' => w'.cell? ⟨w.heap.size,3,none⟩ = some (.int .i64 s.row) ∧ w'.cell? ⟨w.heap.size,4,none⟩ = some (.int .i64 s.col) ∧ w'.cell? ⟨w.heap.size,5,none⟩ = some (.bool s.wrap) ∧ w'.cell? ⟨w.heap.size + 1,3,none⟩ = some (.slice A n c)) ((refine HY.out _ ?_;exact BWX)) ((first|(go_at_call 106;refine (rsor_0 A n c 1 xs _ (by exact HX.out.up BWX) hn hc).mono ?_;rintro ee wv ⟨⟨v,rfl,hv⟩,hbv⟩;have HV:=Lib.hid hv;have hbwv : Bw wa wv:=Bw.trans (show Bw wa _ from BWX) hbv;obtain ⟨L8,d8,rfl⟩:=hbv.isPlus;clear hv hbv)|fail))
  all_goals go_wp2
  all_goals go_meet
  all_goals
   case rel =>
    refine ⟨rfl,⟨_,rfl,or_bd HP.out (by omega) HV.out⟩,_,rfl,?_,?_,?_⟩
    ·first|(refine heap_at ?_;simp [plus_size];done)|(refine Sb.up (w:=wa.alloc _) (heap_at rfl) ?_;(repeat (first|with_reducible (first|assumption|exact Bw.refl _|refine Bw.alloc ?_ _|refine Bw.more ?_ _ _|refine Bw.drew ?_|refine Bw.drewN ?_ _)|((with_reducible refine Bw.set2 ?_ ?_ _);(focus exact SZX))|with_reducible refine Bw.trans ?_ (by assumption)));done)|fail
    ·first|omega|(simp only [plus_size];omega)|fail
    ·(repeat (first|with_reducible (first|assumption|exact Bw.refl _|refine Bw.alloc ?_ _|refine Bw.more ?_ _ _|refine Bw.drew ?_|refine Bw.drewN ?_ _)|((with_reducible refine Bw.set2 ?_ ?_ _);(focus exact SZX))|with_reducible refine Bw.trans ?_ (by assumption)))
 case rest =>
 obtain ⟨rfl,⟨num,rfl,hnum1,hnum2⟩,g8,rfl,h8,hg8,hbc⟩:=hcut
 have HB0c:=Lib.hid (HB0a.out.up hbc)
 have H8c:=Lib.hid h8
 have hg8c:=h8.lt
 clear x3 x4 x5 xo h8
 (have x6:=HB0c.out.cell 6 (v:=.int .i64 s.f) rfl;have x7:=HB0c.out.cell 7 (v:=.int .i64 s.g) rfl;have x8:=HB0c.out.cell 8 (v:=.int .i64 s.b) rfl)
 go_upto_region 3 with (go_at_call 105;refine (rblank_any s.f s.g s.b _).mono ?_;rintro ee wb ⟨rfl,hbb⟩;have hbb' : Bw wc wb:=Bw.trans (show Bw wc _ from BWX) hbb;clear hbb)
 generalize hw1 : wb.alloc _ = w1
 obtain ⟨h9,hb19,hz19⟩:=sb1 hw1
 have hbc1 : Bw wc w1:=Bw.trans hbb' hb19
 have hba1 : Bw wa w1:=Bw.trans hbc hbc1
 have hbw : Bw w w1:=Bw.trans hbwa hba1
 have HB0:=Lib.hid (HB0a.out.up hba1)
 have HBo:=Lib.hid (HBoa.out.up hba1)
 obtain ⟨old1,hold1,hosz⟩:=HB1a.out
 have HB1:=Lib.hid (hold1.up hba1)
 have HOsz:=Lib.hid hosz
 have H8:=Lib.hid (H8c.out.up hbc1)
 have H9:=Lib.hid h9
 obtain ⟨g9,hg9⟩ : ∃ g9,wb.heap.size = g9:=⟨_,rfl⟩
 have hzb:=hbb'.size
 rw [hg9] at h9
 have hz1 : w.heap.size + 2 < w1.heap.size:=by have:=hba1.size;omega
 have hz8 : w.heap.size + 2 < g8:=by omega
 have hz81 : g8 < w1.heap.size:=H8.out.lt
 have hz9 : w.heap.size + 2 < g9:=by omega
 have hz91 : g9 < w1.heap.size:=h9.lt
 have HOk1:=Lib.hid (HOk.out.up hbw)
 have HX1:=Lib.hid (HX.out.up hbw)
 have HNe0:=Lib.hid (show ∀ ad,s.A = some ad → ad.block ≠ w.heap.size from fun ad e => by have:=HAl.out ad e;omega)
 have HNe1:=Lib.hid (show ∀ ad,s.A = some ad → ad.block ≠ w.heap.size + 2 from fun ad e => by have:=HAl.out ad e;omega)
 have hne10 : w.heap.size + 2 ≠ w.heap.size:=by omega
 have xo1:=HBo.out.cell 1 (v:=.int .i64 f) rfl
 clear H9
 have H9:=Lib.hid h9
 clear hw1 h9 hb19 hz19 hold1 hosz HB0a HBoa HB1a HB0c H8c hbc hbc1 hba1 hbb' hbwa hg8c x6 x7 x8 hza' hg8 hzb HX
 rw [hg9]
 clear hg9
 rcases HQ.out with rfl|rfl|rfl|rfl|rfl|rfl|rfl
 ·go_upto_region 15 with (fail)
  go_wp2_with (first
   | ((with_reducible refine wpList_load_sc (s) (w.heap.size) (.tmp 2) rfl rfl ?_ ?_ ?_);(focus rfl);(focus (exact HB0.out)))
   | (go_at_call 104;refine (rsmove_ok ({ s with row:=r2,col:=c2,wrap:=b2 } : Scr) 5 0 _ ((HOk1.out.up hbm2).cur b2 HRC2.out) (by omega)).mono ?_;rintro ee w4 ⟨r4,c4,b4,rfl,hrc4,hb4⟩;have HB14:=Lib.hid ((HB12.out).up hb4);have hbm4:=hb4;have hzm4:=hb4.size;have HRC4:=Lib.hid hrc4;clear hb4 hrc4)
   | (go_at_call 104;refine (rsmove_ok s 2 num _ (HOk1.out) (by omega)).mono ?_;rintro ee w2 ⟨r2,c2,b2,rfl,hrc2,hb2⟩;have HB12:=Lib.hid ((HB1.out).up hb2);have hbm2:=hb2;have hzm2:=hb2.size;have HRC2:=Lib.hid hrc2;clear hb2 hrc2)
   | ((with_reducible refine wpList_store_sc ({ s with row:=r4,col:=c4,wrap:=b4 } : Scr) (w.heap.size + 2) (.tmp 4) (.tmp 49) rfl rfl ?_ ?_ ?_ ?_);(focus rfl);(focus rfl);(focus (exact ⟨_,HB14.out,HOsz.out⟩));intro w3 hS3 hg3;have HS3:=Lib.hid hS3;have HG3:=Lib.hid hg3;clear hS3 hg3)
   | fail)
  refine bodyPost_ret (results_sc2 rfl _ _ (w.heap.size + 2) ({ s with row:=r4,col:=c4,wrap:=b4 } : Scr) (by rfl) HS3.out) rfl ?_
  exact ⟨({ s with row:=r4,col:=c4,wrap:=b4 } : Scr),none,0,0,rfl,rfl,rfl,(((HOk1.out.up hbm2).up hbm4).cur b4 HRC4.out).far HG3.out (ne_some HNe1.out),.inl rfl,Ls.nil_ _ _,(fun ad e => by cases e),by omega,by omega,by omega,Bw.grown (Bw.trans (Bw.trans hbw hbm2) hbm4) HG3.out (fun k hk => by cases hk;omega)⟩
 ·go_upto_region 17 with (fail)
  go_wp2_with (first
   | ((with_reducible refine wpList_load_sc (s) (w.heap.size) (.tmp 2) rfl rfl ?_ ?_ ?_);(focus rfl);(focus (exact HB0.out)))
   | (go_at_call 104;refine (rsmove_ok ({ s with row:=r2,col:=c2,wrap:=b2 } : Scr) 5 0 _ ((HOk1.out.up hbm2).cur b2 HRC2.out) (by omega)).mono ?_;rintro ee w4 ⟨r4,c4,b4,rfl,hrc4,hb4⟩;have HB14:=Lib.hid ((HB12.out).up hb4);have hbm4:=hb4;have hzm4:=hb4.size;have HRC4:=Lib.hid hrc4;clear hb4 hrc4)
   | (go_at_call 104;refine (rsmove_ok s 1 num _ (HOk1.out) (by omega)).mono ?_;rintro ee w2 ⟨r2,c2,b2,rfl,hrc2,hb2⟩;have HB12:=Lib.hid ((HB1.out).up hb2);have hbm2:=hb2;have hzm2:=hb2.size;have HRC2:=Lib.hid hrc2;clear hb2 hrc2)
   | ((with_reducible refine wpList_store_sc ({ s with row:=r4,col:=c4,wrap:=b4 } : Scr) (w.heap.size + 2) (.tmp 4) (.tmp 55) rfl rfl ?_ ?_ ?_ ?_);(focus rfl);(focus rfl);(focus (exact ⟨_,HB14.out,HOsz.out⟩));intro w3 hS3 hg3;have HS3:=Lib.hid hS3;have HG3:=Lib.hid hg3;clear hS3 hg3)
   | fail)
  refine bodyPost_ret (results_sc2 rfl _ _ (w.heap.size + 2) ({ s with row:=r4,col:=c4,wrap:=b4 } : Scr) (by rfl) HS3.out) rfl ?_
  exact ⟨({ s with row:=r4,col:=c4,wrap:=b4 } : Scr),none,0,0,rfl,rfl,rfl,(((HOk1.out.up hbm2).up hbm4).cur b4 HRC4.out).far HG3.out (ne_some HNe1.out),.inl rfl,Ls.nil_ _ _,(fun ad e => by cases e),by omega,by omega,by omega,Bw.grown (Bw.trans (Bw.trans hbw hbm2) hbm4) HG3.out (fun k hk => by cases hk;omega)⟩
 ·go_upto_region 20 with (fail)
  go_wp2_with (first
   | ((with_reducible refine wpList_load_sc (s) (w.heap.size) (.tmp 2) rfl rfl ?_ ?_ ?_);(focus rfl);(focus (exact HB0.out)))
   | (go_at_call 104;refine (rsmove_ok (s) 6 (num - 1) _ (HOk1.out) (by omega)).mono ?_;rintro ee w2 ⟨r2,c2,b2,rfl,hrc2,hb2⟩;have HB12:=Lib.hid ((HB1.out).up hb2);have hbm2:=hb2;have hzm2:=hb2.size;have HRC2:=Lib.hid hrc2;clear hb2 hrc2)
   | ((with_reducible refine wpList_store_sc ({ s with row:=r2,col:=c2,wrap:=b2 } : Scr) (w.heap.size + 2) (.tmp 4) (.tmp 62) rfl rfl ?_ ?_ ?_ ?_);(focus rfl);(focus rfl);(focus (exact ⟨_,HB12.out,HOsz.out⟩));intro w3 hS3 hg3;have HS3:=Lib.hid hS3;have HG3:=Lib.hid hg3;clear hS3 hg3)
   | fail)
  refine bodyPost_ret (results_sc2 rfl _ _ (w.heap.size + 2) ({ s with row:=r2,col:=c2,wrap:=b2 } : Scr) (by rfl) HS3.out) rfl ?_
  exact ⟨({ s with row:=r2,col:=c2,wrap:=b2 } : Scr),none,0,0,rfl,rfl,rfl,((HOk1.out.up hbm2).cur b2 HRC2.out).far HG3.out (ne_some HNe1.out),.inl rfl,Ls.nil_ _ _,(fun ad e => by cases e),by omega,by omega,by omega,Bw.grown (Bw.trans hbw hbm2) HG3.out (fun k hk => by cases hk;omega)⟩
 ·go_upto_region 20 with (fail)
  go_wp2_with (first
   | ((with_reducible refine wpList_load_sc (s) (w.heap.size) (.tmp 2) rfl rfl ?_ ?_ ?_);(focus rfl);(focus (exact HB0.out)))
   | (go_at_call 104;refine (rsmove_ok (s) 6 (num - 1) _ (HOk1.out) (by omega)).mono ?_;rintro ee w2 ⟨r2,c2,b2,rfl,hrc2,hb2⟩;have HB12:=Lib.hid ((HB1.out).up hb2);have hbm2:=hb2;have hzm2:=hb2.size;have HRC2:=Lib.hid hrc2;clear hb2 hrc2)
   | ((with_reducible refine wpList_store_sc ({ s with row:=r2,col:=c2,wrap:=b2 } : Scr) (w.heap.size + 2) (.tmp 4) (.tmp 62) rfl rfl ?_ ?_ ?_ ?_);(focus rfl);(focus rfl);(focus (exact ⟨_,HB12.out,HOsz.out⟩));intro w3 hS3 hg3;have HS3:=Lib.hid hS3;have HG3:=Lib.hid hg3;clear hS3 hg3)
   | fail)
  refine bodyPost_ret (results_sc2 rfl _ _ (w.heap.size + 2) ({ s with row:=r2,col:=c2,wrap:=b2 } : Scr) (by rfl) HS3.out) rfl ?_
  exact ⟨({ s with row:=r2,col:=c2,wrap:=b2 } : Scr),none,0,0,rfl,rfl,rfl,((HOk1.out.up hbm2).cur b2 HRC2.out).far HG3.out (ne_some HNe1.out),.inl rfl,Ls.nil_ _ _,(fun ad e => by cases e),by omega,by omega,by omega,Bw.grown (Bw.trans hbw hbm2) HG3.out (fun k hk => by cases hk;omega)⟩
 ·go_upto_region 22 with (fail)
  go_wp2_with (first
   | ((with_reducible refine wpList_load_sc (s) (w.heap.size) (.tmp 2) rfl rfl ?_ ?_ ?_);(focus rfl);(focus (exact HB0.out)))
   | (go_at_call 104;refine (rsmove_ok (s) 7 (num - 1) _ (HOk1.out) (by omega)).mono ?_;rintro ee w2 ⟨r2,c2,b2,rfl,hrc2,hb2⟩;have HB12:=Lib.hid ((HB1.out).up hb2);have hbm2:=hb2;have hzm2:=hb2.size;have HRC2:=Lib.hid hrc2;clear hb2 hrc2)
   | ((with_reducible refine wpList_store_sc ({ s with row:=r2,col:=c2,wrap:=b2 } : Scr) (w.heap.size + 2) (.tmp 4) (.tmp 68) rfl rfl ?_ ?_ ?_ ?_);(focus rfl);(focus rfl);(focus (exact ⟨_,HB12.out,HOsz.out⟩));intro w3 hS3 hg3;have HS3:=Lib.hid hS3;have HG3:=Lib.hid hg3;clear hS3 hg3)
   | fail)
  refine bodyPost_ret (results_sc2 rfl _ _ (w.heap.size + 2) ({ s with row:=r2,col:=c2,wrap:=b2 } : Scr) (by rfl) HS3.out) rfl ?_
  exact ⟨({ s with row:=r2,col:=c2,wrap:=b2 } : Scr),none,0,0,rfl,rfl,rfl,((HOk1.out.up hbm2).cur b2 HRC2.out).far HG3.out (ne_some HNe1.out),.inl rfl,Ls.nil_ _ _,(fun ad e => by cases e),by omega,by omega,by omega,Bw.grown (Bw.trans hbw hbm2) HG3.out (fun k hk => by cases hk;omega)⟩
 ·go_upto_region 25 with (fail)
  go_wp2_with (first
   | ((with_reducible refine wpList_load_sc (s) (w.heap.size) (.tmp 2) rfl rfl ?_ ?_ ?_);(focus rfl);(focus (exact HB0.out)))
   | (go_at_call 106;refine (rsor_1 A n c 1 xs _ (by exact HX1.out.up hbm2) hn hc).mono ?_;rintro ee wv ⟨⟨v,rfl,hv⟩,hbv⟩;have hvb:=or_bd HP.out (by omega) hv;obtain ⟨hv1,hv2⟩:=hvb;have hbmv:=hbv;have hzmv:=hbv.size;clear hv hbv)
   | (go_at_call 104;refine (rsmove_ok ({ s with row:=r2,col:=c2,wrap:=b2 } : Scr) 6 (v - 1) _ (((HOk1.out.up hbm2).cur b2 HRC2.out).up hbmv) (by omega)).mono ?_;rintro ee w4 ⟨r4,c4,b4,rfl,hrc4,hb4⟩;have HB14:=Lib.hid (((Lib.hid (HB12.out.up hbmv))).up hb4);have hbm4:=hb4;have hzm4:=hb4.size;have HRC4:=Lib.hid hrc4;clear hb4 hrc4)
   | (go_at_call 104;refine (rsmove_ok s 7 (num - 1) _ (HOk1.out) (by omega)).mono ?_;rintro ee w2 ⟨r2,c2,b2,rfl,hrc2,hb2⟩;have HB12:=Lib.hid ((HB1.out).up hb2);have hbm2:=hb2;have hzm2:=hb2.size;have HRC2:=Lib.hid hrc2;clear hb2 hrc2)
   | ((with_reducible refine wpList_store_sc ({ s with row:=r4,col:=c4,wrap:=b4 } : Scr) (w.heap.size + 2) (.tmp 4) (.tmp 79) rfl rfl ?_ ?_ ?_ ?_);(focus rfl);(focus rfl);(focus (exact ⟨_,HB14.out,HOsz.out⟩));intro w3 hS3 hg3;have HS3:=Lib.hid hS3;have HG3:=Lib.hid hg3;clear hS3 hg3)
   | fail)
  refine bodyPost_ret (results_sc2 rfl _ _ (w.heap.size + 2) ({ s with row:=r4,col:=c4,wrap:=b4 } : Scr) (by rfl) HS3.out) rfl ?_
  exact ⟨({ s with row:=r4,col:=c4,wrap:=b4 } : Scr),none,0,0,rfl,rfl,rfl,((((HOk1.out.up hbm2).up hbmv).up hbm4).cur b4 HRC4.out).far HG3.out (ne_some HNe1.out),.inl rfl,Ls.nil_ _ _,(fun ad e => by cases e),by omega,by omega,by omega,Bw.grown (Bw.trans (Bw.trans (Bw.trans hbw hbm2) hbmv) hbm4) HG3.out (fun k hk => by cases hk;omega)⟩
 ·go_upto_region 25 with (fail)
  go_wp2_with (first
   | ((with_reducible refine wpList_load_sc (s) (w.heap.size) (.tmp 2) rfl rfl ?_ ?_ ?_);(focus rfl);(focus (exact HB0.out)))
   | (go_at_call 106;refine (rsor_1 A n c 1 xs _ (by exact HX1.out.up hbm2) hn hc).mono ?_;rintro ee wv ⟨⟨v,rfl,hv⟩,hbv⟩;have hvb:=or_bd HP.out (by omega) hv;obtain ⟨hv1,hv2⟩:=hvb;have hbmv:=hbv;have hzmv:=hbv.size;clear hv hbv)
   | (go_at_call 104;refine (rsmove_ok ({ s with row:=r2,col:=c2,wrap:=b2 } : Scr) 6 (v - 1) _ (((HOk1.out.up hbm2).cur b2 HRC2.out).up hbmv) (by omega)).mono ?_;rintro ee w4 ⟨r4,c4,b4,rfl,hrc4,hb4⟩;have HB14:=Lib.hid (((Lib.hid (HB12.out.up hbmv))).up hb4);have hbm4:=hb4;have hzm4:=hb4.size;have HRC4:=Lib.hid hrc4;clear hb4 hrc4)
   | (go_at_call 104;refine (rsmove_ok s 7 (num - 1) _ (HOk1.out) (by omega)).mono ?_;rintro ee w2 ⟨r2,c2,b2,rfl,hrc2,hb2⟩;have HB12:=Lib.hid ((HB1.out).up hb2);have hbm2:=hb2;have hzm2:=hb2.size;have HRC2:=Lib.hid hrc2;clear hb2 hrc2)
   | ((with_reducible refine wpList_store_sc ({ s with row:=r4,col:=c4,wrap:=b4 } : Scr) (w.heap.size + 2) (.tmp 4) (.tmp 79) rfl rfl ?_ ?_ ?_ ?_);(focus rfl);(focus rfl);(focus (exact ⟨_,HB14.out,HOsz.out⟩));intro w3 hS3 hg3;have HS3:=Lib.hid hS3;have HG3:=Lib.hid hg3;clear hS3 hg3)
   | fail)
  refine bodyPost_ret (results_sc2 rfl _ _ (w.heap.size + 2) ({ s with row:=r4,col:=c4,wrap:=b4 } : Scr) (by rfl) HS3.out) rfl ?_
  exact ⟨({ s with row:=r4,col:=c4,wrap:=b4 } : Scr),none,0,0,rfl,rfl,rfl,((((HOk1.out.up hbm2).up hbmv).up hbm4).cur b4 HRC4.out).far HG3.out (ne_some HNe1.out),.inl rfl,Ls.nil_ _ _,(fun ad e => by cases e),by omega,by omega,by omega,Bw.grown (Bw.trans (Bw.trans (Bw.trans hbw hbm2) hbmv) hbm4) HG3.out (fun k hk => by cases hk;omega)⟩
theorem rscsi_Gc (s : Scr) (kd f pv : Int) (A : Option Addr) (n c : Nat) (xs : List Int) (w : World) (hs : s.Ok w) (hx : Rd (.int .i64) w A n xs) (hn : n ≤ c) (hc : c ≤ 9223372036854775807) (hn0 : 0 < n) (hn1 : n ≤ 1000) (hp : ∀ x ∈ xs,0 ≤ x ∧ x ≤ 9999) (hq : f = 76 ∨ f = 77 ∨ f = 83 ∨ f = 115 ∨ f = 117) : Calls Tryz.prog 84 #[.agg s.vals.toArray,.agg #[.int .i64 kd,.int .i64 f,.int .i64 pv,.slice A n c]] w (ScL w s):=by
 have HQ:=Lib.hid hq
 clear hq
 have HOk:=Lib.hid hs
 have HAl:=Lib.hid hs.1.lt
 have HX:=Lib.hid hx
 have HP:=Lib.hid hp
 have HBl:=Lib.hid (blankC_ok hs.2.2.1)
 clear hs hx hp
 go_enter Tryz.func84,Tryz.ntmps84
 go_upto_region 1 with (fail)
 generalize hwa : ((w.alloc (.cells s.vals.toArray 46)).alloc _).alloc _ = wa
 obtain ⟨hb0,hb1,hb2,hbwa,hza⟩:=sb3 hwa
 have HB0a:=Lib.hid hb0
 have HBoa:=Lib.hid hb1
 have HB1a:=Lib.hid (show ∃ old,Sb wa (w.heap.size + 2) old 46 ∧ old.size = 19 from ⟨_,hb2,rfl⟩)
 have hza' : w.heap.size + 2 < wa.heap.size:=by omega
 clear hwa hb0 hb1 hb2 hza
 (have x3:=HB0a.out.cell 3 (v:=.int .i64 s.row) rfl;have x4:=HB0a.out.cell 4 (v:=.int .i64 s.col) rfl;have x5:=HB0a.out.cell 5 (v:=.bool s.wrap) rfl)
 have xo:=HBoa.out.cell 3 (v:=.slice A n c) rfl
 go_cut [6,7,8] (fun v6 v7 v8 w' => v6 = .slice A n c ∧ (∃ num,v7 = .int .i64 num ∧ 1 ≤ num ∧ num ≤ 9999) ∧ ∃ g8,v8 = .pointer (some ⟨g8,0,none⟩) ∧ Sb w' g8 #[.int .i64 s.row,.int .i64 s.col,.bool s.wrap] 40 ∧ wa.heap.size ≤ g8 ∧ Bw wa w')
 case first =>
  have HY:=Lib.hid (show ∀ w',Bw wa w' → (w'.cell? ⟨w.heap.size,3,none⟩ = some (.int .i64 s.row) ∧ w'.cell? ⟨w.heap.size,4,none⟩ = some (.int .i64 s.col) ∧ w'.cell? ⟨w.heap.size,5,none⟩ = some (.bool s.wrap) ∧ w'.cell? ⟨w.heap.size + 1,3,none⟩ = some (.slice A n c)) from fun w' hb => ⟨(HB0a.out.up hb).cell 3 rfl,(HB0a.out.up hb).cell 4 rfl,(HB0a.out.up hb).cell 5 rfl,(HBoa.out.up hb).cell 3 rfl⟩)
  go_region_held3 (fun w' => w'.cell? ⟨w.heap.size,3,none⟩ = some (.int .i64 s.row) ∧ w'.cell? ⟨w.heap.size,4,none⟩ = some (.int .i64 s.col) ∧ w'.cell? ⟨w.heap.size,5,none⟩ = some (.bool s.wrap) ∧ w'.cell? ⟨w.heap.size + 1,3,none⟩ = some (.slice A n c)) ((refine HY.out _ ?_;exact BWX)) ((first|(go_at_call 106;refine (rsor_0 A n c 1 xs _ (by exact HX.out.up BWX) hn hc).mono ?_;rintro ee wv ⟨⟨v,rfl,hv⟩,hbv⟩;have HV:=Lib.hid hv;have hbwv : Bw wa wv:=Bw.trans (show Bw wa _ from BWX) hbv;obtain ⟨L8,d8,rfl⟩:=hbv.isPlus;clear hv hbv)|fail))
  all_goals go_wp2
  all_goals go_meet
  all_goals
   case rel =>
    refine ⟨rfl,⟨_,rfl,or_bd HP.out (by omega) HV.out⟩,_,rfl,?_,?_,?_⟩
    ·first|(refine heap_at ?_;simp [plus_size];done)|(refine Sb.up (w:=wa.alloc _) (heap_at rfl) ?_;(repeat (first|with_reducible (first|assumption|exact Bw.refl _|refine Bw.alloc ?_ _|refine Bw.more ?_ _ _|refine Bw.drew ?_|refine Bw.drewN ?_ _)|((with_reducible refine Bw.set2 ?_ ?_ _);(focus exact SZX))|with_reducible refine Bw.trans ?_ (by assumption)));done)|fail
    ·first|omega|(simp only [plus_size];omega)|fail
    ·(repeat (first|with_reducible (first|assumption|exact Bw.refl _|refine Bw.alloc ?_ _|refine Bw.more ?_ _ _|refine Bw.drew ?_|refine Bw.drewN ?_ _)|((with_reducible refine Bw.set2 ?_ ?_ _);(focus exact SZX))|with_reducible refine Bw.trans ?_ (by assumption)))
 case rest =>
 obtain ⟨rfl,⟨num,rfl,hnum1,hnum2⟩,g8,rfl,h8,hg8,hbc⟩:=hcut
 have HB0c:=Lib.hid (HB0a.out.up hbc)
 have H8c:=Lib.hid h8
 have hg8c:=h8.lt
 clear x3 x4 x5 xo h8
 (have x6:=HB0c.out.cell 6 (v:=.int .i64 s.f) rfl;have x7:=HB0c.out.cell 7 (v:=.int .i64 s.g) rfl;have x8:=HB0c.out.cell 8 (v:=.int .i64 s.b) rfl)
 go_upto_region 3 with (go_at_call 105;refine (rblank_any s.f s.g s.b _).mono ?_;rintro ee wb ⟨rfl,hbb⟩;have hbb' : Bw wc wb:=Bw.trans (show Bw wc _ from BWX) hbb;clear hbb)
 generalize hw1 : wb.alloc _ = w1
 obtain ⟨h9,hb19,hz19⟩:=sb1 hw1
 have hbc1 : Bw wc w1:=Bw.trans hbb' hb19
 have hba1 : Bw wa w1:=Bw.trans hbc hbc1
 have hbw : Bw w w1:=Bw.trans hbwa hba1
 have HB0:=Lib.hid (HB0a.out.up hba1)
 have HBo:=Lib.hid (HBoa.out.up hba1)
 obtain ⟨old1,hold1,hosz⟩:=HB1a.out
 have HB1:=Lib.hid (hold1.up hba1)
 have HOsz:=Lib.hid hosz
 have H8:=Lib.hid (H8c.out.up hbc1)
 have H9:=Lib.hid h9
 obtain ⟨g9,hg9⟩ : ∃ g9,wb.heap.size = g9:=⟨_,rfl⟩
 have hzb:=hbb'.size
 rw [hg9] at h9
 have hz1 : w.heap.size + 2 < w1.heap.size:=by have:=hba1.size;omega
 have hz8 : w.heap.size + 2 < g8:=by omega
 have hz81 : g8 < w1.heap.size:=H8.out.lt
 have hz9 : w.heap.size + 2 < g9:=by omega
 have hz91 : g9 < w1.heap.size:=h9.lt
 have HOk1:=Lib.hid (HOk.out.up hbw)
 have HX1:=Lib.hid (HX.out.up hbw)
 have HNe0:=Lib.hid (show ∀ ad,s.A = some ad → ad.block ≠ w.heap.size from fun ad e => by have:=HAl.out ad e;omega)
 have HNe1:=Lib.hid (show ∀ ad,s.A = some ad → ad.block ≠ w.heap.size + 2 from fun ad e => by have:=HAl.out ad e;omega)
 have hne10 : w.heap.size + 2 ≠ w.heap.size:=by omega
 have xo1:=HBo.out.cell 1 (v:=.int .i64 f) rfl
 clear H9
 have H9:=Lib.hid h9
 clear hw1 h9 hb19 hz19 hold1 hosz HB0a HBoa HB1a HB0c H8c hbc hbc1 hba1 hbb' hbwa hg8c x6 x7 x8 hza' hg8 hzb HX
 rw [hg9]
 clear hg9
 rcases HQ.out with rfl|rfl|rfl|rfl|rfl
 ·go_upto_region 31 with (fail)
  go_wp2_with (first
   | ((with_reducible refine wpList_load_sc (s) (w.heap.size) (.tmp 2) rfl rfl ?_ ?_ ?_);(focus rfl);(focus (exact HB0.out)))
   | (go_at_call 108;refine (rslines_ok (s) _ _ (HOk1.out)).mono ?_;rintro ee w2 ⟨s',e1,e2,rfl,hOk',hAn,hb2⟩;have HB12:=Lib.hid ((HB1.out).up hb2);have hbm2:=hb2;have hzm2:=hb2.size;have HOk':=Lib.hid hOk';have HAn:=Lib.hid hAn;have HE:=Lib.hid (And.intro e1 e2);clear hOk' hAn hb2 e1 e2)
   | ((with_reducible refine wpList_store_sc (s') (w.heap.size + 2) (.tmp 4) (.tmp 119) rfl rfl ?_ ?_ ?_ ?_);(focus rfl);(focus rfl);(focus (exact ⟨_,HB12.out,HOsz.out⟩));intro w3 hS3 hg3;have HS3:=Lib.hid hS3;have HG3:=Lib.hid hg3;clear hS3 hg3)
   | fail)
  have hAnw : An w s.A s'.A:=HAn.out.more (by omega)
  have hne : ∀ ad,s'.A = some ad → ad.block ≠ w.heap.size + 2:=HAn.out.ne (fun ad e => by have:=HAl.out ad e;omega) (by omega)
  refine bodyPost_ret (results_sc2 rfl _ _ (w.heap.size + 2) (s') (by rfl) HS3.out) rfl ?_
  exact ⟨(s'),none,0,0,HE.out.1,HE.out.2,rfl,HOk'.out.far HG3.out (ne_some hne),hAnw,Ls.nil_ _ _,(fun ad e => by cases e),by omega,by omega,by omega,Bw.grown (Bw.trans hbw hbm2) HG3.out (fun k hk => by cases hk;omega)⟩
 ·go_upto_region 33 with (fail)
  go_wp2_with (first
   | ((with_reducible refine wpList_load_sc (s) (w.heap.size) (.tmp 2) rfl rfl ?_ ?_ ?_);(focus rfl);(focus (exact HB0.out)))
   | (go_at_call 108;refine (rslines_ok (s) _ _ (HOk1.out)).mono ?_;rintro ee w2 ⟨s',e1,e2,rfl,hOk',hAn,hb2⟩;have HB12:=Lib.hid ((HB1.out).up hb2);have hbm2:=hb2;have hzm2:=hb2.size;have HOk':=Lib.hid hOk';have HAn:=Lib.hid hAn;have HE:=Lib.hid (And.intro e1 e2);clear hOk' hAn hb2 e1 e2)
   | ((with_reducible refine wpList_store_sc (s') (w.heap.size + 2) (.tmp 4) (.tmp 124) rfl rfl ?_ ?_ ?_ ?_);(focus rfl);(focus rfl);(focus (exact ⟨_,HB12.out,HOsz.out⟩));intro w3 hS3 hg3;have HS3:=Lib.hid hS3;have HG3:=Lib.hid hg3;clear hS3 hg3)
   | fail)
  have hAnw : An w s.A s'.A:=HAn.out.more (by omega)
  have hne : ∀ ad,s'.A = some ad → ad.block ≠ w.heap.size + 2:=HAn.out.ne (fun ad e => by have:=HAl.out ad e;omega) (by omega)
  refine bodyPost_ret (results_sc2 rfl _ _ (w.heap.size + 2) (s') (by rfl) HS3.out) rfl ?_
  exact ⟨(s'),none,0,0,HE.out.1,HE.out.2,rfl,HOk'.out.far HG3.out (ne_some hne),hAnw,Ls.nil_ _ _,(fun ad e => by cases e),by omega,by omega,by omega,Bw.grown (Bw.trans hbw hbm2) HG3.out (fun k hk => by cases hk;omega)⟩
 ·go_upto_region 41 with (fail)
  go_wp2_with (first
   | ((with_reducible refine wpList_load_sc (s) (w.heap.size) (.tmp 2) rfl rfl ?_ ?_ ?_);(focus rfl);(focus (exact HB0.out)))
   | (go_at_call 110;refine (rsup_ok s num _ HOk1.out (by omega) (by omega)).mono ?_;rintro ee w2 ⟨s',L,m,cap,e1,e2,rfl,hOk',hAn,hLs,hLn,hm,hmc,hcap,hb2⟩;have HB12:=Lib.hid ((HB1.out).up hb2);have hbm2:=hb2;have hzm2:=hb2.size;have HOk':=Lib.hid hOk';have HAn:=Lib.hid hAn;have HLs:=Lib.hid hLs;have HLn:=Lib.hid hLn;have HE:=Lib.hid (And.intro e1 e2);clear hOk' hAn hLs hLn hb2 e1 e2)
   | ((with_reducible refine wpList_store_sc (s') (w.heap.size + 2) (.tmp 4) (.tmp 170) rfl rfl ?_ ?_ ?_ ?_);(focus rfl);(focus rfl);(focus (exact ⟨_,HB12.out,HOsz.out⟩));intro w3 hS3 hg3;have HS3:=Lib.hid hS3;have HG3:=Lib.hid hg3;clear hS3 hg3)
   | fail)
  refine bodyPost_ret (results_sc2 rfl _ _ (w.heap.size + 2) (s') (by rfl) HS3.out) rfl ?_
  have hAnw : An w s.A s'.A:=HAn.out.more (by omega)
  have hne : ∀ ad,s'.A = some ad → ad.block ≠ w.heap.size + 2:=HAn.out.ne (fun ad e => by have:=HAl.out ad e;omega) (by omega)
  have hnL : ∀ ad,L = some ad → w1.heap.size ≤ ad.block:=fun ad e => by have:=HLn.out ad e;first|omega|(simp at this;omega)
  exact ⟨s',L,m,cap,HE.out.1,HE.out.2,rfl,HOk'.out.far HG3.out (ne_some hne),hAnw,HLs.out.far HG3.out (ne_some (fun ad e => by have:=hnL ad e;omega)),fun ad e => by have:=hnL ad e;omega,hm,hmc,hcap,Bw.grown (Bw.trans hbw hbm2) HG3.out (fun k hk => by cases hk;omega)⟩
 ·go_upto_region 49 with (fail)
  go_wp2_with (first
   | ((with_reducible refine wpList_load_sc (s) (w.heap.size) (.tmp 2) rfl rfl ?_ ?_ ?_);(focus rfl);(focus (exact HB0.out)))
   | (go_at_call 82;refine (rsescape_ok s _ _ HOk1.out).mono ?_;rintro ee w2 ⟨s',L,m,cap,e1,e2,rfl,hOk',hAn,hLs,hLn,hm,hmc,hcap,hb2⟩;have HB12:=Lib.hid ((HB1.out).up hb2);have hbm2:=hb2;have hzm2:=hb2.size;have HOk':=Lib.hid hOk';have HAn:=Lib.hid hAn;have HLs:=Lib.hid hLs;have HLn:=Lib.hid hLn;have HE:=Lib.hid (And.intro e1 e2);clear hOk' hAn hLs hLn hb2 e1 e2)
   | ((with_reducible refine wpList_store_sc (s') (w.heap.size + 2) (.tmp 4) (.tmp 208) rfl rfl ?_ ?_ ?_ ?_);(focus rfl);(focus rfl);(focus (exact ⟨_,HB12.out,HOsz.out⟩));intro w3 hS3 hg3;have HS3:=Lib.hid hS3;have HG3:=Lib.hid hg3;clear hS3 hg3)
   | fail)
  refine bodyPost_ret (results_sc2 rfl _ _ (w.heap.size + 2) (s') (by rfl) HS3.out) rfl ?_
  have hAnw : An w s.A s'.A:=HAn.out.more (by omega)
  have hne : ∀ ad,s'.A = some ad → ad.block ≠ w.heap.size + 2:=HAn.out.ne (fun ad e => by have:=HAl.out ad e;omega) (by omega)
  have hnL : ∀ ad,L = some ad → w1.heap.size ≤ ad.block:=fun ad e => by have:=HLn.out ad e;first|omega|(simp at this;omega)
  exact ⟨s',L,m,cap,HE.out.1,HE.out.2,rfl,HOk'.out.far HG3.out (ne_some hne),hAnw,HLs.out.far HG3.out (ne_some (fun ad e => by have:=hnL ad e;omega)),fun ad e => by have:=hnL ad e;omega,hm,hmc,hcap,Bw.grown (Bw.trans hbw hbm2) HG3.out (fun k hk => by cases hk;omega)⟩
 ·go_upto_region 51 with (fail)
  go_wp2_with (first
   | ((with_reducible refine wpList_load_sc (s) (w.heap.size) (.tmp 2) rfl rfl ?_ ?_ ?_);(focus rfl);(focus (exact HB0.out)))
   | (go_at_call 82;refine (rsescape_ok s _ _ HOk1.out).mono ?_;rintro ee w2 ⟨s',L,m,cap,e1,e2,rfl,hOk',hAn,hLs,hLn,hm,hmc,hcap,hb2⟩;have HB12:=Lib.hid ((HB1.out).up hb2);have hbm2:=hb2;have hzm2:=hb2.size;have HOk':=Lib.hid hOk';have HAn:=Lib.hid hAn;have HLs:=Lib.hid hLs;have HLn:=Lib.hid hLn;have HE:=Lib.hid (And.intro e1 e2);clear hOk' hAn hLs hLn hb2 e1 e2)
   | ((with_reducible refine wpList_store_sc (s') (w.heap.size + 2) (.tmp 4) (.tmp 214) rfl rfl ?_ ?_ ?_ ?_);(focus rfl);(focus rfl);(focus (exact ⟨_,HB12.out,HOsz.out⟩));intro w3 hS3 hg3;have HS3:=Lib.hid hS3;have HG3:=Lib.hid hg3;clear hS3 hg3)
   | fail)
  refine bodyPost_ret (results_sc2 rfl _ _ (w.heap.size + 2) (s') (by rfl) HS3.out) rfl ?_
  have hAnw : An w s.A s'.A:=HAn.out.more (by omega)
  have hne : ∀ ad,s'.A = some ad → ad.block ≠ w.heap.size + 2:=HAn.out.ne (fun ad e => by have:=HAl.out ad e;omega) (by omega)
  have hnL : ∀ ad,L = some ad → w1.heap.size ≤ ad.block:=fun ad e => by have:=HLn.out ad e;first|omega|(simp at this;omega)
  exact ⟨s',L,m,cap,HE.out.1,HE.out.2,rfl,HOk'.out.far HG3.out (ne_some hne),hAnw,HLs.out.far HG3.out (ne_some (fun ad e => by have:=hnL ad e;omega)),fun ad e => by have:=hnL ad e;omega,hm,hmc,hcap,Bw.grown (Bw.trans hbw hbm2) HG3.out (fun k hk => by cases hk;omega)⟩
end Go.Proofs.YteebdjmjeahccaaGreatDoor
