/- Parts of the proof, one after the other. -/
import Derived.Test.YteebdjmjeahccaaGreatDoorC18
set_option linter.unusedSimpArgs false
set_option linter.unusedVariables false
set_option maxRecDepth 100000
set_option maxHeartbeats 16000000
namespace Go.Proofs.YteebdjmjeahccaaGreatDoor
open Go.RowKit
theorem rsapply_Gb (s : Scr) (kd f pv : Int) (A : Option Addr) (n c : Nat) (xs : List Int) (w : World) (hs : s.Ok w) (hx : Rd (.int .i64) w A n xs) (hn : n ≤ c) (hc : c ≤ 9223372036854775807) (hn1 : n ≤ 1000) (hq : (kd = 4 ∧ propN n xs = false) ∨ (kd = 4 ∧ pv = 0 ∧ propN n xs = true) ∨ (kd = 4 ∧ pv = 63 ∧ propN n xs = true ∧ (f == 104) = false ∧ (f == 108) = false) ∨ (kd = 4 ∧ propN n xs = true ∧ (pv == 0) = false ∧ (pv == 63) = false) ∨ ((kd == 1) = false ∧ (kd == 2) = false ∧ (kd == 3) = false ∧ (kd == 4) = false)) : Calls Tryz.prog 50 #[.agg s.vals.toArray,.agg #[.int .i64 kd,.int .i64 f,.int .i64 pv,.slice A n c]] w (ScL w s):=by
 have HOk:=Lib.hid hs
 have HAl:=Lib.hid hs.1.lt
 have HX:=Lib.hid hx
 clear hs hx
 have HQ:=Lib.hid hq
 clear hq
 go_enter Tryz.func50,Tryz.ntmps50
 go_upto_region 1 with (fail)
 generalize hwa : ((w.alloc (.cells s.vals.toArray 46)).alloc _).alloc _ = wa
 obtain ⟨hb0,hb1,hb2,hbwa,hza⟩:=sb3 hwa
 have HB0a:=Lib.hid hb0
 have HBoa:=Lib.hid hb1
 have HB1a:=Lib.hid (show ∃ old,Sb wa (w.heap.size + 2) old 46 ∧ old.size = 19 from ⟨_,hb2,rfl⟩)
 have hza' : w.heap.size + 2 < wa.heap.size:=by omega
 clear hwa hb0 hb1 hb2 hza
 go_upto_region 3 with (first
  | ((with_reducible refine wpList_load_sc (s) (w.heap.size) (.tmp 2) rfl rfl ?_ ?_ ?_);(focus rfl);(focus (exact HB0a.out)))
  | (go_at_call 68;refine (rsvalid_ok s _ (HOk.out.up hbwa)).mono ?_;rintro ee w1 ⟨rfl,hba1⟩;have hba1':=Lib.hid hba1;clear hba1)
  | fail)
 have hba1:=hba1'.out
 have hbw : Bw w w1:=Bw.trans hbwa hba1
 have HB0:=Lib.hid (HB0a.out.up hba1)
 have HBo:=Lib.hid (HBoa.out.up hba1)
 obtain ⟨old1,hold1,hosz⟩:=HB1a.out
 have HB1:=Lib.hid (hold1.up hba1)
 have HOsz:=Lib.hid hosz
 have hz1 : w.heap.size + 2 < w1.heap.size:=by have:=hba1.size;omega
 have HOk1:=Lib.hid (HOk.out.up hbw)
 have HX1:=Lib.hid (HX.out.up hbw)
 have HNe0:=Lib.hid (show ∀ ad,s.A = some ad → ad.block ≠ w.heap.size from fun ad e => by have:=HAl.out ad e;omega)
 have HNe1:=Lib.hid (show ∀ ad,s.A = some ad → ad.block ≠ w.heap.size + 2 from fun ad e => by have:=HAl.out ad e;omega)
 have hne10 : w.heap.size + 2 ≠ w.heap.size:=by omega
 have y0:=HBo.out.cell 0 (v:=.int .i64 kd) rfl
 have y1:=HBo.out.cell 1 (v:=.int .i64 f) rfl
 have y2:=HBo.out.cell 2 (v:=.int .i64 pv) rfl
 have y3:=HBo.out.cell 3 (v:=.slice A n c) rfl
 clear hold1 hosz HB0a HBoa HB1a hba1 hba1' hbwa hza' HX
 rcases HQ.out with ⟨rfl,hr⟩|⟨rfl,rfl,hr⟩|⟨rfl,rfl,hr,h1,h2⟩|⟨rfl,hr,h1,h2⟩|⟨h1,h2,h3,h4⟩
 ·have HR:=Lib.hid hr
  clear hr
  go_upto_region 10 with ((go_at_call 83;refine (rsproper_b A n c xs _ (by exact HX1.out.up BWX) hn hc).mono ?_;rintro ee wp ⟨rfl,hbp⟩;rw [HR.out];have z0:=(HBo.out.up hbp).cell 0 (v:=.int .i64 4) rfl;have z1:=(HBo.out.up hbp).cell 1 (v:=.int .i64 f) rfl;have z2:=(HBo.out.up hbp).cell 2 (v:=.int .i64 pv) rfl;have z3:=(HBo.out.up hbp).cell 3 (v:=.slice A n c) rfl;have hbp':=Lib.hid hbp;clear hbp y0 y1 y2 y3))
  have hbp:=hbp'.out
  have HB0q:=Lib.hid (HB0.out.up hbp)
  have HBoq:=Lib.hid (HBo.out.up hbp)
  have HB1q:=Lib.hid (HB1.out.up hbp)
  have hbwq : Bw w wp:=Bw.trans hbw hbp
  have hzq : w.heap.size + 2 < wp.heap.size:=by have:=hbp.size;omega
  have HOkq:=Lib.hid (HOk1.out.up hbp)
  have HXq:=Lib.hid (HX1.out.up hbp)
  clear z0 z1 z2 z3 HB0 HBo HB1 hz1 HOk1 HX1 hbp hbw hbp'
  have HB0:=HB0q
  have HBo:=HBoq
  have HB1:=HB1q
  have hbw:=hbwq
  have hz1:=hzq
  have HOk1:=HOkq
  have HX1:=HXq
  have y0:=HBo.out.cell 0 (v:=.int .i64 4) rfl
  have y1:=HBo.out.cell 1 (v:=.int .i64 f) rfl
  have y2:=HBo.out.cell 2 (v:=.int .i64 pv) rfl
  have y3:=HBo.out.cell 3 (v:=.slice A n c) rfl
  clear HB0q HBoq HB1q hbwq hzq HOkq HXq
  go_wp2_with (first
   | ((with_reducible refine wpList_load_sc (s) (w.heap.size) (.tmp 2) rfl rfl ?_ ?_ ?_);(focus rfl);(focus (exact HB0.out)))
   | ((with_reducible refine wpList_store_sc (s) (w.heap.size + 2) (.tmp 4) (.tmp 55) rfl rfl ?_ ?_ ?_ ?_);(focus rfl);(focus rfl);(focus (exact ⟨_,HB1.out,HOsz.out⟩));intro w3 hS3 hg3;have HS3:=Lib.hid hS3;have HG3:=Lib.hid hg3;clear hS3 hg3)
   | fail)
  refine bodyPost_ret (results_sc2 rfl _ _ (w.heap.size + 2) (s) (by rfl) HS3.out) rfl ?_
  exact ⟨(s),none,0,0,rfl,rfl,rfl,HOk1.out.far HG3.out (ne_some HNe1.out),.inl rfl,Ls.nil_ _ _,(fun ad e => by cases e),by omega,by omega,by omega,Bw.grown (hbw) HG3.out (fun k hk => by cases hk;omega)⟩
 ·have HR:=Lib.hid hr
  clear hr
  go_upto_region 12 with ((go_at_call 83;refine (rsproper_b A n c xs _ (by exact HX1.out.up BWX) hn hc).mono ?_;rintro ee wp ⟨rfl,hbp⟩;rw [HR.out];have z0:=(HBo.out.up hbp).cell 0 (v:=.int .i64 4) rfl;have z1:=(HBo.out.up hbp).cell 1 (v:=.int .i64 f) rfl;have z2:=(HBo.out.up hbp).cell 2 (v:=.int .i64 0) rfl;have z3:=(HBo.out.up hbp).cell 3 (v:=.slice A n c) rfl;have hbp':=Lib.hid hbp;clear hbp y0 y1 y2 y3))
  have hbp:=hbp'.out
  have HB0q:=Lib.hid (HB0.out.up hbp)
  have HBoq:=Lib.hid (HBo.out.up hbp)
  have HB1q:=Lib.hid (HB1.out.up hbp)
  have hbwq : Bw w wp:=Bw.trans hbw hbp
  have hzq : w.heap.size + 2 < wp.heap.size:=by have:=hbp.size;omega
  have HOkq:=Lib.hid (HOk1.out.up hbp)
  have HXq:=Lib.hid (HX1.out.up hbp)
  clear z0 z1 z2 z3 HB0 HBo HB1 hz1 HOk1 HX1 hbp hbw hbp'
  have HB0:=HB0q
  have HBo:=HBoq
  have HB1:=HB1q
  have hbw:=hbwq
  have hz1:=hzq
  have HOk1:=HOkq
  have HX1:=HXq
  have y0:=HBo.out.cell 0 (v:=.int .i64 4) rfl
  have y1:=HBo.out.cell 1 (v:=.int .i64 f) rfl
  have y2:=HBo.out.cell 2 (v:=.int .i64 0) rfl
  have y3:=HBo.out.cell 3 (v:=.slice A n c) rfl
  clear HB0q HBoq HB1q hbwq hzq HOkq HXq
  go_wp2_with (first
   | ((with_reducible refine wpList_load_sc (s) (w.heap.size) (.tmp 2) rfl rfl ?_ ?_ ?_);(focus rfl);(focus (exact HB0.out)))
   | (go_at_call 84;refine (rscsi_ok s 4 f 0 A n c xs _ HOk1.out HX1.out hn hc (propN_iff HR.out).1 hn1 (propN_iff HR.out).2).mono ?_;rintro ee w2 ⟨s',L,m,cap,e1,e2,rfl,hOk',hAn,hLs,hLn,hm,hmc,hcap,hb2⟩;have HB12:=Lib.hid ((HB1.out).up hb2);have hbm2:=hb2;have hzm2:=hb2.size;have HOk':=Lib.hid hOk';have HAn:=Lib.hid hAn;have HLs:=Lib.hid hLs;have HLn:=Lib.hid hLn;have HE:=Lib.hid (And.intro e1 e2);clear hOk' hAn hLs hLn hb2 e1 e2)
   | ((with_reducible refine wpList_store_sc (s') (w.heap.size + 2) (.tmp 4) (.tmp 68) rfl rfl ?_ ?_ ?_ ?_);(focus rfl);(focus rfl);(focus (exact ⟨_,HB12.out,HOsz.out⟩));intro w3 hS3 hg3;have HS3:=Lib.hid hS3;have HG3:=Lib.hid hg3;clear hS3 hg3)
   | fail)
  refine bodyPost_ret (results_sc2 rfl _ _ (w.heap.size + 2) (s') (by rfl) HS3.out) rfl ?_
  have hAnw : An w s.A s'.A:=HAn.out.more (by omega)
  have hne : ∀ ad,s'.A = some ad → ad.block ≠ w.heap.size + 2:=HAn.out.ne (fun ad e => by have:=HAl.out ad e;omega) (by omega)
  have hnL : ∀ ad,L = some ad → wp.heap.size ≤ ad.block:=fun ad e => by have:=HLn.out ad e;first|omega|(simp at this;omega)
  exact ⟨s',L,m,cap,HE.out.1,HE.out.2,rfl,HOk'.out.far HG3.out (ne_some hne),hAnw,HLs.out.far HG3.out (ne_some (fun ad e => by have:=hnL ad e;omega)),fun ad e => by have:=hnL ad e;omega,hm,hmc,hcap,Bw.grown (Bw.trans hbw hbm2) HG3.out (fun k hk => by cases hk;omega)⟩
 ·have HR:=Lib.hid hr
  clear hr
  go_upto_region 15 with ((go_at_call 83;refine (rsproper_b A n c xs _ (by exact HX1.out.up BWX) hn hc).mono ?_;rintro ee wp ⟨rfl,hbp⟩;rw [HR.out];have z0:=(HBo.out.up hbp).cell 0 (v:=.int .i64 4) rfl;have z1:=(HBo.out.up hbp).cell 1 (v:=.int .i64 f) rfl;have z2:=(HBo.out.up hbp).cell 2 (v:=.int .i64 63) rfl;have z3:=(HBo.out.up hbp).cell 3 (v:=.slice A n c) rfl;have hbp':=Lib.hid hbp;clear hbp y0 y1 y2 y3))
  have hbp:=hbp'.out
  have HB0q:=Lib.hid (HB0.out.up hbp)
  have HBoq:=Lib.hid (HBo.out.up hbp)
  have HB1q:=Lib.hid (HB1.out.up hbp)
  have hbwq : Bw w wp:=Bw.trans hbw hbp
  have hzq : w.heap.size + 2 < wp.heap.size:=by have:=hbp.size;omega
  have HOkq:=Lib.hid (HOk1.out.up hbp)
  have HXq:=Lib.hid (HX1.out.up hbp)
  clear z0 z1 z2 z3 HB0 HBo HB1 hz1 HOk1 HX1 hbp hbw hbp'
  have HB0:=HB0q
  have HBo:=HBoq
  have HB1:=HB1q
  have hbw:=hbwq
  have hz1:=hzq
  have HOk1:=HOkq
  have HX1:=HXq
  have y0:=HBo.out.cell 0 (v:=.int .i64 4) rfl
  have y1:=HBo.out.cell 1 (v:=.int .i64 f) rfl
  have y2:=HBo.out.cell 2 (v:=.int .i64 63) rfl
  have y3:=HBo.out.cell 3 (v:=.slice A n c) rfl
  clear HB0q HBoq HB1q hbwq hzq HOkq HXq
  go_wp2_with (first
   | ((with_reducible refine wpList_load_sc (s) (w.heap.size) (.tmp 2) rfl rfl ?_ ?_ ?_);(focus rfl);(focus (exact HB0.out)))
   | ((with_reducible refine wpList_store_sc (s) (w.heap.size + 2) (.tmp 4) (.tmp 96) rfl rfl ?_ ?_ ?_ ?_);(focus rfl);(focus rfl);(focus (exact ⟨_,HB1.out,HOsz.out⟩));intro w3 hS3 hg3;have HS3:=Lib.hid hS3;have HG3:=Lib.hid hg3;clear hS3 hg3)
   | fail)
  refine bodyPost_ret (results_sc2 rfl _ _ (w.heap.size + 2) (s) (by rfl) HS3.out) rfl ?_
  exact ⟨(s),none,0,0,rfl,rfl,rfl,HOk1.out.far HG3.out (ne_some HNe1.out),.inl rfl,Ls.nil_ _ _,(fun ad e => by cases e),by omega,by omega,by omega,Bw.grown (hbw) HG3.out (fun k hk => by cases hk;omega)⟩
 ·have HR:=Lib.hid hr
  clear hr
  go_upto_region 15 with ((go_at_call 83;refine (rsproper_b A n c xs _ (by exact HX1.out.up BWX) hn hc).mono ?_;rintro ee wp ⟨rfl,hbp⟩;rw [HR.out];have z0:=(HBo.out.up hbp).cell 0 (v:=.int .i64 4) rfl;have z1:=(HBo.out.up hbp).cell 1 (v:=.int .i64 f) rfl;have z2:=(HBo.out.up hbp).cell 2 (v:=.int .i64 pv) rfl;have z3:=(HBo.out.up hbp).cell 3 (v:=.slice A n c) rfl;have hbp':=Lib.hid hbp;clear hbp y0 y1 y2 y3))
  have hbp:=hbp'.out
  have HB0q:=Lib.hid (HB0.out.up hbp)
  have HBoq:=Lib.hid (HBo.out.up hbp)
  have HB1q:=Lib.hid (HB1.out.up hbp)
  have hbwq : Bw w wp:=Bw.trans hbw hbp
  have hzq : w.heap.size + 2 < wp.heap.size:=by have:=hbp.size;omega
  have HOkq:=Lib.hid (HOk1.out.up hbp)
  have HXq:=Lib.hid (HX1.out.up hbp)
  clear z0 z1 z2 z3 HB0 HBo HB1 hz1 HOk1 HX1 hbp hbw hbp'
  have HB0:=HB0q
  have HBo:=HBoq
  have HB1:=HB1q
  have hbw:=hbwq
  have hz1:=hzq
  have HOk1:=HOkq
  have HX1:=HXq
  have y0:=HBo.out.cell 0 (v:=.int .i64 4) rfl
  have y1:=HBo.out.cell 1 (v:=.int .i64 f) rfl
  have y2:=HBo.out.cell 2 (v:=.int .i64 pv) rfl
  have y3:=HBo.out.cell 3 (v:=.slice A n c) rfl
  clear HB0q HBoq HB1q hbwq hzq HOkq HXq
  go_wp2_with (first
   | ((with_reducible refine wpList_load_sc (s) (w.heap.size) (.tmp 2) rfl rfl ?_ ?_ ?_);(focus rfl);(focus (exact HB0.out)))
   | ((with_reducible refine wpList_store_sc (s) (w.heap.size + 2) (.tmp 4) (.tmp 96) rfl rfl ?_ ?_ ?_ ?_);(focus rfl);(focus rfl);(focus (exact ⟨_,HB1.out,HOsz.out⟩));intro w3 hS3 hg3;have HS3:=Lib.hid hS3;have HG3:=Lib.hid hg3;clear hS3 hg3)
   | fail)
  refine bodyPost_ret (results_sc2 rfl _ _ (w.heap.size + 2) (s) (by rfl) HS3.out) rfl ?_
  exact ⟨(s),none,0,0,rfl,rfl,rfl,HOk1.out.far HG3.out (ne_some HNe1.out),.inl rfl,Ls.nil_ _ _,(fun ad e => by cases e),by omega,by omega,by omega,Bw.grown (hbw) HG3.out (fun k hk => by cases hk;omega)⟩
 ·go_upto_region 15 with (fail)
  go_wp2_with (first
   | ((with_reducible refine wpList_load_sc (s) (w.heap.size) (.tmp 2) rfl rfl ?_ ?_ ?_);(focus rfl);(focus (exact HB0.out)))
   | ((with_reducible refine wpList_store_sc (s) (w.heap.size + 2) (.tmp 4) (.tmp 96) rfl rfl ?_ ?_ ?_ ?_);(focus rfl);(focus rfl);(focus (exact ⟨_,HB1.out,HOsz.out⟩));intro w3 hS3 hg3;have HS3:=Lib.hid hS3;have HG3:=Lib.hid hg3;clear hS3 hg3)
   | fail)
  refine bodyPost_ret (results_sc2 rfl _ _ (w.heap.size + 2) (s) (by rfl) HS3.out) rfl ?_
  exact ⟨(s),none,0,0,rfl,rfl,rfl,HOk1.out.far HG3.out (ne_some HNe1.out),.inl rfl,Ls.nil_ _ _,(fun ad e => by cases e),by omega,by omega,by omega,Bw.grown (hbw) HG3.out (fun k hk => by cases hk;omega)⟩
theorem rsapply_Gc (s : Scr) (kd f pv : Int) (A : Option Addr) (n c : Nat) (xs : List Int) (w : World) (hs : s.Ok w) (hx : Rd (.int .i64) w A n xs) (hn : n ≤ c) (hc : c ≤ 9223372036854775807) (hn1 : n ≤ 1000) (hq : (kd = 4 ∧ f = 104 ∧ pv = 63 ∧ propN n xs = true) ∨ (kd = 4 ∧ f = 108 ∧ pv = 63 ∧ propN n xs = true)) : Calls Tryz.prog 50 #[.agg s.vals.toArray,.agg #[.int .i64 kd,.int .i64 f,.int .i64 pv,.slice A n c]] w (ScL w s):=by
 have HOk:=Lib.hid hs
 have HAl:=Lib.hid hs.1.lt
 have HX:=Lib.hid hx
 clear hs hx
 have HQ:=Lib.hid hq
 clear hq
 go_enter Tryz.func50,Tryz.ntmps50
 go_upto_region 1 with (fail)
 generalize hwa : ((w.alloc (.cells s.vals.toArray 46)).alloc _).alloc _ = wa
 obtain ⟨hb0,hb1,hb2,hbwa,hza⟩:=sb3 hwa
 have HB0a:=Lib.hid hb0
 have HBoa:=Lib.hid hb1
 have HB1a:=Lib.hid (show ∃ old,Sb wa (w.heap.size + 2) old 46 ∧ old.size = 19 from ⟨_,hb2,rfl⟩)
 have hza' : w.heap.size + 2 < wa.heap.size:=by omega
 clear hwa hb0 hb1 hb2 hza
 go_upto_region 3 with (first
  | ((with_reducible refine wpList_load_sc (s) (w.heap.size) (.tmp 2) rfl rfl ?_ ?_ ?_);(focus rfl);(focus (exact HB0a.out)))
  | (go_at_call 68;refine (rsvalid_ok s _ (HOk.out.up hbwa)).mono ?_;rintro ee w1 ⟨rfl,hba1⟩;have hba1':=Lib.hid hba1;clear hba1)
  | fail)
 have hba1:=hba1'.out
 have hbw : Bw w w1:=Bw.trans hbwa hba1
 have HB0:=Lib.hid (HB0a.out.up hba1)
 have HBo:=Lib.hid (HBoa.out.up hba1)
 obtain ⟨old1,hold1,hosz⟩:=HB1a.out
 have HB1:=Lib.hid (hold1.up hba1)
 have HOsz:=Lib.hid hosz
 have hz1 : w.heap.size + 2 < w1.heap.size:=by have:=hba1.size;omega
 have HOk1:=Lib.hid (HOk.out.up hbw)
 have HX1:=Lib.hid (HX.out.up hbw)
 have HNe0:=Lib.hid (show ∀ ad,s.A = some ad → ad.block ≠ w.heap.size from fun ad e => by have:=HAl.out ad e;omega)
 have HNe1:=Lib.hid (show ∀ ad,s.A = some ad → ad.block ≠ w.heap.size + 2 from fun ad e => by have:=HAl.out ad e;omega)
 have hne10 : w.heap.size + 2 ≠ w.heap.size:=by omega
 have y0:=HBo.out.cell 0 (v:=.int .i64 kd) rfl
 have y1:=HBo.out.cell 1 (v:=.int .i64 f) rfl
 have y2:=HBo.out.cell 2 (v:=.int .i64 pv) rfl
 have y3:=HBo.out.cell 3 (v:=.slice A n c) rfl
 clear hold1 hosz HB0a HBoa HB1a hba1 hba1' hbwa hza' HX
 rcases HQ.out with ⟨rfl,rfl,rfl,hr⟩|⟨rfl,rfl,rfl,hr⟩
 ·have HR:=Lib.hid hr
  clear hr
  go_upto_region 14 with ((go_at_call 83;refine (rsproper_b A n c xs _ (by exact HX1.out.up BWX) hn hc).mono ?_;rintro ee wp ⟨rfl,hbp⟩;rw [HR.out];have z0:=(HBo.out.up hbp).cell 0 (v:=.int .i64 4) rfl;have z1:=(HBo.out.up hbp).cell 1 (v:=.int .i64 104) rfl;have z2:=(HBo.out.up hbp).cell 2 (v:=.int .i64 63) rfl;have z3:=(HBo.out.up hbp).cell 3 (v:=.slice A n c) rfl;have hbp':=Lib.hid hbp;clear hbp y0 y1 y2 y3))
  have hbp:=hbp'.out
  have HB0q:=Lib.hid (HB0.out.up hbp)
  have HBoq:=Lib.hid (HBo.out.up hbp)
  have HB1q:=Lib.hid (HB1.out.up hbp)
  have hbwq : Bw w wp:=Bw.trans hbw hbp
  have hzq : w.heap.size + 2 < wp.heap.size:=by have:=hbp.size;omega
  have HOkq:=Lib.hid (HOk1.out.up hbp)
  have HXq:=Lib.hid (HX1.out.up hbp)
  clear z0 z1 z2 z3 HB0 HBo HB1 hz1 HOk1 HX1 hbp hbw hbp'
  have HB0:=HB0q
  have HBo:=HBoq
  have HB1:=HB1q
  have hbw:=hbwq
  have hz1:=hzq
  have HOk1:=HOkq
  have HX1:=HXq
  have y0:=HBo.out.cell 0 (v:=.int .i64 4) rfl
  have y1:=HBo.out.cell 1 (v:=.int .i64 104) rfl
  have y2:=HBo.out.cell 2 (v:=.int .i64 63) rfl
  have y3:=HBo.out.cell 3 (v:=.slice A n c) rfl
  clear HB0q HBoq HB1q hbwq hzq HOkq HXq
  go_wp2_with (first
   | ((with_reducible refine wpList_load_sc (s) (w.heap.size) (.tmp 2) rfl rfl ?_ ?_ ?_);(focus rfl);(focus (exact HB0.out)))
   | (go_at_call 85;refine (rsmodes_ok (s) A n c xs true _ (HOk1.out) HX1.out hn hc).mono ?_;rintro ee w2 ⟨s',e1,e2,rfl,hOk',hAn,hb2⟩;have HB12:=Lib.hid ((HB1.out).up hb2);have hbm2:=hb2;have hzm2:=hb2.size;have HOk':=Lib.hid hOk';have HAn:=Lib.hid hAn;have HE:=Lib.hid (And.intro e1 e2);clear hOk' hAn hb2 e1 e2)
   | ((with_reducible refine wpList_store_sc (s') (w.heap.size + 2) (.tmp 4) (.tmp 95) rfl rfl ?_ ?_ ?_ ?_);(focus rfl);(focus rfl);(focus (exact ⟨_,HB12.out,HOsz.out⟩));intro w3 hS3 hg3;have HS3:=Lib.hid hS3;have HG3:=Lib.hid hg3;clear hS3 hg3)
   | fail)
  have hAnw : An w s.A s'.A:=HAn.out.more (by omega)
  have hne : ∀ ad,s'.A = some ad → ad.block ≠ w.heap.size + 2:=HAn.out.ne (fun ad e => by have:=HAl.out ad e;omega) (by omega)
  refine bodyPost_ret (results_sc2 rfl _ _ (w.heap.size + 2) (s') (by rfl) HS3.out) rfl ?_
  exact ⟨(s'),none,0,0,HE.out.1,HE.out.2,rfl,HOk'.out.far HG3.out (ne_some hne),hAnw,Ls.nil_ _ _,(fun ad e => by cases e),by omega,by omega,by omega,Bw.grown (Bw.trans hbw hbm2) HG3.out (fun k hk => by cases hk;omega)⟩
 ·have HR:=Lib.hid hr
  clear hr
  go_upto_region 14 with ((go_at_call 83;refine (rsproper_b A n c xs _ (by exact HX1.out.up BWX) hn hc).mono ?_;rintro ee wp ⟨rfl,hbp⟩;rw [HR.out];have z0:=(HBo.out.up hbp).cell 0 (v:=.int .i64 4) rfl;have z1:=(HBo.out.up hbp).cell 1 (v:=.int .i64 108) rfl;have z2:=(HBo.out.up hbp).cell 2 (v:=.int .i64 63) rfl;have z3:=(HBo.out.up hbp).cell 3 (v:=.slice A n c) rfl;have hbp':=Lib.hid hbp;clear hbp y0 y1 y2 y3))
  have hbp:=hbp'.out
  have HB0q:=Lib.hid (HB0.out.up hbp)
  have HBoq:=Lib.hid (HBo.out.up hbp)
  have HB1q:=Lib.hid (HB1.out.up hbp)
  have hbwq : Bw w wp:=Bw.trans hbw hbp
  have hzq : w.heap.size + 2 < wp.heap.size:=by have:=hbp.size;omega
  have HOkq:=Lib.hid (HOk1.out.up hbp)
  have HXq:=Lib.hid (HX1.out.up hbp)
  clear z0 z1 z2 z3 HB0 HBo HB1 hz1 HOk1 HX1 hbp hbw hbp'
  have HB0:=HB0q
  have HBo:=HBoq
  have HB1:=HB1q
  have hbw:=hbwq
  have hz1:=hzq
  have HOk1:=HOkq
  have HX1:=HXq
  have y0:=HBo.out.cell 0 (v:=.int .i64 4) rfl
  have y1:=HBo.out.cell 1 (v:=.int .i64 108) rfl
  have y2:=HBo.out.cell 2 (v:=.int .i64 63) rfl
  have y3:=HBo.out.cell 3 (v:=.slice A n c) rfl
  clear HB0q HBoq HB1q hbwq hzq HOkq HXq
  go_wp2_with (first
   | ((with_reducible refine wpList_load_sc (s) (w.heap.size) (.tmp 2) rfl rfl ?_ ?_ ?_);(focus rfl);(focus (exact HB0.out)))
   | (go_at_call 85;refine (rsmodes_ok (s) A n c xs false _ (HOk1.out) HX1.out hn hc).mono ?_;rintro ee w2 ⟨s',e1,e2,rfl,hOk',hAn,hb2⟩;have HB12:=Lib.hid ((HB1.out).up hb2);have hbm2:=hb2;have hzm2:=hb2.size;have HOk':=Lib.hid hOk';have HAn:=Lib.hid hAn;have HE:=Lib.hid (And.intro e1 e2);clear hOk' hAn hb2 e1 e2)
   | ((with_reducible refine wpList_store_sc (s') (w.heap.size + 2) (.tmp 4) (.tmp 95) rfl rfl ?_ ?_ ?_ ?_);(focus rfl);(focus rfl);(focus (exact ⟨_,HB12.out,HOsz.out⟩));intro w3 hS3 hg3;have HS3:=Lib.hid hS3;have HG3:=Lib.hid hg3;clear hS3 hg3)
   | fail)
  have hAnw : An w s.A s'.A:=HAn.out.more (by omega)
  have hne : ∀ ad,s'.A = some ad → ad.block ≠ w.heap.size + 2:=HAn.out.ne (fun ad e => by have:=HAl.out ad e;omega) (by omega)
  refine bodyPost_ret (results_sc2 rfl _ _ (w.heap.size + 2) (s') (by rfl) HS3.out) rfl ?_
  exact ⟨(s'),none,0,0,HE.out.1,HE.out.2,rfl,HOk'.out.far HG3.out (ne_some hne),hAnw,Ls.nil_ _ _,(fun ad e => by cases e),by omega,by omega,by omega,Bw.grown (Bw.trans hbw hbm2) HG3.out (fun k hk => by cases hk;omega)⟩
theorem rsapply_ok (s : Scr) (kd f pv : Int) (A : Option Addr) (n c : Nat) (xs : List Int) (w : World) (hs : s.Ok w) (hx : Rd (.int .i64) w A n xs) (hn : n ≤ c) (hc : c ≤ 9223372036854775807) (hn1 : n ≤ 1000) : Calls Tryz.prog 50 #[.agg s.vals.toArray,.agg #[.int .i64 kd,.int .i64 f,.int .i64 pv,.slice A n c]] w (ScL w s):=by
 by_cases h1 : kd = 1
 ·subst h1
  cases hr : runeB f
  ·exact rsapply_Ga s 1 f pv A n c xs w hs hx hn hc hn1 (.inr (.inl ⟨rfl,hr⟩))
  ·exact rsapply_Ga s 1 f pv A n c xs w hs hx hn hc hn1 (.inl ⟨rfl,hr⟩)
 by_cases h2 : kd = 2
 ·subst h2
  exact rsapply_Ga s 2 f pv A n c xs w hs hx hn hc hn1 (.inr (.inr (.inl rfl)))
 by_cases h3 : kd = 3
 ·subst h3
  exact rsapply_Ga s 3 f pv A n c xs w hs hx hn hc hn1 (.inr (.inr (.inr rfl)))
 by_cases h4 : kd = 4
 ·subst h4
  cases hr : propN n xs
  ·exact rsapply_Gb s 4 f pv A n c xs w hs hx hn hc hn1 (.inl ⟨rfl,hr⟩)
  by_cases h0 : pv = 0
  ·subst h0
   exact rsapply_Gb s 4 f 0 A n c xs w hs hx hn hc hn1 (.inr (.inl ⟨rfl,rfl,hr⟩))
  by_cases h63 : pv = 63
  ·subst h63
   by_cases hh : f = 104
   ·subst hh
    exact rsapply_Gc s 4 104 63 A n c xs w hs hx hn hc hn1 (.inl ⟨rfl,rfl,rfl,hr⟩)
   by_cases hl : f = 108
   ·subst hl
    exact rsapply_Gc s 4 108 63 A n c xs w hs hx hn hc hn1 (.inr ⟨rfl,rfl,rfl,hr⟩)
   exact rsapply_Gb s 4 f 63 A n c xs w hs hx hn hc hn1 (.inr (.inr (.inl ⟨rfl,rfl,hr,(by simpa using hh),(by simpa using hl)⟩)))
  exact rsapply_Gb s 4 f pv A n c xs w hs hx hn hc hn1 (.inr (.inr (.inr (.inl ⟨rfl,hr,(by simpa using h0),(by simpa using h63)⟩))))
 exact rsapply_Gb s kd f pv A n c xs w hs hx hn hc hn1 (.inr (.inr (.inr (.inr ⟨(by simpa using h1),(by simpa using h2),(by simpa using h3),(by simpa using h4)⟩))))
end Go.Proofs.YteebdjmjeahccaaGreatDoor
