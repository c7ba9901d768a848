/- Parts of the proof, one after the other. -/
import Derived.Test.YtkflooljdopldaaGreatV15
set_option linter.unusedSimpArgs false
set_option linter.unusedVariables false
/- Screens: the reference's Apply: set, reset. -/
namespace Go.Proofs.YtkflooljdopldaaGreat
open Go.RowKit
set_option maxRecDepth 100000 in
set_option maxHeartbeats 8000000 in
theorem rsapply_set (s : Scr) (A : Option Addr) (n c : Nat) (xs : List Int) (w : World) (hs : s.Ok w) (hx : Rd (.int .i64) w A n xs) (hn : n ≤ c) (hc : c ≤ 9223372036854775807) (hn1 : n ≤ 1000) (hr : propN n xs = true) : Calls Tryz.prog 52 #[.agg s.vals.toArray,.agg #[.int .i64 4,.int .i64 104,.int .i64 63,.slice A n c]] w (ScL w s):=by
 have HOk:=Lib.hid hs
 have HAl:=Lib.hid hs.1.lt
 have HX:=Lib.hid hx
 clear hs hx
 have HR:=Lib.hid hr
 clear hr
 go_enter Tryz.func52,Tryz.ntmps52
 go_upto_region 1 with (fail)
 generalize hwa : ((w.alloc (.cells s.vals.toArray 34)).alloc _).alloc _ = wa
 obtain ⟨hb0,hb1,hb2,hbwa,hza⟩:=sb3 hwa
 have HB0a:=Lib.hid hb0
 have HBoa:=Lib.hid hb1
 have HB1a:=Lib.hid (show ∃ old,Sb wa (w.heap.size + 2) old 34 ∧ old.size = 19 from ⟨_,hb2,rfl⟩)
 have hza' : w.heap.size + 2 < wa.heap.size:=by omega
 clear hwa hb0 hb1 hb2 hza
 go_upto_region 3 with (first
  | ((with_reducible refine wpList_load_sc (s) (w.heap.size) (.tmp 2) rfl rfl ?_ ?_ ?_);(focus rfl);(focus (exact HB0a.out)))
  | (go_at_call 39;refine (rsvalid_ok s _ (HOk.out.up hbwa)).mono ?_;rintro ee w1 ⟨rfl,hba1⟩;have hba1':=Lib.hid hba1;clear hba1)
  | fail)
 have hba1:=hba1'.out
 have hbw : Bw w w1:=Bw.trans hbwa hba1
 have HB0:=Lib.hid (HB0a.out.up hba1)
 have HBo:=Lib.hid (HBoa.out.up hba1)
 obtain ⟨old1,hold1,hosz⟩:=HB1a.out
 have HB1:=Lib.hid (hold1.up hba1)
 have HOsz:=Lib.hid hosz
 have hz1 : w.heap.size + 2 < w1.heap.size:=by have:=hba1.size;omega
 have HOk1:=Lib.hid (HOk.out.up hbw)
 have HX1:=Lib.hid (HX.out.up hbw)
 have HNe0:=Lib.hid (show ∀ ad,s.A = some ad → ad.block ≠ w.heap.size from fun ad e => by have:=HAl.out ad e;omega)
 have HNe1:=Lib.hid (show ∀ ad,s.A = some ad → ad.block ≠ w.heap.size + 2 from fun ad e => by have:=HAl.out ad e;omega)
 have hne10 : w.heap.size + 2 ≠ w.heap.size:=by omega
 have y0:=HBo.out.cell 0 (v:=.int .i64 4) rfl
 have y1:=HBo.out.cell 1 (v:=.int .i64 104) rfl
 have y2:=HBo.out.cell 2 (v:=.int .i64 63) rfl
 have y3:=HBo.out.cell 3 (v:=.slice A n c) rfl
 clear hold1 hosz HB0a HBoa HB1a hba1 hba1' hbwa hza' HX
 go_upto_region 14 with ((go_at_call 89;refine (rsproper_b A n c xs _ (by exact HX1.out.up BWX) hn hc).mono ?_;rintro ee wp ⟨rfl,hbp⟩;rw [HR.out];have z0:=(HBo.out.up hbp).cell 0 (v:=.int .i64 4) rfl;have z1:=(HBo.out.up hbp).cell 1 (v:=.int .i64 104) rfl;have z2:=(HBo.out.up hbp).cell 2 (v:=.int .i64 63) rfl;have z3:=(HBo.out.up hbp).cell 3 (v:=.slice A n c) rfl;have hbp':=Lib.hid hbp;clear hbp y0 y1 y2 y3))
 have hbp:=hbp'.out
 have HB0q:=Lib.hid (HB0.out.up hbp)
 have HBoq:=Lib.hid (HBo.out.up hbp)
 have HB1q:=Lib.hid (HB1.out.up hbp)
 have hbwq : Bw w wp:=Bw.trans hbw hbp
 have hzq : w.heap.size + 2 < wp.heap.size:=by have:=hbp.size;omega
 have HOkq:=Lib.hid (HOk1.out.up hbp)
 have HXq:=Lib.hid (HX1.out.up hbp)
 clear z0 z1 z2 z3 HB0 HBo HB1 hz1 HOk1 HX1 hbp hbw hbp'
 have HB0:=HB0q
 have HBo:=HBoq
 have HB1:=HB1q
 have hbw:=hbwq
 have hz1:=hzq
 have HOk1:=HOkq
 have HX1:=HXq
 have y0:=HBo.out.cell 0 (v:=.int .i64 4) rfl
 have y1:=HBo.out.cell 1 (v:=.int .i64 104) rfl
 have y2:=HBo.out.cell 2 (v:=.int .i64 63) rfl
 have y3:=HBo.out.cell 3 (v:=.slice A n c) rfl
 clear HB0q HBoq HB1q hbwq hzq HOkq HXq
 go_wp2_with (first
  | ((with_reducible refine wpList_load_sc (s) (w.heap.size) (.tmp 2) rfl rfl ?_ ?_ ?_);(focus rfl);(focus (exact HB0.out)))
  | (go_at_call 91;refine (rsmodes_ok (s) A n c xs true _ (HOk1.out) HX1.out hn hc).mono ?_;rintro ee w2 ⟨s',e1,e2,rfl,hOk',hAn,hb2⟩;have HB12:=Lib.hid ((HB1.out).up hb2);have hbm2:=hb2;have hzm2:=hb2.size;have HOk':=Lib.hid hOk';have HAn:=Lib.hid hAn;have HE:=Lib.hid (And.intro e1 e2);clear hOk' hAn hb2 e1 e2)
  | ((with_reducible refine wpList_store_sc (s') (w.heap.size + 2) (.tmp 4) (.tmp 95) rfl rfl ?_ ?_ ?_ ?_);(focus rfl);(focus rfl);(focus (exact ⟨_,HB12.out,HOsz.out⟩));intro w3 hS3 hg3;have HS3:=Lib.hid hS3;have HG3:=Lib.hid hg3;clear hS3 hg3)
  | fail)
 have hAnw : An w s.A s'.A:=HAn.out.more (by omega)
 have hne : ∀ ad,s'.A = some ad → ad.block ≠ w.heap.size + 2:=HAn.out.ne (fun ad e => by have:=HAl.out ad e;omega) (by omega)
 refine bodyPost_ret (results_sc2 rfl _ _ (w.heap.size + 2) (s') (by rfl) HS3.out) rfl ?_
 exact ⟨(s'),none,0,0,HE.out.1,HE.out.2,rfl,HOk'.out.far HG3.out (ne_some hne),hAnw,Ls.nil_ _ _,(fun ad e => by cases e),by omega,by omega,by omega,Bw.grown (Bw.trans hbw hbm2) HG3.out (fun k hk => by cases hk;omega)⟩

set_option maxRecDepth 100000 in
set_option maxHeartbeats 8000000 in
theorem rsapply_reset (s : Scr) (A : Option Addr) (n c : Nat) (xs : List Int) (w : World) (hs : s.Ok w) (hx : Rd (.int .i64) w A n xs) (hn : n ≤ c) (hc : c ≤ 9223372036854775807) (hn1 : n ≤ 1000) (hr : propN n xs = true) : Calls Tryz.prog 52 #[.agg s.vals.toArray,.agg #[.int .i64 4,.int .i64 108,.int .i64 63,.slice A n c]] w (ScL w s):=by
 have HOk:=Lib.hid hs
 have HAl:=Lib.hid hs.1.lt
 have HX:=Lib.hid hx
 clear hs hx
 have HR:=Lib.hid hr
 clear hr
 go_enter Tryz.func52,Tryz.ntmps52
 go_upto_region 1 with (fail)
 generalize hwa : ((w.alloc (.cells s.vals.toArray 34)).alloc _).alloc _ = wa
 obtain ⟨hb0,hb1,hb2,hbwa,hza⟩:=sb3 hwa
 have HB0a:=Lib.hid hb0
 have HBoa:=Lib.hid hb1
 have HB1a:=Lib.hid (show ∃ old,Sb wa (w.heap.size + 2) old 34 ∧ old.size = 19 from ⟨_,hb2,rfl⟩)
 have hza' : w.heap.size + 2 < wa.heap.size:=by omega
 clear hwa hb0 hb1 hb2 hza
 go_upto_region 3 with (first
  | ((with_reducible refine wpList_load_sc (s) (w.heap.size) (.tmp 2) rfl rfl ?_ ?_ ?_);(focus rfl);(focus (exact HB0a.out)))
  | (go_at_call 39;refine (rsvalid_ok s _ (HOk.out.up hbwa)).mono ?_;rintro ee w1 ⟨rfl,hba1⟩;have hba1':=Lib.hid hba1;clear hba1)
  | fail)
 have hba1:=hba1'.out
 have hbw : Bw w w1:=Bw.trans hbwa hba1
 have HB0:=Lib.hid (HB0a.out.up hba1)
 have HBo:=Lib.hid (HBoa.out.up hba1)
 obtain ⟨old1,hold1,hosz⟩:=HB1a.out
 have HB1:=Lib.hid (hold1.up hba1)
 have HOsz:=Lib.hid hosz
 have hz1 : w.heap.size + 2 < w1.heap.size:=by have:=hba1.size;omega
 have HOk1:=Lib.hid (HOk.out.up hbw)
 have HX1:=Lib.hid (HX.out.up hbw)
 have HNe0:=Lib.hid (show ∀ ad,s.A = some ad → ad.block ≠ w.heap.size from fun ad e => by have:=HAl.out ad e;omega)
 have HNe1:=Lib.hid (show ∀ ad,s.A = some ad → ad.block ≠ w.heap.size + 2 from fun ad e => by have:=HAl.out ad e;omega)
 have hne10 : w.heap.size + 2 ≠ w.heap.size:=by omega
 have y0:=HBo.out.cell 0 (v:=.int .i64 4) rfl
 have y1:=HBo.out.cell 1 (v:=.int .i64 108) rfl
 have y2:=HBo.out.cell 2 (v:=.int .i64 63) rfl
 have y3:=HBo.out.cell 3 (v:=.slice A n c) rfl
 clear hold1 hosz HB0a HBoa HB1a hba1 hba1' hbwa hza' HX
 go_upto_region 14 with ((go_at_call 89;refine (rsproper_b A n c xs _ (by exact HX1.out.up BWX) hn hc).mono ?_;rintro ee wp ⟨rfl,hbp⟩;rw [HR.out];have z0:=(HBo.out.up hbp).cell 0 (v:=.int .i64 4) rfl;have z1:=(HBo.out.up hbp).cell 1 (v:=.int .i64 108) rfl;have z2:=(HBo.out.up hbp).cell 2 (v:=.int .i64 63) rfl;have z3:=(HBo.out.up hbp).cell 3 (v:=.slice A n c) rfl;have hbp':=Lib.hid hbp;clear hbp y0 y1 y2 y3))
 have hbp:=hbp'.out
 have HB0q:=Lib.hid (HB0.out.up hbp)
 have HBoq:=Lib.hid (HBo.out.up hbp)
 have HB1q:=Lib.hid (HB1.out.up hbp)
 have hbwq : Bw w wp:=Bw.trans hbw hbp
 have hzq : w.heap.size + 2 < wp.heap.size:=by have:=hbp.size;omega
 have HOkq:=Lib.hid (HOk1.out.up hbp)
 have HXq:=Lib.hid (HX1.out.up hbp)
 clear z0 z1 z2 z3 HB0 HBo HB1 hz1 HOk1 HX1 hbp hbw hbp'
 have HB0:=HB0q
 have HBo:=HBoq
 have HB1:=HB1q
 have hbw:=hbwq
 have hz1:=hzq
 have HOk1:=HOkq
 have HX1:=HXq
 have y0:=HBo.out.cell 0 (v:=.int .i64 4) rfl
 have y1:=HBo.out.cell 1 (v:=.int .i64 108) rfl
 have y2:=HBo.out.cell 2 (v:=.int .i64 63) rfl
 have y3:=HBo.out.cell 3 (v:=.slice A n c) rfl
 clear HB0q HBoq HB1q hbwq hzq HOkq HXq
 go_wp2_with (first
  | ((with_reducible refine wpList_load_sc (s) (w.heap.size) (.tmp 2) rfl rfl ?_ ?_ ?_);(focus rfl);(focus (exact HB0.out)))
  | (go_at_call 91;refine (rsmodes_ok (s) A n c xs false _ (HOk1.out) HX1.out hn hc).mono ?_;rintro ee w2 ⟨s',e1,e2,rfl,hOk',hAn,hb2⟩;have HB12:=Lib.hid ((HB1.out).up hb2);have hbm2:=hb2;have hzm2:=hb2.size;have HOk':=Lib.hid hOk';have HAn:=Lib.hid hAn;have HE:=Lib.hid (And.intro e1 e2);clear hOk' hAn hb2 e1 e2)
  | ((with_reducible refine wpList_store_sc (s') (w.heap.size + 2) (.tmp 4) (.tmp 95) rfl rfl ?_ ?_ ?_ ?_);(focus rfl);(focus rfl);(focus (exact ⟨_,HB12.out,HOsz.out⟩));intro w3 hS3 hg3;have HS3:=Lib.hid hS3;have HG3:=Lib.hid hg3;clear hS3 hg3)
  | fail)
 have hAnw : An w s.A s'.A:=HAn.out.more (by omega)
 have hne : ∀ ad,s'.A = some ad → ad.block ≠ w.heap.size + 2:=HAn.out.ne (fun ad e => by have:=HAl.out ad e;omega) (by omega)
 refine bodyPost_ret (results_sc2 rfl _ _ (w.heap.size + 2) (s') (by rfl) HS3.out) rfl ?_
 exact ⟨(s'),none,0,0,HE.out.1,HE.out.2,rfl,HOk'.out.far HG3.out (ne_some hne),hAnw,Ls.nil_ _ _,(fun ad e => by cases e),by omega,by omega,by omega,Bw.grown (Bw.trans hbw hbm2) HG3.out (fun k hk => by cases hk;omega)⟩
set_option maxRecDepth 100000 in
set_option maxHeartbeats 8000000 in
theorem rsapply_nomode (s : Scr) (f : Int) (A : Option Addr) (n c : Nat) (xs : List Int) (w : World) (hs : s.Ok w) (hx : Rd (.int .i64) w A n xs) (hn : n ≤ c) (hc : c ≤ 9223372036854775807) (hn1 : n ≤ 1000) (hr : propN n xs = true) (h1 : (f == 104) = false) (h2 : (f == 108) = false) : Calls Tryz.prog 52 #[.agg s.vals.toArray,.agg #[.int .i64 4,.int .i64 f,.int .i64 63,.slice A n c]] w (ScL w s):=by
 have HOk:=Lib.hid hs
 have HAl:=Lib.hid hs.1.lt
 have HX:=Lib.hid hx
 clear hs hx
 have HR:=Lib.hid hr
 clear hr
 go_enter Tryz.func52,Tryz.ntmps52
 go_upto_region 1 with (fail)
 generalize hwa : ((w.alloc (.cells s.vals.toArray 34)).alloc _).alloc _ = wa
 obtain ⟨hb0,hb1,hb2,hbwa,hza⟩:=sb3 hwa
 have HB0a:=Lib.hid hb0
 have HBoa:=Lib.hid hb1
 have HB1a:=Lib.hid (show ∃ old,Sb wa (w.heap.size + 2) old 34 ∧ old.size = 19 from ⟨_,hb2,rfl⟩)
 have hza' : w.heap.size + 2 < wa.heap.size:=by omega
 clear hwa hb0 hb1 hb2 hza
 go_upto_region 3 with (first
  | ((with_reducible refine wpList_load_sc (s) (w.heap.size) (.tmp 2) rfl rfl ?_ ?_ ?_);(focus rfl);(focus (exact HB0a.out)))
  | (go_at_call 39;refine (rsvalid_ok s _ (HOk.out.up hbwa)).mono ?_;rintro ee w1 ⟨rfl,hba1⟩;have hba1':=Lib.hid hba1;clear hba1)
  | fail)
 have hba1:=hba1'.out
 have hbw : Bw w w1:=Bw.trans hbwa hba1
 have HB0:=Lib.hid (HB0a.out.up hba1)
 have HBo:=Lib.hid (HBoa.out.up hba1)
 obtain ⟨old1,hold1,hosz⟩:=HB1a.out
 have HB1:=Lib.hid (hold1.up hba1)
 have HOsz:=Lib.hid hosz
 have hz1 : w.heap.size + 2 < w1.heap.size:=by have:=hba1.size;omega
 have HOk1:=Lib.hid (HOk.out.up hbw)
 have HX1:=Lib.hid (HX.out.up hbw)
 have HNe0:=Lib.hid (show ∀ ad,s.A = some ad → ad.block ≠ w.heap.size from fun ad e => by have:=HAl.out ad e;omega)
 have HNe1:=Lib.hid (show ∀ ad,s.A = some ad → ad.block ≠ w.heap.size + 2 from fun ad e => by have:=HAl.out ad e;omega)
 have hne10 : w.heap.size + 2 ≠ w.heap.size:=by omega
 have y0:=HBo.out.cell 0 (v:=.int .i64 4) rfl
 have y1:=HBo.out.cell 1 (v:=.int .i64 f) rfl
 have y2:=HBo.out.cell 2 (v:=.int .i64 63) rfl
 have y3:=HBo.out.cell 3 (v:=.slice A n c) rfl
 clear hold1 hosz HB0a HBoa HB1a hba1 hba1' hbwa hza' HX
 go_upto_region 15 with ((go_at_call 89;refine (rsproper_b A n c xs _ (by exact HX1.out.up BWX) hn hc).mono ?_;rintro ee wp ⟨rfl,hbp⟩;rw [HR.out];have z0:=(HBo.out.up hbp).cell 0 (v:=.int .i64 4) rfl;have z1:=(HBo.out.up hbp).cell 1 (v:=.int .i64 f) rfl;have z2:=(HBo.out.up hbp).cell 2 (v:=.int .i64 63) rfl;have z3:=(HBo.out.up hbp).cell 3 (v:=.slice A n c) rfl;have hbp':=Lib.hid hbp;clear hbp y0 y1 y2 y3))
 have hbp:=hbp'.out
 have HB0q:=Lib.hid (HB0.out.up hbp)
 have HBoq:=Lib.hid (HBo.out.up hbp)
 have HB1q:=Lib.hid (HB1.out.up hbp)
 have hbwq : Bw w wp:=Bw.trans hbw hbp
 have hzq : w.heap.size + 2 < wp.heap.size:=by have:=hbp.size;omega
 have HOkq:=Lib.hid (HOk1.out.up hbp)
 have HXq:=Lib.hid (HX1.out.up hbp)
 clear z0 z1 z2 z3 HB0 HBo HB1 hz1 HOk1 HX1 hbp hbw hbp'
 have HB0:=HB0q
 have HBo:=HBoq
 have HB1:=HB1q
 have hbw:=hbwq
 have hz1:=hzq
 have HOk1:=HOkq
 have HX1:=HXq
 have y0:=HBo.out.cell 0 (v:=.int .i64 4) rfl
 have y1:=HBo.out.cell 1 (v:=.int .i64 f) rfl
 have y2:=HBo.out.cell 2 (v:=.int .i64 63) rfl
 have y3:=HBo.out.cell 3 (v:=.slice A n c) rfl
 clear HB0q HBoq HB1q hbwq hzq HOkq HXq
 go_wp2_with (first
  | ((with_reducible refine wpList_load_sc (s) (w.heap.size) (.tmp 2) rfl rfl ?_ ?_ ?_);(focus rfl);(focus (exact HB0.out)))
  | ((with_reducible refine wpList_store_sc (s) (w.heap.size + 2) (.tmp 4) (.tmp 96) rfl rfl ?_ ?_ ?_ ?_);(focus rfl);(focus rfl);(focus (exact ⟨_,HB1.out,HOsz.out⟩));intro w3 hS3 hg3;have HS3:=Lib.hid hS3;have HG3:=Lib.hid hg3;clear hS3 hg3)
  | fail)
 refine bodyPost_ret (results_sc2 rfl _ _ (w.heap.size + 2) (s) (by rfl) HS3.out) rfl ?_
 exact ⟨(s),none,0,0,rfl,rfl,rfl,HOk1.out.far HG3.out (ne_some HNe1.out),.inl rfl,Ls.nil_ _ _,(fun ad e => by cases e),by omega,by omega,by omega,Bw.grown (hbw) HG3.out (fun k hk => by cases hk;omega)⟩

set_option maxRecDepth 100000 in
set_option maxHeartbeats 8000000 in
theorem rsapply_nopriv (s : Scr) (f pv : Int) (A : Option Addr) (n c : Nat) (xs : List Int) (w : World) (hs : s.Ok w) (hx : Rd (.int .i64) w A n xs) (hn : n ≤ c) (hc : c ≤ 9223372036854775807) (hn1 : n ≤ 1000) (hr : propN n xs = true) (h1 : (pv == 0) = false) (h2 : (pv == 63) = false) : Calls Tryz.prog 52 #[.agg s.vals.toArray,.agg #[.int .i64 4,.int .i64 f,.int .i64 pv,.slice A n c]] w (ScL w s):=by
 have HOk:=Lib.hid hs
 have HAl:=Lib.hid hs.1.lt
 have HX:=Lib.hid hx
 clear hs hx
 have HR:=Lib.hid hr
 clear hr
 go_enter Tryz.func52,Tryz.ntmps52
 go_upto_region 1 with (fail)
 generalize hwa : ((w.alloc (.cells s.vals.toArray 34)).alloc _).alloc _ = wa
 obtain ⟨hb0,hb1,hb2,hbwa,hza⟩:=sb3 hwa
 have HB0a:=Lib.hid hb0
 have HBoa:=Lib.hid hb1
 have HB1a:=Lib.hid (show ∃ old,Sb wa (w.heap.size + 2) old 34 ∧ old.size = 19 from ⟨_,hb2,rfl⟩)
 have hza' : w.heap.size + 2 < wa.heap.size:=by omega
 clear hwa hb0 hb1 hb2 hza
 go_upto_region 3 with (first
  | ((with_reducible refine wpList_load_sc (s) (w.heap.size) (.tmp 2) rfl rfl ?_ ?_ ?_);(focus rfl);(focus (exact HB0a.out)))
  | (go_at_call 39;refine (rsvalid_ok s _ (HOk.out.up hbwa)).mono ?_;rintro ee w1 ⟨rfl,hba1⟩;have hba1':=Lib.hid hba1;clear hba1)
  | fail)
 have hba1:=hba1'.out
 have hbw : Bw w w1:=Bw.trans hbwa hba1
 have HB0:=Lib.hid (HB0a.out.up hba1)
 have HBo:=Lib.hid (HBoa.out.up hba1)
 obtain ⟨old1,hold1,hosz⟩:=HB1a.out
 have HB1:=Lib.hid (hold1.up hba1)
 have HOsz:=Lib.hid hosz
 have hz1 : w.heap.size + 2 < w1.heap.size:=by have:=hba1.size;omega
 have HOk1:=Lib.hid (HOk.out.up hbw)
 have HX1:=Lib.hid (HX.out.up hbw)
 have HNe0:=Lib.hid (show ∀ ad,s.A = some ad → ad.block ≠ w.heap.size from fun ad e => by have:=HAl.out ad e;omega)
 have HNe1:=Lib.hid (show ∀ ad,s.A = some ad → ad.block ≠ w.heap.size + 2 from fun ad e => by have:=HAl.out ad e;omega)
 have hne10 : w.heap.size + 2 ≠ w.heap.size:=by omega
 have y0:=HBo.out.cell 0 (v:=.int .i64 4) rfl
 have y1:=HBo.out.cell 1 (v:=.int .i64 f) rfl
 have y2:=HBo.out.cell 2 (v:=.int .i64 pv) rfl
 have y3:=HBo.out.cell 3 (v:=.slice A n c) rfl
 clear hold1 hosz HB0a HBoa HB1a hba1 hba1' hbwa hza' HX
 go_upto_region 15 with ((go_at_call 89;refine (rsproper_b A n c xs _ (by exact HX1.out.up BWX) hn hc).mono ?_;rintro ee wp ⟨rfl,hbp⟩;rw [HR.out];have z0:=(HBo.out.up hbp).cell 0 (v:=.int .i64 4) rfl;have z1:=(HBo.out.up hbp).cell 1 (v:=.int .i64 f) rfl;have z2:=(HBo.out.up hbp).cell 2 (v:=.int .i64 pv) rfl;have z3:=(HBo.out.up hbp).cell 3 (v:=.slice A n c) rfl;have hbp':=Lib.hid hbp;clear hbp y0 y1 y2 y3))
 have hbp:=hbp'.out
 have HB0q:=Lib.hid (HB0.out.up hbp)
 have HBoq:=Lib.hid (HBo.out.up hbp)
 have HB1q:=Lib.hid (HB1.out.up hbp)
 have hbwq : Bw w wp:=Bw.trans hbw hbp
 have hzq : w.heap.size + 2 < wp.heap.size:=by have:=hbp.size;omega
 have HOkq:=Lib.hid (HOk1.out.up hbp)
 have HXq:=Lib.hid (HX1.out.up hbp)
 clear z0 z1 z2 z3 HB0 HBo HB1 hz1 HOk1 HX1 hbp hbw hbp'
 have HB0:=HB0q
 have HBo:=HBoq
 have HB1:=HB1q
 have hbw:=hbwq
 have hz1:=hzq
 have HOk1:=HOkq
 have HX1:=HXq
 have y0:=HBo.out.cell 0 (v:=.int .i64 4) rfl
 have y1:=HBo.out.cell 1 (v:=.int .i64 f) rfl
 have y2:=HBo.out.cell 2 (v:=.int .i64 pv) rfl
 have y3:=HBo.out.cell 3 (v:=.slice A n c) rfl
 clear HB0q HBoq HB1q hbwq hzq HOkq HXq
 go_wp2_with (first
  | ((with_reducible refine wpList_load_sc (s) (w.heap.size) (.tmp 2) rfl rfl ?_ ?_ ?_);(focus rfl);(focus (exact HB0.out)))
  | ((with_reducible refine wpList_store_sc (s) (w.heap.size + 2) (.tmp 4) (.tmp 96) rfl rfl ?_ ?_ ?_ ?_);(focus rfl);(focus rfl);(focus (exact ⟨_,HB1.out,HOsz.out⟩));intro w3 hS3 hg3;have HS3:=Lib.hid hS3;have HG3:=Lib.hid hg3;clear hS3 hg3)
  | fail)
 refine bodyPost_ret (results_sc2 rfl _ _ (w.heap.size + 2) (s) (by rfl) HS3.out) rfl ?_
 exact ⟨(s),none,0,0,rfl,rfl,rfl,HOk1.out.far HG3.out (ne_some HNe1.out),.inl rfl,Ls.nil_ _ _,(fun ad e => by cases e),by omega,by omega,by omega,Bw.grown (hbw) HG3.out (fun k hk => by cases hk;omega)⟩

set_option maxRecDepth 100000 in
set_option maxHeartbeats 8000000 in
theorem rsapply_nokind (s : Scr) (kd f pv : Int) (A : Option Addr) (n c : Nat) (xs : List Int) (w : World) (hs : s.Ok w) (hx : Rd (.int .i64) w A n xs) (hn : n ≤ c) (hc : c ≤ 9223372036854775807) (hn1 : n ≤ 1000) (h1 : (kd == 1) = false) (h2 : (kd == 2) = false) (h3 : (kd == 3) = false) (h4 : (kd == 4) = false) : Calls Tryz.prog 52 #[.agg s.vals.toArray,.agg #[.int .i64 kd,.int .i64 f,.int .i64 pv,.slice A n c]] w (ScL w s):=by
 have HOk:=Lib.hid hs
 have HAl:=Lib.hid hs.1.lt
 have HX:=Lib.hid hx
 clear hs hx
 go_enter Tryz.func52,Tryz.ntmps52
 go_upto_region 1 with (fail)
 generalize hwa : ((w.alloc (.cells s.vals.toArray 34)).alloc _).alloc _ = wa
 obtain ⟨hb0,hb1,hb2,hbwa,hza⟩:=sb3 hwa
 have HB0a:=Lib.hid hb0
 have HBoa:=Lib.hid hb1
 have HB1a:=Lib.hid (show ∃ old,Sb wa (w.heap.size + 2) old 34 ∧ old.size = 19 from ⟨_,hb2,rfl⟩)
 have hza' : w.heap.size + 2 < wa.heap.size:=by omega
 clear hwa hb0 hb1 hb2 hza
 go_upto_region 3 with (first
  | ((with_reducible refine wpList_load_sc (s) (w.heap.size) (.tmp 2) rfl rfl ?_ ?_ ?_);(focus rfl);(focus (exact HB0a.out)))
  | (go_at_call 39;refine (rsvalid_ok s _ (HOk.out.up hbwa)).mono ?_;rintro ee w1 ⟨rfl,hba1⟩;have hba1':=Lib.hid hba1;clear hba1)
  | fail)
 have hba1:=hba1'.out
 have hbw : Bw w w1:=Bw.trans hbwa hba1
 have HB0:=Lib.hid (HB0a.out.up hba1)
 have HBo:=Lib.hid (HBoa.out.up hba1)
 obtain ⟨old1,hold1,hosz⟩:=HB1a.out
 have HB1:=Lib.hid (hold1.up hba1)
 have HOsz:=Lib.hid hosz
 have hz1 : w.heap.size + 2 < w1.heap.size:=by have:=hba1.size;omega
 have HOk1:=Lib.hid (HOk.out.up hbw)
 have HX1:=Lib.hid (HX.out.up hbw)
 have HNe0:=Lib.hid (show ∀ ad,s.A = some ad → ad.block ≠ w.heap.size from fun ad e => by have:=HAl.out ad e;omega)
 have HNe1:=Lib.hid (show ∀ ad,s.A = some ad → ad.block ≠ w.heap.size + 2 from fun ad e => by have:=HAl.out ad e;omega)
 have hne10 : w.heap.size + 2 ≠ w.heap.size:=by omega
 have y0:=HBo.out.cell 0 (v:=.int .i64 kd) rfl
 have y1:=HBo.out.cell 1 (v:=.int .i64 f) rfl
 have y2:=HBo.out.cell 2 (v:=.int .i64 pv) rfl
 have y3:=HBo.out.cell 3 (v:=.slice A n c) rfl
 clear hold1 hosz HB0a HBoa HB1a hba1 hba1' hbwa hza' HX
 go_upto_region 15 with (fail)
 go_wp2_with (first
  | ((with_reducible refine wpList_load_sc (s) (w.heap.size) (.tmp 2) rfl rfl ?_ ?_ ?_);(focus rfl);(focus (exact HB0.out)))
  | ((with_reducible refine wpList_store_sc (s) (w.heap.size + 2) (.tmp 4) (.tmp 96) rfl rfl ?_ ?_ ?_ ?_);(focus rfl);(focus rfl);(focus (exact ⟨_,HB1.out,HOsz.out⟩));intro w3 hS3 hg3;have HS3:=Lib.hid hS3;have HG3:=Lib.hid hg3;clear hS3 hg3)
  | fail)
 refine bodyPost_ret (results_sc2 rfl _ _ (w.heap.size + 2) (s) (by rfl) HS3.out) rfl ?_
 exact ⟨(s),none,0,0,rfl,rfl,rfl,HOk1.out.far HG3.out (ne_some HNe1.out),.inl rfl,Ls.nil_ _ _,(fun ad e => by cases e),by omega,by omega,by omega,Bw.grown (hbw) HG3.out (fun k hk => by cases hk;omega)⟩

theorem rsapply_ok (s : Scr) (kd f pv : Int) (A : Option Addr) (n c : Nat) (xs : List Int) (w : World) (hs : s.Ok w) (hx : Rd (.int .i64) w A n xs) (hn : n ≤ c) (hc : c ≤ 9223372036854775807) (hn1 : n ≤ 1000) : Calls Tryz.prog 52 #[.agg s.vals.toArray,.agg #[.int .i64 kd,.int .i64 f,.int .i64 pv,.slice A n c]] w (ScL w s):=by
 by_cases h1 : kd = 1
 ·subst h1
  cases hr : runeB f
  ·exact rsapply_noput s f pv A n c xs w hs hx hn hc hn1 hr
  ·exact rsapply_put s f pv A n c xs w hs hx hn hc hn1 hr
 by_cases h2 : kd = 2
 ·subst h2
  exact rsapply_control s f pv A n c xs w hs hx hn hc hn1
 by_cases h3 : kd = 3
 ·subst h3
  exact rsapply_escape s f pv A n c xs w hs hx hn hc hn1
 by_cases h4 : kd = 4
 ·subst h4
  cases hr : propN n xs
  ·exact rsapply_improper s f pv A n c xs w hs hx hn hc hn1 hr
  by_cases h0 : pv = 0
  ·subst h0
   exact rsapply_csi s f A n c xs w hs hx hn hc hn1 hr
  by_cases h63 : pv = 63
  ·subst h63
   by_cases hh : f = 104
   ·subst hh
    exact rsapply_set s A n c xs w hs hx hn hc hn1 hr
   by_cases hl : f = 108
   ·subst hl
    exact rsapply_reset s A n c xs w hs hx hn hc hn1 hr
   exact rsapply_nomode s f A n c xs w hs hx hn hc hn1 hr (by simpa using hh) (by simpa using hl)
  exact rsapply_nopriv s f pv A n c xs w hs hx hn hc hn1 hr (by simpa using h0) (by simpa using h63)
 exact rsapply_nokind s kd f pv A n c xs w hs hx hn hc hn1 (by simpa using h1) (by simpa using h2) (by simpa using h3) (by simpa using h4)

/-- A scanner is valid: of its mode, private marker and parameters. -/
def scB (md pv : Int) (n : Nat) (xs : List Int) : Prop:=(md ≠ 3 ∧ 0 ≤ md ∧ md ≤ 6 ∧ pv = 0 ∧ n = 0) ∨ (md = 3 ∧ 1 ≤ n ∧ n ≤ 16 ∧ (pv = 0 ∨ (60 ≤ pv ∧ pv ≤ 63)) ∧ ∀ x ∈ xs,0 ≤ x ∧ x ≤ 9999)
/-- A valid scanner in memory. -/
def ScnOk (w : World) (md pv : Int) (A : Option Addr) (n c : Nat) (xs : List Int) : Prop:=Rd (.int .i64) w A n xs ∧ n ≤ c ∧ c ≤ 9223372036854775807 ∧ scB md pv n xs
theorem ScnOk.up {w w' : World} {md pv : Int} {A : Option Addr} {n c : Nat} {xs : List Int} (h : ScnOk w md pv A n c xs) (hb : Bw w w') : ScnOk w' md pv A n c xs:=⟨h.1.up hb,h.2⟩
theorem ScnOk.to (w : World) (m : Int) (h : m ≠ 3 ∧ 0 ≤ m ∧ m ≤ 6) : ScnOk w m 0 none 0 0 []:=⟨Rd.nil_ w none,Nat.le_refl _,by omega,.inl ⟨h.1,h.2.1,h.2.2,rfl,rfl⟩⟩
/-- n lies between lo and hi. -/
def inB (n lo hi : Int) : Bool:=decide (lo ≤ n ∧ n ≤ hi)
theorem inB_yes {n lo hi : Int} (h1 : lo ≤ n) (h2 : n ≤ hi) : inB n lo hi = true:=decide_eq_true ⟨h1,h2⟩
theorem inB_no {n lo hi : Int} (h : n < lo ∨ hi < n) : inB n lo hi = false:=decide_eq_false (by omega)

theorem rin_any (n lo hi : Int) (w : World) : Calls Tryz.prog 102 #[.int .i64 n,.int .i64 lo,.int .i64 hi] w fun e w' => e = .returned (.bool (inB n lo hi)) ∧ w = w':=by
 have hz : n < lo ∨ (lo ≤ n ∧ hi < n) ∨ (lo ≤ n ∧ n ≤ hi):=by omega
 rcases hz with h|⟨h,h'⟩|⟨h,h'⟩
 ·have HE:=Lib.hid (inB_no (n:=n) (lo:=lo) (hi:=hi) (.inl h))
  go_enter Tryz.func102,Tryz.ntmps102
  go_wp2_with fail
  go_ret
  exact ⟨by rw [HE.out];first|rfl|(simp;omega),rfl⟩
 ·have HE:=Lib.hid (inB_no (n:=n) (lo:=lo) (hi:=hi) (.inr h'))
  go_enter Tryz.func102,Tryz.ntmps102
  go_wp2_with fail
  go_ret
  exact ⟨by rw [HE.out];first|rfl|(simp;omega),rfl⟩
 ·have HE:=Lib.hid (inB_yes h h')
  go_enter Tryz.func102,Tryz.ntmps102
  go_wp2_with fail
  go_ret
  exact ⟨by rw [HE.out];first|rfl|(simp;omega),rfl⟩

theorem rto_any (m : Int) (w : World) : Calls Tryz.prog 83 #[.int .i64 m] w fun e w' => e = .returned (.agg #[.int .i64 m,.int .i64 0,.slice none 0 0]) ∧ Bw w w':=by
 go_enter Tryz.func83,Tryz.ntmps83
 go_wp2_with fail
 refine bodyPost_ret (by simp [results,Tryz.results83,go_sem];rfl) rfl ?_
 exact ⟨rfl,BWX⟩

set_option maxRecDepth 100000 in
set_option maxHeartbeats 4000000 in
theorem rvalid14_ok (md pv : Int) (A : Option Addr) (n c : Nat) (xs : List Int) (w : World) (h : ScnOk w md pv A n c xs) :
  Calls Tryz.prog 80 #[.agg #[.int .i64 md,.int .i64 pv,.slice A n c]] w fun e w' => e = .returned (.bool true) ∧ Bw w w':=by
 obtain ⟨hx,hn,hc,hv⟩:=h
 rcases hv with ⟨h1,h2,h3,rfl,rfl⟩|⟨rfl,h1,h2,h3,h4⟩
 ·have hne : (md != 3) = true:=by simpa using h1
  clear hx h1
  go_enter Tryz.func80,Tryz.ntmps80
  go_wp2_with fail
  go_ret
  exact ⟨rfl,BWX⟩
 ·have HX:=Lib.hid hx
  have HP:=Lib.hid h4
  have HV:=Lib.hid h3
  clear hx h4 h3
  go_enter Tryz.func80,Tryz.ntmps80
  go_wp2_with fail
  go_loopw [3] (fun i wr => ∃ k : Nat,i = .int .i64 k ∧ k ≤ n ∧ Bw (w.alloc (.cells #[.int .i64 3,.int .i64 pv,.slice A n c] 39)) wr) (fun i _ => n - (intOf i).toNat)
  case atStart => exact ⟨0,rfl,by omega,BWX⟩
  case round =>
   obtain ⟨k,rfl,hk,hbw⟩:=hrel
   have y1:=cell_bw hbw (show (w.alloc (.cells #[.int .i64 3,.int .i64 pv,.slice A n c] 39)).cell? ⟨w.heap.size,1,none⟩ = some (.int .i64 pv) from CELX)
   have y2:=cell_bw hbw (show (w.alloc (.cells #[.int .i64 3,.int .i64 pv,.slice A n c] 39)).cell? ⟨w.heap.size,2,none⟩ = some (.slice A n c) from CELX)
   by_cases hlt : k < n
   ·obtain ⟨g,o,rfl,hx⟩:=HX.out.2 (by omega)
    have hkx : k < xs.length:=by rw [HX.out.1];exact hlt
    have hcx:=cell_bw (Bw.trans BWX hbw) (hx k hkx)
    obtain ⟨v,hv⟩ : ∃ v,xs[k] = v:=⟨_,rfl⟩
    rw [hv] at hcx
    obtain ⟨q1,q2⟩:=HP.out v (hv ▸ List.getElem_mem hkx)
    clear hx hv
    go_wp2_with fail
    go_roundw
    case rel => exact ⟨k + 1,by go_num,by omega,BWX⟩
    case measure => simp [intOf];omega
   ·obtain rfl : k = n:=by omega
    rcases HV.out with rfl|⟨p1,p2⟩
    ·go_wp2_with fail
     go_ret
     exact ⟨rfl,BWX⟩
    ·have hp0 : (pv == 0) = false:=by simp;omega
     go_wp2_with fail
     go_ret
     exact ⟨rfl,BWX⟩

/-- An operation in memory: four cells; its parameters. -/
structure OpR where
 kd : Int
 f : Int
 pv : Int
 A : Option Addr
 n : Nat
 c : Nat
 xs : List Int
def OpR.vals (o : OpR) : List Value:=[.int .i64 o.kd,.int .i64 o.f,.int .i64 o.pv,.slice o.A o.n o.c]
def OpR.Ok (w : World) (o : OpR) : Prop:=Rd (.int .i64) w o.A o.n o.xs ∧ o.n ≤ o.c ∧ o.c ≤ 9223372036854775807 ∧ o.n ≤ 1000
theorem OpR.Ok.up {w w' : World} {o : OpR} (h : o.Ok w) (hb : Bw w w') : o.Ok w':=⟨h.1.up hb,h.2⟩
/-- The operations' cells, one after the other. -/
def opsV (l : List OpR) : List Value:=l.flatMap OpR.vals
theorem opsV_len (l : List OpR) : (opsV l).length = l.length * 4:=by
 induction l with
 | nil => rfl
 | cons o l ih => simp only [opsV,List.flatMap_cons,List.length_append,List.length_cons] at ih ⊢;rw [ih];simp [OpR.vals];omega
theorem opsV_app (l l' : List OpR) : opsV (l ++ l') = opsV l ++ opsV l':=by simp [opsV]
theorem opsV_one (l : List OpR) : ∀ u ∈ opsV l,u.oneCell' = true:=by
 intro u hu
 simp only [opsV,List.mem_flatMap] at hu
 obtain ⟨o,_,hu⟩:=hu
 simp only [OpR.vals,List.mem_cons,List.not_mem_nil,or_false] at hu
 rcases hu with rfl|rfl|rfl|rfl <;> rfl
theorem opsV_at (l : List OpR) (i : Nat) (hi : i < l.length) (j : Nat) (hj : j < 4) : (opsV l)[i * 4 + j]? = (l[i]).vals[j]?:=by
 induction l generalizing i with
 | nil => simp at hi
 | cons o l ih =>
  have e : opsV (o :: l) = o.vals ++ opsV l:=by simp [opsV]
  rw [e]
  cases i with
  | zero =>
   rw [List.getElem?_append_left (by simp [OpR.vals];omega)]
   simp
  | succ i =>
   rw [List.getElem?_append_right (by simp [OpR.vals];omega)]
   have:=ih i (by simpa using hi)
   simp only [List.getElem_cons_succ]
   rw [← this]
   congr 1
   simp [OpR.vals]
   omega
/-- A list of operations in memory, and all that it leans on. -/
def OpsL (w : World) (A : Option Addr) (m : Nat) (l : List OpR) : Prop :=
 l.length = m ∧ (∀ o ∈ l,o.Ok w) ∧ (A = none → m = 0) ∧ ∀ ad,A = some ad → ∀ j u,(opsV l)[j]? = some u → w.cell? (ad.add j) = some u
theorem OpsL.nil_ (w : World) : OpsL w none 0 []:=⟨rfl,by simp,fun _ => rfl,fun ad e => by cases e⟩
/-- All that the result leans on lies in new memory (from block k on); the parameters may be the argument's. -/
def NewR (k : Nat) (A0 A : Option Addr) (n : Nat) (B : Option Addr) (l : List OpR) : Prop :=
 (∀ ad,A = some ad → k ≤ ad.block ∨ some ad = A0) ∧ (∀ ad,B = some ad → k ≤ ad.block) ∧ ∀ o ∈ l,∀ ad,o.A = some ad → k ≤ ad.block
/-- The list lies in a block of numbers. -/
def TyA (w : World) (A : Option Addr) : Prop:=∀ ad,A = some ad → ∃ cs fr,w.heap[ad.block]? = some (.cells cs 3 fr)
theorem TyA.none (w : World) : TyA w none:=fun ad e => by cases e
theorem TyA.lt {w : World} {A : Option Addr} (h : TyA w A) : ∀ ad,A = some ad → ad.block < w.heap.size:=fun ad e => by
 obtain ⟨cs,fr,h1⟩:=h ad e
 exact (Array.getElem?_eq_some_iff.1 h1).1
theorem TyA.up {w w' : World} {A : Option Addr} (h : TyA w A) (hb : Bw w w') : TyA w' A:=fun ad e => by
 obtain ⟨cs,fr,h1⟩:=h ad e
 exact ⟨cs,fr,(hb.block ad.block (Array.getElem?_eq_some_iff.1 h1).1).trans h1⟩
theorem TyA.far {w w' : World} {A : Option Addr} {row : Option Nat} (h : TyA w A) (hg : w.grownBy w' row) (hne : ∀ ad,A = some ad → some ad.block ≠ row) : TyA w' A:=fun ad e => by
 obtain ⟨cs,fr,h1⟩:=h ad e
 exact ⟨cs,fr,(hg.block ad.block (Array.getElem?_eq_some_iff.1 h1).1 (hne ad e)).trans h1⟩
theorem TyA.own {w : World} {base s n m c : Nat} {A : Option Addr} {xs : List Value} (h : w.ownsRow base 3 s (.slice A n c) m xs) : TyA w A:=fun ad e => by
 rcases h.2 with ⟨h1,_⟩|⟨g,cap,cur,h1,_,hg,_⟩
 ·cases h1;cases e
 ·cases h1;cases e;exact ⟨cur,(0,0),hg⟩
theorem TyA.sb {w : World} {g : Nat} {cs : Array Value} (h : Sb w g cs 3) : TyA w (some ⟨g,0,Option.none⟩):=fun ad e => by
 cases e
 exact ⟨cs,(0,0),h⟩
/-- What Next and csi of the reference's scanner return: a valid scanner and at most one operation. -/
def Nxt (w : World) (A0 : Option Addr) (e : Ending) (w' : World) : Prop :=
 ∃ (md pv : Int) (A : Option Addr) (n c : Nat) (xs : List Int) (B : Option Addr) (m c2 : Nat) (l : List OpR),
  e = .returned (.tuple #[.agg #[.int .i64 md,.int .i64 pv,.slice A n c],.slice B m c2]) ∧ ScnOk w' md pv A n c xs ∧ OpsL w' B m l ∧ m ≤ 1 ∧ m ≤ c2 ∧ c2 ≤ 9223372036854775807 ∧ Bw w w' ∧ NewR w.heap.size A0 A n B l ∧ (TyA w A0 → TyA w' A) ∧ ∀ o ∈ l,TyA w' o.A

theorem wpList_store_cs {P : Program} {ops : Array Oper} {rest : List Oper} {o : Oper} {a : Act} {w : World} {Q : Exit → Act → World → Prop} (T : TypeId) (cs : Array Value) (g : Nat) (x y : Operand) (hi : (P.info? T).map (·.size) = some cs.size) (hone : cs.all (·.oneCell') = true) (ho : o.op = .store T x y) (hgd : o.guard = none)
  (hx : a.eval x = .pointer (some ⟨g,0,none⟩)) (hy : a.eval y = .agg cs) (hg : ∃ old,Sb w g old T ∧ old.size = cs.size)
  (h : ∀ w',Sb w' g cs T → w.grownBy w' (some g) → wpList P ops Q rest (a.put o.dst undef) w') : wpList P ops Q (o :: rest) a w:=by
 obtain ⟨old,hg,hold⟩:=hg
 exact wpList_store_row hgd T x y ho g cs hx hy T old hg hi hold hone
  (h _ (setRow_heap w g old _ _ _ hg) ⟨rfl,rfl,rfl,by simp [World.setRow],fun k hk hne => setRow_other w g k _ (fun e => hne (by rw [e]))⟩)
theorem wp_store_cs {P : Program} {o : Oper} {a : Act} {w : World} {K : Act → World → Prop} {Q : Exit → Act → World → Prop} (T : TypeId) (cs : Array Value) (g : Nat) (x y : Operand) (hi : (P.info? T).map (·.size) = some cs.size) (hone : cs.all (·.oneCell') = true) (ho : o.op = .store T x y)
  (hx : a.eval x = .pointer (some ⟨g,0,none⟩)) (hy : a.eval y = .agg cs) (hg : ∃ old,Sb w g old T ∧ old.size = cs.size)
  (h : ∀ w',Sb w' g cs T → w.grownBy w' (some g) → K (a.put o.dst undef) w') : Oper.wp P o a w K Q:=by
 obtain ⟨old,hg,hold⟩:=hg
 exact wp_store_row T x y ho g cs hx hy T old hg hi hold hone
  (h _ (setRow_heap w g old _ _ _ hg) ⟨rfl,rfl,rfl,by simp [World.setRow],fun k hk hne => setRow_other w g k _ (fun e => hne (by rw [e]))⟩)
theorem results_cs2 {P : Program} {fn : Func} {p q : Tmp} (T : TypeId) (cs : Array Value) (d : TypeDesc) (h : fn.results = #[.cell p T,.tmp q]) (tmps : Array Value) (w : World) (g : Nat) (hu : P.underlying T = some d) (hd : (match d with | .struct _ | .array _ _ => true|_ => false) = true) (hi : (P.info? T).map (·.size) = some cs.size) (hp : tmps.getD p undef = .pointer (some ⟨g,0,none⟩)) (hg : Sb w g cs T) :
  (results fn tmps).run P w = .ok (.tuple #[.agg cs,tmps.getD q undef]) w:=by
 have hp' : tmps[p]?.getD undef = .pointer (some ⟨g,0,none⟩):=by simpa using hp
 simp [results,h,hp',asAddr,run_loadVar_row w g T T cs (0,0) d hg hu hd hi]
/-- A scanner's cells. -/
def scnV (md pv : Int) (A : Option Addr) (n c : Nat) : Array Value:=#[.int .i64 md,.int .i64 pv,.slice A n c]
theorem infoScn : (Tryz.prog.info? 39).map (·.size) = some 3:=by kernel_rfl
theorem scnV_one (md pv : Int) (A : Option Addr) (n c : Nat) : (scnV md pv A n c).all (·.oneCell') = true:=all_oneCell_toArray (fun v hv => by
 simp only [List.mem_cons,List.not_mem_nil,or_false] at hv
 rcases hv with rfl|rfl|rfl <;> rfl)
theorem wpList_store_scn {ops : Array Oper} {rest : List Oper} {o : Oper} {a : Act} {w : World} {Q : Exit → Act → World → Prop} (md pv : Int) (A : Option Addr) (n c : Nat) (g : Nat) (x y : Operand) (ho : o.op = .store 39 x y) (hgd : o.guard = none)
  (hx : a.eval x = .pointer (some ⟨g,0,none⟩)) (hy : a.eval y = .agg (scnV md pv A n c)) (hg : ∃ old,Sb w g old 39 ∧ old.size = 3)
  (h : ∀ w',Sb w' g (scnV md pv A n c) 39 → w.grownBy w' (some g) → wpList Tryz.prog ops Q rest (a.put o.dst undef) w') : wpList Tryz.prog ops Q (o :: rest) a w :=
 wpList_store_cs 39 (scnV md pv A n c) g x y infoScn (scnV_one md pv A n c) ho hgd hx hy hg h
theorem wp_store_scn {o : Oper} {a : Act} {w : World} {K : Act → World → Prop} {Q : Exit → Act → World → Prop} (md pv : Int) (A : Option Addr) (n c : Nat) (g : Nat) (x y : Operand) (ho : o.op = .store 39 x y)
  (hx : a.eval x = .pointer (some ⟨g,0,none⟩)) (hy : a.eval y = .agg (scnV md pv A n c)) (hg : ∃ old,Sb w g old 39 ∧ old.size = 3)
  (h : ∀ w',Sb w' g (scnV md pv A n c) 39 → w.grownBy w' (some g) → K (a.put o.dst undef) w') : Oper.wp Tryz.prog o a w K Q :=
 wp_store_cs 39 (scnV md pv A n c) g x y infoScn (scnV_one md pv A n c) ho hx hy hg h
theorem results_scn {fn : Func} {p q : Tmp} (h : fn.results = #[.cell p 39,.tmp q]) (tmps : Array Value) (w : World) (g : Nat) (md pv : Int) (A : Option Addr) (n c : Nat) (hp : tmps.getD p undef = .pointer (some ⟨g,0,none⟩)) (hg : Sb w g (scnV md pv A n c) 39) :
  (results fn tmps).run Tryz.prog w = .ok (.tuple #[.agg #[.int .i64 md,.int .i64 pv,.slice A n c],tmps.getD q undef]) w :=
 results_cs2 39 (scnV md pv A n c) _ h tmps w g Tryz.underlying39 rfl infoScn hp hg
theorem Rd.far {α : Type} {f : α → Value} {w w' : World} {A : Option Addr} {n : Nat} {xs : List α} {row : Option Nat} (h : Rd f w A n xs) (hg : w.grownBy w' row) (hne : ∀ ad,A = some ad → some ad.block ≠ row) : Rd f w' A n xs:=by
 refine ⟨h.1,fun h0 => ?_⟩
 obtain ⟨g,o,e,hx⟩:=h.2 h0
 refine ⟨g,o,e,fun i hi => ?_⟩
 have h1:=hx i hi
 rw [World.grownBy.cell_far hg ⟨g,o + i,none⟩ (lt_of_cell h1) (by have:=hne ⟨g,o,none⟩ e;exact this)]
 exact h1
theorem ScnOk.far {w w' : World} {md pv : Int} {A : Option Addr} {n c : Nat} {xs : List Int} {row : Option Nat} (h : ScnOk w md pv A n c xs) (hg : w.grownBy w' row) (hne : ∀ ad,A = some ad → some ad.block ≠ row) : ScnOk w' md pv A n c xs:=⟨h.1.far hg hne,h.2⟩
theorem OpsL.up {w w' : World} {A : Option Addr} {m : Nat} {l : List OpR} (h : OpsL w A m l) (hb : Bw w w') : OpsL w' A m l:=⟨h.1,fun o ho => (h.2.1 o ho).up hb,h.2.2.1,fun ad e j u hu => by
 have h1:=h.2.2.2 ad e j u hu
 rw [Below.cell hb (lt_of_cell h1)]
 exact h1⟩
theorem OpsL.far {w w' : World} {A : Option Addr} {m : Nat} {l : List OpR} {row : Option Nat} (h : OpsL w A m l) (hg : w.grownBy w' row) (hne : ∀ ad,A = some ad → some ad.block ≠ row) (hno : ∀ o ∈ l,∀ ad,o.A = some ad → some ad.block ≠ row) : OpsL w' A m l:=⟨h.1,fun o ho => ⟨(h.2.1 o ho).1.far hg (hno o ho),(h.2.1 o ho).2⟩,h.2.2.1,fun ad e j u hu => by
 have h1:=h.2.2.2 ad e j u hu
 have e2 : (ad.add j).block = ad.block:=by unfold Addr.add;split <;> rfl
 rw [World.grownBy.cell_far hg _ (lt_of_cell h1) (by rw [e2];exact hne ad e)]
 exact h1⟩
/-- One operation in a block of its own. -/
theorem OpsL.one {w : World} {g : Nat} {T : TypeId} (o : OpR) (h : Sb w g o.vals.toArray T) (ho : o.Ok w) : OpsL w (some ⟨g,0,none⟩) 1 [o]:=by
 refine ⟨rfl,by simpa using ho,(fun e => by cases e),fun ad e j u hu => ?_⟩
 cases e
 have e1 : opsV [o] = o.vals:=by simp [opsV]
 rw [e1] at hu
 exact World.news_of_block h j u (by simpa using hu)
end Go.Proofs.YtkflooljdopldaaGreat
