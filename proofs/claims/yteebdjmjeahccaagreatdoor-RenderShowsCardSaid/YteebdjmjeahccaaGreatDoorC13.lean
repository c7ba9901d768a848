/- Parts of the proof, one after the other. -/
import Derived.Test.YteebdjmjeahccaaGreatDoorC12
set_option linter.unusedSimpArgs false
set_option linter.unusedVariables false
set_option maxRecDepth 100000
set_option maxHeartbeats 16000000
namespace Go.Proofs.YteebdjmjeahccaaGreatDoor
open Go.RowKit
theorem Scr.Ok.away {w : World} {s : Scr} {h : Nat} (hs : s.Ok w) (hne : ∀ ad,s.A = some ad → ad.block ≠ h) (j : Nat) (v : Value) : s.Ok (w.setCell ⟨h,j,none⟩ v):=⟨hs.1.away hne j v,hs.2⟩
theorem Scr.Ok.far {w w' : World} {s : Scr} {row : Option Nat} (hs : s.Ok w) (hg : w.grownBy w' row) (hne : ∀ ad,s.A = some ad → some ad.block ≠ row) : s.Ok w':=⟨hs.1.far hg hne,hs.2⟩
theorem ne_some {A : Option Addr} {B : Nat} (h : ∀ ad,A = some ad → ad.block ≠ B) : ∀ ad,A = some ad → some ad.block ≠ some B:=fun ad e e2 => h ad e (Option.some.inj e2)
theorem rsfeed_ok (s : Scr) (w : World) (hs : s.Ok w) : Calls Tryz.prog 102 #[.agg s.vals.toArray] w (ScL w s):=by
 have HOk:=Lib.hid hs
 have HAl:=Lib.hid hs.1.lt
 obtain ⟨⟨h1,h2,h3,h4,-,-,-,-⟩,⟨k1,k2,-,-⟩,-,⟨t0,t1,t2⟩,-,-⟩:=hs
 have hways : s.row = s.bot ∨ (¬ s.row = s.bot ∧ s.row + 1 < (s.Rn : Int)) ∨ (¬ s.row = s.bot ∧ s.row + 1 = (s.Rn : Int)):=by omega
 have HW:=Lib.hid hways
 clear hways
 go_enter Tryz.func102,Tryz.ntmps102
 go_upto_region 1 with (fail)
 generalize hw1 : (w.alloc (.cells s.vals.toArray 46)).alloc _ = w1
 obtain ⟨hb0,hb1,hbw,hz⟩:=sb2 hw1
 have HB0:=Lib.hid hb0
 have HB1:=Lib.hid hb1
 have hz1 : w.heap.size + 1 < w1.heap.size:=by omega
 have HOk1:=Lib.hid (HOk.out.up hbw)
 have HNe0:=Lib.hid (show ∀ ad,s.A = some ad → ad.block ≠ w.heap.size from fun ad e => by have:=HAl.out ad e;omega)
 have HNe1:=Lib.hid (show ∀ ad,s.A = some ad → ad.block ≠ w.heap.size + 1 from fun ad e => by have:=HAl.out ad e;omega)
 clear hw1 hb0 hb1 hz
 (have x0:=HB0.out.cell 0 (v:=.int .i64 (s.Rn : Int)) rfl;have x3:=HB0.out.cell 3 (v:=.int .i64 s.row) rfl;have x5:=HB0.out.cell 5 (v:=.bool s.wrap) rfl;have x10:=HB0.out.cell 10 (v:=.int .i64 s.bot) rfl)
 (have z3:=HB0.out.free 3;have z5:=HB0.out.free 5)
 rcases HW.out with hq|⟨hq,hr⟩|⟨hq,hr⟩
 ·have hq1 : (s.row == s.bot) = true:=by simpa using hq
  clear hq HW
  go_wp2_with (first
   | ((with_reducible refine wpList_load_sc ({ s with wrap:=false } : Scr) w.heap.size (.tmp 1) rfl rfl ?_ ?_ ?_);(focus rfl);(focus (exact HB0.out.set 5 _ rfl)))
   | (go_at_call 110;refine (rsup_ok ({ s with wrap:=false } : Scr) 1 _ (HOk1.out.away HNe0.out _ _) (by omega) (by omega)).mono ?_;rintro ee w2 ⟨s',L,m,cap,e1,e2,rfl,hOk',hAn,hLs,hLn,hm,hmc,hcap,hb2⟩;have HB12:=Lib.hid ((HB1.out.away (by omega) _).up hb2);have hbw2 : Bw w w2:=Bw.trans (show Bw w (w1.setCell _ _) from BWX) hb2;have HOk':=Lib.hid hOk';have HAn:=Lib.hid hAn;have HLs:=Lib.hid hLs;have HLn:=Lib.hid hLn;have hz2:=HB12.out.lt;have HE:=Lib.hid (And.intro e1 e2);clear hOk' hAn hLs hLn hb2 e1 e2)
   | ((with_reducible refine wpList_store_sc s' (w.heap.size + 1) (.tmp 2) (.tmp 15) rfl rfl ?_ ?_ ?_ ?_);(focus rfl);(focus rfl);(focus (exact ⟨_,HB12.out,rfl⟩));intro w3 hS3 hg3;have HS3:=Lib.hid hS3;have HG3:=Lib.hid hg3;clear hS3 hg3)
   | fail)
  refine bodyPost_ret (results_sc2 rfl _ _ (w.heap.size + 1) s' (by rfl) HS3.out) rfl ?_
  have hAnw : An w s.A s'.A:=HAn.out.more (by simp;omega)
  have hne : ∀ ad,s'.A = some ad → ad.block ≠ w.heap.size + 1:=HAn.out.ne (fun ad e => by have:=HAl.out ad e;omega) (by simp;omega)
  have hnL : ∀ ad,L = some ad → w1.heap.size ≤ ad.block:=fun ad e => by have:=HLn.out ad e;simpa using this
  exact ⟨s',L,m,cap,HE.out.1,HE.out.2,rfl,HOk'.out.far HG3.out (ne_some hne),hAnw,HLs.out.far HG3.out (ne_some (fun ad e => by have:=hnL ad e;omega)),fun ad e => by have:=hnL ad e;omega,hm,hmc,hcap,Bw.grown hbw2 HG3.out (fun k hk => by cases hk;omega)⟩
 ·have hq1 : (s.row == s.bot) = false:=by simpa using hq
  have hq2 : ¬ s.row = s.bot:=hq
  have HQ:=Lib.hid hq2
  clear hq hq2 HW
  go_wp2_with (first
   | ((with_reducible refine wpList_load_sc ({ s with wrap:=false,row:=s.row + 1 } : Scr) w.heap.size (.tmp 1) rfl rfl ?_ ?_ ?_);(focus rfl);(focus (exact (HB0.out.set 5 _ rfl).set 3 _ rfl)))
   | ((with_reducible refine wpList_store_sc ({ s with wrap:=false,row:=s.row + 1 } : Scr) (w.heap.size + 1) (.tmp 2) (.tmp 28) rfl rfl ?_ ?_ ?_ ?_);(focus rfl);(focus rfl);(focus (exact ⟨_,(HB1.out.away (by omega) _).away (by omega) _,rfl⟩));intro w3 hS3 hg3;have HS3:=Lib.hid hS3;have HG3:=Lib.hid hg3;clear hS3 hg3)
   | fail)
  refine bodyPost_ret (results_sc2 rfl _ _ (w.heap.size + 1) ({ s with wrap:=false,row:=s.row + 1 } : Scr) (by rfl) HS3.out) rfl ?_
  have hO : s.Ok w3:=((HOk1.out.away HNe0.out _ _).away HNe0.out _ _).far HG3.out (ne_some HNe1.out)
  exact ⟨({ s with wrap:=false,row:=s.row + 1 } : Scr),none,0,0,rfl,rfl,rfl,⟨hO.1,⟨by show 0 ≤ s.row + 1;omega,by show s.row + 1 < (s.Rn : Int);omega,hO.2.1.2.2⟩,hO.2.2⟩,.inl rfl,Ls.nil_ _ _,(fun ad e => by cases e),by omega,by omega,by omega,Bw.grown (show Bw w _ from BWX) HG3.out (fun k hk => by cases hk;omega)⟩
 ·have hq1 : (s.row == s.bot) = false:=by simpa using hq
  have HQ:=Lib.hid hq
  have hr1 : (s.Rn : Int) - 1 ≤ s.row + 1:=by omega
  have hr2 : ¬ s.row + 1 < (s.Rn : Int) - 1:=by omega
  have hr3 : (s.Rn : Int) - 1 < s.row + 1:=by omega
  clear hq HW hr
  go_wp2_with (first
   | ((with_reducible refine wpList_load_sc ({ s with wrap:=false,row:=(s.Rn : Int) - 1 } : Scr) w.heap.size (.tmp 1) rfl rfl ?_ ?_ ?_);(focus rfl);(focus (exact (HB0.out.set 5 _ rfl).set 3 _ rfl)))
   | ((with_reducible refine wpList_store_sc ({ s with wrap:=false,row:=(s.Rn : Int) - 1 } : Scr) (w.heap.size + 1) (.tmp 2) (.tmp 28) rfl rfl ?_ ?_ ?_ ?_);(focus rfl);(focus rfl);(focus (exact ⟨_,(HB1.out.away (by omega) _).away (by omega) _,rfl⟩));intro w3 hS3 hg3;have HS3:=Lib.hid hS3;have HG3:=Lib.hid hg3;clear hS3 hg3)
   | fail)
  refine bodyPost_ret (results_sc2 rfl _ _ (w.heap.size + 1) ({ s with wrap:=false,row:=(s.Rn : Int) - 1 } : Scr) (by rfl) HS3.out) rfl ?_
  have hO : s.Ok w3:=((HOk1.out.away HNe0.out _ _).away HNe0.out _ _).far HG3.out (ne_some HNe1.out)
  exact ⟨({ s with wrap:=false,row:=(s.Rn : Int) - 1 } : Scr),none,0,0,rfl,rfl,rfl,⟨hO.1,⟨by show 0 ≤ (s.Rn : Int) - 1;omega,by show (s.Rn : Int) - 1 < (s.Rn : Int);omega,hO.2.1.2.2⟩,hO.2.2⟩,.inl rfl,Ls.nil_ _ _,(fun ad e => by cases e),by omega,by omega,by omega,Bw.grown (show Bw w _ from BWX) HG3.out (fun k hk => by cases hk;omega)⟩
theorem Ls.away {w : World} {L : Option Addr} {m h : Nat} (hl : Ls w L m) (hne : ∀ ad,L = some ad → ad.block ≠ h) (j : Nat) (v : Value) : Ls (w.setCell ⟨h,j,none⟩ v) L m:=hl.far (grown_set (grown_refl w (some h)) j v) (ne_some hne)
theorem Sb.gr3 {w : World} {g : Nat} {s : Scr} {A : Option Addr} {n c : Nat} (h : Sb w g s.vals.toArray 46) : Sb (((w.setCell ⟨g,0,none⟩ (.int .i64 s.Rn)).setCell ⟨g,1,none⟩ (.int .i64 s.Cn)).setCell ⟨g,2,none⟩ (.slice A n c)) g (s.gr A n c).vals.toArray 46 :=
 ((h.set 0 _ rfl).set 1 _ rfl).set 2 _ rfl
theorem rsput_ok (s : Scr) (nn : Int) (w : World) (hs : s.Ok w) (hn : runeB nn = true) : Calls Tryz.prog 80 #[.agg s.vals.toArray,.int .i64 nn] w (ScL w s):=by
 have HOk:=Lib.hid hs
 have HAl:=Lib.hid hs.1.lt
 have HRu:=Lib.hid hn
 have hsz:=hs.1.2.2.2.1
 have hsz2:=hs.1.2.1
 have HOkc:=Lib.hid (show ∀ w',s.Ok w' → ({ s with col:=0 } : Scr).Ok w' from fun w' hO => ⟨hO.1,⟨hO.2.1.1,hO.2.1.2.1,Int.le_refl 0,Int.lt_of_le_of_lt hO.2.1.2.2.1 hO.2.1.2.2.2⟩,hO.2.2⟩)
 clear hs hn
 go_enter Tryz.func80,Tryz.ntmps80
 go_upto_region 1 with (fail)
 generalize hw1 : (w.alloc (.cells s.vals.toArray 46)).alloc _ = w1
 obtain ⟨hb0,hb1,hbw,hz⟩:=sb2 hw1
 have HB0:=Lib.hid hb0
 have HB1:=Lib.hid hb1
 have hz1 : w.heap.size + 1 < w1.heap.size:=by omega
 have HOk1:=Lib.hid (HOk.out.up hbw)
 have HNe0:=Lib.hid (show ∀ ad,s.A = some ad → ad.block ≠ w.heap.size from fun ad e => by have:=HAl.out ad e;omega)
 have HNe1:=Lib.hid (show ∀ ad,s.A = some ad → ad.block ≠ w.heap.size + 1 from fun ad e => by have:=HAl.out ad e;omega)
 clear hw1 hb0 hb1 hz
 (have x4:=HB0.out.cell 4 (v:=.int .i64 s.col) rfl;have x5:=HB0.out.cell 5 (v:=.bool s.wrap) rfl;have x18:=HB0.out.cell 18 (v:=.bool s.now) rfl)
 (have z4:=HB0.out.free 4)
 obtain ⟨t,ht⟩ : ∃ t,t = (s.wrap && !s.now):=⟨_,rfl⟩
 have HT:=Lib.hid ht
 have hways : (s.wrap = true ∧ s.now = false) ∨ (s.wrap = false) ∨ (s.wrap = true ∧ s.now = true):=by cases s.wrap <;> cases s.now <;> simp
 have HW:=Lib.hid hways
 clear hways ht
 go_upto_region 2 with (fail)
 go_cut [15] (fun v w' => v = .bool t ∧ w1 = w')
 case first =>
  rcases HW.out with ⟨hq1,hq2⟩|hq1|⟨hq1,hq2⟩
  ·rw [hq1] at x5
   rw [hq2] at x18
   have HQ:=Lib.hid (show t = true by rw [HT.out,hq1,hq2];rfl)
   clear hq1 hq2 HW
   go_wp2_with fail
   go_meet
   case rel => exact ⟨congrArg Value.bool HQ.out.symm,rfl⟩
  ·rw [hq1] at x5
   have HQ:=Lib.hid (show t = false by rw [HT.out,hq1];rfl)
   clear hq1 HW
   go_wp2_with fail
   go_meet
   case rel => exact ⟨congrArg Value.bool HQ.out.symm,rfl⟩
  ·rw [hq1] at x5
   rw [hq2] at x18
   have HQ:=Lib.hid (show t = false by rw [HT.out,hq1,hq2];rfl)
   clear hq1 hq2 HW
   go_wp2_with fail
   go_meet
   case rel => exact ⟨congrArg Value.bool HQ.out.symm,rfl⟩
 case rest =>
 obtain ⟨rfl,rfl⟩:=hcut
 clear x5 x18 HW
 go_upto_if 15 with (fail)
 go_cut [6] (fun v6 w' => ∃ (s' : Scr) (L : Option Addr) (m cap : Nat),s'.Rn = s.Rn ∧ s'.Cn = s.Cn ∧ v6 = .slice L m cap ∧ Sb w' w.heap.size s'.vals.toArray 46 ∧ (∃ old,Sb w' (w.heap.size + 1) old 46 ∧ old.size = 19) ∧ s'.Ok w' ∧ (∀ ad,s'.A = some ad → ad.block ≠ w.heap.size ∧ ad.block ≠ w.heap.size + 1) ∧ An w s.A s'.A ∧ Ls w' L m ∧ (∀ ad,L = some ad → w1.heap.size ≤ ad.block) ∧ m ≤ 31 ∧ m ≤ cap ∧ cap ≤ 9223372036854775807 ∧ Bw w w' ∧ w1.heap.size ≤ w'.heap.size)
 case first =>
  cases t
  ·go_wp2_with fail
   go_meet
   case rel => exact ⟨s,none,0,0,rfl,rfl,rfl,HB0.out,⟨_,HB1.out,rfl⟩,HOk1.out,fun ad e => ⟨HNe0.out ad e,HNe1.out ad e⟩,.inl rfl,Ls.nil_ _ _,(fun ad e => by cases e),by omega,by omega,by omega,hbw,Nat.le_refl _⟩
  ·go_wp2_with (first
    | ((with_reducible refine wpList_load_sc ({ s with col:=0 } : Scr) w.heap.size (.tmp 2) rfl rfl ?_ ?_ ?_);(focus rfl);(focus (exact HB0.out.set 4 _ rfl)))
    | (go_at_call 102;refine (rsfeed_ok ({ s with col:=0 } : Scr) _ (HOkc.out _ (HOk1.out.away HNe0.out _ _))).mono ?_;rintro ee w2 ⟨s',L,m,cap,e1,e2,rfl,hOk',hAn,hLs,hLn,hm,hmc,hcap,hb2⟩;have HB02:=Lib.hid ((HB0.out.set 4 (.int .i64 0) (cs':=({ s with col:=0 } : Scr).vals.toArray) rfl).up hb2);have HB12:=Lib.hid ((HB1.out.away (by omega) _).up hb2);have hbw2 : Bw w w2:=Bw.trans (show Bw w (w1.setCell _ _) from BWX) hb2;have HOk':=Lib.hid hOk';have HAn:=Lib.hid hAn;have HLs:=Lib.hid hLs;have HLn:=Lib.hid hLn;have hz2:=HB12.out.lt;have hz3 : w1.heap.size ≤ w2.heap.size:=(by have:=hb2.size;simpa using this);have HE:=Lib.hid (And.intro e1 e2);clear hOk' hAn hLs hLn hb2 e1 e2)
    | ((with_reducible refine wpList_store_sc s' w.heap.size (.tmp 2) (.tmp 21) rfl rfl ?_ ?_ ?_ ?_);(focus rfl);(focus rfl);(focus (exact ⟨_,HB02.out,rfl⟩));intro w3 hS3 hg3;have HS3:=Lib.hid hS3;have HG3:=Lib.hid hg3;clear hS3 hg3)
    | fail)
   go_meet
   case rel =>
    have hne0 : ∀ ad,s'.A = some ad → ad.block ≠ w.heap.size:=HAn.out.ne (fun ad e => by have:=HAl.out ad e;omega) (by simp;omega)
    have hne1 : ∀ ad,s'.A = some ad → ad.block ≠ w.heap.size + 1:=HAn.out.ne (fun ad e => by have:=HAl.out ad e;omega) (by simp;omega)
    have hnL : ∀ ad,L = some ad → w1.heap.size ≤ ad.block:=fun ad e => by have:=HLn.out ad e;simpa using this
    exact ⟨s',L,m,cap,HE.out.1,HE.out.2,rfl,HS3.out,⟨_,HB12.out.far HG3.out (by simp),rfl⟩,HOk'.out.far HG3.out (ne_some hne0),fun ad e => ⟨hne0 ad e,hne1 ad e⟩,HAn.out.more (by simp;omega),HLs.out.far HG3.out (ne_some (fun ad e => by have:=hnL ad e;omega)),hnL,hm,hmc,hcap,Bw.grown hbw2 HG3.out (fun k hk => by cases hk;omega),Nat.le_trans hz3 HG3.out.size⟩
 case rest =>
 obtain ⟨s',L,m,cap,e1,e2,rfl,hS,hold,hOk',hne,hAn,hLs,hLn,hm,hmc,hcap,hbwc,hzc⟩:=hcut
 obtain ⟨wo,hwo⟩ : ∃ wo : World,wo = wc:=⟨_,rfl⟩
 subst hwo
 have HS:=Lib.hid hS
 have HOld:=Lib.hid hold
 have HOk':=Lib.hid hOk'
 have HNe:=Lib.hid hne
 have HAn:=Lib.hid hAn
 have HLs:=Lib.hid hLs
 have HLn:=Lib.hid hLn
 have HE:=Lib.hid (And.intro e1 e2)
 have hz0:=hS.lt
 have hzo : w.heap.size + 1 < wo.heap.size:=by omega
 have HCel:=Lib.hid (show cellB (nn,s'.f,s'.g,s'.b) = true by unfold cellB;rw [HRu.out,hOk'.2.2.1];rfl)
 have hcur:=hOk'.2.1
 have hCn : s'.Cn ≤ 100:=by rw [e2];exact hsz
 clear hS hold hOk' hne hAn hLs hLn HB0 HB1 x4 z4 e1 e2
 (have x0:=HS.out.cell 0 (v:=.int .i64 (s'.Rn : Int)) rfl;have x1:=HS.out.cell 1 (v:=.int .i64 (s'.Cn : Int)) rfl;have x2:=HS.out.cell 2 (v:=.slice s'.A s'.n s'.c) rfl;have x3:=HS.out.cell 3 (v:=.int .i64 s'.row) rfl;have x4:=HS.out.cell 4 (v:=.int .i64 s'.col) rfl;have x5:=HS.out.cell 5 (v:=.bool s'.wrap) rfl;have x6:=HS.out.cell 6 (v:=.int .i64 s'.f) rfl;have x7:=HS.out.cell 7 (v:=.int .i64 s'.g) rfl;have x8:=HS.out.cell 8 (v:=.int .i64 s'.b) rfl;have x18:=HS.out.cell 18 (v:=.bool s'.now) rfl)
 (have z0:=HS.out.free 0;have z1:=HS.out.free 1;have z2:=HS.out.free 2;have z4:=HS.out.free 4;have z5:=HS.out.free 5)
 obtain ⟨c0,c1,c2,c3⟩:=hcur
 have hways : s'.col = (s'.Cn : Int) - 1 ∨ s'.col < (s'.Cn : Int) - 1:=by omega
 go_upto_region 7 with (first
  | (go_at_call 103;refine (rfill_ok s'.Rn s'.Cn s'.A s'.n s'.c s'.row s'.col (s'.col + 1) nn s'.f s'.g s'.b _ (by exact HOk'.out.1.up BWX) HCel.out).mono ?_;rintro ee wd ⟨A',n',c',rfl,hGd,hnd,hbd⟩;have hbwd : Bw wo wd:=Bw.trans (show Bw wo _ from BWX) hbd;have HGd:=Lib.hid hGd;have HNd:=Lib.hid hnd;have HSd:=Lib.hid (HS.out.up hbwd);have HCd:=Lib.hid (Sb.up (show Sb (wo.alloc (.cells #[.int .i64 s'.row,.int .i64 s'.col,.bool s'.wrap] 40)) wo.heap.size #[.int .i64 s'.row,.int .i64 s'.col,.bool s'.wrap] 40 from heap_at rfl) hbd);have hzd:=HSd.out.lt;have hze:=HCd.out.lt;clear x0 x1 x2 x3 x4 x5 x6 x7 x8 x18 z0 z1 z2 z4 z5;(have x0:=HSd.out.cell 0 (v:=.int .i64 (s'.Rn : Int)) rfl;have x1:=HSd.out.cell 1 (v:=.int .i64 (s'.Cn : Int)) rfl;have x2:=HSd.out.cell 2 (v:=.slice s'.A s'.n s'.c) rfl;have x4:=HSd.out.cell 4 (v:=.int .i64 s'.col) rfl;have x5:=HSd.out.cell 5 (v:=.bool s'.wrap) rfl;have x18:=HSd.out.cell 18 (v:=.bool s'.now) rfl);(have z0:=HSd.out.free 0;have z1:=HSd.out.free 1;have z2:=HSd.out.free 2;have z4:=HSd.out.free 4;have z5:=HSd.out.free 5);have y1:=HCd.out.cell 1 (v:=.int .i64 s'.col) rfl;clear hGd hnd hbd)
  | fail)
 have hneA : ∀ ad,A' = some ad → wo.heap.size ≤ ad.block:=fun ad e => by have:=HNd.out ad e;first|omega|(simp only [szA,szS,szD,szN,plus_size] at this;omega)
 have HneA:=Lib.hid hneA
 have HOld2:=Lib.hid (show ∃ old,Sb wd (w.heap.size + 1) old 46 ∧ old.size = 19 by obtain ⟨old,h1,h2⟩:=HOld.out;exact ⟨old,h1.up hbwd,h2⟩)
 have hne01 : w.heap.size + 1 ≠ w.heap.size:=by omega
 clear hneA
 rcases hways with hq|hq
 ·have hq1 : (s'.col == (s'.Cn : Int) - 1) = true:=by simpa using hq
  clear hq
  go_wp2_with (first
   | ((with_reducible refine wpList_load_sc ({ s'.gr A' n' c' with wrap := !s'.now } : Scr) w.heap.size (.tmp 2) rfl rfl ?_ ?_ ?_);(focus rfl);(focus (exact HSd.out.gr3.set 5 _ rfl)))
   | ((with_reducible refine wpList_store_sc ({ s'.gr A' n' c' with wrap := !s'.now } : Scr) (w.heap.size + 1) (.tmp 4) (.tmp 59) rfl rfl ?_ ?_ ?_ ?_);(focus rfl);(focus rfl);(focus (obtain ⟨old,g1,g2⟩:=HOld2.out;exact ⟨old,((((g1.away hne01 _).away hne01 _).away hne01 _).away hne01 _),g2⟩));intro w3 hS3 hg3;have HS3:=Lib.hid hS3;have HG3:=Lib.hid hg3;clear hS3 hg3)
   | fail)
  refine bodyPost_ret (results_sc2 rfl _ _ (w.heap.size + 1) ({ s'.gr A' n' c' with wrap := !s'.now } : Scr) (by rfl) HS3.out) rfl ?_
  have hA0 : ∀ ad,A' = some ad → ad.block ≠ w.heap.size:=fun ad e => by have:=HneA.out ad e;omega
  have hA1 : ∀ ad,A' = some ad → ad.block ≠ w.heap.size + 1:=fun ad e => by have:=HneA.out ad e;omega
  have hL0 : ∀ ad,L = some ad → ad.block ≠ w.heap.size:=fun ad e => by have:=HLn.out ad e;omega
  have hL1 : ∀ ad,L = some ad → ad.block ≠ w.heap.size + 1:=fun ad e => by have:=HLn.out ad e;omega
  have hO:=HOk'.out.2
  exact ⟨({ s'.gr A' n' c' with wrap := !s'.now } : Scr),L,m,cap,HE.out.1,HE.out.2,rfl,⟨(((((HGd.out.away hA0 _ _).away hA0 _ _).away hA0 _ _).away hA0 _ _)).far HG3.out (ne_some hA1),hO.1,hO.2⟩,.inr (fun ad e => by have:=HneA.out ad e;omega),((((((HLs.out.up hbwd).away hL0 _ _).away hL0 _ _).away hL0 _ _).away hL0 _ _)).far HG3.out (ne_some hL1),(fun ad e => by have:=HLn.out ad e;omega),hm,hmc,hcap,Bw.grown (show Bw w _ from BWX) HG3.out (fun k hk => by cases hk;omega)⟩
 ·have hq1 : (s'.col == (s'.Cn : Int) - 1) = false:=by rw [beq_eq_false_iff_ne];omega
  have hq9:=hq
  clear hq
  go_wp2_with (first
   | ((with_reducible refine wpList_load_sc ({ s'.gr A' n' c' with col:=s'.col + 1,wrap:=false } : Scr) w.heap.size (.tmp 2) rfl rfl ?_ ?_ ?_);(focus rfl);(focus (exact (HSd.out.gr3.set 4 _ rfl).set 5 _ rfl)))
   | ((with_reducible refine wpList_store_sc ({ s'.gr A' n' c' with col:=s'.col + 1,wrap:=false } : Scr) (w.heap.size + 1) (.tmp 4) (.tmp 59) rfl rfl ?_ ?_ ?_ ?_);(focus rfl);(focus rfl);(focus (obtain ⟨old,g1,g2⟩:=HOld2.out;exact ⟨old,(((((g1.away hne01 _).away hne01 _).away hne01 _).away hne01 _).away hne01 _),g2⟩));intro w3 hS3 hg3;have HS3:=Lib.hid hS3;have HG3:=Lib.hid hg3;clear hS3 hg3)
   | fail)
  refine bodyPost_ret (results_sc2 rfl _ _ (w.heap.size + 1) ({ s'.gr A' n' c' with col:=s'.col + 1,wrap:=false } : Scr) (by rfl) HS3.out) rfl ?_
  have hA0 : ∀ ad,A' = some ad → ad.block ≠ w.heap.size:=fun ad e => by have:=HneA.out ad e;omega
  have hA1 : ∀ ad,A' = some ad → ad.block ≠ w.heap.size + 1:=fun ad e => by have:=HneA.out ad e;omega
  have hL0 : ∀ ad,L = some ad → ad.block ≠ w.heap.size:=fun ad e => by have:=HLn.out ad e;omega
  have hL1 : ∀ ad,L = some ad → ad.block ≠ w.heap.size + 1:=fun ad e => by have:=HLn.out ad e;omega
  have hO:=HOk'.out.2
  exact ⟨({ s'.gr A' n' c' with col:=s'.col + 1,wrap:=false } : Scr),L,m,cap,HE.out.1,HE.out.2,rfl,⟨((((((HGd.out.away hA0 _ _).away hA0 _ _).away hA0 _ _).away hA0 _ _).away hA0 _ _)).far HG3.out (ne_some hA1),⟨c0,c1,by show 0 ≤ s'.col + 1;omega,by show s'.col + 1 < (s'.Cn : Int);omega⟩,hO.2⟩,.inr (fun ad e => by have:=HneA.out ad e;omega),(((((((HLs.out.up hbwd).away hL0 _ _).away hL0 _ _).away hL0 _ _).away hL0 _ _).away hL0 _ _)).far HG3.out (ne_some hL1),(fun ad e => by have:=HLn.out ad e;omega),hm,hmc,hcap,Bw.grown (show Bw w _ from BWX) HG3.out (fun k hk => by cases hk;omega)⟩
/-- The call returns a valid screen of the size of s. -/
def ScO (w : World) (s : Scr) (e : Ending) (w' : World) : Prop:=∃ s' : Scr,s'.Rn = s.Rn ∧ s'.Cn = s.Cn ∧ e = .returned (.agg s'.vals.toArray) ∧ s'.Ok w' ∧ An w s.A s'.A ∧ Bw w w'
theorem rscontrol_ok (s : Scr) (nn : Int) (w : World) (hs : s.Ok w) : Calls Tryz.prog 81 #[.agg s.vals.toArray,.int .i64 nn] w (ScL w s):=by
 have HOk:=Lib.hid hs
 have HAl:=Lib.hid hs.1.lt
 clear hs
 go_enter Tryz.func81,Tryz.ntmps81
 go_upto_region 1 with (fail)
 generalize hw1 : (w.alloc (.cells s.vals.toArray 46)).alloc _ = w1
 obtain ⟨hb0,hb1,hbw,hz⟩:=sb2 hw1
 have HB0:=Lib.hid hb0
 have HB1:=Lib.hid hb1
 have hz1 : w.heap.size + 1 < w1.heap.size:=by omega
 have HOk1:=Lib.hid (HOk.out.up hbw)
 have HNe0:=Lib.hid (show ∀ ad,s.A = some ad → ad.block ≠ w.heap.size from fun ad e => by have:=HAl.out ad e;omega)
 have HNe1:=Lib.hid (show ∀ ad,s.A = some ad → ad.block ≠ w.heap.size + 1 from fun ad e => by have:=HAl.out ad e;omega)
 have hne10 : w.heap.size + 1 ≠ w.heap.size:=by omega
 clear hw1 hb0 hb1 hz
 have hways : nn = 8 ∨ nn = 9 ∨ nn = 13 ∨ nn = 10 ∨ nn = 11 ∨ nn = 12 ∨ (¬ nn = 8 ∧ ¬ nn = 9 ∧ ¬ nn = 10 ∧ ¬ nn = 11 ∧ ¬ nn = 12 ∧ ¬ nn = 13):=by omega
 rcases hways with rfl|rfl|rfl|rfl|rfl|rfl|⟨q1,q2,q3,q4,q5,q6⟩
 ·go_upto_region 3 with (fail)
  go_wp2_with (first
   | ((with_reducible refine wpList_load_sc (s) (w.heap.size) (.tmp 2) rfl rfl ?_ ?_ ?_);(focus rfl);(focus (exact HB0.out)))
   | (go_at_call 104;refine (rsmove_ok (s) 4 1 _ (HOk1.out) (by omega)).mono ?_;rintro ee w2 ⟨r2,c2,b2,rfl,hrc2,hb2⟩;have HB12:=Lib.hid ((HB1.out).up hb2);have hbm2:=hb2;have hzm2:=hb2.size;have HRC2:=Lib.hid hrc2;clear hb2 hrc2)
   | ((with_reducible refine wpList_store_sc ({ s with row:=r2,col:=c2,wrap:=b2 } : Scr) (w.heap.size + 1) (.tmp 4) (.tmp 10) rfl rfl ?_ ?_ ?_ ?_);(focus rfl);(focus rfl);(focus (exact ⟨_,HB12.out,rfl⟩));intro w3 hS3 hg3;have HS3:=Lib.hid hS3;have HG3:=Lib.hid hg3;clear hS3 hg3)
   | fail)
  refine bodyPost_ret (results_sc2 rfl _ _ (w.heap.size + 1) ({ s with row:=r2,col:=c2,wrap:=b2 } : Scr) (by rfl) HS3.out) rfl ?_
  exact ⟨({ s with row:=r2,col:=c2,wrap:=b2 } : Scr),none,0,0,rfl,rfl,rfl,((HOk1.out.up hbm2).cur b2 HRC2.out).far HG3.out (ne_some HNe1.out),.inl rfl,Ls.nil_ _ _,(fun ad e => by cases e),by omega,by omega,by omega,Bw.grown (Bw.trans hbw hbm2) HG3.out (fun k hk => by cases hk;omega)⟩
 ·go_upto_region 5 with (fail)
  go_wp2_with (first
   | ((with_reducible refine wpList_load_sc (s) (w.heap.size) (.tmp 2) rfl rfl ?_ ?_ ?_);(focus rfl);(focus (exact HB0.out)))
   | (go_at_call 104;refine (rsmove_ok (s) 8 1 _ (HOk1.out) (by omega)).mono ?_;rintro ee w2 ⟨r2,c2,b2,rfl,hrc2,hb2⟩;have HB12:=Lib.hid ((HB1.out).up hb2);have hbm2:=hb2;have hzm2:=hb2.size;have HRC2:=Lib.hid hrc2;clear hb2 hrc2)
   | ((with_reducible refine wpList_store_sc ({ s with row:=r2,col:=c2,wrap:=b2 } : Scr) (w.heap.size + 1) (.tmp 4) (.tmp 14) rfl rfl ?_ ?_ ?_ ?_);(focus rfl);(focus rfl);(focus (exact ⟨_,HB12.out,rfl⟩));intro w3 hS3 hg3;have HS3:=Lib.hid hS3;have HG3:=Lib.hid hg3;clear hS3 hg3)
   | fail)
  refine bodyPost_ret (results_sc2 rfl _ _ (w.heap.size + 1) ({ s with row:=r2,col:=c2,wrap:=b2 } : Scr) (by rfl) HS3.out) rfl ?_
  exact ⟨({ s with row:=r2,col:=c2,wrap:=b2 } : Scr),none,0,0,rfl,rfl,rfl,((HOk1.out.up hbm2).cur b2 HRC2.out).far HG3.out (ne_some HNe1.out),.inl rfl,Ls.nil_ _ _,(fun ad e => by cases e),by omega,by omega,by omega,Bw.grown (Bw.trans hbw hbm2) HG3.out (fun k hk => by cases hk;omega)⟩
 ·go_upto_region 11 with (fail)
  go_wp2_with (first
   | ((with_reducible refine wpList_load_sc (s) (w.heap.size) (.tmp 2) rfl rfl ?_ ?_ ?_);(focus rfl);(focus (exact HB0.out)))
   | (go_at_call 104;refine (rsmove_ok (s) 5 0 _ (HOk1.out) (by omega)).mono ?_;rintro ee w2 ⟨r2,c2,b2,rfl,hrc2,hb2⟩;have HB12:=Lib.hid ((HB1.out).up hb2);have hbm2:=hb2;have hzm2:=hb2.size;have HRC2:=Lib.hid hrc2;clear hb2 hrc2)
   | ((with_reducible refine wpList_store_sc ({ s with row:=r2,col:=c2,wrap:=b2 } : Scr) (w.heap.size + 1) (.tmp 4) (.tmp 26) rfl rfl ?_ ?_ ?_ ?_);(focus rfl);(focus rfl);(focus (exact ⟨_,HB12.out,rfl⟩));intro w3 hS3 hg3;have HS3:=Lib.hid hS3;have HG3:=Lib.hid hg3;clear hS3 hg3)
   | fail)
  refine bodyPost_ret (results_sc2 rfl _ _ (w.heap.size + 1) ({ s with row:=r2,col:=c2,wrap:=b2 } : Scr) (by rfl) HS3.out) rfl ?_
  exact ⟨({ s with row:=r2,col:=c2,wrap:=b2 } : Scr),none,0,0,rfl,rfl,rfl,((HOk1.out.up hbm2).cur b2 HRC2.out).far HG3.out (ne_some HNe1.out),.inl rfl,Ls.nil_ _ _,(fun ad e => by cases e),by omega,by omega,by omega,Bw.grown (Bw.trans hbw hbm2) HG3.out (fun k hk => by cases hk;omega)⟩
 iterate 3
  ·go_upto_region 9 with (fail)
   go_wp2_with (first
    | ((with_reducible refine wpList_load_sc (s) (w.heap.size) (.tmp 2) rfl rfl ?_ ?_ ?_);(focus rfl);(focus (exact HB0.out)))
    | (go_at_call 102;refine (rsfeed_ok (s) _ (HOk1.out)).mono ?_;rintro ee w2 ⟨s',L,m,cap,e1,e2,rfl,hOk',hAn,hLs,hLn,hm,hmc,hcap,hb2⟩;have HB12:=Lib.hid ((HB1.out).up hb2);have hbm2:=hb2;have hzm2:=hb2.size;have HOk':=Lib.hid hOk';have HAn:=Lib.hid hAn;have HLs:=Lib.hid hLs;have HLn:=Lib.hid hLn;have HE:=Lib.hid (And.intro e1 e2);clear hOk' hAn hLs hLn hb2 e1 e2)
    | ((with_reducible refine wpList_store_sc (s') (w.heap.size + 1) (.tmp 4) (.tmp 21) rfl rfl ?_ ?_ ?_ ?_);(focus rfl);(focus rfl);(focus (exact ⟨_,HB12.out,rfl⟩));intro w3 hS3 hg3;have HS3:=Lib.hid hS3;have HG3:=Lib.hid hg3;clear hS3 hg3)
    | fail)
   refine bodyPost_ret (results_sc2 rfl _ _ (w.heap.size + 1) (s') (by rfl) HS3.out) rfl ?_
   have hAnw : An w s.A s'.A:=HAn.out.more (by omega)
   have hne : ∀ ad,s'.A = some ad → ad.block ≠ w.heap.size + 1:=HAn.out.ne (fun ad e => by have:=HAl.out ad e;omega) (by omega)
   have hnL : ∀ ad,L = some ad → w1.heap.size ≤ ad.block:=fun ad e => by have:=HLn.out ad e;first|omega|(simp at this;omega)
   exact ⟨s',L,m,cap,HE.out.1,HE.out.2,rfl,HOk'.out.far HG3.out (ne_some hne),hAnw,HLs.out.far HG3.out (ne_some (fun ad e => by have:=hnL ad e;omega)),fun ad e => by have:=hnL ad e;omega,hm,hmc,hcap,Bw.grown (Bw.trans hbw hbm2) HG3.out (fun k hk => by cases hk;omega)⟩
 ·have h1 : (nn == 8) = false:=by simpa using q1
  have h2 : (nn == 9) = false:=by simpa using q2
  have h3 : (nn == 10) = false:=by simpa using q3
  have h4 : (nn == 11) = false:=by simpa using q4
  have h5 : (nn == 12) = false:=by simpa using q5
  have h6 : (nn == 13) = false:=by simpa using q6
  clear q1 q2 q3 q4 q5 q6
  go_upto_region 12 with (fail)
  go_wp2_with (first
   | ((with_reducible refine wpList_load_sc (s) (w.heap.size) (.tmp 2) rfl rfl ?_ ?_ ?_);(focus rfl);(focus (exact HB0.out)))
   | ((with_reducible refine wpList_store_sc (s) (w.heap.size + 1) (.tmp 4) (.tmp 27) rfl rfl ?_ ?_ ?_ ?_);(focus rfl);(focus rfl);(focus (exact ⟨_,HB1.out,rfl⟩));intro w3 hS3 hg3;have HS3:=Lib.hid hS3;have HG3:=Lib.hid hg3;clear hS3 hg3)
   | fail)
  refine bodyPost_ret (results_sc2 rfl _ _ (w.heap.size + 1) (s) (by rfl) HS3.out) rfl ?_
  exact ⟨(s),none,0,0,rfl,rfl,rfl,HOk1.out.far HG3.out (ne_some HNe1.out),.inl rfl,Ls.nil_ _ _,(fun ad e => by cases e),by omega,by omega,by omega,Bw.grown (hbw) HG3.out (fun k hk => by cases hk;omega)⟩
theorem rsmargins_ok (s : Scr) (tp bt : Int) (w : World) (hs : s.Ok w) (ht : 1 ≤ tp) (hb9 : -1000000 ≤ bt ∧ bt ≤ 1000000 ∧ tp ≤ 1000000) : Calls Tryz.prog 112 #[.agg s.vals.toArray,.int .i64 tp,.int .i64 bt] w (ScO w s):=by
 obtain ⟨hb7,hb8,hb9⟩:=hb9
 have hR1:=hs.1.1
 have hC1:=hs.1.2.2.1
 have HOk:=Lib.hid hs
 have HAl:=Lib.hid hs.1.lt
 clear hs
 go_enter Tryz.func112,Tryz.ntmps112
 go_upto_region 1 with (fail)
 generalize hw1 : (w.alloc (.cells s.vals.toArray 46)).alloc _ = w1
 obtain ⟨hb0,hb1,hbw,hz⟩:=sb2 hw1
 have HB0:=Lib.hid hb0
 have HB1:=Lib.hid hb1
 have hz1 : w.heap.size + 1 < w1.heap.size:=by omega
 have HOk1:=Lib.hid (HOk.out.up hbw)
 have HNe0:=Lib.hid (show ∀ ad,s.A = some ad → ad.block ≠ w.heap.size from fun ad e => by have:=HAl.out ad e;omega)
 have HNe1:=Lib.hid (show ∀ ad,s.A = some ad → ad.block ≠ w.heap.size + 1 from fun ad e => by have:=HAl.out ad e;omega)
 have hne10 : w.heap.size + 1 ≠ w.heap.size:=by omega
 clear hw1 hb0 hb1 hz
 (have x0:=HB0.out.cell 0 (v:=.int .i64 (s.Rn : Int)) rfl;have x3:=HB0.out.cell 3 (v:=.int .i64 s.row) rfl;have x4:=HB0.out.cell 4 (v:=.int .i64 s.col) rfl;have x5:=HB0.out.cell 5 (v:=.bool s.wrap) rfl;have x9:=HB0.out.cell 9 (v:=.int .i64 s.top) rfl;have x10:=HB0.out.cell 10 (v:=.int .i64 s.bot) rfl)
 (have z3:=HB0.out.free 3;have z4:=HB0.out.free 4;have z5:=HB0.out.free 5;have z9:=HB0.out.free 9;have z10:=HB0.out.free 10)
 have hways : bt ≤ tp ∨ (tp < bt ∧ (s.Rn : Int) < bt) ∨ (tp < bt ∧ bt ≤ (s.Rn : Int)):=by omega
 rcases hways with q1|⟨q1,q2⟩|⟨q1,q2⟩
 ·go_wp2_with (first
   | ((with_reducible refine wpList_load_sc (s) (w.heap.size) (.tmp 3) rfl rfl ?_ ?_ ?_);(focus rfl);(focus (exact HB0.out)))
   | ((with_reducible refine wpList_store_sc (s) (w.heap.size + 1) (.tmp 6) (.tmp 25) rfl rfl ?_ ?_ ?_ ?_);(focus rfl);(focus rfl);(focus (exact ⟨_,HB1.out,rfl⟩));intro w3 hS3 hg3;have HS3:=Lib.hid hS3;have HG3:=Lib.hid hg3;clear hS3 hg3)
   | fail)
  refine bodyPost_ret (results_sc rfl _ _ (w.heap.size + 1) (s) (by rfl) HS3.out) rfl ?_
  exact ⟨(s),rfl,rfl,rfl,HOk1.out.far HG3.out (ne_some HNe1.out),.inl rfl,Bw.grown (hbw) HG3.out (fun k hk => by cases hk;omega)⟩
 ·go_wp2_with (first
   | ((with_reducible refine wpList_load_sc (s) (w.heap.size) (.tmp 3) rfl rfl ?_ ?_ ?_);(focus rfl);(focus (exact HB0.out)))
   | ((with_reducible refine wpList_store_sc (s) (w.heap.size + 1) (.tmp 6) (.tmp 25) rfl rfl ?_ ?_ ?_ ?_);(focus rfl);(focus rfl);(focus (exact ⟨_,HB1.out,rfl⟩));intro w3 hS3 hg3;have HS3:=Lib.hid hS3;have HG3:=Lib.hid hg3;clear hS3 hg3)
   | fail)
  refine bodyPost_ret (results_sc rfl _ _ (w.heap.size + 1) (s) (by rfl) HS3.out) rfl ?_
  exact ⟨(s),rfl,rfl,rfl,HOk1.out.far HG3.out (ne_some HNe1.out),.inl rfl,Bw.grown (hbw) HG3.out (fun k hk => by cases hk;omega)⟩
 ·go_wp2_with (first
   | ((with_reducible refine wpList_load_sc ({ s with top:=tp - 1,bot:=bt - 1,row:=0,col:=0,wrap:=false } : Scr) (w.heap.size) (.tmp 3) rfl rfl ?_ ?_ ?_);(focus rfl);(focus (exact ((((HB0.out.set 9 _ rfl).set 10 _ rfl).set 3 _ rfl).set 4 _ rfl).set 5 _ rfl)))
   | ((with_reducible refine wpList_store_sc ({ s with top:=tp - 1,bot:=bt - 1,row:=0,col:=0,wrap:=false } : Scr) (w.heap.size + 1) (.tmp 6) (.tmp 25) rfl rfl ?_ ?_ ?_ ?_);(focus rfl);(focus rfl);(focus (exact ⟨_,(((((HB1.out).away hne10 _).away hne10 _).away hne10 _).away hne10 _).away hne10 _,rfl⟩));intro w3 hS3 hg3;have HS3:=Lib.hid hS3;have HG3:=Lib.hid hg3;clear hS3 hg3)
   | fail)
  have hO : s.Ok w3:=((((((HOk1.out).away HNe0.out _ _).away HNe0.out _ _).away HNe0.out _ _).away HNe0.out _ _).away HNe0.out _ _).far HG3.out (ne_some HNe1.out)
  refine bodyPost_ret (results_sc rfl _ _ (w.heap.size + 1) ({ s with top:=tp - 1,bot:=bt - 1,row:=0,col:=0,wrap:=false } : Scr) (by rfl) HS3.out) rfl ?_
  exact ⟨({ s with top:=tp - 1,bot:=bt - 1,row:=0,col:=0,wrap:=false } : Scr),rfl,rfl,rfl,⟨hO.1,⟨by show (0 : Int) ≤ 0;omega,by show (0 : Int) < (s.Rn : Int);omega,by show (0 : Int) ≤ 0;omega,by show (0 : Int) < (s.Cn : Int);omega⟩,hO.2.2.1,⟨by show 0 ≤ tp - 1;omega,by show tp - 1 ≤ bt - 1;omega,by show bt - 1 < (s.Rn : Int);omega⟩,hO.2.2.2.2⟩,.inl rfl,Bw.grown (show Bw w _ from BWX) HG3.out (fun k hk => by cases hk;omega)⟩
end Go.Proofs.YteebdjmjeahccaaGreatDoor
