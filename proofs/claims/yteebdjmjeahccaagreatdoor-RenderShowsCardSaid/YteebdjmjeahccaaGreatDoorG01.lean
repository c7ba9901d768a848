/- Parts of the proof, one after the other. -/
import Derived.Test.YteebdjmjeahccaaGreatDoorC01
import Derived.Test.YteebdjmjeahccaaGreatDoorC02
import Derived.Test.YteebdjmjeahccaaGreatDoorC03
import Derived.Test.YteebdjmjeahccaaGreatDoorC04
import Derived.Test.YteebdjmjeahccaaGreatDoorC05
import Derived.Test.YteebdjmjeahccaaGreatDoorC06
import Derived.Test.YteebdjmjeahccaaGreatDoorC07
import Derived.Test.YteebdjmjeahccaaGreatDoorC08
import Derived.Test.YteebdjmjeahccaaGreatDoorC09
import Derived.Test.YteebdjmjeahccaaGreatDoorC10
import Derived.Test.YteebdjmjeahccaaGreatDoorC11
import Derived.Test.YteebdjmjeahccaaGreatDoorC12
import Derived.Test.YteebdjmjeahccaaGreatDoorC13
import Derived.Test.YteebdjmjeahccaaGreatDoorC14
import Derived.Test.YteebdjmjeahccaaGreatDoorC15
import Derived.Test.YteebdjmjeahccaaGreatDoorC16
import Derived.Test.YteebdjmjeahccaaGreatDoorC17
import Derived.Test.YteebdjmjeahccaaGreatDoorC18
import Derived.Test.YteebdjmjeahccaaGreatDoorC19
import Derived.Test.YteebdjmjeahccaaGreatDoorC20
import Derived.Test.YteebdjmjeahccaaGreatDoorC21
import Derived.Test.YteebdjmjeahccaaGreatDoorC22
import Derived.Test.YteebdjmjeahccaaGreatDoorC23
import Derived.Test.YteebdjmjeahccaaGreatDoorC24
import Derived.Test.YteebdjmjeahccaaGreatDoorC25
import Derived.Test.YteebdjmjeahccaaGreatDoorC26
import Derived.Test.YteebdjmjeahccaaGreatDoorC27
import Derived.Test.YteebdjmjeahccaaGreatDoorC28
import Derived.Test.YteebdjmjeahccaaGreatDoorC29
import Derived.Test.YteebdjmjeahccaaGreatDoorC30
import Derived.Test.YteebdjmjeahccaaGreatDoorC31
import Derived.Test.YteebdjmjeahccaaGreatDoorC32
import Derived.Test.YteebdjmjeahccaaGreatDoorC33
import Derived.Test.YteebdjmjeahccaaGreatDoorC34
import Derived.Test.YteebdjmjeahccaaGreatDoorC35
import Derived.Test.YteebdjmjeahccaaGreatDoorC36
import Derived.Test.YteebdjmjeahccaaGreatDoorC37
import Derived.Test.YteebdjmjeahccaaGreatDoorC38
import Derived.Test.YteebdjmjeahccaaGreatDoorC39
import Derived.Test.YteebdjmjeahccaaGreatDoorC40
import Derived.Test.YteebdjmjeahccaaGreatDoorC41
import Derived.Test.YteebdjmjeahccaaGreatDoorC42
import Derived.Test.YteebdjmjeahccaaGreatDoorC43
import Derived.Test.YteebdjmjeahccaaGreatDoorC44
import Derived.Test.YteebdjmjeahccaaGreatDoorC45
import Derived.Test.YteebdjmjeahccaaGreatDoorC46
import Derived.Test.YteebdjmjeahccaaGreatDoorC47
import Derived.Test.YteebdjmjeahccaaGreatDoorC48
import Derived.Deep.RegionHeld3
import Derived.Deep.MidRow
set_option linter.unusedSimpArgs false
set_option linter.unusedVariables false
set_option maxRecDepth 100000
set_option maxHeartbeats 16000000
namespace Go.Proofs.YteebdjmjeahccaaGreatDoor
open Go.RowKit
/-- The call returns the grid of R rows and C columns with the cells cs, in new memory or old. -/
def GrP (w : World) (R C : Int) (cs : List C4) (e : Ending) (w' : World) : Prop :=
 ∃ A n c,e = .returned (.agg #[.int .i64 R,.int .i64 C,.slice A n c]) ∧ Rg w' A n cs ∧ n ≤ c ∧ c ≤ 9223372036854775807 ∧ Bw w w'
theorem GrN.toP {w : World} {R C : Int} {cs : List C4} {e : Ending} {w' : World} (h : GrN w R C cs e w') : GrP w R C cs e w':=by
 obtain ⟨A,n,c,h1,h2,h3,h4,-,h5⟩:=h
 exact ⟨A,n,c,h1,h2,h3,h4,h5⟩
theorem Wb.rg {w : World} {g : Nat} {cs : List C4} (h : Wb w g cs) : Rg w (some ⟨g,0,none⟩) cs.length cs:=⟨rfl,fun _ => ⟨g,0,rfl,fun i hi => by rw [Nat.zero_add];exact h.cells i hi⟩⟩
theorem Wc.rg {w : World} {g : Nat} {cs : List C4} {sp : List Value} (h : Wc w g cs sp) : Rg w (some ⟨g,0,none⟩) cs.length cs:=⟨rfl,fun _ => ⟨g,0,rfl,fun i hi => by rw [Nat.zero_add];exact h.cells i hi⟩⟩
theorem gridB_out {R C : Int} {cs : List C4} (h : gridB R C cs = true) : ∃ Rn Cn : Nat,R = Rn ∧ C = Cn ∧ 1 ≤ Rn ∧ Rn ≤ 30 ∧ 1 ≤ Cn ∧ Cn ≤ 100 ∧ cs.length = Rn * Cn ∧ cs.all cellB = true:=by
 unfold gridB at h
 rw [Bool.and_eq_true] at h
 obtain ⟨h1,h2⟩:=h
 have h3:=of_decide_eq_true h1
 obtain ⟨a,b,c,d,e⟩:=h3
 refine ⟨R.toNat,C.toNat,by omega,by omega,by omega,by omega,by omega,by omega,?_,h2⟩
 have : ((R.toNat * C.toNat : Nat) : Int) = R * C:=by rw [Int.natCast_mul,Int.toNat_of_nonneg (by omega),Int.toNat_of_nonneg (by omega)]
 omega
def scrollG (R C : Int) (cs : List C4) (tp bt num : Int) (d : C4) : List C4:=if gridB R C cs = true ∧ cellB d = true ∧ (0 ≤ tp ∧ tp ≤ bt ∧ bt < R) then tab R.toNat C.toNat (scrollF R.toNat C.toNat cs tp bt (clampS R.toNat num) d) else cs
theorem rscroll_no (R C : Int) (A : Option Addr) (n c : Nat) (cs : List C4) (tp bt num d1 d2 d3 d4 : Int) (w : World) (hr : Rg w A n cs) (hn : n ≤ c) (hc : c ≤ 9223372036854775807) (h : ¬ (gridB R C cs = true ∧ cellB (d1,d2,d3,d4) = true ∧ (0 ≤ tp ∧ tp ≤ bt ∧ bt < R))) :
  Calls Tryz.prog 73 #[.agg #[.int .i64 R,.int .i64 C,.slice A n c],.int .i64 tp,.int .i64 bt,.int .i64 num,.agg #[.int .i64 d1,.int .i64 d2,.int .i64 d3,.int .i64 d4]] w (GrP w R C cs):=by
 have HR:=Lib.hid hr
 clear hr
 cases hv : gridB R C cs
 ·have HV:=Lib.hid hv
  clear h
  go_enter Tryz.func73,Tryz.ntmps73
  go_wp2_with (first
   | (go_at_call 42;refine (rgvalid_any _ _ _ _ _ cs _ (by exact HR.out.up BWX) hn hc).mono ?_;rintro ee wv ⟨rfl,hbv⟩;rw [HV.out];have HB0:=Lib.hid (((Bx.lit (w:=w) (cs:=#[.int .i64 R,.int .i64 C,.slice A n c]) (T:=25) rfl rfl).up (show Bw _ (((w.alloc _).alloc _).alloc _) from BWX)).up hbv);have HB1:=Lib.hid (((Bx.lit (w:=w.alloc (.cells #[.int .i64 R,.int .i64 C,.slice A n c] 25)) (g:=w.heap.size + 1) (cs:=#[.int .i64 d1,.int .i64 d2,.int .i64 d3,.int .i64 d4]) (T:=70) SZX rfl).up (show Bw _ (((w.alloc _).alloc _).alloc _) from BWX)).up hbv);have HB2:=Lib.hid ((Bx.lit (w:=(w.alloc (.cells #[.int .i64 R,.int .i64 C,.slice A n c] 25)).alloc (.cells #[.int .i64 d1,.int .i64 d2,.int .i64 d3,.int .i64 d4] 70)) (g:=w.heap.size + 1 + 1) (cs:=#[.int .i64 0,.int .i64 0,.slice none 0 0]) (T:=25) SZX rfl).up hbv);have hbw0 : Bw w wv:=Bw.trans (show Bw w _ from BWX) hbv;(have x0:=(HB0.out 0 (by simp)).1;have x1:=(HB0.out 1 (by simp)).1;have x2:=(HB0.out 2 (by simp)).1;simp only [List.getElem_cons_zero,List.getElem_cons_succ] at x0 x1 x2);(have y0:=(HB1.out 0 (by simp)).1;have y1:=(HB1.out 1 (by simp)).1;have y2:=(HB1.out 2 (by simp)).1;have y3:=(HB1.out 3 (by simp)).1;simp only [List.getElem_cons_zero,List.getElem_cons_succ] at y0 y1 y2 y3);(have u0:=(HB2.out 0 (by simp)).1;have u1:=(HB2.out 1 (by simp)).1;have u2:=(HB2.out 2 (by simp)).1;have z0:=(HB2.out 0 (by simp)).2;have z1:=(HB2.out 1 (by simp)).2;have z2:=(HB2.out 2 (by simp)).2;simp only [List.getElem_cons_zero,List.getElem_cons_succ] at u0 u1 u2);have hz2:=HB2.out.lt (by simp);clear hbv)
   | (go_at_call 66;refine (rcell_any d1 d2 d3 d4 _).mono ?_;rintro ee wu ⟨rfl,hbc⟩;rw [HCV.out];have HC0:=Lib.hid (HB0.out.up hbc);have HC2:=Lib.hid (HB2.out.up hbc);have hbw1 : Bw w wu:=Bw.trans hbw0 hbc;clear hbc x0 x1 x2 y0 y1 y2 y3 u0 u1 u2 z0 z1 z2 hz2;(have x0:=(HC0.out 0 (by simp)).1;have x1:=(HC0.out 1 (by simp)).1;have x2:=(HC0.out 2 (by simp)).1;simp only [List.getElem_cons_zero,List.getElem_cons_succ] at x0 x1 x2);(have u0:=(HC2.out 0 (by simp)).1;have u1:=(HC2.out 1 (by simp)).1;have u2:=(HC2.out 2 (by simp)).1;have z0:=(HC2.out 0 (by simp)).2;have z1:=(HC2.out 1 (by simp)).2;have z2:=(HC2.out 2 (by simp)).2;simp only [List.getElem_cons_zero,List.getElem_cons_succ] at u0 u1 u2);have hz2:=HC2.out.lt (by simp))
   | fail)
  refine bodyPost_ret (by simp [results,Tryz.results73,go_sem,u0,u1,u2,z0,z1,z2];rfl) rfl ?_
  exact ⟨A,n,c,rfl,HR.out.up BWX,hn,hc,BWX⟩
 ·have HV:=Lib.hid hv
  cases hcv : cellB (d1,d2,d3,d4)
  ·have HCV:=Lib.hid hcv
   clear h
   go_enter Tryz.func73,Tryz.ntmps73
   go_wp2_with (first
    | (go_at_call 42;refine (rgvalid_any _ _ _ _ _ cs _ (by exact HR.out.up BWX) hn hc).mono ?_;rintro ee wv ⟨rfl,hbv⟩;rw [HV.out];have HB0:=Lib.hid (((Bx.lit (w:=w) (cs:=#[.int .i64 R,.int .i64 C,.slice A n c]) (T:=25) rfl rfl).up (show Bw _ (((w.alloc _).alloc _).alloc _) from BWX)).up hbv);have HB1:=Lib.hid (((Bx.lit (w:=w.alloc (.cells #[.int .i64 R,.int .i64 C,.slice A n c] 25)) (g:=w.heap.size + 1) (cs:=#[.int .i64 d1,.int .i64 d2,.int .i64 d3,.int .i64 d4]) (T:=70) SZX rfl).up (show Bw _ (((w.alloc _).alloc _).alloc _) from BWX)).up hbv);have HB2:=Lib.hid ((Bx.lit (w:=(w.alloc (.cells #[.int .i64 R,.int .i64 C,.slice A n c] 25)).alloc (.cells #[.int .i64 d1,.int .i64 d2,.int .i64 d3,.int .i64 d4] 70)) (g:=w.heap.size + 1 + 1) (cs:=#[.int .i64 0,.int .i64 0,.slice none 0 0]) (T:=25) SZX rfl).up hbv);have hbw0 : Bw w wv:=Bw.trans (show Bw w _ from BWX) hbv;(have x0:=(HB0.out 0 (by simp)).1;have x1:=(HB0.out 1 (by simp)).1;have x2:=(HB0.out 2 (by simp)).1;simp only [List.getElem_cons_zero,List.getElem_cons_succ] at x0 x1 x2);(have y0:=(HB1.out 0 (by simp)).1;have y1:=(HB1.out 1 (by simp)).1;have y2:=(HB1.out 2 (by simp)).1;have y3:=(HB1.out 3 (by simp)).1;simp only [List.getElem_cons_zero,List.getElem_cons_succ] at y0 y1 y2 y3);(have u0:=(HB2.out 0 (by simp)).1;have u1:=(HB2.out 1 (by simp)).1;have u2:=(HB2.out 2 (by simp)).1;have z0:=(HB2.out 0 (by simp)).2;have z1:=(HB2.out 1 (by simp)).2;have z2:=(HB2.out 2 (by simp)).2;simp only [List.getElem_cons_zero,List.getElem_cons_succ] at u0 u1 u2);have hz2:=HB2.out.lt (by simp);clear hbv)
    | (go_at_call 66;refine (rcell_any d1 d2 d3 d4 _).mono ?_;rintro ee wu ⟨rfl,hbc⟩;rw [HCV.out];have HC0:=Lib.hid (HB0.out.up hbc);have HC2:=Lib.hid (HB2.out.up hbc);have hbw1 : Bw w wu:=Bw.trans hbw0 hbc;clear hbc x0 x1 x2 y0 y1 y2 y3 u0 u1 u2 z0 z1 z2 hz2;(have x0:=(HC0.out 0 (by simp)).1;have x1:=(HC0.out 1 (by simp)).1;have x2:=(HC0.out 2 (by simp)).1;simp only [List.getElem_cons_zero,List.getElem_cons_succ] at x0 x1 x2);(have u0:=(HC2.out 0 (by simp)).1;have u1:=(HC2.out 1 (by simp)).1;have u2:=(HC2.out 2 (by simp)).1;have z0:=(HC2.out 0 (by simp)).2;have z1:=(HC2.out 1 (by simp)).2;have z2:=(HC2.out 2 (by simp)).2;simp only [List.getElem_cons_zero,List.getElem_cons_succ] at u0 u1 u2);have hz2:=HC2.out.lt (by simp))
    | fail)
   refine bodyPost_ret (by simp [results,Tryz.results73,go_sem,u0,u1,u2,z0,z1,z2];rfl) rfl ?_
   exact ⟨A,n,c,rfl,HR.out.up BWX,hn,hc,BWX⟩
  ·have HCV:=Lib.hid hcv
   have hw : (tp < 0) ∨ (0 ≤ tp ∧ bt < tp) ∨ (0 ≤ tp ∧ tp ≤ bt ∧ R ≤ bt):=by
    rw [hv,hcv] at h
    simp only [true_and] at h
    omega
   clear h hv hcv
   rcases hw with h|⟨h,h2⟩|⟨h,h2,h3⟩
   all_goals
    go_enter Tryz.func73,Tryz.ntmps73
    go_wp2_with (first
     | (go_at_call 42;refine (rgvalid_any _ _ _ _ _ cs _ (by exact HR.out.up BWX) hn hc).mono ?_;rintro ee wv ⟨rfl,hbv⟩;rw [HV.out];have HB0:=Lib.hid (((Bx.lit (w:=w) (cs:=#[.int .i64 R,.int .i64 C,.slice A n c]) (T:=25) rfl rfl).up (show Bw _ (((w.alloc _).alloc _).alloc _) from BWX)).up hbv);have HB1:=Lib.hid (((Bx.lit (w:=w.alloc (.cells #[.int .i64 R,.int .i64 C,.slice A n c] 25)) (g:=w.heap.size + 1) (cs:=#[.int .i64 d1,.int .i64 d2,.int .i64 d3,.int .i64 d4]) (T:=70) SZX rfl).up (show Bw _ (((w.alloc _).alloc _).alloc _) from BWX)).up hbv);have HB2:=Lib.hid ((Bx.lit (w:=(w.alloc (.cells #[.int .i64 R,.int .i64 C,.slice A n c] 25)).alloc (.cells #[.int .i64 d1,.int .i64 d2,.int .i64 d3,.int .i64 d4] 70)) (g:=w.heap.size + 1 + 1) (cs:=#[.int .i64 0,.int .i64 0,.slice none 0 0]) (T:=25) SZX rfl).up hbv);have hbw0 : Bw w wv:=Bw.trans (show Bw w _ from BWX) hbv;(have x0:=(HB0.out 0 (by simp)).1;have x1:=(HB0.out 1 (by simp)).1;have x2:=(HB0.out 2 (by simp)).1;simp only [List.getElem_cons_zero,List.getElem_cons_succ] at x0 x1 x2);(have y0:=(HB1.out 0 (by simp)).1;have y1:=(HB1.out 1 (by simp)).1;have y2:=(HB1.out 2 (by simp)).1;have y3:=(HB1.out 3 (by simp)).1;simp only [List.getElem_cons_zero,List.getElem_cons_succ] at y0 y1 y2 y3);(have u0:=(HB2.out 0 (by simp)).1;have u1:=(HB2.out 1 (by simp)).1;have u2:=(HB2.out 2 (by simp)).1;have z0:=(HB2.out 0 (by simp)).2;have z1:=(HB2.out 1 (by simp)).2;have z2:=(HB2.out 2 (by simp)).2;simp only [List.getElem_cons_zero,List.getElem_cons_succ] at u0 u1 u2);have hz2:=HB2.out.lt (by simp);clear hbv)
     | (go_at_call 66;refine (rcell_any d1 d2 d3 d4 _).mono ?_;rintro ee wu ⟨rfl,hbc⟩;rw [HCV.out];have HC0:=Lib.hid (HB0.out.up hbc);have HC2:=Lib.hid (HB2.out.up hbc);have hbw1 : Bw w wu:=Bw.trans hbw0 hbc;clear hbc x0 x1 x2 y0 y1 y2 y3 u0 u1 u2 z0 z1 z2 hz2;(have x0:=(HC0.out 0 (by simp)).1;have x1:=(HC0.out 1 (by simp)).1;have x2:=(HC0.out 2 (by simp)).1;simp only [List.getElem_cons_zero,List.getElem_cons_succ] at x0 x1 x2);(have u0:=(HC2.out 0 (by simp)).1;have u1:=(HC2.out 1 (by simp)).1;have u2:=(HC2.out 2 (by simp)).1;have z0:=(HC2.out 0 (by simp)).2;have z1:=(HC2.out 1 (by simp)).2;have z2:=(HC2.out 2 (by simp)).2;simp only [List.getElem_cons_zero,List.getElem_cons_succ] at u0 u1 u2);have hz2:=HC2.out.lt (by simp))
     | fail)
    refine bodyPost_ret (by simp [results,Tryz.results73,go_sem,u0,u1,u2,z0,z1,z2];rfl) rfl ?_
    exact ⟨A,n,c,rfl,HR.out.up BWX,hn,hc,BWX⟩
theorem rscroll_any (R C : Int) (A : Option Addr) (n c : Nat) (cs : List C4) (tp bt num d1 d2 d3 d4 : Int) (w : World) (hr : Rg w A n cs) (hn : n ≤ c) (hc : c ≤ 9223372036854775807) :
  Calls Tryz.prog 73 #[.agg #[.int .i64 R,.int .i64 C,.slice A n c],.int .i64 tp,.int .i64 bt,.int .i64 num,.agg #[.int .i64 d1,.int .i64 d2,.int .i64 d3,.int .i64 d4]] w (GrP w R C (scrollG R C cs tp bt num (d1,d2,d3,d4))):=by
 by_cases h : gridB R C cs = true ∧ cellB (d1,d2,d3,d4) = true ∧ (0 ≤ tp ∧ tp ≤ bt ∧ bt < R)
 ·rw [show scrollG R C cs tp bt num (d1,d2,d3,d4) = _ from if_pos h]
  obtain ⟨Rn,Cn,rfl,rfl,h1,h2,h3,h4,hl,-⟩:=gridB_out h.1
  rw [Int.toNat_natCast,Int.toNat_natCast]
  exact (rscroll_go Rn Cn A n c cs tp bt num d1 d2 d3 d4 w h1 h2 h3 h4 (by rw [← hr.1];exact hl) hr hn hc h.1 h.2.1 h.2.2.1 h.2.2.2.1 h.2.2.2.2).mono fun _ _ h9 => h9.toP
 ·rw [show scrollG R C cs tp bt num (d1,d2,d3,d4) = _ from if_neg h]
  exact rscroll_no R C A n c cs tp bt num d1 d2 d3 d4 w hr hn hc h
theorem mterm_dk8 (b : Nat) (A : Option Addr) (n c : Nat) (xs : List Int) (w : World) (hD : Dk2 w b A n c xs) : Calls Tryz.prog 19 #[.pointer (some ⟨b,0,none⟩)] w fun e w' => ∃ t : Trm,e = .returned (.agg t.vals.toArray) ∧ t.Ok w' 100000000 ∧ (1 ≤ t.s.Rn ∧ t.s.Rn ≤ 5 ∧ 1 ≤ t.s.Cn ∧ t.s.Cn ≤ 9) ∧ (∀ ad,t.s.A = some ad → w.heap.size ≤ ad.block) ∧ Dk2 w' b A n c xs ∧ w.grownBy w' (some b):=by
 have hbz : b < w.heap.size:=hD.1.1
 go_enter Tryz.func19,Tryz.ntmps19
 go_upto_region 1 with (fail)
 generalize hw1 : w.alloc _ = w1
 obtain ⟨hb0,hbw,hz⟩:=sb1 hw1
 have HO1:=Lib.hid (show Ob w1 w.heap.size from ⟨_,hb0,rfl,fun i x h => by have:=Array.mem_of_getElem? h;simp at this⟩)
 have hz1 : w.heap.size < w1.heap.size:=by omega
 have HD1:=Lib.hid (hD.up hbw)
 clear hw1 hb0 hz hD
 go_wp2_with fail
 refine (mrange_dk2 b A n c 1 5 xs _ HD1.out (by omega) (by omega) (by omega)).mono ?_
 rintro e w2 ⟨R,rfl,hR1,hR2,hD2,hg2⟩
 go_wp2_with fail
 refine (mrange_dk2 b A n c 1 9 xs _ hD2 (by omega) (by omega) (by omega)).mono ?_
 rintro e w3 ⟨C,rfl,hC1,hC2,hD3,hg3⟩
 go_wp2_with fail
 refine (mnext_dk2 b A n c 4 xs _ hD3 (by omega) (by omega)).mono ?_
 rintro e w4 ⟨K,rfl,hK1,hK2,hD4,hg4⟩
 have hg14:=(hg2.trans hg3).trans hg4
 have HO4:=Lib.hid (HO1.out.far hg14 (by intro e;have:=Option.some.inj e;omega))
 have HG4:=Lib.hid ((grown_bw hbw (some b)).trans hg14)
 have HD4:=Lib.hid hD4
 have hz4 : w.heap.size < w4.heap.size:=by have:=hg14.size;omega
 clear hD2 hD3 hD4 hg2 hg3 hg4 hg14 HO1 HD1 hbw hz1
 go_upto_region 2 with (first
  | (go_at_call 25;refine (rnew19_ok R C K _ (by omega)).mono ?_;rintro ee w5 ⟨t,rfl,hOk,e1,e2,hN,hH,hb5⟩;have HOk:=Lib.hid hOk;have HN:=Lib.hid hN;have HE:=Lib.hid (And.intro e1 e2);have HB5:=Lib.hid hb5;have HH:=Lib.hid hH;have hz5:=hb5.size;clear hOk hN e1 e2 hb5 hH)
  | ((with_reducible refine wpList_store_tr t w5.heap.size (.tmp 3) (.tmp 11) rfl rfl ?_ ?_ ?_ ?_);(focus rfl);(focus rfl);(focus (exact ⟨_,heap_at rfl,rfl⟩));intro w6 hS6 hg6;have HS6:=Lib.hid hS6;have HG6:=Lib.hid hg6;clear hS6 hg6)
  | fail)
 have hg6:=HG6.out
 have hb56 : Bw w5 w6:=Bw.grown (show Bw w5 (w5.alloc _) from BWX) hg6 (fun k hk => by cases hk;omega)
 have hb46 : Bw w4 w6:=Bw.trans HB5.out hb56
 obtain ⟨Rn,hRn⟩ : ∃ Rn,t.s.Rn = Rn:=⟨_,rfl⟩
 obtain ⟨Cn,hCn⟩ : ∃ Cn,t.s.Cn = Cn:=⟨_,rfl⟩
 have hR:=HE.out.1
 have hC:=HE.out.2
 rw [hRn,clamp_id (by omega) (by omega)] at hR
 rw [hCn,clamp_id (by omega) (by omega)] at hC
 have HT6:=Lib.hid (show TmR w b A n c xs w5.heap.size Rn Cn (46200000 * 0) w6 from ⟨t,HS6.out,Trm.Ok.more (HOk.out.up hb56) (by omega),hRn,hCn,fun ad e => by have h1:=HN.out ad e;have h2:=HOk.out.1.1.lt ad e;omega,fun h0 ad e => absurd (HH.out.symm.trans e) (by simp),HD4.out.up hb46,grown_bw2 HG4.out hb46,HO4.out.up hb46,by omega,HS6.out.lt⟩)
 obtain ⟨g3,hg3⟩ : ∃ g3,w5.heap.size = g3:=⟨_,rfl⟩
 rw [hg3] at HT6
 simp only [hg3]
 clear HS6 HG6 hg6 hb56 hb46 HOk HN HE HB5 HH HD4 HO4 HG4 hg3 hz4 hz5 hRn hCn
 have hD_:=HT6.out.choose_spec.2.2.2.2.2.2.1
 go_wp2_with fail
 refine (mnext_dk2 b A n c 3 xs _ hD_ (by omega) (by omega)).mono ?_
 rintro e w7 ⟨q0,rfl,hq1,hq2,hD7,hg7⟩
 have HT7:=Lib.hid (HT6.out.deck hbz hD7 hg7)
 clear hD7 hg7 hD_ HT6
 go_wp2_with fail
 go_loopw [4] (fun v4 wr => ∃ q : Nat,v4 = .int .i64 q ∧ q ≤ 2 ∧ TmR w b A n c xs g3 Rn Cn (46200000 * (2 - (q : Int))) wr) (fun v4 _ => (intOf v4).toNat)
 case atStart =>
  obtain ⟨t',h1,h2,h3⟩:=HT7.out
  exact ⟨q0.toNat,by rw [Int.toNat_of_nonneg hq1],by omega,t',h1,Trm.Ok.more h2 (by omega),h3⟩
 case round =>
  rename_i wr
  obtain ⟨q,rfl,hq,hT⟩:=hrel
  obtain ⟨t',h1,h2,h3,h4,h5,h6,h7,h8,h9,h10,h11⟩:=hT
  have H1:=Lib.hid h1
  have H2:=Lib.hid h2
  have H5:=Lib.hid h5
  have H6:=Lib.hid h6
  have H7:=Lib.hid h7
  have H8:=Lib.hid h8
  have H9:=Lib.hid h9
  have H34:=Lib.hid (And.intro h3 h4)
  clear h1 h2 h3 h4 h5 h6 h7 h8 h9
  by_cases hq0 : q = 0
  ·subst hq0
   go_wp2_with (first
    | ((with_reducible refine wpList_load_tr t' g3 (.tmp 3) rfl rfl ?_ ?_ ?_);(focus rfl);(focus (exact H1.out)))
    | ((with_reducible refine wpList_store_tr t' w.heap.size (.tmp 2) (.tmp 22) rfl rfl ?_ ?_ ?_ ?_);(focus rfl);(focus rfl);(focus (exact Exists.elim H9.out (fun old h => ⟨old,h.1,h.2.1⟩)));intro we hS5 hg5;have HS5:=Lib.hid hS5;have HG5:=Lib.hid hg5;clear hS5 hg5)
    | fail)
   refine bodyPost_ret (results_tr rfl _ _ w.heap.size t' (by rfl) HS5.out) rfl ?_
   obtain ⟨oldb,hob,_,hne8⟩:=H9.out
   have hge:=HG5.out
   have hbz2:=h10
   exact ⟨t',rfl,Trm.Ok.more (H2.out.far hge (fun ad e e2 => by have:=(H5.out ad e).1;have e3:=Option.some.inj e2;omega) (fun h0 => H2.out.2.1.1.ne_sbf h0 hob hne8) (H2.out.2.2.2.1.ne hob (by decide)) (fun h0 ad e e2 => by have:=(H6.out h0 ad e).1;have e3:=Option.some.inj e2;omega)) (by omega),by have:=H34.out;omega,fun ad e => by have:=(H5.out ad e).1;omega,H7.out.grown hge hbz,grown_more H8.out hge (fun k hk => by cases hk;omega)⟩
  ·have hqp : (0 : Int) < (q : Int):=by omega
   go_upto_region 5 with (fail)
   refine wp_region_held_drew (S:=(fun w' => True)) (by kernel_rfl) ?_ (fun hHeld => ?_)
   ·(try dsimp only);skip
   refine tkQ 1 ?_
   (try simp only [Act.put,zP1,zP2,zP3,zP4,zP5,zP6])
   refine wpAnyH_ready (rs:=[0,2]) (by kernel_rfl) (by simp) ?_
   refine AllReadyH.cons rfl (fun K hK => ?_) ?_
   ·(refine (if_pos (by kernel_rfl)).mpr ?_);(first|((with_reducible refine wp_load_tr t' g3 (.tmp 3) ?_ ?_ ?_ ?_);(focus rfl);(focus rfl);(focus (exact H1.out.up (Bw.drew (Bw.refl _)))))|((with_reducible refine wp_load_tr t' g3 (.tmp 3) ?_ ?_ ?_ ?_);(focus rfl);(focus rfl);(focus (exact (H1.out.up (Bw.drew (Bw.refl _))).far HGB.out hg3b))))
    refine hK.out _ _ ?_ (fun hHeld => ?_)
    ·(try dsimp only);skip
    clear hK K
    (try simp only [Act.put,zP1,zP2,zP3,zP4,zP5,zP6])
    refine arO 2 (fun K hK => ?_)
    go_simp
    refine (mbytes_dk b A n c xs _ (H7.out.up (show Bw wr wr.drew from Bw.drew (Bw.refl _)))).mono ?_;rintro ee wb ⟨vb,rfl,hMB⟩;obtain ⟨bs,m1,m2,m3,m4,m5⟩:=hMB;obtain ⟨Db,cb,rfl,mb1,mb2⟩:=own_form m1;have HM1:=Lib.hid m1;have HM4:=Lib.hid m4;have HGB:=Lib.hid m5;have hzb : wr.heap.size ≤ wb.heap.size:=m5.size;have hg3b : some g3 ≠ some b:=(by intro e;have:=Option.some.inj e;omega);have HM2:=Lib.hid m2;have HOb:=Lib.hid ((H2.out.up (show Bw wr wr.drew from Bw.drew (Bw.refl _))).deck (H7.out.up (show Bw wr wr.drew from Bw.drew (Bw.refl _))) m5 (fun ad e => by have:=H5.out ad e;omega) (fun h0 ad e => by have:=H6.out h0 ad e;omega));clear m1 m2 m4 m5;go_wp2_with fail
    refine hK.out _ _ ?_ (fun hHeld => ?_)
    ·(try dsimp only);skip
    clear hK K
    (try simp only [Act.put,zP1,zP2,zP3,zP4,zP5,zP6])
    refine arO 3 (fun K hK => ?_)
    go_simp
    refine (rfeed_ok t' _ Db bs.length cb bs _ HOb.out ⟨by omega,by omega⟩ (by exact own_rd HM1.out) mb1 mb2 (by omega) HM2.out).mono ?_;rintro ee wf ⟨t2,rfl,f1,f2,f3,f4,f5,f6,f7⟩;have F1:=Lib.hid f1;have F2:=Lib.hid (And.intro f2 f3);have F5:=Lib.hid f5;have F6:=Lib.hid f6;have F7:=Lib.hid f7;clear f1 f2 f3 f4 f5 f6 f7;go_wp2_with fail
    refine hK.out _ _ ?_ (fun hHeld => ?_)
    ·(try dsimp only);skip
    clear hK K
    (try simp only [Act.put,zP1,zP2,zP3,zP4,zP5,zP6])
    refine arO 4 (fun K hK => ?_)
    (refine (if_pos (by kernel_rfl)).mpr ?_);((with_reducible refine wp_store_tr t2 g3 (.tmp 3) (.tmp 21) ?_ ?_ ?_ ?_ ?_);(focus rfl);(focus rfl);(focus rfl);(focus (exact ⟨_,((H1.out.up (Bw.drew (Bw.refl _))).far HGB.out hg3b).up F7.out,rfl⟩)));intro w3 hS3 hg3';have HS3:=Lib.hid hS3;have HG3:=Lib.hid hg3';clear hS3 hg3'
    refine hK.out _ _ ?_ (fun hHeld => ?_)
    ·(try dsimp only);skip
    clear hK K
    (try simp only [Act.put,zP1,zP2,zP3,zP4,zP5,zP6])
    refine wpAnyH_done (by kernel_rfl) ?_ _
    go_wp2_with fail
    go_roundw
    case rel =>
     have hg3g:=HG3.out
     have hb7:=F7.out
     have hs7:=hb7.size
     have hT1:=((H1.out.up (show Bw wr wr.drew from Bw.drew (Bw.refl _))).far HGB.out hg3b).up hb7
     have hA2 : ∀ ad,t2.s.A = some ad → w.heap.size < ad.block ∧ ad.block ≠ g3:=fun ad e => by
      rcases F5.out with h|h
      ·exact H5.out ad (by rw [← h];exact e)
      ·have:=h ad e
       omega
     have hH2 : 0 < t2.Hn → ∀ ad,t2.HA = some ad → w.heap.size < ad.block ∧ ad.block ≠ g3:=fun h0 ad e => by
      rcases F6.out with h|h
      ·exact H6.out (by rw [← h.2];exact h0) ad (by rw [← h.1];exact e)
      ·have:=h ad e
       omega
     refine ⟨q - 1,by congr 1;omega,by omega,t2,HS3.out,Trm.Ok.more (F1.out.far hg3g (fun ad e e2 => (hA2 ad e).2 (Option.some.inj e2)) (fun h0 => F1.out.2.1.1.ne_sbf h0 hT1 t'.no8) (F1.out.2.2.2.1.ne hT1 (by decide)) (fun h0 ad e e2 => (hH2 h0 ad e).2 (Option.some.inj e2))) (by omega),F2.out.1.trans H34.out.1,F2.out.2.trans H34.out.2,hA2,hH2,(HM4.out.up hb7).grown hg3g (by omega),grown_more (grown_bw2 ((H8.out.trans (grown_bw (show Bw wr wr.drew from Bw.drew (Bw.refl _)) (some b))).trans HGB.out) hb7) hg3g (fun k hk => by cases hk;omega),(((H9.out.up (show Bw wr wr.drew from Bw.drew (Bw.refl _))).far HGB.out (by intro e;have:=Option.some.inj e;omega)).up hb7).far hg3g (by intro e;have:=Option.some.inj e;omega),h10,by have:=hg3g.size;omega⟩
    case measure => simp [intOf];omega
   refine AllReadyH.cons rfl (fun K hK => ?_) ?_
   ·go_simp
    refine (mbytes_dk b A n c xs _ (H7.out.up (show Bw wr wr.drew from Bw.drew (Bw.refl _)))).mono ?_;rintro ee wb ⟨vb,rfl,hMB⟩;obtain ⟨bs,m1,m2,m3,m4,m5⟩:=hMB;obtain ⟨Db,cb,rfl,mb1,mb2⟩:=own_form m1;have HM1:=Lib.hid m1;have HM4:=Lib.hid m4;have HGB:=Lib.hid m5;have hzb : wr.heap.size ≤ wb.heap.size:=m5.size;have hg3b : some g3 ≠ some b:=(by intro e;have:=Option.some.inj e;omega);have HM2:=Lib.hid m2;have HOb:=Lib.hid ((H2.out.up (show Bw wr wr.drew from Bw.drew (Bw.refl _))).deck (H7.out.up (show Bw wr wr.drew from Bw.drew (Bw.refl _))) m5 (fun ad e => by have:=H5.out ad e;omega) (fun h0 ad e => by have:=H6.out h0 ad e;omega));clear m1 m2 m4 m5;go_wp2_with fail
    refine hK.out _ _ ?_ (fun hHeld => ?_)
    ·(try dsimp only);skip
    clear hK K
    (try simp only [Act.put,zP1,zP2,zP3,zP4,zP5,zP6])
    refine arO 0 (fun K hK => ?_)
    (refine (if_pos (by kernel_rfl)).mpr ?_);(first|((with_reducible refine wp_load_tr t' g3 (.tmp 3) ?_ ?_ ?_ ?_);(focus rfl);(focus rfl);(focus (exact H1.out.up (Bw.drew (Bw.refl _)))))|((with_reducible refine wp_load_tr t' g3 (.tmp 3) ?_ ?_ ?_ ?_);(focus rfl);(focus rfl);(focus (exact (H1.out.up (Bw.drew (Bw.refl _))).far HGB.out hg3b))))
    refine hK.out _ _ ?_ (fun hHeld => ?_)
    ·(try dsimp only);skip
    clear hK K
    (try simp only [Act.put,zP1,zP2,zP3,zP4,zP5,zP6])
    refine arO 3 (fun K hK => ?_)
    go_simp
    refine (rfeed_ok t' _ Db bs.length cb bs _ HOb.out ⟨by omega,by omega⟩ (by exact own_rd HM1.out) mb1 mb2 (by omega) HM2.out).mono ?_;rintro ee wf ⟨t2,rfl,f1,f2,f3,f4,f5,f6,f7⟩;have F1:=Lib.hid f1;have F2:=Lib.hid (And.intro f2 f3);have F5:=Lib.hid f5;have F6:=Lib.hid f6;have F7:=Lib.hid f7;clear f1 f2 f3 f4 f5 f6 f7;go_wp2_with fail
    refine hK.out _ _ ?_ (fun hHeld => ?_)
    ·(try dsimp only);skip
    clear hK K
    (try simp only [Act.put,zP1,zP2,zP3,zP4,zP5,zP6])
    refine arO 4 (fun K hK => ?_)
    (refine (if_pos (by kernel_rfl)).mpr ?_);((with_reducible refine wp_store_tr t2 g3 (.tmp 3) (.tmp 21) ?_ ?_ ?_ ?_ ?_);(focus rfl);(focus rfl);(focus rfl);(focus (exact ⟨_,((H1.out.up (Bw.drew (Bw.refl _))).far HGB.out hg3b).up F7.out,rfl⟩)));intro w3 hS3 hg3';have HS3:=Lib.hid hS3;have HG3:=Lib.hid hg3';clear hS3 hg3'
    refine hK.out _ _ ?_ (fun hHeld => ?_)
    ·(try dsimp only);skip
    clear hK K
    (try simp only [Act.put,zP1,zP2,zP3,zP4,zP5,zP6])
    refine wpAnyH_done (by kernel_rfl) ?_ _
    go_wp2_with fail
    go_roundw
    case rel =>
     have hg3g:=HG3.out
     have hb7:=F7.out
     have hs7:=hb7.size
     have hT1:=((H1.out.up (show Bw wr wr.drew from Bw.drew (Bw.refl _))).far HGB.out hg3b).up hb7
     have hA2 : ∀ ad,t2.s.A = some ad → w.heap.size < ad.block ∧ ad.block ≠ g3:=fun ad e => by
      rcases F5.out with h|h
      ·exact H5.out ad (by rw [← h];exact e)
      ·have:=h ad e
       omega
     have hH2 : 0 < t2.Hn → ∀ ad,t2.HA = some ad → w.heap.size < ad.block ∧ ad.block ≠ g3:=fun h0 ad e => by
      rcases F6.out with h|h
      ·exact H6.out (by rw [← h.2];exact h0) ad (by rw [← h.1];exact e)
      ·have:=h ad e
       omega
     refine ⟨q - 1,by congr 1;omega,by omega,t2,HS3.out,Trm.Ok.more (F1.out.far hg3g (fun ad e e2 => (hA2 ad e).2 (Option.some.inj e2)) (fun h0 => F1.out.2.1.1.ne_sbf h0 hT1 t'.no8) (F1.out.2.2.2.1.ne hT1 (by decide)) (fun h0 ad e e2 => (hH2 h0 ad e).2 (Option.some.inj e2))) (by omega),F2.out.1.trans H34.out.1,F2.out.2.trans H34.out.2,hA2,hH2,(HM4.out.up hb7).grown hg3g (by omega),grown_more (grown_bw2 ((H8.out.trans (grown_bw (show Bw wr wr.drew from Bw.drew (Bw.refl _)) (some b))).trans HGB.out) hb7) hg3g (fun k hk => by cases hk;omega),(((H9.out.up (show Bw wr wr.drew from Bw.drew (Bw.refl _))).far HGB.out (by intro e;have:=Option.some.inj e;omega)).up hb7).far hg3g (by intro e;have:=Option.some.inj e;omega),h10,by have:=hg3g.size;omega⟩
    case measure => simp [intOf];omega
   exact AllReadyH.nil
theorem tab_len (Rn Cn : Nat) (F : Nat → Nat → C4) : (tab Rn Cn F).length = Rn * Cn:=tabK_len _ _ _
theorem tab_get {Rn Cn : Nat} (F : Nat → Nat → C4) (i : Nat) (hi : i < (tab Rn Cn F).length) : (tab Rn Cn F)[i] = F (i / Cn) (i % Cn):=by
 simp [tab,tabK]
/-- A grid's cells. -/
def grV (R C : Int) (A : Option Addr) (n c : Nat) : Array Value:=#[.int .i64 R,.int .i64 C,.slice A n c]
theorem infoGr : (Tryz.prog.info? 25).map (·.size) = some 3:=by kernel_rfl
theorem grV_one (R C : Int) (A : Option Addr) (n c : Nat) : (grV R C A n c).all (·.oneCell') = true:=all_oneCell_toArray (fun v hv => by
 simp only [List.mem_cons,List.not_mem_nil,or_false] at hv
 rcases hv with rfl|rfl|rfl <;> rfl)
theorem wpList_store_gr {ops : Array Oper} {rest : List Oper} {o : Oper} {a : Act} {w : World} {Q : Exit → Act → World → Prop} (R C : Int) (A : Option Addr) (n c : Nat) (g : Nat) (x y : Operand) (ho : o.op = .store 25 x y) (hgd : o.guard = none)
  (hx : a.eval x = .pointer (some ⟨g,0,none⟩)) (hy : a.eval y = .agg (grV R C A n c)) (hg : ∃ old,Sb w g old 25 ∧ old.size = 3)
  (h : ∀ w',Sb w' g (grV R C A n c) 25 → w.grownBy w' (some g) → wpList Tryz.prog ops Q rest (a.put o.dst undef) w') : wpList Tryz.prog ops Q (o :: rest) a w :=
 wpList_store_cs 25 (grV R C A n c) g x y infoGr (grV_one R C A n c) ho hgd hx hy hg h
theorem results_gr {fn : Func} {p : Tmp} (h : fn.results = #[.cell p 25]) (tmps : Array Value) (w : World) (g : Nat) (R C : Int) (A : Option Addr) (n c : Nat) (hp : tmps.getD p undef = .pointer (some ⟨g,0,none⟩)) (hg : Sb w g (grV R C A n c) 25) :
  (results fn tmps).run Tryz.prog w = .ok (.agg #[.int .i64 R,.int .i64 C,.slice A n c]) w:=results_cell_row h tmps w g 25 (grV R C A n c) (0,0) _ hp hg Tryz.underlying25 rfl infoGr
/-- A cell of a grid in another size. -/
def resF (Rn Cn : Nat) (cs : List C4) (r k : Nat) : C4:=atF Rn Cn cs r k blk
def rsR (R C : Int) (cs : List C4) (rows : Int) : Int:=if gridB R C cs = true then clamp rows 30 else R
def rsC (R C : Int) (cs : List C4) (cols : Int) : Int:=if gridB R C cs = true then clamp cols 100 else C
def rsG (R C : Int) (cs : List C4) (rows cols : Int) : List C4:=if gridB R C cs = true then tab (clamp rows 30).toNat (clamp cols 100).toNat (resF R.toNat C.toNat cs) else cs
def cellsTo (C' n' m : Nat) (F : Nat → Nat → C4) : List C4:=(List.range n').map fun j => if j < m then F (j / C') (j % C') else blk
theorem cellsTo_len (C' n' m : Nat) (F : Nat → Nat → C4) : (cellsTo C' n' m F).length = n':=by unfold cellsTo;simp
theorem cellsTo_zero (C' n' : Nat) (F : Nat → Nat → C4) : cellsTo C' n' 0 F = List.replicate n' blk:=by
 refine List.ext_getElem (by rw [cellsTo_len];simp) (fun i h1 h2 => ?_)
 simp [cellsTo]
theorem cellsTo_all (R' C' : Nat) (F : Nat → Nat → C4) : cellsTo C' (R' * C') (R' * C') F = tab R' C' F:=by
 refine List.ext_getElem (by rw [cellsTo_len,tab_len]) (fun i h1 h2 => ?_)
 rw [tab_get]
 rw [tab_len] at h2
 simp [cellsTo,h2]
theorem cellsTo_set {C' n' m : Nat} (F : Nat → Nat → C4) (h : m < n') : (cellsTo C' n' m F).set m (F (m / C') (m % C')) = cellsTo C' n' (m + 1) F:=by
 refine List.ext_getElem (by rw [List.length_set,cellsTo_len,cellsTo_len]) (fun i h1 h2 => ?_)
 rw [List.getElem_set]
 simp only [cellsTo,List.getElem_map,List.getElem_range]
 by_cases e : m = i
 ·subst e
  rw [if_pos rfl,if_pos (by omega)]
 ·rw [if_neg e]
  by_cases h3 : i < m
  ·rw [if_pos h3,if_pos (by omega)]
  ·rw [if_neg h3,if_neg (by omega)]
theorem rrow_own (R C : Int) (A : Option Addr) (n c : Nat) (cs : List C4) (row : Int) (w : World) (hr : Rg w A n cs) (hn : n ≤ c) (hn3 : n ≤ 4398046511103) (hc : c ≤ 9223372036854775807) :
  Calls Tryz.prog 37 #[.agg #[.int .i64 R,.int .i64 C,.slice A n c],.int .i64 row] w (RwO w (rowF R C cs row)):=by
 have HR:=Lib.hid hr
 clear hr
 obtain ⟨q,hq⟩ : ∃ q,(n : Int) / C = q:=⟨_,rfl⟩
 have hz : row < 0 ∨ (0 ≤ row ∧ R ≤ row) ∨ ((0 ≤ row ∧ row < R) ∧ C < 1) ∨ ((0 ≤ row ∧ row < R) ∧ 1 ≤ C ∧ q ≤ row) ∨ ((0 ≤ row ∧ row < R) ∧ 1 ≤ C ∧ row < q):=by omega
 have hqb : 1 ≤ C → 0 ≤ q ∧ q ≤ n:=fun h => by rw [← hq];exact ⟨Int.ediv_nonneg (by omega) (by omega),Int.ediv_le_self _ (by omega)⟩
 rcases hz with h|⟨h1,h2⟩|⟨⟨h1,h2⟩,h3⟩|⟨⟨h1,h2⟩,h3,h4⟩|⟨⟨h1,h2⟩,h3,h4⟩
 iterate 4
  ·have HE:=Lib.hid (show rowF R C cs row = [] from if_neg (by rw [HR.out.1,hq];omega))
   (try have hqq:=hqb h3;obtain ⟨hq0,hq1⟩:=hqq)
   clear hqb
   go_enter Tryz.func37,Tryz.ntmps37
   go_wp2_with fail
   go_ret
   exact ⟨none,0,0,rfl,by rw [HE.out];rfl,by rw [HE.out];exact World.ownsRow_nil _ _ _ _,BWX⟩
 obtain ⟨hq0,hq1⟩:=hqb h3
 clear hqb
 obtain ⟨Cn,rfl⟩ : ∃ Cn : Nat,C = Cn:=⟨C.toNat,by omega⟩
 have hm : (row + 1) * (Cn : Int) ≤ n:=(Int.le_ediv_iff_mul_le (by omega)).1 (by rw [hq];omega)
 obtain ⟨p,hp⟩ : ∃ p : Nat,row * (Cn : Int) = p:=⟨(row * (Cn : Int)).toNat,by have:=Int.mul_nonneg h1 (show (0 : Int) ≤ Cn by omega);omega⟩
 have hp2 : (row + 1) * (Cn : Int) = ((p + Cn : Nat) : Int):=by rw [Int.add_mul,hp];omega
 have hpn : p + Cn ≤ n:=by rw [hp2] at hm;omega
 have HE:=Lib.hid (show rowF R (Cn : Int) cs row = (cs.drop p).take Cn by unfold rowF;rw [if_pos (by rw [HR.out.1,hq];omega),hp];rfl)
 obtain ⟨j0,hj,hj0,hj1,hj2⟩:=info_parts infoC
 obtain ⟨g,o,rfl,hx⟩:=HR.out.2 (by omega)
 have HS:=Lib.hid (HR.out.sub p Cn hpn)
 have hC1 : 1 ≤ Cn:=by omega
 have hpc : p < c:=by omega
 have hb1 : (0 : Int) ≤ (p : Int):=by omega
 have hb2 : ((p : Nat) : Int) ≤ ((p + Cn : Nat) : Int):=by omega
 have hb3 : ((p + Cn : Nat) : Int) ≤ (c : Int):=by omega
 obtain ⟨p2,hpp⟩ : ∃ p2,p2 = p + Cn:=⟨_,rfl⟩
 rw [← hpp] at hp2 hb2 hb3
 have hpn2 : p2 ≤ n:=by omega
 have hpl : p < p2:=by omega
 have hpd : p2 - p = Cn:=by omega
 have HPD:=Lib.hid hpd
 clear hx hm hpp hpd
 go_enter Tryz.func37,Tryz.ntmps37
 go_wp2_with (first|(at_builtin;refine wpList_append_srcG (by rfl) (.tmp 28) (.tmp 40) 23 rfl (w.heap.size + 1) 70 j0 (.agg #[.int .i64 0,.int .i64 0,.int .i64 0,.int .i64 0]) 4 32 Tryz.underlying23 hj hj0 hj1 hj2 rfl (by decide) _ 0 [] (by rfl) (own_made SZX (Nat.le_refl _)) (some ⟨g,o + p * 4,none⟩) (p2 - p) (c - p) (flat ((cs.drop p).take Cn)) (by rfl) (by rw [flat_len,HS.out.1,HPD.out]) (fun e => by cases e) (fun ad e => by cases e;exact (HS.out.up BWX).news) (flat_one _) (by unfold maxLen;omega) (by omega) SZX ?_;intro v1 w1 hown1 hg1;simp only [Nat.zero_add,List.nil_append] at hown1;obtain ⟨A1,c1,rfl,hc1,hc1m⟩:=own_form hown1;have hbw1 : Bw w w1:=Bw.row (show Bw w _ from BWX) (own_made (size:=4) SZX (Nat.le_refl _)) hg1 (by omega);have HO1:=Lib.hid hown1;clear hown1 hg1)|fail)
 go_ret
 have h9:=HO1.out
 rw [HPD.out] at h9 hc1
 exact ⟨A1,Cn,c1,by rw [HPD.out];rfl,by rw [HE.out,HS.out.1],by rw [HE.out];exact own_zeroN h9,hbw1⟩
def ScNum18 (s : Scr) : Prop:=(1 ≤ s.Rn ∧ s.Rn ≤ 30 ∧ 1 ≤ s.Cn ∧ s.Cn ≤ 100) ∧ (0 ≤ s.row ∧ s.row < s.Rn ∧ 0 ≤ s.col ∧ s.col < s.Cn) ∧ avB s.f s.g s.b = true ∧ (0 ≤ s.top ∧ s.top ≤ s.bot ∧ s.bot < s.Rn) ∧ (0 ≤ s.srow ∧ s.srow < s.Rn ∧ 0 ≤ s.scol ∧ s.scol < s.Cn) ∧ avB s.sf s.sg s.sb = true
theorem Scr.Ok.num {w : World} {s : Scr} (h : s.Ok w) : ScNum18 s:=by
 obtain ⟨⟨h1,h2,h3,h4,-⟩,k1,k2,k3,k4,k5⟩:=h
 exact ⟨⟨h1,h2,h3,h4⟩,k1,k2,k3,k4,k5⟩
theorem gridB_dim {R C : Int} {cs : List C4} (h : gridB R C cs = true) : 1 ≤ R ∧ R ≤ 30 ∧ 1 ≤ C ∧ C ≤ 100 ∧ (cs.length : Int) = R * C:=by
 unfold gridB at h
 rw [Bool.and_eq_true] at h
 exact of_decide_eq_true h.1
theorem gridB_tabZ {R C : Int} {cs : List C4} {F : Nat → Nat → C4} (h : gridB R C cs = true) (hF : ∀ r k,cellB (F r k) = true) : gridB R C (tab R.toNat C.toNat F) = true:=by
 obtain ⟨h1,h2,h3,h4,-⟩:=gridB_dim h
 have h5:=gridB_tab (Rn:=R.toNat) (Cn:=C.toNat) (F:=F) (by omega) (by omega) (by omega) (by omega) (fun r k _ _ => hF r k)
 rw [Int.toNat_of_nonneg (by omega),Int.toNat_of_nonneg (by omega)] at h5
 exact h5
theorem scrollG_ok {R C : Int} {cs : List C4} {tp bt num : Int} {d : C4} (h : gridB R C cs = true) : gridB R C (scrollG R C cs tp bt num d) = true:=by
 unfold scrollG;split
 ·rename_i h2;exact gridB_tabZ h (fun r k => scrollF_ok (gridB_all h) h2.2.1 r k)
 ·exact h
/-- A screen is valid by its numbers and its cells. -/
theorem Scr.Ok.of {w : World} {s : Scr} {cs : List C4} (hs : ScNum18 s) (hr : Rg w s.A s.n cs) (hn : s.n ≤ s.c) (hc : s.c ≤ 9223372036854775807) (hg : gridB s.Rn s.Cn cs = true) : s.Ok w:=by
 obtain ⟨⟨h1,h2,h3,h4⟩,k1,k2,k3,k4,k5⟩:=hs
 have h5:=(gridB_dim hg).2.2.2.2
 have h6 : s.n = s.Rn * s.Cn:=by have:=hr.1;rw [← Int.natCast_mul] at h5;omega
 exact ⟨⟨h1,h2,h3,h4,h6,hn,hc,cs,hr,hg⟩,k1,k2,k3,k4,k5⟩
/-- Block k, if there is one, holds neither cells nor lists of cells. -/
def TyN (w : World) (r : Option Nat) (t : TypeId) : Prop:=∀ k,r = some k → ∃ cur fr,w.heap[k]? = some (.cells cur t fr)
theorem own_tyN {w : World} {base : Nat} {e : TypeId} {s n : Nat} {v : Value} {xs : List Value} (h : w.ownsRow base e s v n xs) : TyN w v.ownBlock e:=by
 intro k hk
 rcases h.2 with ⟨rfl,-⟩|⟨g,cap,cur,rfl,_,h3,_⟩
 ·cases hk
 ·cases hk;exact ⟨_,_,h3⟩
theorem sb_tyN {w : World} {g : Nat} {cs : Array Value} {t : TypeId} (h : Sb w g cs t) : TyN w (some g) t:=by
 intro k hk;cases hk;exact ⟨_,_,h⟩
theorem TyN.none (w : World) (t : TypeId) : TyN w Option.none t:=fun k hk => by cases hk
theorem own_farN {w w' : World} {base : Nat} {e t : TypeId} {s n : Nat} {v : Value} {xs : List Value} {r : Option Nat} (h : w.ownsRow base e s v n xs) (hg : w.grownBy w' r) (ht : TyN w r t) (hne : e ≠ t) : w'.ownsRow base e s v n xs:=by
 refine h.kept hg ?_
 cases hv : v.ownBlock with
 | none => exact .inl rfl
 | some k =>
  refine .inr (fun e2 => hne ?_)
  obtain ⟨c1,f1,h1⟩:=own_tyN h k hv
  obtain ⟨c2,f2,h2⟩:=ht k e2.symm
  rw [h1] at h2
  injection h2 with h2
  injection h2
/-- Each of the values is a row of cells, in memory of its own: row i reads as F i. -/
def RwsF (w : World) (vs : List Value) (F : Nat → List C4) : Prop:=∀ i v,vs[i]? = some v → w.ownsRow 0 70 4 v (F i).length (flat (F i))
theorem RwsF.nil_ (w : World) (F : Nat → List C4) : RwsF w [] F:=fun i v h => by simp at h
theorem RwsF.up {w w' : World} {vs : List Value} {F : Nat → List C4} (h : RwsF w vs F) (hb : Bw w w') : RwsF w' vs F:=fun i v hv => (h i v hv).bw hb
theorem RwsF.far {w w' : World} {vs : List Value} {F : Nat → List C4} {r : Option Nat} {t : TypeId} (h : RwsF w vs F) (hg : w.grownBy w' r) (ht : TyN w r t) (hne : 70 ≠ t) : RwsF w' vs F:=fun i v hv => own_farN (h i v hv) hg ht hne
theorem RwsF.app {w1 w2 : World} {b q k : Nat} {L : Option Addr} {vs : List Value} {v : Value} {F : Nat → List C4} (hg : w1.grownBy w2 (Value.slice L q k).ownBlock) (ho : w1.ownsRow b 23 1 (.slice L q k) q vs) (hF : RwsF w1 vs F) (hv : w1.ownsRow 0 70 4 v (F q).length (flat (F q))) : RwsF w2 (vs ++ [v]) F:=by
 have hl : vs.length = q:=by have:=ho.1;omega
 intro i u hu
 by_cases hi : i < vs.length
 ·rw [List.getElem?_append_left hi] at hu
  exact own_farN (hF i u hu) hg (own_tyN ho) (by decide)
 ·rw [List.getElem?_append_right (by omega)] at hu
  have h0 : i - vs.length = 0:=by
   rcases Nat.eq_zero_or_pos (i - vs.length) with h|h
   ·exact h
   ·rw [List.getElem?_eq_none (by simp;omega)] at hu;cases hu
  rw [h0] at hu
  cases hu
  obtain rfl : i = q:=by omega
  exact own_farN hv hg (own_tyN ho) (by decide)
/-- A list of m rows: row i reads as F i. -/
def LsF (w : World) (base : Nat) (L : Option Addr) (m k : Nat) (F : Nat → List C4) : Prop:=∃ vs,w.ownsRow base 23 1 (.slice L m k) m vs ∧ RwsF w vs F
theorem LsF.up {w w' : World} {base : Nat} {L : Option Addr} {m k : Nat} {F : Nat → List C4} (h : LsF w base L m k F) (hb : Bw w w') : LsF w' base L m k F:=by
 obtain ⟨vs,h1,h2⟩:=h
 exact ⟨vs,h1.bw hb,h2.up hb⟩
theorem LsF.far {w w' : World} {base : Nat} {L : Option Addr} {m k : Nat} {F : Nat → List C4} {r : Option Nat} {t : TypeId} (h : LsF w base L m k F) (hg : w.grownBy w' r) (ht : TyN w r t) (hne : 70 ≠ t) (hne2 : 23 ≠ t) : LsF w' base L m k F:=by
 obtain ⟨vs,h1,h2⟩:=h
 exact ⟨vs,own_farN h1 hg ht hne2,h2.far hg ht hne⟩
theorem LsF.nil_ (w : World) (base : Nat) (F : Nat → List C4) : LsF w base none 0 0 F:=⟨[],World.ownsRow_nil _ _ _ _,RwsF.nil_ _ _⟩
theorem LsF.zero {w : World} {base : Nat} {L : Option Addr} {m k : Nat} {F : Nat → List C4} (h : LsF w base L m k F) : LsF w 0 L m k F:=by
 obtain ⟨vs,h1,h2⟩:=h
 exact ⟨vs,own_zeroN h1,h2⟩
/-- How many rows go away: those that the cursor's row is beyond the new height. -/
def rzN (s : Scr) (R : Nat) : Nat:=(s.row - ((R : Int) - 1)).toNat
/-- A screen's numbers in the size R x C. -/
def rzS (s : Scr) (R C : Nat) : Scr:={ s with Rn:=R,Cn:=C,row:=s.row - (rzN s R : Int),col:=min s.col ((C : Int) - 1),wrap:=false,top:=0,bot:=(R : Int) - 1,srow:=min s.srow ((R : Int) - 1),scol:=min s.scol ((C : Int) - 1),swrap:=false }
/-- A screen's cells with the rows scrolled away, and in the size R x C. -/
def rzQ (s : Scr) (cs : List C4) (R : Nat) : List C4:=scrollG s.Rn s.Cn cs 0 ((s.Rn : Int) - 1) (rzN s R) blk
def rzG (s : Scr) (cs : List C4) (R C : Nat) : List C4:=tab R C (resF s.Rn s.Cn (rzQ s cs R))
/-- The rows of a screen. -/
def rwF (s : Scr) (cs : List C4) (r : Nat) : List C4:=rowF s.Rn s.Cn cs r
theorem rzQ_rs {s : Scr} {cs : List C4} {R C : Nat} {rows cols : Int} (hg : gridB s.Rn s.Cn cs = true) (hR : clamp rows 30 = R) (hC : clamp cols 100 = C) : rsR s.Rn s.Cn (rzQ s cs R) rows = R ∧ rsC s.Rn s.Cn (rzQ s cs R) cols = C ∧ rsG s.Rn s.Cn (rzQ s cs R) rows cols = rzG s cs R C:=by
 have h : gridB s.Rn s.Cn (rzQ s cs R) = true:=scrollG_ok hg
 refine ⟨by unfold rsR;rw [if_pos h,hR],by unfold rsC;rw [if_pos h,hC],?_⟩
 unfold rsG
 rw [if_pos h,hR,hC,Int.toNat_natCast,Int.toNat_natCast,Int.toNat_natCast,Int.toNat_natCast]
 rfl
/-- The call returns the screen in the size R x C, and the rows that went away. -/
def RzP (w : World) (s : Scr) (cs : List C4) (R C : Nat) (e : Ending) (w' : World) : Prop :=
 ∃ A n c L k,e = .returned (.tuple #[.agg ((rzS s R C).gr A n c).vals.toArray,.slice L (rzN s R) k]) ∧ Rg w' A n (rzG s cs R C) ∧ n ≤ c ∧ c ≤ 9223372036854775807 ∧ LsF w' 0 L (rzN s R) k (rwF s cs) ∧ (∀ ad,A = some ad → w.heap.size ≤ ad.block) ∧ Bw w w'
/-- The grid R' x C' in box g7, its m first cells set. -/
def RyR (w : World) (Rn Cn : Nat) (A : Option Addr) (n c : Nat) (cs : List C4) (g7 gp R' C' n2 c2 m : Nat) (sp : List Value) (wr : World) : Prop :=
 Sb wr w.heap.size (grV Rn Cn A n c) 25 ∧ Sb wr g7 (grV R' C' (some ⟨gp,0,none⟩) n2 c2) 25 ∧ (∃ old,Sb wr (w.heap.size + 1) old 25 ∧ old.size = 3) ∧ Wc wr gp (cellsTo C' n2 m (resF Rn Cn cs)) sp ∧ Rg wr A n cs ∧ Bw w wr
theorem rresize_go (Rn Cn : Nat) (A : Option Addr) (n c : Nat) (cs : List C4) (rows cols : Int) (w : World) (hr : Rg w A n cs) (hn : n ≤ c) (hc : c ≤ 9223372036854775807) (hR1 : 1 ≤ Rn) (hR2 : Rn ≤ 30) (hC1 : 1 ≤ Cn) (hC2 : Cn ≤ 100) (hl : cs.length = Rn * Cn) (hv : gridB Rn Cn cs = true) :
  Calls Tryz.prog 72 #[.agg #[.int .i64 (Rn : Int),.int .i64 (Cn : Int),.slice A n c],.int .i64 rows,.int .i64 cols] w (GrN w (clamp rows 30) (clamp cols 100) (tab (clamp rows 30).toNat (clamp cols 100).toNat (resF Rn Cn cs))):=by
 have HR:=Lib.hid hr
 have HV:=Lib.hid hv
 have HL:=Lib.hid hl
 have hcl : 0 < cs.length:=by rw [hl];exact Nat.mul_pos (by omega) (by omega)
 have hnl:=hr.1
 have HNL:=Lib.hid hnl
 obtain ⟨gs,os,rfl,hx⟩:=hr.2 (by omega)
 have hgs : gs < w.heap.size:=by simpa using lt_of_cell (hx 0 hcl).1
 clear hx
 have h1:=clamp_bd rows 30 (by omega)
 have h2:=clamp_bd cols 100 (by omega)
 have HN:=Lib.hid (rnew16_own rows cols)
 obtain ⟨R',hR⟩ : ∃ R' : Nat,clamp rows 30 = R':=⟨(clamp rows 30).toNat,by omega⟩
 obtain ⟨C',hC⟩ : ∃ C' : Nat,clamp cols 100 = C':=⟨(clamp cols 100).toNat,by omega⟩
 rw [hR] at h1 HN ⊢
 rw [hC] at h2 HN ⊢
 simp only [Int.toNat_natCast]
 clear hR hC hr hv hl hnl
 obtain ⟨h1,h3⟩:=h1
 obtain ⟨h2,h4⟩:=h2
 go_enter Tryz.func72,Tryz.ntmps72
 go_upto_region 1 with (fail)
 generalize hw1 : (w.alloc (.cells #[.int .i64 (Rn : Int),.int .i64 (Cn : Int),.slice (some ⟨gs,os,none⟩) n c] 25)).alloc _ = w1
 obtain ⟨hb0,hb1,hbw,hz⟩:=sb2 hw1
 have HB0:=Lib.hid hb0
 have HB1:=Lib.hid (show ∃ old,Sb w1 (w.heap.size + 1) old 25 ∧ old.size = 3 from ⟨_,hb1,rfl⟩)
 have hz1 : w.heap.size + 1 < w1.heap.size:=by omega
 clear hw1 hb0 hb1 hz
 have x0:=HB0.out.cell 0 (v:=.int .i64 (Rn : Int)) rfl
 have x1:=HB0.out.cell 1 (v:=.int .i64 (Cn : Int)) rfl
 have x2:=HB0.out.cell 2 (v:=.slice (some ⟨gs,os,none⟩) n c) rfl
 go_upto_region 4 with (first
  | (go_at_call 42;refine (rgvalid_any (Rn : Int) (Cn : Int) _ n c cs _ (by exact HR.out.up BWX) hn hc).mono ?_;rintro ee wv ⟨rfl,hbv⟩;rw [HV.out];clear x0 x1 x2;have hzv:=hbv.size)
  | (go_at_call 71;refine (HN.out _).mono ?_;rintro ee w2 ⟨A2,n2,c2,rfl,hown,hn2,hc2,hb2⟩;have hzb2:=hb2.size;have HOWN:=Lib.hid hown;clear hown)
  | ((with_reducible refine wpList_store_gr (R' : Int) (C' : Int) A2 n2 c2 w2.heap.size (.tmp 7) (.tmp 15) rfl rfl ?_ ?_ ?_ ?_);(focus rfl);(focus rfl);(focus (exact ⟨_,heap_at rfl,rfl⟩));intro w3 hS3 hg3;have HS3:=Lib.hid hS3;have HG3:=Lib.hid hg3;clear hS3 hg3)
  | fail)
 have hg3:=HG3.out
 have hb13 : Bw w1 w2:=Bw.trans hbv (by simpa using hb2)
 have hbw2 : Bw w w2:=Bw.trans hbw hb13
 have hb23 : Bw w2 w3:=Bw.grown (show Bw w2 (w2.alloc _) from BWX) hg3 (fun k hk => by cases hk;omega)
 have hown:=HOWN.out
 have hlen:=hown.1
 rw [flat_len] at hlen
 have hn2' : n2 = R' * C':=by
  have e : (List.replicate ((R' : Int) * (C' : Int)).toNat blk).length = R' * C':=by
   rw [List.length_replicate]
   have : ((R' : Int) * (C' : Int)) = ((R' * C' : Nat) : Int):=by simp
   rw [this]
   rfl
  rw [e] at hlen
  omega
 have hpos : 1 ≤ R' * C':=Nat.mul_pos (by omega) (by omega)
 have hn2b : n2 ≤ 3000:=by rw [hn2'];exact Nat.le_trans (Nat.mul_le_mul (show R' ≤ 30 by omega) (show C' ≤ 100 by omega)) (by omega)
 obtain ⟨gp,sp,rfl,hgp1,hwc⟩:=Wc.of_own hown (by omega)
 have hgp2:=hwc.lt
 have hrep : (List.replicate ((R' : Int) * (C' : Int)).toNat blk) = cellsTo C' n2 0 (resF Rn Cn cs):=by
  rw [cellsTo_zero,hn2']
  have : ((R' : Int) * (C' : Int)) = ((R' * C' : Nat) : Int):=by simp
  rw [this]
  rfl
 rw [hrep] at hwc
 have hgpz : w.heap.size + 1 < gp:=by first|omega|(simp at hgp1;omega)
 have HST:=Lib.hid (show RyR w Rn Cn (some ⟨gs,os,none⟩) n c cs w2.heap.size gp R' C' n2 c2 0 sp w3 from ⟨HB0.out.up (Bw.trans hb13 hb23),HS3.out,Exists.elim HB1.out (fun old h => ⟨old,h.1.up (Bw.trans hb13 hb23),h.2⟩),hwc.up hb23,HR.out.up (Bw.trans hbw2 hb23),Bw.trans hbw2 hb23⟩)
 have hgpg : gp < w2.heap.size:=hgp2
 have HN2:=Lib.hid hn2'
 obtain ⟨g7,hg7⟩ : ∃ g7,w2.heap.size = g7:=⟨_,rfl⟩
 rw [hg7] at HST hgpg
 simp only [hg7]
 clear hn2' hrep hwc hgp1 hgp2 hown hlen hb13 hbw2 hb23 hg3 HS3 HG3 HOWN HB0 HB1 HR hg7 hbv hb2 hzb2 hzv hz1 hpos
 go_wp2_with fail
 go_loopw [8] (fun i wr => ∃ k : Nat,i = .int .i64 k ∧ k ≤ n2 ∧ RyR w Rn Cn (some ⟨gs,os,none⟩) n c cs g7 gp R' C' n2 c2 k sp wr) (fun i _ => n2 - (intOf i).toNat)
 case atStart => exact ⟨0,rfl,by omega,HST.out⟩
 case round =>
  rename_i wr
  obtain ⟨k,rfl,hk,hS0,hS7,hold,hW,hRg,hbwr⟩:=hrel
  have HS0:=Lib.hid hS0
  have HS7:=Lib.hid hS7
  have HOLD:=Lib.hid hold
  have HWC:=Lib.hid hW
  have HRG:=Lib.hid hRg
  have HBW:=Lib.hid hbwr
  clear hS0 hS7 hold hW hRg hbwr
  have y2:=HS7.out.cell 2 (v:=.slice (some ⟨gp,0,none⟩) n2 c2) rfl
  have hbz:=HBW.out.size
  by_cases hlt : k < n2
  ·have hkM : (k : Int) < n2:=by omega
   have hk0 : (0 : Int) ≤ (k : Int):=by omega
   obtain ⟨r,hrr⟩ : ∃ r : Nat,k / C' = r:=⟨_,rfl⟩
   obtain ⟨q,hqq⟩ : ∃ q : Nat,k % C' = q:=⟨_,rfl⟩
   have hri : (k : Int) / (C' : Int) = (r : Int):=by rw [← hrr];rfl
   have hqi : (k : Int) % (C' : Int) = (q : Int):=by rw [← hqq];rfl
   have hC0 : ¬ C' = 0:=by omega
   have hqt : (k : Int).tmod (C' : Int) = (q : Int):=by rw [Int.tmod_eq_emod_of_nonneg (by omega)];exact hqi
   have hr3 : r ≤ 3000:=by rw [← hrr];exact Nat.le_trans (Nat.div_le_self _ _) (by omega)
   have hq3 : q ≤ 100:=by have:=Nat.mod_lt k (show 0 < C' by omega);omega
   have hwr : IntKind.i64.wrap (r : Int) = (r : Int):=IntWalk.i64_in _ (by omega)
   have hgn : gp ≠ gs:=by omega
   have hlens : (cellsTo C' n2 k (resF Rn Cn cs)).length = n2:=cellsTo_len _ _ _ _
   have HLAW:=Lib.hid (show (cellsTo C' n2 k (resF Rn Cn cs)).set k (atF Rn Cn cs r q (32,0,0,0)) = cellsTo C' n2 (k + 1) (resF Rn Cn cs) from by
    have h:=cellsTo_set (C':=C') (resF Rn Cn cs) hlt
    rw [hrr,hqq] at h
    exact h)
   obtain ⟨⟨x1,x2,x3,x4⟩,hxx⟩ : ∃ x,x = atF Rn Cn cs r q (32,0,0,0):=⟨_,rfl⟩
   rw [← hxx] at HLAW
   have HXX:=Lib.hid hxx
   have HRQ:=Lib.hid (And.intro hrr (And.intro hqq hlens))
   clear hrr hqq hlens hxx
   have HY:=Lib.hid (show ∀ w',Bw wr w' → (w'.cell? ⟨g7,2,none⟩ = some (.slice (some ⟨gp,0,none⟩) n2 c2) ∧ w'.cell? ⟨g7,1,none⟩ = some (.int .i64 (C' : Int)) ∧ w'.cell? ⟨w.heap.size,0,none⟩ = some (.int .i64 (Rn : Int)) ∧ w'.cell? ⟨w.heap.size,1,none⟩ = some (.int .i64 (Cn : Int)) ∧ w'.cell? ⟨w.heap.size,2,none⟩ = some (.slice (some ⟨gs,os,none⟩) n c)) from fun w' hb => ⟨(HS7.out.up hb).cell 2 rfl,(HS7.out.up hb).cell 1 rfl,(HS0.out.up hb).cell 0 rfl,(HS0.out.up hb).cell 1 rfl,(HS0.out.up hb).cell 2 rfl⟩)
   have hkl : k < (cellsTo C' n2 k (resF Rn Cn cs)).length:=by rw [cellsTo_len];exact hlt
   have HYg:=Lib.hid (show ∀ w',wr.grownBy w' (some gp) → (w'.cell? ⟨g7,2,none⟩ = some (.slice (some ⟨gp,0,none⟩) n2 c2) ∧ w'.cell? ⟨g7,1,none⟩ = some (.int .i64 (C' : Int)) ∧ w'.cell? ⟨w.heap.size,0,none⟩ = some (.int .i64 (Rn : Int)) ∧ w'.cell? ⟨w.heap.size,1,none⟩ = some (.int .i64 (Cn : Int)) ∧ w'.cell? ⟨w.heap.size,2,none⟩ = some (.slice (some ⟨gs,os,none⟩) n c)) from fun w' hb => ⟨(HS7.out.far hb (by intro e;have:=Option.some.inj e;omega)).cell 2 rfl,(HS7.out.far hb (by intro e;have:=Option.some.inj e;omega)).cell 1 rfl,(HS0.out.far hb (by intro e;have:=Option.some.inj e;omega)).cell 0 rfl,(HS0.out.far hb (by intro e;have:=Option.some.inj e;omega)).cell 1 rfl,(HS0.out.far hb (by intro e;have:=Option.some.inj e;omega)).cell 2 rfl⟩)
   go_upto_region 7 with (fail)
   clear y2
   refine wp_region_held_drew (S:=(fun w' => w'.cell? ⟨g7,2,none⟩ = some (.slice (some ⟨gp,0,none⟩) n2 c2) ∧ w'.cell? ⟨g7,1,none⟩ = some (.int .i64 (C' : Int)) ∧ w'.cell? ⟨w.heap.size,0,none⟩ = some (.int .i64 (Rn : Int)) ∧ w'.cell? ⟨w.heap.size,1,none⟩ = some (.int .i64 (Cn : Int)) ∧ w'.cell? ⟨w.heap.size,2,none⟩ = some (.slice (some ⟨gs,os,none⟩) n c))) (by kernel_rfl) ?_ (fun hHeld => ?_)
   ·(try dsimp only);(first|(with_reducible exact HYg.out _ (grown_set (grown_set (grown_set (grown_set (grown_bw hbra (some gp)) _ _) _ _) _ _) _ _))|(refine HY.out _ ?_;(repeat (first|with_reducible (first|assumption|exact Bw.refl _|refine Bw.alloc ?_ _|refine Bw.more ?_ _ _|refine Bw.drew ?_|refine Bw.drewN ?_ _)|((with_reducible refine Bw.set2 ?_ ?_ _);(focus exact SZX))|with_reducible refine Bw.trans ?_ (by assumption)));done))
   refine tkQ 0 ?_
   refine tkQ 1 ?_
   (try simp only [Act.put,zP1,zP2,zP3,zP4,zP5,zP6])
   refine tkQ 2 ?_
   refine tkQ 3 ?_
   refine tkQ 4 ?_
   (try simp only [Act.put,zP1,zP2,zP3,zP4,zP5,zP6])
   refine tkQ 5 ?_
   refine tkQ 6 ?_
   refine tkQ 7 ?_
   (try simp only [Act.put,zP1,zP2,zP3,zP4,zP5,zP6])
   refine tkQ 8 ?_
   refine tkQ 9 ?_
   refine tkQ 10 ?_
   (try simp only [Act.put,zP1,zP2,zP3,zP4,zP5,zP6])
   refine tkQ 11 ?_
   refine tkQ 12 ?_
   (try simp only [Act.put,zP1,zP2,zP3,zP4,zP5,zP6])
   refine arO 13 (fun K hK => ?_)
   go_simp
   (try rw [hwr]);(try rw [hqt]);refine (rat_any Rn Cn (some ⟨gs,os,none⟩) n c cs r q 32 0 0 0 _ hR2 hC2 (HNL.out.symm.trans HL.out) (HRG.out.up BWX) hn hc).mono ?_;rintro ee wa ⟨rfl,hba⟩;rw [← HXX.out];dsimp only [c4V];have hbra : Bw wr wa:=Bw.trans (show Bw wr _ from BWX) hba;have HWa:=Lib.hid (HWC.out.up hbra);obtain ⟨a1,a2,a3,a4⟩:=HWa.out.cells k hkl;have f1:=HWa.out.free (k * 4);have f2:=HWa.out.free (k * 4 + 1);have f3:=HWa.out.free (k * 4 + 2);have f4:=HWa.out.free (k * 4 + 3);clear hba;go_wp2_with fail
   refine hK.out _ _ ?_ (fun hHeld => ?_)
   ·(try dsimp only);(first|(with_reducible exact HYg.out _ (grown_set (grown_set (grown_set (grown_set (grown_bw hbra (some gp)) _ _) _ _) _ _) _ _))|(refine HY.out _ ?_;(repeat (first|with_reducible (first|assumption|exact Bw.refl _|refine Bw.alloc ?_ _|refine Bw.more ?_ _ _|refine Bw.drew ?_|refine Bw.drewN ?_ _)|((with_reducible refine Bw.set2 ?_ ?_ _);(focus exact SZX))|with_reducible refine Bw.trans ?_ (by assumption)));done))
   clear hK K
   (try simp only [Act.put,zP1,zP2,zP3,zP4,zP5,zP6])
   refine arO 14 (fun K hK => ?_)
   go_simp
   refine hK.out _ _ ?_ (fun hHeld => ?_)
   ·(try dsimp only);(first|(with_reducible exact HYg.out _ (grown_set (grown_set (grown_set (grown_set (grown_bw hbra (some gp)) _ _) _ _) _ _) _ _))|(refine HY.out _ ?_;(repeat (first|with_reducible (first|assumption|exact Bw.refl _|refine Bw.alloc ?_ _|refine Bw.more ?_ _ _|refine Bw.drew ?_|refine Bw.drewN ?_ _)|((with_reducible refine Bw.set2 ?_ ?_ _);(focus exact SZX))|with_reducible refine Bw.trans ?_ (by assumption)));done))
   clear hK K
   (try simp only [Act.put,zP1,zP2,zP3,zP4,zP5,zP6])
   refine arO 15 (fun K hK => ?_)
   go_simp
   refine hK.out _ _ ?_ (fun hHeld => ?_)
   ·(try dsimp only);(first|(with_reducible exact HYg.out _ (grown_set (grown_set (grown_set (grown_set (grown_bw hbra (some gp)) _ _) _ _) _ _) _ _))|(refine HY.out _ ?_;(repeat (first|with_reducible (first|assumption|exact Bw.refl _|refine Bw.alloc ?_ _|refine Bw.more ?_ _ _|refine Bw.drew ?_|refine Bw.drewN ?_ _)|((with_reducible refine Bw.set2 ?_ ?_ _);(focus exact SZX))|with_reducible refine Bw.trans ?_ (by assumption)));done))
   clear hK K
   (try simp only [Act.put,zP1,zP2,zP3,zP4,zP5,zP6])
   refine wpAnyH_done (by kernel_rfl) ?_ _
   go_wp2_with fail
   go_roundw
   case rel =>
    have hst:=HWa.out.store k hkl (x1,x2,x3,x4)
    rw [HLAW.out] at hst
    have hgg:=grown_bw hbra (some gp)
    have hg4 : wr.grownBy ((((wa.setCell ⟨gp,k * 4,none⟩ (.int .i64 x1)).setCell ⟨gp,k * 4 + 1,none⟩ (.int .i64 x2)).setCell ⟨gp,k * 4 + 2,none⟩ (.int .i64 x3)).setCell ⟨gp,k * 4 + 3,none⟩ (.int .i64 x4)) (some gp):=grown_set (grown_set (grown_set (grown_set hgg _ _) _ _) _ _) _ _
    exact ⟨k + 1,by go_num,by omega,HS0.out.far hg4 (by intro e;have:=Option.some.inj e;omega),HS7.out.far hg4 (by intro e;have:=Option.some.inj e;omega),Exists.elim HOLD.out (fun old h => ⟨old,h.1.far hg4 (by intro e;have:=Option.some.inj e;omega),h.2⟩),hst,HRG.out.far hg4 (fun ad e e2 => by cases e;exact hgn (Option.some.inj e2).symm),Bw.grown HBW.out hg4 (fun j hj => by cases hj;omega)⟩
   case measure => simp [intOf];omega
  ·have hkM : ¬ (k : Int) < n2:=by omega
   obtain rfl : k = n2:=by omega
   have hall : cellsTo C' k k (resF Rn Cn cs) = tab R' C' (resF Rn Cn cs):=by
    have h:=HN2.out
    conv => lhs;rw [h]
    exact cellsTo_all _ _ _
   have HALL:=Lib.hid hall
   clear hall
   have y0:=HS7.out.cell 0 (v:=.int .i64 R') rfl
   have y1:=HS7.out.cell 1 (v:=.int .i64 C') rfl
   go_wp2_with (first
    | ((with_reducible refine wpList_store_gr (R' : Int) (C' : Int) (some ⟨gp,0,none⟩) k c2 (w.heap.size + 1) (.tmp 6) (.tmp 38) rfl rfl ?_ ?_ ?_ ?_);(focus rfl);(focus rfl);(focus (exact HOLD.out));intro w4 hS4 hg4;have HS4:=Lib.hid hS4;have HG4:=Lib.hid hg4;clear hS4 hg4)
    | fail)
   refine bodyPost_ret (results_gr rfl _ _ (w.heap.size + 1) R' C' (some ⟨gp,0,none⟩) k c2 (by rfl) HS4.out) rfl ?_
   have hrg:=HWC.out.rg
   rw [cellsTo_len,HALL.out] at hrg
   exact ⟨_,k,c2,rfl,hrg.far HG4.out (fun ad e e2 => by cases e;have:=Option.some.inj e2;simp at this;omega),hn2,hc2,(fun ad e => by cases e;show w.heap.size ≤ gp;omega),Bw.grown HBW.out HG4.out (fun j hj => by cases hj;omega)⟩
theorem rresize_new (Rn Cn : Nat) (A : Option Addr) (n c : Nat) (cs : List C4) (rows cols : Int) (w : World) (hr : Rg w A n cs) (hn : n ≤ c) (hc : c ≤ 9223372036854775807) (hv : gridB Rn Cn cs = true) :
  Calls Tryz.prog 72 #[.agg #[.int .i64 (Rn : Int),.int .i64 (Cn : Int),.slice A n c],.int .i64 rows,.int .i64 cols] w (GrN w (rsR Rn Cn cs rows) (rsC Rn Cn cs cols) (rsG Rn Cn cs rows cols)):=by
 obtain ⟨d1,d2,d3,d4,d5⟩:=gridB_dim hv
 rw [show rsR Rn Cn cs rows = clamp rows 30 by unfold rsR;rw [if_pos hv],show rsC Rn Cn cs cols = clamp cols 100 by unfold rsC;rw [if_pos hv],show rsG Rn Cn cs rows cols = tab (clamp rows 30).toNat (clamp cols 100).toNat (resF Rn Cn cs) by unfold rsG;rw [if_pos hv,Int.toNat_natCast,Int.toNat_natCast]]
 exact rresize_go Rn Cn A n c cs rows cols w hr hn hc (by omega) (by omega) (by omega) (by omega) (by rw [← Int.natCast_mul] at d5;omega) hv
theorem rresizeS_yes (s : Scr) (cs : List C4) (rows cols : Int) (R C : Nat) (w : World) (hR : clamp rows 30 = R) (hC : clamp cols 100 = C) (hs : s.Ok w) (hr : Rg w s.A s.n cs) (hg : gridB s.Rn s.Cn cs = true) :
  Calls Tryz.prog 46 #[.agg s.vals.toArray,.int .i64 rows,.int .i64 cols] w (RzP w s cs R C):=by
 obtain ⟨j0,hj,hj0,hj1,hj2⟩:=info_parts infoL
 have HOK:=Lib.hid hs
 have HR:=Lib.hid hr
 have HGR:=Lib.hid hg
 have HS:=Lib.hid (rzQ_rs hg hR hC)
 have HQV:=Lib.hid (show gridB s.Rn s.Cn (rzQ s cs R) = true from scrollG_ok hg)
 have HN:=Lib.hid (show s.n ≤ s.c ∧ s.c ≤ 9223372036854775807 ∧ s.n ≤ 3000 from by
  obtain ⟨⟨h1,h2,h3,h4,h5,h6,h7,-⟩,-⟩:=hs
  exact ⟨h6,h7,by rw [h5];have:=Nat.mul_le_mul h2 h4;omega⟩)
 have hcb:=clamp_bd rows 30 (by omega)
 have hcb2:=clamp_bd cols 100 (by omega)
 rw [hR] at hcb
 rw [hC] at hcb2
 obtain ⟨hR1,hR2⟩:=hcb
 obtain ⟨hC1,hC2⟩:=hcb2
 obtain ⟨hS1,hS2,hS3,hS4,-⟩:=gridB_dim hg
 have hrow0:=hs.num.2.1.1
 have hrow1:=hs.num.2.1.2.1
 have hcol0:=hs.num.2.1.2.2.1
 have hcol1:=hs.num.2.1.2.2.2
 have hsr0:=hs.num.2.2.2.2.1.1
 have hsr1:=hs.num.2.2.2.2.1.2.1
 have hsc0:=hs.num.2.2.2.2.1.2.2.1
 have hsc1:=hs.num.2.2.2.2.1.2.2.2
 have HK1:=Lib.hid (show clamp rows 30 = R ∧ clamp cols 100 = C from ⟨hR,hC⟩)
 clear hs hr hg hR hC
 go_enter Tryz.func46,Tryz.ntmps46
 go_upto_region 1 with (fail)
 generalize hwa : w.alloc (.cells s.vals.toArray 46) = wa
 obtain ⟨ha0,hbwa,hza⟩:=sb1 hwa
 generalize hw1 : wa.alloc _ = w1
 obtain ⟨hc0,hbwc,hzc⟩:=sb1 hw1
 rw [hza] at hc0
 have HA:=Lib.hid (ha0.up hbwc)
 have HT:=Lib.hid (show ∃ old,Sb w1 (w.heap.size + 1) old 46 ∧ old.size = 19 from ⟨_,hc0,rfl⟩)
 have hbw:=Bw.trans hbwa hbwc
 have hz1 : w.heap.size + 1 < w1.heap.size:=by omega
 clear hwa ha0 hbwa hza hw1 hc0 hbwc hzc
 go_upto_region 3 with (first
  | ((with_reducible refine wpList_load_sc s w.heap.size (.tmp 3) rfl rfl ?_ ?_ ?_);(focus rfl);(focus (exact HA.out)))
  | (go_at_call 68;refine (rsvalid_ok s _ (HOK.out.up (Bw.trans hbw BWX))).mono ?_;rintro ee w2 ⟨rfl,hb2⟩;have hbw2 : Bw w1 w2:=Bw.trans (show Bw w1 _ from BWX) hb2;clear hb2)
  | fail)
 have hz2:=hbw2.size
 go_upto_region 4 with (first
  | (go_at_call 71;refine (rnew16_any _ _ _).mono ?_;rw [HK1.out.1,HK1.out.2];rintro ee w4 ⟨A0,n0,c0,rfl,-,-,-,-,hb4⟩;have hb24 : Bw w2 w4:=Bw.trans (show Bw w2 _ from BWX) hb4;clear hb4)
  | fail)
 have hz4:=hb24.size
 generalize hw5 : w4.alloc _ = w5
 obtain ⟨hb5,hbw5,hz5⟩:=sb1 hw5
 have hltf:=hb5.lt
 have HA5:=Lib.hid (((HA.out.up hbw2).up hb24).up hbw5)
 have HT5:=Lib.hid (show ∃ old,Sb w5 (w.heap.size + 1) old 46 ∧ old.size = 19 from Exists.elim HT.out (fun old h => ⟨old,((h.1.up hbw2).up hb24).up hbw5,h.2⟩))
 have HBW5:=Lib.hid (Bw.trans hbw (Bw.trans hbw2 (Bw.trans hb24 hbw5)))
 have HR5:=Lib.hid (HR.out.up HBW5.out)
 have f0:=hb5.cell 0 (v:=.int .i64 (R : Int)) rfl
 have a3:=HA5.out.cell 3 (v:=.int .i64 s.row) rfl
 have hlta:=HA5.out.lt
 clear hw5 hb5 hbw5 hb24 hbw2 hbw HA HT
 go_upto_region 6 with (fail)
 have hq : (if 0 < s.row - (R : Int) + 1 then s.row - (R : Int) + 1 else 0) = ((rzN s R : Nat) : Int):=by unfold rzN;split <;> omega
 (first|rw [hq]|rw [show max 0 (s.row - (R : Int) + 1) = ((rzN s R : Nat) : Int) from by unfold rzN;omega])
 obtain ⟨m,hm⟩ : ∃ m,rzN s R = m:=⟨_,rfl⟩
 rw [hm]
 have hm30 : m ≤ 30:=by rw [← hm];unfold rzN;omega
 have hmr : (m : Int) ≤ s.row:=by rw [← hm];unfold rzN;omega
 have HM:=Lib.hid hm
 clear f0 a3 hq hm
 go_wp2_with fail
 go_loopw [9,11] (fun v i wr => ∃ (k : Nat) (vs : List Value),i = .int .i64 k ∧ k ≤ m ∧ wr.ownsRow w5.heap.size 23 1 v k vs ∧ RwsF wr vs (rwF s cs) ∧ Bw w5 wr) (fun _ i _ => ((m : Int) - intOf i).toNat)
 case atStart => exact ⟨0,[],rfl,by omega,World.ownsRow_nil _ _ _ _,RwsF.nil_ _ _,BWX⟩
 case round =>
  obtain ⟨k,vs,rfl,hk,hown,hrws,hbwr⟩:=hrel
  obtain ⟨A6,c6,rfl,hc6,hc6m⟩:=own_form hown
  have HO:=Lib.hid hown
  have HF:=Lib.hid hrws
  have HAr:=Lib.hid (HA5.out.up hbwr)
  have HRr:=Lib.hid (HR5.out.up hbwr)
  have hzr:=hbwr.size
  have hltr:=HAr.out.lt
  (have x0:=HAr.out.cell 0 (v:=.int .i64 (s.Rn : Int)) rfl;have x1:=HAr.out.cell 1 (v:=.int .i64 (s.Cn : Int)) rfl;have x2:=HAr.out.cell 2 (v:=.slice s.A s.n s.c) rfl)
  clear hown hrws
  by_cases hlt : (k : Int) < m
  ·go_wp2_with (first
    | (go_at_call 37;refine (rrow_own s.Rn s.Cn s.A s.n s.c cs k _ (by exact HRr.out.up BWX) HN.out.1 (by have:=HN.out.2.2;omega) HN.out.2.1).mono ?_;rintro ee w6 ⟨Ar,nr,cr,rfl,hnr,ho2,hb2⟩;have hbw2 : Bw wr w6:=Bw.trans (show Bw wr _ from BWX) hb2;have HO2:=Lib.hid (HO.out.bw hbw2);have HF2:=Lib.hid (HF.out.up hbw2);have HR2:=Lib.hid (show w6.ownsRow 0 70 4 (.slice Ar nr cr) (rwF s cs k).length (flat (rwF s cs k)) by unfold rwF;rw [← hnr];exact ho2);have hz2:=hbw2.size;clear hb2 hnr ho2)
    | (at_builtin;refine wpList_append_srcG (by rfl) (.tmp 33) (.tmp 38) 51 rfl w5.heap.size 23 j0 (.slice none 0 0) 1 24 Tryz.underlying51 hj hj0 hj1 hj2 rfl (by decide) (.slice A6 k c6) k vs (by rfl) (HO2.out.bw BWX) (some ⟨_,0,none⟩) 1 1 [.slice Ar nr cr] (by rfl) rfl (fun e => by cases e) (fun ad e => by cases e;exact cell_one_new _ _ _) (by simp;rfl) (by unfold maxLen;omega) (by omega) SZX ?_;intro v7 w7 hown7 hg7;obtain ⟨A7,c7,rfl,hc7,hc7m⟩:=own_form hown7;have HF7:=Lib.hid (RwsF.app hg7 (HO2.out.bw BWX) (HF2.out.up BWX) (HR2.out.bw BWX));have hbw7 : Bw w5 w7:=Bw.row (show Bw w5 (w6.alloc _) from Bw.alloc (Bw.trans hbwr hbw2) _) (HO2.out.bw BWX) hg7 (Nat.le_refl _);have HO7:=Lib.hid hown7;clear hown7 hg7)
    | fail)
   go_roundw
   case rel => exact ⟨k + 1,vs ++ [.slice Ar nr cr],by go_num,by omega,HO7.out,HF7.out,hbw7⟩
   case measure => simp [intOf];omega
  ·obtain rfl : k = m:=by omega
   go_upto_region 11 with (first
    | (go_at_call 73;refine (rscroll_any s.Rn s.Cn s.A s.n s.c cs 0 ((s.Rn : Int) - 1) (k : Int) 32 0 0 0 _ (by exact HRr.out.up BWX) HN.out.1 HN.out.2.1).mono ?_;rintro ee w6 ⟨A1,n1,c1,rfl,hr6,hn6,hc6',hb6⟩;have hbw6 : Bw wr w6:=Bw.trans (show Bw wr _ from BWX) hb6;have HR6:=Lib.hid (show Rg w6 A1 n1 (rzQ s cs R) from by unfold rzQ;rw [HM.out];exact hr6);clear hr6 hb6)
    | (go_at_call 72;refine (rresize_new s.Rn s.Cn A1 n1 c1 (rzQ s cs R) rows cols _ (HR6.out.up BWX) hn6 hc6' HQV.out).mono ?_;rw [HS.out.1,HS.out.2.1,HS.out.2.2];rintro ee w7 ⟨A,n,c,rfl,hr7,hn7,hc7,hA7,hb7⟩;have hbw7 : Bw wr w7:=Bw.trans (show Bw wr _ from Bw.trans hbw6 BWX) hb7;have HR7:=Lib.hid hr7;have HNA:=Lib.hid (show ∀ ad,A = some ad → wr.heap.size ≤ ad.block from fun ad e => by have h1:=hA7 ad e;have h2:=hbw6.size;first|omega|(simp only [szA,szS,szD,szN] at h1;omega));clear hr7 hA7 hb7)
    | fail)
   have hz7:=hbw7.size
   generalize hw8 : w7.alloc _ = w8
   obtain ⟨hb8,hbw8,hz8⟩:=sb1 hw8
   obtain ⟨gq,hgq⟩ : ∃ gq,gq = w7.heap.size:=⟨_,rfl⟩
   rw [← hgq] at hb8 ⊢
   have hbr8 : Bw wr w8:=Bw.trans hbw7 hbw8
   have HQ8:=Lib.hid hb8
   have hltq:=hb8.lt
   have hgq0 : w.heap.size + 1 < gq:=by omega
   have HA8:=Lib.hid (HAr.out.up hbr8)
   have HT8:=Lib.hid (show ∃ old,Sb w8 (w.heap.size + 1) old 46 ∧ old.size = 19 from Exists.elim HT5.out (fun old h => ⟨old,(h.1.up hbwr).up hbr8,h.2⟩))
   have HR8:=Lib.hid (HR7.out.up hbw8)
   have HL8:=Lib.hid (show LsF w8 w5.heap.size A6 k c6 (rwF s cs) from ⟨vs,HO.out.bw hbr8,HF.out.up hbr8⟩)
   have HBW8:=Lib.hid (Bw.trans HBW5.out (Bw.trans hbwr hbr8))
   have HNE:=Lib.hid (show ∀ ad,A = some ad → w.heap.size + 1 < ad.block from fun ad e => by have:=HNA.out ad e;omega)
   clear x0 x1 x2 hw8 hb8 hbw8 hz8 hgq hbw7 hbw6
   have HY:=Lib.hid (show ∀ w',Bw w8 w' → (w'.cell? ⟨gq,0,none⟩ = some (.int .i64 (R : Int)) ∧ w'.cell? ⟨gq,1,none⟩ = some (.int .i64 (C : Int)) ∧ w'.cell? ⟨gq,2,none⟩ = some (.slice A n c)) from fun w' hb => ⟨(HQ8.out.up hb).cell 0 rfl,(HQ8.out.up hb).cell 1 rfl,(HQ8.out.up hb).cell 2 rfl⟩)
   have hne : w.heap.size ≠ gq:=by omega
   have hlt8:=HA8.out.lt
   refine wp_region_held_drew (S:=(fun w' => w'.cell? ⟨gq,0,none⟩ = some (.int .i64 (R : Int)) ∧ w'.cell? ⟨gq,1,none⟩ = some (.int .i64 (C : Int)) ∧ w'.cell? ⟨gq,2,none⟩ = some (.slice A n c))) (by kernel_rfl) ?_ (fun hHeld => ?_)
   ·(try dsimp only);(first|(refine HY.out _ ?_;(repeat (first|with_reducible (first|assumption|exact Bw.refl _|refine Bw.alloc ?_ _|refine Bw.more ?_ _ _|refine Bw.drew ?_|refine Bw.drewN ?_ _)|((with_reducible refine Bw.set2 ?_ ?_ _);(focus exact SZX))|with_reducible refine Bw.trans ?_ (by assumption)));done)|exact ⟨CELAX,CELAX,CELAX⟩)
   refine tkQ 0 ?_
   (try simp only [Act.put,zP1,zP2,zP3,zP4,zP5,zP6])
   refine tkQ 1 ?_
   refine tkQ 2 ?_
   refine tkQ 4 ?_
   (try simp only [Act.put,zP1,zP2,zP3,zP4,zP5,zP6])
   refine arO 3 (fun K hK => ?_)
   go_simp
   refine (rsall_any (R : Int) _ hR1 (by omega)).mono ?_;rintro ee wb ⟨rfl,hbb⟩;have hbwb : Bw w8 wb:=Bw.trans (show Bw w8 _ from BWX) hbb;clear hbb;have HAb:=Lib.hid (HA8.out.up hbwb);have hltb:=HAb.out.lt;have y0:=HAb.out.cell 0 (v:=.int .i64 (s.Rn : Int)) rfl;have z0:=HAb.out.free 0;have y1:=HAb.out.cell 1 (v:=.int .i64 (s.Cn : Int)) rfl;have z1:=HAb.out.free 1;have y2:=HAb.out.cell 2 (v:=.slice s.A s.n s.c) rfl;have z2:=HAb.out.free 2;have y9:=HAb.out.cell 9 (v:=.int .i64 s.top) rfl;have z9:=HAb.out.free 9;have y10:=HAb.out.cell 10 (v:=.int .i64 s.bot) rfl;have z10:=HAb.out.free 10;have q0:=(HQ8.out.up hbwb).cell 0 (v:=.int .i64 (R : Int)) rfl;have q1:=(HQ8.out.up hbwb).cell 1 (v:=.int .i64 (C : Int)) rfl;have q2:=(HQ8.out.up hbwb).cell 2 (v:=.slice A n c) rfl;go_wp2_with fail
   refine hK.out _ _ ?_ (fun hHeld => ?_)
   ·(try dsimp only);(first|(refine HY.out _ ?_;(repeat (first|with_reducible (first|assumption|exact Bw.refl _|refine Bw.alloc ?_ _|refine Bw.more ?_ _ _|refine Bw.drew ?_|refine Bw.drewN ?_ _)|((with_reducible refine Bw.set2 ?_ ?_ _);(focus exact SZX))|with_reducible refine Bw.trans ?_ (by assumption)));done)|exact ⟨CELAX,CELAX,CELAX⟩)
   clear hK K
   (try simp only [Act.put,zP1,zP2,zP3,zP4,zP5,zP6])
   refine arO 5 (fun K hK => ?_)
   go_simp
   refine hK.out _ _ ?_ (fun hHeld => ?_)
   ·(try dsimp only);(first|(refine HY.out _ ?_;(repeat (first|with_reducible (first|assumption|exact Bw.refl _|refine Bw.alloc ?_ _|refine Bw.more ?_ _ _|refine Bw.drew ?_|refine Bw.drewN ?_ _)|((with_reducible refine Bw.set2 ?_ ?_ _);(focus exact SZX))|with_reducible refine Bw.trans ?_ (by assumption)));done)|exact ⟨CELAX,CELAX,CELAX⟩)
   clear hK K
   (try simp only [Act.put,zP1,zP2,zP3,zP4,zP5,zP6])
   refine tkQ 6 ?_
   (try simp only [Act.put,zP1,zP2,zP3,zP4,zP5,zP6])
   refine arO 7 (fun K hK => ?_)
   go_simp
   refine hK.out _ _ ?_ (fun hHeld => ?_)
   ·(try dsimp only);(first|(refine HY.out _ ?_;(repeat (first|with_reducible (first|assumption|exact Bw.refl _|refine Bw.alloc ?_ _|refine Bw.more ?_ _ _|refine Bw.drew ?_|refine Bw.drewN ?_ _)|((with_reducible refine Bw.set2 ?_ ?_ _);(focus exact SZX))|with_reducible refine Bw.trans ?_ (by assumption)));done)|exact ⟨CELAX,CELAX,CELAX⟩)
   clear hK K
   (try simp only [Act.put,zP1,zP2,zP3,zP4,zP5,zP6])
   refine wpAnyH_done (by kernel_rfl) ?_ _
   generalize hw9 : ((((wb.setCell ⟨w.heap.size,0,none⟩ (.int .i64 (R : Int))).setCell ⟨w.heap.size,1,none⟩ (.int .i64 (C : Int))).setCell ⟨w.heap.size,2,none⟩ (.slice A n c)).setCell ⟨w.heap.size,9,none⟩ (.int .i64 0)).setCell ⟨w.heap.size,10,none⟩ (.int .i64 ((R : Int) - 1)) = w9
   have HA9:=Lib.hid (show Sb w9 w.heap.size ({ s with Rn:=R,Cn:=C,A:=A,n:=n,c:=c,top:=0,bot:=(R : Int) - 1 } : Scr).vals.toArray 46 from by rw [← hw9];exact ((((HAb.out.set 0 _ rfl).set 1 _ rfl).set 2 _ rfl).set 9 _ rfl).set 10 _ rfl)
   have hg9 : w8.grownBy w9 (some w.heap.size):=by rw [← hw9];exact grown_set (grown_set (grown_set (grown_set (grown_set (grown_bw hbwb _) 0 _) 1 _) 2 _) 9 _) 10 _
   have hqn : some gq ≠ some w.heap.size:=fun e => by have:=Option.some.inj e;omega
   have htn : some (w.heap.size + 1) ≠ some w.heap.size:=fun e => by have:=Option.some.inj e;omega
   have HQ9:=Lib.hid (HQ8.out.far hg9 hqn)
   have HT9:=Lib.hid (show ∃ old,Sb w9 (w.heap.size + 1) old 46 ∧ old.size = 19 from Exists.elim HT8.out (fun old h => ⟨old,h.1.far hg9 htn,h.2⟩))
   have HR9:=Lib.hid (HR8.out.far hg9 (fun ad e e2 => by have:=HNE.out ad e;have:=Option.some.inj e2;omega))
   have HL9:=Lib.hid (HL8.out.far hg9 (sb_tyN HA8.out) (by decide) (by decide))
   have hlt9:=HA9.out.lt
   have hltq9:=HQ9.out.lt
   clear hw9 q0 q1 q2 y0 y1 y2 y9 y10 z0 z1 z2 z9 z10
   have q0:=HQ9.out.cell 0 (v:=.int .i64 (R : Int)) rfl
   have q1:=HQ9.out.cell 1 (v:=.int .i64 (C : Int)) rfl
   have x3:=HA9.out.cell 3 (v:=.int .i64 s.row) rfl
   have v3:=HA9.out.free 3
   have x4:=HA9.out.cell 4 (v:=.int .i64 s.col) rfl
   have v4:=HA9.out.free 4
   have x5:=HA9.out.cell 5 (v:=.bool s.wrap) rfl
   have v5:=HA9.out.free 5
   have x11:=HA9.out.cell 11 (v:=.int .i64 s.srow) rfl
   have v11:=HA9.out.free 11
   have x12:=HA9.out.cell 12 (v:=.int .i64 s.scol) rfl
   have v12:=HA9.out.free 12
   have x13:=HA9.out.cell 13 (v:=.bool s.swrap) rfl
   have v13:=HA9.out.free 13
   go_upto_region 14 with (fail)
   clear q0 q1 x3 x4 x5 x11 x12 x13 v3 v4 v5 v11 v12 v13
   generalize hw10 : (((((w9.setCell ⟨w.heap.size,3,none⟩ _).setCell ⟨w.heap.size,4,none⟩ _).setCell ⟨w.heap.size,5,none⟩ _).setCell ⟨w.heap.size,11,none⟩ _).setCell ⟨w.heap.size,12,none⟩ _).setCell ⟨w.heap.size,13,none⟩ _ = w10
   have HA10:=Lib.hid (show Sb w10 w.heap.size ((rzS s R C).gr A n c).vals.toArray 46 from by unfold rzS;rw [← hw10,HM.out];exact (((((HA9.out.set 3 _ rfl).set 4 _ rfl).set 5 _ rfl).set 11 _ rfl).set 12 _ rfl).set 13 _ rfl)
   have hg10 : w9.grownBy w10 (some w.heap.size):=by rw [← hw10];exact grown_set (grown_set (grown_set (grown_set (grown_set (grown_set (grown_refl _ _) 3 _) 4 _) 5 _) 11 _) 12 _) 13 _
   have HT10:=Lib.hid (show ∃ old,Sb w10 (w.heap.size + 1) old 46 ∧ old.size = 19 from Exists.elim HT9.out (fun old h => ⟨old,h.1.far hg10 htn,h.2⟩))
   have HR10:=Lib.hid (HR9.out.far hg10 (fun ad e e2 => by have:=HNE.out ad e;have:=Option.some.inj e2;omega))
   have HL10:=Lib.hid (HL9.out.far hg10 (sb_tyN HA9.out) (by decide) (by decide))
   have HG10:=Lib.hid (hg9.trans hg10)
   have hlt10:=HA10.out.lt
   clear hw10 hg9 hg10 hqn htn
   go_wp2_with (first
    | ((with_reducible refine wpList_load_sc ((rzS s R C).gr A n c) w.heap.size (.tmp 3) rfl rfl ?_ ?_ ?_);(focus rfl);(focus (exact HA10.out)))
    | ((with_reducible refine wpList_store_sc ((rzS s R C).gr A n c) (w.heap.size + 1) (.tmp 6) (.tmp 88) rfl rfl ?_ ?_ ?_ ?_);(focus rfl);(focus rfl);(focus (exact HT10.out));intro w11 hS11 hg11;have HS11:=Lib.hid hS11;have HG11:=Lib.hid hg11;clear hS11 hg11)
    | fail)
   all_goals
    refine bodyPost_ret (results_sc2 rfl _ _ (w.heap.size + 1) ((rzS s R C).gr A n c) (by rfl) HS11.out) rfl ?_
    obtain ⟨old,hso,-⟩:=HT10.out
    unfold RzP
    rw [HM.out]
    refine ⟨A,n,c,A6,c6,rfl,?_,hn7,hc7,(HL10.out.far HG11.out (sb_tyN hso) (by decide) (by decide)).zero,fun ad e => by have:=HNE.out ad e;omega,?_⟩
    ·exact HR10.out.far HG11.out (fun ad e e2 => by have:=HNE.out ad e;have:=Option.some.inj e2;omega)
    ·exact Bw.grown (Bw.grown HBW8.out HG10.out (fun k hk => by cases hk;omega)) HG11.out (fun k hk => by cases hk;omega)
theorem Rg.lt {w : World} {A : Option Addr} {n : Nat} {cs : List C4} (h : Rg w A n cs) (h0 : 0 < cs.length) : ∀ ad,A = some ad → ad.block < w.heap.size:=fun ad e => by
 obtain ⟨g,o,e2,hx⟩:=h.2 (by have:=h.1;omega)
 rw [e2] at e
 cases e
 simpa using lt_of_cell (hx 0 h0).1
end Go.Proofs.YteebdjmjeahccaaGreatDoor
