/- Parts of the proof, one after the other. -/
import Derived.Test.YtkflooljdopldaaGreatV05
import Derived.Test.YtkflooljdopldaaGreatV01
import Derived.Test.YtkflooljdopldaaGreatV03
set_option linter.unusedSimpArgs false
set_option linter.unusedVariables false
/- Grids: the reference's Fill, Scroll and Shift at whatever arguments. -/
namespace Go.Proofs.YtkflooljdopldaaGreat
open Go.RowKit

theorem gridB_out {R C : Int} {cs : List C4} (h : gridB R C cs = true) : ∃ Rn Cn : Nat,R = Rn ∧ C = Cn ∧ 1 ≤ Rn ∧ Rn ≤ 30 ∧ 1 ≤ Cn ∧ Cn ≤ 100 ∧ cs.length = Rn * Cn ∧ cs.all cellB = true:=by
 unfold gridB at h
 rw [Bool.and_eq_true] at h
 obtain ⟨h1,h2⟩:=h
 have h3:=of_decide_eq_true h1
 obtain ⟨a,b,c,d,e⟩:=h3
 refine ⟨R.toNat,C.toNat,by omega,by omega,by omega,by omega,by omega,by omega,?_,h2⟩
 have : ((R.toNat * C.toNat : Nat) : Int) = R * C:=by rw [Int.natCast_mul,Int.toNat_of_nonneg (by omega),Int.toNat_of_nonneg (by omega)]
 omega
def fillG (R C : Int) (cs : List C4) (row fr tt : Int) (d : C4) : List C4:=if gridB R C cs = true ∧ cellB d = true then tab R.toNat C.toNat (fillF R.toNat C.toNat cs row fr tt d) else cs
def scrollG (R C : Int) (cs : List C4) (tp bt num : Int) (d : C4) : List C4:=if gridB R C cs = true ∧ cellB d = true ∧ (0 ≤ tp ∧ tp ≤ bt ∧ bt < R) then tab R.toNat C.toNat (scrollF R.toNat C.toNat cs tp bt (clampS R.toNat num) d) else cs
set_option maxRecDepth 100000 in
set_option maxHeartbeats 4000000 in
theorem rscroll_no (R C : Int) (A : Option Addr) (n c : Nat) (cs : List C4) (tp bt num d1 d2 d3 d4 : Int) (w : World) (hr : Rg w A n cs) (hn : n ≤ c) (hc : c ≤ 9223372036854775807) (h : ¬ (gridB R C cs = true ∧ cellB (d1,d2,d3,d4) = true ∧ (0 ≤ tp ∧ tp ≤ bt ∧ bt < R))) :
  Calls Tryz.prog 43 #[.agg #[.int .i64 R,.int .i64 C,.slice A n c],.int .i64 tp,.int .i64 bt,.int .i64 num,.agg #[.int .i64 d1,.int .i64 d2,.int .i64 d3,.int .i64 d4]] w (GrP w R C cs):=by
 have HR:=Lib.hid hr
 clear hr
 cases hv : gridB R C cs
 ·have HV:=Lib.hid hv
  clear h
  go_enter Tryz.func43,Tryz.ntmps43
  go_wp2_with (first
   | (go_at_call 72;refine (rgvalid_any _ _ _ _ _ cs _ (by exact HR.out.up BWX) hn hc).mono ?_;rintro ee wv ⟨rfl,hbv⟩;rw [HV.out];have HB0:=Lib.hid (((Bx.lit (w:=w) (cs:=#[.int .i64 R,.int .i64 C,.slice A n c]) (T:=26) rfl rfl).up (show Bw _ (((w.alloc _).alloc _).alloc _) from BWX)).up hbv);have HB1:=Lib.hid (((Bx.lit (w:=w.alloc (.cells #[.int .i64 R,.int .i64 C,.slice A n c] 26)) (g:=w.heap.size + 1) (cs:=#[.int .i64 d1,.int .i64 d2,.int .i64 d3,.int .i64 d4]) (T:=53) SZX rfl).up (show Bw _ (((w.alloc _).alloc _).alloc _) from BWX)).up hbv);have HB2:=Lib.hid ((Bx.lit (w:=(w.alloc (.cells #[.int .i64 R,.int .i64 C,.slice A n c] 26)).alloc (.cells #[.int .i64 d1,.int .i64 d2,.int .i64 d3,.int .i64 d4] 53)) (g:=w.heap.size + 1 + 1) (cs:=#[.int .i64 0,.int .i64 0,.slice none 0 0]) (T:=26) SZX rfl).up hbv);have hbw0 : Bw w wv:=Bw.trans (show Bw w _ from BWX) hbv;(have x0:=(HB0.out 0 (by simp)).1;have x1:=(HB0.out 1 (by simp)).1;have x2:=(HB0.out 2 (by simp)).1;simp only [List.getElem_cons_zero,List.getElem_cons_succ] at x0 x1 x2);(have y0:=(HB1.out 0 (by simp)).1;have y1:=(HB1.out 1 (by simp)).1;have y2:=(HB1.out 2 (by simp)).1;have y3:=(HB1.out 3 (by simp)).1;simp only [List.getElem_cons_zero,List.getElem_cons_succ] at y0 y1 y2 y3);(have u0:=(HB2.out 0 (by simp)).1;have u1:=(HB2.out 1 (by simp)).1;have u2:=(HB2.out 2 (by simp)).1;have z0:=(HB2.out 0 (by simp)).2;have z1:=(HB2.out 1 (by simp)).2;have z2:=(HB2.out 2 (by simp)).2;simp only [List.getElem_cons_zero,List.getElem_cons_succ] at u0 u1 u2);have hz2:=HB2.out.lt (by simp);clear hbv)
   | (go_at_call 78;refine (rcell_any d1 d2 d3 d4 _).mono ?_;rintro ee wu ⟨rfl,hbc⟩;rw [HCV.out];have HC0:=Lib.hid (HB0.out.up hbc);have HC2:=Lib.hid (HB2.out.up hbc);have hbw1 : Bw w wu:=Bw.trans hbw0 hbc;clear hbc x0 x1 x2 y0 y1 y2 y3 u0 u1 u2 z0 z1 z2 hz2;(have x0:=(HC0.out 0 (by simp)).1;have x1:=(HC0.out 1 (by simp)).1;have x2:=(HC0.out 2 (by simp)).1;simp only [List.getElem_cons_zero,List.getElem_cons_succ] at x0 x1 x2);(have u0:=(HC2.out 0 (by simp)).1;have u1:=(HC2.out 1 (by simp)).1;have u2:=(HC2.out 2 (by simp)).1;have z0:=(HC2.out 0 (by simp)).2;have z1:=(HC2.out 1 (by simp)).2;have z2:=(HC2.out 2 (by simp)).2;simp only [List.getElem_cons_zero,List.getElem_cons_succ] at u0 u1 u2);have hz2:=HC2.out.lt (by simp))
   | fail)
  refine bodyPost_ret (by simp [results,Tryz.results43,go_sem,u0,u1,u2,z0,z1,z2];rfl) rfl ?_
  exact ⟨A,n,c,rfl,HR.out.up BWX,hn,hc,BWX⟩
 ·have HV:=Lib.hid hv
  cases hcv : cellB (d1,d2,d3,d4)
  ·have HCV:=Lib.hid hcv
   clear h
   go_enter Tryz.func43,Tryz.ntmps43
   go_wp2_with (first
    | (go_at_call 72;refine (rgvalid_any _ _ _ _ _ cs _ (by exact HR.out.up BWX) hn hc).mono ?_;rintro ee wv ⟨rfl,hbv⟩;rw [HV.out];have HB0:=Lib.hid (((Bx.lit (w:=w) (cs:=#[.int .i64 R,.int .i64 C,.slice A n c]) (T:=26) rfl rfl).up (show Bw _ (((w.alloc _).alloc _).alloc _) from BWX)).up hbv);have HB1:=Lib.hid (((Bx.lit (w:=w.alloc (.cells #[.int .i64 R,.int .i64 C,.slice A n c] 26)) (g:=w.heap.size + 1) (cs:=#[.int .i64 d1,.int .i64 d2,.int .i64 d3,.int .i64 d4]) (T:=53) SZX rfl).up (show Bw _ (((w.alloc _).alloc _).alloc _) from BWX)).up hbv);have HB2:=Lib.hid ((Bx.lit (w:=(w.alloc (.cells #[.int .i64 R,.int .i64 C,.slice A n c] 26)).alloc (.cells #[.int .i64 d1,.int .i64 d2,.int .i64 d3,.int .i64 d4] 53)) (g:=w.heap.size + 1 + 1) (cs:=#[.int .i64 0,.int .i64 0,.slice none 0 0]) (T:=26) SZX rfl).up hbv);have hbw0 : Bw w wv:=Bw.trans (show Bw w _ from BWX) hbv;(have x0:=(HB0.out 0 (by simp)).1;have x1:=(HB0.out 1 (by simp)).1;have x2:=(HB0.out 2 (by simp)).1;simp only [List.getElem_cons_zero,List.getElem_cons_succ] at x0 x1 x2);(have y0:=(HB1.out 0 (by simp)).1;have y1:=(HB1.out 1 (by simp)).1;have y2:=(HB1.out 2 (by simp)).1;have y3:=(HB1.out 3 (by simp)).1;simp only [List.getElem_cons_zero,List.getElem_cons_succ] at y0 y1 y2 y3);(have u0:=(HB2.out 0 (by simp)).1;have u1:=(HB2.out 1 (by simp)).1;have u2:=(HB2.out 2 (by simp)).1;have z0:=(HB2.out 0 (by simp)).2;have z1:=(HB2.out 1 (by simp)).2;have z2:=(HB2.out 2 (by simp)).2;simp only [List.getElem_cons_zero,List.getElem_cons_succ] at u0 u1 u2);have hz2:=HB2.out.lt (by simp);clear hbv)
    | (go_at_call 78;refine (rcell_any d1 d2 d3 d4 _).mono ?_;rintro ee wu ⟨rfl,hbc⟩;rw [HCV.out];have HC0:=Lib.hid (HB0.out.up hbc);have HC2:=Lib.hid (HB2.out.up hbc);have hbw1 : Bw w wu:=Bw.trans hbw0 hbc;clear hbc x0 x1 x2 y0 y1 y2 y3 u0 u1 u2 z0 z1 z2 hz2;(have x0:=(HC0.out 0 (by simp)).1;have x1:=(HC0.out 1 (by simp)).1;have x2:=(HC0.out 2 (by simp)).1;simp only [List.getElem_cons_zero,List.getElem_cons_succ] at x0 x1 x2);(have u0:=(HC2.out 0 (by simp)).1;have u1:=(HC2.out 1 (by simp)).1;have u2:=(HC2.out 2 (by simp)).1;have z0:=(HC2.out 0 (by simp)).2;have z1:=(HC2.out 1 (by simp)).2;have z2:=(HC2.out 2 (by simp)).2;simp only [List.getElem_cons_zero,List.getElem_cons_succ] at u0 u1 u2);have hz2:=HC2.out.lt (by simp))
    | fail)
   refine bodyPost_ret (by simp [results,Tryz.results43,go_sem,u0,u1,u2,z0,z1,z2];rfl) rfl ?_
   exact ⟨A,n,c,rfl,HR.out.up BWX,hn,hc,BWX⟩
  ·have HCV:=Lib.hid hcv
   have hw : (tp < 0) ∨ (0 ≤ tp ∧ bt < tp) ∨ (0 ≤ tp ∧ tp ≤ bt ∧ R ≤ bt):=by
    rw [hv,hcv] at h
    simp only [true_and] at h
    omega
   clear h hv hcv
   rcases hw with h|⟨h,h2⟩|⟨h,h2,h3⟩
   all_goals
    go_enter Tryz.func43,Tryz.ntmps43
    go_wp2_with (first
     | (go_at_call 72;refine (rgvalid_any _ _ _ _ _ cs _ (by exact HR.out.up BWX) hn hc).mono ?_;rintro ee wv ⟨rfl,hbv⟩;rw [HV.out];have HB0:=Lib.hid (((Bx.lit (w:=w) (cs:=#[.int .i64 R,.int .i64 C,.slice A n c]) (T:=26) rfl rfl).up (show Bw _ (((w.alloc _).alloc _).alloc _) from BWX)).up hbv);have HB1:=Lib.hid (((Bx.lit (w:=w.alloc (.cells #[.int .i64 R,.int .i64 C,.slice A n c] 26)) (g:=w.heap.size + 1) (cs:=#[.int .i64 d1,.int .i64 d2,.int .i64 d3,.int .i64 d4]) (T:=53) SZX rfl).up (show Bw _ (((w.alloc _).alloc _).alloc _) from BWX)).up hbv);have HB2:=Lib.hid ((Bx.lit (w:=(w.alloc (.cells #[.int .i64 R,.int .i64 C,.slice A n c] 26)).alloc (.cells #[.int .i64 d1,.int .i64 d2,.int .i64 d3,.int .i64 d4] 53)) (g:=w.heap.size + 1 + 1) (cs:=#[.int .i64 0,.int .i64 0,.slice none 0 0]) (T:=26) SZX rfl).up hbv);have hbw0 : Bw w wv:=Bw.trans (show Bw w _ from BWX) hbv;(have x0:=(HB0.out 0 (by simp)).1;have x1:=(HB0.out 1 (by simp)).1;have x2:=(HB0.out 2 (by simp)).1;simp only [List.getElem_cons_zero,List.getElem_cons_succ] at x0 x1 x2);(have y0:=(HB1.out 0 (by simp)).1;have y1:=(HB1.out 1 (by simp)).1;have y2:=(HB1.out 2 (by simp)).1;have y3:=(HB1.out 3 (by simp)).1;simp only [List.getElem_cons_zero,List.getElem_cons_succ] at y0 y1 y2 y3);(have u0:=(HB2.out 0 (by simp)).1;have u1:=(HB2.out 1 (by simp)).1;have u2:=(HB2.out 2 (by simp)).1;have z0:=(HB2.out 0 (by simp)).2;have z1:=(HB2.out 1 (by simp)).2;have z2:=(HB2.out 2 (by simp)).2;simp only [List.getElem_cons_zero,List.getElem_cons_succ] at u0 u1 u2);have hz2:=HB2.out.lt (by simp);clear hbv)
     | (go_at_call 78;refine (rcell_any d1 d2 d3 d4 _).mono ?_;rintro ee wu ⟨rfl,hbc⟩;rw [HCV.out];have HC0:=Lib.hid (HB0.out.up hbc);have HC2:=Lib.hid (HB2.out.up hbc);have hbw1 : Bw w wu:=Bw.trans hbw0 hbc;clear hbc x0 x1 x2 y0 y1 y2 y3 u0 u1 u2 z0 z1 z2 hz2;(have x0:=(HC0.out 0 (by simp)).1;have x1:=(HC0.out 1 (by simp)).1;have x2:=(HC0.out 2 (by simp)).1;simp only [List.getElem_cons_zero,List.getElem_cons_succ] at x0 x1 x2);(have u0:=(HC2.out 0 (by simp)).1;have u1:=(HC2.out 1 (by simp)).1;have u2:=(HC2.out 2 (by simp)).1;have z0:=(HC2.out 0 (by simp)).2;have z1:=(HC2.out 1 (by simp)).2;have z2:=(HC2.out 2 (by simp)).2;simp only [List.getElem_cons_zero,List.getElem_cons_succ] at u0 u1 u2);have hz2:=HC2.out.lt (by simp))
     | fail)
    refine bodyPost_ret (by simp [results,Tryz.results43,go_sem,u0,u1,u2,z0,z1,z2];rfl) rfl ?_
    exact ⟨A,n,c,rfl,HR.out.up BWX,hn,hc,BWX⟩
theorem rscroll_any (R C : Int) (A : Option Addr) (n c : Nat) (cs : List C4) (tp bt num d1 d2 d3 d4 : Int) (w : World) (hr : Rg w A n cs) (hn : n ≤ c) (hc : c ≤ 9223372036854775807) :
  Calls Tryz.prog 43 #[.agg #[.int .i64 R,.int .i64 C,.slice A n c],.int .i64 tp,.int .i64 bt,.int .i64 num,.agg #[.int .i64 d1,.int .i64 d2,.int .i64 d3,.int .i64 d4]] w (GrP w R C (scrollG R C cs tp bt num (d1,d2,d3,d4))):=by
 by_cases h : gridB R C cs = true ∧ cellB (d1,d2,d3,d4) = true ∧ (0 ≤ tp ∧ tp ≤ bt ∧ bt < R)
 ·rw [show scrollG R C cs tp bt num (d1,d2,d3,d4) = _ from if_pos h]
  obtain ⟨Rn,Cn,rfl,rfl,h1,h2,h3,h4,hl,-⟩:=gridB_out h.1
  rw [Int.toNat_natCast,Int.toNat_natCast]
  exact (rscroll_go Rn Cn A n c cs tp bt num d1 d2 d3 d4 w h1 h2 h3 h4 (by rw [← hr.1];exact hl) hr hn hc h.1 h.2.1 h.2.2.1 h.2.2.2.1 h.2.2.2.2).mono fun _ _ h9 => h9.toP
 ·rw [show scrollG R C cs tp bt num (d1,d2,d3,d4) = _ from if_neg h]
  exact rscroll_no R C A n c cs tp bt num d1 d2 d3 d4 w hr hn hc h

def vldB (r c rows cols : Int) : Bool:=decide (0 ≤ r ∧ r < rows ∧ 0 ≤ c ∧ c < cols)
def rgtB (t b rows : Int) : Bool:=decide (0 ≤ t ∧ t ≤ b ∧ b < rows)

theorem cvalid_any (r c rows cols : Int) (b : Bool) (w : World) :
  Calls Tryz.prog 32 #[.agg #[.int .i64 r,.int .i64 c,.bool b],.int .i64 rows,.int .i64 cols] w fun e w' => e = .returned (.bool (vldB r c rows cols)) ∧ w.alloc (.cells #[.int .i64 r,.int .i64 c,.bool b] 28) = w':=by
 go_enter Tryz.func32,Tryz.ntmps32
 go_wp2
 all_goals go_ret
 all_goals refine ⟨ret_bool ?_,rfl⟩
 all_goals (rw [Bool.eq_iff_iff];simp [vldB];omega)

theorem cright_any (t b rows : Int) (w : World) :
  Calls Tryz.prog 115 #[.agg #[.int .i64 t,.int .i64 b],.int .i64 rows] w fun e w' => e = .returned (.bool (rgtB t b rows)) ∧ w.alloc (.cells #[.int .i64 t,.int .i64 b] 32) = w':=by
 go_enter Tryz.func115,Tryz.ntmps115
 go_wp2
 all_goals go_ret
 all_goals refine ⟨ret_bool ?_,rfl⟩
 all_goals (rw [Bool.eq_iff_iff];simp [rgtB];omega)

def tabN (c k cols : Int) : Int:=if (cols - 1) / 8 - c / 8 < k then cols - 1 else (c / 8 + k) * 8
def mv (r c : Int) (b : Bool) (kind n t m rows cols : Int) : Int × Int × Bool :=
 if vldB r c rows cols && rgtB t m rows then
  if kind = 1 then (r - min (max n 1) (r - (if t ≤ r then t else 0)),c,false)
  else if kind = 2 then (r + min (max n 1) ((if r ≤ m then m else rows - 1) - r),c,false)
  else if kind = 3 then (r,c + min (max n 1) (cols - 1 - c),false)
  else if kind = 4 then (r,c - min (max n 1) c,false)
  else if kind = 5 then (r,0,false)
  else if kind = 6 then (r,min (max n 0) (cols - 1),false)
  else if kind = 7 then (min (max n 0) (rows - 1),c,false)
  else if kind = 8 then (r,tabN c (max n 1) cols,false)
  else (r,c,b)
 else (r,c,b)
def curV (x : Int × Int × Bool) : Value:=.agg #[.int .i64 x.1,.int .i64 x.2.1,.bool x.2.2]

theorem curV_ext {a c : Int} {b : Bool} {x : Int × Int × Bool} (h1 : a = x.1) (h2 : c = x.2.1) (h3 : b = x.2.2) : Ending.returned (.agg #[.int .i64 a,.int .i64 c,.bool b]) = .returned (curV x):=by
 subst h1;subst h2;subst h3;rfl

theorem ctab_any (c k cols : Int) (w : World) (h0 : 0 ≤ c) (h1 : c < cols) (h2 : cols ≤ 1000000) (h3 : 1 ≤ k) (h4 : k ≤ 9223372036854775807):
  Calls Tryz.prog 116 #[.int .i64 c,.int .i64 k,.int .i64 cols] w fun e w' => e = .returned (.int .i64 (tabN c k cols)) ∧ w = w':=by
 go_enter Tryz.func116,Tryz.ntmps116
 go_wp2
 all_goals go_ret
 all_goals refine ⟨ret_int ?_,rfl⟩
 all_goals (unfold tabN;split <;> first|rfl|omega)

theorem mv_other {r c : Int} {b : Bool} {kind n t m rows cols : Int} (h : kind < 1 ∨ 8 < kind) : mv r c b kind n t m rows cols = (r,c,b):=by
 unfold mv
 simp only [show kind ≠ 1 from by omega,show kind ≠ 2 from by omega,show kind ≠ 3 from by omega,show kind ≠ 4 from by omega,show kind ≠ 5 from by omega,show kind ≠ 6 from by omega,show kind ≠ 7 from by omega,show kind ≠ 8 from by omega,if_false,ite_self]

theorem rcvalid_any (r c rows cols : Int) (b : Bool) (w : World) :
  Calls Tryz.prog 73 #[.agg #[.int .i64 r,.int .i64 c,.bool b],.int .i64 rows,.int .i64 cols] w fun e w' => e = .returned (.bool (vldB r c rows cols)) ∧ w.alloc (.cells #[.int .i64 r,.int .i64 c,.bool b] 28) = w':=by
 go_enter Tryz.func73,Tryz.ntmps73
 go_wp2
 all_goals go_ret
 all_goals refine ⟨ret_bool ?_,rfl⟩
 all_goals (rw [Bool.eq_iff_iff];simp [vldB];omega)

theorem rright_any (t b rows : Int) (w : World) :
  Calls Tryz.prog 74 #[.agg #[.int .i64 t,.int .i64 b],.int .i64 rows] w fun e w' => e = .returned (.bool (rgtB t b rows)) ∧ w.alloc (.cells #[.int .i64 t,.int .i64 b] 32) = w':=by
 go_enter Tryz.func74,Tryz.ntmps74
 go_wp2
 all_goals go_ret
 all_goals refine ⟨ret_bool ?_,rfl⟩
 all_goals (rw [Bool.eq_iff_iff];simp [rgtB];omega)


set_option maxHeartbeats 1000000 in
theorem rmove_no (r c : Int) (b : Bool) (kind n t m rows cols : Int) (w : World) (hr : rows ≤ 1000000) (hc : cols ≤ 1000000) (hv : vldB r c rows cols = false) :
  Calls Tryz.prog 118 #[.agg #[.int .i64 r,.int .i64 c,.bool b],.int .i64 kind,.int .i64 n,.agg #[.int .i64 t,.int .i64 m],.int .i64 rows,.int .i64 cols] w fun e w' => e = .returned (.agg #[.int .i64 r,.int .i64 c,.bool b]) ∧ Bw w w':=by
 have HV:=Lib.hid hv
 clear hv
 go_enter Tryz.func118,Tryz.ntmps118
 go_wp2_with (go_at_call 73;refine (rcvalid_any _ _ _ _ _ _).mono ?_;rintro ee ww ⟨rfl,rfl⟩;rw [HV.out])
 refine bodyPost_ret (v := ?v) ?res rfl ?post
 case res => (simp [results,Tryz.results118,go_sem];rfl)
 exact ⟨rfl,BWX⟩

set_option maxHeartbeats 1000000 in
theorem rmove_nr (r c : Int) (b : Bool) (kind n t m rows cols : Int) (w : World) (hr : rows ≤ 1000000) (hc : cols ≤ 1000000) (hv : vldB r c rows cols = true) (hq : rgtB t m rows = false) :
  Calls Tryz.prog 118 #[.agg #[.int .i64 r,.int .i64 c,.bool b],.int .i64 kind,.int .i64 n,.agg #[.int .i64 t,.int .i64 m],.int .i64 rows,.int .i64 cols] w fun e w' => e = .returned (.agg #[.int .i64 r,.int .i64 c,.bool b]) ∧ Bw w w':=by
 have HV:=Lib.hid hv
 have HR:=Lib.hid hq
 clear hv hq
 go_enter Tryz.func118,Tryz.ntmps118
 go_wp2_with (first|(go_at_call 73;refine (rcvalid_any _ _ _ _ _ _).mono ?_;rintro ee ww ⟨rfl,rfl⟩;rw [HV.out])|(go_at_call 74;refine (rright_any _ _ _ _).mono ?_;rintro ee ww ⟨rfl,rfl⟩;rw [HR.out]))
 refine bodyPost_ret (v := ?v) ?res rfl ?post
 case res => (simp [results,Tryz.results118,go_sem];rfl)
 exact ⟨rfl,BWX⟩

set_option maxHeartbeats 4000000 in
theorem rmove_yes (r c : Int) (b : Bool) (kind n t m rows cols : Int) (w : World) (hr : rows ≤ 1000000) (hc : cols ≤ 1000000) (hn : n ≤ 9223372036854775807) (h1 : 0 ≤ r) (h2 : r < rows) (h3 : 0 ≤ c) (h4 : c < cols) (h5 : 0 ≤ t) (h6 : t ≤ m) (h7 : m < rows) :
  Calls Tryz.prog 118 #[.agg #[.int .i64 r,.int .i64 c,.bool b],.int .i64 kind,.int .i64 n,.agg #[.int .i64 t,.int .i64 m],.int .i64 rows,.int .i64 cols] w fun e w' => e = .returned (curV (mv r c b kind n t m rows cols)) ∧ Bw w w':=by
 have HV:=Lib.hid (show vldB r c rows cols = true from decide_eq_true ⟨h1,h2,h3,h4⟩)
 have HR:=Lib.hid (show rgtB t m rows = true from decide_eq_true ⟨h5,h6,h7⟩)
 go_enter Tryz.func118,Tryz.ntmps118
 go_wp2_with (first
  | (go_at_call 73;refine (rcvalid_any _ _ _ _ _ _).mono ?_;rintro ee ww ⟨rfl,rfl⟩;rw [HV.out])
  | (go_at_call 74;refine (rright_any _ _ _ _).mono ?_;rintro ee ww ⟨rfl,rfl⟩;rw [HR.out]))
 all_goals refine bodyPost_ret (by simp [results,Tryz.results118,go_sem];rfl) rfl ⟨?_,BWX⟩
 all_goals (have e1:=HV.out;have e2:=HR.out;clear HV HR hr hc;try simp only [beq_iff_eq,beq_eq_false_iff_ne,ne_eq] at *)
 all_goals (first|(rw [mv_other (by omega)];rfl)|(refine curV_ext ?_ ?_ ?_ <;> simp [mv, *] <;> first|omega|(congr 1;omega)|(unfold tabN;split <;> omega)))


theorem rmove_any (r c : Int) (b : Bool) (kind n t m rows cols : Int) (w : World) (hr : rows ≤ 1000000) (hc : cols ≤ 1000000) (hn : n ≤ 9223372036854775807) :
  Calls Tryz.prog 118 #[.agg #[.int .i64 r,.int .i64 c,.bool b],.int .i64 kind,.int .i64 n,.agg #[.int .i64 t,.int .i64 m],.int .i64 rows,.int .i64 cols] w fun e w' => e = .returned (curV (mv r c b kind n t m rows cols)) ∧ Bw w w':=by
 cases hv : vldB r c rows cols
 ·have e : mv r c b kind n t m rows cols = (r,c,b):=by simp [mv,hv]
  rw [e];exact rmove_no r c b kind n t m rows cols w hr hc hv
 ·cases hq : rgtB t m rows
  ·have e : mv r c b kind n t m rows cols = (r,c,b):=by simp [mv,hq]
   rw [e];exact rmove_nr r c b kind n t m rows cols w hr hc hv hq
  ·have h1:=of_decide_eq_true hv
   have h2:=of_decide_eq_true hq
   exact rmove_yes r c b kind n t m rows cols w hr hc hn h1.1 h1.2.1 h1.2.2.1 h1.2.2.2 h2.1 h2.2.1 h2.2.2

/-- What the reference makes of one parameter. -/
def oneR (f g b p : Int) : Int × Int × Int :=
 if p = 0 then (0,0,0) else if p = 1 then (bits .or .i64 (bits .andNot .i64 f 1) 1,g,b) else if p = 4 then (bits .or .i64 (bits .andNot .i64 f 2) 2,g,b) else if p = 7 then (bits .or .i64 (bits .andNot .i64 f 4) 4,g,b)
 else if p = 22 then (bits .andNot .i64 f 1,g,b) else if p = 24 then (bits .andNot .i64 f 2,g,b) else if p = 27 then (bits .andNot .i64 f 4,g,b)
 else (f,if 0 ≤ colR p 30 then colR p 30 else g,if 0 ≤ colR p 40 then colR p 40 else b)
def OneP (f g b p : Int) (w : World) : Prop:=Calls Tryz.prog 120 #[atV f g b,.int .i64 p] w (AtP w (oneR f g b p))
theorem one_0 (f g b : Int) (w : World) : OneP f g b 0 w:=by
 unfold OneP
 rw [show oneR f g b 0 = (0,0,0) from rfl]
 unfold atV
 go_enter Tryz.func120,Tryz.ntmps120
 go_wp2
 refine bodyPost_ret (by simp [results,Tryz.results120,go_sem];rfl) rfl ?_
 exact ⟨rfl,BWX⟩
theorem one_1 (f g b : Int) (w : World) : OneP f g b 1 w:=by
 unfold OneP
 rw [show oneR f g b 1 = (bits .or .i64 (bits .andNot .i64 f 1) 1,g,b) from rfl]
 unfold atV
 go_enter Tryz.func120,Tryz.ntmps120
 go_wp2_with (first|(go_at_call 121;refine (flag_on f g b 1 _).mono ?_;rintro ee ww ⟨rfl,hb1⟩;(first|obtain ⟨L1,d1,rfl⟩:=Bw.isPlus (Bw.un hb1)|obtain ⟨L1,d1,rfl⟩:=Bw.isPlus hb1);clear hb1;dsimp only [at3,atV])|fail)
 refine bodyPost_ret (by simp [results,Tryz.results120,go_sem];rfl) rfl ?_
 exact ⟨rfl,BWX⟩
theorem one_4 (f g b : Int) (w : World) : OneP f g b 4 w:=by
 unfold OneP
 rw [show oneR f g b 4 = (bits .or .i64 (bits .andNot .i64 f 2) 2,g,b) from rfl]
 unfold atV
 go_enter Tryz.func120,Tryz.ntmps120
 go_wp2_with (first|(go_at_call 121;refine (flag_on f g b 2 _).mono ?_;rintro ee ww ⟨rfl,hb1⟩;(first|obtain ⟨L1,d1,rfl⟩:=Bw.isPlus (Bw.un hb1)|obtain ⟨L1,d1,rfl⟩:=Bw.isPlus hb1);clear hb1;dsimp only [at3,atV])|fail)
 refine bodyPost_ret (by simp [results,Tryz.results120,go_sem];rfl) rfl ?_
 exact ⟨rfl,BWX⟩
theorem one_7 (f g b : Int) (w : World) : OneP f g b 7 w:=by
 unfold OneP
 rw [show oneR f g b 7 = (bits .or .i64 (bits .andNot .i64 f 4) 4,g,b) from rfl]
 unfold atV
 go_enter Tryz.func120,Tryz.ntmps120
 go_wp2_with (first|(go_at_call 121;refine (flag_on f g b 4 _).mono ?_;rintro ee ww ⟨rfl,hb1⟩;(first|obtain ⟨L1,d1,rfl⟩:=Bw.isPlus (Bw.un hb1)|obtain ⟨L1,d1,rfl⟩:=Bw.isPlus hb1);clear hb1;dsimp only [at3,atV])|fail)
 refine bodyPost_ret (by simp [results,Tryz.results120,go_sem];rfl) rfl ?_
 exact ⟨rfl,BWX⟩
theorem one_22 (f g b : Int) (w : World) : OneP f g b 22 w:=by
 unfold OneP
 rw [show oneR f g b 22 = (bits .andNot .i64 f 1,g,b) from rfl]
 unfold atV
 go_enter Tryz.func120,Tryz.ntmps120
 go_wp2_with (first|(go_at_call 121;refine (flag_off f g b 1 _).mono ?_;rintro ee ww ⟨rfl,hb1⟩;(first|obtain ⟨L1,d1,rfl⟩:=Bw.isPlus (Bw.un hb1)|obtain ⟨L1,d1,rfl⟩:=Bw.isPlus hb1);clear hb1;dsimp only [at3,atV])|fail)
 refine bodyPost_ret (by simp [results,Tryz.results120,go_sem];rfl) rfl ?_
 exact ⟨rfl,BWX⟩
theorem one_24 (f g b : Int) (w : World) : OneP f g b 24 w:=by
 unfold OneP
 rw [show oneR f g b 24 = (bits .andNot .i64 f 2,g,b) from rfl]
 unfold atV
 go_enter Tryz.func120,Tryz.ntmps120
 go_wp2_with (first|(go_at_call 121;refine (flag_off f g b 2 _).mono ?_;rintro ee ww ⟨rfl,hb1⟩;(first|obtain ⟨L1,d1,rfl⟩:=Bw.isPlus (Bw.un hb1)|obtain ⟨L1,d1,rfl⟩:=Bw.isPlus hb1);clear hb1;dsimp only [at3,atV])|fail)
 refine bodyPost_ret (by simp [results,Tryz.results120,go_sem];rfl) rfl ?_
 exact ⟨rfl,BWX⟩
theorem one_27 (f g b : Int) (w : World) : OneP f g b 27 w:=by
 unfold OneP
 rw [show oneR f g b 27 = (bits .andNot .i64 f 4,g,b) from rfl]
 unfold atV
 go_enter Tryz.func120,Tryz.ntmps120
 go_wp2_with (first|(go_at_call 121;refine (flag_off f g b 4 _).mono ?_;rintro ee ww ⟨rfl,hb1⟩;(first|obtain ⟨L1,d1,rfl⟩:=Bw.isPlus (Bw.un hb1)|obtain ⟨L1,d1,rfl⟩:=Bw.isPlus hb1);clear hb1;dsimp only [at3,atV])|fail)
 refine bodyPost_ret (by simp [results,Tryz.results120,go_sem];rfl) rfl ?_
 exact ⟨rfl,BWX⟩
set_option maxHeartbeats 2000000 in
theorem one_else (f g b p : Int) (w : World) (h0 : p ≠ 0) (h1 : p ≠ 1) (h4 : p ≠ 4) (h7 : p ≠ 7) (h22 : p ≠ 22) (h24 : p ≠ 24) (h27 : p ≠ 27) : OneP f g b p w:=by
 unfold OneP
 have HE:=Lib.hid (show oneR f g b p = (f,if 0 ≤ colR p 30 then colR p 30 else g,if 0 ≤ colR p 40 then colR p 40 else b) by unfold oneR;rw [if_neg h0,if_neg h1,if_neg h4,if_neg h7,if_neg h22,if_neg h24,if_neg h27])
 obtain ⟨c1,hc1⟩ : ∃ c1,colR p 30 = c1:=⟨_,rfl⟩
 obtain ⟨c2,hc2⟩ : ∃ c2,colR p 40 = c2:=⟨_,rfl⟩
 rw [hc1,hc2] at HE
 have H1:=Lib.hid hc1
 have H2:=Lib.hid hc2
 clear hc1 hc2
 rw [HE.out]
 clear HE
 unfold atV
 by_cases g1 : 0 ≤ c1
 ·by_cases g2 : 0 ≤ c2
  ·rw [if_pos g1,if_pos g2]
   go_enter Tryz.func120,Tryz.ntmps120
   go_wp2_with (first|(go_at_call 122;refine (color_any p _ _ (by omega) (by omega)).mono ?_;rintro ee ww ⟨rfl,rfl⟩;(first|rw [H1.out]|rw [H2.out]))|fail)
   refine bodyPost_ret (by simp [results,Tryz.results120,go_sem];rfl) rfl ?_
   exact ⟨rfl,BWX⟩
  ·rw [if_pos g1,if_neg g2]
   go_enter Tryz.func120,Tryz.ntmps120
   go_wp2_with (first|(go_at_call 122;refine (color_any p _ _ (by omega) (by omega)).mono ?_;rintro ee ww ⟨rfl,rfl⟩;(first|rw [H1.out]|rw [H2.out]))|fail)
   refine bodyPost_ret (by simp [results,Tryz.results120,go_sem];rfl) rfl ?_
   exact ⟨rfl,BWX⟩
 ·by_cases g2 : 0 ≤ c2
  ·rw [if_neg g1,if_pos g2]
   go_enter Tryz.func120,Tryz.ntmps120
   go_wp2_with (first|(go_at_call 122;refine (color_any p _ _ (by omega) (by omega)).mono ?_;rintro ee ww ⟨rfl,rfl⟩;(first|rw [H1.out]|rw [H2.out]))|fail)
   refine bodyPost_ret (by simp [results,Tryz.results120,go_sem];rfl) rfl ?_
   exact ⟨rfl,BWX⟩
  ·rw [if_neg g1,if_neg g2]
   go_enter Tryz.func120,Tryz.ntmps120
   go_wp2_with (first|(go_at_call 122;refine (color_any p _ _ (by omega) (by omega)).mono ?_;rintro ee ww ⟨rfl,rfl⟩;(first|rw [H1.out]|rw [H2.out]))|fail)
   refine bodyPost_ret (by simp [results,Tryz.results120,go_sem];rfl) rfl ?_
   exact ⟨rfl,BWX⟩
theorem one_any (f g b p : Int) (w : World) : OneP f g b p w:=by
 by_cases h0 : p = 0
 ·subst h0;exact one_0 f g b w
 by_cases h1 : p = 1
 ·subst h1;exact one_1 f g b w
 by_cases h4 : p = 4
 ·subst h4;exact one_4 f g b w
 by_cases h7 : p = 7
 ·subst h7;exact one_7 f g b w
 by_cases h22 : p = 22
 ·subst h22;exact one_22 f g b w
 by_cases h24 : p = 24
 ·subst h24;exact one_24 f g b w
 by_cases h27 : p = 27
 ·subst h27;exact one_27 f g b w
 exact one_else f g b p w h0 h1 h4 h7 h22 h24 h27
end Go.Proofs.YtkflooljdopldaaGreat
