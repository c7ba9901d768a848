/- Parts of the proof, one after the other. -/
import Derived.Test.YtkflooljdopldaaGreatV06
import Derived.Laws.BitsLemmas
import Derived.Test.YtkflooljdopldaaGreatV04
import Derived.Test.YtkflooljdopldaaGreatV05
import Derived.Deep.RegionHeld3
import Derived.Laws.Rows
import Derived.Laws.Tables
set_option linter.unusedSimpArgs false
set_option linter.unusedVariables false
/- Attributes: one parameter in the reference is one parameter of the program. -/
namespace Go.Proofs.YtkflooljdopldaaGreat
open Go.RowKit

theorem ofInt_wrap (x : BitVec 64) : BitVec.ofInt 64 (IntKind.i64.wrap (x.toNat : Int)) = x:=by
 apply BitVec.eq_of_toNat_eq
 rw [BitVec.toNat_ofInt,IntKind.wrap_i64]
 have:=x.isLt
 omega
theorem or_andNot (f x : Int) : bits .or .i64 (bits .andNot .i64 f x) x = bits .or .i64 f x:=by
 have e1 : ∀ u v : Int,bits .or .i64 u v = IntKind.i64.wrap ((BitVec.ofInt 64 u ||| BitVec.ofInt 64 v).toNat : Int):=fun _ _ => rfl
 have e2 : bits .andNot .i64 f x = IntKind.i64.wrap ((BitVec.ofInt 64 f &&& ~~~ BitVec.ofInt 64 x).toNat : Int):=rfl
 rw [e1,e1,e2,ofInt_wrap]
 congr 2
 generalize BitVec.ofInt 64 f = a
 generalize BitVec.ofInt 64 x = b
 apply congrArg
 apply BitVec.eq_of_getLsbD_eq
 intro i hi
 simp only [BitVec.getLsbD_or,BitVec.getLsbD_and,BitVec.getLsbD_not,hi,decide_true,Bool.true_and]
 cases a.getLsbD i <;> cases b.getLsbD i <;> rfl
theorem colR_none (p base : Int) (h : p < base ∨ base + 67 < p ∨ (base + 7 < p ∧ p < base + 60 ∧ p ≠ base + 9)) : colR p base = -1:=by
 unfold colR
 rw [if_neg (by omega),if_neg (by omega),if_neg (by omega)]
theorem oneR_single (f g b p : Int) : oneR f g b p = single f g b p:=by
 unfold oneR single
 by_cases h0 : p = 0
 ·rw [if_pos h0,if_pos h0]
 rw [if_neg h0,if_neg h0]
 by_cases h1 : p = 1
 ·rw [if_pos h1,if_pos h1,or_andNot]
 rw [if_neg h1,if_neg h1]
 by_cases h4 : p = 4
 ·rw [if_pos h4,if_pos h4,or_andNot]
 rw [if_neg h4,if_neg h4]
 by_cases h7 : p = 7
 ·rw [if_pos h7,if_pos h7,or_andNot]
 rw [if_neg h7,if_neg h7]
 by_cases h22 : p = 22
 ·rw [if_pos h22,if_pos h22]
 rw [if_neg h22,if_neg h22]
 by_cases h24 : p = 24
 ·rw [if_pos h24,if_pos h24]
 rw [if_neg h24,if_neg h24]
 by_cases h27 : p = 27
 ·rw [if_pos h27,if_pos h27]
 rw [if_neg h27,if_neg h27]
 by_cases k1 : 30 ≤ p ∧ p ≤ 37
 ·rw [if_pos k1,colR_none p 40 (by omega),show colR p 30 = p - 29 by unfold colR;rw [if_pos (by omega)];omega,if_pos (by omega),if_neg (by omega)]
 rw [if_neg k1]
 by_cases k2 : 90 ≤ p ∧ p ≤ 97
 ·rw [if_pos k2,colR_none p 40 (by omega),show colR p 30 = p - 81 by unfold colR;rw [if_neg (by omega),if_pos (by omega)];omega,if_pos (by omega),if_neg (by omega)]
 rw [if_neg k2]
 by_cases k3 : p = 39
 ·rw [if_pos k3,colR_none p 40 (by omega),show colR p 30 = 0 by unfold colR;rw [if_neg (by omega),if_neg (by omega),if_pos (by omega)],if_pos (by omega),if_neg (by omega)]
 rw [if_neg k3,colR_none p 30 (by omega),if_neg (by omega)]
 by_cases k4 : 40 ≤ p ∧ p ≤ 47
 ·rw [if_pos k4,show colR p 40 = p - 39 by unfold colR;rw [if_pos (by omega)];omega,if_pos (by omega)]
 rw [if_neg k4]
 by_cases k5 : 100 ≤ p ∧ p ≤ 107
 ·rw [if_pos k5,show colR p 40 = p - 91 by unfold colR;rw [if_neg (by omega),if_pos (by omega)];omega,if_pos (by omega)]
 rw [if_neg k5]
 by_cases k6 : p = 49
 ·rw [if_pos k6,show colR p 40 = 0 by unfold colR;rw [if_neg (by omega),if_neg (by omega),if_pos (by omega)],if_pos (by omega)]
 rw [if_neg k6,colR_none p 40 (by omega),if_neg (by omega)]
theorem rone_any (f g b p : Int) (w : World) : Calls Tryz.prog 120 #[atV f g b,.int .i64 p] w (AtP w (single f g b p)):=by
 have h:=one_any f g b p w
 unfold OneP at h
 rw [oneR_single] at h
 exact h

theorem ext_five (y : Int) (r : List Int) : ext (5 :: y :: r) = (2,if 0 ≤ y ∧ y ≤ 15 then y + 1 else 0):=rfl
theorem ext_two (r : List Int) : (ext (2 :: r)).2 = 0 ∧ (2 :: r).drop (ext (2 :: r)).1 = (2 :: r).drop 4:=by
 match r with
 | [] => exact ⟨rfl,rfl⟩
 | y :: r' =>
  refine ⟨rfl,?_⟩
  show (2 :: y :: r').drop (min (r'.length + 2) 4) = _
  by_cases h : r'.length + 2 ≤ 4
  ·rw [Nat.min_eq_left h,List.drop_eq_nil_of_le (by simp),List.drop_eq_nil_of_le (by simp;omega)]
  ·rw [Nat.min_eq_right (by omega)]
theorem ext_no1 (x : Int) (h : x ≠ 2) : ext [x] = (0,0):=if_neg h
theorem ext_no (x y : Int) (r : List Int) (h2 : x ≠ 2) (h5 : x ≠ 5) : ext (x :: y :: r) = (0,0):=by
 show (if x = 5 then _ else if x = 2 then _ else ((0,0) : Nat × Int)) = _
 rw [if_neg h5,if_neg h2]
theorem drop_cons {L : List Int} {k : Nat} (h : k < L.length) : L.drop k = L[k] :: L.drop (k + 1):=List.drop_eq_getElem_cons h

set_option maxRecDepth 100000 in
set_option maxHeartbeats 4000000 in
theorem rapply_any (f g b : Int) (A : Option Addr) (n c : Nat) (L : List Int) (w : World) (hr : Rd (.int .i64) w A n L) (hn : n ≤ c) (hc : c ≤ 9223372036854775807) (hn2 : n ≤ 1000) :
  Calls Tryz.prog 113 #[atV f g b,.slice A n c] w (AtP w (applA L (f,g,b))):=by
 unfold atV
 have HR:=Lib.hid hr
 have hl:=hr.1
 have HL:=Lib.hid hl
 clear hr hl
 go_enter Tryz.func113,Tryz.ntmps113
 go_wp2
 go_loopw [5] (fun i wr => ∃ (k : Nat) (a : Int × Int × Int),i = .int .i64 k ∧ k ≤ n + 5 ∧ AtC wr w.heap.size a ∧ AtC wr (w.heap.size + 1) (0,0,0) ∧ Bw w wr ∧ applA (L.drop k) a = applA L (f,g,b)) (fun i _ => n + 5 - (intOf i).toNat)
 case atStart => exact ⟨0,(f,g,b),rfl,by omega,⟨⟨CELX,CELX,CELX⟩,by simp [go_sem],by simp [go_sem],by simp [go_sem]⟩,⟨⟨CELX,CELX,CELX⟩,by simp [go_sem],by simp [go_sem],by simp [go_sem]⟩,BWX,rfl⟩
 case round =>
  obtain ⟨k,⟨a1,a2,a3⟩,rfl,hk,hC,hZ,hbw,hF⟩:=hrel
  have HF:=Lib.hid hF
  have HZ:=Lib.hid hZ
  obtain ⟨⟨y0,y1,y2⟩,z0,z1,z2⟩:=hC
  dsimp only at y0 y1 y2
  have hgz:=lt_of_cell y0
  dsimp only at hgz
  have hgz2:=lt_of_cell hZ.1.1
  dsimp only at hgz2
  clear hF hZ
  by_cases hlt : k < n
  ·have hl:=HL.out
   obtain ⟨ga,o,rfl,hx⟩:=HR.out.2 (by omega)
   have HXX:=Lib.hid (fun (i : Nat) (h : i < L.length) => cell_bw hbw (hx i h))
   have hx1:=HXX.out k (by omega)
   obtain ⟨p,hp⟩ : ∃ p,p = L[k]:=⟨_,rfl⟩
   rw [← hp] at hx1
   have HD:=Lib.hid (show L.drop k = p :: L.drop (k + 1) by rw [hp];exact drop_cons (by omega))
   clear hx hp hl
   by_cases h38 : p = 38 ∨ p = 48
   ·have HX:=Lib.hid (show applA ((L.drop (k + 1)).drop (ext (L.drop (k + 1))).1) (setc p (ext (L.drop (k + 1))).2 (a1,a2,a3)) = applA L (f,g,b) by
     have:=HF.out
     rw [HD.out,applA_ext _ _ _ h38] at this
     exact this)
    by_cases hk1 : k + 1 < n
    ·obtain ⟨x,hxx⟩ : ∃ x,x = L[k + 1]'(by have:=HL.out;omega):=⟨_,rfl⟩
     have hx2:=HXX.out (k + 1) (by have:=HL.out;omega)
     rw [← hxx] at hx2
     have HD1:=Lib.hid (show L.drop (k + 1) = x :: L.drop (k + 2) by rw [hxx];exact drop_cons (by have:=HL.out;omega))
     clear hxx
     by_cases hk2 : k + 2 < n
     ·obtain ⟨y,hyy⟩ : ∃ y,y = L[k + 2]'(by have:=HL.out;omega):=⟨_,rfl⟩
      have hx3:=HXX.out (k + 2) (by have:=HL.out;omega)
      rw [← hyy] at hx3
      have HD2:=Lib.hid (show L.drop (k + 2) = y :: L.drop (k + 3) by rw [hyy];exact drop_cons (by have:=HL.out;omega))
      clear hyy
      by_cases h5 : x = 5
      ·subst h5
       have h6:=HX.out
       rw [HD1.out,HD2.out,ext_five] at h6
       by_cases hy : 0 ≤ y ∧ y ≤ 15
       ·rw [if_pos hy] at h6
        have HIN:=Lib.hid hy
        have hy1:=hy.1
        have hy2:=hy.2
        clear hy
        rcases h38 with rfl|rfl
        ·have H6:=Lib.hid (show applA (L.drop (k + 3)) (a1,y + 1,a3) = applA L (f,g,b) by rw [setc,if_neg (by omega),if_pos rfl] at h6;exact h6)
         clear h6
         go_wp2_with (first|(go_at_call 100;refine (rin_yes _ _ _ _ (by exact HIN.out)).mono ?_;rintro ee ww ⟨rfl,rfl⟩)|fail)
         go_roundw
         case rel => exact ⟨k + 3,(a1,y + 1,a3),by go_num,by omega,AtC.set1 (a:=(a1,a2,a3)) ⟨⟨y0,y1,y2⟩,z0,z1,z2⟩ _,HZ.out.away (by omega) _,hbw.set (by dsimp only;omega) _,H6.out⟩
         case measure => simp [intOf];omega
        ·have H6:=Lib.hid (show applA (L.drop (k + 3)) (a1,a2,y + 1) = applA L (f,g,b) by rw [setc,if_neg (by omega),if_neg (by omega)] at h6;exact h6)
         clear h6
         go_wp2_with (first|(go_at_call 100;refine (rin_yes _ _ _ _ (by exact HIN.out)).mono ?_;rintro ee ww ⟨rfl,rfl⟩)|fail)
         go_roundw
         case rel => exact ⟨k + 3,(a1,a2,y + 1),by go_num,by omega,AtC.set2 (a:=(a1,a2,a3)) ⟨⟨y0,y1,y2⟩,z0,z1,z2⟩ _,HZ.out.away (by omega) _,hbw.set (by dsimp only;omega) _,H6.out⟩
         case measure => simp [intOf];omega
       ·rw [if_neg hy] at h6
        have HIN:=Lib.hid (show y < 0 ∨ 15 < y by omega)
        have H6:=Lib.hid (show applA (L.drop (k + 3)) (a1,a2,a3) = applA L (f,g,b) by rw [setc,if_pos rfl] at h6;exact h6)
        clear hy h6
        rcases h38 with rfl|rfl
        all_goals
         go_wp2_with (first|(go_at_call 100;refine (rin_no _ _ _ _ (by exact HIN.out)).mono ?_;rintro ee ww ⟨rfl,rfl⟩)|fail)
         go_roundw
         case rel => exact ⟨k + 3,(a1,a2,a3),by go_num,by omega,⟨⟨y0,y1,y2⟩,z0,z1,z2⟩,HZ.out,hbw,H6.out⟩
         case measure => simp [intOf];omega
      ·have h5b : (x == 5) = false:=by simpa using h5
       by_cases h2 : x = 2
       ·subst h2
        have H6:=Lib.hid (show applA (L.drop (k + 5)) (a1,a2,a3) = applA L (f,g,b) by
         have h6:=HX.out
         rw [HD1.out,(ext_two _).2,(ext_two _).1,setc,if_pos rfl,← HD1.out,List.drop_drop] at h6
         exact h6)
        rcases h38 with rfl|rfl
        all_goals
         go_wp2_with fail
         go_roundw
         case rel => exact ⟨k + 5,(a1,a2,a3),by go_num,by omega,⟨⟨y0,y1,y2⟩,z0,z1,z2⟩,HZ.out,hbw,H6.out⟩
         case measure => simp [intOf];omega
       ·have h2b : (x == 2) = false:=by simpa using h2
        have H6:=Lib.hid (show applA (L.drop (k + 1)) (a1,a2,a3) = applA L (f,g,b) by
         have h6:=HX.out
         have e:=ext_no x y (L.drop (k + 3)) h2 h5
         rw [← HD2.out,← HD1.out] at e
         rw [e,setc,if_pos rfl] at h6
         exact h6)
        clear h2 h5
        rcases h38 with rfl|rfl
        all_goals
         go_wp2_with fail
         go_roundw
         case rel => exact ⟨k + 1,(a1,a2,a3),by go_num,by omega,⟨⟨y0,y1,y2⟩,z0,z1,z2⟩,HZ.out,hbw,H6.out⟩
         case measure => simp [intOf];omega
     ·have HD2:=Lib.hid (show L.drop (k + 2) = [] from List.drop_eq_nil_of_le (by have:=HL.out;omega))
      by_cases h2 : x = 2
      ·subst h2
       have H6:=Lib.hid (show applA (L.drop (k + 5)) (a1,a2,a3) = applA L (f,g,b) by
        have h6:=HX.out
        rw [HD1.out,(ext_two _).2,(ext_two _).1,setc,if_pos rfl,← HD1.out,List.drop_drop] at h6
        exact h6)
       rcases h38 with rfl|rfl
       all_goals
        go_wp2_with fail
        go_roundw
        case rel => exact ⟨k + 5,(a1,a2,a3),by go_num,by omega,⟨⟨y0,y1,y2⟩,z0,z1,z2⟩,HZ.out,hbw,H6.out⟩
        case measure => simp [intOf];omega
      ·have h2b : (x == 2) = false:=by simpa using h2
       have H6:=Lib.hid (show applA (L.drop (k + 1)) (a1,a2,a3) = applA L (f,g,b) by
        have h6:=HX.out
        have e:=ext_no1 x h2
        rw [← HD2.out,← HD1.out] at e
        rw [e,setc,if_pos rfl] at h6
        exact h6)
       clear h2
       rcases h38 with rfl|rfl
       all_goals
        go_wp2_with fail
        go_roundw
        case rel => exact ⟨k + 1,(a1,a2,a3),by go_num,by omega,⟨⟨y0,y1,y2⟩,z0,z1,z2⟩,HZ.out,hbw,H6.out⟩
        case measure => simp [intOf];omega
    ·have HD1:=Lib.hid (show L.drop (k + 1) = [] from List.drop_eq_nil_of_le (by have:=HL.out;omega))
     have H6:=Lib.hid (show applA (L.drop (k + 1)) (a1,a2,a3) = applA L (f,g,b) by
      have h6:=HX.out
      rw [HD1.out] at h6
      rw [HD1.out]
      exact h6)
     rcases h38 with rfl|rfl
     all_goals
      go_wp2_with fail
      go_roundw
      case rel => exact ⟨k + 1,(a1,a2,a3),by go_num,by omega,⟨⟨y0,y1,y2⟩,z0,z1,z2⟩,HZ.out,hbw,H6.out⟩
      case measure => simp [intOf];omega
   ·have h1 : (p != 38) = true:=by simp;omega
    have h2 : (p != 48) = true:=by simp;omega
    have HX:=Lib.hid (show applA (L.drop (k + 1)) (single a1 a2 a3 p) = applA L (f,g,b) by
     have:=HF.out
     rw [HD.out,applA_one _ _ _ (by omega) (by omega)] at this
     exact this)
    clear h38
    obtain ⟨s1,s2,s3,hs⟩ : ∃ s1 s2 s3,single a1 a2 a3 p = (s1,s2,s3):=⟨_,_,_,rfl⟩
    rw [hs] at HX
    have HS:=Lib.hid hs
    clear hs
    go_wp2_with (first|(go_at_call 120;refine (rone_any a1 a2 a3 p _).mono ?_;rintro ee ww ⟨rfl,hb1⟩;rw [HS.out];dsimp only [at3,atV];have hY:=AtC.bw (g:=w.heap.size) (a:=(a1,a2,a3)) ⟨⟨y0,y1,y2⟩,z0,z1,z2⟩ hb1;obtain ⟨⟨x0,x1,x2⟩,v0,v1,v2⟩:=hY;dsimp only at x0 x1 x2)|fail)
    go_roundw
    case rel =>
     have hY:=AtC.bw (g:=w.heap.size) (a:=(a1,a2,a3)) ⟨⟨y0,y1,y2⟩,z0,z1,z2⟩ hb1
     have hZ:=HZ.out.bw hb1
     refine ⟨k + 1,(s1,s2,s3),by go_num,by omega,((hY.set0 s1).set1 s2).set2 s3,((hZ.away (by omega) _).away (by omega) _).away (by omega) _,?_,HX.out⟩
     exact (((hbw.trans hb1).set (by dsimp only;omega) _).set (by dsimp only;omega) _).set (by dsimp only;omega) _
    case measure => simp [intOf];omega
  ·have hF:=HF.out
   rw [List.drop_eq_nil_of_le (by have:=HL.out;omega),applA_nil] at hF
   have HF2:=Lib.hid hF
   obtain ⟨⟨x0,x1,x2⟩,v0,v1,v2⟩:=HZ.out
   dsimp only at x0 x1 x2
   clear hF HF
   go_wp2
   refine bodyPost_ret (by simp [results,Tryz.results113,go_sem,x0,x1,x2];rfl) rfl ?_
   rw [← HF2.out]
   exact ⟨rfl,BWX⟩

theorem ext_col (t : List Int) : 0 ≤ (ext t).2 ∧ (ext t).2 ≤ 16:=by
 match t with
 | [] => exact ⟨Int.le_refl _,by decide⟩
 | [x] => unfold ext;dsimp only;split <;> exact ⟨by decide,by decide⟩
 | x :: y :: r =>
  unfold ext
  dsimp only
  by_cases h5 : x = 5
  ·rw [if_pos h5]
   dsimp only
   split <;> omega
  ·rw [if_neg h5]
   split <;> (dsimp only;omega)
theorem setc_valid (p c : Int) (a : Int × Int × Int) (hc : 0 ≤ c ∧ c ≤ 16) (h : avB a.1 a.2.1 a.2.2 = true) : avB (setc p c a).1 (setc p c a).2.1 (setc p c a).2.2 = true:=by
 have hv : 0 ≤ a.1 ∧ a.1 ≤ 7 ∧ 0 ≤ a.2.1 ∧ a.2.1 ≤ 16 ∧ 0 ≤ a.2.2 ∧ a.2.2 ≤ 16:=of_decide_eq_true h
 have hA : AV (setc p c a):=by
  unfold setc
  refine AV.ite (fun hc => ⟨⟨hv.1,hv.2.1⟩,⟨hv.2.2.1,hv.2.2.2.1⟩,hv.2.2.2.2⟩) (fun hc => AV.ite (fun hc => ?_) (fun hc => ?_))
  all_goals (refine ⟨?_,?_,?_⟩ <;> dsimp only <;> omega)
 generalize setc p c a = s at hA
 unfold AV at hA
 unfold avB
 apply decide_eq_true
 omega
theorem appl_valid : ∀ (k : Nat) (t : List Int) (a : Int × Int × Int),avB a.1 a.2.1 a.2.2 = true → avB (appl k t a).1 (appl k t a).2.1 (appl k t a).2.2 = true
 | 0,_,a,h => h
 | k + 1,[],a,h => h
 | k + 1,p :: t,a,h => by
  unfold appl
  split
  ·exact appl_valid k _ _ (setc_valid _ _ _ (ext_col t) h)
  ·exact appl_valid k _ _ (single_valid _ _ _ _ h)
theorem applA_keeps (t : List Int) (a : Int × Int × Int) (h : avB a.1 a.2.1 a.2.2 = true) : avB (applA t a).1 (applA t a).2.1 (applA t a).2.2 = true:=appl_valid _ t a h

/-- A screen's fields, its cells apart. -/
structure Scr where
 Rn : Nat
 Cn : Nat
 A : Option Addr
 n : Nat
 c : Nat
 row : Int
 col : Int
 wrap : Bool
 f : Int
 g : Int
 b : Int
 top : Int
 bot : Int
 srow : Int
 scol : Int
 swrap : Bool
 sf : Int
 sg : Int
 sb : Int
 hid : Bool
 now : Bool
def Scr.vals (s : Scr) : List Value:=[.int .i64 s.Rn,.int .i64 s.Cn,.slice s.A s.n s.c,.int .i64 s.row,.int .i64 s.col,.bool s.wrap,.int .i64 s.f,.int .i64 s.g,.int .i64 s.b,.int .i64 s.top,.int .i64 s.bot,.int .i64 s.srow,.int .i64 s.scol,.bool s.swrap,.int .i64 s.sf,.int .i64 s.sg,.int .i64 s.sb,.bool s.hid,.bool s.now]
/-- The cells of a valid grid. -/
def Gok (w : World) (Rn Cn : Nat) (A : Option Addr) (n c : Nat) : Prop :=
 1 ≤ Rn ∧ Rn ≤ 30 ∧ 1 ≤ Cn ∧ Cn ≤ 100 ∧ n = Rn * Cn ∧ n ≤ c ∧ c ≤ 9223372036854775807 ∧ ∃ cs,Rg w A n cs ∧ gridB Rn Cn cs = true
/-- A valid screen. -/
def Scr.Ok (w : World) (s : Scr) : Prop :=
 Gok w s.Rn s.Cn s.A s.n s.c ∧ (0 ≤ s.row ∧ s.row < s.Rn ∧ 0 ≤ s.col ∧ s.col < s.Cn) ∧ avB s.f s.g s.b = true ∧ (0 ≤ s.top ∧ s.top ≤ s.bot ∧ s.bot < s.Rn) ∧ (0 ≤ s.srow ∧ s.srow < s.Rn ∧ 0 ≤ s.scol ∧ s.scol < s.Cn) ∧ avB s.sf s.sg s.sb = true
theorem Gok.up {w w' : World} {Rn Cn : Nat} {A : Option Addr} {n c : Nat} (h : Gok w Rn Cn A n c) (hb : Bw w w') : Gok w' Rn Cn A n c:=by
 obtain ⟨h1,h2,h3,h4,h5,h6,h7,cs,h8,h9⟩:=h
 exact ⟨h1,h2,h3,h4,h5,h6,h7,cs,h8.up hb,h9⟩
theorem Scr.Ok.up {w w' : World} {s : Scr} (h : s.Ok w) (hb : Bw w w') : s.Ok w':=⟨h.1.up hb,h.2⟩
theorem rvalid_agg (f g b : Int) (w : World) : Calls Tryz.prog 75 #[.agg #[.int .i64 f,.int .i64 g,.int .i64 b]] w fun e w' => e = .returned (.bool (avB f g b)) ∧ Bw w w':=rvalid_any f g b w
theorem vld_yes {r c : Int} {rows cols : Nat} (h : 0 ≤ r ∧ r < rows ∧ 0 ≤ c ∧ c < cols) : vldB r c rows cols = true:=by unfold vldB;exact decide_eq_true (by omega)
theorem rgt_yes {t b : Int} {rows : Nat} (h : 0 ≤ t ∧ t ≤ b ∧ b < rows) : rgtB t b rows = true:=by unfold rgtB;exact decide_eq_true (by omega)

set_option maxRecDepth 100000 in
set_option maxHeartbeats 2000000 in
theorem rsvalid_ok (s : Scr) (w : World) (hs : s.Ok w) : Calls Tryz.prog 39 #[.agg s.vals.toArray] w fun e w' => e = .returned (.bool true) ∧ Bw w w':=by
 obtain ⟨Rn,Cn,A,n,c,row,col,wrap,f,g,b,top,bot,srow,scol,swrap,sf,sg,sb,hid,now⟩:=s
 obtain ⟨⟨h1,h2,h3,h4,h5,h6,h7,cs,hr,hv⟩,k1,k2,k3,k4,k5⟩:=hs
 dsimp only at h1 h2 h3 h4 h5 h6 h7 hr hv k1 k2 k3 k4 k5
 unfold Scr.vals
 dsimp only
 have HR:=Lib.hid hr
 have HV:=Lib.hid hv
 have HA:=Lib.hid k2
 have HS:=Lib.hid k5
 have V1:=Lib.hid (vld_yes k1)
 have V2:=Lib.hid (vld_yes k4)
 have V3:=Lib.hid (rgt_yes k3)
 clear hr hv k2 k5 h5
 go_enter Tryz.func39,Tryz.ntmps39
 go_wp2_with (first
  | (go_at_call 72;refine (rgvalid_any _ _ _ _ _ cs _ (by exact HR.out.up BWX) h6 h7).mono ?_;rintro ee wv ⟨rfl,hbv⟩;rw [HV.out];obtain ⟨L,d,rfl⟩:=Bw.isPlus hbv;clear hbv)
  | (go_at_call 73;((with_reducible refine (rcvalid_any row col _ _ wrap _).mono ?_);rintro ee ww ⟨rfl,rfl⟩;rw [V1.out]))
  | (go_at_call 73;((with_reducible refine (rcvalid_any srow scol _ _ swrap _).mono ?_);rintro ee ww ⟨rfl,rfl⟩;rw [V2.out]))
  | (go_at_call 74;((with_reducible refine (rright_any top bot _ _).mono ?_);rintro ee ww ⟨rfl,rfl⟩;rw [V3.out]))
  | (go_at_call 75;((with_reducible refine (rvalid_agg f g b _).mono ?_);rintro ee ww ⟨rfl,hb2⟩;rw [HA.out];obtain ⟨L2,d2,rfl⟩:=Bw.isPlus hb2;clear hb2))
  | (go_at_call 75;((with_reducible refine (rvalid_agg sf sg sb _).mono ?_);rintro ee ww ⟨rfl,hb3⟩;rw [HS.out]))
  | fail)
 go_ret
 exact ⟨rfl,BWX⟩

theorem rsall_any (rows : Int) (w : World) (h : 1 ≤ rows) (h2 : rows ≤ 1000) : Calls Tryz.prog 44 #[.int .i64 rows] w fun e w' => e = .returned (.agg #[.int .i64 0,.int .i64 (rows - 1)]) ∧ Bw w w':=by
 go_enter Tryz.func44,Tryz.ntmps44
 go_wp2_with fail
 refine bodyPost_ret (by simp [results,Tryz.results44,go_sem];rfl) rfl ?_
 exact ⟨rfl,BWX⟩
theorem mv_bd {r c : Int} {b : Bool} {kind n t m : Int} {rows cols : Nat} (h : 0 ≤ r ∧ r < rows ∧ 0 ≤ c ∧ c < cols) (hm : 0 ≤ t ∧ t ≤ m ∧ m < rows) :
  0 ≤ (mv r c b kind n t m rows cols).1 ∧ (mv r c b kind n t m rows cols).1 < rows ∧ 0 ≤ (mv r c b kind n t m rows cols).2.1 ∧ (mv r c b kind n t m rows cols).2.1 < cols:=by
 unfold mv tabN
 repeat' split
 all_goals (dsimp only)
 all_goals (try (split <;> omega))
 all_goals (try omega)
/-- Block g is a variable, known whole. -/
def Sb (w : World) (g : Nat) (cs : Array Value) (T : TypeId) : Prop:=w.heap[g]? = some (.cells cs T (0,0))
theorem Sb.lt {w : World} {g : Nat} {cs : Array Value} {T : TypeId} (h : Sb w g cs T) : g < w.heap.size:=lt_of_block h
theorem Sb.up {w w' : World} {g : Nat} {cs : Array Value} {T : TypeId} (h : Sb w g cs T) (hb : Bw w w') : Sb w' g cs T:=(hb.block g h.lt).trans h
theorem Sb.cell {w : World} {g : Nat} {cs : Array Value} {T : TypeId} (h : Sb w g cs T) (i : Nat) {v : Value} (hv : cs[i]? = some v) : w.cell? ⟨g,i,none⟩ = some v:=by rw [cell_of_row w g i cs T (0,0) h];exact hv
theorem Sb.free {w : World} {g : Nat} {cs : Array Value} {T : TypeId} (h : Sb w g cs T) (i : Nat) : w.frozen? ⟨g,i,none⟩ = false:=frozen_of_row w g i cs T h
theorem Sb.set {w : World} {g : Nat} {cs cs' : Array Value} {T : TypeId} (h : Sb w g cs T) (i : Nat) (u : Value) (hc : cs.setIfInBounds i u = cs') : Sb (w.setCell ⟨g,i,none⟩ u) g cs' T:=by
 subst hc
 have hlt:=h.lt
 have h' : w.heap[g] = .cells cs T (0,0):=by simpa [Array.getElem?_eq_getElem hlt] using (show w.heap[g]? = _ from h)
 show (w.heap.modify g _)[g]? = _
 rw [Array.getElem?_eq_getElem (by simpa using hlt),Array.getElem_modify_self,h']
 simp
theorem Sb.away {w : World} {g h j : Nat} {cs : Array Value} {T : TypeId} (hW : Sb w g cs T) (hne : g ≠ h) (v : Value) : Sb (w.setCell ⟨h,j,none⟩ v) g cs T:=(Below.heap_setCell _ _ _ _ hne).trans hW
theorem sb2 {w w1 : World} {a b : Array Value} {T T' : TypeId} (h : (w.alloc (.cells a T)).alloc (.cells b T') = w1) : Sb w1 w.heap.size a T ∧ Sb w1 (w.heap.size + 1) b T' ∧ Bw w w1 ∧ w1.heap.size = w.heap.size + 2:=by
 subst h
 refine ⟨?_,heap_at (by simp),BWX,by simp⟩
 exact (Below.heap_alloc _ _ _ (by simp)).trans (heap_at rfl)
/-- The call returns the screen with another cursor. -/
def MvP (w : World) (s : Scr) (e : Ending) (w' : World) : Prop:=∃ (r c : Int) (b : Bool),e = .returned (.agg ({ s with row:=r,col:=c,wrap:=b } : Scr).vals.toArray) ∧ (0 ≤ r ∧ r < s.Rn ∧ 0 ≤ c ∧ c < s.Cn) ∧ Bw w w'
theorem Scr.Ok.cur {w : World} {s : Scr} (h : s.Ok w) {r c : Int} (b : Bool) (hrc : 0 ≤ r ∧ r < s.Rn ∧ 0 ≤ c ∧ c < s.Cn) : ({ s with row:=r,col:=c,wrap:=b } : Scr).Ok w:=⟨h.1,hrc,h.2.2⟩
theorem infoSc : (Tryz.prog.info? 34).map (·.size) = some 19:=by kernel_rfl
theorem infoSz (s : Scr) : (Tryz.prog.info? 34).map (·.size) = some s.vals.toArray.size:=infoSc
theorem Scr.one (s : Scr) : s.vals.toArray.all (·.oneCell') = true:=all_oneCell_toArray (fun v hv => by
 unfold Scr.vals at hv
 simp only [List.mem_cons,List.not_mem_nil,or_false] at hv
 rcases hv with rfl|rfl|rfl|rfl|rfl|rfl|rfl|rfl|rfl|rfl|rfl|rfl|rfl|rfl|rfl|rfl|rfl|rfl|rfl <;> rfl)
/-- The load of a screen out of its box. -/
theorem wpList_load_sc {ops : Array Oper} {rest : List Oper} {o : Oper} {a : Act} {w : World} {Q : Exit → Act → World → Prop} (s : Scr) (g : Nat) (x : Operand) (ho : o.op = .load 34 x) (hgd : o.guard = none)
  (hx : a.eval x = .pointer (some ⟨g,0,none⟩)) (hg : Sb w g s.vals.toArray 34)
  (h : wpList Tryz.prog ops Q rest (a.put o.dst (.agg s.vals.toArray)) w) : wpList Tryz.prog ops Q (o :: rest) a w :=
 wpList_load_row hgd 34 x ho g hx 34 s.vals.toArray (0,0) _ hg Tryz.underlying34 rfl (infoSz s) h
/-- The store of a screen into a box. -/
theorem wpList_store_sc {ops : Array Oper} {rest : List Oper} {o : Oper} {a : Act} {w : World} {Q : Exit → Act → World → Prop} (s : Scr) (g : Nat) (x y : Operand) (ho : o.op = .store 34 x y) (hgd : o.guard = none)
  (hx : a.eval x = .pointer (some ⟨g,0,none⟩)) (hy : a.eval y = .agg s.vals.toArray) (hg : ∃ old,Sb w g old 34 ∧ old.size = 19)
  (h : ∀ w',Sb w' g s.vals.toArray 34 → w.grownBy w' (some g) → wpList Tryz.prog ops Q rest (a.put o.dst undef) w') : wpList Tryz.prog ops Q (o :: rest) a w:=by
 obtain ⟨old,hg,hold⟩:=hg
 exact wpList_store_row hgd 34 x y ho g s.vals.toArray hx hy 34 old hg (infoSz s) hold s.one
  (h _ (setRow_heap w g old _ _ _ hg) ⟨rfl,rfl,rfl,by simp [World.setRow],fun k hk hne => setRow_other w g k _ (fun e => hne (by rw [e]))⟩)
theorem Sb.far {w w' : World} {g : Nat} {row : Option Nat} {cs : Array Value} {T : TypeId} (h : Sb w g cs T) (hg : w.grownBy w' row) (hne : some g ≠ row) : Sb w' g cs T:=(hg.block g h.lt hne).trans h
theorem results_sc {fn : Func} {p : Tmp} (h : fn.results = #[.cell p 34]) (tmps : Array Value) (w : World) (g : Nat) (s : Scr) (hp : tmps.getD p undef = .pointer (some ⟨g,0,none⟩)) (hg : Sb w g s.vals.toArray 34) :
  (results fn tmps).run Tryz.prog w = .ok (.agg s.vals.toArray) w:=results_cell_row h tmps w g 34 s.vals.toArray (0,0) _ hp hg Tryz.underlying34 rfl (infoSz s)
theorem results_sc2 {fn : Func} {p q : Tmp} (h : fn.results = #[.cell p 34,.tmp q]) (tmps : Array Value) (w : World) (g : Nat) (s : Scr) (hp : tmps.getD p undef = .pointer (some ⟨g,0,none⟩)) (hg : Sb w g s.vals.toArray 34) :
  (results fn tmps).run Tryz.prog w = .ok (.tuple #[.agg s.vals.toArray,tmps.getD q undef]) w:=by
 have hp' : tmps[p]?.getD undef = .pointer (some ⟨g,0,none⟩):=by simpa using hp
 simp [results,h,hp',asAddr,run_loadVar_row w g 34 34 s.vals.toArray (0,0) _ hg Tryz.underlying34 rfl (infoSz s)]
set_option maxRecDepth 100000 in
set_option maxHeartbeats 2000000 in
theorem rsmove_ok (s : Scr) (kind k : Int) (w : World) (hs : s.Ok w) (hk : k ≤ 9223372036854775807) : Calls Tryz.prog 106 #[.agg s.vals.toArray,.int .i64 kind,.int .i64 k] w (MvP w s):=by
 have HMV:=Lib.hid (mv_bd (b:=s.wrap) (kind:=kind) (n:=k) hs.2.1 hs.2.2.2.1)
 obtain ⟨⟨h1,h2,h3,h4,-,-,-,-⟩,-⟩:=hs
 obtain ⟨⟨r',c',b'⟩,hmv⟩ : ∃ x,mv s.row s.col s.wrap kind k s.top s.bot s.Rn s.Cn = x:=⟨_,rfl⟩
 rw [hmv] at HMV
 have HM:=Lib.hid hmv
 clear hmv
 go_enter Tryz.func106,Tryz.ntmps106
 go_upto_region 1 with (fail)
 generalize hw1 : (w.alloc (.cells s.vals.toArray 34)).alloc _ = w1
 obtain ⟨hb0,hb1,hbw,hz⟩:=sb2 hw1
 have HB0:=Lib.hid hb0
 have HB1:=Lib.hid hb1
 have hz1 : w.heap.size + 1 < w1.heap.size:=by omega
 clear hw1 hb0 hb1 hz
 (have x0:=HB0.out.cell 0 (v:=.int .i64 (s.Rn : Int)) rfl;have x1:=HB0.out.cell 1 (v:=.int .i64 (s.Cn : Int)) rfl;have x3:=HB0.out.cell 3 (v:=.int .i64 s.row) rfl;have x4:=HB0.out.cell 4 (v:=.int .i64 s.col) rfl;have x5:=HB0.out.cell 5 (v:=.bool s.wrap) rfl;have x9:=HB0.out.cell 9 (v:=.int .i64 s.top) rfl;have x10:=HB0.out.cell 10 (v:=.int .i64 s.bot) rfl)
 go_wp2_with (first
  | (go_at_call 118;refine (rmove_any s.row s.col s.wrap kind k s.top s.bot s.Rn s.Cn _ (by omega) (by omega) hk).mono ?_;rintro ee w2 ⟨rfl,hb⟩;rw [HM.out];dsimp only [curV];have HC0:=Lib.hid (HB0.out.up hb);have HC1:=Lib.hid (HB1.out.up hb);have hbw2 : Bw w w2:=hbw.trans hb;have hz2:=Nat.lt_of_lt_of_le hz1 hb.size;clear hb x0 x1 x3 x4 x5 x9 x10;(have x3:=HC0.out.cell 3 (v:=.int .i64 s.row) rfl;have x4:=HC0.out.cell 4 (v:=.int .i64 s.col) rfl;have x5:=HC0.out.cell 5 (v:=.bool s.wrap) rfl);(have z3:=HC0.out.free 3;have z4:=HC0.out.free 4;have z5:=HC0.out.free 5))
  | ((with_reducible refine wpList_load_sc ({ s with row:=r',col:=c',wrap:=b' } : Scr) w.heap.size (.tmp 3) rfl rfl ?_ ?_ ?_);(focus rfl);(focus (exact ((HC0.out.set 3 _ rfl).set 4 _ rfl).set 5 _ rfl)))
  | ((with_reducible refine wpList_store_sc ({ s with row:=r',col:=c',wrap:=b' } : Scr) (w.heap.size + 1) (.tmp 6) (.tmp 21) rfl rfl ?_ ?_ ?_ ?_);(focus rfl);(focus rfl);(focus (exact ⟨_,((HC1.out.away (by omega) _).away (by omega) _).away (by omega) _,rfl⟩));intro w3 hS3 hg3;have hbw3 : Bw w w3:=Bw.grown (show Bw w _ from BWX) hg3 (fun k hk => by cases hk;omega);have HS3:=Lib.hid hS3;clear hS3 hg3)
  | fail)
 refine bodyPost_ret (results_sc rfl _ _ (w.heap.size + 1) ({ s with row:=r',col:=c',wrap:=b' } : Scr) (by rfl) HS3.out) rfl ?_
 exact ⟨r',c',b',rfl,HMV.out,hbw3⟩
end Go.Proofs.YtkflooljdopldaaGreat
