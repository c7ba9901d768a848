/- Parts of the proof, one after the other. -/
import Derived.Test.YteebdjmjeahccaaGreatDoorC10
import Derived.Test.YteebdjmjeahccaaGreatDoorC06
import Derived.Test.YteebdjmjeahccaaGreatDoorC07
import Derived.Test.YteebdjmjeahccaaGreatDoorC09
set_option linter.unusedSimpArgs false
set_option linter.unusedVariables false
set_option maxRecDepth 100000
set_option maxHeartbeats 16000000
namespace Go.Proofs.YteebdjmjeahccaaGreatDoor
open Go.RowKit
theorem ext_five (y : Int) (r : List Int) : ext (5 :: y :: r) = (2,if 0 ≤ y ∧ y ≤ 15 then y + 1 else 0):=rfl
theorem ext_two (r : List Int) : (ext (2 :: r)).2 = 0 ∧ (2 :: r).drop (ext (2 :: r)).1 = (2 :: r).drop 4:=by
 match r with
 | [] => exact ⟨rfl,rfl⟩
 | y :: r' =>
  refine ⟨rfl,?_⟩
  show (2 :: y :: r').drop (min (r'.length + 2) 4) = _
  by_cases h : r'.length + 2 ≤ 4
  ·rw [Nat.min_eq_left h,List.drop_eq_nil_of_le (by simp),List.drop_eq_nil_of_le (by simp;omega)]
  ·rw [Nat.min_eq_right (by omega)]
theorem ext_no1 (x : Int) (h : x ≠ 2) : ext [x] = (0,0):=if_neg h
theorem ext_no (x y : Int) (r : List Int) (h2 : x ≠ 2) (h5 : x ≠ 5) : ext (x :: y :: r) = (0,0):=by
 show (if x = 5 then _ else if x = 2 then _ else ((0,0) : Nat × Int)) = _
 rw [if_neg h5,if_neg h2]
theorem drop_cons {L : List Int} {k : Nat} (h : k < L.length) : L.drop k = L[k] :: L.drop (k + 1):=List.drop_eq_getElem_cons h
theorem rapply_any (f g b : Int) (A : Option Addr) (n c : Nat) (L : List Int) (w : World) (hr : Rd (.int .i64) w A n L) (hn : n ≤ c) (hc : c ≤ 9223372036854775807) (hn2 : n ≤ 1000) :
  Calls Tryz.prog 111 #[atV f g b,.slice A n c] w (AtP w (applA L (f,g,b))):=by
 unfold atV
 have HR:=Lib.hid hr
 have hl:=hr.1
 have HL:=Lib.hid hl
 clear hr hl
 go_enter Tryz.func111,Tryz.ntmps111
 go_wp2
 go_loopw [5] (fun i wr => ∃ (k : Nat) (a : Int × Int × Int),i = .int .i64 k ∧ k ≤ n + 5 ∧ AtC wr w.heap.size a ∧ AtC wr (w.heap.size + 1) (0,0,0) ∧ Bw w wr ∧ applA (L.drop k) a = applA L (f,g,b)) (fun i _ => n + 5 - (intOf i).toNat)
 case atStart => exact ⟨0,(f,g,b),rfl,by omega,⟨⟨CELX,CELX,CELX⟩,by simp [go_sem],by simp [go_sem],by simp [go_sem]⟩,⟨⟨CELX,CELX,CELX⟩,by simp [go_sem],by simp [go_sem],by simp [go_sem]⟩,BWX,rfl⟩
 case round =>
  obtain ⟨k,⟨a1,a2,a3⟩,rfl,hk,hC,hZ,hbw,hF⟩:=hrel
  have HF:=Lib.hid hF
  have HZ:=Lib.hid hZ
  obtain ⟨⟨y0,y1,y2⟩,z0,z1,z2⟩:=hC
  dsimp only at y0 y1 y2
  have hgz:=lt_of_cell y0
  dsimp only at hgz
  have hgz2:=lt_of_cell hZ.1.1
  dsimp only at hgz2
  clear hF hZ
  by_cases hlt : k < n
  ·have hl:=HL.out
   obtain ⟨ga,o,rfl,hx⟩:=HR.out.2 (by omega)
   have HXX:=Lib.hid (fun (i : Nat) (h : i < L.length) => cell_bw hbw (hx i h))
   have hx1:=HXX.out k (by omega)
   obtain ⟨p,hp⟩ : ∃ p,p = L[k]:=⟨_,rfl⟩
   rw [← hp] at hx1
   have HD:=Lib.hid (show L.drop k = p :: L.drop (k + 1) by rw [hp];exact drop_cons (by omega))
   clear hx hp hl
   by_cases h38 : p = 38 ∨ p = 48
   ·have HX:=Lib.hid (show applA ((L.drop (k + 1)).drop (ext (L.drop (k + 1))).1) (setc p (ext (L.drop (k + 1))).2 (a1,a2,a3)) = applA L (f,g,b) by
     have:=HF.out
     rw [HD.out,applA_ext _ _ _ h38] at this
     exact this)
    by_cases hk1 : k + 1 < n
    ·obtain ⟨x,hxx⟩ : ∃ x,x = L[k + 1]'(by have:=HL.out;omega):=⟨_,rfl⟩
     have hx2:=HXX.out (k + 1) (by have:=HL.out;omega)
     rw [← hxx] at hx2
     have HD1:=Lib.hid (show L.drop (k + 1) = x :: L.drop (k + 2) by rw [hxx];exact drop_cons (by have:=HL.out;omega))
     clear hxx
     by_cases hk2 : k + 2 < n
     ·obtain ⟨y,hyy⟩ : ∃ y,y = L[k + 2]'(by have:=HL.out;omega):=⟨_,rfl⟩
      have hx3:=HXX.out (k + 2) (by have:=HL.out;omega)
      rw [← hyy] at hx3
      have HD2:=Lib.hid (show L.drop (k + 2) = y :: L.drop (k + 3) by rw [hyy];exact drop_cons (by have:=HL.out;omega))
      clear hyy
      by_cases h5 : x = 5
      ·subst h5
       have h6:=HX.out
       rw [HD1.out,HD2.out,ext_five] at h6
       by_cases hy : 0 ≤ y ∧ y ≤ 15
       ·rw [if_pos hy] at h6
        have HIN:=Lib.hid hy
        have hy1:=hy.1
        have hy2:=hy.2
        clear hy
        rcases h38 with rfl|rfl
        ·have H6:=Lib.hid (show applA (L.drop (k + 3)) (a1,y + 1,a3) = applA L (f,g,b) by rw [setc,if_neg (by omega),if_pos rfl] at h6;exact h6)
         clear h6
         go_wp2_with (first|(go_at_call 93;refine (rin_yes _ _ _ _ (by exact HIN.out)).mono ?_;rintro ee ww ⟨rfl,rfl⟩)|fail)
         go_roundw
         case rel => exact ⟨k + 3,(a1,y + 1,a3),by go_num,by omega,AtC.set1 (a:=(a1,a2,a3)) ⟨⟨y0,y1,y2⟩,z0,z1,z2⟩ _,HZ.out.away (by omega) _,hbw.set (by dsimp only;omega) _,H6.out⟩
         case measure => simp [intOf];omega
        ·have H6:=Lib.hid (show applA (L.drop (k + 3)) (a1,a2,y + 1) = applA L (f,g,b) by rw [setc,if_neg (by omega),if_neg (by omega)] at h6;exact h6)
         clear h6
         go_wp2_with (first|(go_at_call 93;refine (rin_yes _ _ _ _ (by exact HIN.out)).mono ?_;rintro ee ww ⟨rfl,rfl⟩)|fail)
         go_roundw
         case rel => exact ⟨k + 3,(a1,a2,y + 1),by go_num,by omega,AtC.set2 (a:=(a1,a2,a3)) ⟨⟨y0,y1,y2⟩,z0,z1,z2⟩ _,HZ.out.away (by omega) _,hbw.set (by dsimp only;omega) _,H6.out⟩
         case measure => simp [intOf];omega
       ·rw [if_neg hy] at h6
        have HIN:=Lib.hid (show y < 0 ∨ 15 < y by omega)
        have H6:=Lib.hid (show applA (L.drop (k + 3)) (a1,a2,a3) = applA L (f,g,b) by rw [setc,if_pos rfl] at h6;exact h6)
        clear hy h6
        rcases h38 with rfl|rfl
        all_goals
         go_wp2_with (first|(go_at_call 93;refine (rin_no _ _ _ _ (by exact HIN.out)).mono ?_;rintro ee ww ⟨rfl,rfl⟩)|fail)
         go_roundw
         case rel => exact ⟨k + 3,(a1,a2,a3),by go_num,by omega,⟨⟨y0,y1,y2⟩,z0,z1,z2⟩,HZ.out,hbw,H6.out⟩
         case measure => simp [intOf];omega
      ·have h5b : (x == 5) = false:=by simpa using h5
       by_cases h2 : x = 2
       ·subst h2
        have H6:=Lib.hid (show applA (L.drop (k + 5)) (a1,a2,a3) = applA L (f,g,b) by
         have h6:=HX.out
         rw [HD1.out,(ext_two _).2,(ext_two _).1,setc,if_pos rfl,← HD1.out,List.drop_drop] at h6
         exact h6)
        rcases h38 with rfl|rfl
        all_goals
         go_wp2_with fail
         go_roundw
         case rel => exact ⟨k + 5,(a1,a2,a3),by go_num,by omega,⟨⟨y0,y1,y2⟩,z0,z1,z2⟩,HZ.out,hbw,H6.out⟩
         case measure => simp [intOf];omega
       ·have h2b : (x == 2) = false:=by simpa using h2
        have H6:=Lib.hid (show applA (L.drop (k + 1)) (a1,a2,a3) = applA L (f,g,b) by
         have h6:=HX.out
         have e:=ext_no x y (L.drop (k + 3)) h2 h5
         rw [← HD2.out,← HD1.out] at e
         rw [e,setc,if_pos rfl] at h6
         exact h6)
        clear h2 h5
        rcases h38 with rfl|rfl
        all_goals
         go_wp2_with fail
         go_roundw
         case rel => exact ⟨k + 1,(a1,a2,a3),by go_num,by omega,⟨⟨y0,y1,y2⟩,z0,z1,z2⟩,HZ.out,hbw,H6.out⟩
         case measure => simp [intOf];omega
     ·have HD2:=Lib.hid (show L.drop (k + 2) = [] from List.drop_eq_nil_of_le (by have:=HL.out;omega))
      by_cases h2 : x = 2
      ·subst h2
       have H6:=Lib.hid (show applA (L.drop (k + 5)) (a1,a2,a3) = applA L (f,g,b) by
        have h6:=HX.out
        rw [HD1.out,(ext_two _).2,(ext_two _).1,setc,if_pos rfl,← HD1.out,List.drop_drop] at h6
        exact h6)
       rcases h38 with rfl|rfl
       all_goals
        go_wp2_with fail
        go_roundw
        case rel => exact ⟨k + 5,(a1,a2,a3),by go_num,by omega,⟨⟨y0,y1,y2⟩,z0,z1,z2⟩,HZ.out,hbw,H6.out⟩
        case measure => simp [intOf];omega
      ·have h2b : (x == 2) = false:=by simpa using h2
       have H6:=Lib.hid (show applA (L.drop (k + 1)) (a1,a2,a3) = applA L (f,g,b) by
        have h6:=HX.out
        have e:=ext_no1 x h2
        rw [← HD2.out,← HD1.out] at e
        rw [e,setc,if_pos rfl] at h6
        exact h6)
       clear h2
       rcases h38 with rfl|rfl
       all_goals
        go_wp2_with fail
        go_roundw
        case rel => exact ⟨k + 1,(a1,a2,a3),by go_num,by omega,⟨⟨y0,y1,y2⟩,z0,z1,z2⟩,HZ.out,hbw,H6.out⟩
        case measure => simp [intOf];omega
    ·have HD1:=Lib.hid (show L.drop (k + 1) = [] from List.drop_eq_nil_of_le (by have:=HL.out;omega))
     have H6:=Lib.hid (show applA (L.drop (k + 1)) (a1,a2,a3) = applA L (f,g,b) by
      have h6:=HX.out
      rw [HD1.out] at h6
      rw [HD1.out]
      exact h6)
     rcases h38 with rfl|rfl
     all_goals
      go_wp2_with fail
      go_roundw
      case rel => exact ⟨k + 1,(a1,a2,a3),by go_num,by omega,⟨⟨y0,y1,y2⟩,z0,z1,z2⟩,HZ.out,hbw,H6.out⟩
      case measure => simp [intOf];omega
   ·have h1 : (p != 38) = true:=by simp;omega
    have h2 : (p != 48) = true:=by simp;omega
    have HX:=Lib.hid (show applA (L.drop (k + 1)) (single a1 a2 a3 p) = applA L (f,g,b) by
     have:=HF.out
     rw [HD.out,applA_one _ _ _ (by omega) (by omega)] at this
     exact this)
    clear h38
    obtain ⟨s1,s2,s3,hs⟩ : ∃ s1 s2 s3,single a1 a2 a3 p = (s1,s2,s3):=⟨_,_,_,rfl⟩
    rw [hs] at HX
    have HS:=Lib.hid hs
    clear hs
    go_wp2_with (first|(go_at_call 120;refine (rone_any a1 a2 a3 p _).mono ?_;rintro ee ww ⟨rfl,hb1⟩;rw [HS.out];dsimp only [at3,atV];have hY:=AtC.bw (g:=w.heap.size) (a:=(a1,a2,a3)) ⟨⟨y0,y1,y2⟩,z0,z1,z2⟩ hb1;obtain ⟨⟨x0,x1,x2⟩,v0,v1,v2⟩:=hY;dsimp only at x0 x1 x2)|fail)
    go_roundw
    case rel =>
     have hY:=AtC.bw (g:=w.heap.size) (a:=(a1,a2,a3)) ⟨⟨y0,y1,y2⟩,z0,z1,z2⟩ hb1
     have hZ:=HZ.out.bw hb1
     refine ⟨k + 1,(s1,s2,s3),by go_num,by omega,((hY.set0 s1).set1 s2).set2 s3,((hZ.away (by omega) _).away (by omega) _).away (by omega) _,?_,HX.out⟩
     exact (((hbw.trans hb1).set (by dsimp only;omega) _).set (by dsimp only;omega) _).set (by dsimp only;omega) _
    case measure => simp [intOf];omega
  ·have hF:=HF.out
   rw [List.drop_eq_nil_of_le (by have:=HL.out;omega),applA_nil] at hF
   have HF2:=Lib.hid hF
   obtain ⟨⟨x0,x1,x2⟩,v0,v1,v2⟩:=HZ.out
   dsimp only at x0 x1 x2
   clear hF HF
   go_wp2
   refine bodyPost_ret (by simp [results,Tryz.results111,go_sem,x0,x1,x2];rfl) rfl ?_
   rw [← HF2.out]
   exact ⟨rfl,BWX⟩
theorem ext_col (t : List Int) : 0 ≤ (ext t).2 ∧ (ext t).2 ≤ 16:=by
 match t with
 | [] => exact ⟨Int.le_refl _,by decide⟩
 | [x] => unfold ext;dsimp only;split <;> exact ⟨by decide,by decide⟩
 | x :: y :: r =>
  unfold ext
  dsimp only
  by_cases h5 : x = 5
  ·rw [if_pos h5]
   dsimp only
   split <;> omega
  ·rw [if_neg h5]
   split <;> (dsimp only;omega)
theorem setc_valid (p c : Int) (a : Int × Int × Int) (hc : 0 ≤ c ∧ c ≤ 16) (h : avB a.1 a.2.1 a.2.2 = true) : avB (setc p c a).1 (setc p c a).2.1 (setc p c a).2.2 = true:=by
 have hv : 0 ≤ a.1 ∧ a.1 ≤ 7 ∧ 0 ≤ a.2.1 ∧ a.2.1 ≤ 16 ∧ 0 ≤ a.2.2 ∧ a.2.2 ≤ 16:=of_decide_eq_true h
 have hA : AV (setc p c a):=by
  unfold setc
  refine AV.ite (fun hc => ⟨⟨hv.1,hv.2.1⟩,⟨hv.2.2.1,hv.2.2.2.1⟩,hv.2.2.2.2⟩) (fun hc => AV.ite (fun hc => ?_) (fun hc => ?_))
  all_goals (refine ⟨?_,?_,?_⟩ <;> dsimp only <;> omega)
 generalize setc p c a = s at hA
 unfold AV at hA
 unfold avB
 apply decide_eq_true
 omega
theorem appl_valid : ∀ (k : Nat) (t : List Int) (a : Int × Int × Int),avB a.1 a.2.1 a.2.2 = true → avB (appl k t a).1 (appl k t a).2.1 (appl k t a).2.2 = true
 | 0,_,a,h => h
 | k + 1,[],a,h => h
 | k + 1,p :: t,a,h => by
  unfold appl
  split
  ·exact appl_valid k _ _ (setc_valid _ _ _ (ext_col t) h)
  ·exact appl_valid k _ _ (single_valid _ _ _ _ h)
theorem applA_keeps (t : List Int) (a : Int × Int × Int) (h : avB a.1 a.2.1 a.2.2 = true) : avB (applA t a).1 (applA t a).2.1 (applA t a).2.2 = true:=appl_valid _ t a h
/-- A screen's fields, its cells apart. -/
structure Scr where
 Rn : Nat
 Cn : Nat
 A : Option Addr
 n : Nat
 c : Nat
 row : Int
 col : Int
 wrap : Bool
 f : Int
 g : Int
 b : Int
 top : Int
 bot : Int
 srow : Int
 scol : Int
 swrap : Bool
 sf : Int
 sg : Int
 sb : Int
 hid : Bool
 now : Bool
def Scr.vals (s : Scr) : List Value:=[.int .i64 s.Rn,.int .i64 s.Cn,.slice s.A s.n s.c,.int .i64 s.row,.int .i64 s.col,.bool s.wrap,.int .i64 s.f,.int .i64 s.g,.int .i64 s.b,.int .i64 s.top,.int .i64 s.bot,.int .i64 s.srow,.int .i64 s.scol,.bool s.swrap,.int .i64 s.sf,.int .i64 s.sg,.int .i64 s.sb,.bool s.hid,.bool s.now]
/-- The cells of a valid grid. -/
def Gok (w : World) (Rn Cn : Nat) (A : Option Addr) (n c : Nat) : Prop :=
 1 ≤ Rn ∧ Rn ≤ 30 ∧ 1 ≤ Cn ∧ Cn ≤ 100 ∧ n = Rn * Cn ∧ n ≤ c ∧ c ≤ 9223372036854775807 ∧ ∃ cs,Rg w A n cs ∧ gridB Rn Cn cs = true
/-- A valid screen. -/
def Scr.Ok (w : World) (s : Scr) : Prop :=
 Gok w s.Rn s.Cn s.A s.n s.c ∧ (0 ≤ s.row ∧ s.row < s.Rn ∧ 0 ≤ s.col ∧ s.col < s.Cn) ∧ avB s.f s.g s.b = true ∧ (0 ≤ s.top ∧ s.top ≤ s.bot ∧ s.bot < s.Rn) ∧ (0 ≤ s.srow ∧ s.srow < s.Rn ∧ 0 ≤ s.scol ∧ s.scol < s.Cn) ∧ avB s.sf s.sg s.sb = true
theorem Gok.up {w w' : World} {Rn Cn : Nat} {A : Option Addr} {n c : Nat} (h : Gok w Rn Cn A n c) (hb : Bw w w') : Gok w' Rn Cn A n c:=by
 obtain ⟨h1,h2,h3,h4,h5,h6,h7,cs,h8,h9⟩:=h
 exact ⟨h1,h2,h3,h4,h5,h6,h7,cs,h8.up hb,h9⟩
theorem Scr.Ok.up {w w' : World} {s : Scr} (h : s.Ok w) (hb : Bw w w') : s.Ok w':=⟨h.1.up hb,h.2⟩
theorem rvalid_agg (f g b : Int) (w : World) : Calls Tryz.prog 61 #[.agg #[.int .i64 f,.int .i64 g,.int .i64 b]] w fun e w' => e = .returned (.bool (avB f g b)) ∧ Bw w w':=rvalid_any f g b w
theorem vld_yes {r c : Int} {rows cols : Nat} (h : 0 ≤ r ∧ r < rows ∧ 0 ≤ c ∧ c < cols) : vldB r c rows cols = true:=by unfold vldB;exact decide_eq_true (by omega)
theorem rgt_yes {t b : Int} {rows : Nat} (h : 0 ≤ t ∧ t ≤ b ∧ b < rows) : rgtB t b rows = true:=by unfold rgtB;exact decide_eq_true (by omega)
theorem rsvalid_ok (s : Scr) (w : World) (hs : s.Ok w) : Calls Tryz.prog 68 #[.agg s.vals.toArray] w fun e w' => e = .returned (.bool true) ∧ Bw w w':=by
 obtain ⟨Rn,Cn,A,n,c,row,col,wrap,f,g,b,top,bot,srow,scol,swrap,sf,sg,sb,hid,now⟩:=s
 obtain ⟨⟨h1,h2,h3,h4,h5,h6,h7,cs,hr,hv⟩,k1,k2,k3,k4,k5⟩:=hs
 dsimp only at h1 h2 h3 h4 h5 h6 h7 hr hv k1 k2 k3 k4 k5
 unfold Scr.vals
 dsimp only
 have HR:=Lib.hid hr
 have HV:=Lib.hid hv
 have HA:=Lib.hid k2
 have HS:=Lib.hid k5
 have V1:=Lib.hid (vld_yes k1)
 have V2:=Lib.hid (vld_yes k4)
 have V3:=Lib.hid (rgt_yes k3)
 clear hr hv k2 k5 h5
 go_enter Tryz.func68,Tryz.ntmps68
 go_wp2_with (first
  | (go_at_call 42;refine (rgvalid_any _ _ _ _ _ cs _ (by exact HR.out.up BWX) h6 h7).mono ?_;rintro ee wv ⟨rfl,hbv⟩;rw [HV.out];obtain ⟨L,d,rfl⟩:=Bw.isPlus hbv;clear hbv)
  | (go_at_call 95;((with_reducible refine (rcvalid_any row col _ _ wrap _).mono ?_);rintro ee ww ⟨rfl,rfl⟩;rw [V1.out]))
  | (go_at_call 95;((with_reducible refine (rcvalid_any srow scol _ _ swrap _).mono ?_);rintro ee ww ⟨rfl,rfl⟩;rw [V2.out]))
  | (go_at_call 96;((with_reducible refine (rright_any top bot _ _).mono ?_);rintro ee ww ⟨rfl,rfl⟩;rw [V3.out]))
  | (go_at_call 61;((with_reducible refine (rvalid_agg f g b _).mono ?_);rintro ee ww ⟨rfl,hb2⟩;rw [HA.out];obtain ⟨L2,d2,rfl⟩:=Bw.isPlus hb2;clear hb2))
  | (go_at_call 61;((with_reducible refine (rvalid_agg sf sg sb _).mono ?_);rintro ee ww ⟨rfl,hb3⟩;rw [HS.out]))
  | fail)
 go_ret
 exact ⟨rfl,BWX⟩
end Go.Proofs.YteebdjmjeahccaaGreatDoor
