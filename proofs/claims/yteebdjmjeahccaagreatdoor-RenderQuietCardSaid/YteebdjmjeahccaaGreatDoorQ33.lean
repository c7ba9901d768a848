/- Parts of the proof, one after the other. -/
import Derived.Test.YteebdjmjeahccaaGreatDoorQ32
import Derived.Test.YteebdjmjeahccaaGreatDoorQ01
import Derived.Test.YteebdjmjeahccaaGreatDoorQ05
import Derived.Test.YteebdjmjeahccaaGreatDoorQ28
import Derived.Deep.MidRow
set_option linter.unusedSimpArgs false
set_option linter.unusedVariables false
/- Walk of the reference's Decode: it is the plain function dec. -/
namespace Go.Proofs.YteebdjmjeahccaaGreatDoor
open Go.RowKit

theorem val_num {bs : List Int} {n : Nat} (hn : bs.length = n) (h1 : 1 ≤ n) (h4 : n ≤ 4) : numN bs 0 n = valN bs:=by
 subst hn
 match bs with
 | [] => simp at h1
 | [b] => rfl
 | [b,c] => rfl
 | [b,c,d] => rfl
 | [b,c,d,x] => rfl
 | _ :: _ :: _ :: _ :: _ :: _ => simp at h4

theorem pre_split (bs : List Int) : beginB bs = (prefixB bs && !completeB bs):=by
 cases bs with
 | nil => rfl
 | cons b t =>
  unfold beginB completeB
  cases h : prefixB (b :: t)
  ·rfl
  ·have h2 : (decide ((t.length : Int) + 1 ≤ rsize b) && okRest (rlow b) (rhigh b) t) = true:=h
   simp only [Bool.and_eq_true,decide_eq_true_eq] at h2
   have h3:=h2.1
   rw [Bool.eq_iff_iff]
   simp
   omega

set_option maxRecDepth 100000 in
set_option maxHeartbeats 2000000 in
theorem refdecode_any (A B : Option Addr) (n cap m capB : Nat) (r0 bs : List Int) (w : World) (hr : Rd (.int .u8) w A n r0) (hn : n ≤ cap) (hc : cap ≤ 9223372036854775807) (hb : Rd (.int .u8) w B m bs) (hm : m ≤ capB) (hcB : capB ≤ 9223372036854775807) (hms : m ≤ 1000000)
  (hbs : ∀ x ∈ bs,0 ≤ x ∧ x ≤ 255) (hr0 : ∀ x ∈ r0,0 ≤ x ∧ x ≤ 255) (hns : n ≤ 1000000) :
  Calls Tryz.prog 48 #[.agg #[.slice A n cap],.slice B m capB] w fun e w' => ∃ vr vl,e = .returned (.tuple #[.agg #[vr],vl]) ∧ Sl (.int .u8) w' vr (dec (restB r0) bs).1 ∧ Sl (.int .i64) w' vl (dec (restB r0) bs).2 ∧ Bw w w':=by
 obtain ⟨i0,hi,hz0,hz1,hz2⟩:=info_parts infoR
 obtain ⟨j0,hj,hj0,hj1,hj2⟩:=info_parts infoIr
 obtain ⟨v0,hv⟩ : ∃ v,validB r0 = v:=⟨_,rfl⟩
 have HV:=Lib.hid hv
 have HR0 : Hid (∀ x ∈ restB r0,0 ≤ x ∧ x ≤ 255):=Lib.hid (by unfold restB;split;exact hr0;simp)
 have HRV : Hid (restB r0 ≠ [] → beginB (restB r0) = true):=Lib.hid (by
  unfold restB
  split
  ·rename_i h;intro h2;simpa [validB,h2] using h
  ·intro h;exact absurd rfl h)
 clear hv
 have hrl:=hr.1
 go_enter Tryz.func48,Tryz.ntmps48
 go_wp2_with fail
 refine (refvalid_any _ _ _ r0 _ (by exact hr.up BWX) hn hc hr0).mono ?_
 rintro ee ww ⟨rfl,hbb⟩
 rw [HV.out]
 obtain ⟨L1,d1,rfl⟩:=Bw.isPlus hbb
 clear hbb
 obtain ⟨W,hW⟩ : ∃ W,W = plus (((w.alloc (.cells #[.slice A n cap] 48)).alloc (.cells #[.slice none 0 0] 48))) L1 d1:=⟨_,rfl⟩
 go_upto_if 13 with (fail)
 go_cut [6] (fun s6 w' => Sl (.int .u8) w' s6 (restB r0) ∧ Bw (plus (((w.alloc (.cells #[.slice A n cap] 48)).alloc (.cells #[.slice none 0 0] 48))) L1 d1) w')
 case first =>
  cases v0
  ·go_wp2
   go_meet
   case rel =>
    refine ⟨?_,BWX⟩
    rw [show restB r0 = [] by unfold restB;rw [HV.out];rfl]
    exact Sl.nil_ _ _ _ (by omega)
  ·go_wp2_with (at_builtin;refine wpList_append_srcG (by rfl) (.tmp 14) (.tmp 16) 33 rfl w.heap.size 5 i0 (.int .u8 0) 1 1 Tryz.underlying33 hi hz0 hz1 hz2 rfl (by decide) (.slice none 0 0) 0 [] rfl (World.ownsRow_nil _ _ _ _) A n cap (r0.map (.int .u8)) rfl (by simpa using hrl) (fun e => (hr.none_ e).1) (Rd.news2 (by exact hr.up BWX)) (one_map (fun _ => rfl) _) (by unfold maxLen;omega) (by omega) SZX ?_;intro v1 w1 hown1 hg1;simp only [Nat.zero_add,List.nil_append] at hown1)
   go_meet
   case rel =>
    refine ⟨?_,Bw.trans BWX (Bw.of_grown hg1)⟩
    rw [show restB r0 = r0 by unfold restB;rw [HV.out];rfl]
    exact Sl.of_own hown1
 case rest =>
 obtain ⟨hS6,hbc⟩:=hcut
 have hEz : w.heap.size + 1 < wc.heap.size:=Nat.lt_of_lt_of_le (by simp [plus_size];omega) hbc.size
 have hEc : wc.cell? ⟨w.heap.size + 1,0,none⟩ = some (.slice none 0 0):=cell_bw hbc CELX
 have hEf : wc.frozen? ⟨w.heap.size + 1,0,none⟩ = false:=(Below.frozen hbc (p:=⟨w.heap.size + 1,0,none⟩) (by simp [plus_size];omega)).trans (by simp [go_sem])
 have hEw : Bw w wc:=Bw.trans BWX hbc
 replace hb : Rd (.int .u8) wc B m bs:=hb.up hEw
 have hS6l : (restB r0).length ≤ 1000000:=by unfold restB;split;omega;simp
 clear hbc hr hrl hW
 clear W
 obtain ⟨W,rfl⟩ : ∃ W,W = wc:=⟨_,rfl⟩
 obtain ⟨rs,hrs⟩ : ∃ rs,restB r0 = rs:=⟨_,rfl⟩
 rw [hrs] at HR0 HRV hS6 hS6l
 have HRS:=Lib.hid hrs
 clear hrs HV
 have hS64 : rs.length ≤ 4:=by
  by_cases hre : rs = []
  ·subst hre;simp
  ·exact beginB_len (HRV.out hre)
 go_wp2_with fail
 go_loopw [6,7,8] (fun s6 s7 i wr => ∃ k : Nat,i = .int .i64 k ∧ DecR W bs (dec rs bs) s6 s7 k wr) (fun s6 _ i _ => 2 * (m - (intOf i).toNat) + (match s6 with | .slice _ n _ => min n 1|_ => 0))
 case atStart => exact ⟨0,rfl,rs,[],by omega,hS6,World.ownsRow_nil _ _ _ _,HR0.out,HRV.out,by simp;omega,rfl,rfl,BWX⟩
 case round =>
  rename_i wr
  obtain ⟨k,rfl,r,l,hk,hS,hown,hrb,hrg,hl1,hF1,hF2,hbw⟩:=hrel
  obtain ⟨rA,rc,rfl,hrc1,hrc2,hR⟩:=hS
  clear hS6 hS6l HR0 HRV
  by_cases hlt : k < m
  ·have hbl:=hb.1
   obtain ⟨gb,ob,rfl,hx0⟩:=hb.2 (by omega)
   have hx1:=hx0 k (by omega)
   have hk' : k < bs.length:=by omega
   obtain ⟨x,hxx⟩ : ∃ x,x = bs[k]:=⟨_,rfl⟩
   rw [← hxx] at hx1
   have hxw : wr.cell? ⟨gb,ob + k,none⟩ = some (.int .u8 x):=by
    rw [Below.cell hbw (p:=⟨gb,ob + k,none⟩) (lt_of_cell hx1)];exact hx1
   have q1 : (0 : Int) ≤ k:=by omega
   have q2 : (k : Int) < m:=by omega
   have q3 : (m : Int) ≤ capB:=by omega
   have q4 : (r.length : Int) ≤ rc:=by omega
   have q5 : (0 : Int) ≤ r.length:=by omega
   have hR3 : r.length ≤ 4:=by
    by_cases hre : r = []
    ·subst hre;simp
    ·have:=hrg hre
     exact beginB_len this
   have HF1:=Lib.hid hF1
   have HF2:=Lib.hid hF2
   have HX:=Lib.hid hxx
   have HO:=Lib.hid hown
   have HB:=Lib.hid hx0
   have HR:=Lib.hid hR
   clear hF1 hF2 hxx hown hx0 hx1 hb hR
   go_upto_region 8 with (fail)
   go_cut [9] (fun s9 w' => Sl (.int .u8) w' s9 (r ++ [x]) ∧ Bw wr w')
   case first =>
    go_region_held3 (fun w' => w'.cell? ⟨gb,ob + k,none⟩ = some (.int .u8 x)) ((first|(refine cell_bw hb2 ?_;(repeat (first|with_reducible assumption |  ((with_reducible refine cell_alloc_here ?_ ?_);(focus (first|omega|(simp only [szA,szS,szD,szN,plus_size,Array.size_append] <;> omega)));(focus rfl))|with_reducible refine cell_alloc_some ?_ _|with_reducible refine cell_plus_some ?_ _ _|((with_reducible refine cell_set_some ?_ ?_);(focus (first|omega|(simp only [szA,szS,szD,szN,plus_size,Array.size_append] <;> omega))))|with_reducible refine cell_drew_some ?_|with_reducible refine cell_drewN_some ?_ _));done)|(refine cell_bw hb1 ?_;(repeat (first|with_reducible assumption |  ((with_reducible refine cell_alloc_here ?_ ?_);(focus (first|omega|(simp only [szA,szS,szD,szN,plus_size,Array.size_append] <;> omega)));(focus rfl))|with_reducible refine cell_alloc_some ?_ _|with_reducible refine cell_plus_some ?_ _ _|((with_reducible refine cell_set_some ?_ ?_);(focus (first|omega|(simp only [szA,szS,szD,szN,plus_size,Array.size_append] <;> omega))))|with_reducible refine cell_drew_some ?_|with_reducible refine cell_drewN_some ?_ _));done)|((repeat (first|with_reducible assumption |  ((with_reducible refine cell_alloc_here ?_ ?_);(focus (first|omega|(simp only [szA,szS,szD,szN,plus_size,Array.size_append] <;> omega)));(focus rfl))|with_reducible refine cell_alloc_some ?_ _|with_reducible refine cell_plus_some ?_ _ _|((with_reducible refine cell_set_some ?_ ?_);(focus (first|omega|(simp only [szA,szS,szD,szN,plus_size,Array.size_append] <;> omega))))|with_reducible refine cell_drew_some ?_|with_reducible refine cell_drewN_some ?_ _));done))) ((first|(refine step_append_srcG (by rfl) (.tmp 24) (.tmp 25) 33 rfl wr.heap.size 5 i0 (.int .u8 0) 1 1 Tryz.underlying33 hi hz0 hz1 hz2 rfl (by decide) _ 0 [] (by rfl) (by first|(refine (own_made (w:=wr) ?_ ?_).bw ?_;(focus (first|omega|(simp only [szA,szS,szD,szN,plus_size,Array.size_append] <;> omega)));(focus (first|omega|(simp only [szA,szS,szD,szN,plus_size,Array.size_append] <;> omega)));(repeat (first|with_reducible (first|assumption|exact Bw.refl _|refine Bw.alloc ?_ _|refine Bw.more ?_ _ _|refine Bw.drew ?_|refine Bw.drewN ?_ _)|((with_reducible refine Bw.set2 ?_ ?_ _);(focus exact SZX))|with_reducible refine Bw.trans ?_ (by assumption)));done)|(refine (own_made (w:=wr.alloc (.cells #[.int .u8 x] 5)) ?_ ?_).bw ?_;(focus (first|omega|(simp only [szA,szS,szD,szN,plus_size,Array.size_append] <;> omega)));(focus (first|omega|(simp only [szA,szS,szD,szN,plus_size,Array.size_append] <;> omega)));(repeat (first|with_reducible (first|assumption|exact Bw.refl _|refine Bw.alloc ?_ _|refine Bw.more ?_ _ _|refine Bw.drew ?_|refine Bw.drewN ?_ _)|((with_reducible refine Bw.set2 ?_ ?_ _);(focus exact SZX))|with_reducible refine Bw.trans ?_ (by assumption)));done)) rA r.length rc (r.map (.int .u8)) (by rfl) (by simp) (fun e => (HR.out.none_ e).1) (Rd.news2 (HR.out.up BWX)) (one_map (fun _ => rfl) _) (by unfold maxLen;omega) (by omega) SZX ?_;intro v1 w1 hown1 hg1;simp only [Nat.zero_add,List.nil_append] at hown1;simp only [Value.ownBlock] at hg1;have hb1 : Bw wr w1:=Bw.grown (by exact BWX) hg1 (fun k hk => by cases hk;(first|omega|(simp only [szA,szS,szD,szN,plus_size,Array.size_append] <;> omega)));(try (have hcx0 : w1.cell? ⟨wr.heap.size,0,none⟩ = some (.int .u8 x):=by rw [grown_cell hg1 (p:=⟨wr.heap.size,0,none⟩) SZX (by simp)];(repeat (first|with_reducible assumption |  ((with_reducible refine cell_alloc_here ?_ ?_);(focus (first|omega|(simp only [szA,szS,szD,szN,plus_size,Array.size_append] <;> omega)));(focus rfl))|with_reducible refine cell_alloc_some ?_ _|with_reducible refine cell_plus_some ?_ _ _|((with_reducible refine cell_set_some ?_ ?_);(focus (first|omega|(simp only [szA,szS,szD,szN,plus_size,Array.size_append] <;> omega))))|with_reducible refine cell_drew_some ?_|with_reducible refine cell_drewN_some ?_ _))));(try (have hcx1 : w1.cell? ⟨wr.heap.size + 1,0,none⟩ = some (.int .u8 x):=by rw [grown_cell hg1 (p:=⟨wr.heap.size + 1,0,none⟩) SZX (by simp)];(repeat (first|with_reducible assumption |  ((with_reducible refine cell_alloc_here ?_ ?_);(focus (first|omega|(simp only [szA,szS,szD,szN,plus_size,Array.size_append] <;> omega)));(focus rfl))|with_reducible refine cell_alloc_some ?_ _|with_reducible refine cell_plus_some ?_ _ _|((with_reducible refine cell_set_some ?_ ?_);(focus (first|omega|(simp only [szA,szS,szD,szN,plus_size,Array.size_append] <;> omega))))|with_reducible refine cell_drew_some ?_|with_reducible refine cell_drewN_some ?_ _))));have hwz1 : wr.heap.size < w1.heap.size:=Nat.lt_of_lt_of_le SZX hg1.size;have HO1:=Lib.hid hown1;clear hown1 hg1)|(refine step_append_srcG (by rfl) (.tmp 26) (.tmp 31) 33 rfl wr.heap.size 5 i0 (.int .u8 0) 1 1 Tryz.underlying33 hi hz0 hz1 hz2 rfl (by decide) v1 r.length (r.map (.int .u8)) (by rfl) (by exact HO1.out.bw BWX) _ 1 1 [.int .u8 x] (by rfl) rfl (fun e => by cases e) (fun ad e => by cases e;exact cell_one_at (by first|assumption|go_simp)) (by simp;rfl) (by unfold maxLen;omega) (by omega) (by have:=hb1.size;(first|omega|(simp only [szA,szS,szD,szN,plus_size,Array.size_append] <;> omega))) ?_;intro v2 w2 hown2 hg2;have hb2 : Bw wr w2:=Bw.row (by exact Bw.trans hb1 BWX) (by exact HO1.out.bw BWX) hg2 (Nat.le_refl _);have HO2:=Lib.hid hown2;clear hown2 hg2)|fail))
    all_goals go_wp2
    all_goals go_meet
    all_goals exact ⟨Sl.of_own (n:=r.length + 1) (xs:=r ++ [x]) (by rw [List.map_append];exact HO2.out),hb2⟩
   case rest =>
    obtain ⟨⟨nA,nc,hv9,N1,N2,N3⟩,hb9⟩:=hcut
    obtain ⟨N,hN⟩ : ∃ N,N = (r ++ [x]).length:=⟨_,rfl⟩
    rw [← hN] at hv9 N1 N3
    subst hv9
    have HO9:=Lib.hid (HO.out.bw hb9)
    have hbw9 : Bw W wc:=hbw.trans hb9
    have N4 : ∀ y ∈ r ++ [x],0 ≤ y ∧ y ≤ 255:=by
     intro y hy
     rcases List.mem_append.1 hy with h|h
     ·exact hrb y h
     ·simp at h;subst h;rw [HX.out];exact hbs _ (List.getElem_mem _)
    have N5 : N ≤ 5:=by rw [hN];simp;omega
    have N7 : 1 ≤ N:=by rw [hN];simp
    have HN:=Lib.hid hN
    clear hN
    have HD:=Lib.hid (show bs.drop k = x :: bs.drop (k + 1) by rw [HX.out];exact List.drop_eq_getElem_cons hk')
    have hps:=pre_split (r ++ [x])
    clear hbs hrb hrg HB HR hxw hb9 hbw
    cases hE1 : beginB (r ++ [x])
    ·have HE1:=Lib.hid hE1
     cases hE2 : completeB (r ++ [x])
     ·have HE2:=Lib.hid hE2
      have HEP:=Lib.hid (show prefixB (r ++ [x]) = false by rw [hE1,hE2] at hps;simpa using hps.symm)
      clear hE2 hE1 hps
      cases hre : r.isEmpty
      ·have hre' : r ≠ []:=by simpa using hre
       have hrl : (0 : Int) < r.length:=by have:=List.length_pos_iff.2 hre';omega
       have HA:=Lib.hid (dec_again (t:=bs.drop (k + 1)) HE1.out HE2.out hre')
       have HZ:=Lib.hid hre'
       clear hre hre'
       go_wp2_with (first|(go_at_call 75;refine (refprefix_any _ _ _ (r ++ [x]) _ (by exact N3.up BWX) (by exact N1) N2 N4).mono ?_;rintro ee ww ⟨rfl,hbp⟩;rw [HEP.out,HE2.out];obtain ⟨Lp,dp,rfl⟩:=Bw.isPlus hbp;clear hbp)|(at_builtin;refine wpList_append_srcG (by rfl) (.tmp 60) (.tmp 61) 22 rfl W.heap.size 3 j0 (.int .i64 0) 1 8 Tryz.underlying22 hj hj0 hj1 hj2 rfl (by decide) _ l.length (l.map (.int .i64)) (by rfl) (by exact HO9.out.bw BWX) _ 1 1 [.int .i64 65533] (by rfl) rfl (fun e => by cases e) (fun ad e => by cases e;exact cell_one_at (by go_simp)) (by simp;rfl) (by unfold maxLen;omega) (by omega) (by have:=Below.size hbw9;(first|omega|(simp only [szA,szS,szD,szN,plus_size,Array.size_append] <;> omega))) ?_;intro v1 w1 hown1 hg1;have hbw1 : Bw W w1:=Bw.row (by exact Bw.trans hbw9 BWX) (by exact HO9.out.bw BWX) hg1 (Nat.le_refl _))|fail)
       go_roundw
       case rel =>
        refine ⟨k,by go_num,[],l ++ [65533],by omega,Sl.nil_ _ _ _ (by omega),by simpa using hown1,by simp,by simp,by simp;omega,?_,?_,hbw1⟩
        ·have h5:=HF1.out;rw [HD.out,HA.out] at h5;rw [HD.out];exact h5
        ·have h5:=HF2.out;rw [HD.out,HA.out] at h5;rw [HD.out,List.append_assoc];exact h5
       case measure => simp [intOf];omega
      ·have hre' : r = []:=by simpa using hre
       subst hre'
       have HA:=Lib.hid (dec_bad (t:=bs.drop (k + 1)) HE1.out HE2.out)
       clear hre
       go_wp2_with (first|(go_at_call 75;refine (refprefix_any _ _ _ ([] ++ [x]) _ (by exact N3.up BWX) (by exact N1) N2 N4).mono ?_;rintro ee ww ⟨rfl,hbp⟩;rw [HEP.out,HE2.out];obtain ⟨Lp,dp,rfl⟩:=Bw.isPlus hbp;clear hbp)|(at_builtin;refine wpList_append_srcG (by rfl) (.tmp 38) (.tmp 39) 22 rfl W.heap.size 3 j0 (.int .i64 0) 1 8 Tryz.underlying22 hj hj0 hj1 hj2 rfl (by decide) _ l.length (l.map (.int .i64)) (by rfl) (by exact HO9.out.bw BWX) _ 1 1 [.int .i64 65533] (by rfl) rfl (fun e => by cases e) (fun ad e => by cases e;exact cell_one_at (by go_simp)) (by simp;rfl) (by unfold maxLen;omega) (by omega) (by have:=Below.size hbw9;(first|omega|(simp only [szA,szS,szD,szN,plus_size,Array.size_append] <;> omega))) ?_;intro v1 w1 hown1 hg1;have hbw1 : Bw W w1:=Bw.row (by exact Bw.trans hbw9 BWX) (by exact HO9.out.bw BWX) hg1 (Nat.le_refl _))|fail)
       go_roundw
       case rel =>
        refine ⟨k + 1,by go_num,[],l ++ [65533],by omega,Sl.nil_ _ _ _ (by omega),by simpa using hown1,by simp,by simp,by simp at hl1 ⊢;omega,?_,?_,hbw1⟩
        ·have h5:=HF1.out;rw [HD.out,HA.out] at h5;exact h5
        ·have h5:=HF2.out;rw [HD.out,HA.out] at h5;rw [List.append_assoc];exact h5
       case measure => simp [intOf];omega
     ·have HE2:=Lib.hid hE2
      have HEP:=Lib.hid (show prefixB (r ++ [x]) = true by rw [hE1,hE2] at hps;cases h : prefixB (r ++ [x]);(unfold completeB at hE2;rw [h] at hE2;cases hE2);rfl)
      have N6 : N ≤ 4:=by rw [HN.out];exact completeB_len hE2
      have HA:=Lib.hid (dec_complete (t:=bs.drop (k + 1)) HE1.out HE2.out)
      have HVN:=Lib.hid (val_num HN.out.symm N7 N6)
      clear hE2 hE1 hps
      go_wp2_with (first|(go_at_call 75;refine (refprefix_any _ _ _ (r ++ [x]) _ (by exact N3.up BWX) (by exact N1) N2 N4).mono ?_;rintro ee ww ⟨rfl,hbp⟩;rw [HEP.out,HE2.out];obtain ⟨Lp,dp,rfl⟩:=Bw.isPlus hbp;clear hbp)|(go_at_call 76;refine (refnum_at _ _ _ N _ (r ++ [x]) 0 (valN (r ++ [x])) _ (by rfl) HVN.out (by exact N3.up BWX) N7 (Nat.le_refl _) N6 N4 (by omega)).mono ?_;rintro ee ww ⟨rfl,q,rfl⟩)|(at_builtin;refine wpList_append_srcG (by rfl) (.tmp 46) (.tmp 51) 22 rfl W.heap.size 3 j0 (.int .i64 0) 1 8 Tryz.underlying22 hj hj0 hj1 hj2 rfl (by decide) _ l.length (l.map (.int .i64)) (by rfl) (by exact HO9.out.bw BWX) _ 1 1 [.int .i64 (valN (r ++ [x]))] (by rfl) rfl (fun e => by cases e) (fun ad e => by cases e;exact cell_one_at (by go_simp)) (by simp;rfl) (by unfold maxLen;omega) (by omega) (by have:=Below.size hbw9;(first|omega|(simp only [szA,szS,szD,szN,plus_size,Array.size_append] <;> omega))) ?_;intro v1 w1 hown1 hg1;have hbw1 : Bw W w1:=Bw.row (by exact Bw.trans hbw9 BWX) (by exact HO9.out.bw BWX) hg1 (Nat.le_refl _))|fail)
      go_roundw
      case rel =>
       refine ⟨k + 1,by go_num,[],l ++ [valN (r ++ [x])],by omega,Sl.nil_ _ _ _ (by omega),by simpa using hown1,by simp,by simp,by simp;omega,?_,?_,hbw1⟩
       ·have h5:=HF1.out;rw [HD.out,HA.out] at h5;exact h5
       ·have h5:=HF2.out;rw [HD.out,HA.out] at h5;rw [List.append_assoc];exact h5
      case measure => simp [intOf];omega
    ·have HE1:=Lib.hid hE1
     have hpc : prefixB (r ++ [x]) = true ∧ completeB (r ++ [x]) = false:=by
      rw [hE1] at hps
      cases h1 : prefixB (r ++ [x]) <;> cases h2 : completeB (r ++ [x]) <;> simp [h1,h2] at hps ⊢
     have HEP:=Lib.hid hpc.1
     have HE2:=Lib.hid hpc.2
     clear hE1 hps hpc
     go_wp2_with (first|(go_at_call 75;refine (refprefix_any _ _ _ (r ++ [x]) _ (by exact N3.up BWX) (by exact N1) N2 N4).mono ?_;rintro ee ww ⟨rfl,hbp⟩;rw [HEP.out,HE2.out];obtain ⟨Lp,dp,rfl⟩:=Bw.isPlus hbp;clear hbp)|fail)
     go_roundw
     case rel =>
      refine ⟨k + 1,by go_num,r ++ [x],l,by omega,Sl.mk' HN.out N1 N2 (N3.up BWX),HO9.out.bw BWX,N4,fun _ => HE1.out,by simp;omega,?_,?_,Bw.trans hbw9 BWX⟩
      ·have:=HF1.out;rw [HD.out,dec_begin HE1.out] at this;exact this
      ·have:=HF2.out;rw [HD.out,dec_begin HE1.out] at this;exact this
     case measure => simp [intOf];omega
  ·have hk' : bs.length ≤ k:=by have:=hb.1;omega
   rw [List.drop_eq_nil_of_le hk'] at hF1 hF2
   have e1 : r = (dec rs bs).1:=hF1
   have e2 : l = (dec rs bs).2:=by rw [← hF2];show l = l ++ [];simp
   have HE1:=Lib.hid e1
   have HE2:=Lib.hid e2
   have HO:=Lib.hid hown
   have HR:=Lib.hid hR
   clear hF1 hF2 e1 e2 hown hR hrb hrg
   have zc : wr.cell? ⟨w.heap.size + 1,0,none⟩ = some (.slice none 0 0):=cell_bw hbw hEc
   have zf : wr.frozen? ⟨w.heap.size + 1,0,none⟩ = false:=(Below.frozen hbw (p:=⟨w.heap.size + 1,0,none⟩) hEz).trans hEf
   go_wp2
   refine bodyPost_ret (by simp [results,Tryz.results48,go_sem,zc];rfl) rfl ?_
   rw [HRS.out]
   refine ⟨_,_,rfl,?_,?_,(hEw.trans hbw).set (by dsimp only;omega) _⟩
   ·rw [← HE1.out]
    exact (Sl.mk' rfl hrc1 hrc2 HR.out).set zc (by simp) _
   ·rw [← HE2.out]
    exact (Sl.of_own HO.out).set zc (by simp) _

/-- A terminal's parts. -/
structure Trm where
 s : Scr
 RA : Option Addr
 Rn : Nat
 Rc : Nat
 rs : List Int
 md : Int
 pv : Int
 A : Option Addr
 n : Nat
 c : Nat
 xs : List Int
 keep : Int
 HA : Option Addr
 Hn : Nat
 Hc : Nat
 lost : Int
def Trm.vals (t : Trm) : List Value:=t.s.vals ++ [.slice t.RA t.Rn t.Rc,.int .i64 t.md,.int .i64 t.pv,.slice t.A t.n t.c,.int .i64 t.keep,.slice t.HA t.Hn t.Hc,.int .i64 t.lost]
/-- A valid terminal, that has lost at most B lines. -/
def Trm.Ok (w : World) (t : Trm) (B : Int) : Prop :=
 t.s.Ok w ∧ (Rd (.int .u8) w t.RA t.Rn t.rs ∧ t.Rn ≤ t.Rc ∧ t.Rc ≤ 9223372036854775807 ∧ validB t.rs = true ∧ t.Rn ≤ 4 ∧ ∀ x ∈ t.rs,0 ≤ x ∧ x ≤ 255) ∧ ScnOk w t.md t.pv t.A t.n t.c t.xs ∧ TyA w t.A ∧ (0 ≤ t.keep ∧ t.keep ≤ 200) ∧ Ls w t.HA t.Hn ∧ t.Hn ≤ t.Hc ∧ t.Hc ≤ 9223372036854775807 ∧ (t.Hn : Int) ≤ t.keep ∧ 0 ≤ t.lost ∧ t.lost ≤ B
theorem Trm.Ok.up {w w' : World} {t : Trm} {B : Int} (h : t.Ok w B) (hb : Bw w w') : t.Ok w' B:=by
 obtain ⟨h1,⟨h2,h3⟩,h4,h5,h6,h7,h8⟩:=h
 exact ⟨h1.up hb,⟨h2.up hb,h3⟩,h4.up hb,h5.up hb,h6,h7.up hb,h8⟩
theorem Trm.Ok.far {w w' : World} {t : Trm} {B : Int} {row : Option Nat} (h : t.Ok w B) (hg : w.grownBy w' row) (h1 : ∀ ad,t.s.A = some ad → some ad.block ≠ row) (h2 : 0 < t.Rn → ∀ ad,t.RA = some ad → some ad.block ≠ row) (h3 : ∀ ad,t.A = some ad → some ad.block ≠ row) (h4 : 0 < t.Hn → ∀ ad,t.HA = some ad → some ad.block ≠ row) : t.Ok w' B:=by
 obtain ⟨k1,⟨k2,k3⟩,k4,k5,k6,k7,k8⟩:=h
 refine ⟨k1.far hg h1,⟨k2.far0 hg h2,k3⟩,k4.far0 hg (fun _ => h3),k5.far hg h3,k6,?_,k8⟩
 by_cases h0 : 0 < t.Hn
 ·exact k7.far hg (h4 h0)
 ·have e : t.Hn = 0:=by omega
  rw [e]
  exact Ls.nil_ _ _
theorem Rd.lt {α : Type} {f : α → Value} {w : World} {A : Option Addr} {n : Nat} {xs : List α} (h : Rd f w A n xs) (h0 : 0 < n) : ∀ ad,A = some ad → ad.block < w.heap.size:=fun ad e => by
 obtain ⟨g,o,e2,hx⟩:=h.2 h0
 have h1:=lt_of_cell (hx 0 (by rw [h.1];exact h0))
 rw [e] at e2
 cases e2
 exact h1
theorem Ls.lt {w : World} {A : Option Addr} {n : Nat} (h : Ls w A n) (h0 : 0 < n) : ∀ ad,A = some ad → ad.block < w.heap.size:=by
 obtain ⟨vs,h1,_⟩:=h
 exact h1.lt h0
theorem infoTrm : (Tryz.prog.info? 53).map (·.size) = some 26:=by kernel_rfl
theorem infoTz (t : Trm) : (Tryz.prog.info? 53).map (·.size) = some t.vals.toArray.size:=infoTrm
theorem Trm.one (t : Trm) : t.vals.toArray.all (·.oneCell') = true:=all_oneCell_toArray (fun v hv => by
 rcases List.mem_append.mp hv with h|h
 ·exact (Array.all_eq_true_iff_forall_mem.1 t.s.one) v (by simpa using h)
 ·simp only [List.mem_cons,List.not_mem_nil,or_false] at h
  rcases h with rfl|rfl|rfl|rfl|rfl|rfl|rfl <;> rfl)
theorem Trm.range {w : World} {g : Nat} (t : Trm) (h : Sb w g t.vals.toArray 53) : w.rangeAt g 0 t.s.vals:=fun j v hv => by
 have hj : j < t.s.vals.length:=(List.getElem?_eq_some_iff.1 hv).1
 rw [Nat.zero_add]
 refine h.cell j ?_
 show (t.s.vals ++ _).toArray[j]? = some v
 rw [List.getElem?_toArray,List.getElem?_append_left hj]
 exact hv
/-- The load of a terminal's screen. -/
theorem wpList_load_ts {ops : Array Oper} {rest : List Oper} {o : Oper} {a : Act} {w : World} {Q : Exit → Act → World → Prop} (t : Trm) (g : Nat) (x : Operand) (ho : o.op = .load 46 x) (hgd : o.guard = none)
  (hx : a.eval x = .pointer (some ⟨g,0,none⟩)) (hg : Sb w g t.vals.toArray 53)
  (h : wpList Tryz.prog ops Q rest (a.put o.dst (.agg t.s.vals.toArray)) w) : wpList Tryz.prog ops Q (o :: rest) a w :=
 wpList_load_mid hgd 46 x ho g 0 hx t.s.vals _ (t.range hg) Tryz.underlying46 rfl infoSc h
theorem wp_load_ts {o : Oper} {a : Act} {w : World} {K : Act → World → Prop} {Q : Exit → Act → World → Prop} (t : Trm) (g : Nat) (x : Operand) (ho : o.op = .load 46 x)
  (hx : a.eval x = .pointer (some ⟨g,0,none⟩)) (hg : Sb w g t.vals.toArray 53)
  (h : K (a.put o.dst (.agg t.s.vals.toArray)) w) : Oper.wp Tryz.prog o a w K Q :=
 wp_load_mid 46 x ho g 0 hx t.s.vals _ (t.range hg) Tryz.underlying46 rfl infoSc h
/-- A row with some cells replaced. -/
def putR (cs : Array Value) : Nat → List Value → Array Value
 | _,[] => cs
 | o,v :: vs => putR (cs.setIfInBounds o v) (o + 1) vs
theorem Sb.setCells {g : Nat} {T : TypeId} : ∀ (vs : List Value) (o : Nat) (w : World) (cs : Array Value),Sb w g cs T → Sb (w.setCells g o vs) g (putR cs o vs) T ∧ w.grownBy (w.setCells g o vs) (some g)
 | [],o,w,cs,h => ⟨h,grown_refl _ _⟩
 | v :: vs,o,w,cs,h => by
  have h1 : Sb (w.setCell ⟨g,o,none⟩ v) g (cs.setIfInBounds o v) T:=h.set o v rfl
  obtain ⟨h2,h3⟩:=Sb.setCells vs (o + 1) _ _ h1
  exact ⟨h2,(grown_set (grown_refl w (some g)) o v).trans h3⟩
theorem putR_mid : ∀ (vs ps xs ys : List Value),xs.length = vs.length → putR (ps ++ xs ++ ys).toArray ps.length vs = (ps ++ vs ++ ys).toArray
 | [],ps,xs,ys,h => by
  have e : xs = []:=List.eq_nil_of_length_eq_zero h
  subst e
  rfl
 | v :: vs,ps,[],ys,h => by simp at h
 | v :: vs,ps,x :: xs,ys,h => by
  have e1 : ((ps ++ x :: xs ++ ys).toArray).setIfInBounds ps.length v = ((ps ++ [v]) ++ xs ++ ys).toArray:=by
   rw [List.setIfInBounds_toArray]
   congr 1
   simp
  show putR ((ps ++ x :: xs ++ ys).toArray.setIfInBounds ps.length v) (ps.length + 1) vs = _
  rw [e1]
  have:=putR_mid vs (ps ++ [v]) xs ys (by simpa using h)
  rw [show (ps ++ [v]).length = ps.length + 1 by simp] at this
  rw [this]
  simp
theorem putR_s (t : Trm) (s' : Scr) : putR t.vals.toArray 0 s'.vals = ({ t with s:=s' } : Trm).vals.toArray:=by
 have:=putR_mid s'.vals [] t.s.vals [.slice t.RA t.Rn t.Rc,.int .i64 t.md,.int .i64 t.pv,.slice t.A t.n t.c,.int .i64 t.keep,.slice t.HA t.Hn t.Hc,.int .i64 t.lost] rfl
 exact this
/-- The store of a screen into a terminal. -/
theorem wpList_store_ts {ops : Array Oper} {rest : List Oper} {o : Oper} {a : Act} {w : World} {Q : Exit → Act → World → Prop} (t : Trm) (s' : Scr) (g : Nat) (x y : Operand) (ho : o.op = .store 46 x y) (hgd : o.guard = none)
  (hx : a.eval x = .pointer (some ⟨g,0,none⟩)) (hy : a.eval y = .agg s'.vals.toArray) (hg : Sb w g t.vals.toArray 53)
  (h : ∀ w',Sb w' g ({ t with s:=s' } : Trm).vals.toArray 53 → w.grownBy w' (some g) → wpList Tryz.prog ops Q rest (a.put o.dst undef) w') : wpList Tryz.prog ops Q (o :: rest) a w:=by
 refine wpList_store_mid hgd 46 x y ho g 0 s'.vals.toArray hx hy (fun j hj => ?_) (infoSz s') s'.one ?_
 ·have hj' : j < 19:=hj
  have hs : j < t.vals.toArray.size:=by show j < 26;omega
  rw [Nat.zero_add]
  exact ⟨by rw [hg.cell j (v:=t.vals.toArray[j]) (Array.getElem?_eq_getElem hs)];rfl,hg.free j⟩
 ·obtain ⟨h1,h2⟩:=Sb.setCells s'.vals 0 w _ hg
  exact h _ (putR_s t s' ▸ h1) h2
theorem wpList_load_tr {ops : Array Oper} {rest : List Oper} {o : Oper} {a : Act} {w : World} {Q : Exit → Act → World → Prop} (t : Trm) (g : Nat) (x : Operand) (ho : o.op = .load 53 x) (hgd : o.guard = none)
  (hx : a.eval x = .pointer (some ⟨g,0,none⟩)) (hg : Sb w g t.vals.toArray 53)
  (h : wpList Tryz.prog ops Q rest (a.put o.dst (.agg t.vals.toArray)) w) : wpList Tryz.prog ops Q (o :: rest) a w :=
 wpList_load_row hgd 53 x ho g hx 53 t.vals.toArray (0,0) _ hg Tryz.underlying53 rfl (infoTz t) h
theorem wp_load_tr {o : Oper} {a : Act} {w : World} {K : Act → World → Prop} {Q : Exit → Act → World → Prop} (t : Trm) (g : Nat) (x : Operand) (ho : o.op = .load 53 x)
  (hx : a.eval x = .pointer (some ⟨g,0,none⟩)) (hg : Sb w g t.vals.toArray 53)
  (h : K (a.put o.dst (.agg t.vals.toArray)) w) : Oper.wp Tryz.prog o a w K Q :=
 wp_load_row 53 x ho g hx 53 t.vals.toArray (0,0) _ hg Tryz.underlying53 rfl (infoTz t) h
theorem wpList_store_tr {ops : Array Oper} {rest : List Oper} {o : Oper} {a : Act} {w : World} {Q : Exit → Act → World → Prop} (t : Trm) (g : Nat) (x y : Operand) (ho : o.op = .store 53 x y) (hgd : o.guard = none)
  (hx : a.eval x = .pointer (some ⟨g,0,none⟩)) (hy : a.eval y = .agg t.vals.toArray) (hg : ∃ old,Sb w g old 53 ∧ old.size = 26)
  (h : ∀ w',Sb w' g t.vals.toArray 53 → w.grownBy w' (some g) → wpList Tryz.prog ops Q rest (a.put o.dst undef) w') : wpList Tryz.prog ops Q (o :: rest) a w :=
 wpList_store_cs 53 t.vals.toArray g x y (infoTz t) t.one ho hgd hx hy hg h
theorem wp_store_tr {o : Oper} {a : Act} {w : World} {K : Act → World → Prop} {Q : Exit → Act → World → Prop} (t : Trm) (g : Nat) (x y : Operand) (ho : o.op = .store 53 x y)
  (hx : a.eval x = .pointer (some ⟨g,0,none⟩)) (hy : a.eval y = .agg t.vals.toArray) (hg : ∃ old,Sb w g old 53 ∧ old.size = 26)
  (h : ∀ w',Sb w' g t.vals.toArray 53 → w.grownBy w' (some g) → K (a.put o.dst undef) w') : Oper.wp Tryz.prog o a w K Q :=
 wp_store_cs 53 t.vals.toArray g x y (infoTz t) t.one ho hx hy hg h
theorem results_tr {fn : Func} {p : Tmp} (h : fn.results = #[.cell p 53]) (tmps : Array Value) (w : World) (g : Nat) (t : Trm) (hp : tmps.getD p undef = .pointer (some ⟨g,0,none⟩)) (hg : Sb w g t.vals.toArray 53) :
  (results fn tmps).run Tryz.prog w = .ok (.agg t.vals.toArray) w:=results_cell_row h tmps w g 53 t.vals.toArray (0,0) _ hp hg Tryz.underlying53 rfl (infoTz t)
/-- A list lies in no box of another kind. -/
theorem TyA.ne {w : World} {A : Option Addr} {g : Nat} {cs : Array Value} {T : TypeId} (h : TyA w A) (hS : Sb w g cs T) (hT : T ≠ 3) : ∀ ad,A = some ad → some ad.block ≠ some g:=fun ad e e2 => by
 obtain ⟨c2,fr,h1⟩:=h ad e
 have e3:=Option.some.inj e2
 rw [e3,(show w.heap[g]? = _ from hS)] at h1
 exact hT (Obj.cells.inj (Option.some.inj h1)).2.1
theorem Scr.no8 (s : Scr) : ∀ v ∈ s.vals,∀ x,v ≠ .int .u8 x:=fun v hv x => by
 unfold Scr.vals at hv
 simp only [List.mem_cons,List.not_mem_nil,or_false] at hv
 rcases hv with rfl|rfl|rfl|rfl|rfl|rfl|rfl|rfl|rfl|rfl|rfl|rfl|rfl|rfl|rfl|rfl|rfl|rfl|rfl <;> (intro h;cases h)
theorem Trm.no8 (t : Trm) : ∀ (i : Nat) (x : Int),t.vals.toArray[i]? ≠ some (.int .u8 x):=fun i x hi => by
 rw [List.getElem?_toArray] at hi
 rcases List.mem_append.mp (List.mem_of_getElem? hi : _ ∈ t.s.vals ++ _) with h|h
 ·exact t.s.no8 _ h x rfl
 ·simp at h

set_option maxRecDepth 100000 in
set_option maxHeartbeats 4000000 in
theorem rvalid19_ok (t : Trm) (B : Int) (w : World) (h : t.Ok w B) : Calls Tryz.prog 45 #[.agg t.vals.toArray] w fun e w' => e = .returned (.bool true) ∧ Bw w w':=by
 obtain ⟨h1,⟨h2,h3,h4,h5,h6,h7⟩,h8,h9,h10,h11,h12,h13,h14,h15,h16⟩:=h
 have H1:=Lib.hid h1
 have H2:=Lib.hid h2
 have H5:=Lib.hid h5
 have H7:=Lib.hid h7
 have H8:=Lib.hid h8
 clear h1 h2 h5 h7 h8 h9 h11
 obtain ⟨k1,k2⟩:=h10
 go_enter Tryz.func45,Tryz.ntmps45
 go_upto_region 1 with (fail)
 generalize hw1 : w.alloc _ = w1
 obtain ⟨hb0,hbw,hz⟩:=sb1 hw1
 have HB0:=Lib.hid hb0
 clear hw1 hb0
 go_wp2_with (first
  | ((with_reducible refine wpList_load_ts t w.heap.size (.tmp 3) rfl rfl ?_ ?_ ?_);(focus rfl);(focus (exact HB0.out)))
  | (go_at_call 68;refine (rsvalid_ok t.s _ (H1.out.up BWX)).mono ?_;rintro ee w2 ⟨rfl,hb2⟩;have y0:=(HB0.out.up hb2).cell 19 (v:=.slice t.RA t.Rn t.Rc) rfl)
  | (go_at_call 69;refine (refvalid_any t.RA t.Rn t.Rc t.rs _ (by exact H2.out.up BWX) h3 h4 H7.out).mono ?_;rintro ee w3 ⟨rfl,hb3⟩;rw [H5.out];clear y0;have hb23:=Bw.trans hb2 hb3;have y1:=(HB0.out.up hb23).cell 20 (v:=.int .i64 t.md) rfl;have y2:=(HB0.out.up hb23).cell 21 (v:=.int .i64 t.pv) rfl;have y3:=(HB0.out.up hb23).cell 22 (v:=.slice t.A t.n t.c) rfl)
  | (go_at_call 70;refine (rvalid14_ok t.md t.pv t.A t.n t.c t.xs _ (H8.out.up BWX)).mono ?_;rintro ee w4 ⟨rfl,hb4⟩;clear y1 y2 y3;have hb24:=Bw.trans hb23 hb4;have z1:=(HB0.out.up hb24).cell 23 (v:=.int .i64 t.keep) rfl;have z2:=(HB0.out.up hb24).cell 24 (v:=.slice t.HA t.Hn t.Hc) rfl;have z3:=(HB0.out.up hb24).cell 25 (v:=.int .i64 t.lost) rfl)
  | fail)
 go_ret
 exact ⟨by first|rfl|(simp;omega),BWX⟩

set_option maxRecDepth 100000 in
set_option maxHeartbeats 4000000 in
theorem raway_ok (t : Trm) (L : Option Addr) (m cap : Nat) (w : World) (hH : Ls w t.HA t.Hn) (hH1 : t.Hn ≤ t.Hc) (hH2 : t.Hc ≤ 9223372036854775807) (hH3 : t.Hn ≤ 200) (hk : 0 ≤ t.keep ∧ t.keep ≤ 200) (hl : 0 ≤ t.lost ∧ t.lost ≤ 1000000000000) (hL : Ls w L m) (hm0 : 0 < m) (hm : m ≤ 31) (hmc : m ≤ cap) (hcap : cap ≤ 9223372036854775807) :
  Calls Tryz.prog 47 #[.agg t.vals.toArray,.slice L m cap] w fun e w' => ∃ (HA' : Option Addr) (Hn' Hc' : Nat) (lost' : Int),e = .returned (.agg ({ t with HA:=HA',Hn:=Hn',Hc:=Hc',lost:=lost' } : Trm).vals.toArray) ∧ Ls w' HA' Hn' ∧ (∀ ad,HA' = some ad → w.heap.size ≤ ad.block) ∧ Hn' ≤ Hc' ∧ Hc' ≤ 9223372036854775807 ∧ (Hn' : Int) ≤ t.keep ∧ t.lost ≤ lost' ∧ lost' ≤ t.lost + 231 ∧ Bw w w':=by
 obtain ⟨hs,hR,hh1⟩:=hH
 obtain ⟨ls,hR2,hl1⟩:=hL
 have HR:=Lib.hid hR
 have HR2:=Lib.hid hR2
 have HH1:=Lib.hid hh1
 have HL1:=Lib.hid hl1
 have hsl : hs.length = t.Hn:=hR.1
 have hll : ls.length = m:=hR2.1
 obtain ⟨hk0,hk2⟩:=hk
 obtain ⟨hl0,hl2⟩:=hl
 clear hR hR2 hh1 hl1
 obtain ⟨i0,hi,hi0,hi1,hi2⟩:=info_parts infoL
 go_enter Tryz.func47,Tryz.ntmps47
 go_upto_region 1 with (fail)
 generalize hw1 : (w.alloc (.cells t.vals.toArray 53)).alloc _ = w1
 obtain ⟨hb0,hb1,hbw,hz⟩:=sb2 hw1
 have HB0:=Lib.hid hb0
 have HB1:=Lib.hid (show ∃ old,Sb w1 (w.heap.size + 1) old 53 ∧ old.size = 26 from ⟨_,hb1,rfl⟩)
 have hz1 : w.heap.size + 1 < w1.heap.size:=by omega
 have hz0 : w.heap.size < w1.heap.size:=by omega
 have y24:=HB0.out.cell 24 (v:=.slice t.HA t.Hn t.Hc) rfl
 clear hw1 hb0 hb1 hz
 go_upto_region 2 with (first
  | (at_builtin;refine wpList_append_srcG (by rfl) (.tmp 7) (.tmp 9) 51 rfl w1.heap.size 23 i0 (.slice none 0 0) 1 24 Tryz.underlying51 hi hi0 hi1 hi2 rfl (by decide) (.slice (some ⟨w1.heap.size,0,none⟩) 0 0) 0 [] (by rfl) (own_made rfl (Nat.le_refl _)) t.HA t.Hn t.Hc (hs.map (fun v => v)) (by rfl) (by rw [List.length_map,hsl];omega) (fun e => (HR.out.none_ e).1) (Rd.news2 (by exact HR.out.up BWX)) (by rw [List.map_id'];exact HH1.out) (by unfold maxLen;omega) (by omega) SZX ?_;intro v1 w2 hown hg2;simp only [Nat.zero_add,List.nil_append] at hown;have hb2 : Bw w1 w2:=Bw.grown (show Bw w1 (w1.alloc (.cells #[] 23)) from BWX) hg2 (fun k hk => by have e:=Option.some.inj (show some w1.heap.size = some k from hk);omega);have HOWN:=Lib.hid hown;have HB2:=Lib.hid hb2;clear hown hg2 hb2)
  | (at_builtin;refine wpList_append_srcG (by rfl) (.tmp 10) (.tmp 11) 51 rfl w1.heap.size 23 i0 (.slice none 0 0) 1 24 Tryz.underlying51 hi hi0 hi1 hi2 rfl (by decide) v1 t.Hn (hs.map (fun v => v)) (by rfl) HOWN.out L m cap (ls.map (fun v => v)) (by rfl) (by rw [List.length_map,hll];omega) (fun e => (HR2.out.none_ e).1) (Rd.news2 (by exact HR2.out.up (Bw.trans hbw HB2.out))) (by rw [List.map_id'];exact HL1.out) (by unfold maxLen;omega) (by omega) (by have:=HB2.out.size;omega) ?_;intro v2 w3 hown2 hg3;have HB3:=Lib.hid (show Bw w1 w3 from Bw.grown HB2.out hg3 (fun k hk => (HOWN.out.lt k hk).1));have HO2:=Lib.hid hown2;clear hown2 hg3)
  | fail)
 obtain ⟨g,cp,rfl,hg,hg2⟩:=HO2.out.form (by omega)
 have hb3:=HB3.out
 have hz3 : w.heap.size + 1 < w3.heap.size:=by have:=hb3.size;omega
 have hz03 : w.heap.size < w3.heap.size:=by omega
 have HB03:=Lib.hid (HB0.out.up hb3)
 have HB13:=Lib.hid (Exists.elim HB1.out (fun old h => (⟨old,h.1.up hb3,h.2⟩ : ∃ old,Sb w3 (w.heap.size + 1) old 53 ∧ old.size = 26)))
 have hbw3 : Bw w w3:=Bw.trans hbw hb3
 obtain ⟨A_,c_,e_,hcp1,hcp2⟩:=own_form HO2.out
 cases e_
 clear y24 HB0 HB1 HOWN HB2 HB3 hb3
 have y23:=HB03.out.cell 23 (v:=.int .i64 t.keep) rfl
 have y24:=HB03.out.cell 24 (v:=.slice t.HA t.Hn t.Hc) rfl
 have y25:=HB03.out.cell 25 (v:=.int .i64 t.lost) rfl
 have f24:=HB03.out.free 24
 have f25:=HB03.out.free 25
 go_upto_region 3 with (fail)
 obtain ⟨q,hq⟩ : ∃ q : Nat,(if t.keep < (t.Hn : Int) + (m : Int) then (t.Hn : Int) + (m : Int) - t.keep else 0) = (q : Int):=by
  split
  ·exact ⟨(t.Hn + m - t.keep).toNat,by omega⟩
  ·exact ⟨0,rfl⟩
 have hq1 : q ≤ t.Hn + m ∧ ((t.Hn + m - q : Nat) : Int) ≤ t.keep:=by
  split at hq <;> omega
 obtain ⟨hq1,hq2⟩:=hq1
 have hq3 : (q : Int) ≤ (t.Hn : Int) + (m : Int):=by omega
 simp only [hq]
 have hwl : IntKind.i64.wrap (t.lost + (q : Int)) = t.lost + (q : Int):=IntWalk.i64_in _ (by omega)
 have HQ:=Lib.hid hq
 have HAW:=Lib.hid (show ∀ v v' : Value,∃ old,Sb ((w3.setCell ⟨w.heap.size,24,none⟩ v).setCell ⟨w.heap.size,25,none⟩ v').drew (w.heap.size + 1) old 53 ∧ old.size = 26 from fun v v' => Exists.elim HB13.out (fun old h => ⟨old,Sb.up (w:=(w3.setCell ⟨w.heap.size,24,none⟩ v).setCell ⟨w.heap.size,25,none⟩ v') ((h.1.away (by omega) v).away (by omega) v') (Bw.drew (Bw.refl _)),h.2⟩))
 clear hq
 by_cases hcq : cp = q
 ·have hqq : q = t.Hn + m:=by omega
  have HQQ:=Lib.hid hqq
  clear hqq
  refine wp_region_held_drew (S:=(fun w' => True)) (by kernel_rfl) ?_ (fun hHeld => ?_)
  ·(try dsimp only);skip
  refine tkQ 0 ?_
  refine tkQ 1 ?_
  refine tkQ 2 ?_
  (try simp only [Act.put,zP1,zP2,zP3,zP4,zP5,zP6])
  refine tkQ 3 ?_
  refine tkQ 5 ?_
  (try simp only [Act.put,zP1,zP2,zP3,zP4,zP5,zP6])
  refine wpAnyH_ready (rs:=[4]) (by kernel_rfl) (by simp) ?_
  refine AllReadyH.cons rfl (fun K hK => ?_) ?_
  ·go_simp
   refine hK.out _ _ ?_ (fun hHeld => ?_)
   ·(try dsimp only);skip
   clear hK K
   (try simp only [Act.put,zP1,zP2,zP3,zP4,zP5,zP6])
   refine tkQ 6 ?_
   (try simp only [Act.put,zP1,zP2,zP3,zP4,zP5,zP6])
   refine tkQ 7 ?_
   (try simp only [Act.put,zP1,zP2,zP3,zP4,zP5,zP6])
   refine wpAnyH_ready (rs:=[8]) (by kernel_rfl) (by simp) ?_
   refine AllReadyH.cons rfl (fun K hK => ?_) ?_
   ·go_simp
    refine hK.out _ _ ?_ (fun hHeld => ?_)
    ·(try dsimp only);skip
    clear hK K
    (try simp only [Act.put,zP1,zP2,zP3,zP4,zP5,zP6])
    refine tkQ 9 ?_
    (try simp only [Act.put,zP1,zP2,zP3,zP4,zP5,zP6])
    refine wpAnyH_ready (rs:=[10]) (by kernel_rfl) (by simp) ?_
    refine AllReadyH.cons rfl (fun K hK => ?_) ?_
    ·go_simp
     refine hK.out _ _ ?_ (fun hHeld => ?_)
     ·(try dsimp only);skip
     clear hK K
     (try simp only [Act.put,zP1,zP2,zP3,zP4,zP5,zP6])
     refine wpAnyH_done (by kernel_rfl) ?_ _
     go_wp2_with (first
      | ((with_reducible refine wpList_load_tr ({ t with HA:=some ⟨g,0,none⟩,Hn:=t.Hn + m - q,Hc:=0,lost:=t.lost + q } : Trm) w.heap.size (.tmp 2) rfl rfl ?_ ?_ ?_);(focus rfl);(focus (exact ((HB03.out.set 24 _ rfl).set 25 _ rfl).up BWX)))
      | ((with_reducible refine wpList_store_tr ({ t with HA:=some ⟨g,0,none⟩,Hn:=t.Hn + m - q,Hc:=0,lost:=t.lost + q } : Trm) (w.heap.size + 1) (.tmp 4) (.tmp 28) rfl rfl ?_ ?_ ?_ ?_);(focus rfl);(focus rfl);(focus (exact HAW.out _ _));intro w4 hS4 hg4;have HS4:=Lib.hid hS4;have HG4:=Lib.hid hg4;clear hS4 hg4)
      | fail)
     refine bodyPost_ret (results_tr rfl _ _ (w.heap.size + 1) ({ t with HA:=some ⟨g,0,none⟩,Hn:=t.Hn + m - q,Hc:=0,lost:=t.lost + q } : Trm) (by rfl) HS4.out) rfl ?_
     have hO4 : w4.ownsRow _ _ 1 _ _ _:=(((own_set_below (own_set_below HO2.out (by omega) _) (by omega) _).bw (Bw.drew (Bw.refl _))).kept HG4.out (.inr (by simp only [Value.ownBlock];intro e;have:=Option.some.inj e;omega)))
     have hbwE : Bw w w4:=Bw.grown (show Bw w _ from BWX) HG4.out (fun k hk => by cases hk;omega)
     refine ⟨some ⟨g,0,none⟩,t.Hn + m - q,0,t.lost + q,rfl,?_,fun ad e => by cases e;dsimp only;omega,by omega,by omega,hq2,by omega,by omega,hbwE⟩
     rw [show t.Hn + m - q = 0 by have:=HQQ.out;omega]
     exact Ls.nil_ _ _
    exact AllReadyH.nil
   exact AllReadyH.nil
  exact AllReadyH.nil
 ·have hcq1 : ¬ q = cp:=fun e => hcq e.symm
  refine wp_region_held_drew (S:=(fun w' => True)) (by kernel_rfl) ?_ (fun hHeld => ?_)
  ·(try dsimp only);skip
  refine tkQ 0 ?_
  (try simp only [Act.put,zP1,zP2,zP3,zP4,zP5,zP6])
  refine tkQ 1 ?_
  refine tkQ 2 ?_
  refine tkQ 3 ?_
  (try simp only [Act.put,zP1,zP2,zP3,zP4,zP5,zP6])
  refine tkQ 5 ?_
  (try simp only [Act.put,zP1,zP2,zP3,zP4,zP5,zP6])
  refine wpAnyH_ready (rs:=[4]) (by kernel_rfl) (by simp) ?_
  refine AllReadyH.cons rfl (fun K hK => ?_) ?_
  ·go_simp
   refine hK.out _ _ ?_ (fun hHeld => ?_)
   ·(try dsimp only);skip
   clear hK K
   (try simp only [Act.put,zP1,zP2,zP3,zP4,zP5,zP6])
   refine tkQ 6 ?_
   refine tkQ 7 ?_
   (try simp only [Act.put,zP1,zP2,zP3,zP4,zP5,zP6])
   refine wpAnyH_ready (rs:=[8]) (by kernel_rfl) (by simp) ?_
   refine AllReadyH.cons rfl (fun K hK => ?_) ?_
   ·go_simp
    refine hK.out _ _ ?_ (fun hHeld => ?_)
    ·(try dsimp only);skip
    clear hK K
    (try simp only [Act.put,zP1,zP2,zP3,zP4,zP5,zP6])
    refine tkQ 9 ?_
    (try simp only [Act.put,zP1,zP2,zP3,zP4,zP5,zP6])
    refine wpAnyH_ready (rs:=[10]) (by kernel_rfl) (by simp) ?_
    refine AllReadyH.cons rfl (fun K hK => ?_) ?_
    ·go_simp
     refine hK.out _ _ ?_ (fun hHeld => ?_)
     ·(try dsimp only);skip
     clear hK K
     (try simp only [Act.put,zP1,zP2,zP3,zP4,zP5,zP6])
     refine wpAnyH_done (by kernel_rfl) ?_ _
     go_wp2_with (first
      | ((with_reducible refine wpList_load_tr ({ t with HA:=some ⟨g,q,none⟩,Hn:=t.Hn + m - q,Hc:=(cp - q),lost:=t.lost + q } : Trm) w.heap.size (.tmp 2) rfl rfl ?_ ?_ ?_);(focus rfl);(focus (exact ((HB03.out.set 24 _ rfl).set 25 _ rfl).up BWX)))
      | ((with_reducible refine wpList_store_tr ({ t with HA:=some ⟨g,q,none⟩,Hn:=t.Hn + m - q,Hc:=(cp - q),lost:=t.lost + q } : Trm) (w.heap.size + 1) (.tmp 4) (.tmp 28) rfl rfl ?_ ?_ ?_ ?_);(focus rfl);(focus rfl);(focus (exact HAW.out _ _));intro w4 hS4 hg4;have HS4:=Lib.hid hS4;have HG4:=Lib.hid hg4;clear hS4 hg4)
      | fail)
     refine bodyPost_ret (results_tr rfl _ _ (w.heap.size + 1) ({ t with HA:=some ⟨g,q,none⟩,Hn:=t.Hn + m - q,Hc:=(cp - q),lost:=t.lost + q } : Trm) (by rfl) HS4.out) rfl ?_
     have hO4 : w4.ownsRow _ _ 1 _ _ _:=(((own_set_below (own_set_below HO2.out (by omega) _) (by omega) _).bw (Bw.drew (Bw.refl _))).kept HG4.out (.inr (by simp only [Value.ownBlock];intro e;have:=Option.some.inj e;omega)))
     have hbwE : Bw w w4:=Bw.grown (show Bw w _ from BWX) HG4.out (fun k hk => by cases hk;omega)
     have hrd:=own_rd (f:=fun v => v) (xs:=hs.map (fun v => v) ++ ls.map (fun v => v)) (by rw [List.map_id'];exact hO4)
     have hdr:=hrd.drop q hq1
     refine ⟨some ⟨g,q,none⟩,t.Hn + m - q,(cp - q),t.lost + q,rfl,?_,fun ad e => by cases e;dsimp only;omega,by omega,by omega,hq2,by omega,by omega,hbwE⟩
     refine ⟨(hs.map (fun v => v) ++ ls.map (fun v => v)).drop q,?_,fun v hv => ?_⟩
     ·have e1 : (⟨g,0,none⟩ : Addr).add q = ⟨g,q,none⟩:=by unfold Addr.add;split <;> simp_all
      rw [e1] at hdr
      exact hdr
     ·have hv2:=List.mem_of_mem_drop hv
      rcases List.mem_append.mp hv2 with h|h
      ·exact HH1.out v (by simpa using h)
      ·exact HL1.out v (by simpa using h)
    exact AllReadyH.nil
   exact AllReadyH.nil
  exact AllReadyH.nil

theorem dec_cons_t (r : List Int) (b : Int) (t : List Int) : dec r (b :: t) = if beginB (r ++ [b]) then dec (r ++ [b]) t
  else if completeB (r ++ [b]) then emit (valN (r ++ [b])) (dec [] t)
  else if r = [] then emit 65533 (dec [] t)
  else if beginB [b] then emit 65533 (dec [b] t)
  else if completeB [b] then emit 65533 (emit (valN [b]) (dec [] t))
  else emit 65533 (emit 65533 (dec [] t)):=rfl
theorem dec_valid_t : ∀ (b r : List Int),validB r = true → validB (dec r b).1 = true
 | [],r,h => by simpa [dec] using h
 | b :: t,r,h => by
  rw [dec_cons_t]
  have e0 : validB [] = true:=rfl
  have ev : ∀ s,beginB s = true → validB s = true:=fun s hs => by simp [validB,hs]
  repeat' split
  ·rename_i h1;exact dec_valid_t t _ (ev _ h1)
  ·exact dec_valid_t t _ e0
  ·exact dec_valid_t t _ e0
  ·rename_i h1;exact dec_valid_t t _ (ev _ h1)
  ·exact dec_valid_t t _ e0
  ·exact dec_valid_t t _ e0

theorem dec_len_t : ∀ (b r : List Int),(dec r b).2.length ≤ 2 * b.length
 | [],r => by simp [show dec r [] = (r,[]) from rfl]
 | b :: t,r => by
  have e:=fun s => dec_len_t t s
  rw [dec_cons_t]
  repeat' split
  all_goals (simp only [emit,List.length_cons])
  all_goals (first|(have:=e (r ++ [b]);omega)|(have:=e [];omega)|(have:=e [b];omega))
theorem dec_mem_t : ∀ (b r : List Int) (x : Int),x ∈ (dec r b).1 → x ∈ r ∨ x ∈ b
 | [],r,x => fun h => .inl h
 | b :: t,r,x => by
  have e:=fun s => dec_mem_t t s x
  rw [dec_cons_t]
  repeat' split
  all_goals (try simp only [emit])
  all_goals intro h
  ·rcases e _ h with h|h
   ·rcases List.mem_append.1 h with h|h
    ·exact .inl h
    ·simp at h;exact .inr (by simp [h])
   ·exact .inr (by simp [h])
  ·rcases e _ h with h|h
   ·simp at h
   ·exact .inr (by simp [h])
  ·rcases e _ h with h|h
   ·simp at h
   ·exact .inr (by simp [h])
  ·rcases e _ h with h|h
   ·exact .inr (by simp at h;simp [h])
   ·exact .inr (by simp [h])
  ·rcases e _ h with h|h
   ·simp at h
   ·exact .inr (by simp [h])
  ·rcases e _ h with h|h
   ·simp at h
   ·exact .inr (by simp [h])


theorem validB_len {r : List Int} (h : validB r = true) : r.length ≤ 4:=by
 unfold validB at h
 rcases Bool.or_eq_true _ _ ▸ h with h|h
 ·rw [List.isEmpty_iff] at h;subst h;simp
 ·exact beginB_len h
/-- A list lies in no box that holds nothing of its kind. -/
theorem Rd.ne_sbf {α : Type} {f : α → Value} {w : World} {A : Option Addr} {n g : Nat} {xs : List α} {cs : Array Value} {T : TypeId} (h : Rd f w A n xs) (h0 : 0 < n) (hS : Sb w g cs T) (hC : ∀ (i : Nat) (x : α),cs[i]? ≠ some (f x)) : ∀ ad,A = some ad → some ad.block ≠ some g:=fun ad e e2 => by
 obtain ⟨g',o,e3,hx⟩:=h.2 h0
 have h1:=hx 0 (by rw [h.1];exact h0)
 rw [e] at e3
 cases e3
 have e4 : g' = g:=Option.some.inj e2
 subst e4
 rw [cell_of_row w g' (o + 0) cs T (0,0) hS] at h1
 exact hC _ _ h1
theorem slice_no {α : Type} (f : α → Value) (hf : ∀ x,f x ≠ .slice none 0 0) : ∀ (i : Nat) (x : α),(#[Value.slice none 0 0] : Array Value)[i]? ≠ some (f x):=fun i x h => by
 cases i with
 | zero => exact hf x (Option.some.inj h).symm
 | succ i => simp at h
theorem OpR.Ok.far0 {w w' : World} {o : OpR} {row : Option Nat} (h : o.Ok w) (hg : w.grownBy w' row) (hne : 0 < o.n → ∀ ad,o.A = some ad → some ad.block ≠ row) : o.Ok w':=⟨h.1.far0 hg hne,h.2⟩
theorem OpsL.far1 {w w' : World} {A : Option Addr} {m : Nat} {l : List OpR} {row : Option Nat} (h : OpsL w A m l) (hg : w.grownBy w' row) (hne : 0 < m → ∀ ad,A = some ad → some ad.block ≠ row) (hno : ∀ o ∈ l,0 < o.n → ∀ ad,o.A = some ad → some ad.block ≠ row) : OpsL w' A m l:=by
 by_cases hm : 0 < m
 ·refine ⟨h.1,fun o ho => (h.2.1 o ho).far0 hg (hno o ho),h.2.2.1,fun ad e j u hu => ?_⟩
  have h1:=h.2.2.2 ad e j u hu
  have e2 : (ad.add j).block = ad.block:=by unfold Addr.add;split <;> rfl
  rw [World.grownBy.cell_far hg _ (lt_of_cell h1) (by rw [e2];exact hne hm ad e)]
  exact h1
 ·have h1 : l = []:=List.eq_nil_of_length_eq_zero (by have:=h.1;omega)
  subst h1
  exact ⟨h.1,(fun o ho => by cases ho),h.2.2.1,fun ad e j u hu => by simp [opsV] at hu⟩
/-- What Decode has returned, stored in a box that was made before the call or after. -/
theorem feed_p3 {wn wb w3 : World} {g : Nat} {RA C : Option Addr} {Rn nc : Nat} {rs cs : List Int} (hnb : Bw wn wb) (hS : Sb wb g #[.slice none 0 0] 48) (hgr : wb.grownBy w3 (some g)) (hR : Rd (.int .u8) wn RA Rn rs) (hC : Rd (.int .i64) wn C nc cs) : Rd (.int .u8) w3 RA Rn rs ∧ Rd (.int .i64) w3 C nc cs :=
 ⟨(hR.up hnb).far0 hgr (fun h0 => (hR.up hnb).ne_sbf h0 hS (slice_no _ (fun x h => by cases h))),(hC.up hnb).far0 hgr (fun h0 => (hC.up hnb).ne_sbf h0 hS (slice_no _ (fun x h => by cases h)))⟩
/-- What All has returned, stored in a box that was made before the call or after. -/
theorem feed_p4 {wr wc wn wb w3 : World} {g8 : Nat} {md' pv' : Int} {A1 A' : Option Addr} {n' c' : Nat} {xs' : List Int} {B' : Option Addr} {m' : Nat} {l' : List OpR} (hrc : Bw wr wc) (hcn : Bw wc wn) (hnb : Bw wn wb) (hg8 : (wr.heap.size ≤ g8 ∧ g8 < wc.heap.size) ∨ wn.heap.size ≤ g8) (hgr : wb.grownBy w3 (some g8)) (hA1 : TyA wr A1)
  (hK : ScnOk wn md' pv' A' n' c' xs') (hL : OpsL wn B' m' l') (hN : NewR wc.heap.size A1 A' n' B' l') (hT1 : TyA wn A') :
  wr.heap.size ≤ g8 ∧ ScnOk w3 md' pv' A' n' c' xs' ∧ TyA w3 A' ∧ OpsL w3 B' m' l' ∧ Bw wr w3 ∧ (∀ ad,B' = some ad → wr.heap.size ≤ ad.block) ∧ ∀ o ∈ l',∀ ad,o.A = some ad → wr.heap.size ≤ ad.block:=by
 have s1:=hrc.size
 have s2:=hcn.size
 have hA : ∀ ad,A' = some ad → some ad.block ≠ some g8:=fun ad e e2 => by
  have h1:=hT1.lt ad e
  have e3:=Option.some.inj e2
  rcases hN.1 ad e with h|h
  ·omega
  ·have h2:=hA1.lt ad h.symm
   omega
 refine ⟨by omega,(hK.up hnb).far0 hgr (fun _ => hA),(hT1.up hnb).far hgr hA,(hL.up hnb).far1 hgr (fun hm ad e e2 => ?_) (fun o ho h0 ad e e2 => ?_),Bw.grown (Bw.trans (Bw.trans hrc hcn) hnb) hgr (fun k hk => by cases hk;omega),fun ad e => by have:=hN.2.1 ad e;omega,fun o ho ad e => by have:=hN.2.2 o ho ad e;omega⟩
 ·have h1:=hL.lt hm ad e
  have h2:=hN.2.1 ad e
  have e3:=Option.some.inj e2
  omega
 ·have h1:=(hL.2.1 o ho).1.lt h0 ad e
  have h2:=hN.2.2 o ho ad e
  have e3:=Option.some.inj e2
  omega
theorem Ls.far0 {w w' : World} {L : Option Addr} {m : Nat} {row : Option Nat} (h : Ls w L m) (hg : w.grownBy w' row) (hne : 0 < m → ∀ ad,L = some ad → some ad.block ≠ row) : Ls w' L m:=by
 by_cases h0 : 0 < m
 ·exact h.far hg (hne h0)
 ·have e : m = 0:=by omega
  subst e
  exact Ls.nil_ _ _
/-- What Apply has returned, its screen stored in a box that was made before the call or after. -/
theorem feed_p9 {wr wc wn wb w3 : World} {g8 : Nat} {s s' : Scr} {L : Option Addr} {m : Nat} (hrc : Bw wr wc) (hcn : Bw wc wn) (hnb : Bw wn wb) (hg8 : (wr.heap.size ≤ g8 ∧ g8 < wc.heap.size) ∨ wn.heap.size ≤ g8) (hgr : wb.grownBy w3 (some g8)) (hs : s.Ok wr) (hs' : s'.Ok wn) (hA : An wc s.A s'.A) (hL : Ls wn L m) (hN : ∀ ad,L = some ad → wc.heap.size ≤ ad.block) :
  s'.Ok w3 ∧ An wr s.A s'.A ∧ Ls w3 L m ∧ (∀ ad,L = some ad → wr.heap.size ≤ ad.block) ∧ Bw wr w3 ∧ wr.heap.size ≤ g8:=by
 have s1:=hrc.size
 have s2:=hcn.size
 have hlt:=hs.1.lt
 have hlt':=hs'.1.lt
 refine ⟨(hs'.up hnb).far hgr (fun ad e e2 => ?_),hA.more (by omega),(hL.up hnb).far0 hgr (fun h0 ad e e2 => ?_),fun ad e => by have:=hN ad e;omega,Bw.grown (Bw.trans (Bw.trans hrc hcn) hnb) hgr (fun k hk => by cases hk;omega),by omega⟩
 ·have e3:=Option.some.inj e2
  have h1:=hlt' ad e
  rcases hA with h|h
  ·have h2:=hlt ad (by rw [← h];exact e)
   omega
  ·have h2:=h ad e
   omega
 ·have e3:=Option.some.inj e2
  have h1:=hL.lt h0 ad e
  have h2:=hN ad e
  omega
/-- A list's place: that of A0, or in new memory. -/
def Pl (k : Nat) (A0 A : Option Addr) : Prop:=A = A0 ∨ ∀ ad,A = some ad → k ≤ ad.block
theorem Pl.an {w : World} {A0 A : Option Addr} (h : Pl w.heap.size A0 A) : An w A0 A:=h
theorem Pl.more {k k' : Nat} {A0 A : Option Addr} (h : Pl k A0 A) (hk : k' ≤ k) : Pl k' A0 A:=by
 rcases h with h|h
 ·exact .inl h
 ·exact .inr (fun ad e => Nat.le_trans hk (h ad e))
theorem Trm.Ok.more {w : World} {t : Trm} {B B' : Int} (h : t.Ok w B) (hB : B ≤ B') : t.Ok w B':=by
 obtain ⟨c1,c2,c3,c4,c5,c6,c7,c8,c9,c10,c11⟩:=h
 exact ⟨c1,c2,c3,c4,c5,c6,c7,c8,c9,c10,Int.le_trans c11 hB⟩
/-- The history's place: as it was, or in new memory. -/
def PlH (k : Nat) (t tr : Trm) : Prop:=(tr.HA = t.HA ∧ tr.Hn = t.Hn) ∨ ∀ ad,tr.HA = some ad → k ≤ ad.block
theorem PlH.more {k k' : Nat} {t tr : Trm} (h : PlH k t tr) (hk : k' ≤ k) : PlH k' t tr:=by
 rcases h with h|h
 ·exact .inl h
 ·exact .inr (fun ad e => Nat.le_trans hk (h ad e))
/-- What Feed returns. -/
def FeedP (w : World) (t : Trm) (B : Int) (e : Ending) (w' : World) : Prop :=
 ∃ t' : Trm,e = .returned (.agg t'.vals.toArray) ∧ t'.Ok w' B ∧ t'.s.Rn = t.s.Rn ∧ t'.s.Cn = t.s.Cn ∧ t'.keep = t.keep ∧ Pl w.heap.size t.s.A t'.s.A ∧ PlH w.heap.size t t' ∧ Bw w w'
/-- The loop's relation: the terminal in its box after some operations. -/
def FeedR (w W : World) (t t1 : Trm) (B : Int) (O : Option Addr) (m : Nat) (l : List OpR) (k : Nat) (wr : World) : Prop :=
 ∃ tr : Trm,Sb wr w.heap.size tr.vals.toArray 53 ∧ tr.Ok wr (B + 231 * k) ∧ (tr.s.Rn = t.s.Rn ∧ tr.s.Cn = t.s.Cn ∧ tr.keep = t.keep) ∧ Pl W.heap.size t.s.A tr.s.A ∧ PlH W.heap.size t tr ∧ OpsL wr O m l ∧ (∃ old,Sb wr (w.heap.size + 1) old 53 ∧ old.size = 26 ∧ ∀ (i : Nat) (x : Int),old[i]? ≠ some (.int .u8 x)) ∧ Bw w wr ∧ W.heap.size ≤ wr.heap.size
end Go.Proofs.YteebdjmjeahccaaGreatDoor
