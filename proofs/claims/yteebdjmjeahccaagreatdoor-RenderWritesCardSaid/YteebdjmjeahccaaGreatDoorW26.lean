/- Parts of the proof, one after the other. -/
import Derived.Test.YteebdjmjeahccaaGreatDoorW25
import Derived.Test.YteebdjmjeahccaaGreatDoorW01
import Derived.Test.YteebdjmjeahccaaGreatDoorW05
import Derived.Test.YteebdjmjeahccaaGreatDoorW21
import Derived.Deep.MidRow
set_option linter.unusedSimpArgs false
set_option linter.unusedVariables false
set_option maxRecDepth 100000
set_option maxHeartbeats 16000000
namespace Go.Proofs.YteebdjmjeahccaaGreatDoor
open Go.RowKit
theorem val_num {bs : List Int} {n : Nat} (hn : bs.length = n) (h1 : 1 ≤ n) (h4 : n ≤ 4) : numN bs 0 n = valN bs:=by
 subst hn
 match bs with
 | [] => simp at h1
 | [b] => rfl
 | [b,c] => rfl
 | [b,c,d] => rfl
 | [b,c,d,x] => rfl
 | _ :: _ :: _ :: _ :: _ :: _ => simp at h4
theorem pre_split (bs : List Int) : beginB bs = (prefixB bs && !completeB bs):=by
 cases bs with
 | nil => rfl
 | cons b t =>
  unfold beginB completeB
  cases h : prefixB (b :: t)
  ·rfl
  ·have h2 : (decide ((t.length : Int) + 1 ≤ rsize b) && okRest (rlow b) (rhigh b) t) = true:=h
   simp only [Bool.and_eq_true,decide_eq_true_eq] at h2
   have h3:=h2.1
   rw [Bool.eq_iff_iff]
   simp
   omega
theorem refdecode_any (A B : Option Addr) (n cap m capB : Nat) (r0 bs : List Int) (w : World) (hr : Rd (.int .u8) w A n r0) (hn : n ≤ cap) (hc : cap ≤ 9223372036854775807) (hb : Rd (.int .u8) w B m bs) (hm : m ≤ capB) (hcB : capB ≤ 9223372036854775807) (hms : m ≤ 1000000)
  (hbs : ∀ x ∈ bs,0 ≤ x ∧ x ≤ 255) (hr0 : ∀ x ∈ r0,0 ≤ x ∧ x ≤ 255) (hns : n ≤ 1000000) :
  Calls Tryz.prog 48 #[.agg #[.slice A n cap],.slice B m capB] w fun e w' => ∃ vr vl,e = .returned (.tuple #[.agg #[vr],vl]) ∧ Sl (.int .u8) w' vr (dec (restB r0) bs).1 ∧ Sl (.int .i64) w' vl (dec (restB r0) bs).2 ∧ Bw w w':=by
 obtain ⟨i0,hi,hz0,hz1,hz2⟩:=info_parts infoR
 obtain ⟨j0,hj,hj0,hj1,hj2⟩:=info_parts infoIr
 obtain ⟨v0,hv⟩ : ∃ v,validB r0 = v:=⟨_,rfl⟩
 have HV:=Lib.hid hv
 have HR0 : Hid (∀ x ∈ restB r0,0 ≤ x ∧ x ≤ 255):=Lib.hid (by unfold restB;split;exact hr0;simp)
 have HRV : Hid (restB r0 ≠ [] → beginB (restB r0) = true):=Lib.hid (by
  unfold restB
  split
  ·rename_i h;intro h2;simpa [validB,h2] using h
  ·intro h;exact absurd rfl h)
 clear hv
 have hrl:=hr.1
 go_enter Tryz.func48,Tryz.ntmps48
 go_wp2_with fail
 refine (refvalid_any _ _ _ r0 _ (by exact hr.up BWX) hn hc hr0).mono ?_
 rintro ee ww ⟨rfl,hbb⟩
 rw [HV.out]
 obtain ⟨L1,d1,rfl⟩:=Bw.isPlus hbb
 clear hbb
 obtain ⟨W,hW⟩ : ∃ W,W = plus (((w.alloc (.cells #[.slice A n cap] 48)).alloc (.cells #[.slice none 0 0] 48))) L1 d1:=⟨_,rfl⟩
 go_upto_if 13 with (fail)
 go_cut [6] (fun s6 w' => Sl (.int .u8) w' s6 (restB r0) ∧ Bw (plus (((w.alloc (.cells #[.slice A n cap] 48)).alloc (.cells #[.slice none 0 0] 48))) L1 d1) w')
 case first =>
  cases v0
  ·go_wp2
   go_meet
   case rel =>
    refine ⟨?_,BWX⟩
    rw [show restB r0 = [] by unfold restB;rw [HV.out];rfl]
    exact Sl.nil_ _ _ _ (by omega)
  ·go_wp2_with (at_builtin;refine wpList_append_srcG (by rfl) (.tmp 14) (.tmp 16) 33 rfl w.heap.size 5 i0 (.int .u8 0) 1 1 Tryz.underlying33 hi hz0 hz1 hz2 rfl (by decide) (.slice none 0 0) 0 [] rfl (World.ownsRow_nil _ _ _ _) A n cap (r0.map (.int .u8)) rfl (by simpa using hrl) (fun e => (hr.none_ e).1) (Rd.news2 (by exact hr.up BWX)) (one_map (fun _ => rfl) _) (by unfold maxLen;omega) (by omega) SZX ?_;intro v1 w1 hown1 hg1;simp only [Nat.zero_add,List.nil_append] at hown1)
   go_meet
   case rel =>
    refine ⟨?_,Bw.trans BWX (Bw.of_grown hg1)⟩
    rw [show restB r0 = r0 by unfold restB;rw [HV.out];rfl]
    exact Sl.of_own hown1
 case rest =>
 obtain ⟨hS6,hbc⟩:=hcut
 have hEz : w.heap.size + 1 < wc.heap.size:=Nat.lt_of_lt_of_le (by simp [plus_size];omega) hbc.size
 have hEc : wc.cell? ⟨w.heap.size + 1,0,none⟩ = some (.slice none 0 0):=cell_bw hbc CELX
 have hEf : wc.frozen? ⟨w.heap.size + 1,0,none⟩ = false:=(Below.frozen hbc (p:=⟨w.heap.size + 1,0,none⟩) (by simp [plus_size];omega)).trans (by simp [go_sem])
 have hEw : Bw w wc:=Bw.trans BWX hbc
 replace hb : Rd (.int .u8) wc B m bs:=hb.up hEw
 have hS6l : (restB r0).length ≤ 1000000:=by unfold restB;split;omega;simp
 clear hbc hr hrl hW
 clear W
 obtain ⟨W,rfl⟩ : ∃ W,W = wc:=⟨_,rfl⟩
 obtain ⟨rs,hrs⟩ : ∃ rs,restB r0 = rs:=⟨_,rfl⟩
 rw [hrs] at HR0 HRV hS6 hS6l
 have HRS:=Lib.hid hrs
 clear hrs HV
 have hS64 : rs.length ≤ 4:=by
  by_cases hre : rs = []
  ·subst hre;simp
  ·exact beginB_len (HRV.out hre)
 go_wp2_with fail
 go_loopw [6,7,8] (fun s6 s7 i wr => ∃ k : Nat,i = .int .i64 k ∧ DecR W bs (dec rs bs) s6 s7 k wr) (fun s6 _ i _ => 2 * (m - (intOf i).toNat) + (match s6 with | .slice _ n _ => min n 1|_ => 0))
 case atStart => exact ⟨0,rfl,rs,[],by omega,hS6,World.ownsRow_nil _ _ _ _,HR0.out,HRV.out,by simp;omega,rfl,rfl,BWX⟩
 case round =>
  rename_i wr
  obtain ⟨k,rfl,r,l,hk,hS,hown,hrb,hrg,hl1,hF1,hF2,hbw⟩:=hrel
  obtain ⟨rA,rc,rfl,hrc1,hrc2,hR⟩:=hS
  clear hS6 hS6l HR0 HRV
  by_cases hlt : k < m
  ·have hbl:=hb.1
   obtain ⟨gb,ob,rfl,hx0⟩:=hb.2 (by omega)
   have hx1:=hx0 k (by omega)
   have hk' : k < bs.length:=by omega
   obtain ⟨x,hxx⟩ : ∃ x,x = bs[k]:=⟨_,rfl⟩
   rw [← hxx] at hx1
   have hxw : wr.cell? ⟨gb,ob + k,none⟩ = some (.int .u8 x):=by
    rw [Below.cell hbw (p:=⟨gb,ob + k,none⟩) (lt_of_cell hx1)];exact hx1
   have q1 : (0 : Int) ≤ k:=by omega
   have q2 : (k : Int) < m:=by omega
   have q3 : (m : Int) ≤ capB:=by omega
   have q4 : (r.length : Int) ≤ rc:=by omega
   have q5 : (0 : Int) ≤ r.length:=by omega
   have hR3 : r.length ≤ 4:=by
    by_cases hre : r = []
    ·subst hre;simp
    ·have:=hrg hre
     exact beginB_len this
   have HF1:=Lib.hid hF1
   have HF2:=Lib.hid hF2
   have HX:=Lib.hid hxx
   have HO:=Lib.hid hown
   have HB:=Lib.hid hx0
   have HR:=Lib.hid hR
   clear hF1 hF2 hxx hown hx0 hx1 hb hR
   go_upto_region 8 with (fail)
   go_cut [9] (fun s9 w' => Sl (.int .u8) w' s9 (r ++ [x]) ∧ Bw wr w')
   case first =>
    go_region_held3 (fun w' => w'.cell? ⟨gb,ob + k,none⟩ = some (.int .u8 x)) ((first|(refine cell_bw hb2 ?_;(repeat (first|with_reducible assumption |  ((with_reducible refine cell_alloc_here ?_ ?_);(focus (first|omega|(simp only [szA,szS,szD,szN,plus_size,Array.size_append] <;> omega)));(focus rfl))|with_reducible refine cell_alloc_some ?_ _|with_reducible refine cell_plus_some ?_ _ _|((with_reducible refine cell_set_some ?_ ?_);(focus (first|omega|(simp only [szA,szS,szD,szN,plus_size,Array.size_append] <;> omega))))|with_reducible refine cell_drew_some ?_|with_reducible refine cell_drewN_some ?_ _));done)|(refine cell_bw hb1 ?_;(repeat (first|with_reducible assumption |  ((with_reducible refine cell_alloc_here ?_ ?_);(focus (first|omega|(simp only [szA,szS,szD,szN,plus_size,Array.size_append] <;> omega)));(focus rfl))|with_reducible refine cell_alloc_some ?_ _|with_reducible refine cell_plus_some ?_ _ _|((with_reducible refine cell_set_some ?_ ?_);(focus (first|omega|(simp only [szA,szS,szD,szN,plus_size,Array.size_append] <;> omega))))|with_reducible refine cell_drew_some ?_|with_reducible refine cell_drewN_some ?_ _));done)|((repeat (first|with_reducible assumption |  ((with_reducible refine cell_alloc_here ?_ ?_);(focus (first|omega|(simp only [szA,szS,szD,szN,plus_size,Array.size_append] <;> omega)));(focus rfl))|with_reducible refine cell_alloc_some ?_ _|with_reducible refine cell_plus_some ?_ _ _|((with_reducible refine cell_set_some ?_ ?_);(focus (first|omega|(simp only [szA,szS,szD,szN,plus_size,Array.size_append] <;> omega))))|with_reducible refine cell_drew_some ?_|with_reducible refine cell_drewN_some ?_ _));done))) ((first|(refine step_append_srcG (by rfl) (.tmp 24) (.tmp 25) 33 rfl wr.heap.size 5 i0 (.int .u8 0) 1 1 Tryz.underlying33 hi hz0 hz1 hz2 rfl (by decide) _ 0 [] (by rfl) (by first|(refine (own_made (w:=wr) ?_ ?_).bw ?_;(focus (first|omega|(simp only [szA,szS,szD,szN,plus_size,Array.size_append] <;> omega)));(focus (first|omega|(simp only [szA,szS,szD,szN,plus_size,Array.size_append] <;> omega)));(repeat (first|with_reducible (first|assumption|exact Bw.refl _|refine Bw.alloc ?_ _|refine Bw.more ?_ _ _|refine Bw.drew ?_|refine Bw.drewN ?_ _)|((with_reducible refine Bw.set2 ?_ ?_ _);(focus exact SZX))|with_reducible refine Bw.trans ?_ (by assumption)));done)|(refine (own_made (w:=wr.alloc (.cells #[.int .u8 x] 5)) ?_ ?_).bw ?_;(focus (first|omega|(simp only [szA,szS,szD,szN,plus_size,Array.size_append] <;> omega)));(focus (first|omega|(simp only [szA,szS,szD,szN,plus_size,Array.size_append] <;> omega)));(repeat (first|with_reducible (first|assumption|exact Bw.refl _|refine Bw.alloc ?_ _|refine Bw.more ?_ _ _|refine Bw.drew ?_|refine Bw.drewN ?_ _)|((with_reducible refine Bw.set2 ?_ ?_ _);(focus exact SZX))|with_reducible refine Bw.trans ?_ (by assumption)));done)) rA r.length rc (r.map (.int .u8)) (by rfl) (by simp) (fun e => (HR.out.none_ e).1) (Rd.news2 (HR.out.up BWX)) (one_map (fun _ => rfl) _) (by unfold maxLen;omega) (by omega) SZX ?_;intro v1 w1 hown1 hg1;simp only [Nat.zero_add,List.nil_append] at hown1;simp only [Value.ownBlock] at hg1;have hb1 : Bw wr w1:=Bw.grown (by exact BWX) hg1 (fun k hk => by cases hk;(first|omega|(simp only [szA,szS,szD,szN,plus_size,Array.size_append] <;> omega)));(try (have hcx0 : w1.cell? ⟨wr.heap.size,0,none⟩ = some (.int .u8 x):=by rw [grown_cell hg1 (p:=⟨wr.heap.size,0,none⟩) SZX (by simp)];(repeat (first|with_reducible assumption |  ((with_reducible refine cell_alloc_here ?_ ?_);(focus (first|omega|(simp only [szA,szS,szD,szN,plus_size,Array.size_append] <;> omega)));(focus rfl))|with_reducible refine cell_alloc_some ?_ _|with_reducible refine cell_plus_some ?_ _ _|((with_reducible refine cell_set_some ?_ ?_);(focus (first|omega|(simp only [szA,szS,szD,szN,plus_size,Array.size_append] <;> omega))))|with_reducible refine cell_drew_some ?_|with_reducible refine cell_drewN_some ?_ _))));(try (have hcx1 : w1.cell? ⟨wr.heap.size + 1,0,none⟩ = some (.int .u8 x):=by rw [grown_cell hg1 (p:=⟨wr.heap.size + 1,0,none⟩) SZX (by simp)];(repeat (first|with_reducible assumption |  ((with_reducible refine cell_alloc_here ?_ ?_);(focus (first|omega|(simp only [szA,szS,szD,szN,plus_size,Array.size_append] <;> omega)));(focus rfl))|with_reducible refine cell_alloc_some ?_ _|with_reducible refine cell_plus_some ?_ _ _|((with_reducible refine cell_set_some ?_ ?_);(focus (first|omega|(simp only [szA,szS,szD,szN,plus_size,Array.size_append] <;> omega))))|with_reducible refine cell_drew_some ?_|with_reducible refine cell_drewN_some ?_ _))));have hwz1 : wr.heap.size < w1.heap.size:=Nat.lt_of_lt_of_le SZX hg1.size;have HO1:=Lib.hid hown1;clear hown1 hg1)|(refine step_append_srcG (by rfl) (.tmp 26) (.tmp 31) 33 rfl wr.heap.size 5 i0 (.int .u8 0) 1 1 Tryz.underlying33 hi hz0 hz1 hz2 rfl (by decide) v1 r.length (r.map (.int .u8)) (by rfl) (by exact HO1.out.bw BWX) _ 1 1 [.int .u8 x] (by rfl) rfl (fun e => by cases e) (fun ad e => by cases e;exact cell_one_at (by first|assumption|go_simp)) (by simp;rfl) (by unfold maxLen;omega) (by omega) (by have:=hb1.size;(first|omega|(simp only [szA,szS,szD,szN,plus_size,Array.size_append] <;> omega))) ?_;intro v2 w2 hown2 hg2;have hb2 : Bw wr w2:=Bw.row (by exact Bw.trans hb1 BWX) (by exact HO1.out.bw BWX) hg2 (Nat.le_refl _);have HO2:=Lib.hid hown2;clear hown2 hg2)|fail))
    all_goals go_wp2
    all_goals go_meet
    all_goals exact ⟨Sl.of_own (n:=r.length + 1) (xs:=r ++ [x]) (by rw [List.map_append];exact HO2.out),hb2⟩
   case rest =>
    obtain ⟨⟨nA,nc,hv9,N1,N2,N3⟩,hb9⟩:=hcut
    obtain ⟨N,hN⟩ : ∃ N,N = (r ++ [x]).length:=⟨_,rfl⟩
    rw [← hN] at hv9 N1 N3
    subst hv9
    have HO9:=Lib.hid (HO.out.bw hb9)
    have hbw9 : Bw W wc:=hbw.trans hb9
    have N4 : ∀ y ∈ r ++ [x],0 ≤ y ∧ y ≤ 255:=by
     intro y hy
     rcases List.mem_append.1 hy with h|h
     ·exact hrb y h
     ·simp at h;subst h;rw [HX.out];exact hbs _ (List.getElem_mem _)
    have N5 : N ≤ 5:=by rw [hN];simp;omega
    have N7 : 1 ≤ N:=by rw [hN];simp
    have HN:=Lib.hid hN
    clear hN
    have HD:=Lib.hid (show bs.drop k = x :: bs.drop (k + 1) by rw [HX.out];exact List.drop_eq_getElem_cons hk')
    have hps:=pre_split (r ++ [x])
    clear hbs hrb hrg HB HR hxw hb9 hbw
    cases hE1 : beginB (r ++ [x])
    ·have HE1:=Lib.hid hE1
     cases hE2 : completeB (r ++ [x])
     ·have HE2:=Lib.hid hE2
      have HEP:=Lib.hid (show prefixB (r ++ [x]) = false by rw [hE1,hE2] at hps;simpa using hps.symm)
      clear hE2 hE1 hps
      cases hre : r.isEmpty
      ·have hre' : r ≠ []:=by simpa using hre
       have hrl : (0 : Int) < r.length:=by have:=List.length_pos_iff.2 hre';omega
       have HA:=Lib.hid (dec_again (t:=bs.drop (k + 1)) HE1.out HE2.out hre')
       have HZ:=Lib.hid hre'
       clear hre hre'
       go_wp2_with (first|(go_at_call 75;refine (refprefix_any _ _ _ (r ++ [x]) _ (by exact N3.up BWX) (by exact N1) N2 N4).mono ?_;rintro ee ww ⟨rfl,hbp⟩;rw [HEP.out,HE2.out];obtain ⟨Lp,dp,rfl⟩:=Bw.isPlus hbp;clear hbp)|(at_builtin;refine wpList_append_srcG (by rfl) (.tmp 60) (.tmp 61) 22 rfl W.heap.size 3 j0 (.int .i64 0) 1 8 Tryz.underlying22 hj hj0 hj1 hj2 rfl (by decide) _ l.length (l.map (.int .i64)) (by rfl) (by exact HO9.out.bw BWX) _ 1 1 [.int .i64 65533] (by rfl) rfl (fun e => by cases e) (fun ad e => by cases e;exact cell_one_at (by go_simp)) (by simp;rfl) (by unfold maxLen;omega) (by omega) (by have:=Below.size hbw9;(first|omega|(simp only [szA,szS,szD,szN,plus_size,Array.size_append] <;> omega))) ?_;intro v1 w1 hown1 hg1;have hbw1 : Bw W w1:=Bw.row (by exact Bw.trans hbw9 BWX) (by exact HO9.out.bw BWX) hg1 (Nat.le_refl _))|fail)
       go_roundw
       case rel =>
        refine ⟨k,by go_num,[],l ++ [65533],by omega,Sl.nil_ _ _ _ (by omega),by simpa using hown1,by simp,by simp,by simp;omega,?_,?_,hbw1⟩
        ·have h5:=HF1.out;rw [HD.out,HA.out] at h5;rw [HD.out];exact h5
        ·have h5:=HF2.out;rw [HD.out,HA.out] at h5;rw [HD.out,List.append_assoc];exact h5
       case measure => simp [intOf];omega
      ·have hre' : r = []:=by simpa using hre
       subst hre'
       have HA:=Lib.hid (dec_bad (t:=bs.drop (k + 1)) HE1.out HE2.out)
       clear hre
       go_wp2_with (first|(go_at_call 75;refine (refprefix_any _ _ _ ([] ++ [x]) _ (by exact N3.up BWX) (by exact N1) N2 N4).mono ?_;rintro ee ww ⟨rfl,hbp⟩;rw [HEP.out,HE2.out];obtain ⟨Lp,dp,rfl⟩:=Bw.isPlus hbp;clear hbp)|(at_builtin;refine wpList_append_srcG (by rfl) (.tmp 38) (.tmp 39) 22 rfl W.heap.size 3 j0 (.int .i64 0) 1 8 Tryz.underlying22 hj hj0 hj1 hj2 rfl (by decide) _ l.length (l.map (.int .i64)) (by rfl) (by exact HO9.out.bw BWX) _ 1 1 [.int .i64 65533] (by rfl) rfl (fun e => by cases e) (fun ad e => by cases e;exact cell_one_at (by go_simp)) (by simp;rfl) (by unfold maxLen;omega) (by omega) (by have:=Below.size hbw9;(first|omega|(simp only [szA,szS,szD,szN,plus_size,Array.size_append] <;> omega))) ?_;intro v1 w1 hown1 hg1;have hbw1 : Bw W w1:=Bw.row (by exact Bw.trans hbw9 BWX) (by exact HO9.out.bw BWX) hg1 (Nat.le_refl _))|fail)
       go_roundw
       case rel =>
        refine ⟨k + 1,by go_num,[],l ++ [65533],by omega,Sl.nil_ _ _ _ (by omega),by simpa using hown1,by simp,by simp,by simp at hl1 ⊢;omega,?_,?_,hbw1⟩
        ·have h5:=HF1.out;rw [HD.out,HA.out] at h5;exact h5
        ·have h5:=HF2.out;rw [HD.out,HA.out] at h5;rw [List.append_assoc];exact h5
       case measure => simp [intOf];omega
     ·have HE2:=Lib.hid hE2
      have HEP:=Lib.hid (show prefixB (r ++ [x]) = true by rw [hE1,hE2] at hps;cases h : prefixB (r ++ [x]);(unfold completeB at hE2;rw [h] at hE2;cases hE2);rfl)
      have N6 : N ≤ 4:=by rw [HN.out];exact completeB_len hE2
      have HA:=Lib.hid (dec_complete (t:=bs.drop (k + 1)) HE1.out HE2.out)
      have HVN:=Lib.hid (val_num HN.out.symm N7 N6)
      clear hE2 hE1 hps
      go_wp2_with (first|(go_at_call 75;refine (refprefix_any _ _ _ (r ++ [x]) _ (by exact N3.up BWX) (by exact N1) N2 N4).mono ?_;rintro ee ww ⟨rfl,hbp⟩;rw [HEP.out,HE2.out];obtain ⟨Lp,dp,rfl⟩:=Bw.isPlus hbp;clear hbp)|(go_at_call 76;refine (refnum_at _ _ _ N _ (r ++ [x]) 0 (valN (r ++ [x])) _ (by rfl) HVN.out (by exact N3.up BWX) N7 (Nat.le_refl _) N6 N4 (by omega)).mono ?_;rintro ee ww ⟨rfl,q,rfl⟩)|(at_builtin;refine wpList_append_srcG (by rfl) (.tmp 46) (.tmp 51) 22 rfl W.heap.size 3 j0 (.int .i64 0) 1 8 Tryz.underlying22 hj hj0 hj1 hj2 rfl (by decide) _ l.length (l.map (.int .i64)) (by rfl) (by exact HO9.out.bw BWX) _ 1 1 [.int .i64 (valN (r ++ [x]))] (by rfl) rfl (fun e => by cases e) (fun ad e => by cases e;exact cell_one_at (by go_simp)) (by simp;rfl) (by unfold maxLen;omega) (by omega) (by have:=Below.size hbw9;(first|omega|(simp only [szA,szS,szD,szN,plus_size,Array.size_append] <;> omega))) ?_;intro v1 w1 hown1 hg1;have hbw1 : Bw W w1:=Bw.row (by exact Bw.trans hbw9 BWX) (by exact HO9.out.bw BWX) hg1 (Nat.le_refl _))|fail)
      go_roundw
      case rel =>
       refine ⟨k + 1,by go_num,[],l ++ [valN (r ++ [x])],by omega,Sl.nil_ _ _ _ (by omega),by simpa using hown1,by simp,by simp,by simp;omega,?_,?_,hbw1⟩
       ·have h5:=HF1.out;rw [HD.out,HA.out] at h5;exact h5
       ·have h5:=HF2.out;rw [HD.out,HA.out] at h5;rw [List.append_assoc];exact h5
      case measure => simp [intOf];omega
    ·have HE1:=Lib.hid hE1
     have hpc : prefixB (r ++ [x]) = true ∧ completeB (r ++ [x]) = false:=by
      rw [hE1] at hps
      cases h1 : prefixB (r ++ [x]) <;> cases h2 : completeB (r ++ [x]) <;> simp [h1,h2] at hps ⊢
     have HEP:=Lib.hid hpc.1
     have HE2:=Lib.hid hpc.2
     clear hE1 hps hpc
     go_wp2_with (first|(go_at_call 75;refine (refprefix_any _ _ _ (r ++ [x]) _ (by exact N3.up BWX) (by exact N1) N2 N4).mono ?_;rintro ee ww ⟨rfl,hbp⟩;rw [HEP.out,HE2.out];obtain ⟨Lp,dp,rfl⟩:=Bw.isPlus hbp;clear hbp)|fail)
     go_roundw
     case rel =>
      refine ⟨k + 1,by go_num,r ++ [x],l,by omega,Sl.mk' HN.out N1 N2 (N3.up BWX),HO9.out.bw BWX,N4,fun _ => HE1.out,by simp;omega,?_,?_,Bw.trans hbw9 BWX⟩
      ·have:=HF1.out;rw [HD.out,dec_begin HE1.out] at this;exact this
      ·have:=HF2.out;rw [HD.out,dec_begin HE1.out] at this;exact this
     case measure => simp [intOf];omega
  ·have hk' : bs.length ≤ k:=by have:=hb.1;omega
   rw [List.drop_eq_nil_of_le hk'] at hF1 hF2
   have e1 : r = (dec rs bs).1:=hF1
   have e2 : l = (dec rs bs).2:=by rw [← hF2];show l = l ++ [];simp
   have HE1:=Lib.hid e1
   have HE2:=Lib.hid e2
   have HO:=Lib.hid hown
   have HR:=Lib.hid hR
   clear hF1 hF2 e1 e2 hown hR hrb hrg
   have zc : wr.cell? ⟨w.heap.size + 1,0,none⟩ = some (.slice none 0 0):=cell_bw hbw hEc
   have zf : wr.frozen? ⟨w.heap.size + 1,0,none⟩ = false:=(Below.frozen hbw (p:=⟨w.heap.size + 1,0,none⟩) hEz).trans hEf
   go_wp2
   refine bodyPost_ret (by simp [results,Tryz.results48,go_sem,zc];rfl) rfl ?_
   rw [HRS.out]
   refine ⟨_,_,rfl,?_,?_,(hEw.trans hbw).set (by dsimp only;omega) _⟩
   ·rw [← HE1.out]
    exact (Sl.mk' rfl hrc1 hrc2 HR.out).set zc (by simp) _
   ·rw [← HE2.out]
    exact (Sl.of_own HO.out).set zc (by simp) _
/-- A terminal's parts. -/
structure Trm where
 s : Scr
 RA : Option Addr
 Rn : Nat
 Rc : Nat
 rs : List Int
 md : Int
 pv : Int
 A : Option Addr
 n : Nat
 c : Nat
 xs : List Int
 keep : Int
 HA : Option Addr
 Hn : Nat
 Hc : Nat
 lost : Int
def Trm.vals (t : Trm) : List Value:=t.s.vals ++ [.slice t.RA t.Rn t.Rc,.int .i64 t.md,.int .i64 t.pv,.slice t.A t.n t.c,.int .i64 t.keep,.slice t.HA t.Hn t.Hc,.int .i64 t.lost]
/-- A valid terminal, that has lost at most B lines. -/
def Trm.Ok (w : World) (t : Trm) (B : Int) : Prop :=
 t.s.Ok w ∧ (Rd (.int .u8) w t.RA t.Rn t.rs ∧ t.Rn ≤ t.Rc ∧ t.Rc ≤ 9223372036854775807 ∧ validB t.rs = true ∧ t.Rn ≤ 4 ∧ ∀ x ∈ t.rs,0 ≤ x ∧ x ≤ 255) ∧ ScnOk w t.md t.pv t.A t.n t.c t.xs ∧ TyA w t.A ∧ (0 ≤ t.keep ∧ t.keep ≤ 200) ∧ Ls w t.HA t.Hn ∧ t.Hn ≤ t.Hc ∧ t.Hc ≤ 9223372036854775807 ∧ (t.Hn : Int) ≤ t.keep ∧ 0 ≤ t.lost ∧ t.lost ≤ B
theorem Trm.Ok.up {w w' : World} {t : Trm} {B : Int} (h : t.Ok w B) (hb : Bw w w') : t.Ok w' B:=by
 obtain ⟨h1,⟨h2,h3⟩,h4,h5,h6,h7,h8⟩:=h
 exact ⟨h1.up hb,⟨h2.up hb,h3⟩,h4.up hb,h5.up hb,h6,h7.up hb,h8⟩
theorem Trm.Ok.far {w w' : World} {t : Trm} {B : Int} {row : Option Nat} (h : t.Ok w B) (hg : w.grownBy w' row) (h1 : ∀ ad,t.s.A = some ad → some ad.block ≠ row) (h2 : 0 < t.Rn → ∀ ad,t.RA = some ad → some ad.block ≠ row) (h3 : ∀ ad,t.A = some ad → some ad.block ≠ row) (h4 : 0 < t.Hn → ∀ ad,t.HA = some ad → some ad.block ≠ row) : t.Ok w' B:=by
 obtain ⟨k1,⟨k2,k3⟩,k4,k5,k6,k7,k8⟩:=h
 refine ⟨k1.far hg h1,⟨k2.far0 hg h2,k3⟩,k4.far0 hg (fun _ => h3),k5.far hg h3,k6,?_,k8⟩
 by_cases h0 : 0 < t.Hn
 ·exact k7.far hg (h4 h0)
 ·have e : t.Hn = 0:=by omega
  rw [e]
  exact Ls.nil_ _ _
theorem Rd.lt {α : Type} {f : α → Value} {w : World} {A : Option Addr} {n : Nat} {xs : List α} (h : Rd f w A n xs) (h0 : 0 < n) : ∀ ad,A = some ad → ad.block < w.heap.size:=fun ad e => by
 obtain ⟨g,o,e2,hx⟩:=h.2 h0
 have h1:=lt_of_cell (hx 0 (by rw [h.1];exact h0))
 rw [e] at e2
 cases e2
 exact h1
theorem Ls.lt {w : World} {A : Option Addr} {n : Nat} (h : Ls w A n) (h0 : 0 < n) : ∀ ad,A = some ad → ad.block < w.heap.size:=by
 obtain ⟨vs,h1,_⟩:=h
 exact h1.lt h0
theorem infoTrm : (Tryz.prog.info? 53).map (·.size) = some 26:=by kernel_rfl
theorem infoTz (t : Trm) : (Tryz.prog.info? 53).map (·.size) = some t.vals.toArray.size:=infoTrm
theorem Trm.one (t : Trm) : t.vals.toArray.all (·.oneCell') = true:=all_oneCell_toArray (fun v hv => by
 rcases List.mem_append.mp hv with h|h
 ·exact (Array.all_eq_true_iff_forall_mem.1 t.s.one) v (by simpa using h)
 ·simp only [List.mem_cons,List.not_mem_nil,or_false] at h
  rcases h with rfl|rfl|rfl|rfl|rfl|rfl|rfl <;> rfl)
theorem Trm.range {w : World} {g : Nat} (t : Trm) (h : Sb w g t.vals.toArray 53) : w.rangeAt g 0 t.s.vals:=fun j v hv => by
 have hj : j < t.s.vals.length:=(List.getElem?_eq_some_iff.1 hv).1
 rw [Nat.zero_add]
 refine h.cell j ?_
 show (t.s.vals ++ _).toArray[j]? = some v
 rw [List.getElem?_toArray,List.getElem?_append_left hj]
 exact hv
/-- The load of a terminal's screen. -/
theorem wpList_load_ts {ops : Array Oper} {rest : List Oper} {o : Oper} {a : Act} {w : World} {Q : Exit → Act → World → Prop} (t : Trm) (g : Nat) (x : Operand) (ho : o.op = .load 46 x) (hgd : o.guard = none)
  (hx : a.eval x = .pointer (some ⟨g,0,none⟩)) (hg : Sb w g t.vals.toArray 53)
  (h : wpList Tryz.prog ops Q rest (a.put o.dst (.agg t.s.vals.toArray)) w) : wpList Tryz.prog ops Q (o :: rest) a w :=
 wpList_load_mid hgd 46 x ho g 0 hx t.s.vals _ (t.range hg) Tryz.underlying46 rfl infoSc h
theorem wp_load_ts {o : Oper} {a : Act} {w : World} {K : Act → World → Prop} {Q : Exit → Act → World → Prop} (t : Trm) (g : Nat) (x : Operand) (ho : o.op = .load 46 x)
  (hx : a.eval x = .pointer (some ⟨g,0,none⟩)) (hg : Sb w g t.vals.toArray 53)
  (h : K (a.put o.dst (.agg t.s.vals.toArray)) w) : Oper.wp Tryz.prog o a w K Q :=
 wp_load_mid 46 x ho g 0 hx t.s.vals _ (t.range hg) Tryz.underlying46 rfl infoSc h
/-- A row with some cells replaced. -/
def putR (cs : Array Value) : Nat → List Value → Array Value
 | _,[] => cs
 | o,v :: vs => putR (cs.setIfInBounds o v) (o + 1) vs
theorem Sb.setCells {g : Nat} {T : TypeId} : ∀ (vs : List Value) (o : Nat) (w : World) (cs : Array Value),Sb w g cs T → Sb (w.setCells g o vs) g (putR cs o vs) T ∧ w.grownBy (w.setCells g o vs) (some g)
 | [],o,w,cs,h => ⟨h,grown_refl _ _⟩
 | v :: vs,o,w,cs,h => by
  have h1 : Sb (w.setCell ⟨g,o,none⟩ v) g (cs.setIfInBounds o v) T:=h.set o v rfl
  obtain ⟨h2,h3⟩:=Sb.setCells vs (o + 1) _ _ h1
  exact ⟨h2,(grown_set (grown_refl w (some g)) o v).trans h3⟩
theorem putR_mid : ∀ (vs ps xs ys : List Value),xs.length = vs.length → putR (ps ++ xs ++ ys).toArray ps.length vs = (ps ++ vs ++ ys).toArray
 | [],ps,xs,ys,h => by
  have e : xs = []:=List.eq_nil_of_length_eq_zero h
  subst e
  rfl
 | v :: vs,ps,[],ys,h => by simp at h
 | v :: vs,ps,x :: xs,ys,h => by
  have e1 : ((ps ++ x :: xs ++ ys).toArray).setIfInBounds ps.length v = ((ps ++ [v]) ++ xs ++ ys).toArray:=by
   rw [List.setIfInBounds_toArray]
   congr 1
   simp
  show putR ((ps ++ x :: xs ++ ys).toArray.setIfInBounds ps.length v) (ps.length + 1) vs = _
  rw [e1]
  have:=putR_mid vs (ps ++ [v]) xs ys (by simpa using h)
  rw [show (ps ++ [v]).length = ps.length + 1 by simp] at this
  rw [this]
  simp
theorem putR_s (t : Trm) (s' : Scr) : putR t.vals.toArray 0 s'.vals = ({ t with s:=s' } : Trm).vals.toArray:=by
 have:=putR_mid s'.vals [] t.s.vals [.slice t.RA t.Rn t.Rc,.int .i64 t.md,.int .i64 t.pv,.slice t.A t.n t.c,.int .i64 t.keep,.slice t.HA t.Hn t.Hc,.int .i64 t.lost] rfl
 exact this
/-- The store of a screen into a terminal. -/
theorem wpList_store_ts {ops : Array Oper} {rest : List Oper} {o : Oper} {a : Act} {w : World} {Q : Exit → Act → World → Prop} (t : Trm) (s' : Scr) (g : Nat) (x y : Operand) (ho : o.op = .store 46 x y) (hgd : o.guard = none)
  (hx : a.eval x = .pointer (some ⟨g,0,none⟩)) (hy : a.eval y = .agg s'.vals.toArray) (hg : Sb w g t.vals.toArray 53)
  (h : ∀ w',Sb w' g ({ t with s:=s' } : Trm).vals.toArray 53 → w.grownBy w' (some g) → wpList Tryz.prog ops Q rest (a.put o.dst undef) w') : wpList Tryz.prog ops Q (o :: rest) a w:=by
 refine wpList_store_mid hgd 46 x y ho g 0 s'.vals.toArray hx hy (fun j hj => ?_) (infoSz s') s'.one ?_
 ·have hj' : j < 19:=hj
  have hs : j < t.vals.toArray.size:=by show j < 26;omega
  rw [Nat.zero_add]
  exact ⟨by rw [hg.cell j (v:=t.vals.toArray[j]) (Array.getElem?_eq_getElem hs)];rfl,hg.free j⟩
 ·obtain ⟨h1,h2⟩:=Sb.setCells s'.vals 0 w _ hg
  exact h _ (putR_s t s' ▸ h1) h2
theorem wpList_load_tr {ops : Array Oper} {rest : List Oper} {o : Oper} {a : Act} {w : World} {Q : Exit → Act → World → Prop} (t : Trm) (g : Nat) (x : Operand) (ho : o.op = .load 53 x) (hgd : o.guard = none)
  (hx : a.eval x = .pointer (some ⟨g,0,none⟩)) (hg : Sb w g t.vals.toArray 53)
  (h : wpList Tryz.prog ops Q rest (a.put o.dst (.agg t.vals.toArray)) w) : wpList Tryz.prog ops Q (o :: rest) a w :=
 wpList_load_row hgd 53 x ho g hx 53 t.vals.toArray (0,0) _ hg Tryz.underlying53 rfl (infoTz t) h
theorem wp_load_tr {o : Oper} {a : Act} {w : World} {K : Act → World → Prop} {Q : Exit → Act → World → Prop} (t : Trm) (g : Nat) (x : Operand) (ho : o.op = .load 53 x)
  (hx : a.eval x = .pointer (some ⟨g,0,none⟩)) (hg : Sb w g t.vals.toArray 53)
  (h : K (a.put o.dst (.agg t.vals.toArray)) w) : Oper.wp Tryz.prog o a w K Q :=
 wp_load_row 53 x ho g hx 53 t.vals.toArray (0,0) _ hg Tryz.underlying53 rfl (infoTz t) h
theorem wpList_store_tr {ops : Array Oper} {rest : List Oper} {o : Oper} {a : Act} {w : World} {Q : Exit → Act → World → Prop} (t : Trm) (g : Nat) (x y : Operand) (ho : o.op = .store 53 x y) (hgd : o.guard = none)
  (hx : a.eval x = .pointer (some ⟨g,0,none⟩)) (hy : a.eval y = .agg t.vals.toArray) (hg : ∃ old,Sb w g old 53 ∧ old.size = 26)
  (h : ∀ w',Sb w' g t.vals.toArray 53 → w.grownBy w' (some g) → wpList Tryz.prog ops Q rest (a.put o.dst undef) w') : wpList Tryz.prog ops Q (o :: rest) a w :=
 wpList_store_cs 53 t.vals.toArray g x y (infoTz t) t.one ho hgd hx hy hg h
theorem wp_store_tr {o : Oper} {a : Act} {w : World} {K : Act → World → Prop} {Q : Exit → Act → World → Prop} (t : Trm) (g : Nat) (x y : Operand) (ho : o.op = .store 53 x y)
  (hx : a.eval x = .pointer (some ⟨g,0,none⟩)) (hy : a.eval y = .agg t.vals.toArray) (hg : ∃ old,Sb w g old 53 ∧ old.size = 26)
  (h : ∀ w',Sb w' g t.vals.toArray 53 → w.grownBy w' (some g) → K (a.put o.dst undef) w') : Oper.wp Tryz.prog o a w K Q :=
 wp_store_cs 53 t.vals.toArray g x y (infoTz t) t.one ho hx hy hg h
theorem results_tr {fn : Func} {p : Tmp} (h : fn.results = #[.cell p 53]) (tmps : Array Value) (w : World) (g : Nat) (t : Trm) (hp : tmps.getD p undef = .pointer (some ⟨g,0,none⟩)) (hg : Sb w g t.vals.toArray 53) :
  (results fn tmps).run Tryz.prog w = .ok (.agg t.vals.toArray) w:=results_cell_row h tmps w g 53 t.vals.toArray (0,0) _ hp hg Tryz.underlying53 rfl (infoTz t)
/-- A list lies in no box of another kind. -/
theorem TyA.ne {w : World} {A : Option Addr} {g : Nat} {cs : Array Value} {T : TypeId} (h : TyA w A) (hS : Sb w g cs T) (hT : T ≠ 3) : ∀ ad,A = some ad → some ad.block ≠ some g:=fun ad e e2 => by
 obtain ⟨c2,fr,h1⟩:=h ad e
 have e3:=Option.some.inj e2
 rw [e3,(show w.heap[g]? = _ from hS)] at h1
 exact hT (Obj.cells.inj (Option.some.inj h1)).2.1
theorem Scr.no8 (s : Scr) : ∀ v ∈ s.vals,∀ x,v ≠ .int .u8 x:=fun v hv x => by
 unfold Scr.vals at hv
 simp only [List.mem_cons,List.not_mem_nil,or_false] at hv
 rcases hv with rfl|rfl|rfl|rfl|rfl|rfl|rfl|rfl|rfl|rfl|rfl|rfl|rfl|rfl|rfl|rfl|rfl|rfl|rfl <;> (intro h;cases h)
theorem Trm.no8 (t : Trm) : ∀ (i : Nat) (x : Int),t.vals.toArray[i]? ≠ some (.int .u8 x):=fun i x hi => by
 rw [List.getElem?_toArray] at hi
 rcases List.mem_append.mp (List.mem_of_getElem? hi : _ ∈ t.s.vals ++ _) with h|h
 ·exact t.s.no8 _ h x rfl
 ·simp at h
theorem rvalid19_ok (t : Trm) (B : Int) (w : World) (h : t.Ok w B) : Calls Tryz.prog 45 #[.agg t.vals.toArray] w fun e w' => e = .returned (.bool true) ∧ Bw w w':=by
 obtain ⟨h1,⟨h2,h3,h4,h5,h6,h7⟩,h8,h9,h10,h11,h12,h13,h14,h15,h16⟩:=h
 have H1:=Lib.hid h1
 have H2:=Lib.hid h2
 have H5:=Lib.hid h5
 have H7:=Lib.hid h7
 have H8:=Lib.hid h8
 clear h1 h2 h5 h7 h8 h9 h11
 obtain ⟨k1,k2⟩:=h10
 go_enter Tryz.func45,Tryz.ntmps45
 go_upto_region 1 with (fail)
 generalize hw1 : w.alloc _ = w1
 obtain ⟨hb0,hbw,hz⟩:=sb1 hw1
 have HB0:=Lib.hid hb0
 clear hw1 hb0
 go_wp2_with (first
  | ((with_reducible refine wpList_load_ts t w.heap.size (.tmp 3) rfl rfl ?_ ?_ ?_);(focus rfl);(focus (exact HB0.out)))
  | (go_at_call 68;refine (rsvalid_ok t.s _ (H1.out.up BWX)).mono ?_;rintro ee w2 ⟨rfl,hb2⟩;have y0:=(HB0.out.up hb2).cell 19 (v:=.slice t.RA t.Rn t.Rc) rfl)
  | (go_at_call 69;refine (refvalid_any t.RA t.Rn t.Rc t.rs _ (by exact H2.out.up BWX) h3 h4 H7.out).mono ?_;rintro ee w3 ⟨rfl,hb3⟩;rw [H5.out];clear y0;have hb23:=Bw.trans hb2 hb3;have y1:=(HB0.out.up hb23).cell 20 (v:=.int .i64 t.md) rfl;have y2:=(HB0.out.up hb23).cell 21 (v:=.int .i64 t.pv) rfl;have y3:=(HB0.out.up hb23).cell 22 (v:=.slice t.A t.n t.c) rfl)
  | (go_at_call 70;refine (rvalid14_ok t.md t.pv t.A t.n t.c t.xs _ (H8.out.up BWX)).mono ?_;rintro ee w4 ⟨rfl,hb4⟩;clear y1 y2 y3;have hb24:=Bw.trans hb23 hb4;have z1:=(HB0.out.up hb24).cell 23 (v:=.int .i64 t.keep) rfl;have z2:=(HB0.out.up hb24).cell 24 (v:=.slice t.HA t.Hn t.Hc) rfl;have z3:=(HB0.out.up hb24).cell 25 (v:=.int .i64 t.lost) rfl)
  | fail)
 go_ret
 exact ⟨by first|rfl|(simp;omega),BWX⟩
theorem raway_ok (t : Trm) (L : Option Addr) (m cap : Nat) (w : World) (hH : Ls w t.HA t.Hn) (hH1 : t.Hn ≤ t.Hc) (hH2 : t.Hc ≤ 9223372036854775807) (hH3 : t.Hn ≤ 200) (hk : 0 ≤ t.keep ∧ t.keep ≤ 200) (hl : 0 ≤ t.lost ∧ t.lost ≤ 1000000000000) (hL : Ls w L m) (hm0 : 0 < m) (hm : m ≤ 31) (hmc : m ≤ cap) (hcap : cap ≤ 9223372036854775807) :
  Calls Tryz.prog 47 #[.agg t.vals.toArray,.slice L m cap] w fun e w' => ∃ (HA' : Option Addr) (Hn' Hc' : Nat) (lost' : Int),e = .returned (.agg ({ t with HA:=HA',Hn:=Hn',Hc:=Hc',lost:=lost' } : Trm).vals.toArray) ∧ Ls w' HA' Hn' ∧ (∀ ad,HA' = some ad → w.heap.size ≤ ad.block) ∧ Hn' ≤ Hc' ∧ Hc' ≤ 9223372036854775807 ∧ (Hn' : Int) ≤ t.keep ∧ t.lost ≤ lost' ∧ lost' ≤ t.lost + 231 ∧ Bw w w':=by
 obtain ⟨hs,hR,hh1⟩:=hH
 obtain ⟨ls,hR2,hl1⟩:=hL
 have HR:=Lib.hid hR
 have HR2:=Lib.hid hR2
 have HH1:=Lib.hid hh1
 have HL1:=Lib.hid hl1
 have hsl : hs.length = t.Hn:=hR.1
 have hll : ls.length = m:=hR2.1
 obtain ⟨hk0,hk2⟩:=hk
 obtain ⟨hl0,hl2⟩:=hl
 clear hR hR2 hh1 hl1
 obtain ⟨i0,hi,hi0,hi1,hi2⟩:=info_parts infoL
 go_enter Tryz.func47,Tryz.ntmps47
 go_upto_region 1 with (fail)
 generalize hw1 : (w.alloc (.cells t.vals.toArray 53)).alloc _ = w1
 obtain ⟨hb0,hb1,hbw,hz⟩:=sb2 hw1
 have HB0:=Lib.hid hb0
 have HB1:=Lib.hid (show ∃ old,Sb w1 (w.heap.size + 1) old 53 ∧ old.size = 26 from ⟨_,hb1,rfl⟩)
 have hz1 : w.heap.size + 1 < w1.heap.size:=by omega
 have hz0 : w.heap.size < w1.heap.size:=by omega
 have y24:=HB0.out.cell 24 (v:=.slice t.HA t.Hn t.Hc) rfl
 clear hw1 hb0 hb1 hz
 go_upto_region 2 with (first
  | (at_builtin;refine wpList_append_srcG (by rfl) (.tmp 7) (.tmp 9) 51 rfl w1.heap.size 23 i0 (.slice none 0 0) 1 24 Tryz.underlying51 hi hi0 hi1 hi2 rfl (by decide) (.slice (some ⟨w1.heap.size,0,none⟩) 0 0) 0 [] (by rfl) (own_made rfl (Nat.le_refl _)) t.HA t.Hn t.Hc (hs.map (fun v => v)) (by rfl) (by rw [List.length_map,hsl];omega) (fun e => (HR.out.none_ e).1) (Rd.news2 (by exact HR.out.up BWX)) (by rw [List.map_id'];exact HH1.out) (by unfold maxLen;omega) (by omega) SZX ?_;intro v1 w2 hown hg2;simp only [Nat.zero_add,List.nil_append] at hown;have hb2 : Bw w1 w2:=Bw.grown (show Bw w1 (w1.alloc (.cells #[] 23)) from BWX) hg2 (fun k hk => by have e:=Option.some.inj (show some w1.heap.size = some k from hk);omega);have HOWN:=Lib.hid hown;have HB2:=Lib.hid hb2;clear hown hg2 hb2)
  | (at_builtin;refine wpList_append_srcG (by rfl) (.tmp 10) (.tmp 11) 51 rfl w1.heap.size 23 i0 (.slice none 0 0) 1 24 Tryz.underlying51 hi hi0 hi1 hi2 rfl (by decide) v1 t.Hn (hs.map (fun v => v)) (by rfl) HOWN.out L m cap (ls.map (fun v => v)) (by rfl) (by rw [List.length_map,hll];omega) (fun e => (HR2.out.none_ e).1) (Rd.news2 (by exact HR2.out.up (Bw.trans hbw HB2.out))) (by rw [List.map_id'];exact HL1.out) (by unfold maxLen;omega) (by omega) (by have:=HB2.out.size;omega) ?_;intro v2 w3 hown2 hg3;have HB3:=Lib.hid (show Bw w1 w3 from Bw.grown HB2.out hg3 (fun k hk => (HOWN.out.lt k hk).1));have HO2:=Lib.hid hown2;clear hown2 hg3)
  | fail)
 obtain ⟨g,cp,rfl,hg,hg2⟩:=HO2.out.form (by omega)
 have hb3:=HB3.out
 have hz3 : w.heap.size + 1 < w3.heap.size:=by have:=hb3.size;omega
 have hz03 : w.heap.size < w3.heap.size:=by omega
 have HB03:=Lib.hid (HB0.out.up hb3)
 have HB13:=Lib.hid (Exists.elim HB1.out (fun old h => (⟨old,h.1.up hb3,h.2⟩ : ∃ old,Sb w3 (w.heap.size + 1) old 53 ∧ old.size = 26)))
 have hbw3 : Bw w w3:=Bw.trans hbw hb3
 obtain ⟨A_,c_,e_,hcp1,hcp2⟩:=own_form HO2.out
 cases e_
 clear y24 HB0 HB1 HOWN HB2 HB3 hb3
 have y23:=HB03.out.cell 23 (v:=.int .i64 t.keep) rfl
 have y24:=HB03.out.cell 24 (v:=.slice t.HA t.Hn t.Hc) rfl
 have y25:=HB03.out.cell 25 (v:=.int .i64 t.lost) rfl
 have f24:=HB03.out.free 24
 have f25:=HB03.out.free 25
 go_upto_region 3 with (fail)
 obtain ⟨q,hq⟩ : ∃ q : Nat,(if t.keep < (t.Hn : Int) + (m : Int) then (t.Hn : Int) + (m : Int) - t.keep else 0) = (q : Int):=by
  split
  ·exact ⟨(t.Hn + m - t.keep).toNat,by omega⟩
  ·exact ⟨0,rfl⟩
 have hq1 : q ≤ t.Hn + m ∧ ((t.Hn + m - q : Nat) : Int) ≤ t.keep:=by
  split at hq <;> omega
 obtain ⟨hq1,hq2⟩:=hq1
 have hq3 : (q : Int) ≤ (t.Hn : Int) + (m : Int):=by omega
 simp only [hq]
 have hwl : IntKind.i64.wrap (t.lost + (q : Int)) = t.lost + (q : Int):=IntWalk.i64_in _ (by omega)
 have HQ:=Lib.hid hq
 have HAW:=Lib.hid (show ∀ v v' : Value,∃ old,Sb ((w3.setCell ⟨w.heap.size,24,none⟩ v).setCell ⟨w.heap.size,25,none⟩ v').drew (w.heap.size + 1) old 53 ∧ old.size = 26 from fun v v' => Exists.elim HB13.out (fun old h => ⟨old,Sb.up (w:=(w3.setCell ⟨w.heap.size,24,none⟩ v).setCell ⟨w.heap.size,25,none⟩ v') ((h.1.away (by omega) v).away (by omega) v') (Bw.drew (Bw.refl _)),h.2⟩))
 clear hq
 by_cases hcq : cp = q
 ·have hqq : q = t.Hn + m:=by omega
  have HQQ:=Lib.hid hqq
  clear hqq
  refine wp_region_held_drew (S:=(fun w' => True)) (by kernel_rfl) ?_ (fun hHeld => ?_)
  ·(try dsimp only);skip
  refine tkQ 0 ?_
  refine tkQ 1 ?_
  refine tkQ 2 ?_
  (try simp only [Act.put,zP1,zP2,zP3,zP4,zP5,zP6])
  refine tkQ 3 ?_
  refine tkQ 5 ?_
  (try simp only [Act.put,zP1,zP2,zP3,zP4,zP5,zP6])
  refine arO 4 (fun K hK => ?_)
  go_simp
  refine hK.out _ _ ?_ (fun hHeld => ?_)
  ·(try dsimp only);skip
  clear hK K
  (try simp only [Act.put,zP1,zP2,zP3,zP4,zP5,zP6])
  refine tkQ 6 ?_
  (try simp only [Act.put,zP1,zP2,zP3,zP4,zP5,zP6])
  refine tkQ 7 ?_
  (try simp only [Act.put,zP1,zP2,zP3,zP4,zP5,zP6])
  refine arO 8 (fun K hK => ?_)
  go_simp
  refine hK.out _ _ ?_ (fun hHeld => ?_)
  ·(try dsimp only);skip
  clear hK K
  (try simp only [Act.put,zP1,zP2,zP3,zP4,zP5,zP6])
  refine tkQ 9 ?_
  (try simp only [Act.put,zP1,zP2,zP3,zP4,zP5,zP6])
  refine arO 10 (fun K hK => ?_)
  go_simp
  refine hK.out _ _ ?_ (fun hHeld => ?_)
  ·(try dsimp only);skip
  clear hK K
  (try simp only [Act.put,zP1,zP2,zP3,zP4,zP5,zP6])
  refine wpAnyH_done (by kernel_rfl) ?_ _
  go_wp2_with (first
   | ((with_reducible refine wpList_load_tr ({ t with HA:=some ⟨g,0,none⟩,Hn:=t.Hn + m - q,Hc:=0,lost:=t.lost + q } : Trm) w.heap.size (.tmp 2) rfl rfl ?_ ?_ ?_);(focus rfl);(focus (exact ((HB03.out.set 24 _ rfl).set 25 _ rfl).up BWX)))
   | ((with_reducible refine wpList_store_tr ({ t with HA:=some ⟨g,0,none⟩,Hn:=t.Hn + m - q,Hc:=0,lost:=t.lost + q } : Trm) (w.heap.size + 1) (.tmp 4) (.tmp 28) rfl rfl ?_ ?_ ?_ ?_);(focus rfl);(focus rfl);(focus (exact HAW.out _ _));intro w4 hS4 hg4;have HS4:=Lib.hid hS4;have HG4:=Lib.hid hg4;clear hS4 hg4)
   | fail)
  refine bodyPost_ret (results_tr rfl _ _ (w.heap.size + 1) ({ t with HA:=some ⟨g,0,none⟩,Hn:=t.Hn + m - q,Hc:=0,lost:=t.lost + q } : Trm) (by rfl) HS4.out) rfl ?_
  have hO4 : w4.ownsRow _ _ 1 _ _ _:=(((own_set_below (own_set_below HO2.out (by omega) _) (by omega) _).bw (Bw.drew (Bw.refl _))).kept HG4.out (.inr (by simp only [Value.ownBlock];intro e;have:=Option.some.inj e;omega)))
  have hbwE : Bw w w4:=Bw.grown (show Bw w _ from BWX) HG4.out (fun k hk => by cases hk;omega)
  refine ⟨some ⟨g,0,none⟩,t.Hn + m - q,0,t.lost + q,rfl,?_,fun ad e => by cases e;dsimp only;omega,by omega,by omega,hq2,by omega,by omega,hbwE⟩
  rw [show t.Hn + m - q = 0 by have:=HQQ.out;omega]
  exact Ls.nil_ _ _
 ·have hcq1 : ¬ q = cp:=fun e => hcq e.symm
  refine wp_region_held_drew (S:=(fun w' => True)) (by kernel_rfl) ?_ (fun hHeld => ?_)
  ·(try dsimp only);skip
  refine tkQ 0 ?_
  (try simp only [Act.put,zP1,zP2,zP3,zP4,zP5,zP6])
  refine tkQ 1 ?_
  refine tkQ 2 ?_
  refine tkQ 3 ?_
  (try simp only [Act.put,zP1,zP2,zP3,zP4,zP5,zP6])
  refine tkQ 5 ?_
  (try simp only [Act.put,zP1,zP2,zP3,zP4,zP5,zP6])
  refine arO 4 (fun K hK => ?_)
  go_simp
  refine hK.out _ _ ?_ (fun hHeld => ?_)
  ·(try dsimp only);skip
  clear hK K
  (try simp only [Act.put,zP1,zP2,zP3,zP4,zP5,zP6])
  refine tkQ 6 ?_
  refine tkQ 7 ?_
  (try simp only [Act.put,zP1,zP2,zP3,zP4,zP5,zP6])
  refine arO 8 (fun K hK => ?_)
  go_simp
  refine hK.out _ _ ?_ (fun hHeld => ?_)
  ·(try dsimp only);skip
  clear hK K
  (try simp only [Act.put,zP1,zP2,zP3,zP4,zP5,zP6])
  refine tkQ 9 ?_
  (try simp only [Act.put,zP1,zP2,zP3,zP4,zP5,zP6])
  refine arO 10 (fun K hK => ?_)
  go_simp
  refine hK.out _ _ ?_ (fun hHeld => ?_)
  ·(try dsimp only);skip
  clear hK K
  (try simp only [Act.put,zP1,zP2,zP3,zP4,zP5,zP6])
  refine wpAnyH_done (by kernel_rfl) ?_ _
  go_wp2_with (first
   | ((with_reducible refine wpList_load_tr ({ t with HA:=some ⟨g,q,none⟩,Hn:=t.Hn + m - q,Hc:=(cp - q),lost:=t.lost + q } : Trm) w.heap.size (.tmp 2) rfl rfl ?_ ?_ ?_);(focus rfl);(focus (exact ((HB03.out.set 24 _ rfl).set 25 _ rfl).up BWX)))
   | ((with_reducible refine wpList_store_tr ({ t with HA:=some ⟨g,q,none⟩,Hn:=t.Hn + m - q,Hc:=(cp - q),lost:=t.lost + q } : Trm) (w.heap.size + 1) (.tmp 4) (.tmp 28) rfl rfl ?_ ?_ ?_ ?_);(focus rfl);(focus rfl);(focus (exact HAW.out _ _));intro w4 hS4 hg4;have HS4:=Lib.hid hS4;have HG4:=Lib.hid hg4;clear hS4 hg4)
   | fail)
  refine bodyPost_ret (results_tr rfl _ _ (w.heap.size + 1) ({ t with HA:=some ⟨g,q,none⟩,Hn:=t.Hn + m - q,Hc:=(cp - q),lost:=t.lost + q } : Trm) (by rfl) HS4.out) rfl ?_
  have hO4 : w4.ownsRow _ _ 1 _ _ _:=(((own_set_below (own_set_below HO2.out (by omega) _) (by omega) _).bw (Bw.drew (Bw.refl _))).kept HG4.out (.inr (by simp only [Value.ownBlock];intro e;have:=Option.some.inj e;omega)))
  have hbwE : Bw w w4:=Bw.grown (show Bw w _ from BWX) HG4.out (fun k hk => by cases hk;omega)
  have hrd:=own_rd (f:=fun v => v) (xs:=hs.map (fun v => v) ++ ls.map (fun v => v)) (by rw [List.map_id'];exact hO4)
  have hdr:=hrd.drop q hq1
  refine ⟨some ⟨g,q,none⟩,t.Hn + m - q,(cp - q),t.lost + q,rfl,?_,fun ad e => by cases e;dsimp only;omega,by omega,by omega,hq2,by omega,by omega,hbwE⟩
  refine ⟨(hs.map (fun v => v) ++ ls.map (fun v => v)).drop q,?_,fun v hv => ?_⟩
  ·have e1 : (⟨g,0,none⟩ : Addr).add q = ⟨g,q,none⟩:=by unfold Addr.add;split <;> simp_all
   rw [e1] at hdr
   exact hdr
  ·have hv2:=List.mem_of_mem_drop hv
   rcases List.mem_append.mp hv2 with h|h
   ·exact HH1.out v (by simpa using h)
   ·exact HL1.out v (by simpa using h)
theorem dec_cons_t (r : List Int) (b : Int) (t : List Int) : dec r (b :: t) = if beginB (r ++ [b]) then dec (r ++ [b]) t
  else if completeB (r ++ [b]) then emit (valN (r ++ [b])) (dec [] t)
  else if r = [] then emit 65533 (dec [] t)
  else if beginB [b] then emit 65533 (dec [b] t)
  else if completeB [b] then emit 65533 (emit (valN [b]) (dec [] t))
  else emit 65533 (emit 65533 (dec [] t)):=rfl
theorem dec_valid_t : ∀ (b r : List Int),validB r = true → validB (dec r b).1 = true
 | [],r,h => by simpa [dec] using h
 | b :: t,r,h => by
  rw [dec_cons_t]
  have e0 : validB [] = true:=rfl
  have ev : ∀ s,beginB s = true → validB s = true:=fun s hs => by simp [validB,hs]
  repeat' split
  ·rename_i h1;exact dec_valid_t t _ (ev _ h1)
  ·exact dec_valid_t t _ e0
  ·exact dec_valid_t t _ e0
  ·rename_i h1;exact dec_valid_t t _ (ev _ h1)
  ·exact dec_valid_t t _ e0
  ·exact dec_valid_t t _ e0
theorem dec_len_t : ∀ (b r : List Int),(dec r b).2.length ≤ 2 * b.length
 | [],r => by simp [show dec r [] = (r,[]) from rfl]
 | b :: t,r => by
  have e:=fun s => dec_len_t t s
  rw [dec_cons_t]
  repeat' split
  all_goals (simp only [emit,List.length_cons])
  all_goals (first|(have:=e (r ++ [b]);omega)|(have:=e [];omega)|(have:=e [b];omega))
theorem dec_mem_t : ∀ (b r : List Int) (x : Int),x ∈ (dec r b).1 → x ∈ r ∨ x ∈ b
 | [],r,x => fun h => .inl h
 | b :: t,r,x => by
  have e:=fun s => dec_mem_t t s x
  rw [dec_cons_t]
  repeat' split
  all_goals (try simp only [emit])
  all_goals intro h
  ·rcases e _ h with h|h
   ·rcases List.mem_append.1 h with h|h
    ·exact .inl h
    ·simp at h;exact .inr (by simp [h])
   ·exact .inr (by simp [h])
  ·rcases e _ h with h|h
   ·simp at h
   ·exact .inr (by simp [h])
  ·rcases e _ h with h|h
   ·simp at h
   ·exact .inr (by simp [h])
  ·rcases e _ h with h|h
   ·exact .inr (by simp at h;simp [h])
   ·exact .inr (by simp [h])
  ·rcases e _ h with h|h
   ·simp at h
   ·exact .inr (by simp [h])
  ·rcases e _ h with h|h
   ·simp at h
   ·exact .inr (by simp [h])
theorem validB_len {r : List Int} (h : validB r = true) : r.length ≤ 4:=by
 unfold validB at h
 rcases Bool.or_eq_true _ _ ▸ h with h|h
 ·rw [List.isEmpty_iff] at h;subst h;simp
 ·exact beginB_len h
/-- A list lies in no box that holds nothing of its kind. -/
theorem Rd.ne_sbf {α : Type} {f : α → Value} {w : World} {A : Option Addr} {n g : Nat} {xs : List α} {cs : Array Value} {T : TypeId} (h : Rd f w A n xs) (h0 : 0 < n) (hS : Sb w g cs T) (hC : ∀ (i : Nat) (x : α),cs[i]? ≠ some (f x)) : ∀ ad,A = some ad → some ad.block ≠ some g:=fun ad e e2 => by
 obtain ⟨g',o,e3,hx⟩:=h.2 h0
 have h1:=hx 0 (by rw [h.1];exact h0)
 rw [e] at e3
 cases e3
 have e4 : g' = g:=Option.some.inj e2
 subst e4
 rw [cell_of_row w g' (o + 0) cs T (0,0) hS] at h1
 exact hC _ _ h1
theorem slice_no {α : Type} (f : α → Value) (hf : ∀ x,f x ≠ .slice none 0 0) : ∀ (i : Nat) (x : α),(#[Value.slice none 0 0] : Array Value)[i]? ≠ some (f x):=fun i x h => by
 cases i with
 | zero => exact hf x (Option.some.inj h).symm
 | succ i => simp at h
theorem OpR.Ok.far0 {w w' : World} {o : OpR} {row : Option Nat} (h : o.Ok w) (hg : w.grownBy w' row) (hne : 0 < o.n → ∀ ad,o.A = some ad → some ad.block ≠ row) : o.Ok w':=⟨h.1.far0 hg hne,h.2⟩
theorem OpsL.far1 {w w' : World} {A : Option Addr} {m : Nat} {l : List OpR} {row : Option Nat} (h : OpsL w A m l) (hg : w.grownBy w' row) (hne : 0 < m → ∀ ad,A = some ad → some ad.block ≠ row) (hno : ∀ o ∈ l,0 < o.n → ∀ ad,o.A = some ad → some ad.block ≠ row) : OpsL w' A m l:=by
 by_cases hm : 0 < m
 ·refine ⟨h.1,fun o ho => (h.2.1 o ho).far0 hg (hno o ho),h.2.2.1,fun ad e j u hu => ?_⟩
  have h1:=h.2.2.2 ad e j u hu
  have e2 : (ad.add j).block = ad.block:=by unfold Addr.add;split <;> rfl
  rw [World.grownBy.cell_far hg _ (lt_of_cell h1) (by rw [e2];exact hne hm ad e)]
  exact h1
 ·have h1 : l = []:=List.eq_nil_of_length_eq_zero (by have:=h.1;omega)
  subst h1
  exact ⟨h.1,(fun o ho => by cases ho),h.2.2.1,fun ad e j u hu => by simp [opsV] at hu⟩
/-- What Decode has returned, stored in a box that was made before the call or after. -/
theorem feed_p3 {wn wb w3 : World} {g : Nat} {RA C : Option Addr} {Rn nc : Nat} {rs cs : List Int} (hnb : Bw wn wb) (hS : Sb wb g #[.slice none 0 0] 48) (hgr : wb.grownBy w3 (some g)) (hR : Rd (.int .u8) wn RA Rn rs) (hC : Rd (.int .i64) wn C nc cs) : Rd (.int .u8) w3 RA Rn rs ∧ Rd (.int .i64) w3 C nc cs :=
 ⟨(hR.up hnb).far0 hgr (fun h0 => (hR.up hnb).ne_sbf h0 hS (slice_no _ (fun x h => by cases h))),(hC.up hnb).far0 hgr (fun h0 => (hC.up hnb).ne_sbf h0 hS (slice_no _ (fun x h => by cases h)))⟩
/-- What All has returned, stored in a box that was made before the call or after. -/
theorem feed_p4 {wr wc wn wb w3 : World} {g8 : Nat} {md' pv' : Int} {A1 A' : Option Addr} {n' c' : Nat} {xs' : List Int} {B' : Option Addr} {m' : Nat} {l' : List OpR} (hrc : Bw wr wc) (hcn : Bw wc wn) (hnb : Bw wn wb) (hg8 : (wr.heap.size ≤ g8 ∧ g8 < wc.heap.size) ∨ wn.heap.size ≤ g8) (hgr : wb.grownBy w3 (some g8)) (hA1 : TyA wr A1)
  (hK : ScnOk wn md' pv' A' n' c' xs') (hL : OpsL wn B' m' l') (hN : NewR wc.heap.size A1 A' n' B' l') (hT1 : TyA wn A') :
  wr.heap.size ≤ g8 ∧ ScnOk w3 md' pv' A' n' c' xs' ∧ TyA w3 A' ∧ OpsL w3 B' m' l' ∧ Bw wr w3 ∧ (∀ ad,B' = some ad → wr.heap.size ≤ ad.block) ∧ ∀ o ∈ l',∀ ad,o.A = some ad → wr.heap.size ≤ ad.block:=by
 have s1:=hrc.size
 have s2:=hcn.size
 have hA : ∀ ad,A' = some ad → some ad.block ≠ some g8:=fun ad e e2 => by
  have h1:=hT1.lt ad e
  have e3:=Option.some.inj e2
  rcases hN.1 ad e with h|h
  ·omega
  ·have h2:=hA1.lt ad h.symm
   omega
 refine ⟨by omega,(hK.up hnb).far0 hgr (fun _ => hA),(hT1.up hnb).far hgr hA,(hL.up hnb).far1 hgr (fun hm ad e e2 => ?_) (fun o ho h0 ad e e2 => ?_),Bw.grown (Bw.trans (Bw.trans hrc hcn) hnb) hgr (fun k hk => by cases hk;omega),fun ad e => by have:=hN.2.1 ad e;omega,fun o ho ad e => by have:=hN.2.2 o ho ad e;omega⟩
 ·have h1:=hL.lt hm ad e
  have h2:=hN.2.1 ad e
  have e3:=Option.some.inj e2
  omega
 ·have h1:=(hL.2.1 o ho).1.lt h0 ad e
  have h2:=hN.2.2 o ho ad e
  have e3:=Option.some.inj e2
  omega
theorem Ls.far0 {w w' : World} {L : Option Addr} {m : Nat} {row : Option Nat} (h : Ls w L m) (hg : w.grownBy w' row) (hne : 0 < m → ∀ ad,L = some ad → some ad.block ≠ row) : Ls w' L m:=by
 by_cases h0 : 0 < m
 ·exact h.far hg (hne h0)
 ·have e : m = 0:=by omega
  subst e
  exact Ls.nil_ _ _
/-- What Apply has returned, its screen stored in a box that was made before the call or after. -/
theorem feed_p9 {wr wc wn wb w3 : World} {g8 : Nat} {s s' : Scr} {L : Option Addr} {m : Nat} (hrc : Bw wr wc) (hcn : Bw wc wn) (hnb : Bw wn wb) (hg8 : (wr.heap.size ≤ g8 ∧ g8 < wc.heap.size) ∨ wn.heap.size ≤ g8) (hgr : wb.grownBy w3 (some g8)) (hs : s.Ok wr) (hs' : s'.Ok wn) (hA : An wc s.A s'.A) (hL : Ls wn L m) (hN : ∀ ad,L = some ad → wc.heap.size ≤ ad.block) :
  s'.Ok w3 ∧ An wr s.A s'.A ∧ Ls w3 L m ∧ (∀ ad,L = some ad → wr.heap.size ≤ ad.block) ∧ Bw wr w3 ∧ wr.heap.size ≤ g8:=by
 have s1:=hrc.size
 have s2:=hcn.size
 have hlt:=hs.1.lt
 have hlt':=hs'.1.lt
 refine ⟨(hs'.up hnb).far hgr (fun ad e e2 => ?_),hA.more (by omega),(hL.up hnb).far0 hgr (fun h0 ad e e2 => ?_),fun ad e => by have:=hN ad e;omega,Bw.grown (Bw.trans (Bw.trans hrc hcn) hnb) hgr (fun k hk => by cases hk;omega),by omega⟩
 ·have e3:=Option.some.inj e2
  have h1:=hlt' ad e
  rcases hA with h|h
  ·have h2:=hlt ad (by rw [← h];exact e)
   omega
  ·have h2:=h ad e
   omega
 ·have e3:=Option.some.inj e2
  have h1:=hL.lt h0 ad e
  have h2:=hN ad e
  omega
/-- A list's place: that of A0, or in new memory. -/
def Pl (k : Nat) (A0 A : Option Addr) : Prop:=A = A0 ∨ ∀ ad,A = some ad → k ≤ ad.block
theorem Pl.an {w : World} {A0 A : Option Addr} (h : Pl w.heap.size A0 A) : An w A0 A:=h
theorem Pl.more {k k' : Nat} {A0 A : Option Addr} (h : Pl k A0 A) (hk : k' ≤ k) : Pl k' A0 A:=by
 rcases h with h|h
 ·exact .inl h
 ·exact .inr (fun ad e => Nat.le_trans hk (h ad e))
theorem Trm.Ok.more {w : World} {t : Trm} {B B' : Int} (h : t.Ok w B) (hB : B ≤ B') : t.Ok w B':=by
 obtain ⟨c1,c2,c3,c4,c5,c6,c7,c8,c9,c10,c11⟩:=h
 exact ⟨c1,c2,c3,c4,c5,c6,c7,c8,c9,c10,Int.le_trans c11 hB⟩
/-- The history's place: as it was, or in new memory. -/
def PlH (k : Nat) (t tr : Trm) : Prop:=(tr.HA = t.HA ∧ tr.Hn = t.Hn) ∨ ∀ ad,tr.HA = some ad → k ≤ ad.block
theorem PlH.more {k k' : Nat} {t tr : Trm} (h : PlH k t tr) (hk : k' ≤ k) : PlH k' t tr:=by
 rcases h with h|h
 ·exact .inl h
 ·exact .inr (fun ad e => Nat.le_trans hk (h ad e))
/-- What Feed returns. -/
def FeedP (w : World) (t : Trm) (B : Int) (e : Ending) (w' : World) : Prop :=
 ∃ t' : Trm,e = .returned (.agg t'.vals.toArray) ∧ t'.Ok w' B ∧ t'.s.Rn = t.s.Rn ∧ t'.s.Cn = t.s.Cn ∧ t'.keep = t.keep ∧ Pl w.heap.size t.s.A t'.s.A ∧ PlH w.heap.size t t' ∧ Bw w w'
/-- The loop's relation: the terminal in its box after some operations. -/
def FeedR (w W : World) (t t1 : Trm) (B : Int) (O : Option Addr) (m : Nat) (l : List OpR) (k : Nat) (wr : World) : Prop :=
 ∃ tr : Trm,Sb wr w.heap.size tr.vals.toArray 53 ∧ tr.Ok wr (B + 231 * k) ∧ (tr.s.Rn = t.s.Rn ∧ tr.s.Cn = t.s.Cn ∧ tr.keep = t.keep) ∧ Pl W.heap.size t.s.A tr.s.A ∧ PlH W.heap.size t tr ∧ OpsL wr O m l ∧ (∃ old,Sb wr (w.heap.size + 1) old 53 ∧ old.size = 26 ∧ ∀ (i : Nat) (x : Int),old[i]? ≠ some (.int .u8 x)) ∧ Bw w wr ∧ W.heap.size ≤ wr.heap.size
theorem grown_drew {w w' : World} {r : Option Nat} (h : w.grownBy w' r) : w.grownBy w'.drew r:=⟨h.os,h.tape,h.output,h.size,h.block⟩
theorem infoDec : (Tryz.prog.info? 48).map (·.size) = some 1:=by kernel_rfl
theorem one_dec {α : Type} {f : α → Value} {w : World} (v : Value) {xs : List α} (h : Sl f w v xs) : (#[v] : Array Value).all (·.oneCell') = true:=by
 obtain ⟨A,c,rfl,_⟩:=h
 exact all_oneCell_toArray (cs:=[_]) (fun u hu => by simp only [List.mem_singleton] at hu;subst hu;rfl)
theorem wpList_store_dec {α : Type} {f : α → Value} {xs : List α} {wq : World} {ops : Array Oper} {rest : List Oper} {o : Oper} {a : Act} {w : World} {Q : Exit → Act → World → Prop} (v : Value) (hv : Sl f wq v xs) (g : Nat) (x y : Operand) (ho : o.op = .store 48 x y) (hgd : o.guard = none)
  (hx : a.eval x = .pointer (some ⟨g,0,none⟩)) (hy : a.eval y = .agg #[v]) (hg : ∃ old,Sb w g old 48 ∧ old.size = 1)
  (h : ∀ w',Sb w' g #[v] 48 → w.grownBy w' (some g) → wpList Tryz.prog ops Q rest (a.put o.dst undef) w') : wpList Tryz.prog ops Q (o :: rest) a w :=
 wpList_store_cs 48 #[v] g x y infoDec (one_dec v hv) ho hgd hx hy hg h
theorem rfeed_ok (t : Trm) (B : Int) (D : Option Addr) (nb cb : Nat) (bs : List Int) (w : World) (h : t.Ok w B) (hB : 0 ≤ B ∧ B ≤ 1000000000) (hD : Rd (.int .u8) w D nb bs) (hbc : nb ≤ cb) (hcb : cb ≤ 9223372036854775807) (hnb : nb ≤ 100000) (hbs : ∀ x ∈ bs,0 ≤ x ∧ x ≤ 255) : Calls Tryz.prog 22 #[.agg t.vals.toArray,.slice D nb cb] w (FeedP w t (B + 231 * 200000)):=by
 have HOk:=Lib.hid h
 have HD:=Lib.hid hD
 have HBS:=Lib.hid hbs
 obtain ⟨hB0,hB1⟩:=hB
 obtain ⟨hRc,hRc2,hR4,hV⟩ : t.Rn ≤ t.Rc ∧ t.Rc ≤ 9223372036854775807 ∧ t.Rn ≤ 4 ∧ validB t.rs = true:=⟨h.2.1.2.1,h.2.1.2.2.1,h.2.1.2.2.2.2.1,h.2.1.2.2.2.1⟩
 have HV:=Lib.hid hV
 have HR255:=Lib.hid h.2.1.2.2.2.2.2
 have HsA:=Lib.hid h.1.1.lt
 have HHA:=Lib.hid (fun h0 => h.2.2.2.2.2.1.lt h0)
 clear h hD hbs hV
 go_enter Tryz.func22,Tryz.ntmps22
 go_upto_region 1 with (fail)
 generalize hw1 : (w.alloc (.cells t.vals.toArray 53)).alloc _ = w1
 obtain ⟨hb0,hb1,hbw,hz⟩:=sb2 hw1
 have HB0a:=Lib.hid hb0
 have HB1a:=Lib.hid (show ∃ old,Sb w1 (w.heap.size + 1) old 53 ∧ old.size = 26 ∧ ∀ (i : Nat) (x : Int),old[i]? ≠ some (.int .u8 x) from ⟨_,hb1,rfl,fun i x h => by have:=Array.mem_of_getElem? h;simp at this⟩)
 have hz1 : w.heap.size + 1 < w1.heap.size:=by omega
 clear hw1 hb0 hb1 hz
 go_upto_region 3 with (first
  | ((with_reducible refine wpList_load_tr t w.heap.size (.tmp 2) rfl rfl ?_ ?_ ?_);(focus rfl);(focus (exact HB0a.out)))
  | (go_at_call 45;refine (rvalid19_ok t B _ (HOk.out.up (show Bw w _ from BWX))).mono ?_;rintro ee wv ⟨rfl,hbv⟩;have HBV:=Lib.hid hbv;clear hbv)
  | fail)
 have hbv:=HBV.out
 have hbwv : Bw w wv:=Bw.trans hbw hbv
 have HB0:=Lib.hid (HB0a.out.up hbv)
 have HB1:=Lib.hid (Exists.elim HB1a.out (fun old h => (⟨old,h.1.up hbv,h.2⟩ : ∃ old,Sb wv (w.heap.size + 1) old 53 ∧ old.size = 26 ∧ ∀ (i : Nat) (x : Int),old[i]? ≠ some (.int .u8 x))))
 have hz2 : w.heap.size + 1 < wv.heap.size:=by have:=hbv.size;omega
 have HOk1:=Lib.hid (HOk.out.up hbwv)
 have HD1:=Lib.hid (HD.out.up hbwv)
 have y19:=HB0.out.cell 19 (v:=.slice t.RA t.Rn t.Rc) rfl
 clear HBV HB0a HB1a hz1 hbw hbv HOk HD
 go_upto_region 4 with (first
  | (go_at_call 48;refine (refdecode_any t.RA D t.Rn t.Rc nb cb t.rs bs _ (by exact HOk1.out.2.1.1.up BWX) hRc hRc2 (by exact HD1.out.up BWX) hbc hcb (by omega) HBS.out HR255.out (by omega)).mono ?_;rintro ee wn ⟨vr,vl,rfl,hvr,hvl,hbn⟩;have hzn:=hbn.size;have HVR:=Lib.hid hvr;have HVL:=Lib.hid hvl;have HBN:=Lib.hid hbn;clear hvr hvl hbn y19)
  | ((with_reducible refine wpList_store_dec vr HVR.out wn.heap.size (.tmp 5) (.tmp 21) rfl rfl ?_ ?_ ?_ ?_);(focus rfl);(focus rfl);(focus (exact ⟨_,heap_at rfl,rfl⟩));intro w3 hS3 hg3;have HS3:=Lib.hid hS3;have HG3:=Lib.hid hg3;clear hS3 hg3)
  | fail)
 obtain ⟨RA,Rc,rfl,r1,r2,r3⟩:=HVR.out
 obtain ⟨C,cc,rfl,q1,q2,q3⟩:=HVL.out
 have hp3:=feed_p3 (show Bw wn (wn.alloc (.cells #[.slice none 0 0] 48)) from BWX) (heap_at rfl) HG3.out r3 q3
 have hdl:=dec_len_t bs (restB t.rs)
 have hvd : validB (dec (restB t.rs) bs).1 = true:=dec_valid_t bs _ (by unfold restB;rw [if_pos HV.out];exact HV.out)
 have hbl:=HD1.out.1
 have h255 : ∀ x ∈ (dec (restB t.rs) bs).1,0 ≤ x ∧ x ≤ 255:=fun x hx => by
  rcases dec_mem_t bs (restB t.rs) x hx with h|h
  ·have h2 : x ∈ t.rs:=by
    unfold restB at h
    rw [if_pos HV.out] at h
    exact h
   exact HR255.out x h2
  ·exact HBS.out x h
 obtain ⟨rs,hrs⟩ : ∃ rs,(dec (restB t.rs) bs).1 = rs:=⟨_,rfl⟩
 obtain ⟨cs,hcs⟩ : ∃ cs,(dec (restB t.rs) bs).2 = cs:=⟨_,rfl⟩
 rw [hrs] at r1 r3 hvd h255 hp3 HS3
 rw [hcs] at q1 q3 hp3 hdl
 simp only [hrs,hcs]
 obtain ⟨Rn,hRn⟩ : ∃ Rn,rs.length = Rn:=⟨_,rfl⟩
 obtain ⟨nc,hnc⟩ : ∃ nc,cs.length = nc:=⟨_,rfl⟩
 have hR4':=validB_len hvd
 rw [hRn] at r1 r3 hp3 HS3 hR4'
 rw [hnc] at q1 q3 hp3 hdl
 simp only [hRn,hnc]
 have hbv3 : Bw wv w3:=Bw.grown (Bw.trans HBN.out (show Bw wn (wn.alloc (.cells #[.slice none 0 0] 48)) from BWX)) HG3.out (fun k hk => by cases hk;omega)
 have HRd:=Lib.hid hp3.1
 have HCd:=Lib.hid hp3.2
 have HVD:=Lib.hid hvd
 have H255:=Lib.hid h255
 have hnc2 : nc ≤ 200000:=by omega
 obtain ⟨g5,hg5⟩ : ∃ g5,wn.heap.size = g5:=⟨_,rfl⟩
 rw [hg5] at HS3
 simp only [hg5]
 have hg51 : wv.heap.size ≤ g5:=by omega
 have hz3 : w.heap.size + 1 < w3.heap.size:=by have:=hbv3.size;omega
 have HB03:=Lib.hid (HB0.out.up hbv3)
 have HB13:=Lib.hid (Exists.elim HB1.out (fun old h => (⟨old,h.1.up hbv3,h.2⟩ : ∃ old,Sb w3 (w.heap.size + 1) old 53 ∧ old.size = 26 ∧ ∀ (i : Nat) (x : Int),old[i]? ≠ some (.int .u8 x))))
 have HOk3:=Lib.hid (HOk1.out.up hbv3)
 have hbw3 : Bw w w3:=Bw.trans hbwv hbv3
 have H5:=Lib.hid HS3.out
 have hg52:=HS3.out.lt
 clear HVR HVL hp3 HG3 HBN hbv3 r3 q3 hrs hcs hvd h255 HB0 HB1 HOk1 HD1 hg5 HS3 hdl hbl hzn
 have y20:=HB03.out.cell 20 (v:=.int .i64 t.md) rfl
 have y21:=HB03.out.cell 21 (v:=.int .i64 t.pv) rfl
 have y22:=HB03.out.cell 22 (v:=.slice t.A t.n t.c) rfl
 go_upto_region 5 with (first
  | (go_at_call 49;refine (rall_ok t.md t.pv t.A t.n t.c t.xs C nc cc cs _ (HOk3.out.2.2.1.up BWX) (HOk3.out.2.2.2.1.up BWX) (by exact HCd.out.up BWX) (by omega) (by omega) (by omega)).mono ?_;rintro ee wm ⟨md',pv',A',n',c',xs',O,m,c2,l,rfl,hK,hL,hm,hmc,hc2,hbm,hN,hT,hsp⟩;have HSP:=Lib.hid hsp;have hzm:=hbm.size;have HK:=Lib.hid hK;have HL:=Lib.hid hL;have HN:=Lib.hid hN;have HT:=Lib.hid hT;have HBM:=Lib.hid hbm;clear hK hL hN hT hbm hsp y20 y21 y22)
  | ((with_reducible refine wpList_store_scn md' pv' A' n' c' wm.heap.size (.tmp 7) (.tmp 28) rfl rfl ?_ ?_ ?_ ?_);(focus rfl);(focus rfl);(focus (exact ⟨_,heap_at rfl,rfl⟩));intro w4 hS4 hg4;have HS4:=Lib.hid hS4;have HG4:=Lib.hid hg4;clear hS4 hg4)
  | fail)
 obtain ⟨p1,p2,p3,p4,p5,p6,p7⟩:=feed_p4 (wr:=w3) (wc:=w3) (wn:=wm) (Bw.refl _) HBM.out (show Bw wm (wm.alloc (.cells #[.int .i64 0,.int .i64 0,.slice none 0 0] 50)) from BWX) (.inr (Nat.le_refl _)) HG4.out HOk3.out.2.2.2.1 HK.out HL.out HN.out HT.out
 obtain ⟨g7,hg7⟩ : ∃ g7,wm.heap.size = g7:=⟨_,rfl⟩
 rw [hg7] at HS4 p1
 simp only [hg7]
 have hg71 : w3.heap.size ≤ g7:=p1
 have HB04:=Lib.hid (HB03.out.up p5)
 have HB14:=Lib.hid (Exists.elim HB13.out (fun old h => (⟨old,h.1.up p5,h.2⟩ : ∃ old,Sb w4 (w.heap.size + 1) old 53 ∧ old.size = 26 ∧ ∀ (i : Nat) (x : Int),old[i]? ≠ some (.int .u8 x))))
 have hz4 : w.heap.size + 1 < w4.heap.size:=by have:=p5.size;omega
 have hz04 : w.heap.size < w4.heap.size:=by omega
 have hg5w : w.heap.size < g5:=by omega
 have hg7w : w.heap.size < g7:=by omega
 have hbw4 : Bw w w4:=Bw.trans hbw3 p5
 have HP2:=Lib.hid p2
 have HP3:=Lib.hid p3
 have HP4:=Lib.hid p4
 have HP6:=Lib.hid p6
 have HP7:=Lib.hid p7
 have hw34:=p5.size
 have hg54 : g5 < w4.heap.size:=by omega
 have hg74:=HS4.out.lt
 have x50:=(H5.out.up p5).cell 0 (v:=.slice RA Rn Rc) rfl
 have x70:=HS4.out.cell 0 (v:=.int .i64 md') rfl
 have x71:=HS4.out.cell 1 (v:=.int .i64 pv') rfl
 have x72:=HS4.out.cell 2 (v:=.slice A' n' c') rfl
 have y19:=HB04.out.cell 19 (v:=.slice t.RA t.Rn t.Rc) rfl
 have y20:=HB04.out.cell 20 (v:=.int .i64 t.md) rfl
 have y21:=HB04.out.cell 21 (v:=.int .i64 t.pv) rfl
 have y22:=HB04.out.cell 22 (v:=.slice t.A t.n t.c) rfl
 have f19:=HB04.out.free 19
 have f20:=HB04.out.free 20
 have f21:=HB04.out.free 21
 have f22:=HB04.out.free 22
 have HOk4:=Lib.hid (HOk3.out.up p5)
 have HRd4:=Lib.hid (HRd.out.up p5)
 clear p2 p3 p4 p5 p6 p7 HK HL HN HT HBM HS4 HG4 HB03 HB13 HOk3 H5 HRd hbw3 HCd
 go_cut [] (fun w' => Sb w' w.heap.size ({ t with RA:=RA,Rn:=Rn,Rc:=Rc,rs:=rs,md:=md',pv:=pv',A:=A',n:=n',c:=c',xs:=xs' } : Trm).vals.toArray 53 ∧ w4.grownBy w' (some w.heap.size))
 case first =>
  refine wp_region_held_drew (S:=(fun w' => w'.cell? ⟨g5,0,none⟩ = some (.slice RA Rn Rc) ∧ w'.cell? ⟨g7,0,none⟩ = some (.int .i64 md') ∧ w'.cell? ⟨g7,1,none⟩ = some (.int .i64 pv') ∧ w'.cell? ⟨g7,2,none⟩ = some (.slice A' n' c'))) (by kernel_rfl) ?_ (fun hHeld => ?_)
  ·(try dsimp only);(first|assumption|exact ⟨x50,x70,x71,x72⟩|exact ⟨CELAX,CELAX,CELAX,CELAX⟩)
  refine tkQ 0 ?_
  refine tkQ 1 ?_
  (try simp only [Act.put,zP1,zP2,zP3,zP4,zP5,zP6])
  refine tkQ 2 ?_
  (try simp only [Act.put,zP1,zP2,zP3,zP4,zP5,zP6])
  refine arO 3 (fun K hK => ?_)
  go_simp
  refine hK.out _ _ ?_ (fun hHeld => ?_)
  ·(try dsimp only);(first|assumption|exact ⟨x50,x70,x71,x72⟩|exact ⟨CELAX,CELAX,CELAX,CELAX⟩)
  clear hK K
  (try simp only [Act.put,zP1,zP2,zP3,zP4,zP5,zP6])
  refine tkQ 4 ?_
  (try simp only [Act.put,zP1,zP2,zP3,zP4,zP5,zP6])
  refine arO 5 (fun K hK => ?_)
  go_simp
  refine hK.out _ _ ?_ (fun hHeld => ?_)
  ·(try dsimp only);(first|assumption|exact ⟨x50,x70,x71,x72⟩|exact ⟨CELAX,CELAX,CELAX,CELAX⟩)
  clear hK K
  (try simp only [Act.put,zP1,zP2,zP3,zP4,zP5,zP6])
  refine wpAnyH_done (by kernel_rfl) ?_ _
  go_wp2
  go_meet
  case rel =>
   refine ⟨?_,?_⟩
   ·first|exact ((((HB04.out.set 19 _ rfl).set 20 _ rfl).set 21 _ rfl).set 22 _ rfl).up BWX|exact (((((HB04.out.up (Bw.drew (Bw.refl _))).set 19 _ rfl).set 20 _ rfl).set 21 _ rfl).set 22 _ rfl)
   ·first|exact grown_drew (grown_set (grown_set (grown_set (grown_set (grown_refl w4 _) 19 _) 20 _) 21 _) 22 _)|exact grown_set (grown_set (grown_set (grown_set (grown_drew (grown_refl w4 _)) 19 _) 20 _) 21 _) 22 _
 case rest =>
 obtain ⟨hTB,hgc⟩:=hcut
 obtain ⟨W,rfl⟩ : ∃ W,W = wc:=⟨_,rfl⟩
 have hTA:=HP3.out.ne HB04.out (show 53 ≠ 3 by decide)
 have HOkc:=Lib.hid (show ({ t with RA:=RA,Rn:=Rn,Rc:=Rc,rs:=rs,md:=md',pv:=pv',A:=A',n:=n',c:=c',xs:=xs' } : Trm).Ok W (B + 231 * (0 : Nat)) from
  ⟨HOk4.out.1.far hgc (fun ad e e2 => by have:=HsA.out ad e;have e3:=Option.some.inj e2;omega),⟨HRd4.out.far0 hgc (fun h0 => HRd4.out.ne_sbf h0 HB04.out t.no8),r1,r2,HVD.out,hR4',H255.out⟩,HP2.out.far0 hgc (fun _ => hTA),HP3.out.far hgc hTA,HOk4.out.2.2.2.2.1,HOk4.out.2.2.2.2.2.1.far0 hgc (fun h0 ad e e2 => by have:=HHA.out h0 ad e;have e3:=Option.some.inj e2;omega),HOk4.out.2.2.2.2.2.2.1,HOk4.out.2.2.2.2.2.2.2.1,HOk4.out.2.2.2.2.2.2.2.2.1,HOk4.out.2.2.2.2.2.2.2.2.2.1,by have:=HOk4.out.2.2.2.2.2.2.2.2.2.2;simpa using this⟩)
 have HOc:=Lib.hid (HP4.out.far1 hgc (fun _ ad e e2 => by have:=HP6.out ad e;have e3:=Option.some.inj e2;omega) (fun o ho _ ad e e2 => by have:=HP7.out o ho ad e;have e3:=Option.some.inj e2;omega))
 have HTB:=Lib.hid hTB
 have HB1c:=Lib.hid (Exists.elim HB14.out (fun old h => (⟨old,h.1.far hgc (by intro e;have:=Option.some.inj e;omega),h.2⟩ : ∃ old,Sb W (w.heap.size + 1) old 53 ∧ old.size = 26 ∧ ∀ (i : Nat) (x : Int),old[i]? ≠ some (.int .u8 x))))
 have hbwc : Bw w W:=Bw.grown hbw4 hgc (fun k hk => by cases hk;omega)
 have hzc : w.heap.size + 1 < W.heap.size:=by have:=hgc.size;omega
 have HP6c:=Lib.hid (show ∀ ad,O = some ad → w.heap.size + 1 < ad.block from fun ad e => by have:=HP6.out ad e;omega)
 have HP7c:=Lib.hid (show ∀ o ∈ l,∀ ad,o.A = some ad → w.heap.size + 1 < ad.block from fun o ho ad e => by have:=HP7.out o ho ad e;omega)
 have hHsz:=HOk4.out.2.2.2.2.2.2.2.2.1
 clear hTB hgc hTA x50 x70 x71 x72 y19 y20 y21 y22 f19 f20 f21 f22 HB04 HB14 HOk4 HRd4 HP2 HP3 HP4 HP6 HP7 hbw4
 go_wp2_with fail
 go_loopw [9] (fun i wr => ∃ k : Nat,i = .int .i64 k ∧ k ≤ m ∧ FeedR w W t t B O m l k wr) (fun i _ => m - (intOf i).toNat)
 case atStart => exact ⟨0,rfl,by omega,_,HTB.out,HOkc.out,⟨rfl,rfl,rfl⟩,.inl rfl,.inl ⟨rfl,rfl⟩,HOc.out,HB1c.out,hbwc,Nat.le_refl _⟩
 case round =>
  rename_i wr
  obtain ⟨k,rfl,hk,tr,hT,hOk,hsz,hpA,hpH,hO,hB,hbr,hzr⟩:=hrel
  obtain ⟨hsz1,hsz2,hsz3⟩:=hsz
  have HT:=Lib.hid hT
  have HOk:=Lib.hid hOk
  have HPA:=Lib.hid hpA
  have HPH:=Lib.hid hpH
  have HO:=Lib.hid hO
  have HB:=Lib.hid hB
  have HSZ:=Lib.hid (And.intro hsz1 (And.intro hsz2 hsz3))
  have hz5 : w.heap.size + 1 < wr.heap.size:=by omega
  have hz05 : w.heap.size < wr.heap.size:=by omega
  have HtA:=Lib.hid (show ∀ ad,tr.s.A = some ad → ad.block ≠ w.heap.size ∧ ad.block ≠ w.heap.size + 1 from fun ad e => by
   rcases hpA with h|h
   ·have:=HsA.out ad (by rw [← h];exact e);omega
   ·have:=h ad e;omega)
  have HtH:=Lib.hid (show 0 < tr.Hn → ∀ ad,tr.HA = some ad → ad.block ≠ w.heap.size ∧ ad.block ≠ w.heap.size + 1 from fun h0 ad e => by
   rcases hpH with h|h
   ·have:=HHA.out (by rw [← h.2];exact h0) ad (by rw [← h.1];exact e);omega
   ·have:=h ad e;omega)
  clear hT hOk hpA hpH hO hB hsz1 hsz2 hsz3
  by_cases hlt : k < m
  ·have hkl : k < l.length:=by rw [HO.out.1];exact hlt
   obtain ⟨go,oo,sp,hOe⟩ : ∃ go oo sp,O = some ⟨go,oo,sp⟩:=by
    rcases hO0 : O with _|⟨a,b,c⟩
    ·exact absurd (HO.out.2.2.1 hO0) (by omega)
    ·exact ⟨a,b,c,rfl⟩
   subst hOe
   obtain rfl : sp = none:=HSP.out _ rfl
   have hcl:=fun j (hj : j < 4) u (hu : (l[k]).vals[j]? = some u) => HO.out.2.2.2 _ rfl (k * 4 + j) u ((opsV_at l k hkl j hj).trans hu)
   simp only [Addr.add_mid] at hcl
   have hopk:=HO.out.2.1 _ (List.getElem_mem hkl)
   obtain ⟨⟨kd,f,pvo,PA,pn,pc,pxs⟩,hop⟩ : ∃ o,l[k] = o:=⟨_,rfl⟩
   rw [hop] at hcl hopk
   have o0:=hcl 0 (by omega) (.int .i64 kd) rfl
   have o1:=hcl 1 (by omega) (.int .i64 f) rfl
   have o2:=hcl 2 (by omega) (.int .i64 pvo) rfl
   have o3:=hcl 3 (by omega) (.slice PA pn pc) rfl
   rw [Nat.add_zero] at o0
   rw [← Nat.add_assoc] at o1 o2 o3
   have HOpk:=Lib.hid hopk
   clear hcl hop hopk
   go_upto_region 9 with (fail)
   go_cut [10,11] from 34 to 57 (fun v10 v11 w' => ∃ (g10 : Nat) (s' : Scr) (L : Option Addr) (mL cL : Nat),v10 = .pointer (some ⟨g10,0,none⟩) ∧ v11 = .slice L mL cL ∧ wr.heap.size ≤ g10 ∧ Sb w' g10 s'.vals.toArray 46 ∧ s'.Ok w' ∧ s'.Rn = tr.s.Rn ∧ s'.Cn = tr.s.Cn ∧ An wr tr.s.A s'.A ∧ Ls w' L mL ∧ (∀ ad,L = some ad → wr.heap.size ≤ ad.block) ∧ mL ≤ 31 ∧ mL ≤ cL ∧ cL ≤ 9223372036854775807 ∧ Bw wr w')
   case first =>
    have hgo:=lt_of_cell o0
    dsimp only at hgo
    have hY:=(show ∀ w',Bw wr w' → (w'.cell? ⟨go,oo + k * 4,none⟩ = some (.int .i64 kd) ∧ w'.cell? ⟨go,oo + k * 4 + 1,none⟩ = some (.int .i64 f) ∧ w'.cell? ⟨go,oo + k * 4 + 2,none⟩ = some (.int .i64 pvo) ∧ w'.cell? ⟨go,oo + k * 4 + 3,none⟩ = some (.slice PA pn pc)) from fun w' hb => ⟨cell_up o0 hb,cell_up o1 hb,cell_up o2 hb,cell_up o3 hb⟩)
    have hYg:=(show ∀ w' w'' g,Bw wr w' → wr.heap.size ≤ g → w'.grownBy w'' (some g) → (w''.cell? ⟨go,oo + k * 4,none⟩ = some (.int .i64 kd) ∧ w''.cell? ⟨go,oo + k * 4 + 1,none⟩ = some (.int .i64 f) ∧ w''.cell? ⟨go,oo + k * 4 + 2,none⟩ = some (.int .i64 pvo) ∧ w''.cell? ⟨go,oo + k * 4 + 3,none⟩ = some (.slice PA pn pc)) from fun w' w'' g hb hg hgr => ⟨cell_far (cell_up o0 hb) hgr (by intro e;have:=Option.some.inj e;omega),cell_far (cell_up o1 hb) hgr (by intro e;have:=Option.some.inj e;omega),cell_far (cell_up o2 hb) hgr (by intro e;have:=Option.some.inj e;omega),cell_far (cell_up o3 hb) hgr (by intro e;have:=Option.some.inj e;omega)⟩)
    have HY:=Lib.hid hY
    have HYg:=Lib.hid hYg
    clear hY hYg o0 o1 o2 o3
    refine wp_region_held_drew (S:=(fun w' => w'.cell? ⟨go,oo + k * 4,none⟩ = some (.int .i64 kd) ∧ w'.cell? ⟨go,oo + k * 4 + 1,none⟩ = some (.int .i64 f) ∧ w'.cell? ⟨go,oo + k * 4 + 2,none⟩ = some (.int .i64 pvo) ∧ w'.cell? ⟨go,oo + k * 4 + 3,none⟩ = some (.slice PA pn pc))) (by kernel_rfl) ?_ (fun hHeld => ?_)
    ·(try dsimp only);(first|(refine HY.out _ ?_;(repeat (first|with_reducible (first|assumption|exact Bw.refl _|refine Bw.alloc ?_ _|refine Bw.more ?_ _ _|refine Bw.drew ?_|refine Bw.drewN ?_ _)|((with_reducible refine Bw.set2 ?_ ?_ _);(focus exact SZX))|with_reducible refine Bw.trans ?_ (by assumption)));done)|exact hHeld|(exact HYg.out _ _ _ BWX (by simp only [szA,szS,szD,szN] at *;omega) HG3.out))
    refine tkQ 0 ?_
    (try simp only [Act.put,zP1,zP2,zP3,zP4,zP5,zP6])
    refine tkQ 2 ?_
    refine tkQ 3 ?_
    refine tkQ 4 ?_
    (try simp only [Act.put,zP1,zP2,zP3,zP4,zP5,zP6])
    refine tkQ 5 ?_
    (try simp only [Act.put,zP1,zP2,zP3,zP4,zP5,zP6])
    refine wpAnyH_ready (rs:=[1,10]) (by kernel_rfl) (by simp) ?_
    refine AllReadyH.cons rfl (fun K hK => ?_) ?_
    ·(refine (if_pos (by kernel_rfl)).mpr ?_);((with_reducible refine wp_load_ts tr w.heap.size (.tmp 41) ?_ ?_ ?_ ?_);(focus rfl);(focus rfl);(focus (exact HT.out.up BWX)))
     refine hK.out _ _ ?_ (fun hHeld => ?_)
     ·(try dsimp only);(first|(refine HY.out _ ?_;(repeat (first|with_reducible (first|assumption|exact Bw.refl _|refine Bw.alloc ?_ _|refine Bw.more ?_ _ _|refine Bw.drew ?_|refine Bw.drewN ?_ _)|((with_reducible refine Bw.set2 ?_ ?_ _);(focus exact SZX))|with_reducible refine Bw.trans ?_ (by assumption)));done)|exact hHeld|(exact HYg.out _ _ _ BWX (by simp only [szA,szS,szD,szN] at *;omega) HG3.out))
     clear hK K
     (try simp only [Act.put,zP1,zP2,zP3,zP4,zP5,zP6])
     refine wpAnyH_ready (rs:=[6,10]) (by kernel_rfl) (by simp) ?_
     refine AllReadyH.cons rfl (fun K hK => ?_) ?_
     ·go_simp
      refine (rsapply_ok tr.s kd f pvo PA pn pc pxs _ (HOk.out.1.up BWX) (by exact HOpk.out.1.up BWX) HOpk.out.2.1 HOpk.out.2.2.1 HOpk.out.2.2.2).mono ?_;rintro ee wn ⟨s',L,mL,cL,e1,e2,rfl,hOk',hAn,hLs,hLn,hm1,hm2,hm3,hbn⟩;have hzn:=hbn.size;have HOk':=Lib.hid hOk';have HAn:=Lib.hid hAn;have HLs:=Lib.hid hLs;have HLn:=Lib.hid hLn;have HE:=Lib.hid (And.intro e1 e2);clear hOk' hAn hLs hLn e1 e2;go_wp2_with fail
      refine hK.out _ _ ?_ (fun hHeld => ?_)
      ·(try dsimp only);(first|(refine HY.out _ ?_;(repeat (first|with_reducible (first|assumption|exact Bw.refl _|refine Bw.alloc ?_ _|refine Bw.more ?_ _ _|refine Bw.drew ?_|refine Bw.drewN ?_ _)|((with_reducible refine Bw.set2 ?_ ?_ _);(focus exact SZX))|with_reducible refine Bw.trans ?_ (by assumption)));done)|exact hHeld|(exact HYg.out _ _ _ BWX (by simp only [szA,szS,szD,szN] at *;omega) HG3.out))
      clear hK K
      (try simp only [Act.put,zP1,zP2,zP3,zP4,zP5,zP6])
      refine tkQ 7 ?_
      refine tkQ 8 ?_
      (try simp only [Act.put,zP1,zP2,zP3,zP4,zP5,zP6])
      refine tkQ 9 ?_
      (try simp only [Act.put,zP1,zP2,zP3,zP4,zP5,zP6])
      refine arO 10 (fun K hK => ?_)
      go_simp;(generalize hw8 : World.alloc _ (.cells _ 46) = w8);obtain ⟨hS8,hb8,hz8⟩:=sb1 hw8;have HS8:=Lib.hid hS8;clear hw8 hS8
      refine hK.out _ _ ?_ (fun hHeld => ?_)
      ·(try dsimp only);(first|(refine HY.out _ ?_;(repeat (first|with_reducible (first|assumption|exact Bw.refl _|refine Bw.alloc ?_ _|refine Bw.more ?_ _ _|refine Bw.drew ?_|refine Bw.drewN ?_ _)|((with_reducible refine Bw.set2 ?_ ?_ _);(focus exact SZX))|with_reducible refine Bw.trans ?_ (by assumption)));done)|exact hHeld|(exact HYg.out _ _ _ BWX (by simp only [szA,szS,szD,szN] at *;omega) HG3.out))
      clear hK K
      (try simp only [Act.put,zP1,zP2,zP3,zP4,zP5,zP6])
      refine arO 11 (fun K hK => ?_)
      (refine (if_pos (by kernel_rfl)).mpr ?_);(first|((with_reducible refine wp_store_sc s' wn.heap.size (.tmp 10) (.tmp 48) ?_ ?_ ?_ ?_ ?_);(focus rfl);(focus rfl);(focus rfl);(focus (exact ⟨_,HS8.out.up BWX,rfl⟩)))|((with_reducible refine wp_store_sc s' wr.heap.size (.tmp 10) (.tmp 48) ?_ ?_ ?_ ?_ ?_);(focus rfl);(focus rfl);(focus rfl);(focus (exact ⟨_,HS8.out.up BWX,rfl⟩))));intro w3 hS3 hg3;have HS3:=Lib.hid hS3;have HG3:=Lib.hid hg3;clear hS3 hg3
      refine hK.out _ _ ?_ (fun hHeld => ?_)
      ·(try dsimp only);(first|(refine HY.out _ ?_;(repeat (first|with_reducible (first|assumption|exact Bw.refl _|refine Bw.alloc ?_ _|refine Bw.more ?_ _ _|refine Bw.drew ?_|refine Bw.drewN ?_ _)|((with_reducible refine Bw.set2 ?_ ?_ _);(focus exact SZX))|with_reducible refine Bw.trans ?_ (by assumption)));done)|exact hHeld|(exact HYg.out _ _ _ BWX (by simp only [szA,szS,szD,szN] at *;omega) HG3.out))
      clear hK K
      (try simp only [Act.put,zP1,zP2,zP3,zP4,zP5,zP6])
      refine arO 12 (fun K hK => ?_)
      go_simp
      refine hK.out _ _ ?_ (fun hHeld => ?_)
      ·(try dsimp only);(first|(refine HY.out _ ?_;(repeat (first|with_reducible (first|assumption|exact Bw.refl _|refine Bw.alloc ?_ _|refine Bw.more ?_ _ _|refine Bw.drew ?_|refine Bw.drewN ?_ _)|((with_reducible refine Bw.set2 ?_ ?_ _);(focus exact SZX))|with_reducible refine Bw.trans ?_ (by assumption)));done)|exact hHeld|(exact HYg.out _ _ _ BWX (by simp only [szA,szS,szD,szN] at *;omega) HG3.out))
      clear hK K
      (try simp only [Act.put,zP1,zP2,zP3,zP4,zP5,zP6])
      refine wpAnyH_done (by kernel_rfl) ?_ _
      go_wp2
      go_meet
      case rel =>
       have hq1:=HG3.out
       have hq2:=HS3.out
       obtain ⟨p1,p2,p3,p4,p5,p6⟩:=feed_p9 (wr:=wr) (show Bw wr _ from BWX) hbn (show Bw wn _ from BWX) (by simp only [szA,szS,szD,szN] at *;first|(left;omega)|(right;omega)) hq1 HOk.out.1 HOk'.out HAn.out HLs.out HLn.out
       exact ⟨_,s',L,mL,cL,rfl,rfl,p6,hq2,p1,HE.out.1,HE.out.2,p2,p3,p4,hm1,hm2,hm3,p5⟩
     refine AllReadyH.cons rfl (fun K hK => ?_) ?_
     ·go_simp;(generalize hw8 : World.alloc _ (.cells _ 46) = w8);obtain ⟨hS8,hb8,hz8⟩:=sb1 hw8;have HS8:=Lib.hid hS8;clear hw8 hS8
      refine hK.out _ _ ?_ (fun hHeld => ?_)
      ·(try dsimp only);(first|(refine HY.out _ ?_;(repeat (first|with_reducible (first|assumption|exact Bw.refl _|refine Bw.alloc ?_ _|refine Bw.more ?_ _ _|refine Bw.drew ?_|refine Bw.drewN ?_ _)|((with_reducible refine Bw.set2 ?_ ?_ _);(focus exact SZX))|with_reducible refine Bw.trans ?_ (by assumption)));done)|exact hHeld|(exact HYg.out _ _ _ BWX (by simp only [szA,szS,szD,szN] at *;omega) HG3.out))
      clear hK K
      (try simp only [Act.put,zP1,zP2,zP3,zP4,zP5,zP6])
      refine arO 6 (fun K hK => ?_)
      go_simp
      refine (rsapply_ok tr.s kd f pvo PA pn pc pxs _ (HOk.out.1.up BWX) (by exact HOpk.out.1.up BWX) HOpk.out.2.1 HOpk.out.2.2.1 HOpk.out.2.2.2).mono ?_;rintro ee wn ⟨s',L,mL,cL,e1,e2,rfl,hOk',hAn,hLs,hLn,hm1,hm2,hm3,hbn⟩;have hzn:=hbn.size;have HOk':=Lib.hid hOk';have HAn:=Lib.hid hAn;have HLs:=Lib.hid hLs;have HLn:=Lib.hid hLn;have HE:=Lib.hid (And.intro e1 e2);clear hOk' hAn hLs hLn e1 e2;go_wp2_with fail
      refine hK.out _ _ ?_ (fun hHeld => ?_)
      ·(try dsimp only);(first|(refine HY.out _ ?_;(repeat (first|with_reducible (first|assumption|exact Bw.refl _|refine Bw.alloc ?_ _|refine Bw.more ?_ _ _|refine Bw.drew ?_|refine Bw.drewN ?_ _)|((with_reducible refine Bw.set2 ?_ ?_ _);(focus exact SZX))|with_reducible refine Bw.trans ?_ (by assumption)));done)|exact hHeld|(exact HYg.out _ _ _ BWX (by simp only [szA,szS,szD,szN] at *;omega) HG3.out))
      clear hK K
      (try simp only [Act.put,zP1,zP2,zP3,zP4,zP5,zP6])
      refine tkQ 7 ?_
      refine tkQ 8 ?_
      (try simp only [Act.put,zP1,zP2,zP3,zP4,zP5,zP6])
      refine tkQ 9 ?_
      (try simp only [Act.put,zP1,zP2,zP3,zP4,zP5,zP6])
      refine arO 11 (fun K hK => ?_)
      (refine (if_pos (by kernel_rfl)).mpr ?_);(first|((with_reducible refine wp_store_sc s' wn.heap.size (.tmp 10) (.tmp 48) ?_ ?_ ?_ ?_ ?_);(focus rfl);(focus rfl);(focus rfl);(focus (exact ⟨_,HS8.out.up BWX,rfl⟩)))|((with_reducible refine wp_store_sc s' wr.heap.size (.tmp 10) (.tmp 48) ?_ ?_ ?_ ?_ ?_);(focus rfl);(focus rfl);(focus rfl);(focus (exact ⟨_,HS8.out.up BWX,rfl⟩))));intro w3 hS3 hg3;have HS3:=Lib.hid hS3;have HG3:=Lib.hid hg3;clear hS3 hg3
      refine hK.out _ _ ?_ (fun hHeld => ?_)
      ·(try dsimp only);(first|(refine HY.out _ ?_;(repeat (first|with_reducible (first|assumption|exact Bw.refl _|refine Bw.alloc ?_ _|refine Bw.more ?_ _ _|refine Bw.drew ?_|refine Bw.drewN ?_ _)|((with_reducible refine Bw.set2 ?_ ?_ _);(focus exact SZX))|with_reducible refine Bw.trans ?_ (by assumption)));done)|exact hHeld|(exact HYg.out _ _ _ BWX (by simp only [szA,szS,szD,szN] at *;omega) HG3.out))
      clear hK K
      (try simp only [Act.put,zP1,zP2,zP3,zP4,zP5,zP6])
      refine arO 12 (fun K hK => ?_)
      go_simp
      refine hK.out _ _ ?_ (fun hHeld => ?_)
      ·(try dsimp only);(first|(refine HY.out _ ?_;(repeat (first|with_reducible (first|assumption|exact Bw.refl _|refine Bw.alloc ?_ _|refine Bw.more ?_ _ _|refine Bw.drew ?_|refine Bw.drewN ?_ _)|((with_reducible refine Bw.set2 ?_ ?_ _);(focus exact SZX))|with_reducible refine Bw.trans ?_ (by assumption)));done)|exact hHeld|(exact HYg.out _ _ _ BWX (by simp only [szA,szS,szD,szN] at *;omega) HG3.out))
      clear hK K
      (try simp only [Act.put,zP1,zP2,zP3,zP4,zP5,zP6])
      refine wpAnyH_done (by kernel_rfl) ?_ _
      go_wp2
      go_meet
      case rel =>
       have hq1:=HG3.out
       have hq2:=HS3.out
       obtain ⟨p1,p2,p3,p4,p5,p6⟩:=feed_p9 (wr:=wr) (show Bw wr _ from BWX) hbn (show Bw wn _ from BWX) (by simp only [szA,szS,szD,szN] at *;first|(left;omega)|(right;omega)) hq1 HOk.out.1 HOk'.out HAn.out HLs.out HLn.out
       exact ⟨_,s',L,mL,cL,rfl,rfl,p6,hq2,p1,HE.out.1,HE.out.2,p2,p3,p4,hm1,hm2,hm3,p5⟩
     exact AllReadyH.nil
    refine AllReadyH.cons rfl (fun K hK => ?_) ?_
    ·go_simp;(generalize hw8 : World.alloc _ (.cells _ 46) = w8);obtain ⟨hS8,hb8,hz8⟩:=sb1 hw8;have HS8:=Lib.hid hS8;clear hw8 hS8
     refine hK.out _ _ ?_ (fun hHeld => ?_)
     ·(try dsimp only);(first|(refine HY.out _ ?_;(repeat (first|with_reducible (first|assumption|exact Bw.refl _|refine Bw.alloc ?_ _|refine Bw.more ?_ _ _|refine Bw.drew ?_|refine Bw.drewN ?_ _)|((with_reducible refine Bw.set2 ?_ ?_ _);(focus exact SZX))|with_reducible refine Bw.trans ?_ (by assumption)));done)|exact hHeld|(exact HYg.out _ _ _ BWX (by simp only [szA,szS,szD,szN] at *;omega) HG3.out))
     clear hK K
     (try simp only [Act.put,zP1,zP2,zP3,zP4,zP5,zP6])
     refine arO 1 (fun K hK => ?_)
     (refine (if_pos (by kernel_rfl)).mpr ?_);((with_reducible refine wp_load_ts tr w.heap.size (.tmp 41) ?_ ?_ ?_ ?_);(focus rfl);(focus rfl);(focus (exact HT.out.up BWX)))
     refine hK.out _ _ ?_ (fun hHeld => ?_)
     ·(try dsimp only);(first|(refine HY.out _ ?_;(repeat (first|with_reducible (first|assumption|exact Bw.refl _|refine Bw.alloc ?_ _|refine Bw.more ?_ _ _|refine Bw.drew ?_|refine Bw.drewN ?_ _)|((with_reducible refine Bw.set2 ?_ ?_ _);(focus exact SZX))|with_reducible refine Bw.trans ?_ (by assumption)));done)|exact hHeld|(exact HYg.out _ _ _ BWX (by simp only [szA,szS,szD,szN] at *;omega) HG3.out))
     clear hK K
     (try simp only [Act.put,zP1,zP2,zP3,zP4,zP5,zP6])
     refine arO 6 (fun K hK => ?_)
     go_simp
     refine (rsapply_ok tr.s kd f pvo PA pn pc pxs _ (HOk.out.1.up BWX) (by exact HOpk.out.1.up BWX) HOpk.out.2.1 HOpk.out.2.2.1 HOpk.out.2.2.2).mono ?_;rintro ee wn ⟨s',L,mL,cL,e1,e2,rfl,hOk',hAn,hLs,hLn,hm1,hm2,hm3,hbn⟩;have hzn:=hbn.size;have HOk':=Lib.hid hOk';have HAn:=Lib.hid hAn;have HLs:=Lib.hid hLs;have HLn:=Lib.hid hLn;have HE:=Lib.hid (And.intro e1 e2);clear hOk' hAn hLs hLn e1 e2;go_wp2_with fail
     refine hK.out _ _ ?_ (fun hHeld => ?_)
     ·(try dsimp only);(first|(refine HY.out _ ?_;(repeat (first|with_reducible (first|assumption|exact Bw.refl _|refine Bw.alloc ?_ _|refine Bw.more ?_ _ _|refine Bw.drew ?_|refine Bw.drewN ?_ _)|((with_reducible refine Bw.set2 ?_ ?_ _);(focus exact SZX))|with_reducible refine Bw.trans ?_ (by assumption)));done)|exact hHeld|(exact HYg.out _ _ _ BWX (by simp only [szA,szS,szD,szN] at *;omega) HG3.out))
     clear hK K
     (try simp only [Act.put,zP1,zP2,zP3,zP4,zP5,zP6])
     refine tkQ 7 ?_
     refine tkQ 8 ?_
     (try simp only [Act.put,zP1,zP2,zP3,zP4,zP5,zP6])
     refine tkQ 9 ?_
     (try simp only [Act.put,zP1,zP2,zP3,zP4,zP5,zP6])
     refine arO 11 (fun K hK => ?_)
     (refine (if_pos (by kernel_rfl)).mpr ?_);(first|((with_reducible refine wp_store_sc s' wn.heap.size (.tmp 10) (.tmp 48) ?_ ?_ ?_ ?_ ?_);(focus rfl);(focus rfl);(focus rfl);(focus (exact ⟨_,HS8.out.up BWX,rfl⟩)))|((with_reducible refine wp_store_sc s' wr.heap.size (.tmp 10) (.tmp 48) ?_ ?_ ?_ ?_ ?_);(focus rfl);(focus rfl);(focus rfl);(focus (exact ⟨_,HS8.out.up BWX,rfl⟩))));intro w3 hS3 hg3;have HS3:=Lib.hid hS3;have HG3:=Lib.hid hg3;clear hS3 hg3
     refine hK.out _ _ ?_ (fun hHeld => ?_)
     ·(try dsimp only);(first|(refine HY.out _ ?_;(repeat (first|with_reducible (first|assumption|exact Bw.refl _|refine Bw.alloc ?_ _|refine Bw.more ?_ _ _|refine Bw.drew ?_|refine Bw.drewN ?_ _)|((with_reducible refine Bw.set2 ?_ ?_ _);(focus exact SZX))|with_reducible refine Bw.trans ?_ (by assumption)));done)|exact hHeld|(exact HYg.out _ _ _ BWX (by simp only [szA,szS,szD,szN] at *;omega) HG3.out))
     clear hK K
     (try simp only [Act.put,zP1,zP2,zP3,zP4,zP5,zP6])
     refine arO 12 (fun K hK => ?_)
     go_simp
     refine hK.out _ _ ?_ (fun hHeld => ?_)
     ·(try dsimp only);(first|(refine HY.out _ ?_;(repeat (first|with_reducible (first|assumption|exact Bw.refl _|refine Bw.alloc ?_ _|refine Bw.more ?_ _ _|refine Bw.drew ?_|refine Bw.drewN ?_ _)|((with_reducible refine Bw.set2 ?_ ?_ _);(focus exact SZX))|with_reducible refine Bw.trans ?_ (by assumption)));done)|exact hHeld|(exact HYg.out _ _ _ BWX (by simp only [szA,szS,szD,szN] at *;omega) HG3.out))
     clear hK K
     (try simp only [Act.put,zP1,zP2,zP3,zP4,zP5,zP6])
     refine wpAnyH_done (by kernel_rfl) ?_ _
     go_wp2
     go_meet
     case rel =>
      have hq1:=HG3.out
      have hq2:=HS3.out
      obtain ⟨p1,p2,p3,p4,p5,p6⟩:=feed_p9 (wr:=wr) (show Bw wr _ from BWX) hbn (show Bw wn _ from BWX) (by simp only [szA,szS,szD,szN] at *;first|(left;omega)|(right;omega)) hq1 HOk.out.1 HOk'.out HAn.out HLs.out HLn.out
      exact ⟨_,s',L,mL,cL,rfl,rfl,p6,hq2,p1,HE.out.1,HE.out.2,p2,p3,p4,hm1,hm2,hm3,p5⟩
    exact AllReadyH.nil
   case rest =>
    obtain ⟨wd,rfl⟩ : ∃ wd,wd = wc:=⟨_,rfl⟩
    obtain ⟨g10,s',L,mL,cL,rfl,rfl,p0,p1,p2,e1,e2,p3,p4,p5,hm1,hm2,hm3,p6⟩:=hcut
    have hzd:=p6.size
    have HTd:=Lib.hid (HT.out.up p6)
    have hs'A : ∀ ad,s'.A = some ad → some ad.block ≠ some w.heap.size:=fun ad e e3 => by
     have e4:=Option.some.inj e3
     rcases p3 with h|h
     ·have:=(HtA.out ad (by rw [← h];exact e)).1;omega
     ·have:=h ad e;omega
    have HPA2:=Lib.hid (show Pl W.heap.size t.s.A s'.A from by
     rcases p3 with h|h
     ·rw [h];exact HPA.out
     ·exact .inr (fun ad e => by have:=h ad e;omega))
    have hokd : ({ tr with s:=s' } : Trm).Ok wd (B + 231 * k):=⟨p2,(HOk.out.up p6).2⟩
    have HOkd:=Lib.hid hokd
    have HLd:=Lib.hid p4
    have HLn:=Lib.hid p5
    have HP1:=Lib.hid p1
    have HS'A:=Lib.hid hs'A
    have HE:=Lib.hid (And.intro e1 e2)
    have HPr:=Lib.hid p6
    have hbd : Bw w wd:=Bw.trans hbr p6
    clear p1 p2 p3 p4 p5 hs'A e1 e2 hokd o0 o1 o2 o3 p6
    go_upto_region 11 with (first
     | ((with_reducible refine wpList_load_sc s' g10 (.tmp 10) rfl rfl ?_ ?_ ?_);(focus rfl);(focus (exact HP1.out)))
     | ((with_reducible refine wpList_store_ts tr s' w.heap.size (.tmp 51) (.tmp 50) rfl rfl ?_ ?_ ?_ ?_);(focus rfl);(focus rfl);(focus (exact HTd.out));intro we hS5 hg5;have HS5:=Lib.hid hS5;have HG5:=Lib.hid hg5;clear hS5 hg5)
     | fail)
    have hge:=HG5.out
    have HOke:=Lib.hid (HOkd.out.far hge HS'A.out (fun h0 => HOkd.out.2.1.1.ne_sbf h0 HTd.out tr.no8) (HOkd.out.2.2.2.1.ne HTd.out (show 53 ≠ 3 by decide)) (fun h0 ad e e3 => (HtH.out h0 ad e).1 (Option.some.inj e3)))
    have HLe:=Lib.hid (HLd.out.far0 hge (fun _ ad e e3 => by have:=HLn.out ad e;have e4:=Option.some.inj e3;omega))
    have HOe:=Lib.hid ((HO.out.up HPr.out).far1 hge (fun _ ad e e3 => by have:=HP6c.out ad e;have e4:=Option.some.inj e3;omega) (fun o ho _ ad e e3 => by have:=HP7c.out o ho ad e;have e4:=Option.some.inj e3;omega))
    have HBe:=Lib.hid (Exists.elim HB.out (fun old h => (⟨old,(h.1.up HPr.out).far hge (by intro e;have:=Option.some.inj e;omega),h.2⟩ : ∃ old,Sb we (w.heap.size + 1) old 53 ∧ old.size = 26 ∧ ∀ (i : Nat) (x : Int),old[i]? ≠ some (.int .u8 x))))
    have hbe : Bw w we:=Bw.grown hbd hge (fun k hk => by cases hk;omega)
    have hze : W.heap.size ≤ we.heap.size:=by have:=hge.size;omega
    clear HOkd HLd HTd HP1 HG5 hge
    by_cases hmL : mL = 0
    ·go_wp2_with fail
     go_roundw
     case rel =>
      exact ⟨k + 1,by go_num,by omega,{ tr with s:=s' },HS5.out,Trm.Ok.more HOke.out (by omega),⟨HE.out.1.trans HSZ.out.1,HE.out.2.trans HSZ.out.2.1,HSZ.out.2.2⟩,HPA2.out,HPH.out,HOe.out,HBe.out,hbe,hze⟩
     case measure => simp [intOf];omega
    ·have hmp : 0 < mL:=by omega
     have hz6 : w.heap.size + 1 < we.heap.size:=by omega
     have hkeep:=HOke.out.2.2.2.2.1
     have hHn:=HOke.out.2.2.2.2.2.2.2.2.1
     have hlost:=HOke.out.2.2.2.2.2.2.2.2.2
     go_wp2_with (first
      | ((with_reducible refine wpList_load_tr { tr with s:=s' } w.heap.size (.tmp 2) rfl rfl ?_ ?_ ?_);(focus rfl);(focus (exact HS5.out)))
      | (go_at_call 47;refine (raway_ok { tr with s:=s' } L mL cL _ (HOke.out.2.2.2.2.2.1.up BWX) HOke.out.2.2.2.2.2.2.1 HOke.out.2.2.2.2.2.2.2.1 (by have h1:=hHn;have h2:=hkeep;dsimp only at h1 h2 ⊢;omega) hkeep ⟨hlost.1,by have:=hlost.2;dsimp only at this ⊢;omega⟩ (HLe.out.up BWX) hmp hm1 hm2 hm3).mono ?_;rintro ee wf ⟨HA',Hn',Hc',lost',rfl,a1,a2,a3,a4,a5,a6,a7,a8⟩;have HA1:=Lib.hid a1;have HA2:=Lib.hid a2;have HA8:=Lib.hid a8;clear a1 a2 a8)
      | ((with_reducible refine wpList_store_tr { tr with s:=s',HA:=HA',Hn:=Hn',Hc:=Hc',lost:=lost' } w.heap.size (.tmp 2) (.tmp 57) rfl rfl ?_ ?_ ?_ ?_);(focus rfl);(focus rfl);(focus (exact ⟨_,HS5.out.up HA8.out,rfl⟩));intro wg hS6 hg6;have HS6:=Lib.hid hS6;have HG6:=Lib.hid hg6;clear hS6 hg6)
      | fail)
     go_roundw
     case rel =>
      have hb8:=HA8.out
      have hg6:=HG6.out
      have hokf : ({ tr with s:=s',HA:=HA',Hn:=Hn',Hc:=Hc',lost:=lost' } : Trm).Ok wf (B + 231 * ((k + 1 : Nat) : Int)):=by
       obtain ⟨c1,c2,c3,c4,c5,c6,c7,c8,c9,c10,c11⟩:=HOke.out.up hb8
       dsimp only at c11 a6 a7
       exact ⟨c1,c2,c3,c4,c5,HA1.out,a3,a4,a5,by show 0 ≤ lost';have:=c10;dsimp only at this;omega,by show lost' ≤ B + 231 * ((k + 1 : Nat) : Int);omega⟩
      have hsf:=hb8.size
      refine ⟨k + 1,by go_num,by omega,{ tr with s:=s',HA:=HA',Hn:=Hn',Hc:=Hc',lost:=lost' },HS6.out,hokf.far hg6 HS'A.out (fun h0 => hokf.2.1.1.ne_sbf h0 (HS5.out.up hb8) (Trm.no8 _)) (hokf.2.2.2.1.ne (HS5.out.up hb8) (show 53 ≠ 3 by decide)) (fun h0 ad e e3 => by have:=HA2.out ad e;have e4:=Option.some.inj e3;omega),⟨HE.out.1.trans HSZ.out.1,HE.out.2.trans HSZ.out.2.1,HSZ.out.2.2⟩,HPA2.out,.inr (fun ad e => by have:=HA2.out ad e;omega),(HOe.out.up hb8).far1 hg6 (fun _ ad e e3 => by have:=HP6c.out ad e;have e4:=Option.some.inj e3;omega) (fun o ho _ ad e e3 => by have:=HP7c.out o ho ad e;have e4:=Option.some.inj e3;omega),Exists.elim HBe.out (fun old h => ⟨old,(h.1.up hb8).far hg6 (by intro e;have:=Option.some.inj e;omega),h.2⟩),Bw.grown (Bw.trans hbe hb8) hg6 (fun k hk => by cases hk;omega),by have:=hg6.size;omega⟩
     case measure => simp [intOf];omega
  ·obtain rfl : k = m:=by omega
   go_wp2_with (first
    | ((with_reducible refine wpList_load_tr tr w.heap.size (.tmp 2) rfl rfl ?_ ?_ ?_);(focus rfl);(focus (exact HT.out)))
    | ((with_reducible refine wpList_store_tr tr (w.heap.size + 1) (.tmp 4) (.tmp 58) rfl rfl ?_ ?_ ?_ ?_);(focus rfl);(focus rfl);(focus (exact Exists.elim HB.out (fun old h => ⟨old,h.1,h.2.1⟩)));intro we hS5 hg5;have HS5:=Lib.hid hS5;have HG5:=Lib.hid hg5;clear hS5 hg5)
    | fail)
   refine bodyPost_ret (results_tr rfl _ _ (w.heap.size + 1) tr (by rfl) HS5.out) rfl ?_
   obtain ⟨oldb,hob,_,hne8⟩:=HB.out
   have hge:=HG5.out
   exact ⟨tr,rfl,Trm.Ok.more (HOk.out.far hge (fun ad e e2 => (HtA.out ad e).2 (Option.some.inj e2)) (fun h0 => HOk.out.2.1.1.ne_sbf h0 hob hne8) (HOk.out.2.2.2.1.ne hob (show 53 ≠ 3 by decide)) (fun h0 ad e e2 => (HtH.out h0 ad e).2 (Option.some.inj e2))) (by omega),HSZ.out.1,HSZ.out.2.1,HSZ.out.2.2,Pl.more HPA.out (by omega),PlH.more HPH.out (by omega),Bw.grown hbr hge (fun k hk => by cases hk;omega)⟩
end Go.Proofs.YteebdjmjeahccaaGreatDoor
