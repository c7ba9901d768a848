/- Parts of the proof, one after the other. -/
import Derived.Test.YtkflooljdopldaaGreatV29
import Derived.Deep.RegionHeld3
set_option linter.unusedSimpArgs false
set_option linter.unusedVariables false
/- Screens: put keeps them valid; the law's put. -/
namespace Go.Proofs.YtkflooljdopldaaGreat
open Go.RowKit

theorem gridB_dim {R C : Int} {cs : List C4} (h : gridB R C cs = true) : 1 ≤ R ∧ R ≤ 30 ∧ 1 ≤ C ∧ C ≤ 100 ∧ (cs.length : Int) = R * C:=by
 unfold gridB at h
 rw [Bool.and_eq_true] at h
 exact of_decide_eq_true h.1
theorem gridB_tabZ {R C : Int} {cs : List C4} {F : Nat → Nat → C4} (h : gridB R C cs = true) (hF : ∀ r k,cellB (F r k) = true) : gridB R C (tab R.toNat C.toNat F) = true:=by
 obtain ⟨h1,h2,h3,h4,-⟩:=gridB_dim h
 have h5:=gridB_tab (Rn:=R.toNat) (Cn:=C.toNat) (F:=F) (by omega) (by omega) (by omega) (by omega) (fun r k _ _ => hF r k)
 rw [Int.toNat_of_nonneg (by omega),Int.toNat_of_nonneg (by omega)] at h5
 exact h5
theorem fillG_ok {R C : Int} {cs : List C4} {row fr tt : Int} {d : C4} (h : gridB R C cs = true) : gridB R C (fillG R C cs row fr tt d) = true:=by
 unfold fillG;split
 ·rename_i h2;exact gridB_tabZ h (fun r k => fillF_ok (gridB_all h) h2.2 r k)
 ·exact h
theorem scrollG_ok {R C : Int} {cs : List C4} {tp bt num : Int} {d : C4} (h : gridB R C cs = true) : gridB R C (scrollG R C cs tp bt num d) = true:=by
 unfold scrollG;split
 ·rename_i h2;exact gridB_tabZ h (fun r k => scrollF_ok (gridB_all h) h2.2.1 r k)
 ·exact h
theorem fdC_ok {s : Scr} {cs : List C4} (h : gridB s.Rn s.Cn cs = true) : gridB s.Rn s.Cn (fdC s cs) = true:=by
 unfold fdC;split
 ·exact scrollG_ok h
 ·exact h
theorem pfC_ok {s : Scr} {cs : List C4} (h : gridB s.Rn s.Cn cs = true) : gridB s.Rn s.Cn (pfC s cs) = true:=by
 unfold pfC;split
 ·exact fdC_ok (s:={ s with col:=0 }) h
 ·exact h
theorem ptC_ok {s : Scr} {cs : List C4} {x : Int} (h : gridB s.Rn s.Cn cs = true) : gridB s.Rn s.Cn (ptC s cs x) = true:=fillG_ok (pfC_ok h)
theorem fdS_at (s : Scr) : (fdS s).f = s.f ∧ (fdS s).g = s.g ∧ (fdS s).b = s.b ∧ (fdS s).now = s.now:=by unfold fdS;split <;> exact ⟨rfl,rfl,rfl,rfl⟩
theorem pfS_at (s : Scr) : (pfS s).f = s.f ∧ (pfS s).g = s.g ∧ (pfS s).b = s.b ∧ (pfS s).now = s.now:=by
 unfold pfS;split
 ·exact fdS_at _
 ·exact ⟨rfl,rfl,rfl,rfl⟩
theorem ptE_nums (s : Scr) : (ptE s).Rn = s.Rn ∧ (ptE s).Cn = s.Cn ∧ (ptE s).A = s.A ∧ (ptE s).n = s.n ∧ (ptE s).c = s.c ∧ (ptE s).f = s.f ∧ (ptE s).g = s.g ∧ (ptE s).b = s.b:=by unfold ptE;split <;> exact ⟨rfl,rfl,rfl,rfl,rfl,rfl,rfl,rfl⟩
theorem ptS_nums (s : Scr) : (ptS s).Rn = s.Rn ∧ (ptS s).Cn = s.Cn ∧ (ptS s).A = s.A ∧ (ptS s).f = s.f ∧ (ptS s).g = s.g ∧ (ptS s).b = s.b:=by
 obtain ⟨h1,h2,h3,-,-,h6,h7,h8⟩:=ptE_nums (pfS s)
 obtain ⟨k1,k2,k3,-,-⟩:=pfS_nums s
 obtain ⟨a1,a2,a3,-⟩:=pfS_at s
 exact ⟨h1.trans k1,h2.trans k2,h3.trans k3,h6.trans a1,h7.trans a2,h8.trans a3⟩
theorem ptS_ok {s : Scr} (hs : ScX s) : ScX (ptS s):=ptE_ok (pfS_ok hs)
/-- A screen is valid by its numbers and its cells. -/
theorem Scr.Ok.of {w : World} {s : Scr} {cs : List C4} (hs : ScX s) (hr : Rg w s.A s.n cs) (hn : s.n ≤ s.c) (hc : s.c ≤ 9223372036854775807) (hg : gridB s.Rn s.Cn cs = true) : s.Ok w:=by
 obtain ⟨⟨h1,h2,h3,h4⟩,k1,k2,k3,k4,k5⟩:=hs
 have h5:=(gridB_dim hg).2.2.2.2
 have h6 : s.n = s.Rn * s.Cn:=by have:=hr.1;rw [← Int.natCast_mul] at h5;omega
 exact ⟨⟨h1,h2,h3,h4,h6,hn,hc,cs,hr,hg⟩,k1,k2,k3,k4,k5⟩
theorem ptE_gr (s : Scr) (A : Option Addr) (n c : Nat) : ptE (s.gr A n c) = (ptE s).gr A n c:=by unfold ptE Scr.gr;dsimp only;split <;> rfl
theorem fdS_gr (s : Scr) (A : Option Addr) (n c : Nat) : fdS (s.gr A n c) = (fdS s).gr A n c:=by unfold fdS Scr.gr;dsimp only;split <;> rfl
theorem pfS_gr (s : Scr) (A : Option Addr) (n c : Nat) : pfS (s.gr A n c) = (pfS s).gr A n c:=by
 unfold pfS
 rw [show ((s.gr A n c).wrap && !(s.gr A n c).now) = (s.wrap && !s.now) from rfl]
 split
 ·exact fdS_gr { s with col:=0 } A n c
 ·rfl
theorem ptS_gr (s : Scr) (A : Option Addr) (n c : Nat) : ptS (s.gr A n c) = (ptS s).gr A n c:=by unfold ptS;rw [pfS_gr,ptE_gr]
theorem ptC_gr (s : Scr) (A : Option Addr) (n c : Nat) (cs : List C4) (x : Int) : ptC (s.gr A n c) cs x = ptC s cs x:=by unfold ptC;rw [pfS_gr];rfl
theorem sapply_print (s : Scr) (cs : List C4) (x : Int) (w : World) (hs : s.Ok w) (hr : Rg w s.A s.n cs) (hv : cellB (x,s.f,s.g,s.b) = true) :
  Calls Tryz.prog 10 #[.agg s.vals.toArray,.agg #[.int .i64 1,.int .i64 x,.int .i64 0,.slice none 0 0]] w (ApP w s.A (ptS s) (ptC s cs x) (pfN s)) :=
 sapply_gen 1 x 0 none 0 0 25 s (ptS s) cs (ptC s cs x) (pfN s) true w hs hr (ptS_nums s).2.2.1 (.inl ⟨rfl,rfl⟩) (fun g w1 h => cvput_any s false cs x g w1 h hs.num hv)
/-- A new box, a call later. -/
theorem sb_boxed {w w2 : World} {cs : Array Value} {T : TypeId} {n : Nat} (h : Bw (w.alloc (.cells cs T)).drew w2) (hs : cs.size = n) : ∃ old,Sb w2 w.heap.size old T ∧ old.size = n:=⟨cs,(show Sb (w.alloc (.cells cs T)).drew w.heap.size cs T from heap_at rfl).up h,hs⟩
theorem scRange {w : World} {g : Nat} {s : Scr} (h : Sb w g s.vals.toArray 34) : w.rangeAt g 0 s.vals:=fun j v hv => by
 rw [Nat.zero_add]
 exact h.cell j (by rw [List.getElem?_toArray];exact hv)

/-- What letters make of a screen: its cells, and how many rows went away. -/
def stepP (q : Scr × List C4 × Nat) (x : Int) : Scr × List C4 × Nat:=(ptS q.1,ptC q.1 q.2.1 x,q.2.2 + pfN q.1)
def letters (xs : List Int) : Prop:=∀ x ∈ xs,32 ≤ x ∧ x ≤ 126
theorem step_ok {q : Scr × List C4 × Nat} {x : Int} (h : ScX q.1 ∧ gridB q.1.Rn q.1.Cn q.2.1 = true) : ScX (stepP q x).1 ∧ gridB (stepP q x).1.Rn (stepP q x).1.Cn (stepP q x).2.1 = true:=by
 refine ⟨ptS_ok h.1,?_⟩
 show gridB (ptS q.1).Rn (ptS q.1).Cn (ptC q.1 q.2.1 x) = true
 rw [(ptS_nums q.1).1,(ptS_nums q.1).2.1]
 exact ptC_ok h.2
theorem play_ok : ∀ (xs : List Int) (q : Scr × List C4 × Nat),ScX q.1 ∧ gridB q.1.Rn q.1.Cn q.2.1 = true → ScX (xs.foldl stepP q).1 ∧ gridB (xs.foldl stepP q).1.Rn (xs.foldl stepP q).1.Cn (xs.foldl stepP q).2.1 = true
 | [],q,h => h
 | x :: xs,q,h => play_ok xs (stepP q x) (step_ok h)
theorem letter_ok {x f g b : Int} (hx : 32 ≤ x ∧ x ≤ 126) (h : avB f g b = true) : cellB (x,f,g,b) = true:=by
 unfold cellB runeB
 dsimp only
 rw [decide_eq_true (by omega),h]
 rfl
theorem lostN_le (s : Scr) (nn : Int) (h : ScX s) : lostN s nn ≤ 30:=by
 obtain ⟨⟨-,h2,-⟩,-,-,⟨-,-,h3⟩,-⟩:=h
 unfold lostN;split <;> omega
theorem pfN_le (s : Scr) (h : ScX s) : pfN s ≤ 30:=by
 unfold pfN fdN
 split
 ·split
  ·refine lostN_le { s with col:=0 } 1 ?_
   obtain ⟨h1,⟨h2,h3,h4,h5⟩,h6⟩:=h
   exact ⟨h1,⟨h2,h3,by show (0 : Int) ≤ 0;omega,by show (0 : Int) < s.Cn;omega⟩,h6⟩
  ·omega
 ·omega

set_option maxRecDepth 100000 in
set_option maxHeartbeats 1000000 in
theorem lput_any (s : Scr) (cs : List C4) (b : ByteArray) (xs : List Int) (w : World) (hs : ScX s) (hr : Rg w s.A s.n cs) (hn : s.n ≤ s.c) (hc : s.c ≤ 9223372036854775807) (hg : gridB s.Rn s.Cn cs = true) (hl : b.size = xs.length) (hl2 : xs.length ≤ 100) (hb : ∀ (k : Nat) (h : k < b.size),((b[k].toNat : Nat) : Int) = xs.getD k 0) (hx : letters xs) :
  Calls Tryz.prog 19 #[.agg s.vals.toArray,.string b] w fun e w' => ∃ A n c,e = .returned (.tuple #[.agg ((xs.foldl stepP (s,cs,0)).1.gr A n c).vals.toArray,.int .i64 ((xs.foldl stepP (s,cs,0)).2.2 : Nat)]) ∧ Rg w' A n (xs.foldl stepP (s,cs,0)).2.1 ∧ n ≤ c ∧ c ≤ 9223372036854775807 ∧ An w s.A A ∧ Bw w w':=by
 have HR:=Lib.hid hr
 have HX:=Lib.hid hx
 have HG:=Lib.hid (And.intro hs hg)
 have HB:=Lib.hid hb
 have HL:=Lib.hid hl
 have hA:=Lib.hid (Scr.Ok.of hs hr hn hc hg).1.lt
 clear hr hx hg hb hs
 go_enter Tryz.func19,Tryz.ntmps19
 go_upto_region 1 with (fail)
 generalize hwa : w.alloc (.cells s.vals.toArray 34) = wa
 obtain ⟨ha0,hbwa,hza⟩:=sb1 hwa
 generalize hw1 : wa.alloc _ = w1
 obtain ⟨hc0,hbwc,hzc⟩:=sb1 hw1
 rw [hza] at hc0
 have H0:=Lib.hid (ha0.up hbwc)
 have HT:=Lib.hid (show ∃ old,Sb w1 (w.heap.size + 1) old 34 ∧ old.size = 19 from ⟨_,hc0,rfl⟩)
 have HBW:=Lib.hid (Bw.trans hbwa hbwc)
 have hz1 : w.heap.size + 1 < w1.heap.size:=by omega
 clear hwa ha0 hbwa hza hw1 hc0 hbwc hzc
 go_wp2_with fail
 go_loopw [7,6] (fun i v wr => ∃ (k : Nat) (q : Scr × List C4 × Nat) (A : Option Addr) (n c : Nat),i = .int .i64 k ∧ k ≤ xs.length ∧ q = (xs.take k).foldl stepP (s,cs,0) ∧ v = .int .i64 (q.2.2 : Nat) ∧ q.2.2 ≤ k * 30 ∧ Sb wr w.heap.size (q.1.gr A n c).vals.toArray 34 ∧ Rg wr A n q.2.1 ∧ n ≤ c ∧ c ≤ 9223372036854775807 ∧ An w s.A A ∧ (∀ ad,A = some ad → ad.block ≠ w.heap.size ∧ ad.block ≠ w.heap.size + 1) ∧ (∃ old,Sb wr (w.heap.size + 1) old 34 ∧ old.size = 19) ∧ Bw w wr) (fun i _ _ => xs.length - (intOf i).toNat)
 case atStart => exact ⟨0,(s,cs,0),s.A,s.n,s.c,rfl,by omega,rfl,rfl,Nat.zero_le _,H0.out,HR.out.up HBW.out,hn,hc,.inl rfl,(fun ad e => by have:=hA.out ad e;omega),HT.out,HBW.out⟩
 case round =>
  obtain ⟨k,q,A,n,c,rfl,hk,hq,rfl,hqm,hS,hrr,hnc,hcm,hAn,hne,hT,hbr⟩:=hrel
  have HQ:=Lib.hid hq
  have HS:=Lib.hid hS
  have HRr:=Lib.hid hrr
  have HAn:=Lib.hid hAn
  have HNe:=Lib.hid hne
  have HTr:=Lib.hid hT
  have HBr:=Lib.hid hbr
  have hzr:=hbr.size
  have hltr:=hS.lt
  have hlt1 : w.heap.size + 1 < wr.heap.size:=by obtain ⟨old,h1,-⟩:=hT;exact h1.lt
  have HOK:=Lib.hid (show ScX q.1 ∧ gridB q.1.Rn q.1.Cn q.2.1 = true from by rw [hq];exact play_ok _ _ HG.out)
  clear hq hS hrr hAn hne hT hbr
  by_cases hlt : k < xs.length
  ·obtain ⟨x,hxk⟩ : ∃ x,xs.getD k 0 = x:=⟨_,rfl⟩
   have hbx : ((b[k]'(by rw [HL.out];exact hlt)).toNat : Int) = x:=(HB.out k (by rw [HL.out];exact hlt)).trans hxk
   have hxs : xs[k]? = some x:=by rw [List.getD_eq_getElem?_getD,List.getElem?_eq_getElem hlt] at hxk;rw [List.getElem?_eq_getElem hlt];simpa using hxk
   have HXK:=Lib.hid hxs
   have hx1 : 32 ≤ x ∧ x ≤ 126:=HX.out x (List.mem_of_getElem? hxs)
   have HBX:=Lib.hid hbx
   have hks : (k : Int) < (b.size : Int):=by rw [HL.out];omega
   have hk0 : (0 : Int) ≤ k:=by omega
   have HCV:=Lib.hid (show cellB (x,q.1.f,q.1.g,q.1.b) = true from letter_ok hx1 HOK.out.1.2.2.1)
   have HSO:=Lib.hid (show (q.1.gr A n c).Ok wr from Scr.Ok.of (s:=q.1.gr A n c) HOK.out.1 HRr.out hnc hcm HOK.out.2)
   obtain ⟨hx10,hx11⟩:=hx1
   clear hxk hbx hxs
   go_upto_region 5 with (fail)
   go_cut [8,9] (fun a b' w' => ∃ A' n' c' L k' gb,a = .pointer (some ⟨gb,0,none⟩) ∧ b' = .slice L (pfN q.1) k' ∧ Sb w' gb (((ptS q.1).gr A' n' c').vals.toArray) 34 ∧ Rg w' A' n' (ptC q.1 q.2.1 x) ∧ n' ≤ c' ∧ c' ≤ 9223372036854775807 ∧ An wr A A' ∧ (∀ ad,A' = some ad → ad.block ≠ w.heap.size ∧ ad.block ≠ w.heap.size + 1) ∧ wr.heap.size ≤ gb ∧ Bw wr w')
   case first =>
    have HY:=Lib.hid (show ∀ w',Bw wr w' → Sb w' w.heap.size (q.1.gr A n c).vals.toArray 34 from fun w' hb => HS.out.up hb)
    refine wp_region_held_drew (S:=(fun w' => Sb w' w.heap.size (q.1.gr A n c).vals.toArray 34)) (by kernel_rfl) ?_ (fun hHeld => ?_)
    ·(try dsimp only);(first|exact hHeld|exact HK6.out|(refine HY.out _ ?_;exact BWX))
    refine wpAnyH_take (i:=0) (v:=.agg (q.1.gr A n c).vals.toArray) rfl (by kernel_rfl) (by kernel_rfl) (by kernel_rfl) (fun _ _ _ h => h) (yieldsIf_load_mid (by rfl) 34 (.tmp 2) rfl w.heap.size 0 rfl (q.1.gr A n c).vals _ (fun w' h => scRange h) Tryz.underlying34 rfl infoSc) (by assumption) ?_
    (try simp only [Act.put,zP1,zP2,zP3,zP4,zP5,zP6])
    refine tkQ 1 ?_
    refine tkQ 2 ?_
    refine tkQ 3 ?_
    (try simp only [Act.put,zP1,zP2,zP3,zP4,zP5,zP6])
    refine tkQ 4 ?_
    refine tkQ 5 ?_
    (try simp only [Act.put,zP1,zP2,zP3,zP4,zP5,zP6])
    refine wpAnyH_ready (rs:=[6,10]) (by kernel_rfl) (by simp) ?_
    refine AllReadyH.cons rfl (fun K hK => ?_) ?_
    ·go_simp
     rw [HBX.out,IntWalk.i64_in x (by omega)];refine (sapply_print (q.1.gr A n c) q.2.1 x _ (HSO.out.up BWX) (HRr.out.up BWX) HCV.out).mono ?_;rintro ee w2 ⟨A',n',c',L,k',rfl,hr2,hn2,hc2,hA2,hb2⟩;rw [ptS_gr,Scr.gr_gr];rw [ptC_gr] at hr2;have hbw2 : Bw wr w2:=Bw.trans (show Bw wr _ from BWX) hb2;have hsz2:=hbw2.size;have HR2:=Lib.hid hr2;have HA2s:=Lib.hid hA2;have HA2:=Lib.hid (show An wr A A' from An.more hA2 (by first|exact Nat.le_refl _|(simp only [szA,szS,szD,szN];omega)));have HBB:=Lib.hid hb2;clear hr2 hA2 hb2;go_wp2_with fail
     refine hK.out _ _ ?_ (fun hHeld => ?_)
     ·(try dsimp only);(first|exact hHeld|exact HK6.out|(refine HY.out _ ?_;exact BWX))
     clear hK K
     (try simp only [Act.put,zP1,zP2,zP3,zP4,zP5,zP6])
     refine tkQ 7 ?_
     (try simp only [Act.put,zP1,zP2,zP3,zP4,zP5,zP6])
     refine tkQ 8 ?_
     refine tkQ 9 ?_
     (try simp only [Act.put,zP1,zP2,zP3,zP4,zP5,zP6])
     refine wpAnyH_ready (rs:=[10]) (by kernel_rfl) (by simp) ?_
     refine AllReadyH.cons rfl (fun K hK => ?_) ?_
     ·go_simp
      refine hK.out _ _ ?_ (fun hHeld => ?_)
      ·(try dsimp only);(first|exact hHeld|exact HK6.out|(refine HY.out _ ?_;exact BWX))
      clear hK K
      (try simp only [Act.put,zP1,zP2,zP3,zP4,zP5,zP6])
      refine wpAnyH_ready (rs:=[11]) (by kernel_rfl) (by simp) ?_
      refine AllReadyH.cons rfl (fun K hK => ?_) ?_
      ·(refine (if_pos (by kernel_rfl)).mpr ?_);(first|((with_reducible refine wp_store_sc ((ptS q.1).gr A' n' c') w2.heap.size (.tmp 8) (.tmp 24) ?ho ?_ ?_ ?_ ?_);(case ho => rfl);(focus rfl);(focus rfl);(focus (exact ⟨_,heap_at (by simp),rfl⟩)))|((with_reducible refine wp_store_sc ((ptS q.1).gr A' n' c') wr.heap.size (.tmp 8) (.tmp 24) ?ho ?_ ?_ ?_ ?_);(case ho => rfl);(focus rfl);(focus rfl);(focus (exact sb_boxed HBB.out rfl))));intro w6 hS6 hg6;have HK6:=Lib.hid (hHeld.far hg6 (fun e => by have e3:=Option.some.inj e;(try simp only [szA,szS,szD,szN] at e3);omega));have HS6:=Lib.hid hS6;have HG6:=Lib.hid hg6;clear hS6 hg6
       refine hK.out _ _ ?_ (fun hHeld => ?_)
       ·(try dsimp only);(first|exact hHeld|exact HK6.out|(refine HY.out _ ?_;exact BWX))
       clear hK K
       (try simp only [Act.put,zP1,zP2,zP3,zP4,zP5,zP6])
       refine wpAnyH_ready (rs:=[12]) (by kernel_rfl) (by simp) ?_
       refine AllReadyH.cons rfl (fun K hK => ?_) ?_
       ·go_simp
        refine hK.out _ _ ?_ (fun hHeld => ?_)
        ·(try dsimp only);(first|exact hHeld|exact HK6.out|(refine HY.out _ ?_;exact BWX))
        clear hK K
        (try simp only [Act.put,zP1,zP2,zP3,zP4,zP5,zP6])
        refine wpAnyH_done (by kernel_rfl) ?_ _
        go_wp2_with fail
        go_meet
        case rel =>
         have hAs:=HA2.out
         have hne2 : ∀ ad,A' = some ad → ad.block ≠ w.heap.size ∧ ad.block ≠ w.heap.size + 1:=fun ad e => by
          rcases hAs with h|h
          ·exact HNe.out ad (h ▸ e)
          ·have:=h ad e;omega
         have hOk2 : ((ptS q.1).gr A' n' c').Ok w2:=Scr.Ok.of (s:=(ptS q.1).gr A' n' c') (ptS_ok HOK.out.1) HR2.out hn2 hc2 (step_ok (x:=x) HOK.out).2
         have hl2:=hOk2.1.lt
         have hlo:=HSO.out.1.lt
         refine ⟨A',n',c',L,k',_,rfl,rfl,HS6.out,?_,hn2,hc2,hAs,hne2,(by first|omega|(simp only [szA,szS,szD,szN];omega)),?_⟩
         ·refine Rg.far ?_ HG6.out (fun ad e e2 => ?_)
          ·exact HR2.out.up BWX
          ·have e3:=Option.some.inj e2
           have h1:=hl2 ad e
           rcases HA2s.out with h|h
           ·have h2:=hlo ad (h ▸ e)
            (try simp only [szA,szS,szD,szN] at e3)
            omega
           ·have h2:=h ad e
            (try simp only [szA,szS,szD,szN] at e3 h2)
            omega
         ·refine Bw.grown ?_ HG6.out (fun j hj => by cases hj;first|omega|(simp only [szA,szS,szD,szN];omega))
          exact BWX
       exact AllReadyH.nil
      exact AllReadyH.nil
     exact AllReadyH.nil
    refine AllReadyH.cons rfl (fun K hK => ?_) ?_
    ·go_simp
     refine hK.out _ _ ?_ (fun hHeld => ?_)
     ·(try dsimp only);(first|exact hHeld|exact HK6.out|(refine HY.out _ ?_;exact BWX))
     clear hK K
     (try simp only [Act.put,zP1,zP2,zP3,zP4,zP5,zP6])
     refine wpAnyH_ready (rs:=[6]) (by kernel_rfl) (by simp) ?_
     refine AllReadyH.cons rfl (fun K hK => ?_) ?_
     ·go_simp
      rw [HBX.out,IntWalk.i64_in x (by omega)];refine (sapply_print (q.1.gr A n c) q.2.1 x _ (HSO.out.up BWX) (HRr.out.up BWX) HCV.out).mono ?_;rintro ee w2 ⟨A',n',c',L,k',rfl,hr2,hn2,hc2,hA2,hb2⟩;rw [ptS_gr,Scr.gr_gr];rw [ptC_gr] at hr2;have hbw2 : Bw wr w2:=Bw.trans (show Bw wr _ from BWX) hb2;have hsz2:=hbw2.size;have HR2:=Lib.hid hr2;have HA2s:=Lib.hid hA2;have HA2:=Lib.hid (show An wr A A' from An.more hA2 (by first|exact Nat.le_refl _|(simp only [szA,szS,szD,szN];omega)));have HBB:=Lib.hid hb2;clear hr2 hA2 hb2;go_wp2_with fail
      refine hK.out _ _ ?_ (fun hHeld => ?_)
      ·(try dsimp only);(first|exact hHeld|exact HK6.out|(refine HY.out _ ?_;exact BWX))
      clear hK K
      (try simp only [Act.put,zP1,zP2,zP3,zP4,zP5,zP6])
      refine tkQ 7 ?_
      (try simp only [Act.put,zP1,zP2,zP3,zP4,zP5,zP6])
      refine tkQ 8 ?_
      refine tkQ 9 ?_
      (try simp only [Act.put,zP1,zP2,zP3,zP4,zP5,zP6])
      refine wpAnyH_ready (rs:=[11]) (by kernel_rfl) (by simp) ?_
      refine AllReadyH.cons rfl (fun K hK => ?_) ?_
      ·(refine (if_pos (by kernel_rfl)).mpr ?_);(first|((with_reducible refine wp_store_sc ((ptS q.1).gr A' n' c') w2.heap.size (.tmp 8) (.tmp 24) ?ho2 ?_ ?_ ?_ ?_);(case ho2 => rfl);(focus rfl);(focus rfl);(focus (exact ⟨_,heap_at (by simp),rfl⟩)))|((with_reducible refine wp_store_sc ((ptS q.1).gr A' n' c') wr.heap.size (.tmp 8) (.tmp 24) ?ho2 ?_ ?_ ?_ ?_);(case ho2 => rfl);(focus rfl);(focus rfl);(focus (exact sb_boxed HBB.out rfl))));intro w6 hS6 hg6;have HK6:=Lib.hid (hHeld.far hg6 (fun e => by have e3:=Option.some.inj e;(try simp only [szA,szS,szD,szN] at e3);omega));have HS6:=Lib.hid hS6;have HG6:=Lib.hid hg6;clear hS6 hg6
       refine hK.out _ _ ?_ (fun hHeld => ?_)
       ·(try dsimp only);(first|exact hHeld|exact HK6.out|(refine HY.out _ ?_;exact BWX))
       clear hK K
       (try simp only [Act.put,zP1,zP2,zP3,zP4,zP5,zP6])
       refine wpAnyH_ready (rs:=[12]) (by kernel_rfl) (by simp) ?_
       refine AllReadyH.cons rfl (fun K hK => ?_) ?_
       ·go_simp
        refine hK.out _ _ ?_ (fun hHeld => ?_)
        ·(try dsimp only);(first|exact hHeld|exact HK6.out|(refine HY.out _ ?_;exact BWX))
        clear hK K
        (try simp only [Act.put,zP1,zP2,zP3,zP4,zP5,zP6])
        refine wpAnyH_done (by kernel_rfl) ?_ _
        go_wp2_with fail
        go_meet
        case rel =>
         have hAs:=HA2.out
         have hne2 : ∀ ad,A' = some ad → ad.block ≠ w.heap.size ∧ ad.block ≠ w.heap.size + 1:=fun ad e => by
          rcases hAs with h|h
          ·exact HNe.out ad (h ▸ e)
          ·have:=h ad e;omega
         have hOk2 : ((ptS q.1).gr A' n' c').Ok w2:=Scr.Ok.of (s:=(ptS q.1).gr A' n' c') (ptS_ok HOK.out.1) HR2.out hn2 hc2 (step_ok (x:=x) HOK.out).2
         have hl2:=hOk2.1.lt
         have hlo:=HSO.out.1.lt
         refine ⟨A',n',c',L,k',_,rfl,rfl,HS6.out,?_,hn2,hc2,hAs,hne2,(by first|omega|(simp only [szA,szS,szD,szN];omega)),?_⟩
         ·refine Rg.far ?_ HG6.out (fun ad e e2 => ?_)
          ·exact HR2.out.up BWX
          ·have e3:=Option.some.inj e2
           have h1:=hl2 ad e
           rcases HA2s.out with h|h
           ·have h2:=hlo ad (h ▸ e)
            (try simp only [szA,szS,szD,szN] at e3)
            omega
           ·have h2:=h ad e
            (try simp only [szA,szS,szD,szN] at e3 h2)
            omega
         ·refine Bw.grown ?_ HG6.out (fun j hj => by cases hj;first|omega|(simp only [szA,szS,szD,szN];omega))
          exact BWX
       exact AllReadyH.nil
      exact AllReadyH.nil
     exact AllReadyH.nil
    exact AllReadyH.nil
   case rest =>
   obtain ⟨A',n',c',L,k',gb,rfl,rfl,hS2,hr2,hn2,hc2,hA2,hne2,hgb,hb2⟩:=hcut
   have HS2:=Lib.hid hS2
   have HR2:=Lib.hid hr2
   have HA2:=Lib.hid hA2
   have HNe2:=Lib.hid hne2
   have HB2:=Lib.hid hb2
   have hz2:=hb2.size
   have hpf:=pfN_le q.1 HOK.out.1
   have HOLD:=Lib.hid (HS.out.up hb2)
   have hltg:=hS2.lt
   clear hS2 hr2 hA2 hne2 hb2
   go_upto_region 4 with (first
    | ((with_reducible refine wpList_load_sc ((ptS q.1).gr A' n' c') gb (.tmp 8) rfl rfl ?_ ?_ ?_);(focus rfl);(focus (exact HS2.out)))
    | ((with_reducible refine wpList_store_sc ((ptS q.1).gr A' n' c') w.heap.size (.tmp 2) (.tmp 26) rfl rfl ?_ ?_ ?_ ?_);(focus rfl);(focus rfl);(focus (exact ⟨_,HOLD.out,rfl⟩));intro w3 hS3 hg3;have HS3:=Lib.hid hS3;have HG3:=Lib.hid hg3;clear hS3 hg3)
    | fail)
   go_wp2_with fail
   go_roundw
   case rel =>
    refine ⟨k + 1,stepP q x,A',n',c',by go_num,by omega,?_,by first|rfl|(congr 1;show _ = ((q.2.2 + pfN q.1 : Nat) : Int);omega),by show q.2.2 + pfN q.1 ≤ (k + 1) * 30;omega,HS3.out,HR2.out.far HG3.out (fun ad e e2 => (HNe2.out ad e).1 (Option.some.inj e2)),hn2,hc2,HAn.out.trans HA2.out (by omega),HNe2.out,?_,Bw.grown (Bw.trans HBr.out HB2.out) HG3.out (fun j hj => by cases hj;omega)⟩
    ·rw [HQ.out]
     rw [List.take_add_one,HXK.out,Option.toList_some,List.foldl_append]
     rfl
    ·obtain ⟨old,h1,h2⟩:=HTr.out
     exact ⟨old,(h1.up HB2.out).far HG3.out (fun e => by have:=Option.some.inj e;omega),h2⟩
   case measure => simp [intOf];omega
  ·have hke : k = xs.length:=by omega
   have HQE:=Lib.hid (show q = xs.foldl stepP (s,cs,0) from by rw [HQ.out,hke,List.take_length])
   have hks : (b.size : Int) ≤ k:=by rw [HL.out,hke];omega
   have hks2 : (b.size : Int) ≤ (k : Int):=hks
   clear hke
   go_wp2_with (first
    | ((with_reducible refine wpList_load_sc (q.1.gr A n c) w.heap.size (.tmp 2) rfl rfl ?_ ?_ ?_);(focus rfl);(focus (exact HS.out)))
    | ((with_reducible refine wpList_store_sc (q.1.gr A n c) (w.heap.size + 1) (.tmp 4) (.tmp 31) rfl rfl ?_ ?_ ?_ ?_);(focus rfl);(focus rfl);(focus (exact HTr.out));intro w3 hS3 hg3;have HS3:=Lib.hid hS3;have HG3:=Lib.hid hg3;clear hS3 hg3)
    | fail)
   refine bodyPost_ret (results_sc2 rfl _ _ (w.heap.size + 1) (q.1.gr A n c) (by rfl) HS3.out) rfl ?_
   rw [← HQE.out]
   exact ⟨A,n,c,rfl,HRr.out.far HG3.out (fun ad e e2 => (HNe.out ad e).2 (Option.some.inj e2)),hnc,hcm,HAn.out,Bw.grown HBr.out HG3.out (fun j hj => by cases hj;omega)⟩

theorem play_abc (A : Option Addr) (n c : Nat) : [97,98,99].foldl stepP (newSc 2 2 A n c,List.replicate (2 * 2) blk,0) = ((⟨2,2,A,n,c,1,1,false,0,0,0,0,1,0,0,false,0,0,0,false,false⟩ : Scr),[(97,0,0,0),(98,0,0,0),(99,0,0,0),(32,0,0,0)],0):=by kernel_rfl
theorem play_de (A : Option Addr) (n c : Nat) : [100,101].foldl stepP ((⟨2,2,A,n,c,1,1,false,0,0,0,0,1,0,0,false,0,0,0,false,false⟩ : Scr),[(97,0,0,0),(98,0,0,0),(99,0,0,0),(32,0,0,0)],0) = ((⟨2,2,A,n,c,1,1,false,0,0,0,0,1,0,0,false,0,0,0,false,false⟩ : Scr),[(99,0,0,0),(100,0,0,0),(101,0,0,0),(32,0,0,0)],1):=by kernel_rfl
def abcS (A : Option Addr) (n c : Nat) : Scr:=⟨2,2,A,n,c,1,1,false,0,0,0,0,1,0,0,false,0,0,0,false,false⟩
theorem abc_ok (A : Option Addr) (n c : Nat) : ScX (abcS A n c):=by
 refine ⟨⟨?_,?_,?_,?_⟩,⟨?_,?_,?_,?_⟩,?_,⟨?_,?_,?_⟩,⟨?_,?_,?_,?_⟩,?_⟩ <;> unfold abcS <;> dsimp only <;> decide
theorem new_ok (A : Option Addr) (n c : Nat) : ScX (newSc 2 2 A n c):=by
 refine ⟨⟨?_,?_,?_,?_⟩,⟨?_,?_,?_,?_⟩,?_,⟨?_,?_,?_⟩,⟨?_,?_,?_,?_⟩,?_⟩ <;> unfold newSc <;> dsimp only <;> decide

set_option maxRecDepth 100000 in
set_option maxHeartbeats 1000000 in
theorem sane18_any (w : World) : Calls Tryz.prog 7 #[] w fun e w' => e = .returned (.bool true) ∧ Bw w w':=by
 go_enter Tryz.func7,Tryz.ntmps7
 go_upto_region 2 with (first
  | (go_at_call 18;refine (snew_any 2 2 2 2 _ (by decide) (by decide)).mono ?_;rintro ee w1 ⟨A,n,c,rfl,hr,hn,hc,-,hb1⟩;have HR1:=Lib.hid hr;have hbw1 : Bw w w1:=Bw.trans (show Bw w _ from BWX) hb1;clear hr hb1)
  | (go_at_call 19;refine (lput_any (newSc 2 2 A n c) (List.replicate (2 * 2) blk) ⟨#[97,98,99]⟩ [97,98,99] _ (new_ok A n c) (HR1.out.up BWX) hn hc (show gridB ((2 : Nat) : Int) ((2 : Nat) : Int) (List.replicate (2 * 2) blk) = true by decide) rfl (by decide) (fun k h => by
    have h3 : k < 3:=h
    rcases (show k = 0 ∨ k = 1 ∨ k = 2 by omega) with rfl|rfl|rfl <;> rfl) (by intro x hx;simp only [List.mem_cons,List.not_mem_nil,or_false] at hx;omega)).mono ?_;rintro ee w2 ⟨A2,n2,c2,rfl,hr2,hn2,hc2,-,hb2⟩;rw [play_abc] at hr2;rw [play_abc];have HR2:=Lib.hid hr2;have hbw2 : Bw w w2:=Bw.trans (Bw.trans hbw1 (show Bw w1 _ from BWX)) hb2;clear hr2 hb2)
  | ((with_reducible refine wpList_store_sc (abcS A2 n2 c2) w2.heap.size (.tmp 1) (.tmp 8) rfl rfl ?_ ?_ ?_ ?_);(focus rfl);(focus rfl);(focus (exact ⟨_,heap_at (by simp),rfl⟩));intro w3 hS3 hg3;have HS3:=Lib.hid hS3;have hb23 : Bw w2 w3:=Bw.grown (show Bw w2 _ from BWX) hg3 (fun j hj => by cases hj;omega);clear hS3 hg3)
  | fail)
 have hbw3:=Bw.trans hbw2 hb23
 have HR3:=Lib.hid (HR2.out.up hb23)
 have hz3:=hb23.size
 have hlt3:=HS3.out.lt
 clear HR1 HR2 hn hc
 go_upto_region 3 with (first
  | ((with_reducible refine wpList_load_sc (abcS A2 n2 c2) w2.heap.size (.tmp 1) rfl rfl ?_ ?_ ?_);(focus rfl);(focus (exact HS3.out)))
  | (go_at_call 19;refine (lput_any (abcS A2 n2 c2) [(97,0,0,0),(98,0,0,0),(99,0,0,0),(32,0,0,0)] ⟨#[100,101]⟩ [100,101] _ (abc_ok A2 n2 c2) (HR3.out.up BWX) hn2 hc2 (show gridB ((2 : Nat) : Int) ((2 : Nat) : Int) [(97,0,0,0),(98,0,0,0),(99,0,0,0),(32,0,0,0)] = true by decide) rfl (by decide) (fun k h => by
    have h3 : k < 2:=h
    rcases (show k = 0 ∨ k = 1 by omega) with rfl|rfl <;> rfl) (by intro x hx;simp only [List.mem_cons,List.not_mem_nil,or_false] at hx;omega)).mono ?_;rintro ee w4 ⟨A4,n4,c4,rfl,hr4,hn4,hc4,-,hb4⟩;rw [show [100,101].foldl stepP (abcS A2 n2 c2,[(97,0,0,0),(98,0,0,0),(99,0,0,0),(32,0,0,0)],0) = _ from play_de A2 n2 c2] at hr4;rw [show [100,101].foldl stepP (abcS A2 n2 c2,[(97,0,0,0),(98,0,0,0),(99,0,0,0),(32,0,0,0)],0) = _ from play_de A2 n2 c2];have HR4:=Lib.hid hr4;have hbw4 : Bw w3 w4:=Bw.trans (show Bw w3 _ from BWX) hb4;clear hr4 hb4)
  | ((with_reducible refine wpList_store_sc (abcS A4 n4 c4) w4.heap.size (.tmp 3) (.tmp 13) rfl rfl ?_ ?_ ?_ ?_);(focus rfl);(focus rfl);(focus (exact ⟨_,heap_at (by simp),rfl⟩));intro w5 hS5 hg5;have HS5:=Lib.hid hS5;have hb45 : Bw w4 w5:=Bw.grown (show Bw w4 _ from BWX) hg5 (fun j hj => by cases hj;omega);clear hS5 hg5)
  | fail)
 have hn4e:=HR4.out.1
 obtain ⟨ga,oa,rfl,hcells⟩:=HR4.out.2 (by rw [← hn4e];decide)
 obtain rfl : n4 = 4:=hn4e.symm
 have q0 : w5.cell? ⟨ga,oa,none⟩ = some (.int .i64 99):=cell_up (hcells 0 (by decide)).1 hb45
 have q1 : w5.cell? ⟨ga,oa + 4,none⟩ = some (.int .i64 100):=cell_up (hcells 1 (by decide)).1 hb45
 have q2 : w5.cell? ⟨ga,oa + 8,none⟩ = some (.int .i64 101):=cell_up (hcells 2 (by decide)).1 hb45
 have t2:=HS5.out.cell 2 (v:=.slice (some ⟨ga,oa,none⟩) 4 c4) rfl
 have t3:=HS5.out.cell 3 (v:=.int .i64 1) rfl
 have t4:=HS5.out.cell 4 (v:=.int .i64 1) rfl
 have t5:=HS5.out.cell 5 (v:=.bool false) rfl
 have s3:=(HS3.out.up (Bw.trans hbw4 hb45)).cell 3 (v:=.int .i64 1) rfl
 have s4:=(HS3.out.up (Bw.trans hbw4 hb45)).cell 4 (v:=.int .i64 1) rfl
 have s5:=(HS3.out.up (Bw.trans hbw4 hb45)).cell 5 (v:=.bool false) rfl
 have HBW:=Lib.hid (Bw.trans hbw3 (Bw.trans hbw4 hb45))
 clear hcells HR4 HR3 hbw1 hbw2 hb23 hbw3 hbw4 hb45 hn4e
 go_wp2_with fail
 go_ret
 exact ⟨rfl,HBW.out⟩
end Go.Proofs.YtkflooljdopldaaGreat
