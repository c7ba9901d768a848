/- Parts of the proof, one after the other. -/
import Derived.Test.YteebdjmjeahccaaGreatDoorC37
import Derived.Test.YteebdjmjeahccaaGreatDoorC07
import Derived.Test.YteebdjmjeahccaaGreatDoorC06
import Derived.Lib.SliceRun
import Derived.Test.YteebdjmjeahccaaGreatDoorC41
import Derived.Deep.RegionHeld3
set_option linter.unusedSimpArgs false
set_option linter.unusedVariables false
set_option maxRecDepth 100000
set_option maxHeartbeats 16000000
namespace Go.Proofs.YteebdjmjeahccaaGreatDoor
open Go.RowKit
theorem own_zeroN {w : World} {base : Nat} {e : TypeId} {s n : Nat} {v : Value} {xs : List Value} (h : w.ownsRow base e s v n xs) : w.ownsRow 0 e s v n xs:=by
 refine ⟨h.1,?_⟩
 rcases h.2 with h1|⟨g,cap,cur,h1,_,h3⟩
 ·exact .inl h1
 ·exact .inr ⟨g,cap,cur,h1,Nat.zero_le _,h3⟩
/-- The call returns the list of cells cs, in memory of its own. -/
def RwO (w : World) (cs : List C4) (e : Ending) (w' : World) : Prop:=∃ A n c,e = .returned (.slice A n c) ∧ n = cs.length ∧ w'.ownsRow 0 70 4 (.slice A n c) n (flat cs) ∧ Bw w w'
theorem grow_own (R C : Int) (A : Option Addr) (n c : Nat) (cs : List C4) (row : Int) (w : World) (hr : Rg w A n cs) (hn : n ≤ c) (hn3 : n ≤ 4398046511103) (hc : c ≤ 9223372036854775807) :
  Calls Tryz.prog 32 #[.agg #[.int .i64 R,.int .i64 C,.slice A n c],.int .i64 row] w (RwO w (rowF R C cs row)):=by
 have HR:=Lib.hid hr
 clear hr
 obtain ⟨q,hq⟩ : ∃ q,(n : Int) / C = q:=⟨_,rfl⟩
 have hz : row < 0 ∨ (0 ≤ row ∧ R ≤ row) ∨ ((0 ≤ row ∧ row < R) ∧ C < 1) ∨ ((0 ≤ row ∧ row < R) ∧ 1 ≤ C ∧ q ≤ row) ∨ ((0 ≤ row ∧ row < R) ∧ 1 ≤ C ∧ row < q):=by omega
 have hqb : 1 ≤ C → 0 ≤ q ∧ q ≤ n:=fun h => by rw [← hq];exact ⟨Int.ediv_nonneg (by omega) (by omega),Int.ediv_le_self _ (by omega)⟩
 rcases hz with h|⟨h1,h2⟩|⟨⟨h1,h2⟩,h3⟩|⟨⟨h1,h2⟩,h3,h4⟩|⟨⟨h1,h2⟩,h3,h4⟩
 iterate 4
  ·have HE:=Lib.hid (show rowF R C cs row = [] from if_neg (by rw [HR.out.1,hq];omega))
   (try have hqq:=hqb h3;obtain ⟨hq0,hq1⟩:=hqq)
   clear hqb
   go_enter Tryz.func32,Tryz.ntmps32
   go_wp2_with fail
   go_ret
   exact ⟨none,0,0,rfl,by rw [HE.out];rfl,by rw [HE.out];exact World.ownsRow_nil _ _ _ _,BWX⟩
 obtain ⟨hq0,hq1⟩:=hqb h3
 clear hqb
 obtain ⟨Cn,rfl⟩ : ∃ Cn : Nat,C = Cn:=⟨C.toNat,by omega⟩
 have hm : (row + 1) * (Cn : Int) ≤ n:=(Int.le_ediv_iff_mul_le (by omega)).1 (by rw [hq];omega)
 obtain ⟨p,hp⟩ : ∃ p : Nat,row * (Cn : Int) = p:=⟨(row * (Cn : Int)).toNat,by have:=Int.mul_nonneg h1 (show (0 : Int) ≤ Cn by omega);omega⟩
 have hp2 : (row + 1) * (Cn : Int) = ((p + Cn : Nat) : Int):=by rw [Int.add_mul,hp];omega
 have hpn : p + Cn ≤ n:=by rw [hp2] at hm;omega
 have HE:=Lib.hid (show rowF R (Cn : Int) cs row = (cs.drop p).take Cn by unfold rowF;rw [if_pos (by rw [HR.out.1,hq];omega),hp];rfl)
 obtain ⟨j0,hj,hj0,hj1,hj2⟩:=info_parts infoC
 obtain ⟨g,o,rfl,hx⟩:=HR.out.2 (by omega)
 have HS:=Lib.hid (HR.out.sub p Cn hpn)
 have hC1 : 1 ≤ Cn:=by omega
 have hpc : p < c:=by omega
 have hb1 : (0 : Int) ≤ (p : Int):=by omega
 have hb2 : ((p : Nat) : Int) ≤ ((p + Cn : Nat) : Int):=by omega
 have hb3 : ((p + Cn : Nat) : Int) ≤ (c : Int):=by omega
 obtain ⟨p2,hpp⟩ : ∃ p2,p2 = p + Cn:=⟨_,rfl⟩
 rw [← hpp] at hp2 hb2 hb3
 have hpn2 : p2 ≤ n:=by omega
 have hpl : p < p2:=by omega
 have hpd : p2 - p = Cn:=by omega
 have HPD:=Lib.hid hpd
 clear hx hm hpp hpd
 go_enter Tryz.func32,Tryz.ntmps32
 go_wp2_with (first|(go_at_call 55;refine (gclone_any (some ⟨g,o + p * 4,none⟩) (p2 - p) (c - p) ((cs.drop p).take Cn) _ (by rw [HPD.out];exact HS.out.up BWX) (by omega) (by omega) (by omega)).mono ?_;rintro ee w1 ⟨v1,rfl,hown1,hb1⟩;have HO1:=Lib.hid hown1;have HB1:=Lib.hid hb1;clear hown1 hb1)|fail)
 go_ret
 have h9:=HO1.out
 rw [HPD.out] at h9
 obtain ⟨A1,c1,rfl,hc1,hc1m⟩:=own_form h9
 exact ⟨A1,Cn,c1,rfl,by rw [HE.out,HS.out.1],by rw [HE.out];exact own_zeroN h9,Bw.trans (show Bw w _ from BWX) HB1.out⟩
/-- Cells without the blanks at the end. -/
def trimB (cs : List C4) : List C4:=(cs.reverse.dropWhile (fun c => decide (c = blk))).reverse
theorem trimB_blk (cs : List C4) : trimB (cs ++ [blk]) = trimB cs:=by
 unfold trimB
 rw [List.reverse_append,List.reverse_singleton,List.singleton_append,List.dropWhile_cons_of_pos (by simp)]
theorem trimB_no (cs : List C4) (c : C4) (h : c ≠ blk) : trimB (cs ++ [c]) = cs ++ [c]:=by
 unfold trimB
 rw [List.reverse_append,List.reverse_singleton,List.singleton_append,List.dropWhile_cons_of_neg (by simpa using h),List.reverse_cons,List.reverse_reverse]
theorem trimB_len (cs : List C4) : (trimB cs).length ≤ cs.length:=by
 unfold trimB
 rw [List.length_reverse]
 have h:=(List.dropWhile_sublist (p:=fun c => decide (c = blk)) (l:=cs.reverse)).length_le
 rw [List.length_reverse] at h
 exact h
/-- What the first rows are painted as, and the attributes behind them. -/
def rowsB (F : Nat → List C4) : Nat → List Int × A3
 | 0 => ([],(0,0,0))
 | n + 1 => if trimB (F n) = [] then rowsB F n else ((rowsB F n).1 ++ (goesL n 0 ++ pntB (rowsB F n).2 (trimB (F n))),pntA (rowsB F n).2 (trimB (F n)))
theorem rowsB_len (F : Nat → List C4) (C : Nat) (hF : ∀ k,(F k).length ≤ C) : ∀ n,n ≤ 98 → (rowsB F n).1.length ≤ n * (8 + 124 * C)
 | 0,_ => by simp [rowsB]
 | n + 1,h => by
  have h1:=rowsB_len F C hF n (by omega)
  rw [Nat.add_mul,Nat.one_mul]
  unfold rowsB
  split
  ·omega
  ·have h2:=goesL_len (n : Int) 0 (by omega) (by omega)
   have h3:=pntB_len (trimB (F n)) (rowsB F n).2
   have h4:=trimB_len (F n)
   have h5:=hF n
   have h6 : 124 * (trimB (F n)).length ≤ 124 * C:=Nat.mul_le_mul_left _ (by omega)
   simp only [List.length_append]
   omega
theorem rowsB_nil {F : Nat → List C4} {k : Nat} (h : trimB (F k) = []) : rowsB F (k + 1) = rowsB F k:=by rw [rowsB,if_pos h]
theorem rowsB_cons {F : Nat → List C4} {k : Nat} {t : List C4} (h : trimB (F k) = t) (ht : t ≠ []) : rowsB F (k + 1) = ((rowsB F k).1 ++ (goesL k 0 ++ pntB (rowsB F k).2 t),pntA (rowsB F k).2 t):=by
 subst h
 rw [rowsB,if_neg ht]
theorem Rg.take_ {w : World} {A : Option Addr} {n : Nat} {cs : List C4} (h : Rg w A n cs) (m : Nat) (hm : m ≤ n) : Rg w A m (cs.take m):=by
 have hl:=h.1
 refine ⟨by rw [List.length_take];omega,fun h0 => ?_⟩
 obtain ⟨g,o,e,hx⟩:=h.2 (by omega)
 refine ⟨g,o,e,fun i hi => ?_⟩
 rw [List.getElem_take]
 exact hx i (by rw [List.length_take] at hi;omega)
/-- All that is written to show a view. -/
def fullL (R C : Int) (cs : List C4) (row col : Int) (hid : Bool) : List Int :=
 if viewB R C cs row col = true then [27,99] ++ (rowsB (fun r => rowF R C cs r) R.toNat).1 ++ bts (rowsB (fun r => rowF R C cs r) R.toNat).2 (0,0,0) ++ goesL row col ++ (if hid = true then hideL true else []) else []
theorem rowF_len (R C : Int) (cs : List C4) (r : Int) (hC : 0 ≤ C) : (rowF R C cs r).length ≤ C.toNat:=by
 unfold rowF
 split
 ·rw [List.length_take];exact Nat.min_le_left _ _
 ·simp
theorem viewB_dim {R C : Int} {cs : List C4} {row col : Int} (h : viewB R C cs row col = true) : 1 ≤ R ∧ R ≤ 30 ∧ 1 ≤ C ∧ C ≤ 100 ∧ (cs.length : Int) = R * C ∧ 0 ≤ row ∧ row < R ∧ 0 ≤ col ∧ col < C:=by
 unfold viewB gridB at h
 rw [Bool.and_eq_true,Bool.and_eq_true] at h
 obtain ⟨⟨h1,-⟩,h2⟩:=h
 have h3:=of_decide_eq_true h1
 have h4:=of_decide_eq_true h2
 exact ⟨h3.1,h3.2.1,h3.2.2.1,h3.2.2.2.1,h3.2.2.2.2,h4⟩
theorem viewB_small {R C : Int} {cs : List C4} {row col : Int} (h : viewB R C cs row col = true) (hn : cs.length ≤ 60) : C ≤ 60:=by
 obtain ⟨h1,h2,h3,h4,h5,-⟩:=viewB_dim h
 have h6:=Int.mul_le_mul h1 (Int.le_refl C) (by omega) (by omega)
 omega
theorem Rg.ltW {w : World} {A : Option Addr} {n : Nat} {cs : List C4} (h : Rg w A n cs) (h0 : 0 < n) : ∀ ad,A = some ad → ad.block < w.heap.size:=fun ad e => by
 obtain ⟨g,o,e2,hx⟩:=h.2 h0
 cases e.symm.trans e2
 have:=hx 0 (by have:=h.1;omega)
 exact lt_of_cell this.1
theorem Rg.below {w w' : World} {A : Option Addr} {n : Nat} {cs : List C4} (h : Rg w A n cs) (hb : Bw w w') : Rg w' A n cs:=h.up hb
theorem pb_new {w : World} {B p : Nat} (h : Kb w p #[.slice none 0 0,.int .i64 0,.int .i8 0,.int .i64 0,.int .i64 0,.int .i64 0] 78) (hB : B ≤ p) : PB w B p (0,0,0) []:=by
 refine LibA.zero_isBuffer hB (lr:=0) ⟨_,h,rfl,rfl,rfl,fun i hi => ?_⟩
 unfold nowR
 rcases (show i = 3 ∨ i = 4 ∨ i = 5 ∨ 6 ≤ i by omega) with rfl|rfl|rfl|h6
 ·rfl
 ·rfl
 ·rfl
 ·rw [if_neg (by omega),if_neg (by omega),if_neg (by omega)]
  exact Array.getElem?_eq_none (by simpa using h6)
theorem pfull_any (R C : Int) (A : Option Addr) (n c : Nat) (cs : List C4) (row col : Int) (hid : Bool) (w0 : World) (hr : Rg w0 A n cs) (hn : n ≤ c) (hc : c ≤ 9223372036854775807) (hn6 : n ≤ 60) (ht : PowT w0.heap.size w0) :
  Calls Tryz.prog 11 #[.agg #[.int .i64 R,.int .i64 C,.slice A n c,.int .i64 row,.int .i64 col,.bool hid]] w0 fun e w' => ∃ v,e = .returned v ∧ Sl (.int .u8) w' v (fullL R C cs row col hid) ∧ Bw w0 w':=by
 have HR:=Lib.hid hr
 have HT:=Lib.hid ht
 have hnl:=hr.1
 cases hv : viewB R C cs row col
 ·have HV:=Lib.hid hv
  have HE:=Lib.hid (show fullL R C cs row col hid = [] by unfold fullL;rw [if_neg (by rw [hv];decide)])
  clear hr ht hv
  go_enter Tryz.func11,Tryz.ntmps11
  go_wp2_with (first
   | (go_at_call 15;refine (gview_any R C A n c cs row col hid _ (HR.out.up BWX) hn hc).mono ?_;rintro ee w1 ⟨rfl,hb1⟩;rw [HV.out];have HB1:=Lib.hid (show Bw w0 w1 from Bw.trans (show Bw w0 _ from BWX) hb1);clear hb1)
   | fail)
  go_ret
  exact ⟨_,rfl,by rw [HE.out];exact Sl.nil_ _ _ _ (by omega),HB1.out⟩
 have HV:=Lib.hid hv
 obtain ⟨hR1,hR2,hC1,hC2,hlen,hrow0,hrow1,hcol0,hcol1⟩:=viewB_dim hv
 have hC6:=viewB_small hv (by omega)
 obtain ⟨Rn,rfl⟩ : ∃ Rn : Nat,R = Rn:=⟨R.toNat,by omega⟩
 obtain ⟨Cn,rfl⟩ : ∃ Cn : Nat,C = Cn:=⟨C.toNat,by omega⟩
 obtain ⟨F,hF⟩ : ∃ F : Nat → List C4,(fun r : Nat => rowF (Rn : Int) (Cn : Int) cs r) = F:=⟨_,rfl⟩
 have HE:=Lib.hid (show fullL Rn Cn cs row col hid = [27,99] ++ (rowsB F Rn).1 ++ bts (rowsB F Rn).2 (0,0,0) ++ goesL row col ++ (if hid = true then hideL true else []) by unfold fullL;rw [if_pos hv,hF,Int.toNat_natCast])
 have HFk:=Lib.hid (show ∀ k : Nat,rowF (Rn : Int) (Cn : Int) cs k = F k from fun k => by rw [← hF])
 have hFl : ∀ k,(F k).length ≤ Cn:=fun k => by rw [← hF];exact rowF_len _ _ _ _ (by omega)
 have hn0 : 0 < n:=by
  have:=Int.mul_le_mul hR1 hC1 (by omega) (by omega)
  rw [← hlen] at this
  omega
 have HA:=Lib.hid (hr.ltW hn0)
 have HFl:=Lib.hid hFl
 have HLk:=Lib.hid (show ∀ k,k ≤ Rn → (rowsB F k).1.length ≤ 400000 from fun k hk => by
  have h1:=rowsB_len F Cn hFl k (by omega)
  have h2:=Nat.mul_le_mul (show k ≤ 30 by omega) (show 8 + 124 * Cn ≤ 12408 by omega)
  omega)
 have hlen2 : n = Rn * Cn:=by rw [← Int.natCast_mul] at hlen;omega
 clear hr ht hv hF hFl hlen hlen2 hnl
 go_enter Tryz.func11,Tryz.ntmps11
 go_upto_region 3 with (first
  | (go_at_call 15;refine (gview_any Rn Cn A n c cs row col hid _ (HR.out.up BWX) hn hc).mono ?_;rintro ee w1 ⟨rfl,hb1⟩;rw [HV.out];have hb01 : Bw w0 w1:=Bw.trans (show Bw w0 _ from BWX) hb1;have HKV:=Lib.hid (Kb.up (show Kb _ w0.heap.size #[.int .i64 (Rn : Int),.int .i64 (Cn : Int),.slice A n c,.int .i64 row,.int .i64 col,.bool hid] 27 from heap_at (by simp)) hb1);clear hb1)
  | fail)
 have hz1:=hb01.size
 obtain ⟨kv,hkv⟩ : ∃ kv,kv = w0.heap.size:=⟨_,rfl⟩
 rw [← hkv] at HKV ⊢
 have hkv1:=lt_heap HKV.out
 obtain ⟨B,hB⟩ : ∃ B,B = w0.heap.size:=⟨_,rfl⟩
 rw [← hB] at HT
 have hbB : B ≤ kv:=by omega
 have HB0:=Lib.hid hB
 have HA0:=Lib.hid (show ∀ w',Below B w0 w' → Rg w' A n cs from fun w' hb => HR.out.same (fun ad e => hb.block _ (by rw [hB];exact HA.out ad e)))
 have HBel:=Lib.hid (show ∀ w',Below B w0 w' → Bw w0 w' from fun w' hb => by rw [hB] at hb;exact hb)
 have hbz : B ≤ w1.heap.size:=by omega
 have hbz0 : B ≤ w0.heap.size:=by omega
 clear hkv hB
 go_upto_region 4 with (fail)
 generalize hw2 : w1.alloc _ = w2
 obtain ⟨hk2,hb12,hz2⟩:=kb1 hw2
 obtain ⟨p,hp⟩ : ∃ p,p = w1.heap.size:=⟨_,rfl⟩
 rw [← hp] at hk2 ⊢
 have HP2:=Lib.hid (pb_new (B:=B) hk2 (by omega))
 have HKV2:=Lib.hid (HKV.out.up hb12)
 have HW2:=Lib.hid (Pw.bw (p:=p) (Bw.trans hb01 hb12) hbz0)
 have hkp : kv ≠ p:=by omega
 have hbp : B ≤ p:=by omega
 clear hw2 hk2 hb12 hp HKV hb01 hkv1
 go_upto_region 5 with (first
  | (go_at_call 30;refine (pstr_of ⟨#[27,99]⟩ [27,99] _ B p (0,0,0) [] (by rfl) (HP2.out.up BWX) (by simp)).mono ?_;rintro ee w3 ⟨rfl,h3,p3⟩;have HP3:=Lib.hid h3;have HW23:=Lib.hid ((Pw.bw (p:=p) (show Bw w2 _ from BWX) (by omega : B ≤ w2.heap.size)).trans p3);clear h3 p3)
  | fail)
 have HKV3:=Lib.hid (HKV2.out.pw HW23.out hkp (by decide))
 have HW3:=Lib.hid (HW2.out.trans HW23.out)
 have hz3:=HW23.out.1.size
 clear HKV2 HP2 HW2 HW23
 go_upto_region 6 with (first
  | (go_at_call 31;refine (gblank_any 0 0 0 _).mono ?_;rintro ee w4 ⟨rfl,hb4⟩;have hb34 : Bw w3 w4:=Bw.trans (show Bw w3 _ from BWX) hb4;clear hb4)
  | fail)
 generalize hw5 : World.alloc _ _ = w5
 obtain ⟨hk5,hb45,hz5⟩:=kb1 hw5
 obtain ⟨kb,hkb⟩ : ∃ kb,kb = w4.heap.size:=⟨_,rfl⟩
 rw [← hkb] at hk5 ⊢
 have HKB5:=Lib.hid hk5
 have hb35:=Bw.trans hb34 hb45
 have HKV5:=Lib.hid (HKV3.out.up hb35)
 have HP5:=Lib.hid (HP3.out.up hb35)
 have HW5:=Lib.hid (HW3.out.trans (Pw.bw (p:=p) hb35 (by omega : B ≤ w3.heap.size)))
 have hkbp : kb ≠ p:=by have:=HP3.out.lt;have:=hb34.size;omega
 have hkbl : B ≤ kb:=by have:=hb34.size;omega
 have hz35:=hb35.size
 clear hw5 hk5 hb45 hkb hb34 HP3 HKV3 HW3 hb35
 have x0:=HKV5.out.cell 0 (v:=.int .i64 (Rn : Int)) rfl
 have hkv5:=lt_heap HKV5.out
 go_wp2_with fail
 go_loopw [17] (fun i wr => ∃ k : Nat,i = .int .i64 k ∧ k ≤ Rn ∧ PB wr B p (rowsB F k).2 ([27,99] ++ (rowsB F k).1) ∧ Pw B p w5 wr) (fun i _ => Rn - (intOf i).toNat)
 case atStart => exact ⟨0,rfl,by omega,by show PB _ B p (0,0,0) ([27,99] ++ []);rw [List.append_nil];exact HP5.out.up BWX,Pw.bw (show Bw w5 _ from BWX) (by omega)⟩
 case round =>
  obtain ⟨wz,hwz⟩ : ∃ wz : World,wz = wr:=⟨_,rfl⟩
  subst hwz
  obtain ⟨k,rfl,hk,hbz2,hpz⟩:=hrel
  have HPZ:=Lib.hid hbz2
  have HWZ:=Lib.hid hpz
  have HKVz:=Lib.hid (HKV5.out.pw hpz hkp (by decide))
  have HKBz:=Lib.hid (HKB5.out.pw hpz hkbp (by decide))
  have hltz:=hbz2.lt
  have hzz:=hpz.1.size
  have HRz:=Lib.hid (HA0.out wz (HW5.out.trans hpz).1)
  have hkvz:=lt_heap HKVz.out
  have hkbz:=lt_heap HKBz.out
  clear hbz2 hpz
  by_cases hlt : k < Rn
  ·have e0 : (0 : Int) ≤ k:=by omega
   have e1 : (k : Int) < Rn:=by omega
   have y0:=HKVz.out.cell 0 (v:=.int .i64 (Rn : Int)) rfl
   have y1:=HKVz.out.cell 1 (v:=.int .i64 (Cn : Int)) rfl
   have y2:=HKVz.out.cell 2 (v:=.slice A n c) rfl
   go_upto_region 10 with (first
    | (go_at_call 32;refine (grow_own Rn Cn A n c cs k _ (HRz.out.up BWX) hn (by omega) hc).mono ?_;rintro ee w6 ⟨Ar,nr,cr,rfl,hnr,ho6,hb6⟩;rw [HFk.out k] at hnr ho6;have hb6z : Bw wz w6:=Bw.trans (show Bw wz _ from BWX) hb6;have HO6:=Lib.hid ho6;have HNR:=Lib.hid hnr;clear hb6 hnr ho6 y0 y1 y2)
    | fail)
   obtain ⟨A2,c2,e2,hc2,hcm2⟩:=own_form HO6.out
   cases e2
   have hnr6 : nr ≤ Cn:=by rw [HNR.out];exact HFl.out k
   have HKV6:=Lib.hid (HKVz.out.up hb6z)
   have HKB6:=Lib.hid (HKBz.out.up hb6z)
   have HP6:=Lib.hid (HPZ.out.up hb6z)
   have HR6:=Lib.hid (Rg.of_own HO6.out)
   have HC6:=Lib.hid (own_celT HO6.out)
   have HW6:=Lib.hid (HWZ.out.trans (Pw.bw (p:=p) hb6z (by omega : B ≤ wz.heap.size)))
   have hz6:=hb6z.size
   obtain ⟨ys,hys⟩ : ∃ ys,F k = ys:=⟨_,rfl⟩
   have HYS:=Lib.hid hys
   rw [hys] at HR6 HNR HO6
   clear hys hb6z HKVz HKBz HPZ HRz
   go_wp2_with fail
   go_loopw [6] (fun v wr => ∃ m : Nat,v = .slice Ar m cr ∧ m ≤ nr ∧ trimB (ys.take m) = trimB ys ∧ Bw w6 wr) (fun v _ => match v with | .slice _ m _ => m|_ => 0)
   case atStart => exact ⟨nr,rfl,Nat.le_refl _,by rw [HNR.out,List.take_length],BWX⟩
   case round =>
    obtain ⟨wy,hwy⟩ : ∃ wy : World,wy = wr:=⟨_,rfl⟩
    subst hwy
    obtain ⟨m,rfl,hm,htm,hby⟩:=hrel
    have HTM:=Lib.hid htm
    have HBY:=Lib.hid hby
    have HRy:=Lib.hid (HR6.out.up hby)
    have HKBy:=Lib.hid (HKB6.out.up hby)
    have HKVy:=Lib.hid (HKV6.out.up hby)
    have HPy:=Lib.hid (HP6.out.up hby)
    have HCy:=Lib.hid (HC6.out.up hby)
    have hzy:=hby.size
    clear htm hby
    by_cases hm0 : m = 0
    ·subst hm0
     have HT0:=Lib.hid (show rowsB F (k + 1) = rowsB F k from rowsB_nil (by rw [HYS.out];have h:=HTM.out;rw [List.take_zero] at h;rw [← h];rfl))
     have HY:=Lib.hid (show ∀ w',Bw wy w' → w'.cell? ⟨kb,0,none⟩ = some (.int .i64 32) from fun w' hb => (HKBy.out.up hb).cell 0 rfl)
     go_upto_region 10 with (fail)
     refine wp_region_held_drew (S:=(fun w' => w'.cell? ⟨kb,0,none⟩ = some (.int .i64 32))) (by kernel_rfl) ?_ (fun hHeld => ?_)
     ·(try dsimp only);(refine HY.out _ ?_;exact BWX)
     refine tkQ 0 ?_
     refine tkQ 1 ?_
     refine tkQ 2 ?_
     (try simp only [Act.put,zP1,zP2,zP3,zP4,zP5,zP6])
     refine tkQ 3 ?_
     (try simp only [Act.put,zP1,zP2,zP3,zP4,zP5,zP6])
     refine wpAnyH_take (i:=4) (v:=undef) rfl (by kernel_rfl) (by kernel_rfl) (by kernel_rfl) (fun _ _ _ h => h) (Or.inr ⟨by rfl,rfl⟩) (by assumption) ?_
     (try simp only [Act.put,zP1,zP2,zP3,zP4,zP5,zP6])
     refine wpAnyH_take (i:=5) (v:=undef) rfl (by kernel_rfl) (by kernel_rfl) (by kernel_rfl) (fun _ _ _ h => h) (Or.inr ⟨by rfl,rfl⟩) (by assumption) ?_
     (try simp only [Act.put,zP1,zP2,zP3,zP4,zP5,zP6])
     refine wpAnyH_take (i:=6) (v:=undef) rfl (by kernel_rfl) (by kernel_rfl) (by kernel_rfl) (fun _ _ _ h => h) (Or.inr ⟨by rfl,rfl⟩) (by assumption) ?_
     (try simp only [Act.put,zP1,zP2,zP3,zP4,zP5,zP6])
     refine wpAnyH_take (i:=7) (v:=undef) rfl (by kernel_rfl) (by kernel_rfl) (by kernel_rfl) (fun _ _ _ h => h) (Or.inr ⟨by rfl,rfl⟩) (by assumption) ?_
     (try simp only [Act.put,zP1,zP2,zP3,zP4,zP5,zP6])
     refine wpAnyH_take (i:=8) (v:=undef) rfl (by kernel_rfl) (by kernel_rfl) (by kernel_rfl) (fun _ _ _ h => h) (Or.inr ⟨by rfl,rfl⟩) (by assumption) ?_
     (try simp only [Act.put,zP1,zP2,zP3,zP4,zP5,zP6])
     refine wpAnyH_take (i:=9) (v:=undef) rfl (by kernel_rfl) (by kernel_rfl) (by kernel_rfl) (fun _ _ _ h => h) (Or.inr ⟨by rfl,rfl⟩) (by assumption) ?_
     (try simp only [Act.put,zP1,zP2,zP3,zP4,zP5,zP6])
     refine wpAnyH_take (i:=10) (v:=undef) rfl (by kernel_rfl) (by kernel_rfl) (by kernel_rfl) (fun _ _ _ h => h) (Or.inr ⟨by rfl,rfl⟩) (by assumption) ?_
     (try simp only [Act.put,zP1,zP2,zP3,zP4,zP5,zP6])
     refine wpAnyH_take (i:=11) (v:=undef) rfl (by kernel_rfl) (by kernel_rfl) (by kernel_rfl) (fun _ _ _ h => h) (Or.inr ⟨by rfl,rfl⟩) (by assumption) ?_
     (try simp only [Act.put,zP1,zP2,zP3,zP4,zP5,zP6])
     refine tkQ 12 ?_
     (try simp only [Act.put,zP1,zP2,zP3,zP4,zP5,zP6])
     refine wpAnyH_done (by kernel_rfl) ?_ _
     go_wp2_with fail
     go_roundw
     case rel => exact ⟨k + 1,by go_num,by omega,by rw [HT0.out];exact HPy.out.up BWX,HW6.out.trans (Pw.bw (p:=p) (Bw.trans HBY.out (show Bw wy _ from BWX)) (by omega : B ≤ w6.heap.size))⟩
     case measure => simp [intOf];omega
    ·obtain ⟨q,rfl⟩ : ∃ q,m = q + 1:=⟨m - 1,by omega⟩
     have hlen:=HR6.out.1
     obtain ⟨g,o,e,hx⟩:=HRy.out.2 (by omega)
     subst e
     have h1:=hx q (by omega)
     obtain ⟨⟨d1,d2,d3,d4⟩,hd⟩ : ∃ d,d = ys[q]'(by omega):=⟨_,rfl⟩
     rw [← hd] at h1
     have HSN:=Lib.hid (show ys.take (q + 1) = ys.take q ++ [(d1,d2,d3,d4)] by rw [hd,List.take_add_one,List.getElem?_eq_getElem (by omega)];rfl)
     obtain ⟨a0,a1,a2,a3⟩:=h1
     dsimp only at a0 a1 a2 a3
     have hgy : g < wy.heap.size:=lt_of_cell a0
     have HCX:=Lib.hid (And.intro a0 (And.intro a1 (And.intro a2 a3)))
     have hq0 : (0 : Int) ≤ q:=by omega
     have hq1 : (q : Int) < 100:=by omega
     have hq2 : (q : Int) + 1 ≤ cr:=by omega
     have hq3 : (q : Int) < (q : Int) + 1:=by omega
     have hqw : IntKind.i64.wrap (q : Int) = q:=IntWalk.i64_in _ (by omega)
     have HY:=Lib.hid (show ∀ w',Bw wy w' → (w'.cell? ⟨g,o + q * 4,none⟩ = some (.int .i64 d1) ∧ w'.cell? ⟨g,o + q * 4 + 1,none⟩ = some (.int .i64 d2) ∧ w'.cell? ⟨g,o + q * 4 + 2,none⟩ = some (.int .i64 d3) ∧ w'.cell? ⟨g,o + q * 4 + 3,none⟩ = some (.int .i64 d4) ∧ w'.cell? ⟨kb,0,none⟩ = some (.int .i64 32) ∧ w'.cell? ⟨kb,1,none⟩ = some (.int .i64 0) ∧ w'.cell? ⟨kb,2,none⟩ = some (.int .i64 0) ∧ w'.cell? ⟨kb,3,none⟩ = some (.int .i64 0)) from fun w' hb => ⟨cell_bw hb HCX.out.1,cell_bw hb HCX.out.2.1,cell_bw hb HCX.out.2.2.1,cell_bw hb HCX.out.2.2.2,(HKBy.out.up hb).cell 0 rfl,(HKBy.out.up hb).cell 1 rfl,(HKBy.out.up hb).cell 2 rfl,(HKBy.out.up hb).cell 3 rfl⟩)
     clear hx hd hlen hm0 a0 a1 a2 a3
     by_cases hbk : (d1,d2,d3,d4) = blk
     ·have HTQ:=Lib.hid (show trimB (ys.take q) = trimB ys by rw [← HTM.out,HSN.out,hbk];exact (trimB_blk _).symm)
      simp only [blk,Prod.mk.injEq] at hbk
      obtain ⟨rfl,rfl,rfl,rfl⟩:=hbk
      go_upto_region 10 with (fail)
      refine wp_region_held_drew (S:=(fun w' => w'.cell? ⟨g,o + q * 4,none⟩ = some (.int .i64 32) ∧ w'.cell? ⟨g,o + q * 4 + 1,none⟩ = some (.int .i64 0) ∧ w'.cell? ⟨g,o + q * 4 + 2,none⟩ = some (.int .i64 0) ∧ w'.cell? ⟨g,o + q * 4 + 3,none⟩ = some (.int .i64 0) ∧ w'.cell? ⟨kb,0,none⟩ = some (.int .i64 32) ∧ w'.cell? ⟨kb,1,none⟩ = some (.int .i64 0) ∧ w'.cell? ⟨kb,2,none⟩ = some (.int .i64 0) ∧ w'.cell? ⟨kb,3,none⟩ = some (.int .i64 0))) (by kernel_rfl) ?_ (fun hHeld => ?_)
      ·(try dsimp only);(refine HY.out _ ?_;exact BWX)
      refine tkQ 0 ?_
      (try simp only [Act.put,zP1,zP2,zP3,zP4,zP5,zP6])
      refine tkQ 1 ?_
      refine tkQ 2 ?_
      refine tkQ 3 ?_
      (try simp only [Act.put,zP1,zP2,zP3,zP4,zP5,zP6])
      refine tkQ 4 ?_
      refine tkQ 5 ?_
      refine tkQ 6 ?_
      (try simp only [Act.put,zP1,zP2,zP3,zP4,zP5,zP6])
      refine tkQ 7 ?_
      refine tkQ 8 ?_
      refine tkQ 9 ?_
      (try simp only [Act.put,zP1,zP2,zP3,zP4,zP5,zP6])
      refine tkQ 10 ?_
      (try simp only [Act.put,zP1,zP2,zP3,zP4,zP5,zP6])
      refine wpAnyH_take (i:=11) (v:=.bool true) rfl (by kernel_rfl) (by kernel_rfl) (by kernel_rfl) (fun _ _ _ h => h) (Or.inl ⟨by rfl,?ht11⟩) (by assumption) ?_;case ht11 => (intro w hSw;(try dsimp only at hSw);go_simp;(try rfl))
      (try simp only [Act.put,zP1,zP2,zP3,zP4,zP5,zP6])
      refine tkQ 12 ?_
      (try simp only [Act.put,zP1,zP2,zP3,zP4,zP5,zP6])
      refine wpAnyH_done (by kernel_rfl) ?_ _
      go_wp2_with fail
      go_roundw
      case rel => exact ⟨q,by first|rfl|(simp;done)|(congr 1;omega),by omega,HTQ.out,Bw.trans HBY.out BWX⟩
      case measure => (first|(simp;done)|(simp;omega)|omega)
     ·have HTQ:=Lib.hid (show trimB (F k) = ys.take (q + 1) by rw [HYS.out,← HTM.out,HSN.out];exact trimB_no _ _ hbk)
      have HNE:=Lib.hid (show ¬ (d1 = 32 ∧ d2 = 0 ∧ d3 = 0 ∧ d4 = 0) from fun h => hbk (by obtain ⟨rfl,rfl,rfl,rfl⟩:=h;rfl))
      have HRC:=Lib.hid (show rowsB F (k + 1) = _ from rowsB_cons HTQ.out (by rw [HSN.out];simp))
      obtain ⟨bs,hbs⟩ : ∃ bs,[27,99] ++ (rowsB F k).1 = bs:=⟨_,rfl⟩
      obtain ⟨x,hx⟩ : ∃ x,(rowsB F k).2 = x:=⟨_,rfl⟩
      have hbl : bs.length ≤ 400002:=by rw [← hbs,List.length_append];have:=HLk.out k (by omega);simp only [List.length_cons,List.length_nil];omega
      rw [hbs,hx] at HPy
      have HBX:=Lib.hid (And.intro hbs hx)
      clear hbk hbs hx
      go_upto_region 10 with (fail)
      refine wp_region_held_drew (S:=(fun w' => w'.cell? ⟨g,o + q * 4,none⟩ = some (.int .i64 d1) ∧ w'.cell? ⟨g,o + q * 4 + 1,none⟩ = some (.int .i64 d2) ∧ w'.cell? ⟨g,o + q * 4 + 2,none⟩ = some (.int .i64 d3) ∧ w'.cell? ⟨g,o + q * 4 + 3,none⟩ = some (.int .i64 d4) ∧ w'.cell? ⟨kb,0,none⟩ = some (.int .i64 32) ∧ w'.cell? ⟨kb,1,none⟩ = some (.int .i64 0) ∧ w'.cell? ⟨kb,2,none⟩ = some (.int .i64 0) ∧ w'.cell? ⟨kb,3,none⟩ = some (.int .i64 0))) (by kernel_rfl) ?_ (fun hHeld => ?_)
      ·(try dsimp only);(refine HY.out _ ?_;exact BWX)
      refine tkQ 0 ?_
      (try simp only [Act.put,zP1,zP2,zP3,zP4,zP5,zP6])
      refine tkQ 1 ?_
      refine tkQ 2 ?_
      refine tkQ 3 ?_
      (try simp only [Act.put,zP1,zP2,zP3,zP4,zP5,zP6])
      refine tkQ 4 ?_
      refine tkQ 5 ?_
      refine tkQ 6 ?_
      (try simp only [Act.put,zP1,zP2,zP3,zP4,zP5,zP6])
      refine tkQ 7 ?_
      refine tkQ 8 ?_
      refine tkQ 9 ?_
      (try simp only [Act.put,zP1,zP2,zP3,zP4,zP5,zP6])
      refine tkQ 10 ?_
      (try simp only [Act.put,zP1,zP2,zP3,zP4,zP5,zP6])
      refine wpAnyH_take (i:=11) (v:=.bool false) rfl (by kernel_rfl) (by kernel_rfl) (by kernel_rfl) (fun _ _ _ h => h) (Or.inl ⟨by rfl,?ht11⟩) (by assumption) ?_;case ht11 => (intro w hSw;(try dsimp only at hSw);go_simp;(first|(exact fun a b c d => HNE.out ⟨a,b,c,d⟩)|(have hne:=HNE.out;(repeat' split) <;> first|rfl|(exfalso;omega))))
      (try simp only [Act.put,zP1,zP2,zP3,zP4,zP5,zP6])
      refine tkQ 12 ?_
      (try simp only [Act.put,zP1,zP2,zP3,zP4,zP5,zP6])
      refine wpAnyH_done (by kernel_rfl) ?_ _
      go_wp2_with (first
       | (go_at_call 33;refine (ppaint_any k 0 (some ⟨g,o,none⟩) (q + 1) cr (ys.take (q + 1)) _ B p x bs (HPy.out.up BWX) (PowT.on HT.out (HW5.out.trans (HW6.out.trans (Pw.bw (p:=p) (Bw.trans HBY.out (show Bw wy _ from BWX)) (by omega : B ≤ w6.heap.size)))).1) ((HRy.out.take_ (q + 1) hm).up BWX) (HCy.out.up BWX) (by omega) hcm2 (by omega) (by omega) (by omega) (by omega) (by omega) (by omega)).mono ?_;rintro ee w8 ⟨rfl,h8,p8⟩;have HP8:=Lib.hid h8;have HW8:=Lib.hid (HW6.out.trans ((Pw.bw (p:=p) (Bw.trans HBY.out (show Bw wy _ from BWX)) (by omega : B ≤ w6.heap.size)).trans p8));clear h8 p8)
       | fail)
      go_roundw
      case rel => exact ⟨k + 1,by go_num,by omega,by rw [HRC.out];have h9:=HP8.out.up (show Bw w8 _ from BWX);rw [← HBX.out.1,← HBX.out.2] at h9;simp only [List.append_assoc] at h9 ⊢;exact h9,HW8.out.trans (Pw.bw (p:=p) (show Bw w8 _ from BWX) (by have:=HP8.out.lt;omega))⟩
      case measure => simp [intOf];omega
  ·obtain rfl : k = Rn:=by omega
   obtain ⟨bs,hbs⟩ : ∃ bs,[27,99] ++ (rowsB F k).1 = bs:=⟨_,rfl⟩
   obtain ⟨⟨x1,x2,x3⟩,hx⟩ : ∃ x,(rowsB F k).2 = x:=⟨_,rfl⟩
   have hbl : bs.length ≤ 400002:=by rw [← hbs,List.length_append];have:=HLk.out k (by omega);simp only [List.length_cons,List.length_nil];omega
   have hb2:=bts_len (x1,x2,x3) (0,0,0)
   have hgl:=goesL_len row col (by omega) (by omega)
   rw [hbs,hx] at HPZ HE
   have HW0:=Lib.hid (HW5.out.trans HWZ.out)
   have y0:=HKVz.out.cell 0 (v:=.int .i64 (k : Int)) rfl
   have y1:=HKVz.out.cell 1 (v:=.int .i64 (Cn : Int)) rfl
   have y2:=HKVz.out.cell 2 (v:=.slice A n c) rfl
   have y3:=HKVz.out.cell 3 (v:=.int .i64 row) rfl
   have y4:=HKVz.out.cell 4 (v:=.int .i64 col) rfl
   have y5:=HKVz.out.cell 5 (v:=.bool hid) rfl
   clear hbs hx
   go_upto_region 16 with (first
    | (go_at_call 34;refine (pend_any k Cn A n c row col hid _ B p x1 x2 x3 bs (HPZ.out.up BWX) (PowT.on HT.out (HW0.out.trans (Pw.bw (p:=p) (show Bw wz _ from BWX) (by omega))).1) hrow0 (by omega) hcol0 (by omega) (by omega)).mono ?_;rintro ee w6 ⟨rfl,h6,p6⟩;have HP6:=Lib.hid h6;have HW6:=Lib.hid ((Pw.bw (p:=p) (show Bw wz _ from BWX) (by omega : B ≤ wz.heap.size)).trans p6);have HKV6:=Lib.hid (HKVz.out.pw HW6.out hkp (by decide));have HW06:=Lib.hid (HW0.out.trans HW6.out);clear h6 p6 y0 y1 y2 y3 y4 y5)
    | fail)
   have y5:=HKV6.out.cell 5 (v:=.bool hid) rfl
   have hkv6:=lt_heap HKV6.out
   have hz6:=HW6.out.1.size
   have hlt6:=HP6.out.lt
   have hll : (bs ++ bts (x1,x2,x3) (0,0,0) ++ goesL row col).length ≤ 500000:=by simp only [List.length_append];omega
   cases hid
   ·have HE2 : fullL (k : Int) (Cn : Int) cs row col false = bs ++ bts (x1,x2,x3) (0,0,0) ++ goesL row col:=HE.out.trans (List.append_nil _)
    go_wp2_with (first
     | (go_at_call 36;refine (pbytes_any _ B p (0,0,0) _ (HP6.out.up BWX) (by omega)).mono ?_;rintro ee w8 ⟨v,rfl,hv8,hb8⟩;have HV8:=Lib.hid hv8;have HW8:=Lib.hid (HW06.out.trans (Pw.bw (p:=p) (Bw.trans (show Bw w6 _ from BWX) hb8) (by omega)));clear hv8 hb8)
     | fail)
    go_ret
    exact ⟨_,rfl,by rw [HE2];exact HV8.out,HBel.out _ HW8.out.1⟩
   ·have HE2 : fullL (k : Int) (Cn : Int) cs row col true = bs ++ bts (x1,x2,x3) (0,0,0) ++ goesL row col ++ hideL true:=HE.out
    go_wp2_with (first
     | (go_at_call 35;refine (pcursor_any true _ B p (0,0,0) _ (HP6.out.up BWX) (by omega)).mono ?_;rintro ee w7 ⟨rfl,h7,p7⟩;have HP7:=Lib.hid h7;have HW7:=Lib.hid (HW06.out.trans ((Pw.bw (p:=p) (show Bw w6 _ from BWX) (by omega : B ≤ w6.heap.size)).trans p7));have hz7:=p7.1.size;clear h7 p7)
     | (go_at_call 36;refine (pbytes_any _ B p (0,0,0) _ (HP7.out.up BWX) (by rw [List.length_append];simp only [hideL,if_true,List.length_cons,List.length_nil];omega)).mono ?_;rintro ee w8 ⟨v,rfl,hv8,hb8⟩;have HV8:=Lib.hid hv8;have HW8:=Lib.hid (HW7.out.trans (Pw.bw (p:=p) (Bw.trans (show Bw w7 _ from BWX) hb8) (by have:=HP7.out.lt;omega)));clear hv8 hb8)
     | fail)
    go_ret
    exact ⟨_,rfl,by rw [HE2];exact HV8.out,HBel.out _ HW8.out.1⟩
end Go.Proofs.YteebdjmjeahccaaGreatDoor
