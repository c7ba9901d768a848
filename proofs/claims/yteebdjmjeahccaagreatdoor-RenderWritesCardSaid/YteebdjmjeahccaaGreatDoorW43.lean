/- Parts of the proof, one after the other. -/
import Derived.Test.YteebdjmjeahccaaGreatDoorW40
import Derived.Test.YteebdjmjeahccaaGreatDoorW04
import Derived.Test.YteebdjmjeahccaaGreatDoorW30
import Derived.Test.YteebdjmjeahccaaGreatDoorW31
import Derived.Test.YteebdjmjeahccaaGreatDoorW06
import Derived.Test.YteebdjmjeahccaaGreatDoorW24
import Derived.Test.YteebdjmjeahccaaGreatDoorW41
import Derived.Deep.RegionHeld3
import Derived.Test.YteebdjmjeahccaaGreatDoorW33
import Derived.Laws.Tables
set_option linter.unusedSimpArgs false
set_option linter.unusedVariables false
set_option maxRecDepth 100000
set_option maxHeartbeats 16000000
namespace Go.Proofs.YteebdjmjeahccaaGreatDoor
open Go.RowKit
theorem dec1b (n : Int) (w : World) (h0 : 0 ≤ n) (h1 : n < 10) : Calls Tryz.prog 64 #[.int .i64 n] w (DecP w 1 [.int .u8 (48 + n)]):=by
 go_enter Tryz.func64,Tryz.ntmps64
 go_wp2_with (fail)
 go_ret
 exact ⟨_,rfl,own_lit (cs:=#[.int .u8 (48 + n)]) rfl (Nat.le_refl _) (by unfold maxLen;omega) rfl rfl,BWX⟩
theorem dec2b (n : Int) (w : World) (h0 : 10 ≤ n) (h1 : n < 100) : Calls Tryz.prog 64 #[.int .i64 n] w (DecP w 2 [.int .u8 (48 + n / 10),.int .u8 (48 + n % 10)]):=by
 obtain ⟨i0,hi,hz0,hz1,hz2⟩:=info_parts infoB
 go_enter Tryz.func64,Tryz.ntmps64
 go_wp2_with (first
  | (go_at_call 64;refine (dec1b (n / 10) _ (by omega) (by omega)).mono ?_;rintro e w1 ⟨v1,rfl,hown1,hb1⟩;obtain ⟨A1,c1,rfl,hc1,hc1m⟩:=own_form hown1;have HO:=Lib.hid hown1;clear hown1)
  | (at_builtin;refine wpList_append_srcG (by rfl) (.tmp 11) (.tmp 16) 33 rfl w.heap.size 5 i0 (.int .u8 0) 1 1 Tryz.underlying33 hi hz0 hz1 hz2 rfl (by decide) (.slice A1 1 c1) 1 _ (by rfl) (HO.out.alloc _) (some ⟨_,0,none⟩) 1 1 [.int .u8 (48 + n % 10)] (by rfl) rfl (fun e => by cases e) (fun ad e => by cases e;exact cell_one_new _ _ _) (by simp;rfl) (by unfold maxLen;omega) (by omega) (by have:=hb1.size;simp;omega) ?_;intro v3 w3 hown3 hg3;have hbw3 : Bw w w3:=Bw.row (Bw.alloc hb1 _) (HO.out.alloc _) hg3 (Nat.le_refl _))
  | fail)
 go_ret
 exact ⟨_,rfl,hown3,hbw3⟩
theorem decL_1 (v : Int) (h0 : 0 ≤ v) (h1 : v < 10) : decL v = [48 + v]:=by
 unfold decL bsI
 rw [Lib.decDigits,dif_pos (by omega)]
 simp only [List.map_cons,List.map_nil,List.cons.injEq,and_true]
 have h : (UInt8.ofNat (48 + v.toNat)).toNat = 48 + v.toNat:=by rw [UInt8.toNat_ofNat'];omega
 rw [h]
 omega
theorem decL_2 (v : Int) (h0 : 10 ≤ v) (h1 : v < 100) : decL v = [48 + v / 10,48 + v % 10]:=by
 have h2:=decL_1 (v / 10) (by omega) (by omega)
 unfold decL bsI at h2 ⊢
 rw [Lib.decDigits,dif_neg (by omega),List.map_append,show v.toNat / 10 = (v / 10).toNat by omega,h2]
 simp only [List.map_cons,List.map_nil,List.cons_append,List.nil_append,List.cons.injEq,and_true,true_and]
 have h : (UInt8.ofNat (48 + v.toNat % 10)).toNat = 48 + v.toNat % 10:=by rw [UInt8.toNat_ofNat'];omega
 rw [h]
 omega
theorem decb_any (v : Int) (w : World) (h0 : 0 ≤ v) (h1 : v < 100) : Calls Tryz.prog 64 #[.int .i64 v] w fun e w' => ∃ u,e = .returned u ∧ w'.ownsRow w.heap.size 5 1 u (decL v).length ((decL v).map (.int .u8)) ∧ Bw w w':=by
 by_cases h : v < 10
 ·refine (dec1b v w h0 h).mono ?_
  rintro e w' ⟨u,rfl,h3,h4⟩
  exact ⟨u,rfl,by rw [decL_1 v h0 h];exact h3,h4⟩
 ·refine (dec2b v w (by omega) h1).mono ?_
  rintro e w' ⟨u,rfl,h3,h4⟩
  exact ⟨u,rfl,by rw [decL_2 v (by omega) h1];exact h3,h4⟩
/-- The call returns a row of bytes of its own. -/
def OwB (w : World) (bs : List Int) (e : Ending) (w' : World) : Prop:=∃ u,e = .returned u ∧ w'.ownsRow w.heap.size 5 1 u bs.length (bs.map (.int .u8)) ∧ Bw w w'
theorem rgoes_any (r c : Int) (w : World) (hr0 : 0 ≤ r) (hr1 : r < 99) (hc0 : 0 ≤ c) (hc1 : c < 99) : Calls Tryz.prog 40 #[.int .i64 r,.int .i64 c] w (OwB w (goesL r c)):=by
 obtain ⟨i0,hi,hz0,hz1,hz2⟩:=info_parts infoB
 have hw1 : IntKind.i64.wrap (r + 1) = r + 1:=IntWalk.i64_in _ (by omega)
 have hw2 : IntKind.i64.wrap (c + 1) = c + 1:=IntWalk.i64_in _ (by omega)
 have hd1:=decL_len (r + 1) (by omega)
 have hd2:=decL_len (c + 1) (by omega)
 obtain ⟨D1,hD1⟩ : ∃ D,decL (r + 1) = D:=⟨_,rfl⟩
 obtain ⟨D2,hD2⟩ : ∃ D,decL (c + 1) = D:=⟨_,rfl⟩
 have HE:=Lib.hid (show goesL r c = [27,91] ++ (D1 ++ ([59] ++ (D2 ++ [72]))) by unfold goesL;rw [hD1,hD2])
 have HD1:=Lib.hid hD1
 have HD2:=Lib.hid hD2
 rw [hD1] at hd1
 rw [hD2] at hd2
 clear hD1 hD2
 go_enter Tryz.func40,Tryz.ntmps40
 go_upto_region 2 with (first
  | (go_at_call 64;refine (decb_any (r + 1) _ (by omega) (by omega)).mono ?_;rw [HD1.out];rintro e w1 ⟨u1,rfl,hown1,hb1⟩;obtain ⟨A1,c1,rfl,hc1',hc1m⟩:=own_form hown1;have HO1:=Lib.hid hown1;have HL:=Lib.hid ((own_lit (w:=w) (base:=w.heap.size) (e:=5) (cs:=#[.int .u8 27,.int .u8 91]) (n:=2) (xs:=[.int .u8 27,.int .u8 91]) rfl (Nat.le_refl _) (by unfold maxLen;omega) rfl rfl).bw (Bw.trans (show Bw _ _ from BWX) hb1));have HB1:=Lib.hid (show Bw w w1 from Bw.trans (show Bw w _ from BWX) hb1);clear hown1 hb1)
  | (at_builtin;refine wpList_append_srcG (by rfl) (.tmp 6) (.tmp 9) 33 rfl w.heap.size 5 i0 (.int .u8 0) 1 1 Tryz.underlying33 hi hz0 hz1 hz2 rfl (by decide) (.slice (some ⟨w.heap.size,0,none⟩) 2 2) 2 [.int .u8 27,.int .u8 91] (by rfl) (HL.out.bw (show Bw w1 _ from BWX)) A1 D1.length c1 (D1.map (.int .u8)) (by rfl) (by simp) (fun e => ((own_rd HO1.out).none_ e).1) ((own_rd HO1.out).up (show Bw w1 _ from BWX)).news2 (one_u8 _) (by unfold maxLen;omega) (by omega) (by have:=HB1.out.size;simp;omega) ?_;intro v2 w2 hown2 hg2;obtain ⟨A2,c2,rfl,hc2',hc2m⟩:=own_form hown2;have HO2:=Lib.hid hown2;have HB2:=Lib.hid (show Bw w w2 from Bw.row (Bw.trans HB1.out (show Bw w1 _ from BWX)) (HL.out.bw (show Bw w1 _ from BWX)) hg2 (Nat.le_refl _));clear hown2 hg2)
  | fail)
 go_wp2_with (first
  | (at_builtin;refine wpList_append_srcG (by rfl) (.tmp 11) (.tmp 12) 33 rfl w.heap.size 5 i0 (.int .u8 0) 1 1 Tryz.underlying33 hi hz0 hz1 hz2 rfl (by decide) (.slice A2 (2 + D1.length) c2) (2 + D1.length) _ (by rfl) (HO2.out.bw (show Bw w2 _ from BWX)) (some ⟨_,0,none⟩) 1 1 [.int .u8 59] (by rfl) rfl (fun e => by cases e) (fun ad e => by cases e;exact cell_one_new _ _ _) (by simp;rfl) (by unfold maxLen;omega) (by omega) (by have:=HB2.out.size;simp;omega) ?_;intro v3 w3 hown3 hg3;obtain ⟨A3,c3,rfl,hc3',hc3m⟩:=own_form hown3;have HO3:=Lib.hid hown3;have HB3:=Lib.hid (show Bw w w3 from Bw.row (Bw.trans HB2.out (show Bw w2 _ from BWX)) (HO2.out.bw (show Bw w2 _ from BWX)) hg3 (Nat.le_refl _));clear hown3 hg3)
  | (go_at_call 64;refine (decb_any (c + 1) _ (by omega) (by omega)).mono ?_;rw [HD2.out];rintro e w4 ⟨u4,rfl,hown4,hb4⟩;obtain ⟨A4,c4,rfl,hc4',hc4m⟩:=own_form hown4;have HO4:=Lib.hid hown4;have hb34 : Bw w3 w4:=Bw.trans (show Bw w3 _ from BWX) hb4;have HB4:=Lib.hid (Bw.trans HB3.out hb34);clear hown4 hb4)
  | (at_builtin;refine wpList_append_srcG (by rfl) (.tmp 13) (.tmp 16) 33 rfl w.heap.size 5 i0 (.int .u8 0) 1 1 Tryz.underlying33 hi hz0 hz1 hz2 rfl (by decide) (.slice A3 (2 + D1.length + 1) c3) (2 + D1.length + 1) _ (by rfl) (HO3.out.bw (Bw.trans hb34 (show Bw w4 _ from BWX))) A4 D2.length c4 (D2.map (.int .u8)) (by rfl) (by simp) (fun e => ((own_rd HO4.out).none_ e).1) ((own_rd HO4.out).up (show Bw w4 _ from BWX)).news2 (one_u8 _) (by unfold maxLen;omega) (by omega) (by have:=HB4.out.size;simp;omega) ?_;intro v5 w5 hown5 hg5;obtain ⟨A5,c5,rfl,hc5',hc5m⟩:=own_form hown5;have HO5:=Lib.hid hown5;have HB5:=Lib.hid (show Bw w w5 from Bw.row (Bw.trans HB4.out (show Bw w4 _ from BWX)) (HO3.out.bw (Bw.trans hb34 (show Bw w4 _ from BWX))) hg5 (Nat.le_refl _));clear hown5 hg5)
  | (at_builtin;refine wpList_append_srcG (by rfl) (.tmp 17) (.tmp 18) 33 rfl w.heap.size 5 i0 (.int .u8 0) 1 1 Tryz.underlying33 hi hz0 hz1 hz2 rfl (by decide) (.slice A5 (2 + D1.length + 1 + D2.length) c5) (2 + D1.length + 1 + D2.length) _ (by rfl) (HO5.out.bw (show Bw w5 _ from BWX)) (some ⟨_,0,none⟩) 1 1 [.int .u8 72] (by rfl) rfl (fun e => by cases e) (fun ad e => by cases e;exact cell_one_new _ _ _) (by simp;rfl) (by unfold maxLen;omega) (by omega) (by have:=HB5.out.size;simp;omega) ?_;intro v6 w6 hown6 hg6;have HO6:=Lib.hid hown6;have HB6:=Lib.hid (show Bw w w6 from Bw.row (Bw.trans HB5.out (show Bw w5 _ from BWX)) (HO5.out.bw (show Bw w5 _ from BWX)) hg6 (Nat.le_refl _));clear hown6 hg6)
  | fail)
 go_ret
 refine ⟨_,rfl,?_,HB6.out⟩
 rw [HE.out]
 have h9:=HO6.out
 have e1 : ([27,91] ++ (D1 ++ ([59] ++ (D2 ++ [72]))) : List Int).length = 2 + D1.length + 1 + D2.length + 1:=by simp;omega
 rw [e1]
 simpa [List.map_append,List.append_assoc] using h9
/-- Block k, if there is one, holds neither cells nor lists of cells. -/
def TyN (w : World) (r : Option Nat) (t : TypeId) : Prop:=∀ k,r = some k → ∃ cur fr,w.heap[k]? = some (.cells cur t fr)
theorem own_tyN {w : World} {base : Nat} {e : TypeId} {s n : Nat} {v : Value} {xs : List Value} (h : w.ownsRow base e s v n xs) : TyN w v.ownBlock e:=by
 intro k hk
 rcases h.2 with ⟨rfl,-⟩|⟨g,cap,cur,rfl,_,h3,_⟩
 ·cases hk
 ·cases hk;exact ⟨_,_,h3⟩
theorem own_farN {w w' : World} {base : Nat} {e t : TypeId} {s n : Nat} {v : Value} {xs : List Value} {r : Option Nat} (h : w.ownsRow base e s v n xs) (hg : w.grownBy w' r) (ht : TyN w r t) (hne : e ≠ t) : w'.ownsRow base e s v n xs:=by
 refine h.kept hg ?_
 cases hv : v.ownBlock with
 | none => exact .inl rfl
 | some k =>
  refine .inr (fun e2 => hne ?_)
  obtain ⟨c1,f1,h1⟩:=own_tyN h k hv
  obtain ⟨c2,f2,h2⟩:=ht k e2.symm
  rw [h1] at h2
  injection h2 with h2
  injection h2
theorem own_base {w : World} {b b' : Nat} {e : TypeId} {s n : Nat} {v : Value} {xs : List Value} (h : w.ownsRow b e s v n xs) (hle : b' ≤ b) : w.ownsRow b' e s v n xs:=by
 refine ⟨h.1,?_⟩
 rcases h.2 with h1|⟨g,cap,cur,h1,h2,h3⟩
 ·exact .inl h1
 ·exact .inr ⟨g,cap,cur,h1,Nat.le_trans hle h2,h3⟩
theorem Kb.row {w w' : World} {k : Nat} {cs : Array Value} {T : TypeId} {base n : Nat} {v : Value} {xs : List Value} (h : Kb w k cs T) (ho : w.ownsRow base 5 1 v n xs) (hg : w.grownBy w' v.ownBlock) (hT : T ≠ 5) : Kb w' k cs T:=by
 refine (hg.block k (lt_heap h) (fun e => hT ?_)).trans h
 obtain ⟨cur,fr,h1⟩:=own_tyN ho k e.symm
 rw [show w.heap[k]? = _ from h] at h1
 injection h1 with h1
 injection h1
theorem Rg.row {w w' : World} {A : Option Addr} {n : Nat} {cs : List C4} {base m : Nat} {v : Value} {xs : List Value} (h : Rg w A n cs) (hc : CelT w A) (ho : w.ownsRow base 5 1 v m xs) (hg : w.grownBy w' v.ownBlock) : Rg w' A n cs ∧ CelT w' A:=by
 have hb : ∀ ad,A = some ad → w'.heap[ad.block]? = w.heap[ad.block]?:=fun ad e => by
  obtain ⟨cur,fr,h1⟩:=hc ad e
  refine hg.block _ (lt_heap h1) (fun e2 => ?_)
  obtain ⟨cur2,fr2,h2⟩:=own_tyN ho _ e2.symm
  rw [h1] at h2
  injection h2 with h2
  injection h2 with _ h3 _
  revert h3;decide
 refine ⟨h.same hb,fun ad e => ?_⟩
 obtain ⟨cur,fr,h1⟩:=hc ad e
 exact ⟨cur,fr,(hb ad e).trans h1⟩
theorem CelT.ne {w : World} {A : Option Addr} {k : Nat} {cs : Array Value} {T : TypeId} (h : CelT w A) (hk : Kb w k cs T) (hT : T ≠ 70) : ∀ ad,A = some ad → ad.block ≠ k:=fun ad e e2 => by
 obtain ⟨cur,fr,h1⟩:=h ad e
 rw [e2,show w.heap[k]? = _ from hk] at h1
 injection h1 with h1
 injection h1 with _ h3 _
 exact hT h3
theorem Kb.tyN {w : World} {k : Nat} {cs : Array Value} {T : TypeId} (h : Kb w k cs T) : TyN w (some k) T:=fun j e => by cases e;exact ⟨_,_,h⟩
theorem Kb.far {w w' : World} {k j : Nat} {cs : Array Value} {T : TypeId} (h : Kb w k cs T) (hg : w.grownBy w' (some j)) (hne : k ≠ j) : Kb w' k cs T:=(hg.block k (lt_heap h) (fun e => hne (Option.some.inj e))).trans h
theorem Kb.set3 {w : World} {k : Nat} {x1 x2 x3 y1 y2 y3 : Value} {T : TypeId} (h : Kb w k #[x1,x2,x3] T) : Kb (((w.setCell ⟨k,0,none⟩ y1).setCell ⟨k,1,none⟩ y2).setCell ⟨k,2,none⟩ y3) k #[y1,y2,y3] T:=by
 have h1:=Lib.heap_setCell_same (i:=0) h y1
 have h2:=Lib.heap_setCell_same (i:=1) h1 y2
 have h3:=Lib.heap_setCell_same (i:=2) h2 y3
 exact h3
/-- The call returns the bytes bs, in a row of its own, and the attributes x. -/
def PaP (w : World) (bs : List Int) (x : A3) (e : Ending) (w' : World) : Prop:=∃ u,e = .returned (.tuple #[u,.agg #[.int .i64 x.1,.int .i64 x.2.1,.int .i64 x.2.2]]) ∧ w'.ownsRow w.heap.size 5 1 u bs.length (bs.map (.int .u8)) ∧ Bw w w'
theorem results_at {fn : Func} {p q : Tmp} (h : fn.results = #[.tmp p,.cell q 42]) (tmps : Array Value) (w : World) (k : Nat) (y1 y2 y3 : Value) (hq : tmps.getD q undef = .pointer (some ⟨k,0,none⟩)) (hy : Kb w k #[y1,y2,y3] 42) :
  (results fn tmps).run Tryz.prog w = .ok (.tuple #[tmps.getD p undef,.agg #[y1,y2,y3]]) w:=by
 have hq' : tmps[q]?.getD undef = .pointer (some ⟨k,0,none⟩):=by simpa using hq
 have iy : (Tryz.prog.info? 42).map (·.size) = some (#[y1,y2,y3] : Array Value).size:=by kernel_rfl
 simp [results,h,hq',asAddr,run_loadVar_row w k 42 42 #[y1,y2,y3] (0,0) _ hy Tryz.underlying42 rfl iy]
theorem rpaint_any (R C : Int) (A : Option Addr) (n c : Nat) (cs : List C4) (r f t : Nat) (x1 x2 x3 : Int) (w : World) (hr : Rg w A n cs) (hn : n ≤ c) (hc : c ≤ 9223372036854775807) (hn3 : n ≤ 3000) (hr1 : (r : Int) < 99) (hft : f ≤ t) (ht : t ≤ (rowF R C cs r).length) (ht9 : t < 99) :
  Calls Tryz.prog 38 #[.agg #[.int .i64 R,.int .i64 C,.slice A n c],.int .i64 (r : Int),.int .i64 (f : Int),.int .i64 (t : Int),.agg #[.int .i64 x1,.int .i64 x2,.int .i64 x3]] w (PaP w (goesL r f ++ pntB (x1,x2,x3) (((rowF R C cs r).drop f).take (t - f))) (pntA (x1,x2,x3) (((rowF R C cs r).drop f).take (t - f)))):=by
 obtain ⟨i0,hi,iz0,iz1,iz2⟩:=info_parts infoB
 obtain ⟨ys,hys⟩ : ∃ ys,rowF R C cs r = ys:=⟨_,rfl⟩
 rw [hys] at ht ⊢
 have HR:=Lib.hid hr
 have HYS:=Lib.hid hys
 have hgl:=goesL_len (r : Int) (f : Int) hr1 (by omega)
 clear hr hys
 go_enter Tryz.func38,Tryz.ntmps38
 go_upto_region 1 with (fail)
 generalize hwa : w.alloc _ = wa
 obtain ⟨hka,hba,hza⟩:=kb1 hwa
 generalize hwb : wa.alloc _ = wb
 obtain ⟨hkb,hbb,hzb⟩:=kb1 hwb
 generalize hwc : wb.alloc _ = wc
 obtain ⟨hkc,hbc,hzc⟩:=kb1 hwc
 rw [hza] at hkb
 rw [hzb,hza] at hkc
 obtain ⟨kg,hkg⟩ : ∃ kg,kg = w.heap.size:=⟨_,rfl⟩
 obtain ⟨kx,hkx⟩ : ∃ kx,kx = w.heap.size + 1:=⟨_,rfl⟩
 obtain ⟨ky,hky⟩ : ∃ ky,ky = w.heap.size + 1 + 1:=⟨_,rfl⟩
 rw [← hky] at hkc ⊢
 rw [← hkx] at hkb ⊢
 rw [← hkg] at hka ⊢
 have HG:=Lib.hid (hka.up (Bw.trans hbb hbc))
 have HX:=Lib.hid (hkb.up hbc)
 have HY0:=Lib.hid hkc
 have hb0:=Bw.trans hba (Bw.trans hbb hbc)
 have hkgw : w.heap.size ≤ kg:=by omega
 have hkxw : w.heap.size ≤ kx:=by omega
 have hkyw : w.heap.size ≤ ky:=by omega
 have hkxy : kx ≠ ky:=by omega
 have hzw : w.heap.size < wc.heap.size:=by omega
 have hlc:=lt_heap hkc
 clear hwa hwb hwc hka hkb hkc hba hbb hbc hza hzb hzc hkg hkx hky
 go_upto_region 2 with (first
  | (go_at_call 40;refine (rgoes_any (r : Int) (f : Int) _ (by omega) (by omega) (by omega) (by omega)).mono ?_;rintro ee w1 ⟨u1,rfl,hown1,hb1⟩;obtain ⟨D1,c1,rfl,hc1,hc1m⟩:=own_form hown1;have hb1' : Bw wc w1:=Bw.trans (show Bw wc _ from BWX) hb1;have HO1:=Lib.hid hown1;clear hown1 hb1)
  | fail)
 have HG1:=Lib.hid (HG.out.up hb1')
 have HX1:=Lib.hid (HX.out.up hb1')
 have HY1:=Lib.hid (HY0.out.up hb1')
 have hz1:=hb1'.size
 have HO1w:=Lib.hid (show w1.ownsRow w.heap.size 5 1 (.slice D1 (goesL r f).length c1) (goesL r f).length ((goesL r f).map (.int .u8)) from own_base HO1.out (by omega))
 have hb1w:=Bw.trans hb0 hb1'
 clear HG HX HY0 HO1 hb0 hb1'
 have x0:=HG1.out.cell 0 (v:=.int .i64 R) rfl
 have x1':=HG1.out.cell 1 (v:=.int .i64 C) rfl
 have x2':=HG1.out.cell 2 (v:=.slice A n c) rfl
 have hlg:=lt_heap HG1.out
 go_upto_region 3 with (first
  | (go_at_call 37;refine (rrow_own R C A n c cs (r : Int) _ (HR.out.up (Bw.trans hb1w (show Bw w1 _ from BWX))) hn (by omega) hc).mono ?_;rintro ee w2 ⟨Ar,nr,cr,rfl,hnr,ho2,hb2⟩;rw [HYS.out] at hnr ho2;have hb2' : Bw w1 w2:=Bw.trans (show Bw w1 _ from BWX) hb2;have HO2:=Lib.hid ho2;have HNR:=Lib.hid hnr;clear hb2 hnr ho2 x0 x1' x2')
  | fail)
 obtain ⟨A2,c2,e2,hc2,hcm2⟩:=own_form HO2.out
 cases e2
 have HX2:=Lib.hid (HX1.out.up hb2')
 have HY2:=Lib.hid (HY1.out.up hb2')
 have HR2:=Lib.hid (Rg.of_own HO2.out)
 have HC2:=Lib.hid (own_celT HO2.out)
 have HD2:=Lib.hid (HO1w.out.bw hb2')
 have hb2w:=Bw.trans hb1w hb2'
 have hz2:=hb2'.size
 have hnr2:=HNR.out
 rw [← hnr2] at ht
 clear HX1 HY1 HG1 HO1w hb1w hlg HO2 hnr2
 have hlx2:=lt_heap HX2.out
 go_wp2_with fail
 go_loopw [12,14] (fun v i wr => ∃ (k : Nat) (D : Option Addr) (N cD : Nat),v = .slice D N cD ∧ i = .int .i64 (k : Int) ∧ f ≤ k ∧ k ≤ t ∧ N = (goesL r f ++ pntB (x1,x2,x3) ((ys.drop f).take (k - f))).length ∧ wr.ownsRow w.heap.size 5 1 (.slice D N cD) N ((goesL r f ++ pntB (x1,x2,x3) ((ys.drop f).take (k - f))).map (.int .u8)) ∧ Kb wr kx #[.int .i64 (pntA (x1,x2,x3) ((ys.drop f).take (k - f))).1,.int .i64 (pntA (x1,x2,x3) ((ys.drop f).take (k - f))).2.1,.int .i64 (pntA (x1,x2,x3) ((ys.drop f).take (k - f))).2.2] 42 ∧ Kb wr ky #[.int .i64 0,.int .i64 0,.int .i64 0] 42 ∧ Rg wr Ar nr ys ∧ CelT wr Ar ∧ Bw w wr) (fun _ i _ => t - (intOf i).toNat)
 case atStart => exact ⟨f,D1,_,c1,rfl,rfl,Nat.le_refl _,hft,by rw [Nat.sub_self];show _ = (goesL r f ++ []).length;rw [List.append_nil],by rw [Nat.sub_self];show World.ownsRow _ _ _ _ _ _ ((goesL r f ++ []).map (Value.int .u8));rw [List.append_nil];exact HD2.out.bw BWX,by rw [Nat.sub_self];exact HX2.out.up BWX,HY2.out.up BWX,HR2.out.up BWX,HC2.out.up BWX,Bw.trans hb2w BWX⟩
 case round =>
  obtain ⟨wz,hwz⟩ : ∃ wz : World,wz = wr:=⟨_,rfl⟩
  subst hwz
  obtain ⟨k,D,N,cD,rfl,rfl,hfk,hkt,hN,hown,hkx2,hky2,hrz,hcz,hbz⟩:=hrel
  have HO:=Lib.hid hown
  have HXz:=Lib.hid hkx2
  have HYz:=Lib.hid hky2
  have HRz:=Lib.hid hrz
  have HCz:=Lib.hid hcz
  have HBz:=Lib.hid hbz
  have hzz:=hbz.size
  have hlxz:=lt_heap hkx2
  have hlyz:=lt_heap hky2
  have hpl:=pntB_len ((ys.drop f).take (k - f)) (x1,x2,x3)
  have hsl : ((ys.drop f).take (k - f)).length ≤ k - f:=by rw [List.length_take];exact Nat.min_le_left _ _
  obtain ⟨bs,hbs⟩ : ∃ bs,goesL r f ++ pntB (x1,x2,x3) ((ys.drop f).take (k - f)) = bs:=⟨_,rfl⟩
  obtain ⟨⟨a1,a2,a3⟩,ha⟩ : ∃ a,pntA (x1,x2,x3) ((ys.drop f).take (k - f)) = a:=⟨_,rfl⟩
  have hbl : bs.length ≤ 8 + 124 * 99:=by rw [← hbs,List.length_append];have:=Nat.mul_le_mul_left 124 (show ((ys.drop f).take (k - f)).length ≤ 99 by omega);omega
  rw [hbs] at hN HO
  rw [ha] at HXz
  have HBA:=Lib.hid (And.intro hbs ha)
  clear hown hkx2 hky2 hrz hcz hbz hbs ha hpl hsl
  subst hN
  by_cases hlt : k < t
  ·have e0 : (0 : Int) ≤ k:=by omega
   have e1 : (k : Int) < t:=by omega
   have e2 : (k : Int) < nr:=by omega
   have hlen:=HRz.out.1
   obtain ⟨g,o,e3,hx⟩:=HRz.out.2 (by omega)
   subst e3
   have hcl:=hx k (by omega)
   obtain ⟨⟨d1,d2,d3,d4⟩,hd⟩ : ∃ d,d = ys[k]'(by omega):=⟨_,rfl⟩
   rw [← hd] at hcl
   have HSN:=Lib.hid (show (ys.drop f).take (k + 1 - f) = (ys.drop f).take (k - f) ++ [(d1,d2,d3,d4)] by rw [show k + 1 - f = (k - f) + 1 by omega,List.take_add_one,List.getElem?_drop,show f + (k - f) = k by omega,List.getElem?_eq_getElem (by omega),hd];rfl)
   have HCL:=Lib.hid hcl
   have hgz : g < wz.heap.size:=lt_of_cell hcl.1
   have HY:=Lib.hid (show ∀ w',Bw wz w' → (w'.cell? ⟨kx,0,none⟩ = some (.int .i64 a1) ∧ w'.cell? ⟨kx,1,none⟩ = some (.int .i64 a2) ∧ w'.cell? ⟨kx,2,none⟩ = some (.int .i64 a3) ∧ w'.cell? ⟨g,o + k * 4 + 1,none⟩ = some (.int .i64 d2) ∧ w'.cell? ⟨g,o + k * 4 + 2,none⟩ = some (.int .i64 d3) ∧ w'.cell? ⟨g,o + k * 4 + 3,none⟩ = some (.int .i64 d4)) from fun w' hb => ⟨(HXz.out.up hb).cell 0 rfl,(HXz.out.up hb).cell 1 rfl,(HXz.out.up hb).cell 2 rfl,cell_bw hb HCL.out.2.1,cell_bw hb HCL.out.2.2.1,cell_bw hb HCL.out.2.2.2⟩)
   have hbt:=bts_len (a1,a2,a3) (d2,d3,d4)
   have hen:=encN_len d1
   clear hcl hx hd hlen
   go_upto_region 6 with (fail)
   refine wp_region_held_drew (S:=(fun w' => w'.cell? ⟨kx,0,none⟩ = some (.int .i64 a1) ∧ w'.cell? ⟨kx,1,none⟩ = some (.int .i64 a2) ∧ w'.cell? ⟨kx,2,none⟩ = some (.int .i64 a3) ∧ w'.cell? ⟨g,o + k * 4 + 1,none⟩ = some (.int .i64 d2) ∧ w'.cell? ⟨g,o + k * 4 + 2,none⟩ = some (.int .i64 d3) ∧ w'.cell? ⟨g,o + k * 4 + 3,none⟩ = some (.int .i64 d4))) (by kernel_rfl) ?_ (fun hHeld => ?_)
   ·(try dsimp only);(first|(refine HY.out _ ?_;(repeat (first|with_reducible (first|assumption|exact Bw.refl _|refine Bw.alloc ?_ _|refine Bw.more ?_ _ _|refine Bw.drew ?_|refine Bw.drewN ?_ _)|((with_reducible refine Bw.set2 ?_ ?_ _);(focus exact SZX))|with_reducible refine Bw.trans ?_ (by assumption)));done)|(refine HY4w.out _ ?_;(repeat (first|with_reducible (first|assumption|exact Bw.refl _|refine Bw.alloc ?_ _|refine Bw.more ?_ _ _|refine Bw.drew ?_|refine Bw.drewN ?_ _)|((with_reducible refine Bw.set2 ?_ ?_ _);(focus exact SZX))|with_reducible refine Bw.trans ?_ (by assumption)));done))
   refine tkQ 0 ?_
   refine tkQ 1 ?_
   refine tkQ 2 ?_
   (try simp only [Act.put,zP1,zP2,zP3,zP4,zP5,zP6])
   refine tkQ 3 ?_
   refine tkQ 4 ?_
   refine tkQ 5 ?_
   (try simp only [Act.put,zP1,zP2,zP3,zP4,zP5,zP6])
   refine tkQ 6 ?_
   (try simp only [Act.put,zP1,zP2,zP3,zP4,zP5,zP6])
   refine arO 7 (fun K hK => ?_)
   go_simp
   refine (rbytes_any a1 a2 a3 d2 d3 d4 _).mono ?_;rintro ee w3 ⟨v3,rfl,hv3,hb3⟩;obtain ⟨A3,c3,rfl,h31,h32,h33⟩:=hv3;have hb3' : Bw wz w3:=Bw.trans (show Bw wz _ from BWX) hb3;have HR3:=Lib.hid h33;have HO3:=Lib.hid (HO.out.bw hb3');clear hb3 h33;go_wp2_with fail
   refine hK.out _ _ ?_ (fun hHeld => ?_)
   ·(try dsimp only);(first|(refine HY.out _ ?_;(repeat (first|with_reducible (first|assumption|exact Bw.refl _|refine Bw.alloc ?_ _|refine Bw.more ?_ _ _|refine Bw.drew ?_|refine Bw.drewN ?_ _)|((with_reducible refine Bw.set2 ?_ ?_ _);(focus exact SZX))|with_reducible refine Bw.trans ?_ (by assumption)));done)|(refine HY4w.out _ ?_;(repeat (first|with_reducible (first|assumption|exact Bw.refl _|refine Bw.alloc ?_ _|refine Bw.more ?_ _ _|refine Bw.drew ?_|refine Bw.drewN ?_ _)|((with_reducible refine Bw.set2 ?_ ?_ _);(focus exact SZX))|with_reducible refine Bw.trans ?_ (by assumption)));done))
   clear hK K
   (try simp only [Act.put,zP1,zP2,zP3,zP4,zP5,zP6])
   refine arO 8 (fun K hK => ?_)
   refine step_append_srcG (by rfl) (.tmp 27) (.tmp 34) 33 rfl w.heap.size 5 i0 (.int .u8 0) 1 1 Tryz.underlying33 hi iz0 iz1 iz2 rfl (by decide) (.slice D bs.length cD) bs.length _ (by rfl) (HO3.out.bw (show Bw w3 _ from BWX)) A3 (bts (a1,a2,a3) (d2,d3,d4)).length c3 ((bts (a1,a2,a3) (d2,d3,d4)).map (.int .u8)) (by rfl) (by simp) (fun e => (HR3.out.none_ e).1) (HR3.out.up (show Bw w3 _ from BWX)).news2 (one_u8 _) (by unfold maxLen;omega) (by omega) (by have:=HBz.out.size;have:=hb3'.size;simp;omega) ?_;intro v4 w4 hown4 hg4;obtain ⟨D4,c4,rfl,hc4,hc4m⟩:=own_form hown4;have HO4:=Lib.hid hown4;have hO4p:=HO3.out.bw (show Bw w3 _ from BWX);have HX4:=Lib.hid (Kb.row (HXz.out.up (Bw.trans hb3' (show Bw w3 _ from BWX))) hO4p hg4 (by decide));have HY4:=Lib.hid (Kb.row (HYz.out.up (Bw.trans hb3' (show Bw w3 _ from BWX))) hO4p hg4 (by decide));have HRC4:=Lib.hid (Rg.row (HRz.out.up (Bw.trans hb3' (show Bw w3 _ from BWX))) (HCz.out.up (Bw.trans hb3' (show Bw w3 _ from BWX))) hO4p hg4);have HB4:=Lib.hid (show Bw w w4 from Bw.row (Bw.trans HBz.out (Bw.trans hb3' (show Bw w3 _ from BWX))) hO4p hg4 (Nat.le_refl _));have hcl4:=(HRC4.out.1.2 (by omega));obtain ⟨g4,o4,e4,hx4⟩:=hcl4;cases e4;have HCL4:=Lib.hid (hx4 k (by have:=HRC4.out.1.1;omega));have HGY:=Lib.hid (show ys[k]'(by have:=HRC4.out.1.1;omega) = (d1,d2,d3,d4) from by have h1:=HSN.out;have h2:=HRC4.out.1.1;rw [show k + 1 - f = (k - f) + 1 by omega,List.take_add_one,List.getElem?_drop,show f + (k - f) = k by omega,List.getElem?_eq_getElem (by omega)] at h1;simpa using h1);rw [HGY.out] at HCL4;have HY4w:=Lib.hid (show ∀ w',Bw w4 w' → (w'.cell? ⟨kx,0,none⟩ = some (.int .i64 a1) ∧ w'.cell? ⟨kx,1,none⟩ = some (.int .i64 a2) ∧ w'.cell? ⟨kx,2,none⟩ = some (.int .i64 a3) ∧ w'.cell? ⟨g,o + k * 4 + 1,none⟩ = some (.int .i64 d2) ∧ w'.cell? ⟨g,o + k * 4 + 2,none⟩ = some (.int .i64 d3) ∧ w'.cell? ⟨g,o + k * 4 + 3,none⟩ = some (.int .i64 d4)) from fun w' hb => ⟨(HX4.out.up hb).cell 0 rfl,(HX4.out.up hb).cell 1 rfl,(HX4.out.up hb).cell 2 rfl,cell_bw hb HCL4.out.2.1,cell_bw hb HCL4.out.2.2.1,cell_bw hb HCL4.out.2.2.2⟩);clear hown4 hg4 hx4 hO4p
   refine hK.out _ _ ?_ (fun hHeld => ?_)
   ·(try dsimp only);(first|(refine HY.out _ ?_;(repeat (first|with_reducible (first|assumption|exact Bw.refl _|refine Bw.alloc ?_ _|refine Bw.more ?_ _ _|refine Bw.drew ?_|refine Bw.drewN ?_ _)|((with_reducible refine Bw.set2 ?_ ?_ _);(focus exact SZX))|with_reducible refine Bw.trans ?_ (by assumption)));done)|(refine HY4w.out _ ?_;(repeat (first|with_reducible (first|assumption|exact Bw.refl _|refine Bw.alloc ?_ _|refine Bw.more ?_ _ _|refine Bw.drew ?_|refine Bw.drewN ?_ _)|((with_reducible refine Bw.set2 ?_ ?_ _);(focus exact SZX))|with_reducible refine Bw.trans ?_ (by assumption)));done))
   clear hK K
   (try simp only [Act.put,zP1,zP2,zP3,zP4,zP5,zP6])
   refine tkQ 9 ?_
   (try simp only [Act.put,zP1,zP2,zP3,zP4,zP5,zP6])
   refine wpAnyH_done (by kernel_rfl) ?_ _
   have hz4:=HB4.out.size
   have hlx4:=lt_heap HX4.out
   have hgz4 : g < w4.heap.size:=lt_of_cell HCL4.out.1
   have y0:=HCL4.out.1
   dsimp only at y0
   go_upto_region 8 with (first
    | (go_at_call 60;refine (refenc_any d1 _).mono ?_;rintro ee w5 ⟨v5,rfl,hv5,hb5⟩;obtain ⟨A5,c5,rfl,h51,h52,h53⟩:=hv5;have hb5' : Bw w4 w5:=Bw.trans (show Bw w4 _ from BWX) hb5;have HR5:=Lib.hid h53;have HO5:=Lib.hid (HO4.out.bw hb5');clear hb5 h53)
    | (at_builtin;refine wpList_append_srcG (by rfl) (.tmp 36) (.tmp 42) 33 rfl w.heap.size 5 i0 (.int .u8 0) 1 1 Tryz.underlying33 hi iz0 iz1 iz2 rfl (by decide) (.slice D4 (bs.length + (bts (a1,a2,a3) (d2,d3,d4)).length) c4) (bs.length + (bts (a1,a2,a3) (d2,d3,d4)).length) _ (by rfl) (HO5.out.bw (show Bw w5 _ from BWX)) A5 (encN d1).length c5 ((encN d1).map (.int .u8)) (by rfl) (by simp) (fun e => (HR5.out.none_ e).1) (HR5.out.up (show Bw w5 _ from BWX)).news2 (one_u8 _) (by unfold maxLen;omega) (by omega) (by have:=hb5'.size;simp;omega) ?_;intro v6 w6 hown6 hg6;obtain ⟨D6,c6,rfl,hc6,hc6m⟩:=own_form hown6;have HO6:=Lib.hid hown6;have hO6p:=HO5.out.bw (show Bw w5 _ from BWX);have HX6:=Lib.hid (Kb.row (HX4.out.up (Bw.trans hb5' (show Bw w5 _ from BWX))) hO6p hg6 (by decide));have HY6:=Lib.hid (Kb.row (HY4.out.up (Bw.trans hb5' (show Bw w5 _ from BWX))) hO6p hg6 (by decide));have HRC6:=Lib.hid (Rg.row (HRC4.out.1.up (Bw.trans hb5' (show Bw w5 _ from BWX))) (HRC4.out.2.up (Bw.trans hb5' (show Bw w5 _ from BWX))) hO6p hg6);have HB6:=Lib.hid (show Bw w w6 from Bw.row (Bw.trans HB4.out (Bw.trans hb5' (show Bw w5 _ from BWX))) hO6p hg6 (Nat.le_refl _));clear hown6 hg6 hO6p)
    | fail)
   obtain ⟨g6,o6,e6,hx6⟩:=HRC6.out.1.2 (by omega)
   cases e6
   have hcl6:=hx6 k (by have:=HRC6.out.1.1;omega)
   rw [HGY.out] at hcl6
   obtain ⟨p0,p1,p2,p3⟩:=hcl6
   dsimp only at p0 p1 p2 p3
   have r0:=HX6.out.cell 0 (v:=.int .i64 a1) rfl
   have r1:=HX6.out.cell 1 (v:=.int .i64 a2) rfl
   have r2:=HX6.out.cell 2 (v:=.int .i64 a3) rfl
   have s0:=frozen_of_row w6 kx 0 _ 42 HX6.out
   have s1:=frozen_of_row w6 kx 1 _ 42 HX6.out
   have s2:=frozen_of_row w6 kx 2 _ 42 HX6.out
   have hlx6:=lt_heap HX6.out
   have hz6:=HB6.out.size
   have hgz6 : g < w6.heap.size:=lt_of_cell p0
   clear hx6 y0
   go_wp2_with fail
   go_roundw
   case rel =>
    have hg6 : w6.grownBy (((w6.setCell ⟨kx,0,none⟩ (.int .i64 d2)).setCell ⟨kx,1,none⟩ (.int .i64 d3)).setCell ⟨kx,2,none⟩ (.int .i64 d4)) (some kx):=grown_set (grown_set (grown_set (grown_refl _ _) 0 _) 1 _) 2 _
    have e9 : goesL r f ++ pntB (x1,x2,x3) ((ys.drop f).take (k + 1 - f)) = bs ++ (bts (a1,a2,a3) (d2,d3,d4) ++ encN d1):=by
     rw [HSN.out,pntB_snoc,← List.append_assoc,HBA.out.1,HBA.out.2]
     rfl
    have eA : pntA (x1,x2,x3) ((ys.drop f).take (k + 1 - f)) = (d2,d3,d4):=by rw [HSN.out,pntA_snoc];rfl
    have hsame : ∀ ad,some (⟨g,o,none⟩ : Addr) = some ad → _:=fun ad e => hg6.block ad.block (by cases e;exact hgz6) (fun e2 => HRC6.out.2.ne HX6.out (by decide) ad e (Option.some.inj e2))
    refine ⟨k + 1,D6,_,c6,rfl,by go_num,by omega,by omega,?_,?_,?_,?_,?_,?_,?_⟩
    ·rw [e9];simp only [List.length_append];omega
    ·rw [e9,List.map_append,List.map_append]
     have h9:=own_farN HO6.out hg6 HX6.out.tyN (by decide)
     simp only [List.append_assoc] at h9
     exact h9
    ·rw [eA];exact HX6.out.set3
    ·exact HY6.out.far hg6 (Ne.symm hkxy)
    ·exact HRC6.out.1.same hsame
    ·intro ad e
     obtain ⟨cur,fr,h1⟩:=HRC6.out.2 ad e
     exact ⟨cur,fr,(hsame ad e).trans h1⟩
    ·exact Bw.grown HB6.out hg6 (fun k hk => by cases hk;omega)
   case measure => simp [intOf];omega
  ·obtain rfl : k = t:=by omega
   have HY:=Lib.hid (show ∀ w',Bw wz w' → (w'.cell? ⟨kx,0,none⟩ = some (.int .i64 a1) ∧ w'.cell? ⟨kx,1,none⟩ = some (.int .i64 a2) ∧ w'.cell? ⟨kx,2,none⟩ = some (.int .i64 a3)) from fun w' hb => ⟨(HXz.out.up hb).cell 0 rfl,(HXz.out.up hb).cell 1 rfl,(HXz.out.up hb).cell 2 rfl⟩)
   have r0:=HXz.out.cell 0 (v:=.int .i64 a1) rfl
   have r1:=HXz.out.cell 1 (v:=.int .i64 a2) rfl
   have r2:=HXz.out.cell 2 (v:=.int .i64 a3) rfl
   have q0:=HYz.out.cell 0 (v:=.int .i64 0) rfl
   have q1:=HYz.out.cell 1 (v:=.int .i64 0) rfl
   have q2:=HYz.out.cell 2 (v:=.int .i64 0) rfl
   have z0:=frozen_of_row wz ky 0 _ 42 HYz.out
   have z1:=frozen_of_row wz ky 1 _ 42 HYz.out
   have z2:=frozen_of_row wz ky 2 _ 42 HYz.out
   go_upto_region 9 with (fail)
   refine wp_region_held_drew (S:=(fun w' => w'.cell? ⟨kx,0,none⟩ = some (.int .i64 a1) ∧ w'.cell? ⟨kx,1,none⟩ = some (.int .i64 a2) ∧ w'.cell? ⟨kx,2,none⟩ = some (.int .i64 a3))) (by kernel_rfl) ?_ (fun hHeld => ?_)
   ·(try dsimp only);(first|(refine HY.out _ ?_;(repeat (first|with_reducible (first|assumption|exact Bw.refl _|refine Bw.alloc ?_ _|refine Bw.more ?_ _ _|refine Bw.drew ?_|refine Bw.drewN ?_ _)|((with_reducible refine Bw.set2 ?_ ?_ _);(focus exact SZX))|with_reducible refine Bw.trans ?_ (by assumption)));done)|exact ⟨CELAX,CELAX,CELAX⟩)
   refine tkQ 0 ?_
   (try simp only [Act.put,zP1,zP2,zP3,zP4,zP5,zP6])
   refine tkQ 1 ?_
   refine tkQ 2 ?_
   (try simp only [Act.put,zP1,zP2,zP3,zP4,zP5,zP6])
   refine arO 3 (fun K hK => ?_)
   go_simp
   refine hK.out _ _ ?_ (fun hHeld => ?_)
   ·(try dsimp only);(first|(refine HY.out _ ?_;(repeat (first|with_reducible (first|assumption|exact Bw.refl _|refine Bw.alloc ?_ _|refine Bw.more ?_ _ _|refine Bw.drew ?_|refine Bw.drewN ?_ _)|((with_reducible refine Bw.set2 ?_ ?_ _);(focus exact SZX))|with_reducible refine Bw.trans ?_ (by assumption)));done)|exact ⟨CELAX,CELAX,CELAX⟩)
   clear hK K
   (try simp only [Act.put,zP1,zP2,zP3,zP4,zP5,zP6])
   refine wpAnyH_done (by kernel_rfl) ?_ _
   go_wp2_with fail
   refine bodyPost_ret (results_at rfl _ _ ky (.int .i64 a1) (.int .i64 a2) (.int .i64 a3) (by rfl) (Kb.set3 HYz.out)) rfl ?_
   unfold PaP
   rw [HBA.out.1,HBA.out.2]
   have hg9 : wz.grownBy (((wz.setCell ⟨ky,0,none⟩ (.int .i64 a1)).setCell ⟨ky,1,none⟩ (.int .i64 a2)).setCell ⟨ky,2,none⟩ (.int .i64 a3)) (some ky):=grown_set (grown_set (grown_set (grown_refl _ _) 0 _) 1 _) 2 _
   exact ⟨.slice D bs.length cD,rfl,(own_farN HO.out hg9 HYz.out.tyN (by decide)).bw (Bw.drew (Bw.refl _)),Bw.drew (Bw.grown HBz.out hg9 (fun k hk => by cases hk;omega))⟩
theorem infoA3 (x y z : Value) : (Tryz.prog.info? 42).map (·.size) = some (#[x,y,z] : Array Value).size:=by kernel_rfl
theorem at3_one (x y z : Int) : (#[.int .i64 x,.int .i64 y,.int .i64 z] : Array Value).all (·.oneCell') = true:=by simp [Value.oneCell']
theorem wp_store_kb {P : Program} {o : Oper} {a : Act} {w : World} {K : Act → World → Prop} {Q : Exit → Act → World → Prop} (T : TypeId) (cs : Array Value) (g : Nat) (x y : Operand) (hi : (P.info? T).map (·.size) = some cs.size) (hone : cs.all (·.oneCell') = true) (ho : o.op = .store T x y)
  (hx : a.eval x = .pointer (some ⟨g,0,none⟩)) (hy : a.eval y = .agg cs) (hg : ∃ old,Kb w g old T ∧ old.size = cs.size)
  (h : ∀ w',Kb w' g cs T → w.grownBy w' (some g) → K (a.put o.dst undef) w') : Oper.wp P o a w K Q:=by
 obtain ⟨old,hg,hold⟩:=hg
 exact wp_store_row T x y ho g cs hx hy T old hg hi hold hone
  (h _ (setRow_heap w g old _ _ _ hg) ⟨rfl,rfl,rfl,by simp [World.setRow],fun k hk hne => setRow_other w g k _ (fun e => hne (by rw [e]))⟩)
theorem rfull_any (R C : Int) (A : Option Addr) (n c : Nat) (cs : List C4) (row col : Int) (hid : Bool) (w0 : World) (hr : Rg w0 A n cs) (hn : n ≤ c) (hc : c ≤ 9223372036854775807) (hn6 : n ≤ 60) :
  Calls Tryz.prog 12 #[.agg #[.int .i64 R,.int .i64 C,.slice A n c,.int .i64 row,.int .i64 col,.bool hid]] w0 fun e w' => ∃ v,e = .returned v ∧ Sl (.int .u8) w' v (fullL R C cs row col hid) ∧ Bw w0 w':=by
 obtain ⟨i0,hi,iz0,iz1,iz2⟩:=info_parts infoB
 have HR:=Lib.hid hr
 have hnl:=hr.1
 cases hv : viewB R C cs row col
 ·have HV:=Lib.hid hv
  have HE:=Lib.hid (show fullL R C cs row col hid = [] by unfold fullL;rw [if_neg (by rw [hv];decide)])
  clear hr hv
  go_enter Tryz.func12,Tryz.ntmps12
  go_wp2_with (first
   | (go_at_call 16;refine (rview_any R C A n c cs row col hid _ (HR.out.up BWX) hn hc).mono ?_;rintro ee w1 ⟨rfl,hb1⟩;rw [HV.out];have HB1:=Lib.hid (show Bw w0 w1 from Bw.trans (show Bw w0 _ from BWX) hb1);clear hb1)
   | fail)
  go_ret
  exact ⟨_,rfl,by rw [HE.out];exact Sl.nil_ _ _ _ (by omega),HB1.out⟩
 have HV:=Lib.hid hv
 obtain ⟨hR1,hR2,hC1,hC2,hlen,hrow0,hrow1,hcol0,hcol1⟩:=viewB_dim hv
 have hC6:=viewB_small hv (by omega)
 obtain ⟨Rn,rfl⟩ : ∃ Rn : Nat,R = Rn:=⟨R.toNat,by omega⟩
 obtain ⟨Cn,rfl⟩ : ∃ Cn : Nat,C = Cn:=⟨C.toNat,by omega⟩
 obtain ⟨F,hF⟩ : ∃ F : Nat → List C4,(fun r : Nat => rowF (Rn : Int) (Cn : Int) cs r) = F:=⟨_,rfl⟩
 have HE:=Lib.hid (show fullL Rn Cn cs row col hid = [27,99] ++ (rowsB F Rn).1 ++ bts (rowsB F Rn).2 (0,0,0) ++ goesL row col ++ (if hid = true then hideL true else []) by unfold fullL;rw [if_pos hv,hF,Int.toNat_natCast])
 have HFk:=Lib.hid (show ∀ k : Nat,rowF (Rn : Int) (Cn : Int) cs k = F k from fun k => by rw [← hF])
 have hFl : ∀ k,(F k).length ≤ Cn:=fun k => by rw [← hF];exact rowF_len _ _ _ _ (by omega)
 have HFl:=Lib.hid hFl
 have HLk:=Lib.hid (show ∀ k,k ≤ Rn → (rowsB F k).1.length ≤ 400000 from fun k hk => by
  have h1:=rowsB_len F Cn hFl k (by omega)
  have h2:=Nat.mul_le_mul (show k ≤ 30 by omega) (show 8 + 124 * Cn ≤ 12408 by omega)
  omega)
 clear hr hv hF hFl hlen hnl
 go_enter Tryz.func12,Tryz.ntmps12
 go_upto_region 3 with (first
  | (go_at_call 16;refine (rview_any Rn Cn A n c cs row col hid _ (HR.out.up BWX) hn hc).mono ?_;rintro ee w1 ⟨rfl,hb1⟩;rw [HV.out];have hb01 : Bw w0 w1:=Bw.trans (show Bw w0 _ from BWX) hb1;have HKV:=Lib.hid (Kb.up (show Kb _ w0.heap.size #[.int .i64 (Rn : Int),.int .i64 (Cn : Int),.slice A n c,.int .i64 row,.int .i64 col,.bool hid] 27 from heap_at (by simp)) hb1);clear hb1)
  | fail)
 have hz1:=hb01.size
 obtain ⟨kv,hkv⟩ : ∃ kv,kv = w0.heap.size:=⟨_,rfl⟩
 have hbB : w0.heap.size ≤ kv:=by omega
 rw [← hkv] at HKV ⊢
 have hkv1:=lt_heap HKV.out
 clear hkv
 go_upto_region 4 with (fail)
 have hown0:=own_lit (w:=w1) (base:=w0.heap.size) (e:=5) (cs:=#[.int .u8 27,.int .u8 99]) (n:=2) (xs:=[.int .u8 27,.int .u8 99]) rfl (by omega) (by unfold maxLen;omega) rfl rfl
 generalize hw2 : w1.alloc _ = w2 at hown0
 obtain ⟨hk2,hb12,hz2⟩:=kb1 hw2
 obtain ⟨D0,hD0⟩ : ∃ D0,D0 = some (⟨w1.heap.size,0,none⟩ : Addr):=⟨_,rfl⟩
 rw [← hD0] at hown0 ⊢
 have HO2:=Lib.hid hown0
 have HKV2:=Lib.hid (HKV.out.up hb12)
 have hb02:=Bw.trans hb01 hb12
 clear hw2 hk2 hD0 HKV hb01 hkv1 hown0 hb12
 go_upto_region 5 with (fail)
 generalize hw3 : w2.alloc _ = w3
 obtain ⟨hk3,hb23,hz3⟩:=kb1 hw3
 rw [hz2] at hk3
 obtain ⟨ka,hka⟩ : ∃ ka,ka = w1.heap.size + 1:=⟨_,rfl⟩
 rw [← hka] at hk3 ⊢
 have HKA3:=Lib.hid hk3
 have HKV3:=Lib.hid (HKV2.out.up hb23)
 have HO3:=Lib.hid (HO2.out.bw hb23)
 have hb03:=Bw.trans hb02 hb23
 have hkva : kv ≠ ka:=by have:=lt_heap HKV2.out;have:=hz2;omega
 have hkaw : w0.heap.size ≤ ka:=by have:=hb02.size;omega
 clear hw3 hk3 hka HKV2 HO2 hb02 hb23 hz1 hz2 hz3
 have hz3:=hb03.size
 have x0:=HKV3.out.cell 0 (v:=.int .i64 (Rn : Int)) rfl
 have hkv3:=lt_heap HKV3.out
 go_wp2_with fail
 go_loopw [3,5] (fun v i wr => ∃ (k : Nat) (D : Option Addr) (N cD : Nat),v = .slice D N cD ∧ i = .int .i64 (k : Int) ∧ k ≤ Rn ∧ N = ([27,99] ++ (rowsB F k).1).length ∧ wr.ownsRow w0.heap.size 5 1 (.slice D N cD) N (([27,99] ++ (rowsB F k).1).map (.int .u8)) ∧ Kb wr ka #[.int .i64 (rowsB F k).2.1,.int .i64 (rowsB F k).2.2.1,.int .i64 (rowsB F k).2.2.2] 42 ∧ Kb wr kv #[.int .i64 (Rn : Int),.int .i64 (Cn : Int),.slice A n c,.int .i64 row,.int .i64 col,.bool hid] 27 ∧ Bw w0 wr) (fun _ i _ => Rn - (intOf i).toNat)
 case atStart => exact ⟨0,D0,2,2,rfl,rfl,by omega,rfl,HO3.out.bw BWX,HKA3.out.up BWX,HKV3.out.up BWX,Bw.trans hb03 BWX⟩
 case round =>
  obtain ⟨wz,hwz⟩ : ∃ wz : World,wz = wr:=⟨_,rfl⟩
  subst hwz
  obtain ⟨k,D,N,cD,rfl,rfl,hk,hN,hown,hkaz,hkvz,hbz⟩:=hrel
  have HOz:=Lib.hid hown
  have HKAz:=Lib.hid hkaz
  have HKVz:=Lib.hid hkvz
  have HBz:=Lib.hid hbz
  have hzz:=hbz.size
  have hlaz:=lt_heap hkaz
  have hlvz:=lt_heap hkvz
  have HRz:=Lib.hid (HR.out.up hbz)
  obtain ⟨bs,hbs⟩ : ∃ bs,[27,99] ++ (rowsB F k).1 = bs:=⟨_,rfl⟩
  obtain ⟨⟨a1,a2,a3⟩,ha⟩ : ∃ x,(rowsB F k).2 = x:=⟨_,rfl⟩
  have hbl : bs.length ≤ 400002:=by rw [← hbs,List.length_append];have:=HLk.out k (by omega);simp only [List.length_cons,List.length_nil];omega
  rw [hbs] at hN HOz
  rw [ha] at HKAz
  have HBX:=Lib.hid (And.intro hbs ha)
  clear hown hkaz hkvz hbz hbs ha
  subst hN
  by_cases hlt : k < Rn
  ·have e0 : (0 : Int) ≤ k:=by omega
   have e1 : (k : Int) < Rn:=by omega
   have y0:=HKVz.out.cell 0 (v:=.int .i64 (Rn : Int)) rfl
   have y1:=HKVz.out.cell 1 (v:=.int .i64 (Cn : Int)) rfl
   have y2:=HKVz.out.cell 2 (v:=.slice A n c) rfl
   go_upto_region 9 with (first
    | (go_at_call 37;refine (rrow_own Rn Cn A n c cs k _ (HRz.out.up BWX) hn (by omega) hc).mono ?_;rintro ee w6 ⟨Ar,nr,cr,rfl,hnr,ho6,hb6⟩;rw [HFk.out k] at hnr ho6;have hb6z : Bw wz w6:=Bw.trans (show Bw wz _ from BWX) hb6;have HO6:=Lib.hid ho6;have HNR:=Lib.hid hnr;clear hb6 hnr ho6 y0 y1 y2)
    | fail)
   obtain ⟨A2,c2,e2,hc2,hcm2⟩:=own_form HO6.out
   cases e2
   have hnr6 : nr ≤ Cn:=by rw [HNR.out];exact HFl.out k
   have HKV6:=Lib.hid (HKVz.out.up hb6z)
   have HKA6:=Lib.hid (HKAz.out.up hb6z)
   have HD6:=Lib.hid (HOz.out.bw hb6z)
   have HR6:=Lib.hid (Rg.of_own HO6.out)
   have HB6:=Lib.hid (Bw.trans HBz.out hb6z)
   have hz6:=hb6z.size
   obtain ⟨ys,hys⟩ : ∃ ys,F k = ys:=⟨_,rfl⟩
   have HYS:=Lib.hid hys
   rw [hys] at HR6 HNR HO6
   clear hys hb6z HKVz HKAz HOz HRz
   go_wp2_with fail
   go_loopw [7] (fun v wr => ∃ m : Nat,v = .int .i64 (m : Int) ∧ m ≤ nr ∧ trimB (ys.take m) = trimB ys ∧ Bw w6 wr) (fun v _ => (intOf v).toNat)
   case atStart => exact ⟨nr,rfl,Nat.le_refl _,by rw [HNR.out,List.take_length],BWX⟩
   case round =>
    obtain ⟨wy,hwy⟩ : ∃ wy : World,wy = wr:=⟨_,rfl⟩
    subst hwy
    obtain ⟨m,rfl,hm,htm,hby⟩:=hrel
    have HTM:=Lib.hid htm
    have HBY:=Lib.hid (Bw.trans HB6.out hby)
    have HRy:=Lib.hid (HR6.out.up hby)
    have HKAy:=Lib.hid (HKA6.out.up hby)
    have HKVy:=Lib.hid (HKV6.out.up hby)
    have HDy:=Lib.hid (HD6.out.bw hby)
    have HBy6:=Lib.hid hby
    have hzy:=hby.size
    clear htm hby
    by_cases hm0 : m = 0
    ·subst hm0
     have HT0:=Lib.hid (show rowsB F (k + 1) = rowsB F k from rowsB_nil (by rw [HYS.out];have h:=HTM.out;rw [List.take_zero] at h;rw [← h];rfl))
     go_wp2_with fail
     go_roundw
     case rel => exact ⟨k + 1,D,_,cD,rfl,by go_num,by omega,by rw [HT0.out,HBX.out.1],by rw [HT0.out,HBX.out.1];exact HDy.out.bw BWX,by rw [HT0.out,HBX.out.2];exact HKAy.out.up BWX,HKVy.out.up BWX,Bw.trans HBY.out BWX⟩
     case measure => simp [intOf];omega
    ·obtain ⟨q,rfl⟩ : ∃ q,m = q + 1:=⟨m - 1,by omega⟩
     have hlen:=HR6.out.1
     obtain ⟨g,o,e,hx⟩:=HRy.out.2 (by omega)
     subst e
     have h1:=hx q (by omega)
     obtain ⟨⟨d1,d2,d3,d4⟩,hd⟩ : ∃ d,d = ys[q]'(by omega):=⟨_,rfl⟩
     rw [← hd] at h1
     have HSN:=Lib.hid (show ys.take (q + 1) = ys.take q ++ [(d1,d2,d3,d4)] by rw [hd,List.take_add_one,List.getElem?_eq_getElem (by omega)];rfl)
     obtain ⟨a0,a1',a2',a3'⟩:=h1
     dsimp only at a0 a1' a2' a3'
     have hgy : g < wy.heap.size:=lt_of_cell a0
     have hq0 : (0 : Int) < ((q + 1 : Nat) : Int):=by omega
     have hq1 : ((q + 1 : Nat) : Int) - 1 = q:=by omega
     have hq3 : (q : Int) < nr:=by omega
     have hq4 : (0 : Int) ≤ q:=by omega
     have hqw : IntKind.i64.wrap (q : Int) = q:=IntWalk.i64_in _ (by omega)
     clear hx hd hlen hm0
     by_cases hbk : (d1,d2,d3,d4) = blk
     ·have HTQ:=Lib.hid (show trimB (ys.take q) = trimB ys by rw [← HTM.out,HSN.out,hbk];exact (trimB_blk _).symm)
      simp only [blk,Prod.mk.injEq] at hbk
      obtain ⟨rfl,rfl,rfl,rfl⟩:=hbk
      go_wp2_with fail
      go_roundw
      case rel => exact ⟨q,by first|rfl|go_num,by omega,HTQ.out,Bw.trans HBy6.out BWX⟩
      case measure => (first|(simp [intOf];done)|(simp [intOf];omega)|omega)
     ·have HTQ:=Lib.hid (show trimB (F k) = ys.take (q + 1) by rw [HYS.out,← HTM.out,HSN.out];exact trimB_no _ _ hbk)
      have HNE:=Lib.hid (show ¬ (d1 = 32 ∧ d2 = 0 ∧ d3 = 0 ∧ d4 = 0) from fun h => hbk (by obtain ⟨rfl,rfl,rfl,rfl⟩:=h;rfl))
      have HRC:=Lib.hid (show rowsB F (k + 1) = _ from rowsB_cons HTQ.out (by rw [HSN.out];simp))
      clear hbk
      go_upto_region 10 with (fail)
      go_cut [37] (fun v w' => v = .bool false ∧ w' = wy)
      case first =>
       go_wp2_with fail
       all_goals first
        | (go_meet;case rel => exact ⟨rfl,rfl⟩)
        | (exact absurd ⟨by assumption,by assumption,by assumption,by assumption⟩ HNE.out)
      case rest =>
      obtain ⟨rfl,hwc⟩:=hcut
      obtain rfl:=hwc.symm
      have y0:=HKVy.out.cell 0 (v:=.int .i64 (Rn : Int)) rfl
      have y1:=HKVy.out.cell 1 (v:=.int .i64 (Cn : Int)) rfl
      have y2:=HKVy.out.cell 2 (v:=.slice A n c) rfl
      have z0:=HKAy.out.cell 0 (v:=.int .i64 a1) rfl
      have z1:=HKAy.out.cell 1 (v:=.int .i64 a2) rfl
      have z2:=HKAy.out.cell 2 (v:=.int .i64 a3) rfl
      have hlay:=lt_heap HKAy.out
      have hlvy:=lt_heap HKVy.out
      have HSEG:=Lib.hid (show (((rowF (Rn : Int) (Cn : Int) cs (k : Nat)).drop 0).take (q + 1 - 0)) = ys.take (q + 1) by rw [HFk.out,HYS.out];rfl)
      have HNRL:=Lib.hid (show q + 1 ≤ (rowF (Rn : Int) (Cn : Int) cs (k : Nat)).length by rw [HFk.out,HYS.out,← HNR.out];exact hm)
      go_upto_region 14 with (first
       | (go_at_call 38;refine (rpaint_any Rn Cn A n c cs k 0 (q + 1) a1 a2 a3 _ (HR.out.up (Bw.trans HBY.out (show Bw wy _ from BWX))) hn hc (by omega) (by omega) (by omega) HNRL.out (by omega)).mono ?_;rw [HSEG.out];rintro ee w8 ⟨u8',rfl,ho8,hb8⟩;have hb8y : Bw wy w8:=Bw.trans (show Bw wy _ from BWX) hb8;have HO8:=Lib.hid ho8;clear hb8 ho8;obtain ⟨⟨n1,n2,n3⟩,hn8⟩ : ∃ x,pntA (a1,a2,a3) (ys.take (q + 1)) = x:=⟨_,rfl⟩;rw [hn8];have HN8:=Lib.hid hn8;clear hn8)
       | fail)
      generalize hw9 : w8.alloc _ = w9
      obtain ⟨hk9,hb89,hz9⟩:=kb1 hw9
      obtain ⟨kn,hkn⟩ : ∃ kn,kn = w8.heap.size:=⟨_,rfl⟩
      rw [← hkn] at hk9 ⊢
      have hb9y:=Bw.trans hb8y hb89
      have HKN9:=Lib.hid hk9
      have HKA9:=Lib.hid (HKAy.out.up hb9y)
      have HKV9:=Lib.hid (HKVy.out.up hb9y)
      have HD9:=Lib.hid (HDy.out.bw hb9y)
      have HB9:=Lib.hid (Bw.trans HBY.out hb9y)
      have HO9:=Lib.hid (HO8.out.bw hb89)
      have hkna : kn ≠ ka:=by have:=hb8y.size;omega
      have hpl:=pntB_len (ys.take (q + 1)) (a1,a2,a3)
      have hgl:=goesL_len (k : Int) ((0 : Nat) : Int) (by omega) (by omega)
      have htl : (ys.take (q + 1)).length ≤ 100:=by rw [List.length_take];omega
      obtain ⟨sg,hsg⟩ : ∃ sg,goesL (k : Nat) ((0 : Nat) : Int) ++ pntB (a1,a2,a3) (ys.take (q + 1)) = sg:=⟨_,rfl⟩
      have hsl : sg.length ≤ 8 + 124 * 100:=by rw [← hsg,List.length_append];have:=Nat.mul_le_mul_left 124 htl;omega
      rw [hsg] at HO9
      have HSG:=Lib.hid hsg
      obtain ⟨A8,c8,e8,hc8,hcm8⟩:=own_form HO9.out
      have hz9b:=HB9.out.size
      have hz8w : w0.heap.size ≤ w8.heap.size:=by have:=hb8y.size;have:=HBY.out.size;omega
      clear hw9 hk9 hb89 hkn hb9y HKAy HKVy HDy HO8 hb8y hsg y0 y1 y2 z0 z1 z2 hpl hgl htl
      subst e8
      have hlen9:=lt_heap HKN9.out
      have HY:=Lib.hid (show ∀ w',Bw w9 w' → (w'.cell? ⟨kn,0,none⟩ = some (.int .i64 n1) ∧ w'.cell? ⟨kn,1,none⟩ = some (.int .i64 n2) ∧ w'.cell? ⟨kn,2,none⟩ = some (.int .i64 n3)) from fun w' hb => ⟨(HKN9.out.up hb).cell 0 rfl,(HKN9.out.up hb).cell 1 rfl,(HKN9.out.up hb).cell 2 rfl⟩)
      refine wp_region_held_drew (S:=(fun w' => w'.cell? ⟨kn,0,none⟩ = some (.int .i64 n1) ∧ w'.cell? ⟨kn,1,none⟩ = some (.int .i64 n2) ∧ w'.cell? ⟨kn,2,none⟩ = some (.int .i64 n3))) (by kernel_rfl) ?_ (fun hHeld => ?_)
      ·(try dsimp only);(first|(refine HY.out _ ?_;(repeat (first|with_reducible (first|assumption|exact Bw.refl _|refine Bw.alloc ?_ _|refine Bw.more ?_ _ _|refine Bw.drew ?_|refine Bw.drewN ?_ _)|((with_reducible refine Bw.set2 ?_ ?_ _);(focus exact SZX))|with_reducible refine Bw.trans ?_ (by assumption)));done)|(refine HY4.out _ ?_;(repeat (first|with_reducible (first|assumption|exact Bw.refl _|refine Bw.alloc ?_ _|refine Bw.more ?_ _ _|refine Bw.drew ?_|refine Bw.drewN ?_ _)|((with_reducible refine Bw.set2 ?_ ?_ _);(focus exact SZX))|with_reducible refine Bw.trans ?_ (by assumption)));done)|(refine HY5.out _ ?_;(repeat (first|with_reducible (first|assumption|exact Bw.refl _|refine Bw.alloc ?_ _|refine Bw.more ?_ _ _|refine Bw.drew ?_|refine Bw.drewN ?_ _)|((with_reducible refine Bw.set2 ?_ ?_ _);(focus exact SZX))|with_reducible refine Bw.trans ?_ (by assumption)));done))
      refine tkQ 0 ?_
      (try simp only [Act.put,zP1,zP2,zP3,zP4,zP5,zP6])
      refine tkQ 1 ?_
      refine tkQ 3 ?_
      (try simp only [Act.put,zP1,zP2,zP3,zP4,zP5,zP6])
      refine arO 2 (fun K hK => ?_)
      refine step_append_srcG (by rfl) (.tmp 51) (.tmp 52) 33 rfl w0.heap.size 5 i0 (.int .u8 0) 1 1 Tryz.underlying33 hi iz0 iz1 iz2 rfl (by decide) (.slice D bs.length cD) bs.length _ (by rfl) (HD9.out.bw (show Bw w9 w9.drew from BWX)) A8 sg.length c8 (sg.map (.int .u8)) (by rfl) (by simp) (fun e => ((own_rd HO9.out).none_ e).1) ((own_rd HO9.out).up (show Bw w9 w9.drew from BWX)).news2 (one_u8 _) (by unfold maxLen;omega) (by omega) (by have:=HB9.out.size;simp;omega) ?_;intro v4 w4 hown4 hg4;obtain ⟨D4,c4,rfl,hc4,hc4m⟩:=own_form hown4;have HO4:=Lib.hid hown4;have hO4p:=HD9.out.bw (show Bw w9 w9.drew from BWX);have HKN4:=Lib.hid (Kb.row (HKN9.out.up (show Bw w9 w9.drew from BWX)) hO4p hg4 (by decide));have HKA4:=Lib.hid (Kb.row (HKA9.out.up (show Bw w9 w9.drew from BWX)) hO4p hg4 (by decide));have HKV4:=Lib.hid (Kb.row (HKV9.out.up (show Bw w9 w9.drew from BWX)) hO4p hg4 (by decide));have HB4:=Lib.hid (show Bw w0 w4 from Bw.row (Bw.trans HB9.out (show Bw w9 w9.drew from BWX)) hO4p hg4 (Nat.le_refl _));have HY4:=Lib.hid (show ∀ w',Bw w4 w' → (w'.cell? ⟨kn,0,none⟩ = some (.int .i64 n1) ∧ w'.cell? ⟨kn,1,none⟩ = some (.int .i64 n2) ∧ w'.cell? ⟨kn,2,none⟩ = some (.int .i64 n3)) from fun w' hb => ⟨(HKN4.out.up hb).cell 0 rfl,(HKN4.out.up hb).cell 1 rfl,(HKN4.out.up hb).cell 2 rfl⟩);clear hown4 hg4 hO4p
      refine hK.out _ _ ?_ (fun hHeld => ?_)
      ·(try dsimp only);(first|(refine HY.out _ ?_;(repeat (first|with_reducible (first|assumption|exact Bw.refl _|refine Bw.alloc ?_ _|refine Bw.more ?_ _ _|refine Bw.drew ?_|refine Bw.drewN ?_ _)|((with_reducible refine Bw.set2 ?_ ?_ _);(focus exact SZX))|with_reducible refine Bw.trans ?_ (by assumption)));done)|(refine HY4.out _ ?_;(repeat (first|with_reducible (first|assumption|exact Bw.refl _|refine Bw.alloc ?_ _|refine Bw.more ?_ _ _|refine Bw.drew ?_|refine Bw.drewN ?_ _)|((with_reducible refine Bw.set2 ?_ ?_ _);(focus exact SZX))|with_reducible refine Bw.trans ?_ (by assumption)));done)|(refine HY5.out _ ?_;(repeat (first|with_reducible (first|assumption|exact Bw.refl _|refine Bw.alloc ?_ _|refine Bw.more ?_ _ _|refine Bw.drew ?_|refine Bw.drewN ?_ _)|((with_reducible refine Bw.set2 ?_ ?_ _);(focus exact SZX))|with_reducible refine Bw.trans ?_ (by assumption)));done))
      clear hK K
      (try simp only [Act.put,zP1,zP2,zP3,zP4,zP5,zP6])
      refine arO 4 (fun K hK => ?_)
      go_simp
      refine hK.out _ _ ?_ (fun hHeld => ?_)
      ·(try dsimp only);(first|(refine HY.out _ ?_;(repeat (first|with_reducible (first|assumption|exact Bw.refl _|refine Bw.alloc ?_ _|refine Bw.more ?_ _ _|refine Bw.drew ?_|refine Bw.drewN ?_ _)|((with_reducible refine Bw.set2 ?_ ?_ _);(focus exact SZX))|with_reducible refine Bw.trans ?_ (by assumption)));done)|(refine HY4.out _ ?_;(repeat (first|with_reducible (first|assumption|exact Bw.refl _|refine Bw.alloc ?_ _|refine Bw.more ?_ _ _|refine Bw.drew ?_|refine Bw.drewN ?_ _)|((with_reducible refine Bw.set2 ?_ ?_ _);(focus exact SZX))|with_reducible refine Bw.trans ?_ (by assumption)));done)|(refine HY5.out _ ?_;(repeat (first|with_reducible (first|assumption|exact Bw.refl _|refine Bw.alloc ?_ _|refine Bw.more ?_ _ _|refine Bw.drew ?_|refine Bw.drewN ?_ _)|((with_reducible refine Bw.set2 ?_ ?_ _);(focus exact SZX))|with_reducible refine Bw.trans ?_ (by assumption)));done))
      clear hK K
      (try simp only [Act.put,zP1,zP2,zP3,zP4,zP5,zP6])
      refine arO 5 (fun K hK => ?_)
      (refine (if_pos (by kernel_rfl)).mpr ?_);(with_reducible refine wp_store_kb 42 #[.int .i64 n1,.int .i64 n2,.int .i64 n3] ka (.tmp 4) (.tmp 54) (infoA3 _ _ _) (at3_one n1 n2 n3) ?ho ?_ ?_ ?_ ?_);(case ho => rfl);(focus rfl);(focus rfl);(focus (exact ⟨_,HKA4.out.up BWX,rfl⟩));intro w5 hk5 hg5;have HK5:=Lib.hid hk5;have HG5:=Lib.hid ((grown_bw (show Bw w4 _ from BWX) _).trans hg5);have HKN5:=Lib.hid (HKN4.out.far HG5.out hkna);have HY5:=Lib.hid (show ∀ w',Bw w5 w' → (w'.cell? ⟨kn,0,none⟩ = some (.int .i64 n1) ∧ w'.cell? ⟨kn,1,none⟩ = some (.int .i64 n2) ∧ w'.cell? ⟨kn,2,none⟩ = some (.int .i64 n3)) from fun w' hb => ⟨(HKN5.out.up hb).cell 0 rfl,(HKN5.out.up hb).cell 1 rfl,(HKN5.out.up hb).cell 2 rfl⟩);clear hk5 hg5
      refine hK.out _ _ ?_ (fun hHeld => ?_)
      ·(try dsimp only);(first|(refine HY.out _ ?_;(repeat (first|with_reducible (first|assumption|exact Bw.refl _|refine Bw.alloc ?_ _|refine Bw.more ?_ _ _|refine Bw.drew ?_|refine Bw.drewN ?_ _)|((with_reducible refine Bw.set2 ?_ ?_ _);(focus exact SZX))|with_reducible refine Bw.trans ?_ (by assumption)));done)|(refine HY4.out _ ?_;(repeat (first|with_reducible (first|assumption|exact Bw.refl _|refine Bw.alloc ?_ _|refine Bw.more ?_ _ _|refine Bw.drew ?_|refine Bw.drewN ?_ _)|((with_reducible refine Bw.set2 ?_ ?_ _);(focus exact SZX))|with_reducible refine Bw.trans ?_ (by assumption)));done)|(refine HY5.out _ ?_;(repeat (first|with_reducible (first|assumption|exact Bw.refl _|refine Bw.alloc ?_ _|refine Bw.more ?_ _ _|refine Bw.drew ?_|refine Bw.drewN ?_ _)|((with_reducible refine Bw.set2 ?_ ?_ _);(focus exact SZX))|with_reducible refine Bw.trans ?_ (by assumption)));done))
      clear hK K
      (try simp only [Act.put,zP1,zP2,zP3,zP4,zP5,zP6])
      refine wpAnyH_done (by kernel_rfl) ?_ _
      go_wp2_with fail
      go_roundw
      case rel =>
       have e9 : [27,99] ++ (rowsB F (k + 1)).1 = bs ++ sg:=by
        rw [HRC.out,← HBX.out.1,← HSG.out]
        dsimp only
        rw [HBX.out.2]
        first|rfl|(simp only [List.append_assoc];first|done|rfl)
       have eA : (rowsB F (k + 1)).2 = (n1,n2,n3):=by
        rw [HRC.out]
        dsimp only
        rw [HBX.out.2]
        exact HN8.out
       refine ⟨k + 1,D4,_,c4,rfl,by go_num,by omega,?_,?_,?_,?_,?_⟩
       ·rw [e9,List.length_append]
       ·rw [e9,List.map_append]
        exact (own_farN HO4.out HG5.out HKA4.out.tyN (by decide)).bw BWX
       ·rw [eA];exact HK5.out.up BWX
       ·exact (HKV4.out.far HG5.out hkva).up BWX
       ·exact Bw.trans (Bw.grown HB4.out HG5.out (fun j hj => by cases hj;omega)) BWX
      case measure => simp [intOf];omega
  ·obtain rfl : k = Rn:=by omega
   have hb2:=bts_len (a1,a2,a3) (0,0,0)
   have hgl:=goesL_len row col (by omega) (by omega)
   rw [HBX.out.1,HBX.out.2] at HE
   have y0:=HKVz.out.cell 0 (v:=.int .i64 (k : Int)) rfl
   have HY:=Lib.hid (show ∀ w',Bw wz w' → (w'.cell? ⟨ka,0,none⟩ = some (.int .i64 a1) ∧ w'.cell? ⟨ka,1,none⟩ = some (.int .i64 a2) ∧ w'.cell? ⟨ka,2,none⟩ = some (.int .i64 a3) ∧ w'.cell? ⟨kv,3,none⟩ = some (.int .i64 row) ∧ w'.cell? ⟨kv,4,none⟩ = some (.int .i64 col)) from fun w' hb => ⟨(HKAz.out.up hb).cell 0 rfl,(HKAz.out.up hb).cell 1 rfl,(HKAz.out.up hb).cell 2 rfl,(HKVz.out.up hb).cell 3 rfl,(HKVz.out.up hb).cell 4 rfl⟩)
   go_upto_region 15 with (fail)
   refine wp_region_held_drew (S:=(fun w' => w'.cell? ⟨ka,0,none⟩ = some (.int .i64 a1) ∧ w'.cell? ⟨ka,1,none⟩ = some (.int .i64 a2) ∧ w'.cell? ⟨ka,2,none⟩ = some (.int .i64 a3) ∧ w'.cell? ⟨kv,3,none⟩ = some (.int .i64 row) ∧ w'.cell? ⟨kv,4,none⟩ = some (.int .i64 col))) (by kernel_rfl) ?_ (fun hHeld => ?_)
   ·(try dsimp only);(first|(refine HY.out _ ?_;(repeat (first|with_reducible (first|assumption|exact Bw.refl _|refine Bw.alloc ?_ _|refine Bw.more ?_ _ _|refine Bw.drew ?_|refine Bw.drewN ?_ _)|((with_reducible refine Bw.set2 ?_ ?_ _);(focus exact SZX))|with_reducible refine Bw.trans ?_ (by assumption)));done)|(refine HY4.out _ ?_;(repeat (first|with_reducible (first|assumption|exact Bw.refl _|refine Bw.alloc ?_ _|refine Bw.more ?_ _ _|refine Bw.drew ?_|refine Bw.drewN ?_ _)|((with_reducible refine Bw.set2 ?_ ?_ _);(focus exact SZX))|with_reducible refine Bw.trans ?_ (by assumption)));done)|(refine HY6.out _ ?_;(repeat (first|with_reducible (first|assumption|exact Bw.refl _|refine Bw.alloc ?_ _|refine Bw.more ?_ _ _|refine Bw.drew ?_|refine Bw.drewN ?_ _)|((with_reducible refine Bw.set2 ?_ ?_ _);(focus exact SZX))|with_reducible refine Bw.trans ?_ (by assumption)));done))
   refine tkQ 0 ?_
   (try simp only [Act.put,zP1,zP2,zP3,zP4,zP5,zP6])
   refine tkQ 1 ?_
   refine tkQ 2 ?_
   refine tkQ 5 ?_
   (try simp only [Act.put,zP1,zP2,zP3,zP4,zP5,zP6])
   refine tkQ 6 ?_
   refine tkQ 7 ?_
   refine tkQ 8 ?_
   (try simp only [Act.put,zP1,zP2,zP3,zP4,zP5,zP6])
   refine arO 3 (fun K hK => ?_)
   go_simp
   refine (rbytes_any a1 a2 a3 0 0 0 _).mono ?_;rintro ee w3 ⟨v3,rfl,hv3,hb3⟩;obtain ⟨A3,c3,rfl,h31,h32,h33⟩:=hv3;have hb3' : Bw wz w3:=Bw.trans (show Bw wz _ from BWX) hb3;have HR3:=Lib.hid h33;have HO3:=Lib.hid (HOz.out.bw hb3');clear hb3 h33;go_wp2_with fail
   refine hK.out _ _ ?_ (fun hHeld => ?_)
   ·(try dsimp only);(first|(refine HY.out _ ?_;(repeat (first|with_reducible (first|assumption|exact Bw.refl _|refine Bw.alloc ?_ _|refine Bw.more ?_ _ _|refine Bw.drew ?_|refine Bw.drewN ?_ _)|((with_reducible refine Bw.set2 ?_ ?_ _);(focus exact SZX))|with_reducible refine Bw.trans ?_ (by assumption)));done)|(refine HY4.out _ ?_;(repeat (first|with_reducible (first|assumption|exact Bw.refl _|refine Bw.alloc ?_ _|refine Bw.more ?_ _ _|refine Bw.drew ?_|refine Bw.drewN ?_ _)|((with_reducible refine Bw.set2 ?_ ?_ _);(focus exact SZX))|with_reducible refine Bw.trans ?_ (by assumption)));done)|(refine HY6.out _ ?_;(repeat (first|with_reducible (first|assumption|exact Bw.refl _|refine Bw.alloc ?_ _|refine Bw.more ?_ _ _|refine Bw.drew ?_|refine Bw.drewN ?_ _)|((with_reducible refine Bw.set2 ?_ ?_ _);(focus exact SZX))|with_reducible refine Bw.trans ?_ (by assumption)));done))
   clear hK K
   (try simp only [Act.put,zP1,zP2,zP3,zP4,zP5,zP6])
   refine arO 4 (fun K hK => ?_)
   refine step_append_srcG (by rfl) (.tmp 55) (.tmp 58) 33 rfl w0.heap.size 5 i0 (.int .u8 0) 1 1 Tryz.underlying33 hi iz0 iz1 iz2 rfl (by decide) (.slice D bs.length cD) bs.length _ (by rfl) HO3.out A3 (bts (a1,a2,a3) (0,0,0)).length c3 ((bts (a1,a2,a3) (0,0,0)).map (.int .u8)) (by rfl) (by simp) (fun e => (HR3.out.none_ e).1) HR3.out.news2 (one_u8 _) (by unfold maxLen;omega) (by omega) (by have:=HBz.out.size;have:=hb3'.size;simp;omega) ?_;intro v4 w4 hown4 hg4;obtain ⟨D4,c4,rfl,hc4,hc4m⟩:=own_form hown4;have HO4:=Lib.hid hown4;have HKA4:=Lib.hid (Kb.row (HKAz.out.up hb3') HO3.out hg4 (by decide));have HKV4:=Lib.hid (Kb.row (HKVz.out.up hb3') HO3.out hg4 (by decide));have HB4:=Lib.hid (show Bw w0 w4 from Bw.row (Bw.trans HBz.out hb3') HO3.out hg4 (Nat.le_refl _));have HY4:=Lib.hid (show ∀ w',Bw w4 w' → (w'.cell? ⟨ka,0,none⟩ = some (.int .i64 a1) ∧ w'.cell? ⟨ka,1,none⟩ = some (.int .i64 a2) ∧ w'.cell? ⟨ka,2,none⟩ = some (.int .i64 a3) ∧ w'.cell? ⟨kv,3,none⟩ = some (.int .i64 row) ∧ w'.cell? ⟨kv,4,none⟩ = some (.int .i64 col)) from fun w' hb => ⟨(HKA4.out.up hb).cell 0 rfl,(HKA4.out.up hb).cell 1 rfl,(HKA4.out.up hb).cell 2 rfl,(HKV4.out.up hb).cell 3 rfl,(HKV4.out.up hb).cell 4 rfl⟩);clear hown4 hg4
   refine hK.out _ _ ?_ (fun hHeld => ?_)
   ·(try dsimp only);(first|(refine HY.out _ ?_;(repeat (first|with_reducible (first|assumption|exact Bw.refl _|refine Bw.alloc ?_ _|refine Bw.more ?_ _ _|refine Bw.drew ?_|refine Bw.drewN ?_ _)|((with_reducible refine Bw.set2 ?_ ?_ _);(focus exact SZX))|with_reducible refine Bw.trans ?_ (by assumption)));done)|(refine HY4.out _ ?_;(repeat (first|with_reducible (first|assumption|exact Bw.refl _|refine Bw.alloc ?_ _|refine Bw.more ?_ _ _|refine Bw.drew ?_|refine Bw.drewN ?_ _)|((with_reducible refine Bw.set2 ?_ ?_ _);(focus exact SZX))|with_reducible refine Bw.trans ?_ (by assumption)));done)|(refine HY6.out _ ?_;(repeat (first|with_reducible (first|assumption|exact Bw.refl _|refine Bw.alloc ?_ _|refine Bw.more ?_ _ _|refine Bw.drew ?_|refine Bw.drewN ?_ _)|((with_reducible refine Bw.set2 ?_ ?_ _);(focus exact SZX))|with_reducible refine Bw.trans ?_ (by assumption)));done))
   clear hK K
   (try simp only [Act.put,zP1,zP2,zP3,zP4,zP5,zP6])
   refine arO 9 (fun K hK => ?_)
   go_simp
   refine (rgoes_any row col _ hrow0 (by omega) hcol0 (by omega)).mono ?_;rintro ee w5 ⟨u5,rfl,hown5,hb5⟩;obtain ⟨A5,c5,rfl,hc5,hc5m⟩:=own_form hown5;have hb5' : Bw w4 w5:=Bw.trans (show Bw w4 _ from BWX) hb5;have HG5:=Lib.hid hown5;have HO5:=Lib.hid (HO4.out.bw hb5');clear hown5 hb5;go_wp2_with fail
   refine hK.out _ _ ?_ (fun hHeld => ?_)
   ·(try dsimp only);(first|(refine HY.out _ ?_;(repeat (first|with_reducible (first|assumption|exact Bw.refl _|refine Bw.alloc ?_ _|refine Bw.more ?_ _ _|refine Bw.drew ?_|refine Bw.drewN ?_ _)|((with_reducible refine Bw.set2 ?_ ?_ _);(focus exact SZX))|with_reducible refine Bw.trans ?_ (by assumption)));done)|(refine HY4.out _ ?_;(repeat (first|with_reducible (first|assumption|exact Bw.refl _|refine Bw.alloc ?_ _|refine Bw.more ?_ _ _|refine Bw.drew ?_|refine Bw.drewN ?_ _)|((with_reducible refine Bw.set2 ?_ ?_ _);(focus exact SZX))|with_reducible refine Bw.trans ?_ (by assumption)));done)|(refine HY6.out _ ?_;(repeat (first|with_reducible (first|assumption|exact Bw.refl _|refine Bw.alloc ?_ _|refine Bw.more ?_ _ _|refine Bw.drew ?_|refine Bw.drewN ?_ _)|((with_reducible refine Bw.set2 ?_ ?_ _);(focus exact SZX))|with_reducible refine Bw.trans ?_ (by assumption)));done))
   clear hK K
   (try simp only [Act.put,zP1,zP2,zP3,zP4,zP5,zP6])
   refine arO 10 (fun K hK => ?_)
   refine step_append_srcG (by rfl) (.tmp 59) (.tmp 64) 33 rfl w0.heap.size 5 i0 (.int .u8 0) 1 1 Tryz.underlying33 hi iz0 iz1 iz2 rfl (by decide) (.slice D4 (bs.length + (bts (a1,a2,a3) (0,0,0)).length) c4) (bs.length + (bts (a1,a2,a3) (0,0,0)).length) _ (by rfl) HO5.out A5 (goesL row col).length c5 ((goesL row col).map (.int .u8)) (by rfl) (by simp) (fun e => ((own_rd HG5.out).none_ e).1) (own_rd HG5.out).news2 (one_u8 _) (by unfold maxLen;omega) (by omega) (by have:=HB4.out.size;have:=hb5'.size;simp;omega) ?_;intro v6 w6 hown6 hg6;obtain ⟨D6,c6,rfl,hc6,hc6m⟩:=own_form hown6;have HO6:=Lib.hid hown6;have HKA6:=Lib.hid (Kb.row (HKA4.out.up hb5') HO5.out hg6 (by decide));have HKV6:=Lib.hid (Kb.row (HKV4.out.up hb5') HO5.out hg6 (by decide));have HB6:=Lib.hid (show Bw w0 w6 from Bw.row (Bw.trans HB4.out hb5') HO5.out hg6 (Nat.le_refl _));have HY6:=Lib.hid (show ∀ w',Bw w6 w' → (w'.cell? ⟨ka,0,none⟩ = some (.int .i64 a1) ∧ w'.cell? ⟨ka,1,none⟩ = some (.int .i64 a2) ∧ w'.cell? ⟨ka,2,none⟩ = some (.int .i64 a3) ∧ w'.cell? ⟨kv,3,none⟩ = some (.int .i64 row) ∧ w'.cell? ⟨kv,4,none⟩ = some (.int .i64 col)) from fun w' hb => ⟨(HKA6.out.up hb).cell 0 rfl,(HKA6.out.up hb).cell 1 rfl,(HKA6.out.up hb).cell 2 rfl,(HKV6.out.up hb).cell 3 rfl,(HKV6.out.up hb).cell 4 rfl⟩);clear hown6 hg6
   refine hK.out _ _ ?_ (fun hHeld => ?_)
   ·(try dsimp only);(first|(refine HY.out _ ?_;(repeat (first|with_reducible (first|assumption|exact Bw.refl _|refine Bw.alloc ?_ _|refine Bw.more ?_ _ _|refine Bw.drew ?_|refine Bw.drewN ?_ _)|((with_reducible refine Bw.set2 ?_ ?_ _);(focus exact SZX))|with_reducible refine Bw.trans ?_ (by assumption)));done)|(refine HY4.out _ ?_;(repeat (first|with_reducible (first|assumption|exact Bw.refl _|refine Bw.alloc ?_ _|refine Bw.more ?_ _ _|refine Bw.drew ?_|refine Bw.drewN ?_ _)|((with_reducible refine Bw.set2 ?_ ?_ _);(focus exact SZX))|with_reducible refine Bw.trans ?_ (by assumption)));done)|(refine HY6.out _ ?_;(repeat (first|with_reducible (first|assumption|exact Bw.refl _|refine Bw.alloc ?_ _|refine Bw.more ?_ _ _|refine Bw.drew ?_|refine Bw.drewN ?_ _)|((with_reducible refine Bw.set2 ?_ ?_ _);(focus exact SZX))|with_reducible refine Bw.trans ?_ (by assumption)));done))
   clear hK K
   (try simp only [Act.put,zP1,zP2,zP3,zP4,zP5,zP6])
   refine arO 11 (fun K hK => ?_)
   go_simp
   refine hK.out _ _ ?_ (fun hHeld => ?_)
   ·(try dsimp only);(first|(refine HY.out _ ?_;(repeat (first|with_reducible (first|assumption|exact Bw.refl _|refine Bw.alloc ?_ _|refine Bw.more ?_ _ _|refine Bw.drew ?_|refine Bw.drewN ?_ _)|((with_reducible refine Bw.set2 ?_ ?_ _);(focus exact SZX))|with_reducible refine Bw.trans ?_ (by assumption)));done)|(refine HY4.out _ ?_;(repeat (first|with_reducible (first|assumption|exact Bw.refl _|refine Bw.alloc ?_ _|refine Bw.more ?_ _ _|refine Bw.drew ?_|refine Bw.drewN ?_ _)|((with_reducible refine Bw.set2 ?_ ?_ _);(focus exact SZX))|with_reducible refine Bw.trans ?_ (by assumption)));done)|(refine HY6.out _ ?_;(repeat (first|with_reducible (first|assumption|exact Bw.refl _|refine Bw.alloc ?_ _|refine Bw.more ?_ _ _|refine Bw.drew ?_|refine Bw.drewN ?_ _)|((with_reducible refine Bw.set2 ?_ ?_ _);(focus exact SZX))|with_reducible refine Bw.trans ?_ (by assumption)));done))
   clear hK K
   (try simp only [Act.put,zP1,zP2,zP3,zP4,zP5,zP6])
   refine wpAnyH_done (by kernel_rfl) ?_ _
   have p5:=HKV6.out.cell 5 (v:=.bool hid) rfl
   have hlv6:=lt_heap HKV6.out
   have hz6:=HB6.out.size
   cases hid
   ·have HE2:=Lib.hid (show fullL (k : Int) (Cn : Int) cs row col false = bs ++ bts (a1,a2,a3) (0,0,0) ++ goesL row col from HE.out.trans (List.append_nil _))
    go_wp2_with fail
    go_ret
    refine ⟨_,rfl,?_,Bw.trans HB6.out BWX⟩
    rw [HE2.out]
    refine Sl.up (Sl.of_own (base:=w0.heap.size) (e:=5) (n:=bs.length + (bts (a1,a2,a3) (0,0,0)).length + (goesL row col).length) ?_) (show Bw w6 _ from BWX)
    simp only [List.map_append]
    exact HO6.out
   ·have HE2:=Lib.hid (show fullL (k : Int) (Cn : Int) cs row col true = bs ++ bts (a1,a2,a3) (0,0,0) ++ goesL row col ++ [27,91,63,50,53,108] from HE.out)
    go_wp2_with (first
     | (at_builtin;refine wpList_append_srcG (by rfl) (.tmp 68) (.tmp 69) 33 rfl w0.heap.size 5 i0 (.int .u8 0) 1 1 Tryz.underlying33 hi iz0 iz1 iz2 rfl (by decide) (.slice D6 (bs.length + (bts (a1,a2,a3) (0,0,0)).length + (goesL row col).length) c6) (bs.length + (bts (a1,a2,a3) (0,0,0)).length + (goesL row col).length) _ (by rfl) (HO6.out.bw (show Bw w6 _ from BWX)) (some ⟨_,0,none⟩) 6 6 (List.map (Value.int .u8) [27,91,63,50,53,108]) (by rfl) (by simp) (fun e => by cases e) (Rd.lit w6 5 _ [27,91,63,50,53,108] 6 rfl rfl).news2 (one_u8 _) (by unfold maxLen;omega) (by omega) (by have:=HB6.out.size;simp;omega) ?_;intro v7 w7 hown7 hg7;have HO7:=Lib.hid hown7;have HB7:=Lib.hid (show Bw w0 w7 from Bw.row (Bw.trans HB6.out (show Bw w6 _ from BWX)) (HO6.out.bw (show Bw w6 _ from BWX)) hg7 (Nat.le_refl _));clear hown7 hg7)
     | fail)
    go_ret
    refine ⟨_,rfl,?_,Bw.trans HB7.out BWX⟩
    rw [HE2.out]
    refine Sl.up (Sl.of_own (base:=w0.heap.size) (e:=5) (n:=bs.length + (bts (a1,a2,a3) (0,0,0)).length + (goesL row col).length + 6) ?_) (show Bw w7 _ from BWX)
    simp only [List.map_append]
    exact HO7.out
end Go.Proofs.YteebdjmjeahccaaGreatDoor
