/- Parts of the proof, one after the other. -/
import Derived.Test.YteebdjmjeahccaaGreatDoorQ45
set_option linter.unusedSimpArgs false
set_option linter.unusedVariables false
/- The law RenderQuiet. -/
namespace Go.Proofs.YteebdjmjeahccaaGreatDoor
open Go.RowKit

/-- The list is empty, or begins with an escape character. -/
def Hd (l : List Int) : Prop:=∀ x t,l = x :: t → x = 27
theorem Hd.nil_ : Hd []:=fun x t h => by cases h
theorem Hd.cons (t : List Int) : Hd (27 :: t):=fun x s h => by cases h;rfl
theorem Hd.app {a b : List Int} (ha : Hd a) (hb : Hd b) : Hd (a ++ b):=fun x t h => by
 cases a with
 | nil => exact hb x t h
 | cons y s =>
  have : y = x:=by simpa using (List.cons.inj h).1
  rw [← this]
  exact ha y s rfl
theorem Hd.goes (r c : Int) (l : List Int) : Hd (goesL r c ++ l):=fun x t h => by
 unfold goesL at h
 simp only [List.cons_append,List.nil_append] at h
 exact (List.cons.inj h).1.symm
theorem Hd.goes0 (r c : Int) : Hd (goesL r c):=by have h:=Hd.goes r c [];rw [List.append_nil] at h;exact h
theorem Hd.bts (x y : A3) : Hd (bts x y):=by
 unfold Go.Proofs.YteebdjmjeahccaaGreatDoor.bts
 split
 ·exact Hd.nil_
 ·intro x t h
  unfold bytesOf at h
  simp only [List.cons_append,List.nil_append] at h
  exact (List.cons.inj h).1.symm
theorem Hd.hide (b : Bool) : Hd (hideL b):=by cases b <;> exact Hd.cons _
theorem Hd.difF (xs ys : List C4) (r : Int) : ∀ (f i : Nat) (s : List Int × A3),Hd s.1 → Hd (difF xs ys r f i s).1
 | 0,_,s,h => h
 | f + 1,i,s,h => by
  rw [Go.Proofs.YteebdjmjeahccaaGreatDoor.difF]
  split
  ·exact Hd.difF xs ys r f _ _ h
  ·exact Hd.difF xs ys r f _ _ (h.app (Hd.goes _ _ _))
theorem Hd.difRows (F G : Nat → List C4) : ∀ n,Hd (difRows F G n).1
 | 0 => Hd.nil_
 | n + 1 => Hd.difF _ _ _ _ _ _ (Hd.difRows F G n)
theorem Hd.diffL (R C : Int) (cs : List C4) (row col : Int) (hid : Bool) (R2 C2 : Int) (ds : List C4) (row2 col2 : Int) (hid2 : Bool) : Hd (diffL R C cs row col hid R2 C2 ds row2 col2 hid2):=by
 unfold Go.Proofs.YteebdjmjeahccaaGreatDoor.diffL
 split
 ·split
  ·refine (((Hd.difRows _ _ _).app (Hd.bts _ _)).app (Hd.goes0 _ _)).app ?_
   split
   ·exact Hd.nil_
   ·exact Hd.hide _
  ·unfold fullL
   split
   ·simp only [List.cons_append,List.nil_append];exact Hd.cons _
   ·exact Hd.nil_
 ·exact Hd.nil_
theorem goesL_ne (r c : Int) : 4 ≤ (goesL r c).length:=by
 unfold goesL
 simp only [List.length_append,List.length_cons,List.length_nil]
 omega
theorem fullL_27 {R C : Int} {cs : List C4} {row col : Int} (hid : Bool) (h : viewB R C cs row col = true) : ∃ t,fullL R C cs row col hid = 27 :: t ∧ 4 ≤ t.length:=by
 have h1:=goesL_ne row col
 unfold fullL
 rw [if_pos h]
 simp only [List.cons_append,List.nil_append]
 refine ⟨_,rfl,?_⟩
 simp only [List.length_append,List.length_cons,List.length_nil]
 omega
theorem diffL_27 {R C : Int} {cs : List C4} {row col : Int} {hid : Bool} {ds : List C4} {row2 col2 : Int} {hid2 : Bool} (hb : viewB R C ds row2 col2 = true) (hs : sameV R C cs row col hid R C ds row2 col2 hid2 = false) : ∃ t,diffL R C cs row col hid R C ds row2 col2 hid2 = 27 :: t:=by
 have h1:=Hd.diffL R C cs row col hid R C ds row2 col2 hid2
 cases hL : diffL R C cs row col hid R C ds row2 col2 hid2 with
 | cons x t => exact ⟨t,by rw [h1 x t hL]⟩
 | nil =>
  exfalso
  have h2:=goesL_ne row2 col2
  have h3:=congrArg List.length hL
  obtain ⟨t,ht,-⟩:=fullL_27 hid2 hb
  unfold diffL at h3
  rw [if_pos ⟨hb,hs⟩] at h3
  split at h3
  ·simp only [List.length_append,List.length_nil] at h3
   omega
  ·rw [ht] at h3
   simp at h3
theorem Rd.first {w : World} {A : Option Addr} {n : Nat} {x : Int} {t : List Int} (h : Rd (.int .u8) w A n (x :: t)) : ∃ g o,A = some ⟨g,o,none⟩ ∧ w.cell? ⟨g,o,none⟩ = some (.int .u8 x):=by
 obtain ⟨g,o,e,hx⟩:=h.2 (by rw [← h.1];simp)
 exact ⟨g,o,e,by have:=hx 0 (by simp);simpa using this⟩

set_option maxRecDepth 100000 in
set_option maxHeartbeats 16000000 in
theorem quiet_any (A : Option Addr) (n c : Nat) (xs : List Int) (w : World) (hr : RdI w A n xs) (hA : 0 < n → ∀ ad,A = some ad → ad.block < w.heap.size) (hn : n ≤ 9223372036854775807) (ht : PowT w.heap.size w) :
  Calls Tryz.prog 7 #[.slice A n c] w fun e w' => e = .returned (.bool true) ∧ Bw w w':=by
 have HT:=Lib.hid ht
 have HRL:=Lib.hid hr
 have HAL:=Lib.hid hA
 clear hr ht hA
 go_enter Tryz.func7,Tryz.ntmps7
 go_upto_region 3 with (first
  | (go_at_call 8;refine (sane20_any _ HT.out).mono ?_;rintro ee w1 ⟨rfl,hb1⟩;have HB1:=Lib.hid hb1;clear hb1)
  | fail)
 go_upto_region 4 with (first
  | (go_at_call 9;refine (views_any A n c xs _ (HRL.out.up HAL.out (Bw.trans HB1.out (show Bw w1 _ from BWX))) (fun h0 ad e => by have:=HAL.out h0 ad e;have:=HB1.out.size;omega) hn).mono ?_;rintro ee w2 ⟨R,C,x,y,rfl,⟨A1,n1,c1,cs,row,col,hid,rfl,k1,k2,k3,k4,k5⟩,⟨A2,n2,c2,ds,row2,col2,hid2,rfl,l1,l2,l3,l4,l5⟩,hb2⟩;have HB2:=Lib.hid (Bw.trans HB1.out (Bw.trans (show Bw w1 _ from BWX) hb2));have HX:=Lib.hid k1;have HY:=Lib.hid l1;have HVa:=Lib.hid k5;have HVb:=Lib.hid l5;clear k1 k5 l1 l5 hb2)
  | fail)
 generalize hwa : w2.alloc _ = wa
 obtain ⟨hka,hba,hza⟩:=kb1 hwa
 generalize hwb : wa.alloc _ = wb
 obtain ⟨hkb,hbb,hzb⟩:=kb1 hwb
 rw [hza] at hkb
 obtain ⟨ka,hka2⟩ : ∃ ka,ka = w2.heap.size:=⟨_,rfl⟩
 obtain ⟨kb,hkb2⟩ : ∃ kb,kb = w2.heap.size + 1:=⟨_,rfl⟩
 rw [← hkb2] at hkb ⊢
 rw [← hka2] at hka ⊢
 have hka3:=hka.up hbb
 have hb2b:=Bw.trans hba hbb
 have HXb:=Lib.hid (HX.out.up hb2b)
 have HYb:=Lib.hid (HY.out.up hb2b)
 have HBb:=Lib.hid (Bw.trans HB2.out hb2b)
 have hla:=lt_heap hka3
 have hlb:=lt_heap hkb
 have x0:=hka3.cell 0 (v:=.int .i64 R) rfl
 have x1:=hka3.cell 1 (v:=.int .i64 C) rfl
 have x2:=hka3.cell 2 (v:=.slice A1 n1 c1) rfl
 have x3:=hka3.cell 3 (v:=.int .i64 row) rfl
 have x4:=hka3.cell 4 (v:=.int .i64 col) rfl
 have x5:=hka3.cell 5 (v:=.bool hid) rfl
 have y0:=hkb.cell 0 (v:=.int .i64 R) rfl
 have y1:=hkb.cell 1 (v:=.int .i64 C) rfl
 have y2:=hkb.cell 2 (v:=.slice A2 n2 c2) rfl
 have y3:=hkb.cell 3 (v:=.int .i64 row2) rfl
 have y4:=hkb.cell 4 (v:=.int .i64 col2) rfl
 have y5:=hkb.cell 5 (v:=.bool hid2) rfl
 obtain ⟨tf,htf,hlf⟩:=fullL_27 hid2 HVb.out
 obtain ⟨nf,hnf⟩ : ∃ nf,(27 :: tf).length = nf:=⟨_,rfl⟩
 have HF:=Lib.hid htf
 have HNF:=Lib.hid hnf
 have hnf5 : 5 ≤ nf:=by rw [← hnf,List.length_cons];omega
 have HDA:=Lib.hid (show diffL R C cs row col hid R C cs row col hid = [] from diffL_no (.inr (decide_eq_true ⟨rfl,rfl,rfl,rfl,rfl,rfl⟩)))
 clear hwa hwb hka hkb hba hbb hza hzb hb2b hka2 hkb2 hka3 htf hlf hnf
 cases hs : sameV R C cs row col hid R C ds row2 col2 hid2
 ·have HS:=Lib.hid hs
  obtain ⟨td,htd⟩:=diffL_27 HVb.out hs
  obtain ⟨nd,hnd⟩ : ∃ nd,(27 :: td).length = nd:=⟨_,rfl⟩
  have HD:=Lib.hid htd
  have HND:=Lib.hid hnd
  have hnd1 : 1 ≤ nd:=by rw [← hnd,List.length_cons];omega
  have hndi : (0 : Int) < nd:=by omega
  have hq : ((nd : Int) == 0) = false:=by simp;omega
  have hnf4 : (4 : Int) < nf:=by omega
  have hnf0 : (0 : Int) < nf:=by omega
  clear hs htd hnd
  go_wp2_with (first
   | (go_at_call 13;((with_reducible refine (pdiff_any R C A1 n1 c1 cs row col hid R C A2 n2 c2 ds row2 col2 hid2 _ ?_ k2 k3 k4 ?_ l2 l3 l4 ?_).mono ?_);(focus exact (HXb.out.up (show Bw wb _ from BWX)));(focus exact (HYb.out.up (show Bw wb _ from BWX)));(focus exact (PowT.bump HT.out (Bw.trans HBb.out (show Bw wb _ from BWX))));rintro ee w3 ⟨v,rfl,hS3,hb3⟩;rw [HD.out] at hS3;obtain ⟨A3,c3,rfl,hc3,hcm3,hR3⟩:=hS3.get (N:=nd) HND.out;obtain ⟨g3,o3,rfl,hx3⟩:=hR3.first;have hg3:=lt_of_cell hx3;obtain ⟨L3,d3,rfl⟩:=Bw.isPlus hb3;(try simp only [plus_plus,drewN_plus,drew_plus,Array.append_assoc] at hx3);clear hb3 hS3 hR3))
   | (go_at_call 13;((with_reducible refine (pdiff_any R C A1 n1 c1 cs row col hid R C A1 n1 c1 cs row col hid _ ?_ k2 k3 k4 ?_ k2 k3 k4 ?_).mono ?_);(focus exact (HXb.out.up (show Bw wb _ from BWX)));(focus exact (HXb.out.up (show Bw wb _ from BWX)));(focus exact (PowT.bump HT.out (Bw.trans HBb.out (show Bw wb _ from BWX))));rintro ee w5 ⟨v,rfl,hS5,hb5⟩;rw [HDA.out] at hS5;obtain ⟨A5,c5,rfl,hc5,hcm5,hR5⟩:=hS5.get (N:=0) rfl;obtain ⟨L5,d5,rfl⟩:=Bw.isPlus hb5;clear hb5 hS5 hR5))
   | (go_at_call 17;refine (gsameV_any R C A1 n1 c1 cs row col hid R C A2 n2 c2 ds row2 col2 hid2 _ (HXb.out.up (show Bw wb _ from BWX)) k2 k3 (HYb.out.up (show Bw wb _ from BWX)) l2 l3).mono ?_;rintro ee w4 ⟨rfl,hb4⟩;rw [HS.out];have hx4:=cell_bw (Bw.trans (show Bw (plus wb L3 d3) _ from BWX) hb4) hx3;obtain ⟨L4,d4,rfl⟩:=Bw.isPlus hb4;(try simp only [plus_plus,drewN_plus,drew_plus,Array.append_assoc] at hx4);clear hb4)
   | (go_at_call 11;refine (pfull_any R C A2 n2 c2 ds row2 col2 hid2 _ (HYb.out.up (show Bw wb _ from BWX)) l2 l3 l4 (PowT.bump HT.out (Bw.trans HBb.out (show Bw wb _ from BWX)))).mono ?_;rintro ee w6 ⟨v,rfl,hS6,hb6⟩;rw [HF.out] at hS6;obtain ⟨A6,c6,rfl,hc6,hcm6,hR6⟩:=hS6.get (N:=nf) HNF.out;obtain ⟨g6,o6,rfl,hx6⟩:=hR6.first;have hg6:=lt_of_cell hx6;obtain ⟨L6,d6,rfl⟩:=Bw.isPlus hb6;(try simp only [plus_plus,drewN_plus,drew_plus,Array.append_assoc] at hx6);clear hb6 hS6 hR6)
   | fail)
  go_ret
  exact ⟨rfl,Bw.trans HBb.out (show Bw wb _ from BWX)⟩
 ·have HS:=Lib.hid hs
  have HD:=Lib.hid (show diffL R C cs row col hid R C ds row2 col2 hid2 = [] from diffL_no (.inr hs))
  have hnf4 : (4 : Int) < nf:=by omega
  have hnf0 : (0 : Int) < nf:=by omega
  clear hs
  go_wp2_with (first
   | (go_at_call 13;((with_reducible refine (pdiff_any R C A1 n1 c1 cs row col hid R C A2 n2 c2 ds row2 col2 hid2 _ ?_ k2 k3 k4 ?_ l2 l3 l4 ?_).mono ?_);(focus exact (HXb.out.up (show Bw wb _ from BWX)));(focus exact (HYb.out.up (show Bw wb _ from BWX)));(focus exact (PowT.bump HT.out (Bw.trans HBb.out (show Bw wb _ from BWX))));rintro ee w3 ⟨v,rfl,hS3,hb3⟩;rw [HD.out] at hS3;obtain ⟨A3,c3,rfl,hc3,hcm3,hR3⟩:=hS3.get (N:=0) rfl;obtain ⟨L3,d3,rfl⟩:=Bw.isPlus hb3;clear hb3 hS3 hR3))
   | (go_at_call 13;((with_reducible refine (pdiff_any R C A1 n1 c1 cs row col hid R C A1 n1 c1 cs row col hid _ ?_ k2 k3 k4 ?_ k2 k3 k4 ?_).mono ?_);(focus exact (HXb.out.up (show Bw wb _ from BWX)));(focus exact (HXb.out.up (show Bw wb _ from BWX)));(focus exact (PowT.bump HT.out (Bw.trans HBb.out (show Bw wb _ from BWX))));rintro ee w5 ⟨v,rfl,hS5,hb5⟩;rw [HDA.out] at hS5;obtain ⟨A5,c5,rfl,hc5,hcm5,hR5⟩:=hS5.get (N:=0) rfl;obtain ⟨L5,d5,rfl⟩:=Bw.isPlus hb5;clear hb5 hS5 hR5))
   | (go_at_call 17;refine (gsameV_any R C A1 n1 c1 cs row col hid R C A2 n2 c2 ds row2 col2 hid2 _ (HXb.out.up (show Bw wb _ from BWX)) k2 k3 (HYb.out.up (show Bw wb _ from BWX)) l2 l3).mono ?_;rintro ee w4 ⟨rfl,hb4⟩;rw [HS.out];obtain ⟨L4,d4,rfl⟩:=Bw.isPlus hb4;clear hb4)
   | (go_at_call 11;refine (pfull_any R C A2 n2 c2 ds row2 col2 hid2 _ (HYb.out.up (show Bw wb _ from BWX)) l2 l3 l4 (PowT.bump HT.out (Bw.trans HBb.out (show Bw wb _ from BWX)))).mono ?_;rintro ee w6 ⟨v,rfl,hS6,hb6⟩;rw [HF.out] at hS6;obtain ⟨A6,c6,rfl,hc6,hcm6,hR6⟩:=hS6.get (N:=nf) HNF.out;obtain ⟨g6,o6,rfl,hx6⟩:=hR6.first;have hg6:=lt_of_cell hx6;obtain ⟨L6,d6,rfl⟩:=Bw.isPlus hb6;(try simp only [plus_plus,drewN_plus,drew_plus,Array.append_assoc] at hx6);clear hb6 hS6 hR6)
   | fail)
  go_ret
  exact ⟨rfl,Bw.trans HBb.out (show Bw wb _ from BWX)⟩
end Go.Proofs.YteebdjmjeahccaaGreatDoor
