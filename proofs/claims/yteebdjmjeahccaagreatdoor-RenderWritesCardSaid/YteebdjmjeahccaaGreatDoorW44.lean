/- Parts of the proof, one after the other. -/
import Derived.Test.YteebdjmjeahccaaGreatDoorW08
import Derived.Test.YteebdjmjeahccaaGreatDoorW41
import Derived.Test.YteebdjmjeahccaaGreatDoorW40
import Derived.Test.YteebdjmjeahccaaGreatDoorW43
import Derived.Test.YteebdjmjeahccaaGreatDoorW42
set_option linter.unusedSimpArgs false
set_option linter.unusedVariables false
set_option maxRecDepth 100000
set_option maxHeartbeats 16000000
namespace Go.Proofs.YteebdjmjeahccaaGreatDoor
open Go.RowKit
theorem rsameW_any (R C : Int) (A : Option Addr) (n c : Nat) (cs : List C4) (row col : Int) (hid : Bool) (R2 C2 : Int) (A2 : Option Addr) (n2 c2 : Nat) (ds : List C4) (row2 col2 : Int) (hid2 : Bool) (w : World) (hx : Rg w A n cs) (hn : n ≤ c) (hc : c ≤ 9223372036854775807) (hy : Rg w A2 n2 ds) (hm : n2 ≤ c2) (hd : c2 ≤ 9223372036854775807) :
  Calls Tryz.prog 18 #[.agg #[.int .i64 R,.int .i64 C,.slice A n c,.int .i64 row,.int .i64 col,.bool hid],.agg #[.int .i64 R2,.int .i64 C2,.slice A2 n2 c2,.int .i64 row2,.int .i64 col2,.bool hid2]] w fun e w' => e = .returned (.bool (sameV R C cs row col hid R2 C2 ds row2 col2 hid2)) ∧ Bw w w':=by
 have HX:=Lib.hid hx
 have HY:=Lib.hid hy
 clear hx hy
 have hz : ¬ (R = R2 ∧ C = C2 ∧ cs = ds) ∨ (R = R2 ∧ C = C2 ∧ cs = ds ∧ row ≠ row2) ∨ (R = R2 ∧ C = C2 ∧ cs = ds ∧ row = row2 ∧ col ≠ col2) ∨ (R = R2 ∧ C = C2 ∧ cs = ds ∧ row = row2 ∧ col = col2 ∧ hid ≠ hid2) ∨ (R = R2 ∧ C = C2 ∧ cs = ds ∧ row = row2 ∧ col = col2 ∧ hid = hid2):=by
  by_cases h1 : R = R2 <;> by_cases h2 : C = C2 <;> by_cases h3 : cs = ds <;> by_cases h4 : row = row2 <;> by_cases h5 : col = col2 <;> by_cases h6 : hid = hid2 <;> simp only [h1,h2,h3,h4,h5,h6,ne_eq,not_true_eq_false,not_false_eq_true,true_and,false_and,and_false,and_true,or_true,true_or,or_false,false_or]
 rcases hz with h1|⟨h1,h2,h3,h4⟩|⟨h1,h2,h3,h4,h5⟩|⟨h1,h2,h3,h4,h5,h6⟩|⟨h1,h2,h3,h4,h5,h6⟩
 ·have HE:=Lib.hid (show sameV R C cs row col hid R2 C2 ds row2 col2 hid2 = false from decide_eq_false (fun h => h1 ⟨h.1,h.2.1,h.2.2.1⟩))
  have HT:=Lib.hid (show (decide (R = R2) && decide (C = C2) && decide (cs = ds)) = false by rw [Bool.and_assoc,← Bool.decide_and,← Bool.decide_and];exact decide_eq_false h1)
  clear h1
  go_enter Tryz.func18,Tryz.ntmps18
  go_upto_region 1 with (fail)
  generalize hwa : (w.alloc (.cells #[.int .i64 R,.int .i64 C,.slice A n c,.int .i64 row,.int .i64 col,.bool hid] 27)) = wa
  obtain ⟨hka,hba,hza⟩:=kb1 hwa
  generalize hwb : (wa.alloc _) = wb
  obtain ⟨hkb,hbb,hzb⟩:=kb1 hwb
  rw [hza] at hkb
  have HB0:=Lib.hid (hka.up hbb)
  have HB1:=Lib.hid hkb
  have hbw0:=Bw.trans hba hbb
  clear hwa hwb hka hba hkb hbb
  have hza:=hbw0.size
  have x0:=HB0.out.cell 0 (v:=.int .i64 R) rfl
  have x1:=HB0.out.cell 1 (v:=.int .i64 C) rfl
  have x2:=HB0.out.cell 2 (v:=.slice A n c) rfl
  have y0:=HB1.out.cell 0 (v:=.int .i64 R2) rfl
  have y1:=HB1.out.cell 1 (v:=.int .i64 C2) rfl
  have y2:=HB1.out.cell 2 (v:=.slice A2 n2 c2) rfl
  go_wp2_with (first
   | (go_at_call 44;refine (rsame_any R C R2 C2 A A2 n c n2 c2 cs ds _ (HX.out.up hbw0) hn hc (HY.out.up hbw0) hm hd).mono ?_;rintro ee w1 ⟨rfl,hb1⟩;rw [HT.out];clear x0 x1 x2 y0 y1 y2;have x3:=(HB0.out.up hb1).cell 3 (v:=.int .i64 row) rfl;have x4:=(HB0.out.up hb1).cell 4 (v:=.int .i64 col) rfl;have x5:=(HB0.out.up hb1).cell 5 (v:=.bool hid) rfl;have y3:=(HB1.out.up hb1).cell 3 (v:=.int .i64 row2) rfl;have y4:=(HB1.out.up hb1).cell 4 (v:=.int .i64 col2) rfl;have y5:=(HB1.out.up hb1).cell 5 (v:=.bool hid2) rfl;have HB01:=Lib.hid (Bw.trans hbw0 hb1);clear hb1)
   | fail)
  go_ret
  exact ⟨by rw [HE.out];first|rfl|(cases hid <;> rfl)|(cases hid <;> cases hid2 <;> first|rfl|exact absurd rfl QD|(simp;done))|(simp;done),HB01.out⟩
 ·have HE:=Lib.hid (show sameV R C cs row col hid R2 C2 ds row2 col2 hid2 = false from decide_eq_false (fun h => h4 h.2.2.2.1))
  have HT:=Lib.hid (show (decide (R = R2) && decide (C = C2) && decide (cs = ds)) = true by simp [h1,h2,h3])
  have q4 : (row == row2) = false:=by simpa using h4
  clear h1 h2 h3 h4
  go_enter Tryz.func18,Tryz.ntmps18
  go_upto_region 1 with (fail)
  generalize hwa : (w.alloc (.cells #[.int .i64 R,.int .i64 C,.slice A n c,.int .i64 row,.int .i64 col,.bool hid] 27)) = wa
  obtain ⟨hka,hba,hza⟩:=kb1 hwa
  generalize hwb : (wa.alloc _) = wb
  obtain ⟨hkb,hbb,hzb⟩:=kb1 hwb
  rw [hza] at hkb
  have HB0:=Lib.hid (hka.up hbb)
  have HB1:=Lib.hid hkb
  have hbw0:=Bw.trans hba hbb
  clear hwa hwb hka hba hkb hbb
  have hza:=hbw0.size
  have x0:=HB0.out.cell 0 (v:=.int .i64 R) rfl
  have x1:=HB0.out.cell 1 (v:=.int .i64 C) rfl
  have x2:=HB0.out.cell 2 (v:=.slice A n c) rfl
  have y0:=HB1.out.cell 0 (v:=.int .i64 R2) rfl
  have y1:=HB1.out.cell 1 (v:=.int .i64 C2) rfl
  have y2:=HB1.out.cell 2 (v:=.slice A2 n2 c2) rfl
  go_wp2_with (first
   | (go_at_call 44;refine (rsame_any R C R2 C2 A A2 n c n2 c2 cs ds _ (HX.out.up hbw0) hn hc (HY.out.up hbw0) hm hd).mono ?_;rintro ee w1 ⟨rfl,hb1⟩;rw [HT.out];clear x0 x1 x2 y0 y1 y2;have x3:=(HB0.out.up hb1).cell 3 (v:=.int .i64 row) rfl;have x4:=(HB0.out.up hb1).cell 4 (v:=.int .i64 col) rfl;have x5:=(HB0.out.up hb1).cell 5 (v:=.bool hid) rfl;have y3:=(HB1.out.up hb1).cell 3 (v:=.int .i64 row2) rfl;have y4:=(HB1.out.up hb1).cell 4 (v:=.int .i64 col2) rfl;have y5:=(HB1.out.up hb1).cell 5 (v:=.bool hid2) rfl;have HB01:=Lib.hid (Bw.trans hbw0 hb1);clear hb1)
   | fail)
  go_ret
  exact ⟨by rw [HE.out];first|rfl|(cases hid <;> rfl)|(cases hid <;> cases hid2 <;> first|rfl|exact absurd rfl QD|(simp;done))|(simp;done),HB01.out⟩
 ·have HE:=Lib.hid (show sameV R C cs row col hid R2 C2 ds row2 col2 hid2 = false from decide_eq_false (fun h => h5 h.2.2.2.2.1))
  have HT:=Lib.hid (show (decide (R = R2) && decide (C = C2) && decide (cs = ds)) = true by simp [h1,h2,h3])
  subst h4
  have q5 : (col == col2) = false:=by simpa using h5
  clear h1 h2 h3 h5
  go_enter Tryz.func18,Tryz.ntmps18
  go_upto_region 1 with (fail)
  generalize hwa : (w.alloc (.cells #[.int .i64 R,.int .i64 C,.slice A n c,.int .i64 row,.int .i64 col,.bool hid] 27)) = wa
  obtain ⟨hka,hba,hza⟩:=kb1 hwa
  generalize hwb : (wa.alloc _) = wb
  obtain ⟨hkb,hbb,hzb⟩:=kb1 hwb
  rw [hza] at hkb
  have HB0:=Lib.hid (hka.up hbb)
  have HB1:=Lib.hid hkb
  have hbw0:=Bw.trans hba hbb
  clear hwa hwb hka hba hkb hbb
  have hza:=hbw0.size
  have x0:=HB0.out.cell 0 (v:=.int .i64 R) rfl
  have x1:=HB0.out.cell 1 (v:=.int .i64 C) rfl
  have x2:=HB0.out.cell 2 (v:=.slice A n c) rfl
  have y0:=HB1.out.cell 0 (v:=.int .i64 R2) rfl
  have y1:=HB1.out.cell 1 (v:=.int .i64 C2) rfl
  have y2:=HB1.out.cell 2 (v:=.slice A2 n2 c2) rfl
  go_wp2_with (first
   | (go_at_call 44;refine (rsame_any R C R2 C2 A A2 n c n2 c2 cs ds _ (HX.out.up hbw0) hn hc (HY.out.up hbw0) hm hd).mono ?_;rintro ee w1 ⟨rfl,hb1⟩;rw [HT.out];clear x0 x1 x2 y0 y1 y2;have x3:=(HB0.out.up hb1).cell 3 (v:=.int .i64 row) rfl;have x4:=(HB0.out.up hb1).cell 4 (v:=.int .i64 col) rfl;have x5:=(HB0.out.up hb1).cell 5 (v:=.bool hid) rfl;have y3:=(HB1.out.up hb1).cell 3 (v:=.int .i64 row) rfl;have y4:=(HB1.out.up hb1).cell 4 (v:=.int .i64 col2) rfl;have y5:=(HB1.out.up hb1).cell 5 (v:=.bool hid2) rfl;have HB01:=Lib.hid (Bw.trans hbw0 hb1);clear hb1)
   | fail)
  go_ret
  exact ⟨by rw [HE.out];first|rfl|(cases hid <;> rfl)|(cases hid <;> cases hid2 <;> first|rfl|exact absurd rfl QD|(simp;done))|(simp;done),HB01.out⟩
 ·have HE:=Lib.hid (show sameV R C cs row col hid R2 C2 ds row2 col2 hid2 = false from decide_eq_false (fun h => h6 h.2.2.2.2.2))
  have HT:=Lib.hid (show (decide (R = R2) && decide (C = C2) && decide (cs = ds)) = true by simp [h1,h2,h3])
  subst h4 h5
  have QD:=h6
  clear h1 h2 h3
  go_enter Tryz.func18,Tryz.ntmps18
  go_upto_region 1 with (fail)
  generalize hwa : (w.alloc (.cells #[.int .i64 R,.int .i64 C,.slice A n c,.int .i64 row,.int .i64 col,.bool hid] 27)) = wa
  obtain ⟨hka,hba,hza⟩:=kb1 hwa
  generalize hwb : (wa.alloc _) = wb
  obtain ⟨hkb,hbb,hzb⟩:=kb1 hwb
  rw [hza] at hkb
  have HB0:=Lib.hid (hka.up hbb)
  have HB1:=Lib.hid hkb
  have hbw0:=Bw.trans hba hbb
  clear hwa hwb hka hba hkb hbb
  have hza:=hbw0.size
  have x0:=HB0.out.cell 0 (v:=.int .i64 R) rfl
  have x1:=HB0.out.cell 1 (v:=.int .i64 C) rfl
  have x2:=HB0.out.cell 2 (v:=.slice A n c) rfl
  have y0:=HB1.out.cell 0 (v:=.int .i64 R2) rfl
  have y1:=HB1.out.cell 1 (v:=.int .i64 C2) rfl
  have y2:=HB1.out.cell 2 (v:=.slice A2 n2 c2) rfl
  go_wp2_with (first
   | (go_at_call 44;refine (rsame_any R C R2 C2 A A2 n c n2 c2 cs ds _ (HX.out.up hbw0) hn hc (HY.out.up hbw0) hm hd).mono ?_;rintro ee w1 ⟨rfl,hb1⟩;rw [HT.out];clear x0 x1 x2 y0 y1 y2;have x3:=(HB0.out.up hb1).cell 3 (v:=.int .i64 row) rfl;have x4:=(HB0.out.up hb1).cell 4 (v:=.int .i64 col) rfl;have x5:=(HB0.out.up hb1).cell 5 (v:=.bool hid) rfl;have y3:=(HB1.out.up hb1).cell 3 (v:=.int .i64 row) rfl;have y4:=(HB1.out.up hb1).cell 4 (v:=.int .i64 col) rfl;have y5:=(HB1.out.up hb1).cell 5 (v:=.bool hid2) rfl;have HB01:=Lib.hid (Bw.trans hbw0 hb1);clear hb1)
   | fail)
  go_ret
  exact ⟨by rw [HE.out];first|rfl|(cases hid <;> rfl)|(cases hid <;> cases hid2 <;> first|rfl|exact absurd rfl QD|(simp;done))|(simp;done),HB01.out⟩
 ·have HE:=Lib.hid (show sameV R C cs row col hid R2 C2 ds row2 col2 hid2 = true from decide_eq_true ⟨h1,h2,h3,h4,h5,h6⟩)
  have HT:=Lib.hid (show (decide (R = R2) && decide (C = C2) && decide (cs = ds)) = true by simp [h1,h2,h3])
  subst h4 h5 h6
  clear h1 h2 h3
  go_enter Tryz.func18,Tryz.ntmps18
  go_upto_region 1 with (fail)
  generalize hwa : (w.alloc (.cells #[.int .i64 R,.int .i64 C,.slice A n c,.int .i64 row,.int .i64 col,.bool hid] 27)) = wa
  obtain ⟨hka,hba,hza⟩:=kb1 hwa
  generalize hwb : (wa.alloc _) = wb
  obtain ⟨hkb,hbb,hzb⟩:=kb1 hwb
  rw [hza] at hkb
  have HB0:=Lib.hid (hka.up hbb)
  have HB1:=Lib.hid hkb
  have hbw0:=Bw.trans hba hbb
  clear hwa hwb hka hba hkb hbb
  have hza:=hbw0.size
  have x0:=HB0.out.cell 0 (v:=.int .i64 R) rfl
  have x1:=HB0.out.cell 1 (v:=.int .i64 C) rfl
  have x2:=HB0.out.cell 2 (v:=.slice A n c) rfl
  have y0:=HB1.out.cell 0 (v:=.int .i64 R2) rfl
  have y1:=HB1.out.cell 1 (v:=.int .i64 C2) rfl
  have y2:=HB1.out.cell 2 (v:=.slice A2 n2 c2) rfl
  go_wp2_with (first
   | (go_at_call 44;refine (rsame_any R C R2 C2 A A2 n c n2 c2 cs ds _ (HX.out.up hbw0) hn hc (HY.out.up hbw0) hm hd).mono ?_;rintro ee w1 ⟨rfl,hb1⟩;rw [HT.out];clear x0 x1 x2 y0 y1 y2;have x3:=(HB0.out.up hb1).cell 3 (v:=.int .i64 row) rfl;have x4:=(HB0.out.up hb1).cell 4 (v:=.int .i64 col) rfl;have x5:=(HB0.out.up hb1).cell 5 (v:=.bool hid) rfl;have y3:=(HB1.out.up hb1).cell 3 (v:=.int .i64 row) rfl;have y4:=(HB1.out.up hb1).cell 4 (v:=.int .i64 col) rfl;have y5:=(HB1.out.up hb1).cell 5 (v:=.bool hid) rfl;have HB01:=Lib.hid (Bw.trans hbw0 hb1);clear hb1)
   | fail)
  go_ret
  exact ⟨by rw [HE.out];first|rfl|(cases hid <;> rfl)|(cases hid <;> cases hid <;> first|rfl|exact absurd rfl QD|(simp;done))|(simp;done),HB01.out⟩
theorem rdiff_no (R C : Int) (A : Option Addr) (n c : Nat) (cs : List C4) (row col : Int) (hid : Bool) (R2 C2 : Int) (A2 : Option Addr) (n2 c2 : Nat) (ds : List C4) (row2 col2 : Int) (hid2 : Bool) (w0 : World) (hx : Rg w0 A n cs) (hn : n ≤ c) (hc : c ≤ 9223372036854775807) (hn6 : n ≤ 60) (hy : Rg w0 A2 n2 ds) (hm : n2 ≤ c2) (hd : c2 ≤ 9223372036854775807) (hm6 : n2 ≤ 60)
  (hz : ¬ (viewB R2 C2 ds row2 col2 = true ∧ sameV R C cs row col hid R2 C2 ds row2 col2 hid2 = false ∧ viewB R C cs row col = true ∧ R = R2 ∧ C = C2)) :
  Calls Tryz.prog 14 #[.agg #[.int .i64 R,.int .i64 C,.slice A n c,.int .i64 row,.int .i64 col,.bool hid],.agg #[.int .i64 R2,.int .i64 C2,.slice A2 n2 c2,.int .i64 row2,.int .i64 col2,.bool hid2]] w0 fun e w' => ∃ v,e = .returned v ∧ Sl (.int .u8) w' v (diffL R C cs row col hid R2 C2 ds row2 col2 hid2) ∧ Bw w0 w':=by
 have HX:=Lib.hid hx
 have HY:=Lib.hid hy
 clear hx hy
 have hz2 : viewB R2 C2 ds row2 col2 = false ∨ (viewB R2 C2 ds row2 col2 = true ∧ (sameV R C cs row col hid R2 C2 ds row2 col2 hid2 = true ∨ (sameV R C cs row col hid R2 C2 ds row2 col2 hid2 = false ∧ (viewB R C cs row col = false ∨ (viewB R C cs row col = true ∧ (R ≠ R2 ∨ (R = R2 ∧ C ≠ C2))))))):=by
  cases h1 : viewB R2 C2 ds row2 col2
  ·exact .inl rfl
  refine .inr ⟨rfl,?_⟩
  cases h2 : sameV R C cs row col hid R2 C2 ds row2 col2 hid2
  ·refine .inr ⟨rfl,?_⟩
   cases h3 : viewB R C cs row col
   ·exact .inl rfl
   refine .inr ⟨rfl,?_⟩
   by_cases h4 : R = R2
   ·exact .inr ⟨h4,fun h5 => hz ⟨h1,h2,h3,h4,h5⟩⟩
   ·exact .inl h4
  ·exact .inl rfl
 clear hz
 rcases hz2 with h1|⟨h1,h2|⟨h2,h3|⟨h3,h4|⟨h4,h5⟩⟩⟩⟩
 ·have HE:=Lib.hid (show diffL R C cs row col hid R2 C2 ds row2 col2 hid2 = [] from diffL_no (.inl h1))
  have HVb:=Lib.hid h1
  clear h1
  go_enter Tryz.func14,Tryz.ntmps14
  go_wp2_with (first
   | (go_at_call 16;((with_reducible refine (rview_any R2 C2 A2 n2 c2 ds row2 col2 hid2 _ ?_ hm hd).mono ?_);(focus exact (HY.out.up (show Bw w0 _ from BWX)));rintro ee w1 ⟨rfl,hb1⟩;rw [HVb.out];obtain ⟨L1,d1,rfl⟩:=Bw.isPlus hb1;clear hb1))
   | (go_at_call 18;(refine (rsameW_any R C A n c cs row col hid R2 C2 A2 n2 c2 ds row2 col2 hid2 _ (HX.out.up (show Bw w0 _ from BWX)) hn hc (HY.out.up (show Bw w0 _ from BWX)) hm hd).mono ?_;rintro ee w2 ⟨rfl,hb2⟩;rw [HS.out];obtain ⟨L2,d2,rfl⟩:=Bw.isPlus hb2;clear hb2))
   | (go_at_call 16;((with_reducible refine (rview_any R C A n c cs row col hid _ ?_ hn hc).mono ?_);(focus exact (HX.out.up (show Bw w0 _ from BWX)));rintro ee w3 ⟨rfl,hb3⟩;rw [HVa.out];obtain ⟨L3,d3,rfl⟩:=Bw.isPlus hb3;clear hb3))
   | (go_at_call 12;(refine (rfull_any R2 C2 A2 n2 c2 ds row2 col2 hid2 _ (HY.out.up (show Bw w0 _ from BWX)) hm hd hm6).mono ?_;rintro ee w4 ⟨v,rfl,hv,hb4⟩;have HV9:=Lib.hid hv;have HB9:=Lib.hid (show Bw w0 w4 from Bw.trans (show Bw w0 _ from BWX) hb4);clear hv hb4))
   | fail)
  go_ret
  exact ⟨_,rfl,by rw [HE.out];exact Sl.nil_ _ _ _ (by omega),BWX⟩
 ·have HE:=Lib.hid (show diffL R C cs row col hid R2 C2 ds row2 col2 hid2 = [] from diffL_no (.inr h2))
  have HVb:=Lib.hid h1
  have HS:=Lib.hid h2
  clear h1 h2
  go_enter Tryz.func14,Tryz.ntmps14
  go_wp2_with (first
   | (go_at_call 16;((with_reducible refine (rview_any R2 C2 A2 n2 c2 ds row2 col2 hid2 _ ?_ hm hd).mono ?_);(focus exact (HY.out.up (show Bw w0 _ from BWX)));rintro ee w1 ⟨rfl,hb1⟩;rw [HVb.out];obtain ⟨L1,d1,rfl⟩:=Bw.isPlus hb1;clear hb1))
   | (go_at_call 18;(refine (rsameW_any R C A n c cs row col hid R2 C2 A2 n2 c2 ds row2 col2 hid2 _ (HX.out.up (show Bw w0 _ from BWX)) hn hc (HY.out.up (show Bw w0 _ from BWX)) hm hd).mono ?_;rintro ee w2 ⟨rfl,hb2⟩;rw [HS.out];obtain ⟨L2,d2,rfl⟩:=Bw.isPlus hb2;clear hb2))
   | (go_at_call 16;((with_reducible refine (rview_any R C A n c cs row col hid _ ?_ hn hc).mono ?_);(focus exact (HX.out.up (show Bw w0 _ from BWX)));rintro ee w3 ⟨rfl,hb3⟩;rw [HVa.out];obtain ⟨L3,d3,rfl⟩:=Bw.isPlus hb3;clear hb3))
   | (go_at_call 12;(refine (rfull_any R2 C2 A2 n2 c2 ds row2 col2 hid2 _ (HY.out.up (show Bw w0 _ from BWX)) hm hd hm6).mono ?_;rintro ee w4 ⟨v,rfl,hv,hb4⟩;have HV9:=Lib.hid hv;have HB9:=Lib.hid (show Bw w0 w4 from Bw.trans (show Bw w0 _ from BWX) hb4);clear hv hb4))
   | fail)
  go_ret
  exact ⟨_,rfl,by rw [HE.out];exact Sl.nil_ _ _ _ (by omega),BWX⟩
 ·have HE:=Lib.hid (show diffL R C cs row col hid R2 C2 ds row2 col2 hid2 = _ from diffL_full h1 h2 (fun h => by rw [h3] at h;cases h.1))
  have HVb:=Lib.hid h1
  have HS:=Lib.hid h2
  have HVa:=Lib.hid h3
  clear h1 h2 h3
  go_enter Tryz.func14,Tryz.ntmps14
  go_wp2_with (first
   | (go_at_call 16;((with_reducible refine (rview_any R2 C2 A2 n2 c2 ds row2 col2 hid2 _ ?_ hm hd).mono ?_);(focus exact (HY.out.up (show Bw w0 _ from BWX)));rintro ee w1 ⟨rfl,hb1⟩;rw [HVb.out];obtain ⟨L1,d1,rfl⟩:=Bw.isPlus hb1;clear hb1))
   | (go_at_call 18;(refine (rsameW_any R C A n c cs row col hid R2 C2 A2 n2 c2 ds row2 col2 hid2 _ (HX.out.up (show Bw w0 _ from BWX)) hn hc (HY.out.up (show Bw w0 _ from BWX)) hm hd).mono ?_;rintro ee w2 ⟨rfl,hb2⟩;rw [HS.out];obtain ⟨L2,d2,rfl⟩:=Bw.isPlus hb2;clear hb2))
   | (go_at_call 16;((with_reducible refine (rview_any R C A n c cs row col hid _ ?_ hn hc).mono ?_);(focus exact (HX.out.up (show Bw w0 _ from BWX)));rintro ee w3 ⟨rfl,hb3⟩;rw [HVa.out];obtain ⟨L3,d3,rfl⟩:=Bw.isPlus hb3;clear hb3))
   | (go_at_call 12;(refine (rfull_any R2 C2 A2 n2 c2 ds row2 col2 hid2 _ (HY.out.up (show Bw w0 _ from BWX)) hm hd hm6).mono ?_;rintro ee w4 ⟨v,rfl,hv,hb4⟩;have HV9:=Lib.hid hv;have HB9:=Lib.hid (show Bw w0 w4 from Bw.trans (show Bw w0 _ from BWX) hb4);clear hv hb4))
   | fail)
  go_ret
  exact ⟨_,rfl,by rw [HE.out];exact HV9.out,HB9.out⟩
 ·have HE:=Lib.hid (show diffL R C cs row col hid R2 C2 ds row2 col2 hid2 = _ from diffL_full h1 h2 (fun h => h4 h.2.1))
  have HVb:=Lib.hid h1
  have HS:=Lib.hid h2
  have HVa:=Lib.hid h3
  have q1 : (R == R2) = false:=by simpa using h4
  clear h1 h2 h3 h4
  go_enter Tryz.func14,Tryz.ntmps14
  go_wp2_with (first
   | (go_at_call 16;((with_reducible refine (rview_any R2 C2 A2 n2 c2 ds row2 col2 hid2 _ ?_ hm hd).mono ?_);(focus exact (HY.out.up (show Bw w0 _ from BWX)));rintro ee w1 ⟨rfl,hb1⟩;rw [HVb.out];obtain ⟨L1,d1,rfl⟩:=Bw.isPlus hb1;clear hb1))
   | (go_at_call 18;(refine (rsameW_any R C A n c cs row col hid R2 C2 A2 n2 c2 ds row2 col2 hid2 _ (HX.out.up (show Bw w0 _ from BWX)) hn hc (HY.out.up (show Bw w0 _ from BWX)) hm hd).mono ?_;rintro ee w2 ⟨rfl,hb2⟩;rw [HS.out];obtain ⟨L2,d2,rfl⟩:=Bw.isPlus hb2;clear hb2))
   | (go_at_call 16;((with_reducible refine (rview_any R C A n c cs row col hid _ ?_ hn hc).mono ?_);(focus exact (HX.out.up (show Bw w0 _ from BWX)));rintro ee w3 ⟨rfl,hb3⟩;rw [HVa.out];obtain ⟨L3,d3,rfl⟩:=Bw.isPlus hb3;clear hb3))
   | (go_at_call 12;(refine (rfull_any R2 C2 A2 n2 c2 ds row2 col2 hid2 _ (HY.out.up (show Bw w0 _ from BWX)) hm hd hm6).mono ?_;rintro ee w4 ⟨v,rfl,hv,hb4⟩;have HV9:=Lib.hid hv;have HB9:=Lib.hid (show Bw w0 w4 from Bw.trans (show Bw w0 _ from BWX) hb4);clear hv hb4))
   | fail)
  go_ret
  exact ⟨_,rfl,by rw [HE.out];exact HV9.out,HB9.out⟩
 ·have HE:=Lib.hid (show diffL R C cs row col hid R2 C2 ds row2 col2 hid2 = _ from diffL_full h1 h2 (fun h => h5 h.2.2))
  have HVb:=Lib.hid h1
  have HS:=Lib.hid h2
  have HVa:=Lib.hid h3
  have q1 : (C == C2) = false:=by simpa using h5
  subst h4
  clear h1 h2 h3 h5
  go_enter Tryz.func14,Tryz.ntmps14
  go_wp2_with (first
   | (go_at_call 16;((with_reducible refine (rview_any R C2 A2 n2 c2 ds row2 col2 hid2 _ ?_ hm hd).mono ?_);(focus exact (HY.out.up (show Bw w0 _ from BWX)));rintro ee w1 ⟨rfl,hb1⟩;rw [HVb.out];obtain ⟨L1,d1,rfl⟩:=Bw.isPlus hb1;clear hb1))
   | (go_at_call 18;(refine (rsameW_any R C A n c cs row col hid R C2 A2 n2 c2 ds row2 col2 hid2 _ (HX.out.up (show Bw w0 _ from BWX)) hn hc (HY.out.up (show Bw w0 _ from BWX)) hm hd).mono ?_;rintro ee w2 ⟨rfl,hb2⟩;rw [HS.out];obtain ⟨L2,d2,rfl⟩:=Bw.isPlus hb2;clear hb2))
   | (go_at_call 16;((with_reducible refine (rview_any R C A n c cs row col hid _ ?_ hn hc).mono ?_);(focus exact (HX.out.up (show Bw w0 _ from BWX)));rintro ee w3 ⟨rfl,hb3⟩;rw [HVa.out];obtain ⟨L3,d3,rfl⟩:=Bw.isPlus hb3;clear hb3))
   | (go_at_call 12;(refine (rfull_any R C2 A2 n2 c2 ds row2 col2 hid2 _ (HY.out.up (show Bw w0 _ from BWX)) hm hd hm6).mono ?_;rintro ee w4 ⟨v,rfl,hv,hb4⟩;have HV9:=Lib.hid hv;have HB9:=Lib.hid (show Bw w0 w4 from Bw.trans (show Bw w0 _ from BWX) hb4);clear hv hb4))
   | fail)
  go_ret
  exact ⟨_,rfl,by rw [HE.out];exact HV9.out,HB9.out⟩
end Go.Proofs.YteebdjmjeahccaaGreatDoor
