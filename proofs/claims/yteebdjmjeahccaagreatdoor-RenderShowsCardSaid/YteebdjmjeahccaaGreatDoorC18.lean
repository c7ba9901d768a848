/- Parts of the proof, one after the other. -/
import Derived.Test.YteebdjmjeahccaaGreatDoorC17
import Derived.Test.YteebdjmjeahccaaGreatDoorC16
set_option linter.unusedSimpArgs false
set_option linter.unusedVariables false
set_option maxRecDepth 100000
set_option maxHeartbeats 16000000
namespace Go.Proofs.YteebdjmjeahccaaGreatDoor
open Go.RowKit
theorem rscsi_Gr (s : Scr) (kd f pv : Int) (A : Option Addr) (n c : Nat) (xs : List Int) (w : World) (hs : s.Ok w) (hx : Rd (.int .i64) w A n xs) (hn : n ≤ c) (hc : c ≤ 9223372036854775807) (hn0 : 0 < n) (hn1 : n ≤ 1000) (hp : ∀ x ∈ xs,0 ≤ x ∧ x ≤ 9999) (hq : f = 74 ∨ f = 75 ∨ f = 114) : Calls Tryz.prog 84 #[.agg s.vals.toArray,.agg #[.int .i64 kd,.int .i64 f,.int .i64 pv,.slice A n c]] w (ScL w s):=by
 have HQ:=Lib.hid hq
 clear hq
 have HOk:=Lib.hid hs
 have HAl:=Lib.hid hs.1.lt
 have HX:=Lib.hid hx
 have HP:=Lib.hid hp
 have HBl:=Lib.hid (blankC_ok hs.2.2.1)
 have HXL:=Lib.hid (show ∀ ad,A = some ad → ad.block < w.heap.size from fun ad e => by
  obtain ⟨g,o,e2,h⟩:=hx.2 hn0
  have h1:=lt_of_cell (h 0 (by rw [hx.1];exact hn0))
  rw [e] at e2
  cases e2
  exact h1)
 clear hs hx hp
 go_enter Tryz.func84,Tryz.ntmps84
 go_upto_region 1 with (fail)
 generalize hwa : ((w.alloc (.cells s.vals.toArray 46)).alloc _).alloc _ = wa
 obtain ⟨hb0,hb1,hb2,hbwa,hza⟩:=sb3 hwa
 have HB0a:=Lib.hid hb0
 have HBoa:=Lib.hid hb1
 have HB1a:=Lib.hid (show ∃ old,Sb wa (w.heap.size + 2) old 46 ∧ old.size = 19 from ⟨_,hb2,rfl⟩)
 have hza' : w.heap.size + 2 < wa.heap.size:=by omega
 clear hwa hb0 hb1 hb2 hza
 (have x3:=HB0a.out.cell 3 (v:=.int .i64 s.row) rfl;have x4:=HB0a.out.cell 4 (v:=.int .i64 s.col) rfl;have x5:=HB0a.out.cell 5 (v:=.bool s.wrap) rfl)
 have xo:=HBoa.out.cell 3 (v:=.slice A n c) rfl
 go_cut [6,7,8] (fun v6 v7 v8 w' => v6 = .slice A n c ∧ (∃ num,v7 = .int .i64 num ∧ 1 ≤ num ∧ num ≤ 9999) ∧ ∃ g8,v8 = .pointer (some ⟨g8,0,none⟩) ∧ Sb w' g8 #[.int .i64 s.row,.int .i64 s.col,.bool s.wrap] 40 ∧ wa.heap.size ≤ g8 ∧ Bw wa w')
 case first =>
  have HY:=Lib.hid (show ∀ w',Bw wa w' → (w'.cell? ⟨w.heap.size,3,none⟩ = some (.int .i64 s.row) ∧ w'.cell? ⟨w.heap.size,4,none⟩ = some (.int .i64 s.col) ∧ w'.cell? ⟨w.heap.size,5,none⟩ = some (.bool s.wrap) ∧ w'.cell? ⟨w.heap.size + 1,3,none⟩ = some (.slice A n c)) from fun w' hb => ⟨(HB0a.out.up hb).cell 3 rfl,(HB0a.out.up hb).cell 4 rfl,(HB0a.out.up hb).cell 5 rfl,(HBoa.out.up hb).cell 3 rfl⟩)
  go_region_held3 (fun w' => w'.cell? ⟨w.heap.size,3,none⟩ = some (.int .i64 s.row) ∧ w'.cell? ⟨w.heap.size,4,none⟩ = some (.int .i64 s.col) ∧ w'.cell? ⟨w.heap.size,5,none⟩ = some (.bool s.wrap) ∧ w'.cell? ⟨w.heap.size + 1,3,none⟩ = some (.slice A n c)) ((refine HY.out _ ?_;exact BWX)) ((first|(go_at_call 106;refine (rsor_0 A n c 1 xs _ (by exact HX.out.up BWX) hn hc).mono ?_;rintro ee wv ⟨⟨v,rfl,hv⟩,hbv⟩;have HV:=Lib.hid hv;have hbwv : Bw wa wv:=Bw.trans (show Bw wa _ from BWX) hbv;obtain ⟨L8,d8,rfl⟩:=hbv.isPlus;clear hv hbv)|fail))
  all_goals go_wp2
  all_goals go_meet
  all_goals
   case rel =>
    refine ⟨rfl,⟨_,rfl,or_bd HP.out (by omega) HV.out⟩,_,rfl,?_,?_,?_⟩
    ·first|(refine heap_at ?_;simp [plus_size];done)|(refine Sb.up (w:=wa.alloc _) (heap_at rfl) ?_;(repeat (first|with_reducible (first|assumption|exact Bw.refl _|refine Bw.alloc ?_ _|refine Bw.more ?_ _ _|refine Bw.drew ?_|refine Bw.drewN ?_ _)|((with_reducible refine Bw.set2 ?_ ?_ _);(focus exact SZX))|with_reducible refine Bw.trans ?_ (by assumption)));done)|fail
    ·first|omega|(simp only [plus_size];omega)|fail
    ·(repeat (first|with_reducible (first|assumption|exact Bw.refl _|refine Bw.alloc ?_ _|refine Bw.more ?_ _ _|refine Bw.drew ?_|refine Bw.drewN ?_ _)|((with_reducible refine Bw.set2 ?_ ?_ _);(focus exact SZX))|with_reducible refine Bw.trans ?_ (by assumption)))
 case rest =>
 obtain ⟨rfl,⟨num,rfl,hnum1,hnum2⟩,g8,rfl,h8,hg8,hbc⟩:=hcut
 have HB0c:=Lib.hid (HB0a.out.up hbc)
 have H8c:=Lib.hid h8
 have hg8c:=h8.lt
 clear x3 x4 x5 xo h8
 (have x6:=HB0c.out.cell 6 (v:=.int .i64 s.f) rfl;have x7:=HB0c.out.cell 7 (v:=.int .i64 s.g) rfl;have x8:=HB0c.out.cell 8 (v:=.int .i64 s.b) rfl)
 go_upto_region 3 with (go_at_call 105;refine (rblank_any s.f s.g s.b _).mono ?_;rintro ee wb ⟨rfl,hbb⟩;have hbb' : Bw wc wb:=Bw.trans (show Bw wc _ from BWX) hbb;clear hbb)
 generalize hw1 : wb.alloc _ = w1
 obtain ⟨h9,hb19,hz19⟩:=sb1 hw1
 have hbc1 : Bw wc w1:=Bw.trans hbb' hb19
 have hba1 : Bw wa w1:=Bw.trans hbc hbc1
 have hbw : Bw w w1:=Bw.trans hbwa hba1
 have HB0:=Lib.hid (HB0a.out.up hba1)
 have HBo:=Lib.hid (HBoa.out.up hba1)
 obtain ⟨old1,hold1,hosz⟩:=HB1a.out
 have HB1:=Lib.hid (hold1.up hba1)
 have HOsz:=Lib.hid hosz
 have H8:=Lib.hid (H8c.out.up hbc1)
 have H9:=Lib.hid h9
 obtain ⟨g9,hg9⟩ : ∃ g9,wb.heap.size = g9:=⟨_,rfl⟩
 have hzb:=hbb'.size
 rw [hg9] at h9
 have hz1 : w.heap.size + 2 < w1.heap.size:=by have:=hba1.size;omega
 have hz8 : w.heap.size + 2 < g8:=by omega
 have hz81 : g8 < w1.heap.size:=H8.out.lt
 have hz9 : w.heap.size + 2 < g9:=by omega
 have hz91 : g9 < w1.heap.size:=h9.lt
 have HOk1:=Lib.hid (HOk.out.up hbw)
 have HX1:=Lib.hid (HX.out.up hbw)
 have HNe0:=Lib.hid (show ∀ ad,s.A = some ad → ad.block ≠ w.heap.size from fun ad e => by have:=HAl.out ad e;omega)
 have HNe1:=Lib.hid (show ∀ ad,s.A = some ad → ad.block ≠ w.heap.size + 2 from fun ad e => by have:=HAl.out ad e;omega)
 have hne10 : w.heap.size + 2 ≠ w.heap.size:=by omega
 have xo1:=HBo.out.cell 1 (v:=.int .i64 f) rfl
 clear H9
 have H9:=Lib.hid h9
 clear hw1 h9 hb19 hz19 hold1 hosz HB0a HBoa HB1a HB0c H8c hbc hbc1 hba1 hbb' hbwa hg8c x6 x7 x8 hza' hg8 hzb HX
 rw [hg9]
 clear hg9
 rcases HQ.out with rfl|rfl|rfl
 ·(have x0:=HB0.out.cell 0 (v:=.int .i64 (s.Rn : Int)) rfl;have x1:=HB0.out.cell 1 (v:=.int .i64 (s.Cn : Int)) rfl)
  obtain ⟨g0,o0,rfl,hxl⟩:=HX1.out.2 hn0
  have hg0 : g0 < w.heap.size:=HXL.out _ rfl
  obtain ⟨p0,hp0⟩ : ∃ v,xs[0]'(by rw [HX1.out.1];exact hn0) = v:=⟨_,rfl⟩
  have HPC:=Lib.hid (show w1.cell? ⟨g0,o0,none⟩ = some (.int .i64 p0) from by have h:=hxl 0 (by rw [HX1.out.1];exact hn0);rw [hp0] at h;exact h)
  clear hxl hp0
  obtain ⟨hR1,hR2,hC1,hC2,-⟩:=HOk1.out.1
  obtain ⟨p,hpp⟩ : ∃ p : Nat,s.Rn * s.Cn = p:=⟨_,rfl⟩
  have hpi : (s.Rn : Int) * (s.Cn : Int) = (p : Int):=by rw [← hpp];simp
  have hpb : p ≤ 3000:=by rw [← hpp];have:=Nat.mul_le_mul hR2 hC2;omega
  have hwp : IntKind.i64.wrap (p : Int) = (p : Int):=IntWalk.i64_in _ (by omega)
  clear hpp
  have hY:=(show ∀ w',Bw w1 w' → (w'.cell? ⟨w.heap.size,0,none⟩ = some (.int .i64 (s.Rn : Int)) ∧ w'.cell? ⟨w.heap.size,1,none⟩ = some (.int .i64 (s.Cn : Int)) ∧ w'.cell? ⟨g0,o0,none⟩ = some (.int .i64 p0)) from fun w' hb => ⟨(HB0.out.up hb).cell 0 rfl,(HB0.out.up hb).cell 1 rfl,cell_up HPC.out hb⟩)
  have hYg:=(show ∀ w' w'',Bw w1 w' → w'.grownBy w'' (some (w.heap.size + 2)) → (w''.cell? ⟨w.heap.size,0,none⟩ = some (.int .i64 (s.Rn : Int)) ∧ w''.cell? ⟨w.heap.size,1,none⟩ = some (.int .i64 (s.Cn : Int)) ∧ w''.cell? ⟨g0,o0,none⟩ = some (.int .i64 p0)) from fun w' w'' hb hg => ⟨((HB0.out.up hb).far hg (by intro e;have:=Option.some.inj e;omega)).cell 0 rfl,((HB0.out.up hb).far hg (by intro e;have:=Option.some.inj e;omega)).cell 1 rfl,cell_far (cell_up HPC.out hb) hg (by intro e;have:=Option.some.inj e;(try dsimp only at this);omega)⟩)
  have HY:=Lib.hid hY
  have HYg:=Lib.hid hYg
  clear hY hYg x0 x1
  go_upto_region 27 with (fail)
  refine wp_region_held_drew (S:=(fun w' => w'.cell? ⟨w.heap.size,0,none⟩ = some (.int .i64 (s.Rn : Int)) ∧ w'.cell? ⟨w.heap.size,1,none⟩ = some (.int .i64 (s.Cn : Int)) ∧ w'.cell? ⟨g0,o0,none⟩ = some (.int .i64 p0))) (by kernel_rfl) ?_ (fun hHeld => ?_)
  ·(try dsimp only);(first|(exact HYg.out _ _ BWX HG3.out)|(refine HY.out _ ?_;exact BWX))
  refine tkQ 1 ?_
  refine tkQ 2 ?_
  refine tkQ 3 ?_
  (try simp only [Act.put,zP1,zP2,zP3,zP4,zP5,zP6])
  refine tkQ 4 ?_
  refine tkQ 5 ?_
  refine tkQ 6 ?_
  (try simp only [Act.put,zP1,zP2,zP3,zP4,zP5,zP6])
  refine tkQ 7 ?_
  refine tkQ 8 ?_
  refine tkQ 9 ?_
  (try simp only [Act.put,zP1,zP2,zP3,zP4,zP5,zP6])
  refine tkQ 10 ?_
  (try simp only [Act.put,zP1,zP2,zP3,zP4,zP5,zP6])
  refine arO 0 (fun K hK => ?_)
  (refine (if_pos (by kernel_rfl)).mpr ?_);(with_reducible refine wp_load_sc (s) w.heap.size (.tmp 2) ?ho ?_ ?_ ?_);(case ho => rfl);(focus rfl);(focus (exact HB0.out.up BWX))
  refine hK.out _ _ ?_ (fun hHeld => ?_)
  ·(try dsimp only);(first|(exact HYg.out _ _ BWX HG3.out)|(refine HY.out _ ?_;exact BWX))
  clear hK K
  (try simp only [Act.put,zP1,zP2,zP3,zP4,zP5,zP6])
  refine arO 11 (fun K hK => ?_)
  go_simp
  (try rw [hwp]);refine (rserase_ok s p0 0 p _ (HOk1.out.up BWX) (by omega)).mono ?_;rintro ee w2 ⟨s',e1,e2,rfl,hOk',hAn,hb2⟩;have hz2:=hb2.size;have HOk':=Lib.hid hOk';have HAn:=Lib.hid hAn;have HE:=Lib.hid (And.intro e1 e2);clear hOk' hAn e1 e2;go_wp2_with fail
  refine hK.out _ _ ?_ (fun hHeld => ?_)
  ·(try dsimp only);(first|(exact HYg.out _ _ BWX HG3.out)|(refine HY.out _ ?_;exact BWX))
  clear hK K
  (try simp only [Act.put,zP1,zP2,zP3,zP4,zP5,zP6])
  refine arO 12 (fun K hK => ?_)
  (refine (if_pos (by kernel_rfl)).mpr ?_);(with_reducible refine wp_store_sc (s') (w.heap.size + 2) (.tmp 4) (.tmp 93) ?ho2 ?_ ?_ ?_ ?_);(case ho2 => rfl);(focus rfl);(focus rfl);(focus (exact ⟨_,HB1.out.up BWX,HOsz.out⟩));intro w3 hS3 hg3;have HS3:=Lib.hid hS3;have HG3:=Lib.hid hg3;clear hS3 hg3
  refine hK.out _ _ ?_ (fun hHeld => ?_)
  ·(try dsimp only);(first|(exact HYg.out _ _ BWX HG3.out)|(refine HY.out _ ?_;exact BWX))
  clear hK K
  (try simp only [Act.put,zP1,zP2,zP3,zP4,zP5,zP6])
  refine arO 13 (fun K hK => ?_)
  go_simp
  refine hK.out _ _ ?_ (fun hHeld => ?_)
  ·(try dsimp only);(first|(exact HYg.out _ _ BWX HG3.out)|(refine HY.out _ ?_;exact BWX))
  clear hK K
  (try simp only [Act.put,zP1,zP2,zP3,zP4,zP5,zP6])
  refine wpAnyH_done (by kernel_rfl) ?_ _
  go_wp2_with fail
  have hAnw : An w s.A s'.A:=HAn.out.more (by first|omega|(simp only [szA,szS,szD,szN] at *;omega))
  have hne : ∀ ad,s'.A = some ad → ad.block ≠ w.heap.size + 2:=HAn.out.ne (fun ad e => by have:=HAl.out ad e;omega) (by first|omega|(simp only [szA,szS,szD,szN] at *;omega))
  refine bodyPost_ret (results_sc2 rfl _ _ (w.heap.size + 2) (s') (by rfl) HS3.out) rfl ?_
  exact ⟨(s'),none,0,0,HE.out.1,HE.out.2,rfl,HOk'.out.far HG3.out (ne_some hne),hAnw,Ls.nil_ _ _,(fun ad e => by cases e),by omega,by omega,by omega,Bw.grown (Bw.trans hbw (show Bw w1 _ from BWX)) HG3.out (fun k hk => by cases hk;omega)⟩
 ·(have x0:=HB0.out.cell 0 (v:=.int .i64 (s.Rn : Int)) rfl;have x1:=HB0.out.cell 1 (v:=.int .i64 (s.Cn : Int)) rfl)
  obtain ⟨g0,o0,rfl,hxl⟩:=HX1.out.2 hn0
  have hg0 : g0 < w.heap.size:=HXL.out _ rfl
  obtain ⟨p0,hp0⟩ : ∃ v,xs[0]'(by rw [HX1.out.1];exact hn0) = v:=⟨_,rfl⟩
  have HPC:=Lib.hid (show w1.cell? ⟨g0,o0,none⟩ = some (.int .i64 p0) from by have h:=hxl 0 (by rw [HX1.out.1];exact hn0);rw [hp0] at h;exact h)
  clear hxl hp0
  obtain ⟨hR1,hR2,hC1,hC2,-⟩:=HOk1.out.1
  obtain ⟨hrw0,hrw1,-,-⟩:=HOk1.out.2.1
  obtain ⟨rn,hrn⟩ : ∃ rn : Nat,s.row = rn:=⟨s.row.toNat,by omega⟩
  obtain ⟨p,hpp⟩ : ∃ p : Nat,rn * s.Cn = p:=⟨_,rfl⟩
  have hpi : s.row * (s.Cn : Int) = (p : Int):=by rw [← hpp,hrn];simp
  have hpi2 : (s.row + 1) * (s.Cn : Int) = (p : Int) + (s.Cn : Int):=by rw [Int.add_mul,hpi];simp
  have hpb : p ≤ 3000:=by rw [← hpp];have:=Nat.mul_le_mul (show rn ≤ 30 by omega) hC2;omega
  have hwp : IntKind.i64.wrap (p : Int) = (p : Int):=IntWalk.i64_in _ (by omega)
  have hwp2 : IntKind.i64.wrap ((p : Int) + (s.Cn : Int)) = (p : Int) + (s.Cn : Int):=IntWalk.i64_in _ (by omega)
  clear hpp hrn
  have hY:=(show ∀ w',Bw w1 w' → (w'.cell? ⟨w.heap.size,1,none⟩ = some (.int .i64 (s.Cn : Int)) ∧ w'.cell? ⟨g8,0,none⟩ = some (.int .i64 s.row) ∧ w'.cell? ⟨g0,o0,none⟩ = some (.int .i64 p0)) from fun w' hb => ⟨(HB0.out.up hb).cell 1 rfl,(H8.out.up hb).cell 0 rfl,cell_up HPC.out hb⟩)
  have hYg:=(show ∀ w' w'',Bw w1 w' → w'.grownBy w'' (some (w.heap.size + 2)) → (w''.cell? ⟨w.heap.size,1,none⟩ = some (.int .i64 (s.Cn : Int)) ∧ w''.cell? ⟨g8,0,none⟩ = some (.int .i64 s.row) ∧ w''.cell? ⟨g0,o0,none⟩ = some (.int .i64 p0)) from fun w' w'' hb hg => ⟨((HB0.out.up hb).far hg (by intro e;have:=Option.some.inj e;omega)).cell 1 rfl,((H8.out.up hb).far hg (by intro e;have:=Option.some.inj e;omega)).cell 0 rfl,cell_far (cell_up HPC.out hb) hg (by intro e;have:=Option.some.inj e;(try dsimp only at this);omega)⟩)
  have HY:=Lib.hid hY
  have HYg:=Lib.hid hYg
  clear hY hYg x0 x1
  go_upto_region 29 with (fail)
  refine wp_region_held_drew (S:=(fun w' => w'.cell? ⟨w.heap.size,1,none⟩ = some (.int .i64 (s.Cn : Int)) ∧ w'.cell? ⟨g8,0,none⟩ = some (.int .i64 s.row) ∧ w'.cell? ⟨g0,o0,none⟩ = some (.int .i64 p0))) (by kernel_rfl) ?_ (fun hHeld => ?_)
  ·(try dsimp only);(first|(exact HYg.out _ _ BWX HG3.out)|(refine HY.out _ ?_;exact BWX))
  refine tkQ 1 ?_
  refine tkQ 2 ?_
  (try simp only [Act.put,zP1,zP2,zP3,zP4,zP5,zP6])
  refine tkQ 3 ?_
  refine tkQ 4 ?_
  refine tkQ 5 ?_
  (try simp only [Act.put,zP1,zP2,zP3,zP4,zP5,zP6])
  refine tkQ 6 ?_
  refine tkQ 7 ?_
  refine tkQ 8 ?_
  (try simp only [Act.put,zP1,zP2,zP3,zP4,zP5,zP6])
  refine tkQ 9 ?_
  refine tkQ 10 ?_
  refine tkQ 11 ?_
  (try simp only [Act.put,zP1,zP2,zP3,zP4,zP5,zP6])
  refine tkQ 12 ?_
  refine tkQ 13 ?_
  refine tkQ 14 ?_
  (try simp only [Act.put,zP1,zP2,zP3,zP4,zP5,zP6])
  refine tkQ 15 ?_
  refine tkQ 16 ?_
  (try simp only [Act.put,zP1,zP2,zP3,zP4,zP5,zP6])
  refine arO 0 (fun K hK => ?_)
  (refine (if_pos (by kernel_rfl)).mpr ?_);(with_reducible refine wp_load_sc (s) w.heap.size (.tmp 2) ?ho ?_ ?_ ?_);(case ho => rfl);(focus rfl);(focus (exact HB0.out.up BWX))
  refine hK.out _ _ ?_ (fun hHeld => ?_)
  ·(try dsimp only);(first|(exact HYg.out _ _ BWX HG3.out)|(refine HY.out _ ?_;exact BWX))
  clear hK K
  (try simp only [Act.put,zP1,zP2,zP3,zP4,zP5,zP6])
  refine arO 17 (fun K hK => ?_)
  go_simp
  (try rw [hwp]);(try rw [hwp2]);refine (rserase_ok s p0 p _ _ (HOk1.out.up BWX) (by omega)).mono ?_;rintro ee w2 ⟨s',e1,e2,rfl,hOk',hAn,hb2⟩;have hz2:=hb2.size;have HOk':=Lib.hid hOk';have HAn:=Lib.hid hAn;have HE:=Lib.hid (And.intro e1 e2);clear hOk' hAn e1 e2;go_wp2_with fail
  refine hK.out _ _ ?_ (fun hHeld => ?_)
  ·(try dsimp only);(first|(exact HYg.out _ _ BWX HG3.out)|(refine HY.out _ ?_;exact BWX))
  clear hK K
  (try simp only [Act.put,zP1,zP2,zP3,zP4,zP5,zP6])
  refine arO 18 (fun K hK => ?_)
  (refine (if_pos (by kernel_rfl)).mpr ?_);(with_reducible refine wp_store_sc (s') (w.heap.size + 2) (.tmp 4) (.tmp 113) ?ho2 ?_ ?_ ?_ ?_);(case ho2 => rfl);(focus rfl);(focus rfl);(focus (exact ⟨_,HB1.out.up BWX,HOsz.out⟩));intro w3 hS3 hg3;have HS3:=Lib.hid hS3;have HG3:=Lib.hid hg3;clear hS3 hg3
  refine hK.out _ _ ?_ (fun hHeld => ?_)
  ·(try dsimp only);(first|(exact HYg.out _ _ BWX HG3.out)|(refine HY.out _ ?_;exact BWX))
  clear hK K
  (try simp only [Act.put,zP1,zP2,zP3,zP4,zP5,zP6])
  refine arO 19 (fun K hK => ?_)
  go_simp
  refine hK.out _ _ ?_ (fun hHeld => ?_)
  ·(try dsimp only);(first|(exact HYg.out _ _ BWX HG3.out)|(refine HY.out _ ?_;exact BWX))
  clear hK K
  (try simp only [Act.put,zP1,zP2,zP3,zP4,zP5,zP6])
  refine wpAnyH_done (by kernel_rfl) ?_ _
  go_wp2_with fail
  have hAnw : An w s.A s'.A:=HAn.out.more (by first|omega|(simp only [szA,szS,szD,szN] at *;omega))
  have hne : ∀ ad,s'.A = some ad → ad.block ≠ w.heap.size + 2:=HAn.out.ne (fun ad e => by have:=HAl.out ad e;omega) (by first|omega|(simp only [szA,szS,szD,szN] at *;omega))
  refine bodyPost_ret (results_sc2 rfl _ _ (w.heap.size + 2) (s') (by rfl) HS3.out) rfl ?_
  exact ⟨(s'),none,0,0,HE.out.1,HE.out.2,rfl,HOk'.out.far HG3.out (ne_some hne),hAnw,Ls.nil_ _ _,(fun ad e => by cases e),by omega,by omega,by omega,Bw.grown (Bw.trans hbw (show Bw w1 _ from BWX)) HG3.out (fun k hk => by cases hk;omega)⟩
 ·(have x0:=HB0.out.cell 0 (v:=.int .i64 (s.Rn : Int)) rfl;have x1:=HB0.out.cell 1 (v:=.int .i64 (s.Cn : Int)) rfl)
  obtain ⟨hR1,hR2,hC1,hC2,-⟩:=HOk1.out.1
  have hY:=(show ∀ w',Bw w1 w' → (w'.cell? ⟨w.heap.size,0,none⟩ = some (.int .i64 (s.Rn : Int))) from fun w' hb => (HB0.out.up hb).cell 0 rfl)
  have hYg:=(show ∀ w' w'',Bw w1 w' → w'.grownBy w'' (some (w.heap.size + 2)) → (w''.cell? ⟨w.heap.size,0,none⟩ = some (.int .i64 (s.Rn : Int))) from fun w' w'' hb hg => ((HB0.out.up hb).far hg (by intro e;have:=Option.some.inj e;omega)).cell 0 rfl)
  have HY:=Lib.hid hY
  have HYg:=Lib.hid hYg
  clear hY hYg x0 x1
  go_upto_region 47 with (fail)
  refine wp_region_held_drew (S:=(fun w' => w'.cell? ⟨w.heap.size,0,none⟩ = some (.int .i64 (s.Rn : Int)))) (by kernel_rfl) ?_ (fun hHeld => ?_)
  ·(try dsimp only);(first|(exact HYg.out _ _ BWX HG3.out)|(refine HY.out _ ?_;exact BWX))
  refine tkQ 1 ?_
  (try simp only [Act.put,zP1,zP2,zP3,zP4,zP5,zP6])
  refine tkQ 2 ?_
  refine tkQ 3 ?_
  refine tkQ 4 ?_
  (try simp only [Act.put,zP1,zP2,zP3,zP4,zP5,zP6])
  refine tkQ 5 ?_
  (try simp only [Act.put,zP1,zP2,zP3,zP4,zP5,zP6])
  refine wpAnyH_ready (rs:=[0,6]) (by kernel_rfl) (by simp) ?_
  refine AllReadyH.cons rfl (fun K hK => ?_) ?_
  ·(refine (if_pos (by kernel_rfl)).mpr ?_);(with_reducible refine wp_load_sc (s) w.heap.size (.tmp 2) ?ho ?_ ?_ ?_);(case ho => rfl);(focus rfl);(focus (exact HB0.out.up BWX))
   refine hK.out _ _ ?_ (fun hHeld => ?_)
   ·(try dsimp only);(first|(exact HYg.out _ _ BWX HG3.out)|(refine HY.out _ ?_;exact BWX))
   clear hK K
   (try simp only [Act.put,zP1,zP2,zP3,zP4,zP5,zP6])
   refine arO 6 (fun K hK => ?_)
   go_simp
   refine (rsor_1 A n c (s.Rn : Int) xs _ (by exact HX1.out.up BWX) hn hc).mono ?_;rintro ee wv ⟨⟨v,rfl,hv⟩,hbv⟩;have hvb:=or_bd HP.out (by omega) hv;obtain ⟨hv1,hv2⟩:=hvb;have hzv:=hbv.size;clear hv;go_wp2_with fail
   refine hK.out _ _ ?_ (fun hHeld => ?_)
   ·(try dsimp only);(first|(exact HYg.out _ _ BWX HG3.out)|(refine HY.out _ ?_;exact BWX))
   clear hK K
   (try simp only [Act.put,zP1,zP2,zP3,zP4,zP5,zP6])
   refine arO 7 (fun K hK => ?_)
   go_simp
   refine (rsmargins_ok s num v _ (HOk1.out.up BWX) (by omega) (by omega)).mono ?_;rintro ee w2 ⟨s',e1,e2,rfl,hOk',hAn,hb2⟩;have hz2:=hb2.size;have HOk':=Lib.hid hOk';have HAn:=Lib.hid hAn;have HE:=Lib.hid (And.intro e1 e2);clear hOk' hAn e1 e2;go_wp2_with fail
   refine hK.out _ _ ?_ (fun hHeld => ?_)
   ·(try dsimp only);(first|(exact HYg.out _ _ BWX HG3.out)|(refine HY.out _ ?_;exact BWX))
   clear hK K
   (try simp only [Act.put,zP1,zP2,zP3,zP4,zP5,zP6])
   refine arO 8 (fun K hK => ?_)
   (refine (if_pos (by kernel_rfl)).mpr ?_);(with_reducible refine wp_store_sc (s') (w.heap.size + 2) (.tmp 4) (.tmp 203) ?ho2 ?_ ?_ ?_ ?_);(case ho2 => rfl);(focus rfl);(focus rfl);(focus (exact ⟨_,HB1.out.up BWX,HOsz.out⟩));intro w3 hS3 hg3;have HS3:=Lib.hid hS3;have HG3:=Lib.hid hg3;clear hS3 hg3
   refine hK.out _ _ ?_ (fun hHeld => ?_)
   ·(try dsimp only);(first|(exact HYg.out _ _ BWX HG3.out)|(refine HY.out _ ?_;exact BWX))
   clear hK K
   (try simp only [Act.put,zP1,zP2,zP3,zP4,zP5,zP6])
   refine arO 9 (fun K hK => ?_)
   go_simp
   refine hK.out _ _ ?_ (fun hHeld => ?_)
   ·(try dsimp only);(first|(exact HYg.out _ _ BWX HG3.out)|(refine HY.out _ ?_;exact BWX))
   clear hK K
   (try simp only [Act.put,zP1,zP2,zP3,zP4,zP5,zP6])
   refine wpAnyH_done (by kernel_rfl) ?_ _
   go_wp2_with fail
   have hAnw : An w s.A s'.A:=HAn.out.more (by first|omega|(simp only [szA,szS,szD,szN] at *;omega))
   have hne : ∀ ad,s'.A = some ad → ad.block ≠ w.heap.size + 2:=HAn.out.ne (fun ad e => by have:=HAl.out ad e;omega) (by first|omega|(simp only [szA,szS,szD,szN] at *;omega))
   refine bodyPost_ret (results_sc2 rfl _ _ (w.heap.size + 2) (s') (by rfl) HS3.out) rfl ?_
   exact ⟨(s'),none,0,0,HE.out.1,HE.out.2,rfl,HOk'.out.far HG3.out (ne_some hne),hAnw,Ls.nil_ _ _,(fun ad e => by cases e),by omega,by omega,by omega,Bw.grown (Bw.trans hbw (show Bw w1 _ from BWX)) HG3.out (fun k hk => by cases hk;omega)⟩
  refine AllReadyH.cons rfl (fun K hK => ?_) ?_
  ·go_simp
   refine (rsor_1 A n c (s.Rn : Int) xs _ (by exact HX1.out.up BWX) hn hc).mono ?_;rintro ee wv ⟨⟨v,rfl,hv⟩,hbv⟩;have hvb:=or_bd HP.out (by omega) hv;obtain ⟨hv1,hv2⟩:=hvb;have hzv:=hbv.size;clear hv;go_wp2_with fail
   refine hK.out _ _ ?_ (fun hHeld => ?_)
   ·(try dsimp only);(first|(exact HYg.out _ _ BWX HG3.out)|(refine HY.out _ ?_;exact BWX))
   clear hK K
   (try simp only [Act.put,zP1,zP2,zP3,zP4,zP5,zP6])
   refine arO 0 (fun K hK => ?_)
   (refine (if_pos (by kernel_rfl)).mpr ?_);(with_reducible refine wp_load_sc (s) w.heap.size (.tmp 2) ?ho3 ?_ ?_ ?_);(case ho3 => rfl);(focus rfl);(focus (exact HB0.out.up BWX))
   refine hK.out _ _ ?_ (fun hHeld => ?_)
   ·(try dsimp only);(first|(exact HYg.out _ _ BWX HG3.out)|(refine HY.out _ ?_;exact BWX))
   clear hK K
   (try simp only [Act.put,zP1,zP2,zP3,zP4,zP5,zP6])
   refine arO 7 (fun K hK => ?_)
   go_simp
   refine (rsmargins_ok s num v _ (HOk1.out.up BWX) (by omega) (by omega)).mono ?_;rintro ee w2 ⟨s',e1,e2,rfl,hOk',hAn,hb2⟩;have hz2:=hb2.size;have HOk':=Lib.hid hOk';have HAn:=Lib.hid hAn;have HE:=Lib.hid (And.intro e1 e2);clear hOk' hAn e1 e2;go_wp2_with fail
   refine hK.out _ _ ?_ (fun hHeld => ?_)
   ·(try dsimp only);(first|(exact HYg.out _ _ BWX HG3.out)|(refine HY.out _ ?_;exact BWX))
   clear hK K
   (try simp only [Act.put,zP1,zP2,zP3,zP4,zP5,zP6])
   refine arO 8 (fun K hK => ?_)
   (refine (if_pos (by kernel_rfl)).mpr ?_);(with_reducible refine wp_store_sc (s') (w.heap.size + 2) (.tmp 4) (.tmp 203) ?ho4 ?_ ?_ ?_ ?_);(case ho4 => rfl);(focus rfl);(focus rfl);(focus (exact ⟨_,HB1.out.up BWX,HOsz.out⟩));intro w3 hS3 hg3;have HS3:=Lib.hid hS3;have HG3:=Lib.hid hg3;clear hS3 hg3
   refine hK.out _ _ ?_ (fun hHeld => ?_)
   ·(try dsimp only);(first|(exact HYg.out _ _ BWX HG3.out)|(refine HY.out _ ?_;exact BWX))
   clear hK K
   (try simp only [Act.put,zP1,zP2,zP3,zP4,zP5,zP6])
   refine arO 9 (fun K hK => ?_)
   go_simp
   refine hK.out _ _ ?_ (fun hHeld => ?_)
   ·(try dsimp only);(first|(exact HYg.out _ _ BWX HG3.out)|(refine HY.out _ ?_;exact BWX))
   clear hK K
   (try simp only [Act.put,zP1,zP2,zP3,zP4,zP5,zP6])
   refine wpAnyH_done (by kernel_rfl) ?_ _
   go_wp2_with fail
   have hAnw : An w s.A s'.A:=HAn.out.more (by first|omega|(simp only [szA,szS,szD,szN] at *;omega))
   have hne : ∀ ad,s'.A = some ad → ad.block ≠ w.heap.size + 2:=HAn.out.ne (fun ad e => by have:=HAl.out ad e;omega) (by first|omega|(simp only [szA,szS,szD,szN] at *;omega))
   refine bodyPost_ret (results_sc2 rfl _ _ (w.heap.size + 2) (s') (by rfl) HS3.out) rfl ?_
   exact ⟨(s'),none,0,0,HE.out.1,HE.out.2,rfl,HOk'.out.far HG3.out (ne_some hne),hAnw,Ls.nil_ _ _,(fun ad e => by cases e),by omega,by omega,by omega,Bw.grown (Bw.trans hbw (show Bw w1 _ from BWX)) HG3.out (fun k hk => by cases hk;omega)⟩
  exact AllReadyH.nil
theorem rscsi_ok (s : Scr) (kd f pv : Int) (A : Option Addr) (n c : Nat) (xs : List Int) (w : World) (hs : s.Ok w) (hx : Rd (.int .i64) w A n xs) (hn : n ≤ c) (hc : c ≤ 9223372036854775807) (hn0 : 0 < n) (hn1 : n ≤ 1000) (hp : ∀ x ∈ xs,0 ≤ x ∧ x ≤ 9999) : Calls Tryz.prog 84 #[.agg s.vals.toArray,.agg #[.int .i64 kd,.int .i64 f,.int .i64 pv,.slice A n c]] w (ScL w s):=by
 by_cases hGa : f = 65 ∨ f = 66 ∨ f = 101 ∨ f = 67 ∨ f = 97 ∨ f = 68
 ·exact rscsi_Ga s kd f pv A n c xs w hs hx hn hc hn0 hn1 hp hGa
 by_cases hGb : f = 69 ∨ f = 70 ∨ f = 71 ∨ f = 96 ∨ f = 100 ∨ f = 72 ∨ f = 102
 ·exact rscsi_Gb s kd f pv A n c xs w hs hx hn hc hn0 hn1 hp hGb
 by_cases hGc : f = 76 ∨ f = 77 ∨ f = 83 ∨ f = 115 ∨ f = 117
 ·exact rscsi_Gc s kd f pv A n c xs w hs hx hn hc hn0 hn1 hp hGc
 by_cases hGd : f = 80 ∨ f = 64 ∨ f = 88 ∨ f = 84 ∨ f = 109
 ·exact rscsi_Gd s kd f pv A n c xs w hs hx hn hc hn0 hn1 hp hGd
 by_cases hGr : f = 74 ∨ f = 75 ∨ f = 114
 ·exact rscsi_Gr s kd f pv A n c xs w hs hx hn hc hn0 hn1 hp hGr
 exact rscsi_else s kd f pv A n c xs w hs hx hn hc hn0 hn1 hp ⟨fun h => hGa (.inl h),fun h => hGa (.inr (.inl h)),fun h => hGa (.inr (.inr (.inl h))),fun h => hGa (.inr (.inr (.inr (.inl h)))),fun h => hGa (.inr (.inr (.inr (.inr (.inl h))))),fun h => hGa (.inr (.inr (.inr (.inr (.inr h))))),fun h => hGb (.inl h),fun h => hGb (.inr (.inl h)),fun h => hGb (.inr (.inr (.inl h))),fun h => hGb (.inr (.inr (.inr (.inl h)))),fun h => hGb (.inr (.inr (.inr (.inr (.inl h))))),fun h => hGb (.inr (.inr (.inr (.inr (.inr (.inl h)))))),fun h => hGb (.inr (.inr (.inr (.inr (.inr (.inr h)))))),fun h => hGr (.inl h),fun h => hGr (.inr (.inl h)),fun h => hGc (.inl h),fun h => hGc (.inr (.inl h)),fun h => hGd (.inl h),fun h => hGd (.inr (.inl h)),fun h => hGd (.inr (.inr (.inl h))),fun h => hGc (.inr (.inr (.inl h))),fun h => hGd (.inr (.inr (.inr (.inl h)))),fun h => hGd (.inr (.inr (.inr (.inr h)))),fun h => hGr (.inr (.inr h)),fun h => hGc (.inr (.inr (.inr (.inl h)))),fun h => hGc (.inr (.inr (.inr (.inr h))))⟩
/-- There are parameters, all in 0..9999. -/
def propN (n : Nat) (xs : List Int) : Bool:=decide (0 < n) && propB xs
theorem propN_no {n : Nat} {xs : List Int} {v : Int} (h : v ∈ xs) (hv : ¬ (0 ≤ v ∧ v ≤ 9999)) : propN n xs = false:=by
 unfold propN propB
 rw [List.all_eq_false.mpr ⟨v,h,by simpa using hv⟩]
 simp
theorem propN_0 {xs : List Int} : propN 0 xs = false:=by simp [propN]
theorem propN_yes {n : Nat} {xs : List Int} (h0 : 0 < n) (h : ∀ x ∈ xs,0 ≤ x ∧ x ≤ 9999) : propN n xs = true:=by
 unfold propN propB
 rw [List.all_eq_true.mpr (fun x hx => by simpa using h x hx)]
 simpa using h0
theorem propN_iff {n : Nat} {xs : List Int} (h : propN n xs = true) : 0 < n ∧ ∀ x ∈ xs,0 ≤ x ∧ x ≤ 9999:=by
 unfold propN propB at h
 simp only [Bool.and_eq_true,decide_eq_true_eq,List.all_eq_true] at h
 exact h
theorem rsproper_b (A : Option Addr) (n c : Nat) (xs : List Int) (w : World) (hx : Rd (.int .i64) w A n xs) (hn : n ≤ c) (hc : c ≤ 9223372036854775807) :
  Calls Tryz.prog 83 #[.slice A n c] w fun e w' => e = .returned (.bool (propN n xs)) ∧ Bw w w':=by
 have HX:=Lib.hid hx
 clear hx
 go_enter Tryz.func83,Tryz.ntmps83
 go_wp2_with fail
 go_loopw [3] (fun i wr => ∃ k : Nat,i = .int .i64 k ∧ k ≤ n ∧ (∀ x ∈ xs.take k,0 ≤ x ∧ x ≤ 9999) ∧ Bw w wr) (fun i _ => n - (intOf i).toNat)
 case atStart => exact ⟨0,rfl,by omega,by simp,BWX⟩
 case round =>
  obtain ⟨k,rfl,hk,ht,hbw⟩:=hrel
  have HT:=Lib.hid ht
  clear ht
  by_cases hlt : k < n
  ·obtain ⟨g,o,rfl,hx⟩:=HX.out.2 (by omega)
   have hkx : k < xs.length:=by rw [HX.out.1];exact hlt
   have hcx:=(hbw.cell (lt_of_cell (hx k hkx))).trans (hx k hkx)
   obtain ⟨v,hv⟩ : ∃ v,xs[k] = v:=⟨_,rfl⟩
   rw [hv] at hcx
   have HM:=Lib.hid (show v ∈ xs from hv ▸ List.getElem_mem hkx)
   have HV:=Lib.hid hv
   clear hx hv
   have hways : v < 0 ∨ (0 ≤ v ∧ 9999 < v) ∨ (0 ≤ v ∧ v ≤ 9999):=by omega
   rcases hways with q1|⟨q1,q2⟩|⟨q1,q2⟩
   ·go_wp2_with fail
    go_ret
    exact ⟨by rw [propN_no HM.out (by omega)];rfl,BWX⟩
   ·go_wp2_with fail
    go_ret
    exact ⟨by rw [propN_no HM.out (by omega)];rfl,BWX⟩
   ·go_wp2_with fail
    go_roundw
    case rel =>
     refine ⟨k + 1,by go_num,by omega,?_,BWX⟩
     intro x hx
     rw [List.take_add_one,List.getElem?_eq_getElem hkx,HV.out] at hx
     simp only [Option.toList,List.mem_append,List.mem_singleton] at hx
     rcases hx with hx|rfl
     ·exact HT.out x hx
     ·exact ⟨q1,q2⟩
    case measure => simp [intOf];omega
  ·obtain rfl : k = n:=by omega
   have hT : ∀ x ∈ xs,0 ≤ x ∧ x ≤ 9999:=by have:=HT.out;rw [List.take_of_length_le (by rw [HX.out.1];omega)] at this;exact this
   have HT':=Lib.hid hT
   clear hT
   by_cases h0 : k = 0
   ·subst h0
    go_wp2_with fail
    go_ret
    exact ⟨by rw [propN_0];rfl,BWX⟩
   ·go_wp2_with fail
    go_ret
    have hpos : (0 : Int) < (k : Int):=by omega
    exact ⟨by rw [propN_yes (by omega) HT'.out];first|rfl|(simp;omega),BWX⟩
theorem rsapply_Ga (s : Scr) (kd f pv : Int) (A : Option Addr) (n c : Nat) (xs : List Int) (w : World) (hs : s.Ok w) (hx : Rd (.int .i64) w A n xs) (hn : n ≤ c) (hc : c ≤ 9223372036854775807) (hn1 : n ≤ 1000) (hq : (kd = 1 ∧ runeB f = true) ∨ (kd = 1 ∧ runeB f = false) ∨ (kd = 2) ∨ (kd = 3)) : Calls Tryz.prog 50 #[.agg s.vals.toArray,.agg #[.int .i64 kd,.int .i64 f,.int .i64 pv,.slice A n c]] w (ScL w s):=by
 have HOk:=Lib.hid hs
 have HAl:=Lib.hid hs.1.lt
 have HX:=Lib.hid hx
 clear hs hx
 have HQ:=Lib.hid hq
 clear hq
 go_enter Tryz.func50,Tryz.ntmps50
 go_upto_region 1 with (fail)
 generalize hwa : ((w.alloc (.cells s.vals.toArray 46)).alloc _).alloc _ = wa
 obtain ⟨hb0,hb1,hb2,hbwa,hza⟩:=sb3 hwa
 have HB0a:=Lib.hid hb0
 have HBoa:=Lib.hid hb1
 have HB1a:=Lib.hid (show ∃ old,Sb wa (w.heap.size + 2) old 46 ∧ old.size = 19 from ⟨_,hb2,rfl⟩)
 have hza' : w.heap.size + 2 < wa.heap.size:=by omega
 clear hwa hb0 hb1 hb2 hza
 go_upto_region 3 with (first
  | ((with_reducible refine wpList_load_sc (s) (w.heap.size) (.tmp 2) rfl rfl ?_ ?_ ?_);(focus rfl);(focus (exact HB0a.out)))
  | (go_at_call 68;refine (rsvalid_ok s _ (HOk.out.up hbwa)).mono ?_;rintro ee w1 ⟨rfl,hba1⟩;have hba1':=Lib.hid hba1;clear hba1)
  | fail)
 have hba1:=hba1'.out
 have hbw : Bw w w1:=Bw.trans hbwa hba1
 have HB0:=Lib.hid (HB0a.out.up hba1)
 have HBo:=Lib.hid (HBoa.out.up hba1)
 obtain ⟨old1,hold1,hosz⟩:=HB1a.out
 have HB1:=Lib.hid (hold1.up hba1)
 have HOsz:=Lib.hid hosz
 have hz1 : w.heap.size + 2 < w1.heap.size:=by have:=hba1.size;omega
 have HOk1:=Lib.hid (HOk.out.up hbw)
 have HX1:=Lib.hid (HX.out.up hbw)
 have HNe0:=Lib.hid (show ∀ ad,s.A = some ad → ad.block ≠ w.heap.size from fun ad e => by have:=HAl.out ad e;omega)
 have HNe1:=Lib.hid (show ∀ ad,s.A = some ad → ad.block ≠ w.heap.size + 2 from fun ad e => by have:=HAl.out ad e;omega)
 have hne10 : w.heap.size + 2 ≠ w.heap.size:=by omega
 have y0:=HBo.out.cell 0 (v:=.int .i64 kd) rfl
 have y1:=HBo.out.cell 1 (v:=.int .i64 f) rfl
 have y2:=HBo.out.cell 2 (v:=.int .i64 pv) rfl
 have y3:=HBo.out.cell 3 (v:=.slice A n c) rfl
 clear hold1 hosz HB0a HBoa HB1a hba1 hba1' hbwa hza' HX
 rcases HQ.out with ⟨rfl,hr⟩|⟨rfl,hr⟩|rfl|rfl
 ·have HR:=Lib.hid hr
  clear hr
  go_upto_region 4 with ((go_at_call 79;refine (rrune_any f _).mono ?_;rintro ee ww ⟨rfl,rfl⟩;rw [HR.out]))
  go_wp2_with (first
   | ((with_reducible refine wpList_load_sc (s) (w.heap.size) (.tmp 2) rfl rfl ?_ ?_ ?_);(focus rfl);(focus (exact HB0.out)))
   | (go_at_call 80;refine (rsput_ok s f _ HOk1.out HR.out).mono ?_;rintro ee w2 ⟨s',L,m,cap,e1,e2,rfl,hOk',hAn,hLs,hLn,hm,hmc,hcap,hb2⟩;have HB12:=Lib.hid ((HB1.out).up hb2);have hbm2:=hb2;have hzm2:=hb2.size;have HOk':=Lib.hid hOk';have HAn:=Lib.hid hAn;have HLs:=Lib.hid hLs;have HLn:=Lib.hid hLn;have HE:=Lib.hid (And.intro e1 e2);clear hOk' hAn hLs hLn hb2 e1 e2)
   | ((with_reducible refine wpList_store_sc (s') (w.heap.size + 2) (.tmp 4) (.tmp 23) rfl rfl ?_ ?_ ?_ ?_);(focus rfl);(focus rfl);(focus (exact ⟨_,HB12.out,HOsz.out⟩));intro w3 hS3 hg3;have HS3:=Lib.hid hS3;have HG3:=Lib.hid hg3;clear hS3 hg3)
   | fail)
  refine bodyPost_ret (results_sc2 rfl _ _ (w.heap.size + 2) (s') (by rfl) HS3.out) rfl ?_
  have hAnw : An w s.A s'.A:=HAn.out.more (by omega)
  have hne : ∀ ad,s'.A = some ad → ad.block ≠ w.heap.size + 2:=HAn.out.ne (fun ad e => by have:=HAl.out ad e;omega) (by omega)
  have hnL : ∀ ad,L = some ad → w1.heap.size ≤ ad.block:=fun ad e => by have:=HLn.out ad e;first|omega|(simp at this;omega)
  exact ⟨s',L,m,cap,HE.out.1,HE.out.2,rfl,HOk'.out.far HG3.out (ne_some hne),hAnw,HLs.out.far HG3.out (ne_some (fun ad e => by have:=hnL ad e;omega)),fun ad e => by have:=hnL ad e;omega,hm,hmc,hcap,Bw.grown (Bw.trans hbw hbm2) HG3.out (fun k hk => by cases hk;omega)⟩
 ·have HR:=Lib.hid hr
  clear hr
  go_upto_region 15 with ((go_at_call 79;refine (rrune_any f _).mono ?_;rintro ee ww ⟨rfl,rfl⟩;rw [HR.out]))
  go_wp2_with (first
   | ((with_reducible refine wpList_load_sc (s) (w.heap.size) (.tmp 2) rfl rfl ?_ ?_ ?_);(focus rfl);(focus (exact HB0.out)))
   | ((with_reducible refine wpList_store_sc (s) (w.heap.size + 2) (.tmp 4) (.tmp 96) rfl rfl ?_ ?_ ?_ ?_);(focus rfl);(focus rfl);(focus (exact ⟨_,HB1.out,HOsz.out⟩));intro w3 hS3 hg3;have HS3:=Lib.hid hS3;have HG3:=Lib.hid hg3;clear hS3 hg3)
   | fail)
  refine bodyPost_ret (results_sc2 rfl _ _ (w.heap.size + 2) (s) (by rfl) HS3.out) rfl ?_
  exact ⟨(s),none,0,0,rfl,rfl,rfl,HOk1.out.far HG3.out (ne_some HNe1.out),.inl rfl,Ls.nil_ _ _,(fun ad e => by cases e),by omega,by omega,by omega,Bw.grown (hbw) HG3.out (fun k hk => by cases hk;omega)⟩
 ·go_upto_region 6 with (fail)
  go_wp2_with (first
   | ((with_reducible refine wpList_load_sc (s) (w.heap.size) (.tmp 2) rfl rfl ?_ ?_ ?_);(focus rfl);(focus (exact HB0.out)))
   | (go_at_call 81;refine (rscontrol_ok s f _ HOk1.out).mono ?_;rintro ee w2 ⟨s',L,m,cap,e1,e2,rfl,hOk',hAn,hLs,hLn,hm,hmc,hcap,hb2⟩;have HB12:=Lib.hid ((HB1.out).up hb2);have hbm2:=hb2;have hzm2:=hb2.size;have HOk':=Lib.hid hOk';have HAn:=Lib.hid hAn;have HLs:=Lib.hid hLs;have HLn:=Lib.hid hLn;have HE:=Lib.hid (And.intro e1 e2);clear hOk' hAn hLs hLn hb2 e1 e2)
   | ((with_reducible refine wpList_store_sc (s') (w.heap.size + 2) (.tmp 4) (.tmp 33) rfl rfl ?_ ?_ ?_ ?_);(focus rfl);(focus rfl);(focus (exact ⟨_,HB12.out,HOsz.out⟩));intro w3 hS3 hg3;have HS3:=Lib.hid hS3;have HG3:=Lib.hid hg3;clear hS3 hg3)
   | fail)
  refine bodyPost_ret (results_sc2 rfl _ _ (w.heap.size + 2) (s') (by rfl) HS3.out) rfl ?_
  have hAnw : An w s.A s'.A:=HAn.out.more (by omega)
  have hne : ∀ ad,s'.A = some ad → ad.block ≠ w.heap.size + 2:=HAn.out.ne (fun ad e => by have:=HAl.out ad e;omega) (by omega)
  have hnL : ∀ ad,L = some ad → w1.heap.size ≤ ad.block:=fun ad e => by have:=HLn.out ad e;first|omega|(simp at this;omega)
  exact ⟨s',L,m,cap,HE.out.1,HE.out.2,rfl,HOk'.out.far HG3.out (ne_some hne),hAnw,HLs.out.far HG3.out (ne_some (fun ad e => by have:=hnL ad e;omega)),fun ad e => by have:=hnL ad e;omega,hm,hmc,hcap,Bw.grown (Bw.trans hbw hbm2) HG3.out (fun k hk => by cases hk;omega)⟩
 ·go_upto_region 8 with (fail)
  go_wp2_with (first
   | ((with_reducible refine wpList_load_sc (s) (w.heap.size) (.tmp 2) rfl rfl ?_ ?_ ?_);(focus rfl);(focus (exact HB0.out)))
   | (go_at_call 82;refine (rsescape_ok s f _ HOk1.out).mono ?_;rintro ee w2 ⟨s',L,m,cap,e1,e2,rfl,hOk',hAn,hLs,hLn,hm,hmc,hcap,hb2⟩;have HB12:=Lib.hid ((HB1.out).up hb2);have hbm2:=hb2;have hzm2:=hb2.size;have HOk':=Lib.hid hOk';have HAn:=Lib.hid hAn;have HLs:=Lib.hid hLs;have HLn:=Lib.hid hLn;have HE:=Lib.hid (And.intro e1 e2);clear hOk' hAn hLs hLn hb2 e1 e2)
   | ((with_reducible refine wpList_store_sc (s') (w.heap.size + 2) (.tmp 4) (.tmp 43) rfl rfl ?_ ?_ ?_ ?_);(focus rfl);(focus rfl);(focus (exact ⟨_,HB12.out,HOsz.out⟩));intro w3 hS3 hg3;have HS3:=Lib.hid hS3;have HG3:=Lib.hid hg3;clear hS3 hg3)
   | fail)
  refine bodyPost_ret (results_sc2 rfl _ _ (w.heap.size + 2) (s') (by rfl) HS3.out) rfl ?_
  have hAnw : An w s.A s'.A:=HAn.out.more (by omega)
  have hne : ∀ ad,s'.A = some ad → ad.block ≠ w.heap.size + 2:=HAn.out.ne (fun ad e => by have:=HAl.out ad e;omega) (by omega)
  have hnL : ∀ ad,L = some ad → w1.heap.size ≤ ad.block:=fun ad e => by have:=HLn.out ad e;first|omega|(simp at this;omega)
  exact ⟨s',L,m,cap,HE.out.1,HE.out.2,rfl,HOk'.out.far HG3.out (ne_some hne),hAnw,HLs.out.far HG3.out (ne_some (fun ad e => by have:=hnL ad e;omega)),fun ad e => by have:=hnL ad e;omega,hm,hmc,hcap,Bw.grown (Bw.trans hbw hbm2) HG3.out (fun k hk => by cases hk;omega)⟩
end Go.Proofs.YteebdjmjeahccaaGreatDoor
