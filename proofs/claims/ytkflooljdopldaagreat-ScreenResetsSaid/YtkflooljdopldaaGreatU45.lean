/- Parts of the proof, one after the other. -/
import Derived.Test.YtkflooljdopldaaGreatU44
import Derived.Test.YtkflooljdopldaaGreatU02
import Derived.Deep.RegionHeld3
import Derived.Test.YtkflooljdopldaaGreatU25
import Derived.Deep.MidRow
set_option linter.unusedSimpArgs false
set_option linter.unusedVariables false
/- Screens: the program's Valid, New. -/
namespace Go.Proofs.YtkflooljdopldaaGreat
open Go.RowKit

theorem Sb.drew {w : World} {g : Nat} {cs : Array Value} {T : TypeId} (h : Sb w g cs T) : Sb w.drew g cs T := h
theorem avalid_agg (f g b : Int) (w : World) : Calls Tryz.prog 33 #[.agg #[.int .i64 f, .int .i64 g, .int .i64 b]] w fun e w' => e = .returned (.bool (avB f g b)) ∧ w.alloc (.cells #[.int .i64 f, .int .i64 g, .int .i64 b] 30) = w' := avalid_any f g b w
set_option maxRecDepth 100000 in
set_option maxHeartbeats 1000000 in
theorem svalid_ok (s : Scr) (w : World) (hs : s.Ok w) : Calls Tryz.prog 11 #[.agg s.vals.toArray] w fun e w' => e = .returned (.bool true) ∧ Bw w w' := by
 obtain ⟨Rn, Cn, A, n, c, row, col, wrap, f, g, b, top, bot, srow, scol, swrap, sf, sg, sb, hid, now⟩ := s
 obtain ⟨⟨h1, h2, h3, h4, h5, h6, h7, cs, hr, hv⟩, k1, k2, k3, k4, k5⟩ := hs
 dsimp only at h1 h2 h3 h4 h5 h6 h7 hr hv k1 k2 k3 k4 k5
 have HR := Lib.hid hr
 have HV := Lib.hid hv
 have HA := Lib.hid k2
 have HS := Lib.hid k5
 have V1 := Lib.hid (vld_yes k1)
 have V2 := Lib.hid (vld_yes k4)
 obtain ⟨t0, t1, t2⟩ := k3
 clear hr hv k2 k5 h5 k1 k4
 unfold Scr.vals
 dsimp only
 go_enter Tryz.func11, Tryz.ntmps11
 go_upto_region 1 with (fail)
 generalize hw1 : w.alloc _ = w1
 obtain ⟨hb0, hbw, hz⟩ := sb1 hw1
 have HB := Lib.hid hb0
 have hzz : w.heap.size < w1.heap.size := by omega
 have HY := Lib.hid (show ∀ w', Bw w1 w' → (w'.cell? ⟨w.heap.size, 0, none⟩ = some (.int .i64 (Rn : Int)) ∧ w'.cell? ⟨w.heap.size, 1, none⟩ = some (.int .i64 (Cn : Int)) ∧ w'.cell? ⟨w.heap.size, 2, none⟩ = some (.slice A n c) ∧ w'.cell? ⟨w.heap.size, 9, none⟩ = some (.int .i64 top) ∧ w'.cell? ⟨w.heap.size, 10, none⟩ = some (.int .i64 bot)) from fun w' hb => ⟨(HB.out.up hb).cell 0 rfl, (HB.out.up hb).cell 1 rfl, (HB.out.up hb).cell 2 rfl, (HB.out.up hb).cell 9 rfl, (HB.out.up hb).cell 10 rfl⟩)
 clear hw1 hb0 hz
 go_cut [3, 4] (fun a b w' => ∃ ga gb, a = .pointer (some ⟨ga, 0, none⟩) ∧ b = .pointer (some ⟨gb, 0, none⟩) ∧ Sb w' ga #[.int .i64 (Rn : Int), .int .i64 (Cn : Int), .slice A n c] 26 ∧ Sb w' gb #[.int .i64 top, .int .i64 bot] 32 ∧ Bw w1 w')
 case first =>
  refine wp_region_held_drew (S := (fun w' => w'.cell? ⟨w.heap.size, 0, none⟩ = some (.int .i64 (Rn : Int)) ∧ w'.cell? ⟨w.heap.size, 1, none⟩ = some (.int .i64 (Cn : Int)) ∧ w'.cell? ⟨w.heap.size, 2, none⟩ = some (.slice A n c) ∧ w'.cell? ⟨w.heap.size, 9, none⟩ = some (.int .i64 top) ∧ w'.cell? ⟨w.heap.size, 10, none⟩ = some (.int .i64 bot))) (by kernel_rfl) ?_ (fun hHeld => ?_)
  ·(try dsimp only); (refine HY.out _ ?_; exact BWX)
  refine tkQ 0 ?_
  refine tkQ 1 ?_
  refine tkQ 2 ?_
  (try simp only [Act.put, zP1, zP2, zP3, zP4, zP5, zP6])
  refine tkQ 3 ?_
  (try simp only [Act.put, zP1, zP2, zP3, zP4, zP5, zP6])
  refine wpAnyH_ready (rs := [4, 5]) (by kernel_rfl) (by simp) ?_
  refine AllReadyH.cons rfl (fun K hK => ?_) ?_
  ·go_simp
   refine hK.out _ _ ?_ (fun hHeld => ?_)
   ·(try dsimp only); (refine HY.out _ ?_; exact BWX)
   clear hK K
   (try simp only [Act.put, zP1, zP2, zP3, zP4, zP5, zP6])
   refine wpAnyH_ready (rs := [5]) (by kernel_rfl) (by simp) ?_
   refine AllReadyH.cons rfl (fun K hK => ?_) ?_
   ·go_simp
    refine hK.out _ _ ?_ (fun hHeld => ?_)
    ·(try dsimp only); (refine HY.out _ ?_; exact BWX)
    clear hK K
    (try simp only [Act.put, zP1, zP2, zP3, zP4, zP5, zP6])
    refine wpAnyH_ready (rs := [6]) (by kernel_rfl) (by simp) ?_
    refine AllReadyH.cons rfl (fun K hK => ?_) ?_
    ·go_simp
     refine hK.out _ _ ?_ (fun hHeld => ?_)
     ·(try dsimp only); (refine HY.out _ ?_; exact BWX)
     clear hK K
     (try simp only [Act.put, zP1, zP2, zP3, zP4, zP5, zP6])
     refine wpAnyH_ready (rs := [7]) (by kernel_rfl) (by simp) ?_
     refine AllReadyH.cons rfl (fun K hK => ?_) ?_
     ·go_simp
      refine hK.out _ _ ?_ (fun hHeld => ?_)
      ·(try dsimp only); (refine HY.out _ ?_; exact BWX)
      clear hK K
      (try simp only [Act.put, zP1, zP2, zP3, zP4, zP5, zP6])
      refine wpAnyH_done (by kernel_rfl) ?_ _
      go_wp2_with fail
      go_meet
      case rel => first
       | exact ⟨w1.heap.size, w1.heap.size + 1, rfl, rfl, (sb2 rfl).1.drew, (sb2 rfl).2.1.drew, BWX⟩
       | exact ⟨w1.heap.size + 1, w1.heap.size, rfl, rfl, (sb2 rfl).2.1.drew, (sb2 rfl).1.drew, BWX⟩
     exact AllReadyH.nil
    exact AllReadyH.nil
   exact AllReadyH.nil
  refine AllReadyH.cons rfl (fun K hK => ?_) ?_
  ·go_simp
   refine hK.out _ _ ?_ (fun hHeld => ?_)
   ·(try dsimp only); (refine HY.out _ ?_; exact BWX)
   clear hK K
   (try simp only [Act.put, zP1, zP2, zP3, zP4, zP5, zP6])
   refine wpAnyH_ready (rs := [4]) (by kernel_rfl) (by simp) ?_
   refine AllReadyH.cons rfl (fun K hK => ?_) ?_
   ·go_simp
    refine hK.out _ _ ?_ (fun hHeld => ?_)
    ·(try dsimp only); (refine HY.out _ ?_; exact BWX)
    clear hK K
    (try simp only [Act.put, zP1, zP2, zP3, zP4, zP5, zP6])
    refine wpAnyH_ready (rs := [6]) (by kernel_rfl) (by simp) ?_
    refine AllReadyH.cons rfl (fun K hK => ?_) ?_
    ·go_simp
     refine hK.out _ _ ?_ (fun hHeld => ?_)
     ·(try dsimp only); (refine HY.out _ ?_; exact BWX)
     clear hK K
     (try simp only [Act.put, zP1, zP2, zP3, zP4, zP5, zP6])
     refine wpAnyH_ready (rs := [7]) (by kernel_rfl) (by simp) ?_
     refine AllReadyH.cons rfl (fun K hK => ?_) ?_
     ·go_simp
      refine hK.out _ _ ?_ (fun hHeld => ?_)
      ·(try dsimp only); (refine HY.out _ ?_; exact BWX)
      clear hK K
      (try simp only [Act.put, zP1, zP2, zP3, zP4, zP5, zP6])
      refine wpAnyH_done (by kernel_rfl) ?_ _
      go_wp2_with fail
      go_meet
      case rel => first
       | exact ⟨w1.heap.size, w1.heap.size + 1, rfl, rfl, (sb2 rfl).1.drew, (sb2 rfl).2.1.drew, BWX⟩
       | exact ⟨w1.heap.size + 1, w1.heap.size, rfl, rfl, (sb2 rfl).2.1.drew, (sb2 rfl).1.drew, BWX⟩
     exact AllReadyH.nil
    exact AllReadyH.nil
   exact AllReadyH.nil
  exact AllReadyH.nil
 case rest =>
 obtain ⟨ga, gb, rfl, rfl, hga, hgb, hbc⟩ := hcut
 have hzc := hbc.size
 have hla := hga.lt
 have hlb := hgb.lt
 have HBc := Lib.hid (HB.out.up hbc)
 have HRc := Lib.hid (HR.out.up (Bw.trans hbw hbc))
 have a0 := hga.cell 0 (v := .int .i64 (Rn : Int)) rfl
 have a1 := hga.cell 1 (v := .int .i64 (Cn : Int)) rfl
 have a2 := hga.cell 2 (v := .slice A n c) rfl
 have b0 := hgb.cell 0 (v := .int .i64 top) rfl
 have b1 := hgb.cell 1 (v := .int .i64 bot) rfl
 have x3 := HBc.out.cell 3 (v := .int .i64 row) rfl
 have x4 := HBc.out.cell 4 (v := .int .i64 col) rfl
 have x5 := HBc.out.cell 5 (v := .bool wrap) rfl
 have x6 := HBc.out.cell 6 (v := .int .i64 f) rfl
 have x7 := HBc.out.cell 7 (v := .int .i64 g) rfl
 have x8 := HBc.out.cell 8 (v := .int .i64 b) rfl
 have x11 := HBc.out.cell 11 (v := .int .i64 srow) rfl
 have x12 := HBc.out.cell 12 (v := .int .i64 scol) rfl
 have x13 := HBc.out.cell 13 (v := .bool swrap) rfl
 have x14 := HBc.out.cell 14 (v := .int .i64 sf) rfl
 have x15 := HBc.out.cell 15 (v := .int .i64 sg) rfl
 have x16 := HBc.out.cell 16 (v := .int .i64 sb) rfl
 have hbwc : Bw w wc := Bw.trans hbw hbc
 have hzcc : w.heap.size < wc.heap.size := by omega
 clear hga hgb hbc HY HB HBc
 go_wp2_with (first
  | (go_at_call 31; refine (ggvalid_any _ _ _ _ _ cs _ (by exact HRc.out.up BWX) h6 h7).mono ?_; rintro ee wv ⟨rfl, hbv⟩; rw [HV.out]; obtain ⟨L, d, rfl⟩ := Bw.isPlus hbv; clear hbv)
  | (go_at_call 32; ((with_reducible refine (cvalid_any row col _ _ wrap _).mono ?_); rintro ee ww ⟨rfl, rfl⟩; rw [V1.out]))
  | (go_at_call 32; ((with_reducible refine (cvalid_any srow scol _ _ swrap _).mono ?_); rintro ee ww ⟨rfl, rfl⟩; rw [V2.out]))
  | (go_at_call 33; ((with_reducible refine (avalid_agg f g b _).mono ?_); rintro ee ww ⟨rfl, rfl⟩; rw [HA.out]))
  | (go_at_call 33; ((with_reducible refine (avalid_agg sf sg sb _).mono ?_); rintro ee ww ⟨rfl, rfl⟩; rw [HS.out]))
  | fail)
 go_ret
 exact ⟨rfl, BWX⟩

/-- A new screen. -/
def newSc (R C : Nat) (A : Option Addr) (n c : Nat) : Scr := ⟨R, C, A, n, c, 0, 0, false, 0, 0, 0, 0, (R : Int) - 1, 0, 0, false, 0, 0, 0, false, false⟩
set_option maxRecDepth 100000 in
set_option maxHeartbeats 1000000 in
theorem snew_any (rows cols : Int) (Rn Cn : Nat) (w : World) (hR : clamp rows 30 = Rn) (hC : clamp cols 100 = Cn) : Calls Tryz.prog 18 #[.int .i64 rows, .int .i64 cols] w fun e w' => ∃ A n c, e = .returned (.agg (newSc Rn Cn A n c).vals.toArray) ∧ Rg w' A n (List.replicate (Rn * Cn) blk) ∧ n ≤ c ∧ c ≤ 9223372036854775807 ∧ (∀ ad, A = some ad → w.heap.size ≤ ad.block) ∧ Bw w w' := by
 have hbd := clamp_bd rows 30 (by omega)
 have HRn := Lib.hid hR
 have HCn := Lib.hid hC
 rw [hR] at hbd
 clear hR hC
 go_enter Tryz.func18, Tryz.ntmps18
 go_upto_region 1 with (fail)
 generalize hw1 : w.alloc _ = w1
 obtain ⟨hb0, hbw, hz⟩ := sb1 hw1
 have HB0 := Lib.hid (show ∃ old, Sb w1 w.heap.size old 34 ∧ old.size = 19 from ⟨_, hb0, rfl⟩)
 have hz1 : w.heap.size < w1.heap.size := by omega
 clear hw1 hb0 hz
 go_upto_region 2 with (go_at_call 34; refine (gnew16_any _ _ _).mono ?_; rw [HRn.out, HCn.out]; rintro ee w2 ⟨A, n, c, rfl, hG, hnc, hc, hN, hb2⟩; have HB02 := Lib.hid (show ∃ old, Sb w2 w.heap.size old 34 ∧ old.size = 19 from (Exists.elim HB0.out (fun old h => ⟨old, h.1.up hb2, h.2⟩))); have hbw2 := Bw.trans hbw hb2; have hz2 := hb2.size; have HG2 := Lib.hid hG; have HN := Lib.hid hN; clear hG hN hb2)
 generalize hw3 : w2.alloc _ = w3
 obtain ⟨hb3, hbw3, hz3⟩ := sb1 hw3
 have HG3 := Lib.hid (HG2.out.up hbw3)
 have HB03 := Lib.hid (show ∃ old, Sb w3 w.heap.size old 34 ∧ old.size = 19 from (Exists.elim HB02.out (fun old h => ⟨old, h.1.up hbw3, h.2⟩)))
 have y0 := hb3.cell 0 (v := .int .i64 (Rn : Int)) rfl
 have y1 := hb3.cell 1 (v := .int .i64 (Cn : Int)) rfl
 have y2 := hb3.cell 2 (v := .slice A n c) rfl
 clear hw3 hb3
 go_wp2_with (first
  | ((with_reducible refine wpList_store_sc (newSc Rn Cn A n c) w.heap.size (.tmp 4) (.tmp 14) rfl rfl ?_ ?_ ?_ ?_); (focus rfl); (focus rfl); (focus (exact HB03.out)); intro w5 hS5 hg5; have HS5 := Lib.hid hS5; have HG5 := Lib.hid hg5; clear hS5 hg5)
  | fail)
 refine bodyPost_ret (results_sc rfl _ _ w.heap.size (newSc Rn Cn A n c) (by rfl) HS5.out) rfl ?_
 have hne : ∀ ad, A = some ad → some ad.block ≠ some w.heap.size := fun ad e e2 => by have := HN.out ad e; have := Option.some.inj e2; omega
 refine ⟨A, n, c, rfl, ?_, hnc, hc, (fun ad e => by have := HN.out ad e; omega), Bw.grown (Bw.trans hbw2 hbw3) HG5.out (fun k hk => by cases hk; omega)⟩
 have h := HG3.out.far HG5.out hne
 rw [show ((Rn : Int) * (Cn : Int)).toNat = Rn * Cn by rw [← Int.natCast_mul]; exact Int.toNat_natCast _] at h
 exact h
end Go.Proofs.YtkflooljdopldaaGreat

/- Screens: the program's Apply, by what its method does. -/
namespace Go.Proofs.YtkflooljdopldaaGreat
open Go.RowKit

theorem infoCv : (Tryz.prog.info? 75).map (·.size) = some 21 := by kernel_rfl
theorem infoCz (s : Scr) (L : Option Addr) (m k : Nat) (fr : Bool) : (Tryz.prog.info? 75).map (·.size) = some (cvV s L m k fr).size := infoCv
theorem cvV_one (s : Scr) (L : Option Addr) (m k : Nat) (fr : Bool) : (cvV s L m k fr).all (·.oneCell') = true := all_oneCell_toArray (fun v hv => by
 rcases List.mem_append.mp hv with h | h
 ·exact (Array.all_eq_true_iff_forall_mem.1 s.one) v (by simpa using h)
 ·simp only [List.mem_cons, List.not_mem_nil, or_false] at h
  rcases h with rfl | rfl <;> rfl)
theorem cvRange {w : World} {g : Nat} {s : Scr} {L : Option Addr} {m k : Nat} {fr : Bool} (h : Sb w g (cvV s L m k fr) 75) : w.rangeAt g 0 s.vals := fun j v hv => by
 have hj : j < s.vals.length := (List.getElem?_eq_some_iff.1 hv).1
 rw [Nat.zero_add]
 refine h.cell j ?_
 show (s.vals ++ _).toArray[j]? = some v
 rw [List.getElem?_toArray, List.getElem?_append_left hj]
 exact hv
theorem cv_built (s : Scr) : Tryz.prog.built 75 [(0, .agg s.vals.toArray)] = some (cvV s none 0 0 false) := by kernel_rfl
theorem wpList_build_cv {ops : Array Oper} {rest : List Oper} {o : Oper} {a : Act} {w : World} {Q : Exit → Act → World → Prop} (s : Scr) (x : Operand) (ho : o.op = .build 75 #[(0, x)]) (hgd : o.guard = none) (hx : a.eval x = .agg s.vals.toArray)
  (h : wpList Tryz.prog ops Q rest (a.put o.dst (.agg (cvV s none 0 0 false))) w) : wpList Tryz.prog ops Q (o :: rest) a w := by
 have e : ((#[(0, x)] : Array (Nat × Operand)).map fun (i, x) => (i, a.eval x)).toList = [(0, .agg s.vals.toArray)] := by
  simp only [List.map_toArray, List.map_cons, List.map_nil, hx]
 refine wpList_build hgd 75 _ ho ?_ ?_
 ·rw [e, cv_built]; rfl
 ·rw [e, cv_built]; exact h
/-- Apply returns the screen s with the cells cs, and m rows. -/
def ApP (w : World) (A0 : Option Addr) (s : Scr) (cs : List C4) (m : Nat) (e : Ending) (w' : World) : Prop :=
 ∃ A n c L k, e = .returned (.tuple #[.agg (s.gr A n c).vals.toArray, .slice L m k]) ∧ Rg w' A n cs ∧ n ≤ c ∧ c ≤ 9223372036854775807 ∧ An w A0 A ∧ Bw w w'
theorem Scr.Ok.num {w : World} {s : Scr} (h : s.Ok w) : ScX s := by
 obtain ⟨⟨h1, h2, h3, h4, -⟩, k1, k2, k3, k4, k5⟩ := h
 exact ⟨⟨h1, h2, h3, h4⟩, k1, k2, k3, k4, k5⟩

set_option maxRecDepth 100000 in
set_option maxHeartbeats 800000 in
theorem sapply_gen (kd nm pv : Int) (PA : Option Addr) (pn pc : Nat) (f : FuncId) (s s' : Scr) (cs cs' : List C4) (m : Nat) (fr' : Bool) (w : World) (hs : s.Ok w) (hr : Rg w s.A s.n cs) (hsA : s'.A = s.A)
  (hk : (kd = 1 ∧ f = 25) ∨ (kd = 2 ∧ f = 26) ∨ (kd = 3 ∧ f = 27))
  (hm : ∀ g w1, CvI w1 g s cs none 0 0 false → Calls Tryz.prog f #[.pointer (some ⟨g, 0, none⟩), .int .i64 nm] w1 (CvR w1 g s' cs' m fr')) :
  Calls Tryz.prog 10 #[.agg s.vals.toArray, .agg #[.int .i64 kd, .int .i64 nm, .int .i64 pv, .slice PA pn pc]] w (ApP w s.A s' cs' m) := by
 have HOK := Lib.hid hs
 have HR := Lib.hid hr
 have HM := Lib.hid hm
 have HSA := Lib.hid hsA
 have HK := Lib.hid hk
 have HN := Lib.hid (show s.n ≤ s.c ∧ s.c ≤ 9223372036854775807 ∧ s.n ≤ 3000 from by
  obtain ⟨⟨h1, h2, h3, h4, h5, h6, h7, -⟩, -⟩ := hs
  exact ⟨h6, h7, by rw [h5]; have := Nat.mul_le_mul h2 h4; omega⟩)
 clear hs hr hm hsA hk
 go_enter Tryz.func10, Tryz.ntmps10
 go_upto_region 1 with (fail)
 generalize hwa : w.alloc (.cells s.vals.toArray 34) = wa
 obtain ⟨ha0, hbwa, hza⟩ := sb1 hwa
 generalize hwb : wa.alloc _ = wb
 obtain ⟨hb0, hbwb, hzb⟩ := sb1 hwb
 generalize hw1 : wb.alloc _ = w1
 obtain ⟨hc0, hbwc, hzc⟩ := sb1 hw1
 rw [hzb, hza] at hc0
 rw [hza] at hb0
 have HA := Lib.hid ((ha0.up hbwb).up hbwc)
 have HB := Lib.hid (hb0.up hbwc)
 have HT := Lib.hid (show ∃ old, Sb w1 (w.heap.size + 1 + 1) old 34 ∧ old.size = 19 from ⟨_, hc0, rfl⟩)
 have hbw := Bw.trans (Bw.trans hbwa hbwb) hbwc
 have hz1 : w.heap.size + 1 + 1 < w1.heap.size := by omega
 clear hwa ha0 hbwa hza hwb hb0 hbwb hzb hw1 hc0 hbwc hzc
 go_upto_region 2 with (first
  | ((with_reducible refine wpList_load_sc s w.heap.size (.tmp 2) rfl rfl ?_ ?_ ?_); (focus rfl); (focus (exact HA.out)))
  | ((with_reducible refine wpList_build_cv s _ rfl rfl ?_ ?_); (focus rfl))
  | ((with_reducible refine wpList_store_cs 75 (cvV s none 0 0 false) w1.heap.size (.tmp 6) (.tmp 8) (infoCz s none 0 0 false) (cvV_one s none 0 0 false) rfl rfl ?_ ?_ ?_ ?_); (focus rfl); (focus rfl); (focus (exact ⟨_, heap_at (by simp), rfl⟩)); intro w2 hS2 hg2; have HS2 := Lib.hid hS2; have hbw2 : Bw w1 w2 := Bw.grown (show Bw w1 _ from BWX) hg2 (fun k hk => by cases hk; omega); clear hS2 hg2)
  | fail)
 have hlt2 := HS2.out.lt
 obtain ⟨g, hg⟩ : ∃ g, g = w1.heap.size := ⟨_, rfl⟩
 rw [← hg] at HS2 hlt2 ⊢
 have hgz : w.heap.size + 1 + 1 < g := by omega
 have hbw02 := Bw.trans hbw hbw2
 clear hg
 go_upto_if 10 with (first
  | ((with_reducible refine wpList_load_sc s w.heap.size (.tmp 2) rfl rfl ?_ ?_ ?_); (focus rfl); (focus (exact HA.out.up hbw2)))
  | (go_at_call 11; refine (svalid_ok s _ (HOK.out.up BWX)).mono ?_; rintro ee w3 ⟨rfl, hb3⟩; have hbw3 : Bw w2 w3 := Bw.trans (show Bw w2 _ from BWX) hb3; clear hb3)
  | fail)
 have HI := Lib.hid (show CvI w3 g s cs none 0 0 false from ⟨HS2.out.up hbw3, HR.out.up (Bw.trans hbw02 hbw3), HN.out.1, HN.out.2.1, HN.out.2.2, fun ad e e2 => by
  have h0 : 0 < s.n := by
   obtain ⟨⟨h1, h2, h3, h4, h5, -⟩, -⟩ := HOK.out
   rw [h5]; exact Nat.mul_pos (by omega) (by omega)
  obtain ⟨b, o, e3, hx⟩ := HR.out.2 h0
  have h4 := lt_of_cell (hx 0 (by rw [HR.out.1]; exact h0)).1
  rw [e] at e3
  have e5 := Option.some.inj e2
  have e6 := congrArg Addr.block (Option.some.inj e3)
  simp only at e6 h4
  omega⟩)
 have HB3 := Lib.hid (HB.out.up (Bw.trans hbw2 hbw3))
 have HT3 := Lib.hid (show ∃ old, Sb w3 (w.heap.size + 1 + 1) old 34 ∧ old.size = 19 from Exists.elim HT.out (fun old h => ⟨old, h.1.up (Bw.trans hbw2 hbw3), h.2⟩))
 have hbw03 := Bw.trans hbw02 hbw3
 have hlt3 := HI.out.1.lt
 have x0 := HB3.out.cell 0 (v := .int .i64 kd) rfl
 have x1 := HB3.out.cell 1 (v := .int .i64 nm) rfl
 clear hbw hbw2 hbw3 hbw02 HS2 HA HB HT hlt2 HN HR
 go_cut [] (fun w' => ∃ A n c L k, CvI w' g (s'.gr A n c) cs' L m k fr' ∧ w3.grownBy w' (some g) ∧ ((A = s'.A ∧ n = s'.n ∧ c = s'.c) ∨ ∀ ad, A = some ad → w3.heap.size ≤ ad.block))
 case first =>
  have ARM := HM.out g
  rcases HK.out with ⟨rfl, rfl⟩ | ⟨rfl, rfl⟩ | ⟨rfl, rfl⟩
  ·go_wp2_with (first
    | (go_at_call 25; refine (ARM _ (HI.out.up BWX)).mono ?_; rintro ee w4 ⟨rfl, A, n, c, L, k, hI4, hg4, hA4⟩; have HI4 := Lib.hid hI4; have hb34 := (show Bw w3 _ from BWX); have HG4 := Lib.hid ((grown_bw hb34 (some g)).trans hg4); have hsz := hb34.size; clear hI4 hg4)
    | fail)
   go_meet
   case rel => exact ⟨A, n, c, L, k, HI4.out, HG4.out, hA4.imp id (fun h ad e => Nat.le_trans hsz (h ad e))⟩
  ·go_wp2_with (first
    | (go_at_call 26; refine (ARM _ (HI.out.up BWX)).mono ?_; rintro ee w4 ⟨rfl, A, n, c, L, k, hI4, hg4, hA4⟩; have HI4 := Lib.hid hI4; have hb34 := (show Bw w3 _ from BWX); have HG4 := Lib.hid ((grown_bw hb34 (some g)).trans hg4); have hsz := hb34.size; clear hI4 hg4)
    | fail)
   go_meet
   case rel => exact ⟨A, n, c, L, k, HI4.out, HG4.out, hA4.imp id (fun h ad e => Nat.le_trans hsz (h ad e))⟩
  ·go_wp2_with (first
    | (go_at_call 27; refine (ARM _ (HI.out.up BWX)).mono ?_; rintro ee w4 ⟨rfl, A, n, c, L, k, hI4, hg4, hA4⟩; have HI4 := Lib.hid hI4; have hb34 := (show Bw w3 _ from BWX); have HG4 := Lib.hid ((grown_bw hb34 (some g)).trans hg4); have hsz := hb34.size; clear hI4 hg4)
    | fail)
   go_meet
   case rel => exact ⟨A, n, c, L, k, HI4.out, HG4.out, hA4.imp id (fun h ad e => Nat.le_trans hsz (h ad e))⟩
 case rest =>
 obtain ⟨wq, hwq⟩ : ∃ wq : World, wq = wc := ⟨_, rfl⟩
 subst hwq
 obtain ⟨A, n, c, L, k, hI, hgc, hA⟩ := hcut
 have HIc := Lib.hid hI
 have HGc := Lib.hid hgc
 have HAc := Lib.hid hA
 have hltc := hI.1.lt
 have hzc := hgc.size
 have x20 := hI.1.cell 20 (v := .bool fr') rfl
 have x2 := hI.1.cell 2 (v := .slice A n c) rfl
 have z2 := hI.1.free 2
 have hn3 : n ≤ 3000 := hI.2.2.2.2.1
 clear hI hgc hA x0 x1
 go_upto_if 37 with (fail)
 go_cut [] (fun w' => ∃ A n c L k, Sb w' g (cvV (s'.gr A n c) L m k fr') 75 ∧ Rg w' A n cs' ∧ n ≤ c ∧ c ≤ 9223372036854775807 ∧ (A = s'.A ∨ ∀ ad, A = some ad → w3.heap.size ≤ ad.block) ∧ (∀ ad, A = some ad → some ad.block ≠ some g) ∧ wq.grownBy w' (some g))
 case first =>
  cases fr' with
  | true =>
   go_wp2_with fail
   go_meet
   case rel => exact ⟨A, n, c, L, k, HIc.out.1, HIc.out.2.1, HIc.out.2.2.1, HIc.out.2.2.2.1, HAc.out.imp (fun h => h.1) id, HIc.out.2.2.2.2.2, grown_refl _ _⟩
  | false =>
   go_wp2_with (first
    | (go_at_call 30; refine (gclone_any A n c cs' _ (HIc.out.2.1.up BWX) HIc.out.2.2.1 (by omega) HIc.out.2.2.2.1).mono ?_; rintro ee w4 ⟨v, rfl, hown, hb4⟩; obtain ⟨A4, c4, rfl, hc4, hc4m⟩ := own_form hown; have hbw4 : Bw wq w4 := Bw.trans (show Bw wq _ from BWX) hb4; have HO4 := Lib.hid hown; have HB4 := Lib.hid (HIc.out.1.up hbw4); have y2 := HB4.out.cell 2 (v := .slice A n c) rfl; have v2 := HB4.out.free 2; clear hown hb4 x2 x20 z2)
    | fail)
   go_meet
   case rel =>
    have hnw : ∀ ad, A4 = some ad → wq.heap.size ≤ ad.block := fun ad e => own_new HO4.out ad e
    exact ⟨A4, n, c4, L, k, HB4.out.set 2 _ rfl, (Rg.of_own HO4.out).far (grown_set (grown_refl _ _) 2 _) (fun ad e e2 => by have := hnw ad e; have := Option.some.inj e2; omega), hc4, hc4m, .inr (fun ad e => by have := hnw ad e; omega), (fun ad e e2 => by have := hnw ad e; have := Option.some.inj e2; omega), grown_set (grown_bw hbw4 _) 2 _⟩
 case rest =>
 obtain ⟨A5, n5, c5, L5, k5, hS5, hr5, hn5, hc5, hA5, hne5, hg5⟩ := hcut
 have HS5 := Lib.hid hS5
 have HR5 := Lib.hid hr5
 have HG5 := Lib.hid hg5
 have HA5 := Lib.hid hA5
 have HN5 := Lib.hid hne5
 have hgt : some (w.heap.size + 1 + 1) ≠ some g := fun e => by have := Option.some.inj e; omega
 have HT5 := Lib.hid (show ∃ old, Sb wc (w.heap.size + 1 + 1) old 34 ∧ old.size = 19 from Exists.elim HT3.out (fun old h => ⟨old, (h.1.far HGc.out hgt).far hg5 hgt, h.2⟩))
 have hlt5 := hS5.lt
 have hz5 := hg5.size
 have HY := Lib.hid (show ∀ w', Bw wc w' → (w'.cell? ⟨g, 19, none⟩ = some (.slice L5 m k5)) from fun w' hb => (HS5.out.up hb).cell 19 rfl)
 clear hS5 hr5 hg5 hA5 hne5 x20 x2 z2
 go_upto_region 15 with (fail)
 refine wp_region_held_drew (S := (fun w' => w'.cell? ⟨g, 19, none⟩ = some (.slice L5 m k5))) (by kernel_rfl) ?_ (fun hHeld => ?_)
 ·(try dsimp only); (first | exact cell_far (HY.out _ (Bw.refl _)) HG6.out (fun e => hgt e.symm) | (refine HY.out _ ?_; exact BWX))
 refine tkQ 0 ?_
 refine tkQ 2 ?_
 (try simp only [Act.put, zP1, zP2, zP3, zP4, zP5, zP6])
 refine tkQ 3 ?_
 (try simp only [Act.put, zP1, zP2, zP3, zP4, zP5, zP6])
 refine wpAnyH_ready (rs := [1]) (by kernel_rfl) (by simp) ?_
 refine AllReadyH.cons rfl (fun K hK => ?_) ?_
 ·(refine (if_pos (by kernel_rfl)).mpr ?_); (refine wp_load_mid 34 (.tmp 46) ?ho g 0 ?_ (s'.gr A5 n5 c5).vals _ (cvRange (HS5.out.up ?hb)) Tryz.underlying34 rfl infoSc ?_); (case ho => rfl); (focus rfl); (case hb => ((repeat (first | with_reducible (first | assumption | exact Bw.refl _ | refine Bw.alloc ?_ _ | refine Bw.more ?_ _ _ | refine Bw.drew ?_ | refine Bw.drewN ?_ _) | ((with_reducible refine Bw.set2 ?_ ?_ _); (focus exact SZX)) | with_reducible refine Bw.trans ?_ (by assumption))); done))
  refine hK.out _ _ ?_ (fun hHeld => ?_)
  ·(try dsimp only); (first | exact cell_far (HY.out _ (Bw.refl _)) HG6.out (fun e => hgt e.symm) | (refine HY.out _ ?_; exact BWX))
  clear hK K
  (try simp only [Act.put, zP1, zP2, zP3, zP4, zP5, zP6])
  refine wpAnyH_ready (rs := [4]) (by kernel_rfl) (by simp) ?_
  refine AllReadyH.cons rfl (fun K hK => ?_) ?_
  ·(refine (if_pos (by kernel_rfl)).mpr ?_); (with_reducible refine wp_store_sc (s'.gr A5 n5 c5) (w.heap.size + 1 + 1) (.tmp 4) (.tmp 47) ?ho2 ?_ ?_ ?_ ?_); (case ho2 => rfl); (focus rfl); (focus rfl); (focus (exact Exists.elim HT5.out (fun old h => ⟨old, h.1.up BWX, h.2⟩))); intro w6 hS6 hg6; have HS6 := Lib.hid hS6; have HG6 := Lib.hid ((grown_bw (show Bw wc _ from BWX) _).trans hg6); clear hS6 hg6
   refine hK.out _ _ ?_ (fun hHeld => ?_)
   ·(try dsimp only); (first | exact cell_far (HY.out _ (Bw.refl _)) HG6.out (fun e => hgt e.symm) | (refine HY.out _ ?_; exact BWX))
   clear hK K
   (try simp only [Act.put, zP1, zP2, zP3, zP4, zP5, zP6])
   refine wpAnyH_ready (rs := [5]) (by kernel_rfl) (by simp) ?_
   refine AllReadyH.cons rfl (fun K hK => ?_) ?_
   ·go_simp
    refine hK.out _ _ ?_ (fun hHeld => ?_)
    ·(try dsimp only); (first | exact cell_far (HY.out _ (Bw.refl _)) HG6.out (fun e => hgt e.symm) | (refine HY.out _ ?_; exact BWX))
    clear hK K
    (try simp only [Act.put, zP1, zP2, zP3, zP4, zP5, zP6])
    refine wpAnyH_done (by kernel_rfl) ?_ _
    go_wp2_with fail
    refine bodyPost_ret (results_sc2 rfl _ _ (w.heap.size + 1 + 1) (s'.gr A5 n5 c5) (by rfl) HS6.out) rfl ?_
    have h35 : w3.grownBy w6 (some g) ∨ True := .inr trivial
    refine ⟨A5, n5, c5, L5, k5, rfl, ?_, hn5, hc5, ?_, ?_⟩
    ·refine HR5.out.far HG6.out (fun ad e e2 => ?_)
     rcases HA5.out with h | h
     ·have e3 := Option.some.inj e2
      rw [h, HSA.out] at e
      obtain ⟨⟨h1, h2, h3, h4, h5, h6, h7, cs0, hr0, -⟩, -⟩ := HOK.out
      have h0 : 0 < s.n := by rw [h5]; exact Nat.mul_pos (by omega) (by omega)
      obtain ⟨b, oo, e4, hx⟩ := hr0.2 h0
      have h8 := lt_of_cell (hx 0 (by rw [hr0.1]; exact h0)).1
      rw [e] at e4
      have e6 := congrArg Addr.block (Option.some.inj e4)
      simp only at e6 h8
      omega
     ·have := h ad e
      have e3 := Option.some.inj e2
      omega
    ·rcases HA5.out with h | h
     ·exact .inl (h.trans HSA.out)
     ·exact .inr (fun ad e => by have := h ad e; have := hbw03.size; omega)
    ·exact Bw.grown (Bw.grown hbw03 (HGc.out.trans HG5.out) (fun k hk => by cases hk; omega)) HG6.out (fun k hk => by cases hk; omega)
   exact AllReadyH.nil
  exact AllReadyH.nil
 exact AllReadyH.nil
end Go.Proofs.YtkflooljdopldaaGreat

/- Screens: put keeps them valid; the law's put. -/
namespace Go.Proofs.YtkflooljdopldaaGreat
open Go.RowKit

theorem gridB_dim {R C : Int} {cs : List C4} (h : gridB R C cs = true) : 1 ≤ R ∧ R ≤ 30 ∧ 1 ≤ C ∧ C ≤ 100 ∧ (cs.length : Int) = R * C := by
 unfold gridB at h
 rw [Bool.and_eq_true] at h
 exact of_decide_eq_true h.1
theorem gridB_tabZ {R C : Int} {cs : List C4} {F : Nat → Nat → C4} (h : gridB R C cs = true) (hF : ∀ r k, cellB (F r k) = true) : gridB R C (tab R.toNat C.toNat F) = true := by
 obtain ⟨h1, h2, h3, h4, -⟩ := gridB_dim h
 have h5 := gridB_tab (Rn := R.toNat) (Cn := C.toNat) (F := F) (by omega) (by omega) (by omega) (by omega) (fun r k _ _ => hF r k)
 rw [Int.toNat_of_nonneg (by omega), Int.toNat_of_nonneg (by omega)] at h5
 exact h5
theorem fillG_ok {R C : Int} {cs : List C4} {row fr tt : Int} {d : C4} (h : gridB R C cs = true) : gridB R C (fillG R C cs row fr tt d) = true := by
 unfold fillG; split
 ·rename_i h2; exact gridB_tabZ h (fun r k => fillF_ok (gridB_all h) h2.2 r k)
 ·exact h
theorem scrollG_ok {R C : Int} {cs : List C4} {tp bt num : Int} {d : C4} (h : gridB R C cs = true) : gridB R C (scrollG R C cs tp bt num d) = true := by
 unfold scrollG; split
 ·rename_i h2; exact gridB_tabZ h (fun r k => scrollF_ok (gridB_all h) h2.2.1 r k)
 ·exact h
theorem fdC_ok {s : Scr} {cs : List C4} (h : gridB s.Rn s.Cn cs = true) : gridB s.Rn s.Cn (fdC s cs) = true := by
 unfold fdC; split
 ·exact scrollG_ok h
 ·exact h
theorem pfC_ok {s : Scr} {cs : List C4} (h : gridB s.Rn s.Cn cs = true) : gridB s.Rn s.Cn (pfC s cs) = true := by
 unfold pfC; split
 ·exact fdC_ok (s := { s with col := 0 }) h
 ·exact h
theorem ptC_ok {s : Scr} {cs : List C4} {x : Int} (h : gridB s.Rn s.Cn cs = true) : gridB s.Rn s.Cn (ptC s cs x) = true := fillG_ok (pfC_ok h)
theorem fdS_at (s : Scr) : (fdS s).f = s.f ∧ (fdS s).g = s.g ∧ (fdS s).b = s.b ∧ (fdS s).now = s.now := by unfold fdS; split <;> exact ⟨rfl, rfl, rfl, rfl⟩
theorem pfS_at (s : Scr) : (pfS s).f = s.f ∧ (pfS s).g = s.g ∧ (pfS s).b = s.b ∧ (pfS s).now = s.now := by
 unfold pfS; split
 ·exact fdS_at _
 ·exact ⟨rfl, rfl, rfl, rfl⟩
theorem ptE_nums (s : Scr) : (ptE s).Rn = s.Rn ∧ (ptE s).Cn = s.Cn ∧ (ptE s).A = s.A ∧ (ptE s).n = s.n ∧ (ptE s).c = s.c ∧ (ptE s).f = s.f ∧ (ptE s).g = s.g ∧ (ptE s).b = s.b := by unfold ptE; split <;> exact ⟨rfl, rfl, rfl, rfl, rfl, rfl, rfl, rfl⟩
theorem ptS_nums (s : Scr) : (ptS s).Rn = s.Rn ∧ (ptS s).Cn = s.Cn ∧ (ptS s).A = s.A ∧ (ptS s).f = s.f ∧ (ptS s).g = s.g ∧ (ptS s).b = s.b := by
 obtain ⟨h1, h2, h3, -, -, h6, h7, h8⟩ := ptE_nums (pfS s)
 obtain ⟨k1, k2, k3, -, -⟩ := pfS_nums s
 obtain ⟨a1, a2, a3, -⟩ := pfS_at s
 exact ⟨h1.trans k1, h2.trans k2, h3.trans k3, h6.trans a1, h7.trans a2, h8.trans a3⟩
theorem ptS_ok {s : Scr} (hs : ScX s) : ScX (ptS s) := ptE_ok (pfS_ok hs)
/-- A screen is valid by its numbers and its cells. -/
theorem Scr.Ok.of {w : World} {s : Scr} {cs : List C4} (hs : ScX s) (hr : Rg w s.A s.n cs) (hn : s.n ≤ s.c) (hc : s.c ≤ 9223372036854775807) (hg : gridB s.Rn s.Cn cs = true) : s.Ok w := by
 obtain ⟨⟨h1, h2, h3, h4⟩, k1, k2, k3, k4, k5⟩ := hs
 have h5 := (gridB_dim hg).2.2.2.2
 have h6 : s.n = s.Rn * s.Cn := by have := hr.1; rw [← Int.natCast_mul] at h5; omega
 exact ⟨⟨h1, h2, h3, h4, h6, hn, hc, cs, hr, hg⟩, k1, k2, k3, k4, k5⟩
theorem ptE_gr (s : Scr) (A : Option Addr) (n c : Nat) : ptE (s.gr A n c) = (ptE s).gr A n c := by unfold ptE Scr.gr; dsimp only; split <;> rfl
theorem fdS_gr (s : Scr) (A : Option Addr) (n c : Nat) : fdS (s.gr A n c) = (fdS s).gr A n c := by unfold fdS Scr.gr; dsimp only; split <;> rfl
theorem pfS_gr (s : Scr) (A : Option Addr) (n c : Nat) : pfS (s.gr A n c) = (pfS s).gr A n c := by
 unfold pfS
 rw [show ((s.gr A n c).wrap && !(s.gr A n c).now) = (s.wrap && !s.now) from rfl]
 split
 ·exact fdS_gr { s with col := 0 } A n c
 ·rfl
theorem ptS_gr (s : Scr) (A : Option Addr) (n c : Nat) : ptS (s.gr A n c) = (ptS s).gr A n c := by unfold ptS; rw [pfS_gr, ptE_gr]
theorem ptC_gr (s : Scr) (A : Option Addr) (n c : Nat) (cs : List C4) (x : Int) : ptC (s.gr A n c) cs x = ptC s cs x := by unfold ptC; rw [pfS_gr]; rfl
theorem sapply_print (s : Scr) (cs : List C4) (x : Int) (w : World) (hs : s.Ok w) (hr : Rg w s.A s.n cs) (hv : cellB (x, s.f, s.g, s.b) = true) :
  Calls Tryz.prog 10 #[.agg s.vals.toArray, .agg #[.int .i64 1, .int .i64 x, .int .i64 0, .slice none 0 0]] w (ApP w s.A (ptS s) (ptC s cs x) (pfN s)) :=
 sapply_gen 1 x 0 none 0 0 25 s (ptS s) cs (ptC s cs x) (pfN s) true w hs hr (ptS_nums s).2.2.1 (.inl ⟨rfl, rfl⟩) (fun g w1 h => cvput_any s false cs x g w1 h hs.num hv)
/-- A new box, a call later. -/
theorem sb_boxed {w w2 : World} {cs : Array Value} {T : TypeId} {n : Nat} (h : Bw (w.alloc (.cells cs T)).drew w2) (hs : cs.size = n) : ∃ old, Sb w2 w.heap.size old T ∧ old.size = n := ⟨cs, (show Sb (w.alloc (.cells cs T)).drew w.heap.size cs T from heap_at rfl).up h, hs⟩
theorem scRange {w : World} {g : Nat} {s : Scr} (h : Sb w g s.vals.toArray 34) : w.rangeAt g 0 s.vals := fun j v hv => by
 rw [Nat.zero_add]
 exact h.cell j (by rw [List.getElem?_toArray]; exact hv)

/-- What letters make of a screen: its cells, and how many rows went away. -/
def stepP (q : Scr × List C4 × Nat) (x : Int) : Scr × List C4 × Nat := (ptS q.1, ptC q.1 q.2.1 x, q.2.2 + pfN q.1)
def letters (xs : List Int) : Prop := ∀ x ∈ xs, 32 ≤ x ∧ x ≤ 126
theorem step_ok {q : Scr × List C4 × Nat} {x : Int} (h : ScX q.1 ∧ gridB q.1.Rn q.1.Cn q.2.1 = true) : ScX (stepP q x).1 ∧ gridB (stepP q x).1.Rn (stepP q x).1.Cn (stepP q x).2.1 = true := by
 refine ⟨ptS_ok h.1, ?_⟩
 show gridB (ptS q.1).Rn (ptS q.1).Cn (ptC q.1 q.2.1 x) = true
 rw [(ptS_nums q.1).1, (ptS_nums q.1).2.1]
 exact ptC_ok h.2
theorem play_ok : ∀ (xs : List Int) (q : Scr × List C4 × Nat), ScX q.1 ∧ gridB q.1.Rn q.1.Cn q.2.1 = true → ScX (xs.foldl stepP q).1 ∧ gridB (xs.foldl stepP q).1.Rn (xs.foldl stepP q).1.Cn (xs.foldl stepP q).2.1 = true
 | [], q, h => h
 | x :: xs, q, h => play_ok xs (stepP q x) (step_ok h)
theorem letter_ok {x f g b : Int} (hx : 32 ≤ x ∧ x ≤ 126) (h : avB f g b = true) : cellB (x, f, g, b) = true := by
 unfold cellB runeB
 dsimp only
 rw [decide_eq_true (by omega), h]
 rfl
theorem lostN_le (s : Scr) (nn : Int) (h : ScX s) : lostN s nn ≤ 30 := by
 obtain ⟨⟨-, h2, -⟩, -, -, ⟨-, -, h3⟩, -⟩ := h
 unfold lostN; split <;> omega
theorem pfN_le (s : Scr) (h : ScX s) : pfN s ≤ 30 := by
 unfold pfN fdN
 split
 ·split
  ·refine lostN_le { s with col := 0 } 1 ?_
   obtain ⟨h1, ⟨h2, h3, h4, h5⟩, h6⟩ := h
   exact ⟨h1, ⟨h2, h3, by show (0 : Int) ≤ 0; omega, by show (0 : Int) < s.Cn; omega⟩, h6⟩
  ·omega
 ·omega

set_option maxRecDepth 100000 in
set_option maxHeartbeats 1000000 in
theorem lput_any (s : Scr) (cs : List C4) (b : ByteArray) (xs : List Int) (w : World) (hs : ScX s) (hr : Rg w s.A s.n cs) (hn : s.n ≤ s.c) (hc : s.c ≤ 9223372036854775807) (hg : gridB s.Rn s.Cn cs = true) (hl : b.size = xs.length) (hl2 : xs.length ≤ 100) (hb : ∀ (k : Nat) (h : k < b.size), ((b[k].toNat : Nat) : Int) = xs.getD k 0) (hx : letters xs) :
  Calls Tryz.prog 19 #[.agg s.vals.toArray, .string b] w fun e w' => ∃ A n c, e = .returned (.tuple #[.agg ((xs.foldl stepP (s, cs, 0)).1.gr A n c).vals.toArray, .int .i64 ((xs.foldl stepP (s, cs, 0)).2.2 : Nat)]) ∧ Rg w' A n (xs.foldl stepP (s, cs, 0)).2.1 ∧ n ≤ c ∧ c ≤ 9223372036854775807 ∧ An w s.A A ∧ Bw w w' := by
 have HR := Lib.hid hr
 have HX := Lib.hid hx
 have HG := Lib.hid (And.intro hs hg)
 have HB := Lib.hid hb
 have HL := Lib.hid hl
 have hA := Lib.hid (Scr.Ok.of hs hr hn hc hg).1.lt
 clear hr hx hg hb hs
 go_enter Tryz.func19, Tryz.ntmps19
 go_upto_region 1 with (fail)
 generalize hwa : w.alloc (.cells s.vals.toArray 34) = wa
 obtain ⟨ha0, hbwa, hza⟩ := sb1 hwa
 generalize hw1 : wa.alloc _ = w1
 obtain ⟨hc0, hbwc, hzc⟩ := sb1 hw1
 rw [hza] at hc0
 have H0 := Lib.hid (ha0.up hbwc)
 have HT := Lib.hid (show ∃ old, Sb w1 (w.heap.size + 1) old 34 ∧ old.size = 19 from ⟨_, hc0, rfl⟩)
 have HBW := Lib.hid (Bw.trans hbwa hbwc)
 have hz1 : w.heap.size + 1 < w1.heap.size := by omega
 clear hwa ha0 hbwa hza hw1 hc0 hbwc hzc
 go_wp2_with fail
 go_loopw [7, 6] (fun i v wr => ∃ (k : Nat) (q : Scr × List C4 × Nat) (A : Option Addr) (n c : Nat), i = .int .i64 k ∧ k ≤ xs.length ∧ q = (xs.take k).foldl stepP (s, cs, 0) ∧ v = .int .i64 (q.2.2 : Nat) ∧ q.2.2 ≤ k * 30 ∧ Sb wr w.heap.size (q.1.gr A n c).vals.toArray 34 ∧ Rg wr A n q.2.1 ∧ n ≤ c ∧ c ≤ 9223372036854775807 ∧ An w s.A A ∧ (∀ ad, A = some ad → ad.block ≠ w.heap.size ∧ ad.block ≠ w.heap.size + 1) ∧ (∃ old, Sb wr (w.heap.size + 1) old 34 ∧ old.size = 19) ∧ Bw w wr) (fun i _ _ => xs.length - (intOf i).toNat)
 case atStart => exact ⟨0, (s, cs, 0), s.A, s.n, s.c, rfl, by omega, rfl, rfl, Nat.zero_le _, H0.out, HR.out.up HBW.out, hn, hc, .inl rfl, (fun ad e => by have := hA.out ad e; omega), HT.out, HBW.out⟩
 case round =>
  obtain ⟨k, q, A, n, c, rfl, hk, hq, rfl, hqm, hS, hrr, hnc, hcm, hAn, hne, hT, hbr⟩ := hrel
  have HQ := Lib.hid hq
  have HS := Lib.hid hS
  have HRr := Lib.hid hrr
  have HAn := Lib.hid hAn
  have HNe := Lib.hid hne
  have HTr := Lib.hid hT
  have HBr := Lib.hid hbr
  have hzr := hbr.size
  have hltr := hS.lt
  have hlt1 : w.heap.size + 1 < wr.heap.size := by obtain ⟨old, h1, -⟩ := hT; exact h1.lt
  have HOK := Lib.hid (show ScX q.1 ∧ gridB q.1.Rn q.1.Cn q.2.1 = true from by rw [hq]; exact play_ok _ _ HG.out)
  clear hq hS hrr hAn hne hT hbr
  by_cases hlt : k < xs.length
  ·obtain ⟨x, hxk⟩ : ∃ x, xs.getD k 0 = x := ⟨_, rfl⟩
   have hbx : ((b[k]'(by rw [HL.out]; exact hlt)).toNat : Int) = x := (HB.out k (by rw [HL.out]; exact hlt)).trans hxk
   have hxs : xs[k]? = some x := by rw [List.getD_eq_getElem?_getD, List.getElem?_eq_getElem hlt] at hxk; rw [List.getElem?_eq_getElem hlt]; simpa using hxk
   have HXK := Lib.hid hxs
   have hx1 : 32 ≤ x ∧ x ≤ 126 := HX.out x (List.mem_of_getElem? hxs)
   have HBX := Lib.hid hbx
   have hks : (k : Int) < (b.size : Int) := by rw [HL.out]; omega
   have hk0 : (0 : Int) ≤ k := by omega
   have HCV := Lib.hid (show cellB (x, q.1.f, q.1.g, q.1.b) = true from letter_ok hx1 HOK.out.1.2.2.1)
   have HSO := Lib.hid (show (q.1.gr A n c).Ok wr from Scr.Ok.of (s := q.1.gr A n c) HOK.out.1 HRr.out hnc hcm HOK.out.2)
   obtain ⟨hx10, hx11⟩ := hx1
   clear hxk hbx hxs
   go_upto_region 5 with (fail)
   go_cut [8, 9] (fun a b' w' => ∃ A' n' c' L k' gb, a = .pointer (some ⟨gb, 0, none⟩) ∧ b' = .slice L (pfN q.1) k' ∧ Sb w' gb (((ptS q.1).gr A' n' c').vals.toArray) 34 ∧ Rg w' A' n' (ptC q.1 q.2.1 x) ∧ n' ≤ c' ∧ c' ≤ 9223372036854775807 ∧ An wr A A' ∧ (∀ ad, A' = some ad → ad.block ≠ w.heap.size ∧ ad.block ≠ w.heap.size + 1) ∧ wr.heap.size ≤ gb ∧ Bw wr w')
   case first =>
    have HY := Lib.hid (show ∀ w', Bw wr w' → Sb w' w.heap.size (q.1.gr A n c).vals.toArray 34 from fun w' hb => HS.out.up hb)
    refine wp_region_held_drew (S := (fun w' => Sb w' w.heap.size (q.1.gr A n c).vals.toArray 34)) (by kernel_rfl) ?_ (fun hHeld => ?_)
    ·(try dsimp only); (first | exact hHeld | exact HK6.out | (refine HY.out _ ?_; exact BWX))
    refine wpAnyH_take (i := 0) (v := .agg (q.1.gr A n c).vals.toArray) rfl (by kernel_rfl) (by kernel_rfl) (by kernel_rfl) (fun _ _ _ h => h) (yieldsIf_load_mid (by rfl) 34 (.tmp 2) rfl w.heap.size 0 rfl (q.1.gr A n c).vals _ (fun w' h => scRange h) Tryz.underlying34 rfl infoSc) (by assumption) ?_
    (try simp only [Act.put, zP1, zP2, zP3, zP4, zP5, zP6])
    refine tkQ 1 ?_
    refine tkQ 2 ?_
    (try simp only [Act.put, zP1, zP2, zP3, zP4, zP5, zP6])
    refine tkQ 3 ?_
    refine tkQ 4 ?_
    refine tkQ 5 ?_
    (try simp only [Act.put, zP1, zP2, zP3, zP4, zP5, zP6])
    refine wpAnyH_ready (rs := [6, 10]) (by kernel_rfl) (by simp) ?_
    refine AllReadyH.cons rfl (fun K hK => ?_) ?_
    ·go_simp
     rw [HBX.out, IntWalk.i64_in x (by omega)]; refine (sapply_print (q.1.gr A n c) q.2.1 x _ (HSO.out.up BWX) (HRr.out.up BWX) HCV.out).mono ?_; rintro ee w2 ⟨A', n', c', L, k', rfl, hr2, hn2, hc2, hA2, hb2⟩; rw [ptS_gr, Scr.gr_gr]; rw [ptC_gr] at hr2; have hbw2 : Bw wr w2 := Bw.trans (show Bw wr _ from BWX) hb2; have hsz2 := hbw2.size; have HR2 := Lib.hid hr2; have HA2s := Lib.hid hA2; have HA2 := Lib.hid (show An wr A A' from An.more hA2 (by first | exact Nat.le_refl _ | (simp only [szA, szS, szD, szN]; omega))); have HBB := Lib.hid hb2; clear hr2 hA2 hb2; go_wp2_with fail
     refine hK.out _ _ ?_ (fun hHeld => ?_)
     ·(try dsimp only); (first | exact hHeld | exact HK6.out | (refine HY.out _ ?_; exact BWX))
     clear hK K
     (try simp only [Act.put, zP1, zP2, zP3, zP4, zP5, zP6])
     refine tkQ 7 ?_
     refine tkQ 8 ?_
     refine tkQ 9 ?_
     (try simp only [Act.put, zP1, zP2, zP3, zP4, zP5, zP6])
     refine wpAnyH_ready (rs := [10]) (by kernel_rfl) (by simp) ?_
     refine AllReadyH.cons rfl (fun K hK => ?_) ?_
     ·go_simp
      refine hK.out _ _ ?_ (fun hHeld => ?_)
      ·(try dsimp only); (first | exact hHeld | exact HK6.out | (refine HY.out _ ?_; exact BWX))
      clear hK K
      (try simp only [Act.put, zP1, zP2, zP3, zP4, zP5, zP6])
      refine wpAnyH_ready (rs := [11]) (by kernel_rfl) (by simp) ?_
      refine AllReadyH.cons rfl (fun K hK => ?_) ?_
      ·(refine (if_pos (by kernel_rfl)).mpr ?_); (first | ((with_reducible refine wp_store_sc ((ptS q.1).gr A' n' c') w2.heap.size (.tmp 8) (.tmp 24) ?ho ?_ ?_ ?_ ?_); (case ho => rfl); (focus rfl); (focus rfl); (focus (exact ⟨_, heap_at (by simp), rfl⟩))) | ((with_reducible refine wp_store_sc ((ptS q.1).gr A' n' c') wr.heap.size (.tmp 8) (.tmp 24) ?ho ?_ ?_ ?_ ?_); (case ho => rfl); (focus rfl); (focus rfl); (focus (exact sb_boxed HBB.out rfl)))); intro w6 hS6 hg6; have HK6 := Lib.hid (hHeld.far hg6 (fun e => by have e3 := Option.some.inj e; (try simp only [szA, szS, szD, szN] at e3); omega)); have HS6 := Lib.hid hS6; have HG6 := Lib.hid hg6; clear hS6 hg6
       refine hK.out _ _ ?_ (fun hHeld => ?_)
       ·(try dsimp only); (first | exact hHeld | exact HK6.out | (refine HY.out _ ?_; exact BWX))
       clear hK K
       (try simp only [Act.put, zP1, zP2, zP3, zP4, zP5, zP6])
       refine wpAnyH_ready (rs := [12]) (by kernel_rfl) (by simp) ?_
       refine AllReadyH.cons rfl (fun K hK => ?_) ?_
       ·go_simp
        refine hK.out _ _ ?_ (fun hHeld => ?_)
        ·(try dsimp only); (first | exact hHeld | exact HK6.out | (refine HY.out _ ?_; exact BWX))
        clear hK K
        (try simp only [Act.put, zP1, zP2, zP3, zP4, zP5, zP6])
        refine wpAnyH_done (by kernel_rfl) ?_ _
        go_wp2_with fail
        go_meet
        case rel =>
         have hAs := HA2.out
         have hne2 : ∀ ad, A' = some ad → ad.block ≠ w.heap.size ∧ ad.block ≠ w.heap.size + 1 := fun ad e => by
          rcases hAs with h | h
          ·exact HNe.out ad (h ▸ e)
          ·have := h ad e; omega
         have hOk2 : ((ptS q.1).gr A' n' c').Ok w2 := Scr.Ok.of (s := (ptS q.1).gr A' n' c') (ptS_ok HOK.out.1) HR2.out hn2 hc2 (step_ok (x := x) HOK.out).2
         have hl2 := hOk2.1.lt
         have hlo := HSO.out.1.lt
         refine ⟨A', n', c', L, k', _, rfl, rfl, HS6.out, ?_, hn2, hc2, hAs, hne2, (by first | omega | (simp only [szA, szS, szD, szN]; omega)), ?_⟩
         ·refine Rg.far ?_ HG6.out (fun ad e e2 => ?_)
          ·exact HR2.out.up BWX
          ·have e3 := Option.some.inj e2
           have h1 := hl2 ad e
           rcases HA2s.out with h | h
           ·have h2 := hlo ad (h ▸ e)
            (try simp only [szA, szS, szD, szN] at e3)
            omega
           ·have h2 := h ad e
            (try simp only [szA, szS, szD, szN] at e3 h2)
            omega
         ·refine Bw.grown ?_ HG6.out (fun j hj => by cases hj; first | omega | (simp only [szA, szS, szD, szN]; omega))
          exact BWX
       exact AllReadyH.nil
      exact AllReadyH.nil
     exact AllReadyH.nil
    refine AllReadyH.cons rfl (fun K hK => ?_) ?_
    ·go_simp
     refine hK.out _ _ ?_ (fun hHeld => ?_)
     ·(try dsimp only); (first | exact hHeld | exact HK6.out | (refine HY.out _ ?_; exact BWX))
     clear hK K
     (try simp only [Act.put, zP1, zP2, zP3, zP4, zP5, zP6])
     refine wpAnyH_ready (rs := [6]) (by kernel_rfl) (by simp) ?_
     refine AllReadyH.cons rfl (fun K hK => ?_) ?_
     ·go_simp
      rw [HBX.out, IntWalk.i64_in x (by omega)]; refine (sapply_print (q.1.gr A n c) q.2.1 x _ (HSO.out.up BWX) (HRr.out.up BWX) HCV.out).mono ?_; rintro ee w2 ⟨A', n', c', L, k', rfl, hr2, hn2, hc2, hA2, hb2⟩; rw [ptS_gr, Scr.gr_gr]; rw [ptC_gr] at hr2; have hbw2 : Bw wr w2 := Bw.trans (show Bw wr _ from BWX) hb2; have hsz2 := hbw2.size; have HR2 := Lib.hid hr2; have HA2s := Lib.hid hA2; have HA2 := Lib.hid (show An wr A A' from An.more hA2 (by first | exact Nat.le_refl _ | (simp only [szA, szS, szD, szN]; omega))); have HBB := Lib.hid hb2; clear hr2 hA2 hb2; go_wp2_with fail
      refine hK.out _ _ ?_ (fun hHeld => ?_)
      ·(try dsimp only); (first | exact hHeld | exact HK6.out | (refine HY.out _ ?_; exact BWX))
      clear hK K
      (try simp only [Act.put, zP1, zP2, zP3, zP4, zP5, zP6])
      refine tkQ 7 ?_
      refine tkQ 8 ?_
      refine tkQ 9 ?_
      (try simp only [Act.put, zP1, zP2, zP3, zP4, zP5, zP6])
      refine wpAnyH_ready (rs := [11]) (by kernel_rfl) (by simp) ?_
      refine AllReadyH.cons rfl (fun K hK => ?_) ?_
      ·(refine (if_pos (by kernel_rfl)).mpr ?_); (first | ((with_reducible refine wp_store_sc ((ptS q.1).gr A' n' c') w2.heap.size (.tmp 8) (.tmp 24) ?ho2 ?_ ?_ ?_ ?_); (case ho2 => rfl); (focus rfl); (focus rfl); (focus (exact ⟨_, heap_at (by simp), rfl⟩))) | ((with_reducible refine wp_store_sc ((ptS q.1).gr A' n' c') wr.heap.size (.tmp 8) (.tmp 24) ?ho2 ?_ ?_ ?_ ?_); (case ho2 => rfl); (focus rfl); (focus rfl); (focus (exact sb_boxed HBB.out rfl)))); intro w6 hS6 hg6; have HK6 := Lib.hid (hHeld.far hg6 (fun e => by have e3 := Option.some.inj e; (try simp only [szA, szS, szD, szN] at e3); omega)); have HS6 := Lib.hid hS6; have HG6 := Lib.hid hg6; clear hS6 hg6
       refine hK.out _ _ ?_ (fun hHeld => ?_)
       ·(try dsimp only); (first | exact hHeld | exact HK6.out | (refine HY.out _ ?_; exact BWX))
       clear hK K
       (try simp only [Act.put, zP1, zP2, zP3, zP4, zP5, zP6])
       refine wpAnyH_ready (rs := [12]) (by kernel_rfl) (by simp) ?_
       refine AllReadyH.cons rfl (fun K hK => ?_) ?_
       ·go_simp
        refine hK.out _ _ ?_ (fun hHeld => ?_)
        ·(try dsimp only); (first | exact hHeld | exact HK6.out | (refine HY.out _ ?_; exact BWX))
        clear hK K
        (try simp only [Act.put, zP1, zP2, zP3, zP4, zP5, zP6])
        refine wpAnyH_done (by kernel_rfl) ?_ _
        go_wp2_with fail
        go_meet
        case rel =>
         have hAs := HA2.out
         have hne2 : ∀ ad, A' = some ad → ad.block ≠ w.heap.size ∧ ad.block ≠ w.heap.size + 1 := fun ad e => by
          rcases hAs with h | h
          ·exact HNe.out ad (h ▸ e)
          ·have := h ad e; omega
         have hOk2 : ((ptS q.1).gr A' n' c').Ok w2 := Scr.Ok.of (s := (ptS q.1).gr A' n' c') (ptS_ok HOK.out.1) HR2.out hn2 hc2 (step_ok (x := x) HOK.out).2
         have hl2 := hOk2.1.lt
         have hlo := HSO.out.1.lt
         refine ⟨A', n', c', L, k', _, rfl, rfl, HS6.out, ?_, hn2, hc2, hAs, hne2, (by first | omega | (simp only [szA, szS, szD, szN]; omega)), ?_⟩
         ·refine Rg.far ?_ HG6.out (fun ad e e2 => ?_)
          ·exact HR2.out.up BWX
          ·have e3 := Option.some.inj e2
           have h1 := hl2 ad e
           rcases HA2s.out with h | h
           ·have h2 := hlo ad (h ▸ e)
            (try simp only [szA, szS, szD, szN] at e3)
            omega
           ·have h2 := h ad e
            (try simp only [szA, szS, szD, szN] at e3 h2)
            omega
         ·refine Bw.grown ?_ HG6.out (fun j hj => by cases hj; first | omega | (simp only [szA, szS, szD, szN]; omega))
          exact BWX
       exact AllReadyH.nil
      exact AllReadyH.nil
     exact AllReadyH.nil
    exact AllReadyH.nil
   case rest =>
   obtain ⟨A', n', c', L, k', gb, rfl, rfl, hS2, hr2, hn2, hc2, hA2, hne2, hgb, hb2⟩ := hcut
   have HS2 := Lib.hid hS2
   have HR2 := Lib.hid hr2
   have HA2 := Lib.hid hA2
   have HNe2 := Lib.hid hne2
   have HB2 := Lib.hid hb2
   have hz2 := hb2.size
   have hpf := pfN_le q.1 HOK.out.1
   have HOLD := Lib.hid (HS.out.up hb2)
   have hltg := hS2.lt
   clear hS2 hr2 hA2 hne2 hb2
   go_upto_region 4 with (first
    | ((with_reducible refine wpList_load_sc ((ptS q.1).gr A' n' c') gb (.tmp 8) rfl rfl ?_ ?_ ?_); (focus rfl); (focus (exact HS2.out)))
    | ((with_reducible refine wpList_store_sc ((ptS q.1).gr A' n' c') w.heap.size (.tmp 2) (.tmp 26) rfl rfl ?_ ?_ ?_ ?_); (focus rfl); (focus rfl); (focus (exact ⟨_, HOLD.out, rfl⟩)); intro w3 hS3 hg3; have HS3 := Lib.hid hS3; have HG3 := Lib.hid hg3; clear hS3 hg3)
    | fail)
   go_wp2_with fail
   go_roundw
   case rel =>
    refine ⟨k + 1, stepP q x, A', n', c', by go_num, by omega, ?_, by first | rfl | (congr 1; show _ = ((q.2.2 + pfN q.1 : Nat) : Int); omega), by show q.2.2 + pfN q.1 ≤ (k + 1) * 30; omega, HS3.out, HR2.out.far HG3.out (fun ad e e2 => (HNe2.out ad e).1 (Option.some.inj e2)), hn2, hc2, HAn.out.trans HA2.out (by omega), HNe2.out, ?_, Bw.grown (Bw.trans HBr.out HB2.out) HG3.out (fun j hj => by cases hj; omega)⟩
    ·rw [HQ.out]
     rw [List.take_add_one, HXK.out, Option.toList_some, List.foldl_append]
     rfl
    ·obtain ⟨old, h1, h2⟩ := HTr.out
     exact ⟨old, (h1.up HB2.out).far HG3.out (fun e => by have := Option.some.inj e; omega), h2⟩
   case measure => simp [intOf]; omega
  ·have hke : k = xs.length := by omega
   have HQE := Lib.hid (show q = xs.foldl stepP (s, cs, 0) from by rw [HQ.out, hke, List.take_length])
   have hks : (b.size : Int) ≤ k := by rw [HL.out, hke]; omega
   have hks2 : (b.size : Int) ≤ (k : Int) := hks
   clear hke
   go_wp2_with (first
    | ((with_reducible refine wpList_load_sc (q.1.gr A n c) w.heap.size (.tmp 2) rfl rfl ?_ ?_ ?_); (focus rfl); (focus (exact HS.out)))
    | ((with_reducible refine wpList_store_sc (q.1.gr A n c) (w.heap.size + 1) (.tmp 4) (.tmp 31) rfl rfl ?_ ?_ ?_ ?_); (focus rfl); (focus rfl); (focus (exact HTr.out)); intro w3 hS3 hg3; have HS3 := Lib.hid hS3; have HG3 := Lib.hid hg3; clear hS3 hg3)
    | fail)
   refine bodyPost_ret (results_sc2 rfl _ _ (w.heap.size + 1) (q.1.gr A n c) (by rfl) HS3.out) rfl ?_
   rw [← HQE.out]
   exact ⟨A, n, c, rfl, HRr.out.far HG3.out (fun ad e e2 => (HNe.out ad e).2 (Option.some.inj e2)), hnc, hcm, HAn.out, Bw.grown HBr.out HG3.out (fun j hj => by cases hj; omega)⟩
end Go.Proofs.YtkflooljdopldaaGreat
